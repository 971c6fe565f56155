/- frame.of: what a kind has, off the table of kinds. -/
import Derived.Test.YthnmjpohdlimiaaDoorRows
import Derived.Test.YthnmjpohdlimiaaDoorMem
import Derived.Laws.Rows
namespace Go.Proofs.YthnmjpohdlimiaaDoor
open Go.RowKit

/-- The table of kinds, row by row. -/
def kindTbl : List Bool := [false, false, false, false, false, false, true, false, false, false, false, false, true, true, false, false, false, false, false, false, true, false, false, false, false, false, false, false, false, true, false, false, false, false, false, true, false, false, false, false, false, true, false, false, false, true, false, true, false, false, false, false, true, false, false, true, false, false, false, false, false, false, false, false, true, true]
/-- The table lies where the program lays it. -/
def Laid (w : World) : Prop := 0 < w.heap.size ∧ ∀ j b, kindTbl[j]? = some b → w.cell? ⟨0, j, none⟩ = some (.bool b)
theorem Laid.kept {S : List Nat} {w w' : World} (h : Laid w) (hk : Kept S w w') (hS : 0 ∉ S) : Laid w' :=
  ⟨Nat.lt_of_lt_of_le h.1 hk.size, fun j b hb => (hk.cell (p := ⟨_, j, none⟩) h.1 hS).trans (h.2 j b hb)⟩
theorem Laid.new {w : World} (h : Laid w) (j : Nat) (b : Bool) (hj : kindTbl[j]? = some b) (o : Obj) : (w.alloc o).cell? ⟨0, j, none⟩ = some (.bool b) :=
  (h.kept ((Kept.refl [] w).alloc o) (by simp)).2 j b hj

structure Has where
  id : Bool
  addr : Bool
  addrs : Bool
  n : Bool
  key : Bool
  data : Bool
def Has.val (h : Has) : Value := .agg #[.bool h.id, .bool h.addr, .bool h.addrs, .bool h.n, .bool h.key, .bool h.data]
def hasOf (k : Int) : Has :=
  if k = 1 then ⟨true, false, false, false, false, false⟩
  else if k = 2 then ⟨true, true, false, false, false, false⟩
  else if k = 3 then ⟨false, false, true, false, false, false⟩
  else if k = 4 then ⟨false, false, false, false, false, true⟩
  else if k = 5 then ⟨false, false, false, false, false, true⟩
  else if k = 6 then ⟨false, false, false, false, false, true⟩
  else if k = 7 then ⟨false, false, false, true, false, true⟩
  else if k = 8 then ⟨false, false, false, false, true, false⟩
  else if k = 9 then ⟨false, true, false, false, false, false⟩
  else if k = 10 then ⟨false, false, false, false, true, true⟩
  else ⟨false, false, false, false, false, false⟩
def isKind (k : Int) : Bool := decide (1 ≤ k ∧ k ≤ 10)

theorem of_1 (w : World) (hL : Laid w) :
    Calls Tryd.prog 20 #[.int .i64 1] w fun e w' => e = .returned (.tuple #[(hasOf 1).val, .bool true]) ∧ Kept [] w w' := by
  have a0 := hL.new 6 true rfl
  have a1 := hL.new 7 false rfl
  have a2 := hL.new 8 false rfl
  have a3 := hL.new 9 false rfl
  have a4 := hL.new 10 false rfl
  have a5 := hL.new 11 false rfl
  go_enter Tryd.func20, Tryd.ntmps20
  go_wp2
  exact bodyPost_ret (v := .tuple #[(hasOf 1).val, .bool true]) (by simp [results, Tryd.results20, go_sem, Has.val, hasOf]) rfl ⟨rfl, ((Kept.refl [] w).alloc _)⟩

theorem of_2 (w : World) (hL : Laid w) :
    Calls Tryd.prog 20 #[.int .i64 2] w fun e w' => e = .returned (.tuple #[(hasOf 2).val, .bool true]) ∧ Kept [] w w' := by
  have a0 := hL.new 12 true rfl
  have a1 := hL.new 13 true rfl
  have a2 := hL.new 14 false rfl
  have a3 := hL.new 15 false rfl
  have a4 := hL.new 16 false rfl
  have a5 := hL.new 17 false rfl
  go_enter Tryd.func20, Tryd.ntmps20
  go_wp2
  exact bodyPost_ret (v := .tuple #[(hasOf 2).val, .bool true]) (by simp [results, Tryd.results20, go_sem, Has.val, hasOf]) rfl ⟨rfl, ((Kept.refl [] w).alloc _)⟩

theorem of_3 (w : World) (hL : Laid w) :
    Calls Tryd.prog 20 #[.int .i64 3] w fun e w' => e = .returned (.tuple #[(hasOf 3).val, .bool true]) ∧ Kept [] w w' := by
  have a0 := hL.new 18 false rfl
  have a1 := hL.new 19 false rfl
  have a2 := hL.new 20 true rfl
  have a3 := hL.new 21 false rfl
  have a4 := hL.new 22 false rfl
  have a5 := hL.new 23 false rfl
  go_enter Tryd.func20, Tryd.ntmps20
  go_wp2
  exact bodyPost_ret (v := .tuple #[(hasOf 3).val, .bool true]) (by simp [results, Tryd.results20, go_sem, Has.val, hasOf]) rfl ⟨rfl, ((Kept.refl [] w).alloc _)⟩

theorem of_4 (w : World) (hL : Laid w) :
    Calls Tryd.prog 20 #[.int .i64 4] w fun e w' => e = .returned (.tuple #[(hasOf 4).val, .bool true]) ∧ Kept [] w w' := by
  have a0 := hL.new 24 false rfl
  have a1 := hL.new 25 false rfl
  have a2 := hL.new 26 false rfl
  have a3 := hL.new 27 false rfl
  have a4 := hL.new 28 false rfl
  have a5 := hL.new 29 true rfl
  go_enter Tryd.func20, Tryd.ntmps20
  go_wp2
  exact bodyPost_ret (v := .tuple #[(hasOf 4).val, .bool true]) (by simp [results, Tryd.results20, go_sem, Has.val, hasOf]) rfl ⟨rfl, ((Kept.refl [] w).alloc _)⟩

theorem of_5 (w : World) (hL : Laid w) :
    Calls Tryd.prog 20 #[.int .i64 5] w fun e w' => e = .returned (.tuple #[(hasOf 5).val, .bool true]) ∧ Kept [] w w' := by
  have a0 := hL.new 30 false rfl
  have a1 := hL.new 31 false rfl
  have a2 := hL.new 32 false rfl
  have a3 := hL.new 33 false rfl
  have a4 := hL.new 34 false rfl
  have a5 := hL.new 35 true rfl
  go_enter Tryd.func20, Tryd.ntmps20
  go_wp2
  exact bodyPost_ret (v := .tuple #[(hasOf 5).val, .bool true]) (by simp [results, Tryd.results20, go_sem, Has.val, hasOf]) rfl ⟨rfl, ((Kept.refl [] w).alloc _)⟩

theorem of_6 (w : World) (hL : Laid w) :
    Calls Tryd.prog 20 #[.int .i64 6] w fun e w' => e = .returned (.tuple #[(hasOf 6).val, .bool true]) ∧ Kept [] w w' := by
  have a0 := hL.new 36 false rfl
  have a1 := hL.new 37 false rfl
  have a2 := hL.new 38 false rfl
  have a3 := hL.new 39 false rfl
  have a4 := hL.new 40 false rfl
  have a5 := hL.new 41 true rfl
  go_enter Tryd.func20, Tryd.ntmps20
  go_wp2
  exact bodyPost_ret (v := .tuple #[(hasOf 6).val, .bool true]) (by simp [results, Tryd.results20, go_sem, Has.val, hasOf]) rfl ⟨rfl, ((Kept.refl [] w).alloc _)⟩

theorem of_7 (w : World) (hL : Laid w) :
    Calls Tryd.prog 20 #[.int .i64 7] w fun e w' => e = .returned (.tuple #[(hasOf 7).val, .bool true]) ∧ Kept [] w w' := by
  have a0 := hL.new 42 false rfl
  have a1 := hL.new 43 false rfl
  have a2 := hL.new 44 false rfl
  have a3 := hL.new 45 true rfl
  have a4 := hL.new 46 false rfl
  have a5 := hL.new 47 true rfl
  go_enter Tryd.func20, Tryd.ntmps20
  go_wp2
  exact bodyPost_ret (v := .tuple #[(hasOf 7).val, .bool true]) (by simp [results, Tryd.results20, go_sem, Has.val, hasOf]) rfl ⟨rfl, ((Kept.refl [] w).alloc _)⟩

theorem of_8 (w : World) (hL : Laid w) :
    Calls Tryd.prog 20 #[.int .i64 8] w fun e w' => e = .returned (.tuple #[(hasOf 8).val, .bool true]) ∧ Kept [] w w' := by
  have a0 := hL.new 48 false rfl
  have a1 := hL.new 49 false rfl
  have a2 := hL.new 50 false rfl
  have a3 := hL.new 51 false rfl
  have a4 := hL.new 52 true rfl
  have a5 := hL.new 53 false rfl
  go_enter Tryd.func20, Tryd.ntmps20
  go_wp2
  exact bodyPost_ret (v := .tuple #[(hasOf 8).val, .bool true]) (by simp [results, Tryd.results20, go_sem, Has.val, hasOf]) rfl ⟨rfl, ((Kept.refl [] w).alloc _)⟩

theorem of_9 (w : World) (hL : Laid w) :
    Calls Tryd.prog 20 #[.int .i64 9] w fun e w' => e = .returned (.tuple #[(hasOf 9).val, .bool true]) ∧ Kept [] w w' := by
  have a0 := hL.new 54 false rfl
  have a1 := hL.new 55 true rfl
  have a2 := hL.new 56 false rfl
  have a3 := hL.new 57 false rfl
  have a4 := hL.new 58 false rfl
  have a5 := hL.new 59 false rfl
  go_enter Tryd.func20, Tryd.ntmps20
  go_wp2
  exact bodyPost_ret (v := .tuple #[(hasOf 9).val, .bool true]) (by simp [results, Tryd.results20, go_sem, Has.val, hasOf]) rfl ⟨rfl, ((Kept.refl [] w).alloc _)⟩

theorem of_10 (w : World) (hL : Laid w) :
    Calls Tryd.prog 20 #[.int .i64 10] w fun e w' => e = .returned (.tuple #[(hasOf 10).val, .bool true]) ∧ Kept [] w w' := by
  have a0 := hL.new 60 false rfl
  have a1 := hL.new 61 false rfl
  have a2 := hL.new 62 false rfl
  have a3 := hL.new 63 false rfl
  have a4 := hL.new 64 true rfl
  have a5 := hL.new 65 true rfl
  go_enter Tryd.func20, Tryd.ntmps20
  go_wp2
  exact bodyPost_ret (v := .tuple #[(hasOf 10).val, .bool true]) (by simp [results, Tryd.results20, go_sem, Has.val, hasOf]) rfl ⟨rfl, ((Kept.refl [] w).alloc _)⟩

theorem of_no (k : Int) (w : World) (h : k < 1 ∨ 10 < k) :
    Calls Tryd.prog 20 #[.int .i64 k] w fun e w' => e = .returned (.tuple #[.agg #[.bool false, .bool false, .bool false, .bool false, .bool false, .bool false], .bool false]) ∧ Kept [] w w' := by
  rcases h with h | h
  · go_enter Tryd.func20, Tryd.ntmps20
    go_wp2
    exact bodyPost_ret (v := .tuple #[.agg #[.bool false, .bool false, .bool false, .bool false, .bool false, .bool false], .bool false]) (by simp [results, Tryd.results20, go_sem]) rfl ⟨rfl, ((Kept.refl [] w).alloc _)⟩
  · have h' : 1 ≤ k := by omega
    go_enter Tryd.func20, Tryd.ntmps20
    go_wp2
    exact bodyPost_ret (v := .tuple #[.agg #[.bool false, .bool false, .bool false, .bool false, .bool false, .bool false], .bool false]) (by simp [results, Tryd.results20, go_sem]) rfl ⟨rfl, ((Kept.refl [] w).alloc _)⟩

/-- What a kind has, and whether it is one. -/
theorem of_any (k : Int) (w : World) (hL : Laid w) :
    Calls Tryd.prog 20 #[.int .i64 k] w fun e w' => e = .returned (.tuple #[(hasOf k).val, .bool (isKind k)]) ∧ Kept [] w w' := by
  by_cases h : 1 ≤ k ∧ k ≤ 10
  · have hi : isKind k = true := by simpa [isKind] using h
    rw [hi]
    rcases (show k = 1 ∨ k = 2 ∨ k = 3 ∨ k = 4 ∨ k = 5 ∨ k = 6 ∨ k = 7 ∨ k = 8 ∨ k = 9 ∨ k = 10 by omega) with rfl | rfl | rfl | rfl | rfl | rfl | rfl | rfl | rfl | rfl
    · exact of_1 w hL
    · exact of_2 w hL
    · exact of_3 w hL
    · exact of_4 w hL
    · exact of_5 w hL
    · exact of_6 w hL
    · exact of_7 w hL
    · exact of_8 w hL
    · exact of_9 w hL
    · exact of_10 w hL
  · have hi : isKind k = false := by simpa [isKind] using h
    have hh : hasOf k = ⟨false, false, false, false, false, false⟩ := by
      unfold hasOf
      rw [if_neg (by omega), if_neg (by omega), if_neg (by omega), if_neg (by omega), if_neg (by omega), if_neg (by omega), if_neg (by omega), if_neg (by omega), if_neg (by omega), if_neg (by omega)]
    rw [hi, hh]
    exact of_no k w (by omega)
end Go.Proofs.YthnmjpohdlimiaaDoor
