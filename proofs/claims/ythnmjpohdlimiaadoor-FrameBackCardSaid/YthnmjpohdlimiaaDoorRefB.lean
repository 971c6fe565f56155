/- The document's frame: an address told and read. -/
import Derived.Test.YthnmjpohdlimiaaDoorRefA
namespace Go.Proofs.YthnmjpohdlimiaaDoor
open Go.RowKit

theorem getN_lt' (l : List UInt8) (a s : Nat) (big : Bool) (h : a + s ≤ l.length) : getN l a s big < 256 ^ s := by
  have := be_lt (ord l a s big)
  rwa [ord_length l a s big h] at this
theorem getN_cut (l : List UInt8) (a s : Nat) (big : Bool) : getN ((l.drop a).take s) 0 s big = getN l a s big := by
  unfold getN ord
  simp [List.take_take]
theorem refput_i (A : Option Addr) (c : Nat) (l : List UInt8) (m : Nat) (si : Int) (s n : Nat) (big : Bool) (w : World) (em : m = l.length) (e : si = (s : Int)) (hs : s ≤ 8) (hn : n < 18446744073709551616) (h5 : l.length + 8 ≤ 140737488355328) (hr : Rd w A (bvs l)) :
    Calls Tryd.prog 23 #[.slice A m c, .int .i64 si, .int .u64 n, .bool big] w fun x w' => ∃ v, x = .returned v ∧ w'.ownsRow w.heap.size 5 1 v (m + s) (bvs (l ++ encN n s big)) ∧ Kept [] w w' := by
  subst e
  subst em
  exact refput_nat A c l s n big w hs hn h5 hr
theorem refget_i (A : Option Addr) (c : Nat) (l : List UInt8) (a : Nat) (ai si : Int) (s : Nat) (big : Bool) (w : World) (ea : ai = (a : Int)) (es : si = (s : Int)) (h1 : 1 ≤ s) (h2 : s ≤ 8) (h4 : a + s ≤ l.length) (h5 : l.length ≤ 140737488355328)
    (hr : Rd w A (bvs l)) :
    Calls Tryd.prog 26 #[.slice A l.length c, .int .i64 ai, .int .i64 si, .bool big] w fun e w' => e = .returned (.tuple #[.int .u64 (getN l a s big), .bool true]) ∧ w = w' := by
  subst ea
  subst es
  exact refget_nat A c l a s big w h1 h2 h4 h5 hr
set_option maxHeartbeats 1000000 in
theorem refaddr_any (A : Option Addr) (c : Nat) (l : List UInt8) (h p : Int) (w : World) (h0 : 0 ≤ h) (h1 : h < 4294967296) (p0 : 0 ≤ p) (p1 : p < 65536) (h5 : l.length + 20 ≤ 140737488355328) (hr : Rd w A (bvs l)) :
    Calls Tryd.prog 22 #[.slice A l.length c, .agg #[.int .u32 h, .int .i64 p]] w fun x w' => ∃ v, x = .returned v ∧ w'.ownsRow w.heap.size 5 1 v (l.length + 6) (bvs (l ++ encA h p)) ∧ Kept [] w w' := by
  have hr0 := hr.alloc (.cells #[.int .u32 h, .int .i64 p] 26)
  have HR := Lib.hid hr0
  obtain ⟨hn, hh⟩ : ∃ hn : Nat, h = (hn : Int) := ⟨h.toNat, by omega⟩
  obtain ⟨pn, hp⟩ : ∃ pn : Nat, p = (pn : Int) := ⟨p.toNat, by omega⟩
  subst hh
  subst hp
  clear hr hr0
  have c0 : (w.alloc (.cells #[.int .u32 hn, .int .i64 pn] 26)).cell? ⟨w.heap.size, 0, none⟩ = some (.int .u32 hn) := by rw [World.cell?_alloc_at _ _ _ _ rfl]; rfl
  have c1 : (w.alloc (.cells #[.int .u32 hn, .int .i64 pn] 26)).cell? ⟨w.heap.size, 1, none⟩ = some (.int .i64 pn) := by rw [World.cell?_alloc_at _ _ _ _ rfl]; rfl
  have HC0 := Lib.hid c0; have HC1 := Lib.hid c1
  clear c0 c1
  have hw0 : IntKind.u64.wrap (hn : Int) = (hn : Int) := by rw [IntKind.wrap_u64]; omega
  have hw1 : IntKind.u64.wrap (pn : Int) = (pn : Int) := by rw [IntKind.wrap_u64]; omega
  go_enter Tryd.func22, Tryd.ntmps22
  go_wp2_with fail
  go_region_with (first
    | (go_at_call 23; (with_reducible refine (refput_i A c l _ 4 4 hn true _ rfl rfl (by decide) (by omega) (by omega) HR.out.drew).mono ?_); rintro x w1 ⟨v1, rfl, hown1, hk1⟩; obtain ⟨A1, k1, rfl⟩ := own_slice hown1; have hr1 := Lib.hid (Rd.of_own hown1); have d0 := (hk1.cell (p := ⟨w.heap.size, 0, none⟩) (by simp) (by simp)).trans HC0.out; have d1 := (hk1.cell (p := ⟨w.heap.size, 1, none⟩) (by simp) (by simp)).trans HC1.out; have hk1' := Lib.hid hk1; clear hown1 hk1)
    | (go_at_call 23; (with_reducible refine (refput_i A1 k1 (l ++ encN hn 4 true) _ 2 2 pn true _ (by rw [List.length_append, encN_length]) rfl (by decide) (by omega) (by rw [List.length_append, encN_length]; omega) hr1.out).mono ?_); rintro x w2 ⟨v2, rfl, hown2, hk2⟩; have hown2' := Lib.hid hown2; have hk2' := Lib.hid hk2; clear hown2 hk2))
  all_goals
    go_wp2
    go_ret
    refine ⟨_, rfl, ?_, ?_⟩
    · have h2 := own_base hown2'.out (show w.heap.size ≤ _ by have := hk1'.out.size; simp at this; omega)
      unfold encA
      rw [Int.toNat_natCast, Int.toNat_natCast, ← List.append_assoc]
      exact h2
    · exact (((Kept.refl [] w).alloc _).drew.trans hk1'.out (by simp)).trans hk2'.out (by simp)

theorem refplace_any (A : Option Addr) (c : Nat) (l : List UInt8) (a : Nat) (w : World) (h4 : a + 6 ≤ l.length) (h5 : l.length ≤ 140737488355328) (hr : Rd w A (bvs l)) :
    Calls Tryd.prog 25 #[.slice A l.length c, .int .i64 a] w fun x w' => x = .returned (.agg #[.int .u32 (getN l a 4 true), .int .i64 (getN l (a + 4) 2 true)]) ∧ Kept [] w w' := by
  have hr0 := hr.alloc (.cells #[.int .u32 0, .int .i64 0] 26)
  have HR := Lib.hid hr0
  clear hr hr0
  have l1 := getN_lt' l a 4 true (by omega)
  have l2 := getN_lt' l (a + 4) 2 true (by omega)
  simp only [Nat.reducePow] at l1 l2
  go_enter Tryd.func25, Tryd.ntmps25
  go_wp2_with fail
  refine (refget_i A c l a _ 4 4 true _ (by omega) rfl (by omega) (by omega) (by omega) h5 HR.out).mono ?_
  rintro x w1 ⟨rfl, rfl⟩
  go_wp2_with fail
  refine (refget_i A c l (a + 4) _ 2 2 true _ (by omega) rfl (by omega) (by omega) (by omega) h5 HR.out).mono ?_
  rintro x w1 ⟨rfl, rfl⟩
  go_wp2_with fail
  exact bodyPost_ret (v := .agg #[.int .u32 (getN l a 4 true), .int .i64 (getN l (a + 4) 2 true)]) (by simp [results, Tryd.results25, go_sem]) rfl ⟨rfl, (Kept.refl [] w).alloc _⟩
end Go.Proofs.YthnmjpohdlimiaaDoor
