/- A frame in memory: its fifty cells; what it is told as. -/
import Derived.Test.YthnmjpohdlimiaaDoorCurW
import Derived.Test.YthnmjpohdlimiaaDoorOf
namespace Go.Proofs.YthnmjpohdlimiaaDoor
open Go.RowKit

/-- A frame's fields; the slices as values. -/
structure Fr where
  kind : Int
  id : List UInt8
  host : Int
  port : Int
  sa : Value
  n : Int
  key : List UInt8
  sd : Value
def Fr.list (F : Fr) : List Value := .int .i64 F.kind :: (bvs F.id ++ (.int .u32 F.host :: .int .i64 F.port :: F.sa :: .int .u64 F.n :: (bvs F.key ++ [F.sd])))
def Fr.cells (F : Fr) : Array Value := F.list.toArray
/-- A block that holds a frame. -/
structure FB (w : World) (q : Nat) (F : Fr) : Prop where
  blk : w.heap[q]? = some (.cells F.cells 33 (0, 0))
  id : F.id.length = 12
  key : F.key.length = 32
theorem Fr.size {F : Fr} (hi : F.id.length = 12) (hk : F.key.length = 32) : F.cells.size = 50 := by simp [Fr.cells, Fr.list, hi, hk]
theorem Fr.get_kind {F : Fr} (_hi : F.id.length = 12) (_hk : F.key.length = 32) : F.cells[0]? = some (.int .i64 F.kind) := by simp [Fr.cells, Fr.list]
theorem Fr.get_id {F : Fr} (hi : F.id.length = 12) (_hk : F.key.length = 32) (j : Nat) (h : j < 12) : F.cells[1 + j]? = (bvs F.id)[j]? := by
  simp only [Fr.cells, Fr.list, List.getElem?_toArray, Nat.add_comm 1 j, List.getElem?_cons_succ]
  rw [List.getElem?_append_left (by simp; omega)]
theorem Fr.get_tail {F : Fr} (hi : F.id.length = 12) (_hk : F.key.length = 32) (j : Nat) : F.cells[13 + j]? = (.int .u32 F.host :: .int .i64 F.port :: F.sa :: .int .u64 F.n :: (bvs F.key ++ [F.sd]))[j]? := by
  simp only [Fr.cells, Fr.list, List.getElem?_toArray, show 13 + j = 12 + j + 1 by omega, List.getElem?_cons_succ]
  rw [List.getElem?_append_right (by simp; omega)]
  simp [hi]
theorem Fr.get_host {F : Fr} (hi : F.id.length = 12) (hk : F.key.length = 32) : F.cells[13]? = some (.int .u32 F.host) := (Fr.get_tail hi hk 0).trans rfl
theorem Fr.get_port {F : Fr} (hi : F.id.length = 12) (hk : F.key.length = 32) : F.cells[14]? = some (.int .i64 F.port) := (Fr.get_tail hi hk 1).trans rfl
theorem Fr.get_sa {F : Fr} (hi : F.id.length = 12) (hk : F.key.length = 32) : F.cells[15]? = some F.sa := (Fr.get_tail hi hk 2).trans rfl
theorem Fr.get_n {F : Fr} (hi : F.id.length = 12) (hk : F.key.length = 32) : F.cells[16]? = some (.int .u64 F.n) := (Fr.get_tail hi hk 3).trans rfl
theorem Fr.get_key {F : Fr} (hi : F.id.length = 12) (hk : F.key.length = 32) (j : Nat) (h : j < 32) : F.cells[17 + j]? = (bvs F.key)[j]? := by
  rw [show 17 + j = 13 + (4 + j) by omega, Fr.get_tail hi hk]
  rw [show 4 + j = j + 1 + 1 + 1 + 1 by omega]
  simp only [List.getElem?_cons_succ]
  rw [List.getElem?_append_left (by simp; omega)]
theorem Fr.get_sd {F : Fr} (hi : F.id.length = 12) (hk : F.key.length = 32) : F.cells[49]? = some F.sd := by
  rw [show 49 = 13 + (32 + 1 + 1 + 1 + 1) by omega, Fr.get_tail hi hk]
  simp only [List.getElem?_cons_succ]
  rw [List.getElem?_append_right (by simp [hk])]
  simp [hk]
namespace FB
variable {w w' : World} {q : Nat} {F : Fr}
theorem cell (h : FB w q F) (j : Nat) : w.cell? ⟨q, j, none⟩ = F.cells[j]? := cell_of_row _ _ _ _ _ _ h.blk
theorem frozen (h : FB w q F) (j : Nat) : w.frozen? ⟨q, j, none⟩ = false := frozen_of_row _ _ _ _ _ h.blk
theorem lt (h : FB w q F) : q < w.heap.size := (Array.getElem?_eq_some_iff.1 h.blk).1
theorem kind (h : FB w q F) : w.cell? ⟨q, 0, none⟩ = some (.int .i64 F.kind) := (h.cell 0).trans (Fr.get_kind h.id h.key)
theorem host (h : FB w q F) : w.cell? ⟨q, 13, none⟩ = some (.int .u32 F.host) := (h.cell _).trans (Fr.get_host h.id h.key)
theorem port (h : FB w q F) : w.cell? ⟨q, 14, none⟩ = some (.int .i64 F.port) := (h.cell _).trans (Fr.get_port h.id h.key)
theorem sa (h : FB w q F) : w.cell? ⟨q, 15, none⟩ = some F.sa := (h.cell _).trans (Fr.get_sa h.id h.key)
theorem n (h : FB w q F) : w.cell? ⟨q, 16, none⟩ = some (.int .u64 F.n) := (h.cell _).trans (Fr.get_n h.id h.key)
theorem sd (h : FB w q F) : w.cell? ⟨q, 49, none⟩ = some F.sd := (h.cell _).trans (Fr.get_sd h.id h.key)
theorem idRd (h : FB w q F) : Rd w (some ⟨q, 1, none⟩) (bvs F.id) := fun _ => ⟨q, 1, rfl, h.lt, fun j u hu => by
  have hj : j < 12 := by
    obtain ⟨h1, _⟩ := List.getElem?_eq_some_iff.1 hu
    simpa [h.id] using h1
  rw [h.cell, Fr.get_id h.id h.key j hj]; exact hu⟩
theorem keyRd (h : FB w q F) : Rd w (some ⟨q, 17, none⟩) (bvs F.key) := fun _ => ⟨q, 17, rfl, h.lt, fun j u hu => by
  have hj : j < 32 := by
    obtain ⟨h1, _⟩ := List.getElem?_eq_some_iff.1 hu
    simpa [h.key] using h1
  rw [h.cell, Fr.get_key h.id h.key j hj]; exact hu⟩
theorem kept {S : List Nat} (h : FB w q F) (hk : Kept S w w') (hq : q ∉ S) : FB w' q F := ⟨(hk.block q h.lt hq).trans h.blk, h.id, h.key⟩
end FB

/-- Blocks of other types than a cursor's are not a cursor's. -/
theorem cw_apart {w : World} {base c q : Nat} {v : Value} {l : List UInt8} {cs : Array Value} {t : TypeId} (h : CW w base c v l) (hq : w.heap[q]? = some (.cells cs t (0, 0)))
    (h1 : t ≠ 62) (h2 : t ≠ 5) : q ∉ c :: v.ownBlock.toList := fun hm => by
  rcases List.mem_cons.1 hm with rfl | hm
  · have := h.blk
    rw [hq] at this
    injection this with this
    injection this with _ ht
    exact h1 ht
  · have hv : v.ownBlock = some q := by simpa using hm
    rcases own_form h.own with ⟨rfl, _⟩ | ⟨g, cap, cur, rfl, _, _, hg, _⟩
    · simp [Value.ownBlock] at hv
    · simp [Value.ownBlock] at hv
      subst hv
      rw [hq] at hg
      injection hg with hg
      injection hg with _ ht
      exact h2 ht
theorem blk_moved {w w' : World} {base c q : Nat} {v v' : Value} {l : List UInt8} {cs : Array Value} {t : TypeId} (h : CW w base c v l) (hM : Moved c w w' v v') (hq : w.heap[q]? = some (.cells cs t (0, 0)))
    (h1 : t ≠ 62) (h2 : t ≠ 5) : w'.heap[q]? = some (.cells cs t (0, 0)) :=
  (hM.kept.block q (Array.getElem?_eq_some_iff.1 hq).1 (cw_apart h hq h1 h2)).trans hq
theorem FB.moved {w w' : World} {base c q : Nat} {v v' : Value} {l : List UInt8} {F : Fr} (hF : FB w q F) (h : CW w base c v l) (hM : Moved c w w' v v') : FB w' q F :=
  ⟨blk_moved h hM hF.blk (by decide) (by decide), hF.id, hF.key⟩

/-- The block of what a kind has. -/
def HB (w : World) (q : Nat) (h : Has) : Prop := w.heap[q]? = some (.cells #[.bool h.id, .bool h.addr, .bool h.addrs, .bool h.n, .bool h.key, .bool h.data] 55 (0, 0))
theorem HB.cells {w : World} {q : Nat} {h : Has} (hb : HB w q h) : w.cell? ⟨q, 0, none⟩ = some (.bool h.id) ∧ w.cell? ⟨q, 1, none⟩ = some (.bool h.addr) ∧ w.cell? ⟨q, 2, none⟩ = some (.bool h.addrs) ∧
    w.cell? ⟨q, 3, none⟩ = some (.bool h.n) ∧ w.cell? ⟨q, 4, none⟩ = some (.bool h.key) ∧ w.cell? ⟨q, 5, none⟩ = some (.bool h.data) :=
  ⟨cell_of_row _ _ _ _ _ _ hb, cell_of_row _ _ _ _ _ _ hb, cell_of_row _ _ _ _ _ _ hb, cell_of_row _ _ _ _ _ _ hb, cell_of_row _ _ _ _ _ _ hb, cell_of_row _ _ _ _ _ _ hb⟩
theorem HB.moved {w w' : World} {base c q : Nat} {v v' : Value} {l : List UInt8} {h : Has} (hb : HB w q h) (hc : CW w base c v l) (hM : Moved c w w' v v') : HB w' q h :=
  blk_moved hc hM hb (by decide) (by decide)

/-- What is known in the midst of (*cursor).does, as it writes. -/
structure SW (w0 w : World) (base c q hb : Nat) (F : Fr) (h : Has) (v0 v : Value) (l : List UInt8) : Prop where
  cw : CW w base c v l
  fb : FB w q F
  hb : HB w hb h
  mv : Moved c w0 w v0 v
theorem SW.next {w0 w w' : World} {base c q hb : Nat} {F : Fr} {h : Has} {v0 v v' : Value} {l l' : List UInt8} (s : SW w0 w base c q hb F h v0 v l) (hC : CW w' base c v' l') (hM : Moved c w w' v v') :
    SW w0 w' base c q hb F h v0 v' l' := ⟨hC, s.fb.moved s.cw hM, s.hb.moved s.cw hM, s.mv.trans hM⟩
/-- Where a slice of the caller's reads, it still does. -/
theorem rd_moved {w w' : World} {base c : Nat} {v v' : Value} {l : List UInt8} {A : Option Addr} {xs : List Value} (h : CW w base c v l) (hc : base ≤ c) (hM : Moved c w w' v v') (hr : Rd w A xs) (hA : ∀ a, A = some a → a.block < base) : Rd w' A xs :=
  hr.kept hM.kept fun a e _ hm => by
    have := hA a e
    rcases List.mem_cons.1 hm with e' | hm
    · omega
    · have := (h.own.lt a.block (by simpa using hm)).1
      omega
theorem apart_of {w : World} {base c : Nat} {v : Value} {l : List UInt8} {A : Option Addr} (h : CW w base c v l) (hc : base ≤ c) (hA : ∀ a, A = some a → a.block < base) : ∀ a, A = some a → a.block ∉ c :: v.ownBlock.toList := fun a e hm => by
  have := hA a e
  rcases List.mem_cons.1 hm with e' | hm
  · omega
  · have := (h.own.lt a.block (by simpa using hm)).1
    omega

/-- What of a frame is told before its data. -/
def encH (F : Fr) (xs : List (Int × Int)) : List UInt8 :=
  (if (hasOf F.kind).id then F.id else []) ++ (if (hasOf F.kind).addr then encA F.host F.port else []) ++ (if (hasOf F.kind).addrs then encN xs.length 1 true ++ encAs xs else []) ++
    (if (hasOf F.kind).n then encN F.n.toNat 8 false else []) ++ (if (hasOf F.kind).key then F.key else [])
end Go.Proofs.YthnmjpohdlimiaaDoor
