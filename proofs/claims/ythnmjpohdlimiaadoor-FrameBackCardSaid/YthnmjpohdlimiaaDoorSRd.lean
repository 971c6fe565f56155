/- What is known in the midst of (*cursor).does, as it reads. -/
import Derived.Test.YthnmjpohdlimiaaDoorAddrsR
namespace Go.Proofs.YthnmjpohdlimiaaDoor
open Go.RowKit

structure SRd (w0 w : World) (base c q hb : Nat) (F : Fr) (h : Has) (A : Option Addr) (k : Nat) (l : List UInt8) (f : Bool) : Prop where
  cr : CR w base c A k l f
  fb : FB w q F
  has : HB w hb h
  kept : Kept [c, q] w0 w
  n1 : hb ≠ c
  n2 : hb ≠ q
  n3 : q ≠ c
  bq : base ≤ q
  bs : base ≤ w.heap.size
namespace SRd
variable {w0 w w' : World} {base c q hb : Nat} {F : Fr} {h : Has} {A : Option Addr} {k : Nat} {l : List UInt8} {f : Bool}
theorem next {F' : Fr} {A' : Option Addr} {k' : Nat} {l' : List UInt8} {f' : Bool} (s : SRd w0 w base c q hb F h A k l f) (hC : CR w' base c A' k' l' f') (hF : FB w' q F') (hK : Kept [c, q] w w') : SRd w0 w' base c q hb F' h A' k' l' f' :=
  ⟨hC, hF, (hK.block hb (Array.getElem?_eq_some_iff.1 s.has).1 (by have := s.n1; have := s.n2; simp; omega)).trans s.has, s.kept.trans hK (fun _ _ hm => hm), s.n1, s.n2, s.n3, s.bq, Nat.le_trans s.bs hK.size⟩
theorem setq {w1 : World} (hk : Kept [c] w w1) {p : Addr} (hp : p.block = q) (u : Value) : Kept [c, q] w (w1.setCell p u) :=
  (hk.mono (T := [c, q]) fun _ _ hm => by simp at hm ⊢; exact .inl hm).setCell (fun _ => by simp [hp]) _
/-- Behind the ID. -/
theorem id (s : SRd w0 w base c q hb F h A k l f) (hr : Rawed w w' base c q 1 12 F.cells l f) :
    ∃ A' k', SRd w0 w' base c q hb { F with id := (rdTake l f 12).1 } h A' k' (rdTake l f 12).2.1 (rdTake l f 12).2.2 := by
  obtain ⟨w1, A', k', hk, hC, rfl⟩ := hr
  have hF1 := s.fb.kept hk (by simpa using s.n3)
  have hkq : Kept [q] w1 (w1.setRow q (F.cells.toList.take 1 ++ (bvs (rdTake l f 12).1 ++ F.cells.toList.drop (1 + 12))).toArray) :=
    ⟨rfl, rfl, rfl, by simp, fun j _ hj => setRow_other w1 q j _ (by simpa using hj)⟩
  refine ⟨A', k', s.next (hC.kept hkq (by simpa using fun e => s.n3 e.symm) (by simpa using s.bq)) ⟨?_, rdTake_length _ _ _, hF1.key⟩ ((hk.mono (T := [c, q]) fun _ _ hm => by simp at hm ⊢; exact .inl hm).trans hkq fun _ _ hm => by simp at hm ⊢; exact .inr hm)⟩
  rw [setRow_heap w1 q F.cells _ _ _ hF1.blk, Fr.set_id hF1.id _ (rdTake_length _ _ _)]
  rfl
/-- Behind the key. -/
theorem key (s : SRd w0 w base c q hb F h A k l f) (hr : Rawed w w' base c q 17 32 F.cells l f) :
    ∃ A' k', SRd w0 w' base c q hb { F with key := (rdTake l f 32).1 } h A' k' (rdTake l f 32).2.1 (rdTake l f 32).2.2 := by
  obtain ⟨w1, A', k', hk, hC, rfl⟩ := hr
  have hF1 := s.fb.kept hk (by simpa using s.n3)
  have hkq : Kept [q] w1 (w1.setRow q (F.cells.toList.take 17 ++ (bvs (rdTake l f 32).1 ++ F.cells.toList.drop (17 + 32))).toArray) :=
    ⟨rfl, rfl, rfl, by simp, fun j _ hj => setRow_other w1 q j _ (by simpa using hj)⟩
  refine ⟨A', k', s.next (hC.kept hkq (by simpa using fun e => s.n3 e.symm) (by simpa using s.bq)) ⟨?_, hF1.id, rdTake_length _ _ _⟩ ((hk.mono (T := [c, q]) fun _ _ hm => by simp at hm ⊢; exact .inl hm).trans hkq fun _ _ hm => by simp at hm ⊢; exact .inr hm)⟩
  rw [setRow_heap w1 q F.cells _ _ _ hF1.blk, Fr.set_key hF1.id hF1.key]
  rfl
/-- Behind the address. -/
theorem addr (s : SRd w0 w base c q hb F h A k l f) (hr : Addred w w' base c q 13 l f) :
    ∃ A' k', SRd w0 w' base c q hb { F with host := (rdAddr l f).1.1, port := (rdAddr l f).1.2 } h A' k' (rdAddr l f).2.1 (rdAddr l f).2.2 := by
  obtain ⟨w1, A', k', hk, hC, rfl⟩ := hr
  have hF1 := s.fb.kept hk (by simpa using s.n3)
  have hkq : Kept [q] w1 ((w1.setCell ⟨q, 13, none⟩ (.int .u32 (rdAddr l f).1.1)).setCell ⟨q, 13 + 1, none⟩ (.int .i64 (rdAddr l f).1.2)) := ((Kept.refl _ _).setCell (by simp) _).setCell (by simp) _
  refine ⟨A', k', s.next (hC.kept hkq (by simpa using fun e => s.n3 e.symm) (by simpa using s.bq)) ⟨?_, hF1.id, hF1.key⟩ ((hk.mono (T := [c, q]) fun _ _ hm => by simp at hm ⊢; exact .inl hm).trans hkq fun _ _ hm => by simp at hm ⊢; exact .inr hm)⟩
  have h1 := heap_setCell_same w1 q 13 _ _ (.int .u32 (rdAddr l f).1.1) hF1.blk
  rw [Fr.set_host hF1.id] at h1
  have h2 := heap_setCell_same _ q 14 _ _ (.int .i64 (rdAddr l f).1.2) h1
  rw [Fr.set_port (F := { F with host := (rdAddr l f).1.1 }) hF1.id] at h2
  exact h2
/-- Behind the number. -/
theorem num (s : SRd w0 w base c q hb F h A k l f) (hr : Numbered w w' base c q 16 8 false l f) :
    ∃ A' k', SRd w0 w' base c q hb { F with n := (getN (rdTake l f 8).1 0 8 false : Nat) } h A' k' (rdTake l f 8).2.1 (rdTake l f 8).2.2 := by
  obtain ⟨w1, A', k', hk, hC, rfl⟩ := hr
  have hF1 := s.fb.kept hk (by simpa using s.n3)
  have hkq : Kept [q] w1 (w1.setCell ⟨q, 16, none⟩ (.int .u64 (getN (rdTake l f 8).1 0 8 false))) := (Kept.refl _ _).setCell (by simp) _
  refine ⟨A', k', s.next (hC.kept hkq (by simpa using fun e => s.n3 e.symm) (by simpa using s.bq)) ⟨?_, hF1.id, hF1.key⟩ ((hk.mono (T := [c, q]) fun _ _ hm => by simp at hm ⊢; exact .inl hm).trans hkq fun _ _ hm => by simp at hm ⊢; exact .inr hm)⟩
  have h1 := heap_setCell_same w1 q 16 _ _ (.int .u64 (getN (rdTake l f 8).1 0 8 false)) hF1.blk
  rw [Fr.set_n hF1.id] at h1
  exact h1
end SRd

/-- What a frame that is read holds. -/
structure Read where
  id : List UInt8
  addr : Int × Int
  xs : List (Int × Int)
  n : Nat
  key : List UInt8
  rest : List UInt8
  fails : Bool
/-- A frame read, by what its kind has. -/
def rdDoes (h : Has) (l : List UInt8) : Read :=
  let s1 : List UInt8 × List UInt8 × Bool := if h.id then rdTake l false 12 else (List.replicate 12 0, l, false)
  let s2 : (Int × Int) × List UInt8 × Bool := if h.addr then rdAddr s1.2.1 s1.2.2 else ((0, 0), s1.2)
  let s3 : List (Int × Int) × List UInt8 × Bool := if h.addrs then rdAddrs s2.2.1 s2.2.2 else ([], s2.2)
  let s4 : Nat × List UInt8 × Bool := if h.n then (getN (rdTake s3.2.1 s3.2.2 8).1 0 8 false, (rdTake s3.2.1 s3.2.2 8).2) else (0, s3.2)
  let s5 : List UInt8 × List UInt8 × Bool := if h.key then rdTake s4.2.1 s4.2.2 32 else (List.replicate 32 0, s4.2)
  ⟨s1.1, s2.1, s3.1, s4.1, s5.1, s5.2.1, s5.2.2⟩
/-- The frame as it is when nothing has been read. -/
def Fr.new (K : Int) : Fr := ⟨K, List.replicate 12 0, 0, 0, .slice none 0 0, 0, List.replicate 32 0, .slice none 0 0⟩
/-- What (*cursor).does leaves, as it reads. -/
def DoneR (w w' : World) (base c q : Nat) (K : Int) (r : Read) : Prop :=
  ∃ A1 k1 A2 k2 A' k', FB w' q ⟨K, r.id, r.addr.1, r.addr.2, .slice A1 r.xs.length k1, r.n, r.key, .slice A2 r.rest.length k2⟩ ∧ Rd w' A1 (avs r.xs) ∧ Rd w' A2 (bvs r.rest) ∧ CR w' base c A' k' r.rest r.fails ∧ Kept [c, q] w w' ∧
    (∀ a, A1 = some a → w.heap.size ≤ a.block ∧ a.block < w'.heap.size) ∧ (∀ a, A2 = some a → w.heap.size ≤ a.block ∧ a.block < w'.heap.size) ∧ r.xs.length < 256
end Go.Proofs.YthnmjpohdlimiaaDoor
