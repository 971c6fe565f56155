/- The cursor of package frame as it reads. -/
import Derived.Test.YthnmjpohdlimiaaDoorGet
import Derived.Test.YthnmjpohdlimiaaDoorFr
import Derived.Laws.CopyOwn
namespace Go.Proofs.YthnmjpohdlimiaaDoor
open Go.RowKit

/-- A cursor that reads: its bytes are the caller's; 'fails': there were too few. -/
structure CR (w : World) (base c : Nat) (A : Option Addr) (k : Nat) (l : List UInt8) (f : Bool) : Prop where
  blk : w.heap[c]? = some (.cells #[.slice A l.length k, .bool true, .bool f] 62 (0, 0))
  rd : Rd w A (bvs l)
  cap : l.length ≤ k
  top : k ≤ maxLen
  old : ∀ a, A = some a → a.block < base
  lo : base ≤ c
/-- The next bytes, what is left, and whether there were too few. -/
def rdTake (l : List UInt8) (f : Bool) (n : Nat) : List UInt8 × List UInt8 × Bool := if n ≤ l.length then (l.take n, l.drop n, f) else (List.replicate n 0, l, true)
theorem rdTake_length (l : List UInt8) (f : Bool) (n : Nat) : (rdTake l f n).1.length = n := by
  unfold rdTake; split <;> simp; omega
theorem CR.cell {w : World} {base c : Nat} {A : Option Addr} {k : Nat} {l : List UInt8} {f : Bool} (h : CR w base c A k l f) : w.cell? ⟨c, 0, none⟩ = some (.slice A l.length k) ∧ w.cell? ⟨c, 1, none⟩ = some (.bool true) ∧ w.cell? ⟨c, 2, none⟩ = some (.bool f) ∧
    w.frozen? ⟨c, 0, none⟩ = false ∧ w.frozen? ⟨c, 2, none⟩ = false :=
  ⟨cell_of_row _ _ _ _ _ _ h.blk, cell_of_row _ _ _ _ _ _ h.blk, cell_of_row _ _ _ _ _ _ h.blk, frozen_of_row _ _ _ _ _ h.blk, frozen_of_row _ _ _ _ _ h.blk⟩
theorem CR.lt {w : World} {base c : Nat} {A : Option Addr} {k : Nat} {l : List UInt8} {f : Bool} (h : CR w base c A k l f) : c < w.heap.size := (Array.getElem?_eq_some_iff.1 h.blk).1
theorem CR.kept {S : List Nat} {w w' : World} {base c : Nat} {A : Option Addr} {k : Nat} {l : List UInt8} {f : Bool} (h : CR w base c A k l f) (hk : Kept S w w') (hc : c ∉ S) (hS : ∀ j, j ∈ S → base ≤ j) : CR w' base c A k l f :=
  ⟨(hk.block c h.lt hc).trans h.blk, h.rd.kept hk fun a e _ hm => by have := h.old a e; have := hS _ hm; omega, h.cap, h.top, h.old, h.lo⟩

/-- The cursor behind some bytes. -/
theorem cr_take {w : World} {base c b off off' k : Nat} {l : List UInt8} {f : Bool} (h : CR w base c (some ⟨b, off, none⟩) k l f) (n : Nat) (hn : n ≤ l.length) (ho : off' = off + n ∨ k = n) :
    CR (w.setCell ⟨c, 0, none⟩ (.slice (some ⟨b, off', none⟩) (l.length - n) (k - n))) base c (some ⟨b, off', none⟩) (k - n) (l.drop n) f ∧ Kept [c] w (w.setCell ⟨c, 0, none⟩ (.slice (some ⟨b, off', none⟩) (l.length - n) (k - n))) ∧
      Rd (w.setCell ⟨c, 0, none⟩ (.slice (some ⟨b, off', none⟩) (l.length - n) (k - n))) (some ⟨b, off, none⟩) (bvs (l.take n)) := by
  have hbc : b < base := h.old ⟨b, off, none⟩ rfl
  have hcc := h.lo
  have hcap := h.cap
  have htop := h.top
  have hk : Kept [c] w (w.setCell ⟨c, 0, none⟩ (.slice (some ⟨b, off', none⟩) (l.length - n) (k - n))) := (Kept.refl _ _).setCell (by simp) _
  have hr := h.rd.kept hk (fun a e _ hm => by injection e with e; subst e; simp at hm; omega)
  refine ⟨⟨?_, ?_, by simp; omega, by unfold maxLen at *; omega, fun a e => by injection e with e; subst e; exact hbc, hcc⟩, hk, ?_⟩
  · rw [List.length_drop]
    exact heap_setCell_same w c 0 _ _ _ h.blk
  · have hd := hr.drop n (c := l.length) (by rw [bvs_length]; exact Nat.le_refl _)
    rw [bvs_drop] at hd
    rcases ho with rfl | rfl
    · rcases Nat.lt_or_ge n l.length with hlt | hge
      · rw [if_neg (by omega)] at hd
        have e : (some (⟨b, off, none⟩ : Addr)).map (·.add n) = some ⟨b, off + n, none⟩ := by simp [add_lit']
        rw [e] at hd
        exact hd
      · rw [List.drop_eq_nil_of_le hge]
        exact Rd.nil
    · rw [List.drop_eq_nil_of_le (by omega)]
      exact Rd.nil
  · have := hr.take n
    rw [bvs_take] at this
    exact this

/-- What take leaves. -/
def Took (w w' : World) (base c n : Nat) (l : List UInt8) (f : Bool) (x : Ending) : Prop :=
  ∃ A2 k2 A' k', x = .returned (.slice A2 n k2) ∧ Rd w' A2 (bvs (rdTake l f n).1) ∧ CR w' base c A' k' (rdTake l f n).2.1 (rdTake l f n).2.2 ∧ Kept [c] w w'

theorem Took.mk {w w' : World} {base c n : Nat} {l t r : List UInt8} {f g : Bool} {A2 A' : Option Addr} {k2 k' : Nat} (he : rdTake l f n = (t, r, g)) (hR : Rd w' A2 (bvs t)) (hC : CR w' base c A' k' r g) (hK : Kept [c] w w') :
    Took w w' base c n l f (.returned (.slice A2 n k2)) := ⟨A2, k2, A', k', rfl, by rw [he]; exact hR, by rw [he]; exact hC, hK⟩

set_option maxHeartbeats 1000000 in
/-- (*cursor).take, where there are as many. -/
theorem take_yes (base c : Nat) (A : Option Addr) (k : Nat) (l : List UInt8) (f : Bool) (n : Nat) (w : World) (h : CR w base c A k l f) (h0 : 0 < n) (hn : n ≤ l.length) :
    Calls Tryd.prog 32 #[.pointer (some ⟨c, 0, none⟩), .int .i64 n] w fun x w' => Took w w' base c n l f x := by
  obtain ⟨c0, c1, c2, f0, _⟩ := h.cell
  have htop := h.top
  have hcap := h.cap
  unfold maxLen at htop
  obtain ⟨b, off, rfl, hbl, _⟩ := h.rd.at_ (k := 0) (by rw [bvs_length]; omega)
  have HT := Lib.hid (show rdTake l f n = (l.take n, l.drop n, f) from by unfold rdTake; rw [if_pos hn])
  by_cases hkn : k = n
  · have HC := Lib.hid (cr_take (off' := off) h n hn (.inr hkn))
    subst hkn
    clear h
    go_enter Tryd.func32, Tryd.ntmps32
    go_wp2
    go_ret
    have HC' := HC.out
    rw [show l.length - k = 0 by omega, show k - k = 0 by omega] at HC'
    obtain ⟨hC, hK, hR⟩ := HC'
    exact Took.mk HT.out hR hC hK
  · have HC := Lib.hid (cr_take (off' := off + n) h n hn (.inl rfl))
    clear h
    go_enter Tryd.func32, Tryd.ntmps32
    go_wp2
    go_ret
    obtain ⟨hC, hK, hR⟩ := HC.out
    exact Took.mk HT.out hR hC hK

set_option maxHeartbeats 1000000 in
/-- .. where there are too few. -/
theorem take_no (base c : Nat) (A : Option Addr) (k : Nat) (l : List UInt8) (f : Bool) (n : Nat) (w : World) (h : CR w base c A k l f) (hb : base ≤ w.heap.size) (hs : n ≤ 100000) (hn : l.length < n) :
    Calls Tryd.prog 32 #[.pointer (some ⟨c, 0, none⟩), .int .i64 n] w fun x w' => Took w w' base c n l f x := by
  obtain ⟨i0, hi, hz0, hz1, hz2⟩ := info_parts info_byte
  obtain ⟨c0, c1, c2, f0, f2⟩ := h.cell
  have HT := Lib.hid (show rdTake l f n = (List.replicate n 0, l, true) from by unfold rdTake; rw [if_neg (by omega)])
  have hk0 : Kept [c] w (w.setCell ⟨c, 2, none⟩ (.bool true)) := (Kept.refl _ _).setCell (by simp) _
  have hC0 : CR (w.setCell ⟨c, 2, none⟩ (.bool true)) base c A k l true :=
    ⟨heap_setCell_same w c 2 _ _ _ h.blk, h.rd.kept hk0 fun a e _ hm => (by have := h.old a e; have := h.lo; simp at hm; omega), h.cap, h.top, h.old, h.lo⟩
  have HC0 := Lib.hid hC0
  have HK0 := Lib.hid hk0
  clear h hC0 hk0
  go_enter Tryd.func32, Tryd.ntmps32
  go_wp2_with (with_reducible show wpList _ _ _ (⟨some 17, _, _, _, _, _⟩ :: _) _ _; refine wpList_make_full _ rfl _ _ 31 rfl base 5 i0 (.int .u8 0) 1 Tryd.underlying31 hi hz0 hz1 .i64 .i64 _ _ n rfl rfl rfl rfl (by rw [hz2]; omega) (by unfold maxLen; omega) (by have := HK0.out.size; omega) ?_)
  intro w1 hown1 hg1
  rw [toList_madeCells_one] at hown1
  have hk1 : Kept [] (w.setCell ⟨c, 2, none⟩ (.bool true)) w1 := (Kept.refl [] _).grown hg1 (by simp)
  have HC1 := Lib.hid (HC0.out.kept hk1 (by simp) (by simp))
  have HK1 := Lib.hid (HK0.out.trans hk1 (by simp))
  have HR1 := Lib.hid (show Rd w1 (some ⟨_, 0, none⟩) (bvs (List.replicate n 0)) from by rw [← bvs_zeros]; exact Rd.of_own hown1)
  clear hown1 hg1 hk1
  go_wp2
  go_ret
  exact Took.mk HT.out HR1.out HC1.out HK1.out

/-- (*cursor).take. -/
theorem take_any (base c : Nat) (A : Option Addr) (k : Nat) (l : List UInt8) (f : Bool) (n : Nat) (w : World) (h : CR w base c A k l f) (hb : base ≤ w.heap.size) (h0 : 0 < n) (hs : n ≤ 100000) :
    Calls Tryd.prog 32 #[.pointer (some ⟨c, 0, none⟩), .int .i64 n] w fun x w' => Took w w' base c n l f x := by
  by_cases hn : n ≤ l.length
  · exact take_yes base c A k l f n w h h0 hn
  · exact take_no base c A k l f n w h hb hs (by omega)

/-- What number leaves: a number in its place, the cursor behind it. -/
def Numbered (w w' : World) (base c p o s : Nat) (big : Bool) (l : List UInt8) (f : Bool) : Prop :=
  ∃ w1 A' k', Kept [c] w w1 ∧ CR w1 base c A' k' (rdTake l f s).2.1 (rdTake l f s).2.2 ∧ w' = w1.setCell ⟨p, o, none⟩ (.int .u64 (getN (rdTake l f s).1 0 s big))

set_option maxHeartbeats 1000000 in
/-- (*cursor).number, as it reads. -/
theorem number_r (base c p o : Nat) (s x0 : Int) (big : Bool) (A : Option Addr) (k : Nat) (l : List UInt8) (f : Bool) (w : World) (h : CR w base c A k l f) (hb : base ≤ w.heap.size) (hp : w.cell? ⟨p, o, none⟩ = some (.int .u64 x0)) (hf : w.frozen? ⟨p, o, none⟩ = false) (hpc : p ≠ c)
    (h0 : 1 ≤ s) (hs : s ≤ 8) :
    Calls Tryd.prog 30 #[.pointer (some ⟨c, 0, none⟩), .int .i64 s, .pointer (some ⟨p, o, none⟩), .bool big] w fun x w' => x = .returned (.tuple #[]) ∧ Numbered w w' base c p o s.toNat big l f := by
  obtain ⟨s, rfl⟩ := Int.eq_ofNat_of_zero_le (a := s) (by omega)
  rw [Int.toNat_natCast]
  obtain ⟨c0, c1, c2, f0, f2⟩ := h.cell
  have hplt := lt_of_cell hp
  have H := Lib.hid h
  clear h
  go_enter Tryd.func30, Tryd.ntmps30
  go_wp2_with fail
  refine (take_any base c A k l f s w H.out hb (by omega) (by omega)).mono ?_
  rintro x w1 ⟨A2, k2, A', k', rfl, hR, hC, hK⟩
  have d0 := (hK.cell (p := ⟨p, o, none⟩) hplt (by simpa using hpc)).trans hp
  have d1 := (hK.frozen (p := ⟨p, o, none⟩) hplt (by simpa using hpc)).trans hf
  have HR := Lib.hid hR; have HC := Lib.hid hC; have HK := Lib.hid hK
  clear hR hC hK
  go_wp2_with fail
  refine (get_len A2 k2 s (rdTake l f s).1 0 s big w1 (rdTake_length _ _ _) (by omega) (by omega) (by omega) (by omega) (by omega) HR.out).mono ?_
  rintro x w2 ⟨rfl, rfl⟩
  go_wp2
  refine bodyPost_ret (results_none rfl _ _ _) rfl ?_
  exact ⟨rfl, w1, A', k', HK.out, HC.out, by simp⟩

/-- What raw leaves: bytes in a block, the cursor behind them. -/
def Rawed (w w' : World) (base c q o m : Nat) (cur : Array Value) (l : List UInt8) (f : Bool) : Prop :=
  ∃ w1 A' k', Kept [c] w w1 ∧ CR w1 base c A' k' (rdTake l f m).2.1 (rdTake l f m).2.2 ∧ w' = w1.setRow q (cur.toList.take o ++ (bvs (rdTake l f m).1 ++ cur.toList.drop (o + m))).toArray

theorem size_byte : (Tryd.prog.info? 5).map (·.size) = some 1 := by kernel_rfl

set_option maxHeartbeats 1000000 in
/-- (*cursor).raw, as it reads. -/
theorem raw_r (base c q o m mc : Nat) (cur : Array Value) (t : TypeId) (A : Option Addr) (k : Nat) (l : List UInt8) (f : Bool) (w : World) (h : CR w base c A k l f) (hb : base ≤ w.heap.size) (hq : w.heap[q]? = some (.cells cur t (0, 0))) (hqc : q ≠ c)
    (h0 : 0 < m) (hs : m ≤ 100000) (hm : o + m ≤ cur.size) :
    Calls Tryd.prog 27 #[.pointer (some ⟨c, 0, none⟩), .slice (some ⟨q, o, none⟩) m mc] w fun x w' => x = .returned (.tuple #[]) ∧ Rawed w w' base c q o m cur l f := by
  obtain ⟨c0, c1, c2, f0, f2⟩ := h.cell
  have hqlt : q < w.heap.size := (Array.getElem?_eq_some_iff.1 hq).1
  have H := Lib.hid h; have HQ := Lib.hid hq; have HM := Lib.hid hm
  clear h hq hm
  go_enter Tryd.func27, Tryd.ntmps27
  go_wp2_with fail
  refine (take_any base c A k l f m w H.out hb h0 hs).mono ?_
  rintro x w1 ⟨A2, k2, A', k', rfl, hR, hC, hK⟩
  have hlen := rdTake_length l f m
  obtain ⟨b2, o2, rfl, _, _⟩ := hR.at_ (k := 0) (by rw [bvs_length, hlen]; exact h0)
  have HQ1 := Lib.hid ((hK.block q hqlt (by simpa using hqc)).trans HQ.out)
  have HR := Lib.hid hR; have HC := Lib.hid hC; have HK := Lib.hid hK; have HL := Lib.hid hlen
  clear hR hC hK hlen
  go_wp2_with (with_reducible show wpList _ _ _ (⟨some 13, _, _, _, _, _⟩ :: _) _ _; refine wpList_copy_own rfl (.tmp 8) (.tmp 12) 31 31 rfl 5 Tryd.underlying31 size_byte q o m mc ⟨b2, o2, none⟩ m k2 rfl rfl cur t HQ1.out (bvs (rdTake l f m).1) (by rw [bvs_length, HL.out]; simp) HR.out.some_add (by rw [bvs_length, HL.out]; exact HM.out) (bvs_one _) ?_)
  refine bodyPost_ret (results_none rfl _ _ _) rfl ?_
  refine ⟨rfl, w1, A', k', HK.out, HC.out, ?_⟩
  rw [bvs_length, HL.out]

/-- What number leaves, in facts. -/
theorem Numbered.facts {w w' : World} {base c p o s : Nat} {big : Bool} {l : List UInt8} {f : Bool} {x0 : Value} (h : Numbered w w' base c p o s big l f) (hpc : p ≠ c) (_hlo : base ≤ c) (hbp : base ≤ p) (hp : w.cell? ⟨p, o, none⟩ = some x0) :
    ∃ A' k', CR w' base c A' k' (rdTake l f s).2.1 (rdTake l f s).2.2 ∧ Kept [c, p] w w' ∧ w'.cell? ⟨p, o, none⟩ = some (.int .u64 (getN (rdTake l f s).1 0 s big)) := by
  obtain ⟨w1, A', k', hk, hC, rfl⟩ := h
  have hplt := lt_of_cell hp
  refine ⟨A', k', hC.kept (S := [p]) ((Kept.refl _ _).setCell (by simp) _) (by simpa using fun e => hpc e.symm) (by simpa using hbp), ?_, ?_⟩
  · exact (hk.mono fun j _ hj => by simp at hj ⊢; exact .inl hj).setCell (by simp) _
  · have h1 := (hk.cell (p := ⟨p, o, none⟩) hplt (by simpa using hpc)).trans hp
    exact World.cell?_setCell_same _ _ _ h1
/-- An address read. -/
def rdAddr (l : List UInt8) (f : Bool) : (Int × Int) × List UInt8 × Bool :=
  ((getN (rdTake l f 4).1 0 4 true, getN (rdTake (rdTake l f 4).2.1 (rdTake l f 4).2.2 2).1 0 2 true), (rdTake (rdTake l f 4).2.1 (rdTake l f 4).2.2 2).2)
/-- What addr leaves: a host and a port in their place, the cursor behind them. -/
def Addred (w w' : World) (base c p o : Nat) (l : List UInt8) (f : Bool) : Prop :=
  ∃ w1 A' k', Kept [c] w w1 ∧ CR w1 base c A' k' (rdAddr l f).2.1 (rdAddr l f).2.2 ∧ w' = (w1.setCell ⟨p, o, none⟩ (.int .u32 (rdAddr l f).1.1)).setCell ⟨p, o + 1, none⟩ (.int .i64 (rdAddr l f).1.2)
theorem getN_lt (l : List UInt8) (s : Nat) (big : Bool) : getN l 0 s big < 256 ^ s := by
  unfold getN
  refine Nat.lt_of_lt_of_le (be_lt _) (Nat.pow_le_pow_right (by omega) ?_)
  unfold ord; split <;> simp <;> omega

/-- Two new cells: the cursor is as it was. -/
theorem cr_new2 {w : World} {base c : Nat} {A : Option Addr} {k : Nat} {l : List UInt8} {f : Bool} (h : CR w base c A k l f) (_hb : base ≤ w.heap.size) (x y : Value) (t : TypeId) :
    CR ((w.alloc (.cells #[x] t)).alloc (.cells #[y] t)).drew base c A k l f ∧ Kept [c] w ((w.alloc (.cells #[x] t)).alloc (.cells #[y] t)).drew ∧
      ((w.alloc (.cells #[x] t)).alloc (.cells #[y] t)).drew.cell? ⟨w.heap.size, 0, none⟩ = some x ∧ ((w.alloc (.cells #[x] t)).alloc (.cells #[y] t)).drew.cell? ⟨w.heap.size + 1, 0, none⟩ = some y ∧
      ((w.alloc (.cells #[x] t)).alloc (.cells #[y] t)).drew.frozen? ⟨w.heap.size, 0, none⟩ = false ∧ ((w.alloc (.cells #[x] t)).alloc (.cells #[y] t)).drew.frozen? ⟨w.heap.size + 1, 0, none⟩ = false := by
  have hk : Kept [] w ((w.alloc (.cells #[x] t)).alloc (.cells #[y] t)).drew := (((Kept.refl [] w).alloc _).alloc _).drew
  have g1 : ((w.alloc (.cells #[x] t)).alloc (.cells #[y] t)).drew.heap[w.heap.size]? = some (.cells #[x] t (0, 0)) := by
    show ((w.alloc (.cells #[x] t)).alloc (.cells #[y] t)).heap[w.heap.size]? = _
    rw [Below.heap_alloc _ _ _ (by simp), heap_alloc_new]
  have g2 : ((w.alloc (.cells #[x] t)).alloc (.cells #[y] t)).drew.heap[w.heap.size + 1]? = some (.cells #[y] t (0, 0)) := by
    show ((w.alloc (.cells #[x] t)).alloc (.cells #[y] t)).heap[w.heap.size + 1]? = _
    have := heap_alloc_new (w.alloc (.cells #[x] t)) (.cells #[y] t)
    simpa using this
  exact ⟨h.kept hk (by simp) (by simp), hk.mono (fun j _ hm => by cases hm), cell_of_row _ _ _ _ _ _ g1, cell_of_row _ _ _ _ _ _ g2, frozen_of_row _ _ _ _ _ g1, frozen_of_row _ _ _ _ _ g2⟩

set_option maxHeartbeats 2000000 in
/-- (*cursor).addr, as it reads. -/
theorem addr_r (base c p o : Nat) (hh q : Int) (A : Option Addr) (k : Nat) (l : List UInt8) (f : Bool) (w : World) (h : CR w base c A k l f) (hb : base ≤ w.heap.size)
    (hp1 : w.cell? ⟨p, o, none⟩ = some (.int .u32 hh)) (hp2 : w.cell? ⟨p, o + 1, none⟩ = some (.int .i64 q)) (hf1 : w.frozen? ⟨p, o, none⟩ = false) (hf2 : w.frozen? ⟨p, o + 1, none⟩ = false) (hpc : p ≠ c) (h0 : 0 ≤ hh) (h1 : hh < 4294967296) (h2 : 0 ≤ q) (h3 : q < 65536) :
    Calls Tryd.prog 28 #[.pointer (some ⟨c, 0, none⟩), .pointer (some ⟨p, o, none⟩)] w fun x w' => x = .returned (.tuple #[]) ∧ Addred w w' base c p o l f := by
  have p1 := cell_new hp1
  have p2 := cell_new2 hp1
  have q1 := cell_new hp2
  have q2 := cell_new2 hp2
  have hplt := lt_of_cell hp1
  have hlo := h.lo
  have hclt := h.lt
  have H := Lib.hid h
  clear h
  go_enter Tryd.func28, Tryd.ntmps28
  go_wp2_with fail
  go_region
  · obtain ⟨hC, hM, a1, a2, b1, b2⟩ := cr_new2 H.out hb (.int .u64 hh) (.int .u64 q) 28
    go_wp2_with fail
    refine (number_r base c (w.heap.size) 0 4 hh true A k l f _ hC (by simp; omega) a1 b1 (by omega) (by omega) (by omega)).mono ?_
    rintro x w1 ⟨rfl, hN1⟩
    rw [show Int.toNat 4 = 4 from rfl] at hN1
    obtain ⟨A1, k1, hC1, hK1, e1⟩ := hN1.facts (by omega) hlo (by omega) a1
    have e2 := (hK1.cell (p := ⟨w.heap.size + 1, 0, none⟩) (by first | (simp; done) | (simp; omega)) (by simp; omega)).trans a2
    have g2 := (hK1.frozen (p := ⟨w.heap.size + 1, 0, none⟩) (by first | (simp; done) | (simp; omega)) (by simp; omega)).trans b2
    have hK1' : Kept [c] w w1 := hM.trans hK1 (fun j hj hm => by simp at hm ⊢; omega)
    have hsz := hK1'.size
    go_wp2_with fail
    refine (number_r base c (w.heap.size + 1) 0 2 q true A1 k1 _ _ w1 hC1 (by omega) e2 g2 (by omega) (by omega) (by omega)).mono ?_
    rintro x w2 ⟨rfl, hN2⟩
    rw [show Int.toNat 2 = 2 from rfl] at hN2
    obtain ⟨A2, k2, hC2, hK2, e3⟩ := hN2.facts (by omega) hlo (by omega) e2
    have e4 := (hK2.cell (p := ⟨w.heap.size, 0, none⟩) (by have := hK1.size; simp at this ⊢; omega) (by simp; omega)).trans e1
    have hK2' : Kept [c] w w2 := hK1'.trans hK2 (fun j hj hm => by simp at hm ⊢; omega)
    obtain ⟨_, d1, _⟩ := hC2.cell
    have u1 := (hK2'.cell (p := ⟨p, o, none⟩) hplt (by simpa using hpc)).trans hp1
    have u2 := (hK2'.cell (p := ⟨p, o + 1, none⟩) hplt (by simpa using hpc)).trans hp2
    have u3 := (hK2'.frozen (p := ⟨p, o, none⟩) hplt (by simpa using hpc)).trans hf1
    have u4 := (hK2'.frozen (p := ⟨p, o + 1, none⟩) hplt (by simpa using hpc)).trans hf2
    have b1 := getN_lt (rdTake l f 4).1 4 true
    have b2 := getN_lt (rdTake (rdTake l f 4).2.1 (rdTake l f 4).2.2 2).1 2 true
    have HC2 := Lib.hid hC2; have HK := Lib.hid hK2'
    clear hC1 hK1 hN1 hN2 hC2 hK2 hK1' hK2' hC hM e1 e2 g2
    go_wp2
    go_end0
    exact ⟨rfl, w2, A2, k2, HK.out, HC2.out, rfl⟩
  · obtain ⟨hC, hM, a1, a2, b1, b2⟩ := cr_new2 H.out hb (.int .u64 q) (.int .u64 hh) 28
    go_wp2_with fail
    refine (number_r base c (w.heap.size + 1) 0 4 hh true A k l f _ hC (by simp; omega) a2 b2 (by omega) (by omega) (by omega)).mono ?_
    rintro x w1 ⟨rfl, hN1⟩
    rw [show Int.toNat 4 = 4 from rfl] at hN1
    obtain ⟨A1, k1, hC1, hK1, e1⟩ := hN1.facts (by omega) hlo (by omega) a2
    have e2 := (hK1.cell (p := ⟨w.heap.size, 0, none⟩) (by first | (simp; done) | (simp; omega)) (by simp; omega)).trans a1
    have g2 := (hK1.frozen (p := ⟨w.heap.size, 0, none⟩) (by first | (simp; done) | (simp; omega)) (by simp; omega)).trans b1
    have hK1' : Kept [c] w w1 := hM.trans hK1 (fun j hj hm => by simp at hm ⊢; omega)
    have hsz := hK1'.size
    go_wp2_with fail
    refine (number_r base c (w.heap.size) 0 2 q true A1 k1 _ _ w1 hC1 (by omega) e2 g2 (by omega) (by omega) (by omega)).mono ?_
    rintro x w2 ⟨rfl, hN2⟩
    rw [show Int.toNat 2 = 2 from rfl] at hN2
    obtain ⟨A2, k2, hC2, hK2, e3⟩ := hN2.facts (by omega) hlo (by omega) e2
    have e4 := (hK2.cell (p := ⟨w.heap.size + 1, 0, none⟩) (by have := hK1.size; simp at this ⊢; omega) (by simp; omega)).trans e1
    have hK2' : Kept [c] w w2 := hK1'.trans hK2 (fun j hj hm => by simp at hm ⊢; omega)
    obtain ⟨_, d1, _⟩ := hC2.cell
    have u1 := (hK2'.cell (p := ⟨p, o, none⟩) hplt (by simpa using hpc)).trans hp1
    have u2 := (hK2'.cell (p := ⟨p, o + 1, none⟩) hplt (by simpa using hpc)).trans hp2
    have u3 := (hK2'.frozen (p := ⟨p, o, none⟩) hplt (by simpa using hpc)).trans hf1
    have u4 := (hK2'.frozen (p := ⟨p, o + 1, none⟩) hplt (by simpa using hpc)).trans hf2
    have b1 := getN_lt (rdTake l f 4).1 4 true
    have b2 := getN_lt (rdTake (rdTake l f 4).2.1 (rdTake l f 4).2.2 2).1 2 true
    have HC2 := Lib.hid hC2; have HK := Lib.hid hK2'
    clear hC1 hK1 hN1 hN2 hC2 hK2 hK1' hK2' hC hM e1 e2 g2
    go_wp2
    go_end0
    exact ⟨rfl, w2, A2, k2, HK.out, HC2.out, rfl⟩
end Go.Proofs.YthnmjpohdlimiaaDoor
