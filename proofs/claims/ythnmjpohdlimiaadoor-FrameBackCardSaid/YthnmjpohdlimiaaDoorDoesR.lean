/- (*cursor).does as it reads. -/
import Derived.Test.YthnmjpohdlimiaaDoorSRd
namespace Go.Proofs.YthnmjpohdlimiaaDoor
open Go.RowKit

set_option maxHeartbeats 1000000 in
/-- bytes.Clone. -/
theorem bclone_any (A : Option Addr) (c : Nat) (l : List UInt8) (w : World) (h5 : l.length ≤ 140737488355328) (hr : Rd w A (bvs l)) :
    Calls Tryd.prog 31 #[.slice A l.length c] w fun e w' => ∃ v, e = .returned v ∧ w'.ownsRow w.heap.size 5 1 v l.length (bvs l) ∧ Kept [] w w' := by
  have qT : ∀ (w : World) (a : Option Addr) (n c n' c' : Nat), (binOp .eql 31 (.slice a n c) (.slice none n' c')).run Tryd.prog w = .ok (.bool a.isNone) w :=
    fun w a n c n' c' => Lib.run_eql_slice_nil w _ _ a n c n' c' Tryd.underlying31
  cases A with
  | none =>
    have hl : l = [] := by have := hr.none_nil; simpa [bvs] using this
    subst hl
    go_enter Tryd.func31, Tryd.ntmps31
    go_wp2
    go_ret
    exact ⟨_, rfl, World.ownsRow_nil _ _ _ _, Kept.refl _ _⟩
  | some ad =>
    obtain ⟨i0, hi, hz0, hz1, hz2⟩ := info_parts info_byte
    have hmade := World.ownsRow_made (e := 5) (size := 1) w #[] 0 (Nat.le_refl _) (by simp) (by simp)
    go_enter Tryd.func31, Tryd.ntmps31
    go_wp2_with (at_builtin; refine wpList_append_rd _ rfl _ _ 31 rfl w.heap.size 5 i0 (.int .u8 0) 1 1 Tryd.underlying31 hi hz0 hz1 hz2 rfl (by decide) _ _ _ rfl hmade _ _ _ (bvs l) rfl ?c1 (hr.alloc _) (bvs_one l) ?c4 ?c5 ?c6 ?_)
    case c1 => simp
    case c4 => unfold maxLen; omega
    case c5 => omega
    case c6 => simp
    intro v1 w1 hown1 hg1 _
    go_wp2
    go_ret
    refine ⟨_, rfl, by simpa using hown1, ((Kept.refl [] w).alloc _).grown hg1 ?_⟩
    intro k hk
    simp [Value.ownBlock] at hk
    omega

theorem rdTake_rest (l : List UInt8) (f : Bool) (n : Nat) : (rdTake l f n).2.1.length ≤ l.length := by unfold rdTake; split <;> simp
theorem rdAddr_rest (l : List UInt8) (f : Bool) : (rdAddr l f).2.1.length ≤ l.length := Nat.le_trans (rdTake_rest _ _ _) (rdTake_rest _ _ _)
theorem rdLoop_rest (l : List UInt8) (f : Bool) (n : Nat) : (rdLoop l f n).2.1.length ≤ l.length := by
  induction n with
  | zero => exact Nat.le_refl _
  | succ n ih => exact Nat.le_trans (rdAddr_rest _ _) ih
theorem rdAddrs_rest (l : List UInt8) (f : Bool) : (rdAddrs l f).2.1.length ≤ l.length := Nat.le_trans (rdLoop_rest _ _ _) (rdTake_rest _ _ _)
theorem rdDoes_rest (h : Has) (l : List UInt8) : (rdDoes h l).rest.length ≤ l.length := by
  unfold rdDoes
  have s1 : (if h.id then rdTake l false 12 else (List.replicate 12 0, l, false)).2.1.length ≤ l.length := by split; exact rdTake_rest _ _ _; exact Nat.le_refl _
  generalize (if h.id then rdTake l false 12 else (List.replicate 12 0, l, false)) = a1 at *
  have s2 : (if h.addr then rdAddr a1.2.1 a1.2.2 else ((0, 0), a1.2)).2.1.length ≤ l.length := by split; exact Nat.le_trans (rdAddr_rest _ _) s1; exact s1
  dsimp only
  generalize (if h.addr then rdAddr a1.2.1 a1.2.2 else ((0, 0), a1.2)) = a2 at *
  have s3 : (if h.addrs then rdAddrs a2.2.1 a2.2.2 else ([], a2.2)).2.1.length ≤ l.length := by split; exact Nat.le_trans (rdAddrs_rest _ _) s2; exact s2
  generalize (if h.addrs then rdAddrs a2.2.1 a2.2.2 else ([], a2.2)) = a3 at *
  have s4 : (if h.n then (getN (rdTake a3.2.1 a3.2.2 8).1 0 8 false, (rdTake a3.2.1 a3.2.2 8).2) else (0, a3.2)).2.1.length ≤ l.length := by split; exact Nat.le_trans (rdTake_rest _ _ _) s3; exact s3
  generalize (if h.n then (getN (rdTake a3.2.1 a3.2.2 8).1 0 8 false, (rdTake a3.2.1 a3.2.2 8).2) else (0, a3.2)) = a4 at *
  split
  · exact Nat.le_trans (rdTake_rest _ _ _) s4
  · exact s4
/-- What (*cursor).does does as it reads, for one kind. -/
def DoesR (K : Int) (hh : Has) : Prop := ∀ (base c q : Nat) (A : Option Addr) (k : Nat) (l : List UInt8) (w : World) (_ : Laid w) (_ : CR w base c A k l false) (_ : FB w q (Fr.new K)) (_ : q ≠ c) (_ : base ≤ q) (_ : base ≤ w.heap.size) (_ : l.length ≤ 140737488355328),
    Calls Tryd.prog 24 #[.pointer (some ⟨c, 0, none⟩), .pointer (some ⟨q, 0, none⟩)] w fun x w' => x = .returned (.tuple #[]) ∧ DoneR w w' base c q K (rdDoes hh l)
/-- .. of the end: the data are what is left. -/
theorem doneR_end {w0 w w1 : World} {base c q hb : Nat} {F : Fr} {h : Has} {A : Option Addr} {k : Nat} {l : List UInt8} {f : Bool} {K : Int} {id key : List UInt8} {addr : Int × Int} {xs : List (Int × Int)} {n : Nat} {A1 A2 : Option Addr} {k1 k2 : Nat}
    (s : SRd w0 w base c q hb F h A k l f) (hk1 : Kept [] w w1) (hF : F = ⟨K, id, addr.1, addr.2, .slice A1 xs.length k1, n, key, .slice none 0 0⟩) (hr1 : Rd w A1 (avs xs)) (ha1 : ∀ a, A1 = some a → w0.heap.size ≤ a.block ∧ a.block < w.heap.size) (hq1 : ∀ a, A1 = some a → a.block ≠ q)
    (hown : w1.ownsRow w.heap.size 5 1 (.slice A2 l.length k2) l.length (bvs l)) (hx : xs.length < 256) (_hq : q < w0.heap.size) :
    DoneR w0 (w1.setCell ⟨q, 49, none⟩ (.slice A2 l.length k2)) base c q K ⟨id, addr, xs, n, key, l, f⟩ := by
  have hF1 := s.fb.kept hk1 (by simp)
  have hkq : Kept [q] w1 (w1.setCell ⟨q, 49, none⟩ (.slice A2 l.length k2)) := (Kept.refl _ _).setCell (by simp) _
  have hown2 : ∀ j, (Value.slice A2 l.length k2).ownBlock = some j → w.heap.size ≤ j := fun j hj => (hown.lt j hj).1
  have hqs : q < w.heap.size := s.fb.lt
  have h49 := heap_setCell_same w1 q 49 _ _ (.slice A2 l.length k2) hF1.blk
  rw [Fr.set_sd hF1.id hF1.key] at h49
  refine ⟨A1, k1, A2, k2, A, k, ⟨?_, ?_, ?_⟩, ?_, ?_, (s.cr.kept hk1 (by simp) (by simp)).kept hkq (by simpa using fun e => s.n3 e.symm) (by simpa using s.bq), ?_, fun a e => ⟨(ha1 a e).1, by have := (ha1 a e).2; have := hk1.size; have := hkq.size; omega⟩, ?_, hx⟩
  · rw [h49, hF]
  · have := hF1.id; rw [hF] at this; exact this
  · have := hF1.key; rw [hF] at this; exact this
  · exact (hr1.kept hk1 (by simp)).kept hkq fun a e _ hm => hq1 a e (by simpa using hm)
  · exact (Rd.of_own hown).kept hkq fun a e _ hm => by
      have := hown2 a.block (by rw [e]; rfl)
      simp at hm
      omega
  · exact (s.kept.trans hk1 (by simp)).trans hkq fun _ _ hm => by simp at hm ⊢; exact .inr hm
  · exact fun a e => ⟨Nat.le_trans s.kept.size (hown2 a.block (by rw [e]; rfl)), by have := (hown.lt a.block (by rw [e]; rfl)).2; have := hkq.size; omega⟩

set_option maxHeartbeats 2000000 in
theorem does_r_0 (K : Int) (hK : K < 1 ∨ 10 < K) : DoesR K ⟨false, false, false, false, false, false⟩ := by
  intro base c q A k l w hL hC hF hqc hq hb h5
  have kf := hF.kind
  have hql := hF.lt
  have HC := Lib.hid hC; have HF := Lib.hid hF
  clear hC hF
  go_enter Tryd.func24, Tryd.ntmps24
  go_wp2_with fail
  refine (of_no K w hK).mono ?_
  rintro x w1 ⟨rfl, hk1⟩
  have s1 : SRd w (w1.alloc (.cells #[.bool false, .bool false, .bool false, .bool false, .bool false, .bool false] 55)) base c q w1.heap.size (Fr.new K) ⟨false, false, false, false, false, false⟩ A k l false :=
    have hk := hk1.alloc (.cells #[.bool false, .bool false, .bool false, .bool false, .bool false, .bool false] 55)
    ⟨HC.out.kept hk (by simp) (by simp), HF.out.kept hk (by simp), heap_alloc_new _ _, hk.mono fun _ _ hm => (by cases hm), by have := HC.out.lt; have := hk1.size; omega, by have := hk1.size; omega, hqc, hq, by simp; have := hk1.size; omega⟩
  obtain ⟨e0, e1, e2, f0, _⟩ := s1.cr.cell
  have g49 := s1.fb.sd
  have z49 := s1.fb.frozen 49
  have S1 := Lib.hid s1
  clear s1
  obtain ⟨L, hLe⟩ : ∃ L, L = l := ⟨_, rfl⟩
  rw [← hLe] at S1 e0
  have hlen : L.length ≤ 140737488355328 := by rw [hLe]; exact Nat.le_trans (rdDoes_rest ⟨false, false, false, false, false, false⟩ l) h5
  have HLe := Lib.hid hLe
  clear hLe
  go_wp2_with fail
  refine (bclone_any A k L _ hlen S1.out.cr.rd).mono ?_
  rintro x w9 ⟨v9, rfl, hown9, hk9⟩
  obtain ⟨A9, k9, rfl⟩ := own_slice hown9
  have d0 := (hk9.cell (p := ⟨q, 49, none⟩) S1.out.fb.lt (by simp)).trans g49
  have d1 := (hk9.frozen (p := ⟨q, 49, none⟩) S1.out.fb.lt (by simp)).trans z49
  have HO9 := Lib.hid hown9; have HK9 := Lib.hid hk9
  clear hown9 hk9
  go_wp2
  refine bodyPost_ret (results_none rfl _ _ _) rfl ?_
  have e : rdDoes ⟨false, false, false, false, false, false⟩ l = ⟨(List.replicate 12 0), ((0 : Int), (0 : Int)), [], 0, (List.replicate 32 0), L, false⟩ := by rw [HLe.out]; rfl
  refine ⟨rfl, ?_⟩
  rw [e]
  exact doneR_end S1.out HK9.out rfl (Rd.nil (A := none)) (by simp) (by simp) HO9.out (by simp) hql

set_option maxHeartbeats 2000000 in
theorem does_r_1 : DoesR 1 ⟨true, false, false, false, false, false⟩ := by
  intro base c q A k l w hL hC hF hqc hq hb h5
  have kf := hF.kind
  have hql := hF.lt
  have HC := Lib.hid hC; have HF := Lib.hid hF
  clear hC hF
  go_enter Tryd.func24, Tryd.ntmps24
  go_wp2_with fail
  refine (of_1 w hL).mono ?_
  rintro x w1 ⟨rfl, hk1⟩
  rw [show (hasOf 1).val = .agg #[.bool true, .bool false, .bool false, .bool false, .bool false, .bool false] from rfl]
  have s1 : SRd w (w1.alloc (.cells #[.bool true, .bool false, .bool false, .bool false, .bool false, .bool false] 55)) base c q w1.heap.size (Fr.new 1) ⟨true, false, false, false, false, false⟩ A k l false :=
    have hk := hk1.alloc (.cells #[.bool true, .bool false, .bool false, .bool false, .bool false, .bool false] 55)
    ⟨HC.out.kept hk (by simp) (by simp), HF.out.kept hk (by simp), heap_alloc_new _ _, hk.mono fun _ _ hm => (by cases hm), by have := HC.out.lt; have := hk1.size; omega, by have := hk1.size; omega, hqc, hq, by simp; have := hk1.size; omega⟩
  obtain ⟨e0, e1, e2, f0, _⟩ := s1.cr.cell
  have g49 := s1.fb.sd
  have z49 := s1.fb.frozen 49
  have S1 := Lib.hid s1
  clear s1
  go_wp2_with fail
  refine (raw_r base c q 1 12 12 _ _ A k _ _ _ S1.out.cr S1.out.bs S1.out.fb.blk hqc (by omega) (by omega) (by rw [Fr.size S1.out.fb.id S1.out.fb.key]; omega)).mono ?_
  rintro x w2 ⟨rfl, hd2⟩
  obtain ⟨A2, k2, s2⟩ := S1.out.id hd2
  obtain ⟨b0, b1, b2, b3, b4, b5⟩ : w2.cell? ⟨w1.heap.size, 0, none⟩ = some (.bool true) ∧ w2.cell? ⟨w1.heap.size, 1, none⟩ = some (.bool false) ∧ w2.cell? ⟨w1.heap.size, 2, none⟩ = some (.bool false) ∧ w2.cell? ⟨w1.heap.size, 3, none⟩ = some (.bool false) ∧ w2.cell? ⟨w1.heap.size, 4, none⟩ = some (.bool false) ∧ w2.cell? ⟨w1.heap.size, 5, none⟩ = some (.bool false) := s2.has.cells
  clear e0 e1 e2 f0 g49 z49 hd2
  have a0 := b0; have a1 := b1; have a2 := b2; have a3 := b3; have a4 := b4; have a5 := b5
  clear b0 b1 b2 b3 b4 b5
  obtain ⟨e0, e1, e2, f0, _⟩ := s2.cr.cell
  have g49 := s2.fb.sd
  have z49 := s2.fb.frozen 49
  have S2 := Lib.hid s2
  clear s2
  obtain ⟨L, hLe⟩ : ∃ L, L = (rdTake l false 12).2.1 := ⟨_, rfl⟩
  rw [← hLe] at S2 e0
  have hlen : L.length ≤ 140737488355328 := by rw [hLe]; exact Nat.le_trans (rdDoes_rest ⟨true, false, false, false, false, false⟩ l) h5
  have HLe := Lib.hid hLe
  clear hLe
  go_wp2_with fail
  refine (bclone_any A2 k2 L _ hlen S2.out.cr.rd).mono ?_
  rintro x w9 ⟨v9, rfl, hown9, hk9⟩
  obtain ⟨A9, k9, rfl⟩ := own_slice hown9
  have d0 := (hk9.cell (p := ⟨q, 49, none⟩) S2.out.fb.lt (by simp)).trans g49
  have d1 := (hk9.frozen (p := ⟨q, 49, none⟩) S2.out.fb.lt (by simp)).trans z49
  have HO9 := Lib.hid hown9; have HK9 := Lib.hid hk9
  clear hown9 hk9
  go_wp2
  refine bodyPost_ret (results_none rfl _ _ _) rfl ?_
  have e : rdDoes ⟨true, false, false, false, false, false⟩ l = ⟨(rdTake l false 12).1, ((0 : Int), (0 : Int)), [], 0, (List.replicate 32 0), L, (rdTake l false 12).2.2⟩ := by rw [HLe.out]; rfl
  refine ⟨rfl, ?_⟩
  rw [e]
  exact doneR_end S2.out HK9.out rfl (Rd.nil (A := none)) (by simp) (by simp) HO9.out (by simp) hql

set_option maxHeartbeats 2000000 in
theorem does_r_2 : DoesR 2 ⟨true, true, false, false, false, false⟩ := by
  intro base c q A k l w hL hC hF hqc hq hb h5
  have kf := hF.kind
  have hql := hF.lt
  have HC := Lib.hid hC; have HF := Lib.hid hF
  clear hC hF
  go_enter Tryd.func24, Tryd.ntmps24
  go_wp2_with fail
  refine (of_2 w hL).mono ?_
  rintro x w1 ⟨rfl, hk1⟩
  rw [show (hasOf 2).val = .agg #[.bool true, .bool true, .bool false, .bool false, .bool false, .bool false] from rfl]
  have s1 : SRd w (w1.alloc (.cells #[.bool true, .bool true, .bool false, .bool false, .bool false, .bool false] 55)) base c q w1.heap.size (Fr.new 2) ⟨true, true, false, false, false, false⟩ A k l false :=
    have hk := hk1.alloc (.cells #[.bool true, .bool true, .bool false, .bool false, .bool false, .bool false] 55)
    ⟨HC.out.kept hk (by simp) (by simp), HF.out.kept hk (by simp), heap_alloc_new _ _, hk.mono fun _ _ hm => (by cases hm), by have := HC.out.lt; have := hk1.size; omega, by have := hk1.size; omega, hqc, hq, by simp; have := hk1.size; omega⟩
  obtain ⟨e0, e1, e2, f0, _⟩ := s1.cr.cell
  have g49 := s1.fb.sd
  have z49 := s1.fb.frozen 49
  have S1 := Lib.hid s1
  clear s1
  go_wp2_with fail
  refine (raw_r base c q 1 12 12 _ _ A k _ _ _ S1.out.cr S1.out.bs S1.out.fb.blk hqc (by omega) (by omega) (by rw [Fr.size S1.out.fb.id S1.out.fb.key]; omega)).mono ?_
  rintro x w2 ⟨rfl, hd2⟩
  obtain ⟨A2, k2, s2⟩ := S1.out.id hd2
  obtain ⟨b0, b1, b2, b3, b4, b5⟩ : w2.cell? ⟨w1.heap.size, 0, none⟩ = some (.bool true) ∧ w2.cell? ⟨w1.heap.size, 1, none⟩ = some (.bool true) ∧ w2.cell? ⟨w1.heap.size, 2, none⟩ = some (.bool false) ∧ w2.cell? ⟨w1.heap.size, 3, none⟩ = some (.bool false) ∧ w2.cell? ⟨w1.heap.size, 4, none⟩ = some (.bool false) ∧ w2.cell? ⟨w1.heap.size, 5, none⟩ = some (.bool false) := s2.has.cells
  clear e0 e1 e2 f0 g49 z49 hd2
  have a0 := b0; have a1 := b1; have a2 := b2; have a3 := b3; have a4 := b4; have a5 := b5
  clear b0 b1 b2 b3 b4 b5
  obtain ⟨e0, e1, e2, f0, _⟩ := s2.cr.cell
  have g49 := s2.fb.sd
  have z49 := s2.fb.frozen 49
  have S2 := Lib.hid s2
  clear s2
  go_wp2_with fail
  refine (addr_r base c q 13 _ _ A2 k2 _ _ _ S2.out.cr S2.out.bs S2.out.fb.host S2.out.fb.port (S2.out.fb.frozen _) (S2.out.fb.frozen _) hqc (by show (0 : Int) ≤ 0; omega) (by show (0 : Int) < _; omega) (by show (0 : Int) ≤ 0; omega) (by show (0 : Int) < _; omega)).mono ?_
  rintro x w3 ⟨rfl, hd3⟩
  obtain ⟨A3, k3, s3⟩ := S2.out.addr hd3
  obtain ⟨b0, b1, b2, b3, b4, b5⟩ : w3.cell? ⟨w1.heap.size, 0, none⟩ = some (.bool true) ∧ w3.cell? ⟨w1.heap.size, 1, none⟩ = some (.bool true) ∧ w3.cell? ⟨w1.heap.size, 2, none⟩ = some (.bool false) ∧ w3.cell? ⟨w1.heap.size, 3, none⟩ = some (.bool false) ∧ w3.cell? ⟨w1.heap.size, 4, none⟩ = some (.bool false) ∧ w3.cell? ⟨w1.heap.size, 5, none⟩ = some (.bool false) := s3.has.cells
  clear e0 e1 e2 f0 g49 z49 hd3 a0 a1 a2 a3 a4 a5
  have a0 := b0; have a1 := b1; have a2 := b2; have a3 := b3; have a4 := b4; have a5 := b5
  clear b0 b1 b2 b3 b4 b5
  obtain ⟨e0, e1, e2, f0, _⟩ := s3.cr.cell
  have g49 := s3.fb.sd
  have z49 := s3.fb.frozen 49
  have S3 := Lib.hid s3
  clear s3
  obtain ⟨L, hLe⟩ : ∃ L, L = (rdAddr (rdTake l false 12).2.1 (rdTake l false 12).2.2).2.1 := ⟨_, rfl⟩
  rw [← hLe] at S3 e0
  have hlen : L.length ≤ 140737488355328 := by rw [hLe]; exact Nat.le_trans (rdDoes_rest ⟨true, true, false, false, false, false⟩ l) h5
  have HLe := Lib.hid hLe
  clear hLe
  go_wp2_with fail
  refine (bclone_any A3 k3 L _ hlen S3.out.cr.rd).mono ?_
  rintro x w9 ⟨v9, rfl, hown9, hk9⟩
  obtain ⟨A9, k9, rfl⟩ := own_slice hown9
  have d0 := (hk9.cell (p := ⟨q, 49, none⟩) S3.out.fb.lt (by simp)).trans g49
  have d1 := (hk9.frozen (p := ⟨q, 49, none⟩) S3.out.fb.lt (by simp)).trans z49
  have HO9 := Lib.hid hown9; have HK9 := Lib.hid hk9
  clear hown9 hk9
  go_wp2
  refine bodyPost_ret (results_none rfl _ _ _) rfl ?_
  have e : rdDoes ⟨true, true, false, false, false, false⟩ l = ⟨(rdTake l false 12).1, (rdAddr (rdTake l false 12).2.1 (rdTake l false 12).2.2).1, [], 0, (List.replicate 32 0), L, (rdAddr (rdTake l false 12).2.1 (rdTake l false 12).2.2).2.2⟩ := by rw [HLe.out]; rfl
  refine ⟨rfl, ?_⟩
  rw [e]
  exact doneR_end S3.out HK9.out rfl (Rd.nil (A := none)) (by simp) (by simp) HO9.out (by simp) hql

set_option maxHeartbeats 2000000 in
theorem does_r_3 : DoesR 3 ⟨false, false, true, false, false, false⟩ := by
  intro base c q A k l w hL hC hF hqc hq hb h5
  have kf := hF.kind
  have hql := hF.lt
  have HC := Lib.hid hC; have HF := Lib.hid hF
  clear hC hF
  go_enter Tryd.func24, Tryd.ntmps24
  go_wp2_with fail
  refine (of_3 w hL).mono ?_
  rintro x w1 ⟨rfl, hk1⟩
  rw [show (hasOf 3).val = .agg #[.bool false, .bool false, .bool true, .bool false, .bool false, .bool false] from rfl]
  have s1 : SRd w (w1.alloc (.cells #[.bool false, .bool false, .bool true, .bool false, .bool false, .bool false] 55)) base c q w1.heap.size (Fr.new 3) ⟨false, false, true, false, false, false⟩ A k l false :=
    have hk := hk1.alloc (.cells #[.bool false, .bool false, .bool true, .bool false, .bool false, .bool false] 55)
    ⟨HC.out.kept hk (by simp) (by simp), HF.out.kept hk (by simp), heap_alloc_new _ _, hk.mono fun _ _ hm => (by cases hm), by have := HC.out.lt; have := hk1.size; omega, by have := hk1.size; omega, hqc, hq, by simp; have := hk1.size; omega⟩
  obtain ⟨e0, e1, e2, f0, _⟩ := s1.cr.cell
  have g49 := s1.fb.sd
  have z49 := s1.fb.frozen 49
  have S1 := Lib.hid s1
  clear s1
  go_wp2_with fail
  refine (addrs_r base c q A k _ _ _ _ S1.out.cr S1.out.bs S1.out.fb rfl hqc hq).mono ?_
  rintro x w2 ⟨rfl, A2, k2, B1, j1, hc2, hf2, hr1, hkk, hB1, hx1⟩
  have s2 := S1.out.next hc2 hf2 hkk
  have hB1' : ∀ a, B1 = some a → w.heap.size ≤ a.block ∧ a.block < w2.heap.size := fun a e => ⟨Nat.le_trans S1.out.kept.size (hB1 a e).1, (hB1 a e).2⟩
  have HB1 := Lib.hid hB1'; have HR1 := Lib.hid hr1
  clear hB1 hB1' hr1 hkk hc2 hf2
  obtain ⟨b0, b1, b2, b3, b4, b5⟩ : w2.cell? ⟨w1.heap.size, 0, none⟩ = some (.bool false) ∧ w2.cell? ⟨w1.heap.size, 1, none⟩ = some (.bool false) ∧ w2.cell? ⟨w1.heap.size, 2, none⟩ = some (.bool true) ∧ w2.cell? ⟨w1.heap.size, 3, none⟩ = some (.bool false) ∧ w2.cell? ⟨w1.heap.size, 4, none⟩ = some (.bool false) ∧ w2.cell? ⟨w1.heap.size, 5, none⟩ = some (.bool false) := s2.has.cells
  clear e0 e1 e2 f0 g49 z49
  have a0 := b0; have a1 := b1; have a2 := b2; have a3 := b3; have a4 := b4; have a5 := b5
  clear b0 b1 b2 b3 b4 b5
  obtain ⟨e0, e1, e2, f0, _⟩ := s2.cr.cell
  have g49 := s2.fb.sd
  have z49 := s2.fb.frozen 49
  have S2 := Lib.hid s2
  clear s2
  obtain ⟨L, hLe⟩ : ∃ L, L = (rdAddrs l false).2.1 := ⟨_, rfl⟩
  rw [← hLe] at S2 e0
  have hlen : L.length ≤ 140737488355328 := by rw [hLe]; exact Nat.le_trans (rdDoes_rest ⟨false, false, true, false, false, false⟩ l) h5
  have HLe := Lib.hid hLe
  clear hLe
  go_wp2_with fail
  refine (bclone_any A2 k2 L _ hlen S2.out.cr.rd).mono ?_
  rintro x w9 ⟨v9, rfl, hown9, hk9⟩
  obtain ⟨A9, k9, rfl⟩ := own_slice hown9
  have d0 := (hk9.cell (p := ⟨q, 49, none⟩) S2.out.fb.lt (by simp)).trans g49
  have d1 := (hk9.frozen (p := ⟨q, 49, none⟩) S2.out.fb.lt (by simp)).trans z49
  have HO9 := Lib.hid hown9; have HK9 := Lib.hid hk9
  clear hown9 hk9
  go_wp2
  refine bodyPost_ret (results_none rfl _ _ _) rfl ?_
  have e : rdDoes ⟨false, false, true, false, false, false⟩ l = ⟨(List.replicate 12 0), ((0 : Int), (0 : Int)), (rdAddrs l false).1, 0, (List.replicate 32 0), L, (rdAddrs l false).2.2⟩ := by rw [HLe.out]; rfl
  refine ⟨rfl, ?_⟩
  rw [e]
  exact doneR_end S2.out HK9.out rfl HR1.out HB1.out (fun a e => by have := HB1.out a e; omega) HO9.out hx1 hql

set_option maxHeartbeats 2000000 in
theorem does_r_4 : DoesR 4 ⟨false, false, false, false, false, true⟩ := by
  intro base c q A k l w hL hC hF hqc hq hb h5
  have kf := hF.kind
  have hql := hF.lt
  have HC := Lib.hid hC; have HF := Lib.hid hF
  clear hC hF
  go_enter Tryd.func24, Tryd.ntmps24
  go_wp2_with fail
  refine (of_4 w hL).mono ?_
  rintro x w1 ⟨rfl, hk1⟩
  rw [show (hasOf 4).val = .agg #[.bool false, .bool false, .bool false, .bool false, .bool false, .bool true] from rfl]
  have s1 : SRd w (w1.alloc (.cells #[.bool false, .bool false, .bool false, .bool false, .bool false, .bool true] 55)) base c q w1.heap.size (Fr.new 4) ⟨false, false, false, false, false, true⟩ A k l false :=
    have hk := hk1.alloc (.cells #[.bool false, .bool false, .bool false, .bool false, .bool false, .bool true] 55)
    ⟨HC.out.kept hk (by simp) (by simp), HF.out.kept hk (by simp), heap_alloc_new _ _, hk.mono fun _ _ hm => (by cases hm), by have := HC.out.lt; have := hk1.size; omega, by have := hk1.size; omega, hqc, hq, by simp; have := hk1.size; omega⟩
  obtain ⟨e0, e1, e2, f0, _⟩ := s1.cr.cell
  have g49 := s1.fb.sd
  have z49 := s1.fb.frozen 49
  have S1 := Lib.hid s1
  clear s1
  obtain ⟨L, hLe⟩ : ∃ L, L = l := ⟨_, rfl⟩
  rw [← hLe] at S1 e0
  have hlen : L.length ≤ 140737488355328 := by rw [hLe]; exact Nat.le_trans (rdDoes_rest ⟨false, false, false, false, false, true⟩ l) h5
  have HLe := Lib.hid hLe
  clear hLe
  go_wp2_with fail
  refine (bclone_any A k L _ hlen S1.out.cr.rd).mono ?_
  rintro x w9 ⟨v9, rfl, hown9, hk9⟩
  obtain ⟨A9, k9, rfl⟩ := own_slice hown9
  have d0 := (hk9.cell (p := ⟨q, 49, none⟩) S1.out.fb.lt (by simp)).trans g49
  have d1 := (hk9.frozen (p := ⟨q, 49, none⟩) S1.out.fb.lt (by simp)).trans z49
  have HO9 := Lib.hid hown9; have HK9 := Lib.hid hk9
  clear hown9 hk9
  go_wp2
  refine bodyPost_ret (results_none rfl _ _ _) rfl ?_
  have e : rdDoes ⟨false, false, false, false, false, true⟩ l = ⟨(List.replicate 12 0), ((0 : Int), (0 : Int)), [], 0, (List.replicate 32 0), L, false⟩ := by rw [HLe.out]; rfl
  refine ⟨rfl, ?_⟩
  rw [e]
  exact doneR_end S1.out HK9.out rfl (Rd.nil (A := none)) (by simp) (by simp) HO9.out (by simp) hql

set_option maxHeartbeats 2000000 in
theorem does_r_5 : DoesR 5 ⟨false, false, false, false, false, true⟩ := by
  intro base c q A k l w hL hC hF hqc hq hb h5
  have kf := hF.kind
  have hql := hF.lt
  have HC := Lib.hid hC; have HF := Lib.hid hF
  clear hC hF
  go_enter Tryd.func24, Tryd.ntmps24
  go_wp2_with fail
  refine (of_5 w hL).mono ?_
  rintro x w1 ⟨rfl, hk1⟩
  rw [show (hasOf 5).val = .agg #[.bool false, .bool false, .bool false, .bool false, .bool false, .bool true] from rfl]
  have s1 : SRd w (w1.alloc (.cells #[.bool false, .bool false, .bool false, .bool false, .bool false, .bool true] 55)) base c q w1.heap.size (Fr.new 5) ⟨false, false, false, false, false, true⟩ A k l false :=
    have hk := hk1.alloc (.cells #[.bool false, .bool false, .bool false, .bool false, .bool false, .bool true] 55)
    ⟨HC.out.kept hk (by simp) (by simp), HF.out.kept hk (by simp), heap_alloc_new _ _, hk.mono fun _ _ hm => (by cases hm), by have := HC.out.lt; have := hk1.size; omega, by have := hk1.size; omega, hqc, hq, by simp; have := hk1.size; omega⟩
  obtain ⟨e0, e1, e2, f0, _⟩ := s1.cr.cell
  have g49 := s1.fb.sd
  have z49 := s1.fb.frozen 49
  have S1 := Lib.hid s1
  clear s1
  obtain ⟨L, hLe⟩ : ∃ L, L = l := ⟨_, rfl⟩
  rw [← hLe] at S1 e0
  have hlen : L.length ≤ 140737488355328 := by rw [hLe]; exact Nat.le_trans (rdDoes_rest ⟨false, false, false, false, false, true⟩ l) h5
  have HLe := Lib.hid hLe
  clear hLe
  go_wp2_with fail
  refine (bclone_any A k L _ hlen S1.out.cr.rd).mono ?_
  rintro x w9 ⟨v9, rfl, hown9, hk9⟩
  obtain ⟨A9, k9, rfl⟩ := own_slice hown9
  have d0 := (hk9.cell (p := ⟨q, 49, none⟩) S1.out.fb.lt (by simp)).trans g49
  have d1 := (hk9.frozen (p := ⟨q, 49, none⟩) S1.out.fb.lt (by simp)).trans z49
  have HO9 := Lib.hid hown9; have HK9 := Lib.hid hk9
  clear hown9 hk9
  go_wp2
  refine bodyPost_ret (results_none rfl _ _ _) rfl ?_
  have e : rdDoes ⟨false, false, false, false, false, true⟩ l = ⟨(List.replicate 12 0), ((0 : Int), (0 : Int)), [], 0, (List.replicate 32 0), L, false⟩ := by rw [HLe.out]; rfl
  refine ⟨rfl, ?_⟩
  rw [e]
  exact doneR_end S1.out HK9.out rfl (Rd.nil (A := none)) (by simp) (by simp) HO9.out (by simp) hql

set_option maxHeartbeats 2000000 in
theorem does_r_6 : DoesR 6 ⟨false, false, false, false, false, true⟩ := by
  intro base c q A k l w hL hC hF hqc hq hb h5
  have kf := hF.kind
  have hql := hF.lt
  have HC := Lib.hid hC; have HF := Lib.hid hF
  clear hC hF
  go_enter Tryd.func24, Tryd.ntmps24
  go_wp2_with fail
  refine (of_6 w hL).mono ?_
  rintro x w1 ⟨rfl, hk1⟩
  rw [show (hasOf 6).val = .agg #[.bool false, .bool false, .bool false, .bool false, .bool false, .bool true] from rfl]
  have s1 : SRd w (w1.alloc (.cells #[.bool false, .bool false, .bool false, .bool false, .bool false, .bool true] 55)) base c q w1.heap.size (Fr.new 6) ⟨false, false, false, false, false, true⟩ A k l false :=
    have hk := hk1.alloc (.cells #[.bool false, .bool false, .bool false, .bool false, .bool false, .bool true] 55)
    ⟨HC.out.kept hk (by simp) (by simp), HF.out.kept hk (by simp), heap_alloc_new _ _, hk.mono fun _ _ hm => (by cases hm), by have := HC.out.lt; have := hk1.size; omega, by have := hk1.size; omega, hqc, hq, by simp; have := hk1.size; omega⟩
  obtain ⟨e0, e1, e2, f0, _⟩ := s1.cr.cell
  have g49 := s1.fb.sd
  have z49 := s1.fb.frozen 49
  have S1 := Lib.hid s1
  clear s1
  obtain ⟨L, hLe⟩ : ∃ L, L = l := ⟨_, rfl⟩
  rw [← hLe] at S1 e0
  have hlen : L.length ≤ 140737488355328 := by rw [hLe]; exact Nat.le_trans (rdDoes_rest ⟨false, false, false, false, false, true⟩ l) h5
  have HLe := Lib.hid hLe
  clear hLe
  go_wp2_with fail
  refine (bclone_any A k L _ hlen S1.out.cr.rd).mono ?_
  rintro x w9 ⟨v9, rfl, hown9, hk9⟩
  obtain ⟨A9, k9, rfl⟩ := own_slice hown9
  have d0 := (hk9.cell (p := ⟨q, 49, none⟩) S1.out.fb.lt (by simp)).trans g49
  have d1 := (hk9.frozen (p := ⟨q, 49, none⟩) S1.out.fb.lt (by simp)).trans z49
  have HO9 := Lib.hid hown9; have HK9 := Lib.hid hk9
  clear hown9 hk9
  go_wp2
  refine bodyPost_ret (results_none rfl _ _ _) rfl ?_
  have e : rdDoes ⟨false, false, false, false, false, true⟩ l = ⟨(List.replicate 12 0), ((0 : Int), (0 : Int)), [], 0, (List.replicate 32 0), L, false⟩ := by rw [HLe.out]; rfl
  refine ⟨rfl, ?_⟩
  rw [e]
  exact doneR_end S1.out HK9.out rfl (Rd.nil (A := none)) (by simp) (by simp) HO9.out (by simp) hql

set_option maxHeartbeats 2000000 in
theorem does_r_7 : DoesR 7 ⟨false, false, false, true, false, true⟩ := by
  intro base c q A k l w hL hC hF hqc hq hb h5
  have kf := hF.kind
  have hql := hF.lt
  have HC := Lib.hid hC; have HF := Lib.hid hF
  clear hC hF
  go_enter Tryd.func24, Tryd.ntmps24
  go_wp2_with fail
  refine (of_7 w hL).mono ?_
  rintro x w1 ⟨rfl, hk1⟩
  rw [show (hasOf 7).val = .agg #[.bool false, .bool false, .bool false, .bool true, .bool false, .bool true] from rfl]
  have s1 : SRd w (w1.alloc (.cells #[.bool false, .bool false, .bool false, .bool true, .bool false, .bool true] 55)) base c q w1.heap.size (Fr.new 7) ⟨false, false, false, true, false, true⟩ A k l false :=
    have hk := hk1.alloc (.cells #[.bool false, .bool false, .bool false, .bool true, .bool false, .bool true] 55)
    ⟨HC.out.kept hk (by simp) (by simp), HF.out.kept hk (by simp), heap_alloc_new _ _, hk.mono fun _ _ hm => (by cases hm), by have := HC.out.lt; have := hk1.size; omega, by have := hk1.size; omega, hqc, hq, by simp; have := hk1.size; omega⟩
  obtain ⟨e0, e1, e2, f0, _⟩ := s1.cr.cell
  have g49 := s1.fb.sd
  have z49 := s1.fb.frozen 49
  have S1 := Lib.hid s1
  clear s1
  go_wp2_with fail
  refine (number_r base c q 16 8 _ false A k _ _ _ S1.out.cr S1.out.bs S1.out.fb.n (S1.out.fb.frozen _) hqc (by omega) (by omega)).mono ?_
  rintro x w2 ⟨rfl, hd2⟩
  rw [show Int.toNat 8 = 8 from rfl] at hd2
  obtain ⟨A2, k2, s2⟩ := S1.out.num hd2
  obtain ⟨b0, b1, b2, b3, b4, b5⟩ : w2.cell? ⟨w1.heap.size, 0, none⟩ = some (.bool false) ∧ w2.cell? ⟨w1.heap.size, 1, none⟩ = some (.bool false) ∧ w2.cell? ⟨w1.heap.size, 2, none⟩ = some (.bool false) ∧ w2.cell? ⟨w1.heap.size, 3, none⟩ = some (.bool true) ∧ w2.cell? ⟨w1.heap.size, 4, none⟩ = some (.bool false) ∧ w2.cell? ⟨w1.heap.size, 5, none⟩ = some (.bool true) := s2.has.cells
  clear e0 e1 e2 f0 g49 z49 hd2
  have a0 := b0; have a1 := b1; have a2 := b2; have a3 := b3; have a4 := b4; have a5 := b5
  clear b0 b1 b2 b3 b4 b5
  obtain ⟨e0, e1, e2, f0, _⟩ := s2.cr.cell
  have g49 := s2.fb.sd
  have z49 := s2.fb.frozen 49
  have S2 := Lib.hid s2
  clear s2
  obtain ⟨L, hLe⟩ : ∃ L, L = (rdTake l false 8).2.1 := ⟨_, rfl⟩
  rw [← hLe] at S2 e0
  have hlen : L.length ≤ 140737488355328 := by rw [hLe]; exact Nat.le_trans (rdDoes_rest ⟨false, false, false, true, false, true⟩ l) h5
  have HLe := Lib.hid hLe
  clear hLe
  go_wp2_with fail
  refine (bclone_any A2 k2 L _ hlen S2.out.cr.rd).mono ?_
  rintro x w9 ⟨v9, rfl, hown9, hk9⟩
  obtain ⟨A9, k9, rfl⟩ := own_slice hown9
  have d0 := (hk9.cell (p := ⟨q, 49, none⟩) S2.out.fb.lt (by simp)).trans g49
  have d1 := (hk9.frozen (p := ⟨q, 49, none⟩) S2.out.fb.lt (by simp)).trans z49
  have HO9 := Lib.hid hown9; have HK9 := Lib.hid hk9
  clear hown9 hk9
  go_wp2
  refine bodyPost_ret (results_none rfl _ _ _) rfl ?_
  have e : rdDoes ⟨false, false, false, true, false, true⟩ l = ⟨(List.replicate 12 0), ((0 : Int), (0 : Int)), [], (getN (rdTake l false 8).1 0 8 false), (List.replicate 32 0), L, (rdTake l false 8).2.2⟩ := by rw [HLe.out]; rfl
  refine ⟨rfl, ?_⟩
  rw [e]
  exact doneR_end S2.out HK9.out rfl (Rd.nil (A := none)) (by simp) (by simp) HO9.out (by simp) hql

set_option maxHeartbeats 2000000 in
theorem does_r_8 : DoesR 8 ⟨false, false, false, false, true, false⟩ := by
  intro base c q A k l w hL hC hF hqc hq hb h5
  have kf := hF.kind
  have hql := hF.lt
  have HC := Lib.hid hC; have HF := Lib.hid hF
  clear hC hF
  go_enter Tryd.func24, Tryd.ntmps24
  go_wp2_with fail
  refine (of_8 w hL).mono ?_
  rintro x w1 ⟨rfl, hk1⟩
  rw [show (hasOf 8).val = .agg #[.bool false, .bool false, .bool false, .bool false, .bool true, .bool false] from rfl]
  have s1 : SRd w (w1.alloc (.cells #[.bool false, .bool false, .bool false, .bool false, .bool true, .bool false] 55)) base c q w1.heap.size (Fr.new 8) ⟨false, false, false, false, true, false⟩ A k l false :=
    have hk := hk1.alloc (.cells #[.bool false, .bool false, .bool false, .bool false, .bool true, .bool false] 55)
    ⟨HC.out.kept hk (by simp) (by simp), HF.out.kept hk (by simp), heap_alloc_new _ _, hk.mono fun _ _ hm => (by cases hm), by have := HC.out.lt; have := hk1.size; omega, by have := hk1.size; omega, hqc, hq, by simp; have := hk1.size; omega⟩
  obtain ⟨e0, e1, e2, f0, _⟩ := s1.cr.cell
  have g49 := s1.fb.sd
  have z49 := s1.fb.frozen 49
  have S1 := Lib.hid s1
  clear s1
  go_wp2_with fail
  refine (raw_r base c q 17 32 32 _ _ A k _ _ _ S1.out.cr S1.out.bs S1.out.fb.blk hqc (by omega) (by omega) (by rw [Fr.size S1.out.fb.id S1.out.fb.key]; omega)).mono ?_
  rintro x w2 ⟨rfl, hd2⟩
  obtain ⟨A2, k2, s2⟩ := S1.out.key hd2
  obtain ⟨b0, b1, b2, b3, b4, b5⟩ : w2.cell? ⟨w1.heap.size, 0, none⟩ = some (.bool false) ∧ w2.cell? ⟨w1.heap.size, 1, none⟩ = some (.bool false) ∧ w2.cell? ⟨w1.heap.size, 2, none⟩ = some (.bool false) ∧ w2.cell? ⟨w1.heap.size, 3, none⟩ = some (.bool false) ∧ w2.cell? ⟨w1.heap.size, 4, none⟩ = some (.bool true) ∧ w2.cell? ⟨w1.heap.size, 5, none⟩ = some (.bool false) := s2.has.cells
  clear e0 e1 e2 f0 g49 z49 hd2
  have a0 := b0; have a1 := b1; have a2 := b2; have a3 := b3; have a4 := b4; have a5 := b5
  clear b0 b1 b2 b3 b4 b5
  obtain ⟨e0, e1, e2, f0, _⟩ := s2.cr.cell
  have g49 := s2.fb.sd
  have z49 := s2.fb.frozen 49
  have S2 := Lib.hid s2
  clear s2
  obtain ⟨L, hLe⟩ : ∃ L, L = (rdTake l false 32).2.1 := ⟨_, rfl⟩
  rw [← hLe] at S2 e0
  have hlen : L.length ≤ 140737488355328 := by rw [hLe]; exact Nat.le_trans (rdDoes_rest ⟨false, false, false, false, true, false⟩ l) h5
  have HLe := Lib.hid hLe
  clear hLe
  go_wp2_with fail
  refine (bclone_any A2 k2 L _ hlen S2.out.cr.rd).mono ?_
  rintro x w9 ⟨v9, rfl, hown9, hk9⟩
  obtain ⟨A9, k9, rfl⟩ := own_slice hown9
  have d0 := (hk9.cell (p := ⟨q, 49, none⟩) S2.out.fb.lt (by simp)).trans g49
  have d1 := (hk9.frozen (p := ⟨q, 49, none⟩) S2.out.fb.lt (by simp)).trans z49
  have HO9 := Lib.hid hown9; have HK9 := Lib.hid hk9
  clear hown9 hk9
  go_wp2
  refine bodyPost_ret (results_none rfl _ _ _) rfl ?_
  have e : rdDoes ⟨false, false, false, false, true, false⟩ l = ⟨(List.replicate 12 0), ((0 : Int), (0 : Int)), [], 0, (rdTake l false 32).1, L, (rdTake l false 32).2.2⟩ := by rw [HLe.out]; rfl
  refine ⟨rfl, ?_⟩
  rw [e]
  exact doneR_end S2.out HK9.out rfl (Rd.nil (A := none)) (by simp) (by simp) HO9.out (by simp) hql

set_option maxHeartbeats 2000000 in
theorem does_r_9 : DoesR 9 ⟨false, true, false, false, false, false⟩ := by
  intro base c q A k l w hL hC hF hqc hq hb h5
  have kf := hF.kind
  have hql := hF.lt
  have HC := Lib.hid hC; have HF := Lib.hid hF
  clear hC hF
  go_enter Tryd.func24, Tryd.ntmps24
  go_wp2_with fail
  refine (of_9 w hL).mono ?_
  rintro x w1 ⟨rfl, hk1⟩
  rw [show (hasOf 9).val = .agg #[.bool false, .bool true, .bool false, .bool false, .bool false, .bool false] from rfl]
  have s1 : SRd w (w1.alloc (.cells #[.bool false, .bool true, .bool false, .bool false, .bool false, .bool false] 55)) base c q w1.heap.size (Fr.new 9) ⟨false, true, false, false, false, false⟩ A k l false :=
    have hk := hk1.alloc (.cells #[.bool false, .bool true, .bool false, .bool false, .bool false, .bool false] 55)
    ⟨HC.out.kept hk (by simp) (by simp), HF.out.kept hk (by simp), heap_alloc_new _ _, hk.mono fun _ _ hm => (by cases hm), by have := HC.out.lt; have := hk1.size; omega, by have := hk1.size; omega, hqc, hq, by simp; have := hk1.size; omega⟩
  obtain ⟨e0, e1, e2, f0, _⟩ := s1.cr.cell
  have g49 := s1.fb.sd
  have z49 := s1.fb.frozen 49
  have S1 := Lib.hid s1
  clear s1
  go_wp2_with fail
  refine (addr_r base c q 13 _ _ A k _ _ _ S1.out.cr S1.out.bs S1.out.fb.host S1.out.fb.port (S1.out.fb.frozen _) (S1.out.fb.frozen _) hqc (by show (0 : Int) ≤ 0; omega) (by show (0 : Int) < _; omega) (by show (0 : Int) ≤ 0; omega) (by show (0 : Int) < _; omega)).mono ?_
  rintro x w2 ⟨rfl, hd2⟩
  obtain ⟨A2, k2, s2⟩ := S1.out.addr hd2
  obtain ⟨b0, b1, b2, b3, b4, b5⟩ : w2.cell? ⟨w1.heap.size, 0, none⟩ = some (.bool false) ∧ w2.cell? ⟨w1.heap.size, 1, none⟩ = some (.bool true) ∧ w2.cell? ⟨w1.heap.size, 2, none⟩ = some (.bool false) ∧ w2.cell? ⟨w1.heap.size, 3, none⟩ = some (.bool false) ∧ w2.cell? ⟨w1.heap.size, 4, none⟩ = some (.bool false) ∧ w2.cell? ⟨w1.heap.size, 5, none⟩ = some (.bool false) := s2.has.cells
  clear e0 e1 e2 f0 g49 z49 hd2
  have a0 := b0; have a1 := b1; have a2 := b2; have a3 := b3; have a4 := b4; have a5 := b5
  clear b0 b1 b2 b3 b4 b5
  obtain ⟨e0, e1, e2, f0, _⟩ := s2.cr.cell
  have g49 := s2.fb.sd
  have z49 := s2.fb.frozen 49
  have S2 := Lib.hid s2
  clear s2
  obtain ⟨L, hLe⟩ : ∃ L, L = (rdAddr l false).2.1 := ⟨_, rfl⟩
  rw [← hLe] at S2 e0
  have hlen : L.length ≤ 140737488355328 := by rw [hLe]; exact Nat.le_trans (rdDoes_rest ⟨false, true, false, false, false, false⟩ l) h5
  have HLe := Lib.hid hLe
  clear hLe
  go_wp2_with fail
  refine (bclone_any A2 k2 L _ hlen S2.out.cr.rd).mono ?_
  rintro x w9 ⟨v9, rfl, hown9, hk9⟩
  obtain ⟨A9, k9, rfl⟩ := own_slice hown9
  have d0 := (hk9.cell (p := ⟨q, 49, none⟩) S2.out.fb.lt (by simp)).trans g49
  have d1 := (hk9.frozen (p := ⟨q, 49, none⟩) S2.out.fb.lt (by simp)).trans z49
  have HO9 := Lib.hid hown9; have HK9 := Lib.hid hk9
  clear hown9 hk9
  go_wp2
  refine bodyPost_ret (results_none rfl _ _ _) rfl ?_
  have e : rdDoes ⟨false, true, false, false, false, false⟩ l = ⟨(List.replicate 12 0), (rdAddr l false).1, [], 0, (List.replicate 32 0), L, (rdAddr l false).2.2⟩ := by rw [HLe.out]; rfl
  refine ⟨rfl, ?_⟩
  rw [e]
  exact doneR_end S2.out HK9.out rfl (Rd.nil (A := none)) (by simp) (by simp) HO9.out (by simp) hql

set_option maxHeartbeats 2000000 in
theorem does_r_10 : DoesR 10 ⟨false, false, false, false, true, true⟩ := by
  intro base c q A k l w hL hC hF hqc hq hb h5
  have kf := hF.kind
  have hql := hF.lt
  have HC := Lib.hid hC; have HF := Lib.hid hF
  clear hC hF
  go_enter Tryd.func24, Tryd.ntmps24
  go_wp2_with fail
  refine (of_10 w hL).mono ?_
  rintro x w1 ⟨rfl, hk1⟩
  rw [show (hasOf 10).val = .agg #[.bool false, .bool false, .bool false, .bool false, .bool true, .bool true] from rfl]
  have s1 : SRd w (w1.alloc (.cells #[.bool false, .bool false, .bool false, .bool false, .bool true, .bool true] 55)) base c q w1.heap.size (Fr.new 10) ⟨false, false, false, false, true, true⟩ A k l false :=
    have hk := hk1.alloc (.cells #[.bool false, .bool false, .bool false, .bool false, .bool true, .bool true] 55)
    ⟨HC.out.kept hk (by simp) (by simp), HF.out.kept hk (by simp), heap_alloc_new _ _, hk.mono fun _ _ hm => (by cases hm), by have := HC.out.lt; have := hk1.size; omega, by have := hk1.size; omega, hqc, hq, by simp; have := hk1.size; omega⟩
  obtain ⟨e0, e1, e2, f0, _⟩ := s1.cr.cell
  have g49 := s1.fb.sd
  have z49 := s1.fb.frozen 49
  have S1 := Lib.hid s1
  clear s1
  go_wp2_with fail
  refine (raw_r base c q 17 32 32 _ _ A k _ _ _ S1.out.cr S1.out.bs S1.out.fb.blk hqc (by omega) (by omega) (by rw [Fr.size S1.out.fb.id S1.out.fb.key]; omega)).mono ?_
  rintro x w2 ⟨rfl, hd2⟩
  obtain ⟨A2, k2, s2⟩ := S1.out.key hd2
  obtain ⟨b0, b1, b2, b3, b4, b5⟩ : w2.cell? ⟨w1.heap.size, 0, none⟩ = some (.bool false) ∧ w2.cell? ⟨w1.heap.size, 1, none⟩ = some (.bool false) ∧ w2.cell? ⟨w1.heap.size, 2, none⟩ = some (.bool false) ∧ w2.cell? ⟨w1.heap.size, 3, none⟩ = some (.bool false) ∧ w2.cell? ⟨w1.heap.size, 4, none⟩ = some (.bool true) ∧ w2.cell? ⟨w1.heap.size, 5, none⟩ = some (.bool true) := s2.has.cells
  clear e0 e1 e2 f0 g49 z49 hd2
  have a0 := b0; have a1 := b1; have a2 := b2; have a3 := b3; have a4 := b4; have a5 := b5
  clear b0 b1 b2 b3 b4 b5
  obtain ⟨e0, e1, e2, f0, _⟩ := s2.cr.cell
  have g49 := s2.fb.sd
  have z49 := s2.fb.frozen 49
  have S2 := Lib.hid s2
  clear s2
  obtain ⟨L, hLe⟩ : ∃ L, L = (rdTake l false 32).2.1 := ⟨_, rfl⟩
  rw [← hLe] at S2 e0
  have hlen : L.length ≤ 140737488355328 := by rw [hLe]; exact Nat.le_trans (rdDoes_rest ⟨false, false, false, false, true, true⟩ l) h5
  have HLe := Lib.hid hLe
  clear hLe
  go_wp2_with fail
  refine (bclone_any A2 k2 L _ hlen S2.out.cr.rd).mono ?_
  rintro x w9 ⟨v9, rfl, hown9, hk9⟩
  obtain ⟨A9, k9, rfl⟩ := own_slice hown9
  have d0 := (hk9.cell (p := ⟨q, 49, none⟩) S2.out.fb.lt (by simp)).trans g49
  have d1 := (hk9.frozen (p := ⟨q, 49, none⟩) S2.out.fb.lt (by simp)).trans z49
  have HO9 := Lib.hid hown9; have HK9 := Lib.hid hk9
  clear hown9 hk9
  go_wp2
  refine bodyPost_ret (results_none rfl _ _ _) rfl ?_
  have e : rdDoes ⟨false, false, false, false, true, true⟩ l = ⟨(List.replicate 12 0), ((0 : Int), (0 : Int)), [], 0, (rdTake l false 32).1, L, (rdTake l false 32).2.2⟩ := by rw [HLe.out]; rfl
  refine ⟨rfl, ?_⟩
  rw [e]
  exact doneR_end S2.out HK9.out rfl (Rd.nil (A := none)) (by simp) (by simp) HO9.out (by simp) hql

/-- .. for every kind, and for none. -/
theorem does_r (K : Int) : DoesR K (hasOf K) := by
  by_cases h : 1 ≤ K ∧ K ≤ 10
  · rcases (show K = 1 ∨ K = 2 ∨ K = 3 ∨ K = 4 ∨ K = 5 ∨ K = 6 ∨ K = 7 ∨ K = 8 ∨ K = 9 ∨ K = 10 by omega) with rfl | rfl | rfl | rfl | rfl | rfl | rfl | rfl | rfl | rfl
    · exact does_r_1
    · exact does_r_2
    · exact does_r_3
    · exact does_r_4
    · exact does_r_5
    · exact does_r_6
    · exact does_r_7
    · exact does_r_8
    · exact does_r_9
    · exact does_r_10
  · have hh : hasOf K = ⟨false, false, false, false, false, false⟩ := by
      unfold hasOf
      rw [if_neg (by omega), if_neg (by omega), if_neg (by omega), if_neg (by omega), if_neg (by omega), if_neg (by omega), if_neg (by omega), if_neg (by omega), if_neg (by omega), if_neg (by omega)]
    rw [hh]
    exact does_r_0 K (by omega)
end Go.Proofs.YthnmjpohdlimiaaDoor
