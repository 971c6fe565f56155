/- (*cursor).addrs as it reads. -/
import Derived.Test.YthnmjpohdlimiaaDoorFrSet
namespace Go.Proofs.YthnmjpohdlimiaaDoor
open Go.RowKit

theorem avs_zero (n : Nat) : (madeCells #[.int .u32 0, .int .i64 0] (n * 2)).toList = avs (List.replicate n (0, 0)) := by
  apply List.ext_getElem?
  intro j
  by_cases hj : j < n * 2
  · have h1 : (madeCells #[Value.int .u32 0, Value.int .i64 0] (n * 2)).toList[j]? = some (#[Value.int .u32 0, Value.int .i64 0][j % 2]!) := by
      simp [madeCells, hj]
    rw [h1]
    have hg := avs_get (List.replicate n (0, 0)) (j / 2) (by simp; omega)
    have he : (List.replicate n ((0 : Int), (0 : Int)))[j / 2]?.getD (0, 0) = (0, 0) := by
      rw [List.getElem?_replicate]; split <;> rfl
    rw [he] at hg
    rcases Nat.mod_two_eq_zero_or_one j with h | h
    · rw [h, show j = 2 * (j / 2) by omega, hg.1]; rfl
    · rw [h, show j = 2 * (j / 2) + 1 by omega, hg.2]; rfl
  · rw [List.getElem?_eq_none (by simp [madeCells]; omega), List.getElem?_eq_none (by rw [avs_length]; simp; omega)]
theorem avs_set (zs : List (Int × Int)) : ∀ (k : Nat) (h p : Int), ((avs zs).set (k * 2) (.int .u32 h)).set (k * 2 + 1) (.int .i64 p) = avs (zs.set k (h, p)) := by
  induction zs with
  | nil => intro k h p; simp [avs]
  | cons x zs ih =>
    intro k h p
    cases k with
    | zero => simp [avs_cons]
    | succ k =>
      rw [avs_cons, show (k + 1) * 2 = k * 2 + 1 + 1 by omega, show k * 2 + 1 + 1 + 1 = (k * 2 + 1) + 1 + 1 by omega]
      simp only [List.set_cons_succ]
      rw [ih, avs_cons]

/-- So many addresses, one behind the other. -/
def rdLoop (l : List UInt8) (f : Bool) : Nat → List (Int × Int) × List UInt8 × Bool
  | 0 => ([], l, f)
  | n + 1 => ((rdLoop l f n).1 ++ [(rdAddr (rdLoop l f n).2.1 (rdLoop l f n).2.2).1], (rdAddr (rdLoop l f n).2.1 (rdLoop l f n).2.2).2)
theorem rdLoop_length (l : List UInt8) (f : Bool) (n : Nat) : (rdLoop l f n).1.length = n := by
  induction n with
  | zero => rfl
  | succ n ih => simp [rdLoop, ih]
/-- How many addresses are said to come. -/
def rdCount (l : List UInt8) (f : Bool) : Nat := if (rdTake l f 1).2.2 = false then getN (rdTake l f 1).1 0 1 true else 0
/-- Addresses read. -/
def rdAddrs (l : List UInt8) (f : Bool) : List (Int × Int) × List UInt8 × Bool := rdLoop (rdTake l f 1).2.1 (rdTake l f 1).2.2 (rdCount l f)
/-- Those that were read, and zeros. -/
def filledA (l : List UInt8) (f : Bool) (n k : Nat) : List (Int × Int) := (rdLoop l f k).1 ++ List.replicate (n - k) (0, 0)
theorem filledA_set (l : List UInt8) (f : Bool) (n k : Nat) (hk : k < n) : (filledA l f n k).set k (rdAddr (rdLoop l f k).2.1 (rdLoop l f k).2.2).1 = filledA l f n (k + 1) := by
  obtain ⟨r, hr⟩ : ∃ r, n - k = r + 1 := ⟨n - k - 1, by omega⟩
  unfold filledA
  rw [List.set_append, if_neg (by rw [rdLoop_length]; omega), rdLoop_length, Nat.sub_self, hr, show n - (k + 1) = r by omega]
  simp [rdLoop, List.replicate_succ]
theorem filledA_length (l : List UInt8) (f : Bool) (n k : Nat) (hk : k ≤ n) : (filledA l f n k).length = n := by simp [filledA, rdLoop_length]; omega
theorem filledA_get (l : List UInt8) (f : Bool) (n k : Nat) (_hk : k < n) : (filledA l f n k)[k]?.getD (0, 0) = (0, 0) := by
  unfold filledA
  rw [List.getElem?_append_right (by rw [rdLoop_length]; exact Nat.le_refl _), List.getElem?_replicate]
  split <;> rfl

theorem Fr.sa_same {F : Fr} {v : Value} (h : F.sa = v) : { F with sa := v } = F := by cases F; cases h; rfl
/-- What addrs leaves. -/
def Addrsed (w w' : World) (base c q : Nat) (F : Fr) (l : List UInt8) (f : Bool) : Prop :=
  ∃ A' k' A1 k1, CR w' base c A' k' (rdAddrs l f).2.1 (rdAddrs l f).2.2 ∧ FB w' q { F with sa := .slice A1 (rdAddrs l f).1.length k1 } ∧ Rd w' A1 (avs (rdAddrs l f).1) ∧ Kept [c, q] w w' ∧ (∀ a, A1 = some a → w.heap.size ≤ a.block ∧ a.block < w'.heap.size) ∧ (rdAddrs l f).1.length < 256

theorem info_addr : (Tryd.prog.info? 26).map (fun i => (i.zero, i.size, i.bytes)) = some (some (.agg #[.int .u32 0, .int .i64 0]), 2, 16) := by kernel_rfl

set_option maxHeartbeats 2000000 in
theorem addrs_r (base c q : Nat) (A : Option Addr) (k : Nat) (F : Fr) (l : List UInt8) (f : Bool) (w : World) (h : CR w base c A k l f) (hb : base ≤ w.heap.size) (hF : FB w q F) (hsa : F.sa = .slice none 0 0) (hqc : q ≠ c) (hq : base ≤ q) :
    Calls Tryd.prog 29 #[.pointer (some ⟨c, 0, none⟩), .pointer (some ⟨q, 15, none⟩)] w fun x w' => x = .returned (.tuple #[]) ∧ Addrsed w w' base c q F l f := by
  obtain ⟨i0, hi, hz0, hz1, hz2⟩ := info_parts info_addr
  have hk0 : Kept [] w (w.alloc (.cells #[.int .u64 0] 28)) := (Kept.refl [] w).alloc _
  have hC0 := h.kept hk0 (by simp) (by simp)
  have hF0 := hF.kept hk0 (by simp)
  have p0 := hF.sa; rw [hsa] at p0
  have p1 := hF0.sa; rw [hsa] at p1
  have g0 : (w.alloc (.cells #[.int .u64 0] 28)).heap[w.heap.size]? = some (.cells #[.int .u64 0] 28 (0, 0)) := heap_alloc_new _ _
  have a0 : (w.alloc (.cells #[.int .u64 0] 28)).cell? ⟨w.heap.size, 0, none⟩ = some (.int .u64 0) := cell_of_row _ _ _ _ _ _ g0
  have b0 : (w.alloc (.cells #[.int .u64 0] 28)).frozen? ⟨w.heap.size, 0, none⟩ = false := frozen_of_row _ _ _ _ _ g0
  have hclt := h.lt
  have hlo := h.lo
  have hqlt := hF.lt
  have H := Lib.hid h; have HF := Lib.hid hF; have HC0 := Lib.hid hC0; have HF0 := Lib.hid hF0; have HK0 := Lib.hid hk0; have HSA := Lib.hid hsa
  clear h hF hC0 hF0 hk0 hsa g0
  go_enter Tryd.func29, Tryd.ntmps29
  go_wp2_with fail
  refine (number_r base c w.heap.size 0 1 0 true A k l f _ HC0.out (by simp; omega) a0 b0 (by omega) (by omega) (by omega)).mono ?_
  rintro x w1 ⟨rfl, hN1⟩
  rw [show Int.toNat 1 = 1 from rfl] at hN1
  obtain ⟨A1, k1, hC1, hK1, e1⟩ := hN1.facts (by omega) hlo (by omega) a0
  have hF1 : FB w1 q F := HF0.out.kept hK1 (by simp; omega)
  have hK1' : Kept [c] w w1 := (HK0.out.mono (T := [c]) (fun _ _ hm => by cases hm)).trans hK1 (fun j hj hm => by simp at hm ⊢; omega)
  have hn := getN_lt (rdTake l f 1).1 1 true
  obtain ⟨_, d1, d2, _⟩ := hC1.cell
  have p2 := hF1.sa; rw [HSA.out] at p2
  have f2 := hF1.frozen 15
  have hsz := hK1'.size
  obtain ⟨n, hne⟩ : ∃ n, n = getN (rdTake l f 1).1 0 1 true := ⟨_, rfl⟩
  rw [← hne] at e1 hn
  have HNE := Lib.hid hne
  have HC1 := Lib.hid hC1; have HF1 := Lib.hid hF1; have HK1 := Lib.hid hK1'
  clear hC1 hF1 hK1' hK1 hN1 hne a0 b0 p0 p1
  by_cases hgo : (rdTake l f 1).2.2 = false ∧ 0 < n
  rotate_left
  · have hcount : rdCount l f = 0 := by
      unfold rdCount
      by_cases hx : (rdTake l f 1).2.2 = false
      · rw [if_pos hx, ← HNE.out]
        rcases Nat.eq_zero_or_pos n with h | h
        · exact h
        · exact absurd ⟨hx, h⟩ hgo
      · rw [if_neg hx]
    have hres : rdAddrs l f = ([], (rdTake l f 1).2.1, (rdTake l f 1).2.2) := by unfold rdAddrs; rw [hcount]; rfl
    have hfin : Addrsed w w1 base c q F l f := by
      refine ⟨A1, k1, none, 0, ?_, ?_, ?_, HK1.out.mono (fun j _ hm => by simp at hm ⊢; exact .inl hm), by simp, ?_⟩
      · rw [hres]; exact HC1.out
      · rw [hres]
        rw [show ({ F with sa := .slice none ([] : List (Int × Int)).length 0 } : Fr) = F from Fr.sa_same HSA.out]
        exact HF1.out
      · rw [hres]; exact Rd.nil
      · rw [hres]; simp
    have HFIN := Lib.hid hfin
    have e1' : n = 0 → w1.cell? ⟨w.heap.size, 0, none⟩ = some (.int .u64 0) := fun h => by rw [e1, h]; rfl
    clear hfin hres hcount
    cases hx : (rdTake l f 1).2.2
    · rw [hx] at d2
      have hn0 : n = 0 := by
        rcases Nat.eq_zero_or_pos n with h | h
        · exact h
        · exact absurd ⟨hx, h⟩ hgo
      have e3 := e1' hn0
      clear e1 e1' hgo hx hn0 hn
      go_wp2
      refine wp_loop_rounds 1 ?_
      rw [rounds_succ]
      go_wp2
      go_end0
      exact ⟨rfl, HFIN.out⟩
    · rw [hx] at d2
      clear e1' hx hgo
      go_wp2
      refine wp_loop_rounds 1 ?_
      rw [rounds_succ]
      go_wp2
      go_end0
      exact ⟨rfl, HFIN.out⟩
  · obtain ⟨hf0, hn0⟩ := hgo
    have hcount : rdCount l f = n := by unfold rdCount; rw [if_pos hf0, ← HNE.out]
    rw [hf0] at d2
    have HF0' := Lib.hid hf0; have HCN := Lib.hid hcount
    clear hf0 hcount
    have hn' : n < 256 := by simpa using hn
    clear hn
    go_wp2_with (with_reducible show wpList _ _ _ (⟨some 30, _, _, _, _, _⟩ :: _) _ _; refine wpList_make_full _ rfl _ _ 27 rfl w.heap.size 26 i0 _ 2 Tryd.underlying27 hi hz0 hz1 .u64 .u64 _ _ n rfl rfl rfl rfl (by rw [hz2]; omega) (by unfold maxLen; omega) hsz ?_)
    intro w2 hown2 hg2
    have hk2 : Kept [] w1 w2 := (Kept.refl [] _).grown hg2 (by simp)
    have p3 := (hk2.cell (p := ⟨q, 15, none⟩) HF1.out.lt (by simp)).trans p2
    have f3 := (hk2.frozen (p := ⟨q, 15, none⟩) HF1.out.lt (by simp)).trans f2
    have hgb : w2.heap[w1.heap.size]? = some (.cells (avs (List.replicate n (0, 0))).toArray 26 (0, 0)) := by
      rcases hown2.2 with ⟨hv, _⟩ | ⟨g', cap, cur, hv, _, hh, _, _, hs, ht⟩
      · cases hv
      · injection hv with hA _ hc
        injection hA with hA
        injection hA with hA _
        subst hA hc
        rw [List.take_of_length_le (by simp; omega)] at ht
        rw [hh]
        have : cur = (avs (List.replicate n (0, 0))).toArray := by
          apply Array.ext'
          rw [ht]
          exact avs_zero n
        rw [this]
    have HGB := Lib.hid hgb; have HK2 := Lib.hid hk2
    clear hgb hk2 hown2 hg2
    go_wp2
    obtain ⟨L, hL⟩ : ∃ L, L = (rdTake l f 1).2.1 := ⟨_, rfl⟩
    obtain ⟨g, hg⟩ : ∃ g, g = w1.heap.size := ⟨_, rfl⟩
    have hfb3 : FB (w2.setCell ⟨q, 15, none⟩ (.slice (some ⟨w1.heap.size, 0, none⟩) n n)) q { F with sa := .slice (some ⟨w1.heap.size, 0, none⟩) n n } := by
      have hF2 := HF1.out.kept HK2.out (by simp)
      refine ⟨?_, hF2.id, hF2.key⟩
      rw [← Fr.set_sa hF2.id]
      exact heap_setCell_same w2 q 15 _ _ _ hF2.blk
    have hk3 : Kept [q] w2 (w2.setCell ⟨q, 15, none⟩ (.slice (some ⟨w1.heap.size, 0, none⟩) n n)) := (Kept.refl _ _).setCell (by simp) _
    have hc3 := (HC1.out.kept HK2.out (by simp) (by simp)).kept hk3 (by simpa using fun e => hqc e.symm) (by simpa using hq)
    have hg3 : (w2.setCell ⟨q, 15, none⟩ (.slice (some ⟨w1.heap.size, 0, none⟩) n n)).heap[w1.heap.size]? = some (.cells (avs (filledA L false n 0)).toArray 26 (0, 0)) := by
      rw [hk3.block _ (by obtain ⟨h1, _⟩ := Array.getElem?_eq_some_iff.1 HGB.out; exact h1) (by simp; omega), HGB.out]
      simp [filledA, rdLoop]
    have hk3' : Kept [c, q] w (w2.setCell ⟨q, 15, none⟩ (.slice (some ⟨w1.heap.size, 0, none⟩) n n)) :=
      ((HK1.out.trans HK2.out (by simp)).mono (T := [c, q]) (fun j _ hm => by simp at hm ⊢; exact .inl hm)).trans hk3 (fun j _ hm => by simp at hm ⊢; exact .inr hm)
    rw [HF0'.out, ← hL] at hc3
    rw [← hg] at hfb3 hc3 hg3 hk3' hsz
    have HFB3 := Lib.hid hfb3; have HC3 := Lib.hid hc3; have HG3 := Lib.hid hg3; have HK3 := Lib.hid hk3'
    have HLe := Lib.hid hL
    rw [← hg]
    clear hfb3 hc3 hg3 hk3 hk3' hL HGB HK2 p3 f3 d1 d2 e1 p2 f2 hg
    go_loopw [5, 36] (fun _ j wr => ∃ (k : Nat) (Ar : Option Addr) (kr : Nat), k ≤ n ∧ j = .int .i64 k ∧ Hid (CR wr base c Ar kr (rdLoop L false k).2.1 (rdLoop L false k).2.2) ∧ Hid (FB wr q { F with sa := .slice (some ⟨g, 0, none⟩) n n }) ∧
        Hid (wr.heap[g]? = some (.cells (avs (filledA L false n k)).toArray 26 (0, 0))) ∧ Hid (Kept [c, q] w wr))
      (fun _ j _ => n - (intOf j).toNat)
    case atStart => exact ⟨0, A1, k1, Nat.zero_le _, rfl, HC3.out, HFB3.out, HG3.out, HK3.out⟩
    case round =>
      obtain ⟨k, Ar, kr, hk, rfl, HCr, HFr, HGr, HKr⟩ := hrel
      have s1 := HFr.out.sa
      by_cases hlt : k < n
      · have hgl : g < wr.heap.size := by obtain ⟨h1, _⟩ := Array.getElem?_eq_some_iff.1 HGr.out; exact h1
        have hz := avs_get (filledA L false n k) k (by rw [filledA_length _ _ _ _ hk]; exact hlt)
        rw [filledA_get _ _ _ _ hlt, show 2 * k = k * 2 by omega] at hz
        have x1 : wr.cell? ⟨g, k * 2, none⟩ = some (.int .u32 0) := by rw [cell_of_row _ _ _ _ _ _ HGr.out]; simpa using hz.1
        have x2 : wr.cell? ⟨g, k * 2 + 1, none⟩ = some (.int .i64 0) := by rw [cell_of_row _ _ _ _ _ _ HGr.out]; simpa using hz.2
        have y1 : wr.frozen? ⟨g, k * 2, none⟩ = false := frozen_of_row _ _ _ _ _ HGr.out
        have y2 : wr.frozen? ⟨g, k * 2 + 1, none⟩ = false := frozen_of_row _ _ _ _ _ HGr.out
        have HX := Lib.hid (And.intro x1 (And.intro x2 (And.intro y1 y2)))
        clear hz x1 x2 y1 y2
        go_wp2_with fail
        refine (addr_r base c g (k * 2) 0 0 Ar kr _ _ wr HCr.out (by have := HKr.out.size; omega) HX.out.1 HX.out.2.1 HX.out.2.2.1 HX.out.2.2.2 (by omega) (by omega) (by omega) (by omega) (by omega)).mono ?_
        rintro x w4 ⟨rfl, wx, A4, k4, hkx, hCx, hw4⟩
        have hkg : Kept [g] wx w4 := by rw [hw4]; exact ((Kept.refl _ _).setCell (by simp) _).setCell (by simp) _
        have hC4 := hCx.kept hkg (by simp; omega) (by simp; omega)
        have hF4 := (HFr.out.kept hkx (by simpa using hqc)).kept hkg (by simp; omega)
        have hg4 : w4.heap[g]? = some (.cells (avs (filledA L false n (k + 1))).toArray 26 (0, 0)) := by
          have hgx := (hkx.block g hgl (by simp; omega)).trans HGr.out
          have h1 := heap_setCell_same wx g (k * 2) _ _ (.int .u32 (rdAddr (rdLoop L false k).2.1 (rdLoop L false k).2.2).1.1) hgx
          have h2 := heap_setCell_same _ g (k * 2 + 1) _ _ (.int .i64 (rdAddr (rdLoop L false k).2.1 (rdLoop L false k).2.2).1.2) h1
          rw [hw4, h2]
          simp only [List.setIfInBounds_toArray]
          rw [avs_set, ← filledA_set L false n k hlt]
        have hk4 : Kept [c, q] w w4 := (HKr.out.trans hkx (fun j _ hm => by simp at hm ⊢; exact .inl hm)).trans hkg (fun j hj hm => by simp at hm; omega)
        have HC4 := Lib.hid hC4; have HF4 := Lib.hid hF4; have HG4 := Lib.hid hg4; have HK4 := Lib.hid hk4
        clear hC4 hF4 hg4 hk4 hkg hkx hCx hw4
        go_wp2
        go_roundw
        case rel => exact ⟨k + 1, A4, k4, by omega, by go_num, HC4.out, HF4.out, HG4.out, HK4.out⟩
        case measure => simp [intOf]; omega
      · have hke : k = n := by omega
        subst hke
        have hres : rdAddrs l f = rdLoop L false k := by unfold rdAddrs; rw [HCN.out, HF0'.out, ← HLe.out]
        have hfa : filledA L false k k = (rdLoop L false k).1 := by simp [filledA]
        have HRES := Lib.hid hres; have HFA := Lib.hid hfa
        clear hres hfa
        go_wp2
        go_end0
        refine ⟨rfl, Ar, kr, some ⟨g, 0, none⟩, k, ?_, ?_, ?_, HKr.out, ?_, ?_⟩
        · rw [HRES.out]; exact HCr.out
        · rw [HRES.out, rdLoop_length]; exact HFr.out
        · rw [HRES.out, ← HFA.out]
          exact fun _ => ⟨g, 0, rfl, by obtain ⟨h1, _⟩ := Array.getElem?_eq_some_iff.1 HGr.out; exact h1, fun j u hu => by
            rw [cell_of_row _ _ _ _ _ _ HGr.out, Nat.zero_add]; simpa using hu⟩
        · intro a e; injection e with e; subst e; exact ⟨hsz, by obtain ⟨h1, _⟩ := Array.getElem?_eq_some_iff.1 HGr.out; exact h1⟩
        · rw [HRES.out, rdLoop_length]; exact hn'
end Go.Proofs.YthnmjpohdlimiaaDoor
