/- hatchwaylaw13.FrameBack: what was told is read as it was, and is the reader's. -/
import Derived.Test.YthnmjpohdlimiaaDoorSame
namespace Go.Proofs.YthnmjpohdlimiaaDoor
open Go.RowKit

theorem avs_take (xs : List (Int × Int)) : ∀ n, avs (xs.take n) = (avs xs).take (n * 2) := by
  induction xs with
  | nil => intro n; simp [avs]
  | cons x xs ih =>
    intro n
    rcases n with _ | n
    · simp [avs]
    · rw [List.take_succ_cons, avs_cons, avs_cons, ih, show (n + 1) * 2 = n * 2 + 1 + 1 by omega, List.take_succ_cons, List.take_succ_cons]
theorem good_cut {w : World} {F : Fr} {A1 A2 : Option Addr} {k1 k2 : Nat} {xs : List (Int × Int)} {ds : List UInt8} (h : Good w F A1 A2 k1 k2 xs ds) :
    Good w (cutFr F A1 A2 (xs.take 10).length k1 (ds.take 1600).length k2) A1 A2 k1 k2 (xs.take 10) (ds.take 1600) := by
  refine ⟨h.id, h.key, rfl, rfl, ?_, ?_, h.a1, h.a2, h.h0, h.h1, h.n0, h.n1⟩
  · have e := avs_take xs 10
    rw [e]
    exact h.r1.take 20
  · rw [← bvs_take]
    exact h.r2.take 1600
theorem Kept.rd0 {w w' : World} {A : Option Addr} {xs : List Value} (hk : Kept [] w w') (h : Rd w A xs) : Rd w' A xs := h.kept0 hk
/-- What a boxed frame reads as, whole. -/
theorem frc {w : World} {q : Nat} {F : Fr} (h : FB w q F) : ∀ j u, F.list[j]? = some u → w.cell? ⟨q, 0 + j, none⟩ = some u := fun j u hu => by
  rw [Nat.zero_add, h.cell]; simpa [Fr.cells] using hu
theorem fri {F : Fr} (h1 : F.id.length = 12) (h2 : F.key.length = 32) : (Tryd.prog.info? 33).map (·.size) = some F.list.length := by
  rw [info_frame, ← Fr.size h1 h2]; rfl


theorem if_step {c : Bool} {X Y : Prop} (hw : c = true) (h : X) : if c = true then X else Y := by rw [if_pos hw]; exact h
theorem RefG.other {w : World} {F F' : Fr} {I A1 Kk A2 : Option Addr} {xs : List (Int × Int)} {ds : List UInt8} (h : RefG w F I A1 Kk A2 xs ds) (e1 : F'.id = F.id) (e2 : F'.key = F.key) (e3 : F'.host = F.host) (e4 : F'.n = F.n) : RefG w F' I A1 Kk A2 xs ds :=
  ⟨by rw [e1]; exact h.id, by rw [e2]; exact h.key, by rw [e1]; exact h.ri, h.r1, by rw [e2]; exact h.rk, h.r2, by rw [e3]; exact h.h0, by rw [e3]; exact h.h1, by rw [e4]; exact h.n0, by rw [e4]; exact h.n1⟩
set_option maxRecDepth 100000 in
set_option maxHeartbeats 4000000 in
theorem back_true (F : Fr) (A1 A2 : Option Addr) (k1 k2 : Nat) (xs : List (Int × Int)) (ds : List UInt8) (w : World) (hL : Laid w) (hg : Good w F A1 A2 k1 k2 xs ds) (hin : AddrsIn xs) (h1 : xs.length ≤ k1) (h2 : k1 ≤ maxLen) (h3 : ds.length ≤ k2) (h4 : k2 ≤ maxLen)
    (hp : -9223372036854775808 ≤ F.port ∧ F.port ≤ 9223372036854775807) :
    Calls Tryd.prog 5 #[.agg F.cells] w fun x w' => x = .returned (.bool true) ∧ Kept [] w w' := by
  obtain ⟨xs', hxs'⟩ : ∃ xs', xs' = xs.take 10 := ⟨_, rfl⟩
  obtain ⟨ds', hds'⟩ : ∃ ds', ds' = ds.take 1600 := ⟨_, rfl⟩
  obtain ⟨G, hG⟩ : ∃ G, G = cutFr F A1 A2 xs'.length k1 ds'.length k2 := ⟨_, rfl⟩
  have hgc := good_cut hg
  rw [← hxs', ← hds', ← hG] at hgc
  have hx10 : xs'.length ≤ 10 := by rw [hxs', List.length_take]; omega
  have hd16 : ds'.length ≤ 1600 := by rw [hds', List.length_take]; omega
  have hinc : AddrsIn xs' := by rw [hxs']; exact hin.take 10
  have hpc : -9223372036854775808 ≤ G.port ∧ G.port ≤ 9223372036854775807 := by rw [hG]; exact hp
  have hf0 : FB (w.alloc (.cells F.cells 33)) w.heap.size F := ⟨heap_alloc_new _ _, hg.id, hg.key⟩
  have hk0 : Kept [] w (w.alloc (.cells F.cells 33)) := (Kept.refl [] w).alloc _
  have few := fun w' (hk : Kept [] w w') => few_any F A1 A2 k1 k2 xs ds w' (hg.kept hk) h1 h2 h3 h4
  rw [← hxs', ← hds', ← hG] at few
  have FEW := Lib.hid few
  have HL := Lib.hid hL; have HF0 := Lib.hid hf0; have HK0 := Lib.hid hk0; have HGC := Lib.hid hgc; have HIN := Lib.hid hinc; have HPC := Lib.hid hpc
  have HFI := Lib.hid hg.id; have HFK := Lib.hid hg.key
  clear hL hg hin h1 h2 h3 h4 hp hxs' hds' hG hgc hinc hpc hf0 hk0 few
  go_enter Tryd.func5, Tryd.ntmps5
  go_wp2_with fail
  refine (shown_true _ (HL.out.kept HK0.out (by simp))).mono ?_
  rintro x w1 ⟨rfl, hk1⟩
  have hf1 := HF0.out.kept hk1 (by simp)
  have FRC1 := Lib.hid (frc hf1)
  have FRI1 := Lib.hid (fri HFI.out HFK.out)
  have HK1 := Lib.hid (HK0.out.trans0 hk1); have HF1 := Lib.hid hf1
  clear hk1 hf1
  go_wp2_with (first
    | ((with_reducible show wpList _ _ _ (⟨some 10, Op.load _ _, _, _, _, _⟩ :: _) _ _); refine wpList_load_part _ 33 _ rfl rfl w.heap.size 0 rfl F.list _ FRC1.out Tryd.underlying33 rfl FRI1.out ?_))
  refine (FEW.out w1 HK1.out).mono ?_
  rintro x w2 ⟨rfl, hk2⟩
  have hf2 := HF1.out.kept hk2 (by simp)
  have hf3 : FB (w2.setRow w.heap.size G.cells) w.heap.size G := ⟨setRow_heap _ _ _ _ _ _ hf2.blk, HGC.out.id, HGC.out.key⟩
  have hk3 : Kept [] w (w2.setRow w.heap.size G.cells) := (HK1.out.trans0 hk2).trans (kept_setRow _ _ _) (fun j hj hm => by simp at hm; omega)
  have F50 := Lib.hid (Fr.size HFI.out HFK.out); have G50 := Lib.hid (Fr.size HGC.out.id HGC.out.key)
  have G1C := Lib.hid (Fr.one G (by rw [HGC.out.sa]; rfl) (by rw [HGC.out.sd]; rfl))
  obtain ⟨w3, hw3⟩ : ∃ w3, w3 = w2.setRow w.heap.size G.cells := ⟨_, rfl⟩
  rw [← hw3] at hf3 hk3
  have HW3 := Lib.hid hw3
  have HF2 := Lib.hid hf2; have HF3 := Lib.hid hf3; have HK3 := Lib.hid hk3
  have FRC3 := Lib.hid (frc hf3)
  have GRI := Lib.hid (fri HGC.out.id HGC.out.key)
  clear hk2 hf2 hf3 hk3 hw3
  go_wp2_with (first
    | ((with_reducible show wpList _ _ _ (⟨none, Op.store 33 (.tmp 1) (.tmp 11), _, _, _, _⟩ :: _) _ _); refine wpList_store_whole _ 33 (.tmp 1) (.tmp 11) rfl rfl w.heap.size (by rfl) G.cells (by rfl) _ _ HF2.out.blk (G50.out.trans F50.out.symm) (info_frame.trans (congrArg some G50.out.symm)) G1C.out _ HW3.out.symm ?_)
    | ((with_reducible show wpList _ _ _ (⟨some 13, Op.load _ _, _, _, _, _⟩ :: _) _ _); refine wpList_load_part _ 33 _ rfl rfl w.heap.size 0 rfl G.list _ FRC3.out Tryd.underlying33 rfl GRI.out ?_))
  by_cases hri : rightF G xs' ds' = true
  · have HRI := Lib.hid hri
    clear hri
    refine (encode_yes G A1 A2 k1 k2 xs' ds' _ (HL.out.kept HK3.out (by simp)) (HGC.out.kept HK3.out) HIN.out.hosts (by omega) (by omega) HRI.out).mono ?_
    rintro x w4 ⟨v4, rfl, hown4, hk4⟩
    obtain ⟨N, hN⟩ : ∃ N, N = (encF G xs' ds').length := ⟨_, rfl⟩
    have h1500 : N ≤ 1500 := by rw [hN]; exact (rightF_gives HRI.out).2.2.2.2.2.1
    have hN0 : 0 < N := by rw [hN]; simp [encF]
    rcases own_form hown4 with ⟨hv, hn, _⟩ | ⟨gb, cap, cur, hv4, hgb1, hgb3, hgb2, hcap1, hcap2, hcur, _⟩
    · rw [hN] at hN0; omega
    subst hv4
    rw [← hN] at hcap1 ⊢
    have hrd4 := Rd.of_own hown4
    have hf4 := HF3.out.kept hk4 (by simp)
    have HK4 := Lib.hid (HK3.out.trans0 hk4); have HF4 := Lib.hid hf4; have HR4 := Lib.hid hrd4; have HNE := Lib.hid hN

    have hgb4 : w.heap.size < gb := by have := HF3.out.lt; omega
    have HCUR := Lib.hid hcur
    have HGB := Lib.hid hgb2
    clear hk4 hf4 hown4 hrd4 hN hgb2 hcur
    go_wp2_with fail
    refine (back_any HRI.out HGC.out.id HGC.out.key HGC.out.h0 HGC.out.h1 HGC.out.n0 HGC.out.n1 HIN.out.hosts (some ⟨gb, 0, none⟩) cap N w4 HNE.out (HL.out.kept HK4.out (by simp)) HR4.out (by first | exact hcap1 | omega) hcap2).mono ?_
    rintro x w5 ⟨hk5, B1, B2, j1, j2, rfl, hg5, hb1, hb2⟩
    obtain ⟨D, hD⟩ : ∃ D : Fr, D = { G with sa := .slice B1 xs'.length j1, sd := .slice B2 ds'.length j2 } := ⟨_, rfl⟩
    rw [← hD] at hg5 ⊢
    have HSZ := Lib.hid (Fr.size hg5.id hg5.key)
    have H1C := Lib.hid (Fr.one D (by rw [hg5.sa]; rfl) (by rw [hg5.sd]; rfl))
    have hs5 := hk5.size
    have hf6 := (HF4.out.kept hk5 (by simp)).kept ((Kept.refl [] w5).alloc (.cells D.cells 33)) (by simp)
    have hd6 : FB (w5.alloc (.cells D.cells 33)) w5.heap.size D := ⟨heap_alloc_new _ _, hg5.id, hg5.key⟩
    have hk6 : Kept [] w4 (w5.alloc (.cells D.cells 33)) := hk5.alloc _
    have hg6 := hg5.kept ((Kept.refl [] w5).alloc (.cells D.cells 33))
    have hgb6 := (hk6.block gb hgb3 (by simp)).trans HGB.out
    obtain ⟨b6, hb6⟩ : ∃ b6, b6 = w5.heap.size := ⟨_, rfl⟩
    obtain ⟨w6, hw6⟩ : ∃ w6, w6 = w5.alloc (.cells D.cells 33) := ⟨_, rfl⟩
    rw [← hw6] at hf6 hd6 hk6 hg6 hgb6
    rw [← hb6] at hd6
    have HW6 := Lib.hid hw6; have HB6 := Lib.hid hb6
    have hgb7 : gb < b6 := by omega
    have hd4 : D.kind = G.kind ∧ D.id = G.id ∧ D.host = G.host ∧ D.port = G.port ∧ D.n = G.n ∧ D.key = G.key := by rw [hD]; exact ⟨rfl, rfl, rfl, rfl, rfl, rfl⟩
    have HDD := Lib.hid hd4; have HF6 := Lib.hid hf6; have HD6 := Lib.hid hd6; have HK6 := Lib.hid (HK4.out.trans0 hk6); have HG6 := Lib.hid hg6; have HGB6 := Lib.hid hgb6
    have HB1 := Lib.hid hb1; have HB2 := Lib.hid hb2
    clear hk5 hg5 hb1 hb2 hD hf6 hd6 hk6 hg6 hgb6 hw6 hb6 hd4
    go_wp2_with (first
      | ((with_reducible show wpList _ _ _ (⟨some 6, Op.alloc _, _, _, _, _⟩ :: _) _ _); refine wpList_alloc_known _ 33 rfl rfl _ (run_alloc_frame _) ?_)
      | ((with_reducible show wpList _ _ _ (⟨none, Op.store 33 (.tmp 6) (.tmp 33), _, _, _, _⟩ :: _) _ _); refine wpList_store_whole _ 33 (.tmp 6) (.tmp 33) rfl rfl w5.heap.size (by rfl) D.cells (by rfl) _ _ (heap_alloc_new _ _) (HSZ.out.trans (Fr.new_size _).symm) (info_frame.trans (congrArg some HSZ.out.symm)) H1C.out _ (setRow_new _ _ _ _) ?_))
    rw [← HW6.out, ← HB6.out]
    go_loopw [8] (fun i wr => ∃ (t : Nat) (cu : Array Value), t ≤ N ∧ i = .int .i64 t ∧ Hid (wr.heap[gb]? = some (.cells cu 5 (0, 0)) ∧ cu.size = cap) ∧ Hid (Kept [gb] w6 wr)) (fun i _ => N - (intOf i).toNat)
    case atStart => exact ⟨0, cur, Nat.zero_le _, rfl, ⟨HGB6.out, HCUR.out⟩, Kept.refl _ _⟩
    case round =>
      obtain ⟨t, cu, ht, rfl, HCU, HKr⟩ := hrel
      by_cases hlt : t < N
      · obtain ⟨u, hu⟩ : ∃ u, cu[t]? = some u := ⟨_, Array.getElem?_eq_getElem (by have := HCU.out.2; omega)⟩
        have hcell : wr.cell? ⟨gb, t, none⟩ = some u := (cell_of_row _ _ _ _ _ _ HCU.out.1).trans hu
        have hfr : wr.frozen? ⟨gb, t, none⟩ = false := frozen_of_row _ _ _ _ _ HCU.out.1
        clear hu
        go_wp2
        go_roundw
        case rel => exact ⟨t + 1, cu.setIfInBounds t (.int .u8 99), by omega, by go_num, ⟨heap_setCell_same _ _ _ _ _ _ HCU.out.1, by simp [HCU.out.2]⟩, HKr.out.setCell (by simp) _⟩
        case measure => simp [intOf]; omega
      · have hsB : w.heap.size ≠ gb := by omega
        have hfw := HF6.out.kept HKr.out (by simpa using hsB)
        have hdw := HD6.out.kept HKr.out (by simp; omega)
        have hgw : Good wr G A1 A2 k1 k2 xs' ds' := (HGC.out.kept HK6.out).keptS HKr.out (fun a e => by have := HGC.out.a1 a e; simp; omega) (fun a e => by have := HGC.out.a2 a e; simp; omega)
        have hdg : Good wr D B1 B2 j1 j2 xs' ds' := HG6.out.keptS HKr.out (fun a e => by have := HB1.out a e; simp; omega) (fun a e => by have := HB2.out a e; simp; omega)
        have hlw : Laid wr := (HL.out.kept HK6.out (by simp)).kept HKr.out (by have := HL.out.1; simp; omega)
        have hkw : Kept [] w wr := HK6.out.trans HKr.out (fun j hj hm => by simp at hm; omega)
        have hkz : Kept [] wr wr.drew := (Kept.refl [] wr).drew
        obtain ⟨w7, hw7⟩ : ∃ w7, w7 = wr.drew := ⟨_, rfl⟩
        have hkz' : Kept [] wr w7 := by rw [hw7]; exact hkz
        have HW7 := Lib.hid hw7
        have PF7 := Lib.hid (hfw.kept hkz' (by simp)); have PD7 := Lib.hid (hdw.kept hkz' (by simp)); have GG7 := Lib.hid (hgw.kept hkz'); have GD7 := Lib.hid (hdg.kept hkz'); have LW7 := Lib.hid (hlw.kept hkz' (by simp)); have KW7 := Lib.hid (hkw.trans0 hkz')
        have FG7 := Lib.hid (frc PF7.out); have FD7 := Lib.hid (frc PD7.out)
        have DRI := Lib.hid (fri hdw.id hdw.key)
        clear hfw hdw hgw hdg hlw hkw hkz hkz' hw7 HCU
        go_wp2_with fail
        refine wp_region_any (by kernel_rfl) ?_
        change wpAny _ _ _ _ _ _ _ (World.drew _)
        rw [← HW7.out]
        refine wpAny_ready (rs := [0]) (by kernel_rfl) (by simp) ?_
        refine (AllReady.cons rfl (fun K hK => ?_) AllReady.nil)
        go_simp
        refine hK _ _ ?_
        clear hK K
        refine wpAny_ready (rs := [1]) (by kernel_rfl) (by simp) ?_
        refine (AllReady.cons rfl (fun K hK => ?_) AllReady.nil)
        go_simp
        refine hK _ _ ?_
        clear hK K
        refine wpAny_ready (rs := [2]) (by kernel_rfl) (by simp) ?_
        refine (AllReady.cons rfl (fun K hK => ?_) AllReady.nil)
        refine if_step rfl ?_
        refine wp_load_part _ 33 _ rfl w.heap.size 0 rfl G.list _ FG7.out Tryd.underlying33 rfl GRI.out ?_
        try go_simp
        refine hK _ _ ?_
        clear hK K
        refine wpAny_ready (rs := [3]) (by kernel_rfl) (by simp) ?_
        refine (AllReady.cons rfl (fun K hK => ?_) AllReady.nil)
        refine if_step rfl ?_
        go_simp
        go_at_call 11
        refine (right_any G A1 A2 k1 k2 xs' ds' _ LW7.out GG7.out HIN.out.hosts (by omega) (by omega)).mono ?_
        rintro x w7x ⟨rfl, hk⟩
        rw [HRI.out]
        have PF7x := Lib.hid (PF7.out.kept hk (by simp)); have PD7x := Lib.hid (PD7.out.kept hk (by simp)); have GG7x := Lib.hid (GG7.out.kept hk); have GD7x := Lib.hid (GD7.out.kept hk); have LW7x := Lib.hid (LW7.out.kept hk (by simp)); have KW7x := Lib.hid (KW7.out.trans0 hk)
        have FG7x := Lib.hid (frc PF7x.out); have FD7x := Lib.hid (frc PD7x.out)
        clear hk
        try go_simp
        refine hK _ _ ?_
        clear hK K
        refine wpAny_ready (rs := [4]) (by kernel_rfl) (by simp) ?_
        refine (AllReady.cons rfl (fun K hK => ?_) AllReady.nil)
        go_simp
        refine hK _ _ ?_
        clear hK K
        refine wpAny_ready (rs := [5]) (by kernel_rfl) (by simp) ?_
        refine (AllReady.cons rfl (fun K hK => ?_) AllReady.nil)
        go_simp
        refine hK _ _ ?_
        clear hK K
        refine wpAny_ready (rs := [6]) (by kernel_rfl) (by simp) ?_
        refine (AllReady.cons rfl (fun K hK => ?_) AllReady.nil)
        go_simp
        refine hK _ _ ?_
        clear hK K
        refine wpAny_ready (rs := [7]) (by kernel_rfl) (by simp) ?_
        refine (AllReady.cons rfl (fun K hK => ?_) AllReady.nil)
        go_simp
        refine hK _ _ ?_
        clear hK K
        refine wpAny_ready (rs := [8]) (by kernel_rfl) (by simp) ?_
        refine (AllReady.cons rfl (fun K hK => ?_) AllReady.nil)
        go_simp
        refine hK _ _ ?_
        clear hK K
        refine wpAny_ready (rs := [9]) (by kernel_rfl) (by simp) ?_
        refine (AllReady.cons rfl (fun K hK => ?_) AllReady.nil)
        go_simp
        refine hK _ _ ?_
        clear hK K
        refine wpAny_ready (rs := [10, 11]) (by kernel_rfl) (by simp) ?_
        refine (AllReady.cons rfl (fun K hK => ?_) (AllReady.cons rfl (fun K hK => ?_) AllReady.nil))
        · refine if_step rfl ?_
          refine wp_load_part _ 33 _ rfl b6 0 rfl D.list _ FD7x.out Tryd.underlying33 rfl DRI.out ?_
          try go_simp
          refine hK _ _ ?_
          clear hK K
          refine wpAny_ready (rs := [11]) (by kernel_rfl) (by simp) ?_
          refine (AllReady.cons rfl (fun K hK => ?_) AllReady.nil)
          refine if_step rfl ?_
          refine wp_load_part _ 33 _ rfl w.heap.size 0 rfl G.list _ FG7x.out Tryd.underlying33 rfl GRI.out ?_
          try go_simp
          refine hK _ _ ?_
          clear hK K
          refine wpAny_ready (rs := [12]) (by kernel_rfl) (by simp) ?_
          refine (AllReady.cons rfl (fun K hK => ?_) AllReady.nil)
          refine if_step rfl ?_
          go_simp
          go_at_call 9
          refine (ref_any G A1 A2 k1 k2 xs' ds' _ GG7x.out).mono ?_
          rintro x w7xx ⟨I, Kk, ci, ck, rfl, hrg, hk⟩
          have HRG := Lib.hid (hrg.other (F' := D) HDD.out.2.1 HDD.out.2.2.2.2.2 HDD.out.2.2.1 HDD.out.2.2.2.2.1)
          have PF7xx := Lib.hid (PF7x.out.kept hk (by simp)); have PD7xx := Lib.hid (PD7x.out.kept hk (by simp)); have GG7xx := Lib.hid (GG7x.out.kept hk); have GD7xx := Lib.hid (GD7x.out.kept hk); have LW7xx := Lib.hid (LW7x.out.kept hk (by simp)); have KW7xx := Lib.hid (KW7x.out.trans0 hk)
          have FG7xx := Lib.hid (frc PF7xx.out); have FD7xx := Lib.hid (frc PD7xx.out)
          clear hk hrg
          try go_simp
          refine hK _ _ ?_
          clear hK K
          refine wpAny_ready (rs := [13]) (by kernel_rfl) (by simp) ?_
          refine (AllReady.cons rfl (fun K hK => ?_) AllReady.nil)
          refine if_step rfl ?_
          go_simp
          go_at_call 15
          have hsm := same_true D B1 B2 j1 j2 xs' ds' I Kk A1 A2 ci k1 ck k2 _ GD7xx.out HRG.out (by omega)
          rw [HDD.out.1, HDD.out.2.2.1, HDD.out.2.2.2.1, HDD.out.2.2.2.2.1] at hsm
          refine hsm.mono ?_
          rintro x w7xxx ⟨rfl, hk⟩
          clear hsm
          have PF7xxx := Lib.hid (PF7xx.out.kept hk (by simp)); have PD7xxx := Lib.hid (PD7xx.out.kept hk (by simp)); have GG7xxx := Lib.hid (GG7xx.out.kept hk); have GD7xxx := Lib.hid (GD7xx.out.kept hk); have LW7xxx := Lib.hid (LW7xx.out.kept hk (by simp)); have KW7xxx := Lib.hid (KW7xx.out.trans0 hk)
          have FG7xxx := Lib.hid (frc PF7xxx.out); have FD7xxx := Lib.hid (frc PD7xxx.out)
          clear hk
          try go_simp
          refine hK _ _ ?_
          clear hK K
          refine wpAny_ready (rs := [14]) (by kernel_rfl) (by simp) ?_
          refine (AllReady.cons rfl (fun K hK => ?_) AllReady.nil)
          go_simp
          refine hK _ _ ?_
          clear hK K
          refine wpAny_ready (rs := [15]) (by kernel_rfl) (by simp) ?_
          refine (AllReady.cons rfl (fun K hK => ?_) AllReady.nil)
          go_simp
          refine hK _ _ ?_
          clear hK K
          refine wpAny_ready (rs := [16]) (by kernel_rfl) (by simp) ?_
          refine (AllReady.cons rfl (fun K hK => ?_) AllReady.nil)
          go_simp
          refine hK _ _ ?_
          clear hK K
          refine wpAny_ready (rs := [17]) (by kernel_rfl) (by simp) ?_
          refine (AllReady.cons rfl (fun K hK => ?_) AllReady.nil)
          go_simp
          refine hK _ _ ?_
          clear hK K
          refine wpAny_ready (rs := [18]) (by kernel_rfl) (by simp) ?_
          refine (AllReady.cons rfl (fun K hK => ?_) AllReady.nil)
          go_simp
          refine hK _ _ ?_
          clear hK K
          refine wpAny_ready (rs := [19]) (by kernel_rfl) (by simp) ?_
          refine (AllReady.cons rfl (fun K hK => ?_) AllReady.nil)
          go_simp
          refine hK _ _ ?_
          clear hK K
          refine wpAny_ready (rs := [20]) (by kernel_rfl) (by simp) ?_
          refine (AllReady.cons rfl (fun K hK => ?_) AllReady.nil)
          go_simp
          refine hK _ _ ?_
          clear hK K
          refine wpAny_done (by kernel_rfl) ?_ _
          go_wp2
          go_ret
          exact ⟨by simp; omega, KW7xxx.out⟩
        · refine if_step rfl ?_
          refine wp_load_part _ 33 _ rfl w.heap.size 0 rfl G.list _ FG7x.out Tryd.underlying33 rfl GRI.out ?_
          try go_simp
          refine hK _ _ ?_
          clear hK K
          refine wpAny_ready (rs := [10, 12]) (by kernel_rfl) (by simp) ?_
          refine (AllReady.cons rfl (fun K hK => ?_) (AllReady.cons rfl (fun K hK => ?_) AllReady.nil))
          · refine if_step rfl ?_
            refine wp_load_part _ 33 _ rfl b6 0 rfl D.list _ FD7x.out Tryd.underlying33 rfl DRI.out ?_
            try go_simp
            refine hK _ _ ?_
            clear hK K
            refine wpAny_ready (rs := [12]) (by kernel_rfl) (by simp) ?_
            refine (AllReady.cons rfl (fun K hK => ?_) AllReady.nil)
            refine if_step rfl ?_
            go_simp
            go_at_call 9
            refine (ref_any G A1 A2 k1 k2 xs' ds' _ GG7x.out).mono ?_
            rintro x w7xx ⟨I, Kk, ci, ck, rfl, hrg, hk⟩
            have HRG := Lib.hid (hrg.other (F' := D) HDD.out.2.1 HDD.out.2.2.2.2.2 HDD.out.2.2.1 HDD.out.2.2.2.2.1)
            have PF7xx := Lib.hid (PF7x.out.kept hk (by simp)); have PD7xx := Lib.hid (PD7x.out.kept hk (by simp)); have GG7xx := Lib.hid (GG7x.out.kept hk); have GD7xx := Lib.hid (GD7x.out.kept hk); have LW7xx := Lib.hid (LW7x.out.kept hk (by simp)); have KW7xx := Lib.hid (KW7x.out.trans0 hk)
            have FG7xx := Lib.hid (frc PF7xx.out); have FD7xx := Lib.hid (frc PD7xx.out)
            clear hk hrg
            try go_simp
            refine hK _ _ ?_
            clear hK K
            refine wpAny_ready (rs := [13]) (by kernel_rfl) (by simp) ?_
            refine (AllReady.cons rfl (fun K hK => ?_) AllReady.nil)
            refine if_step rfl ?_
            go_simp
            go_at_call 15
            have hsm := same_true D B1 B2 j1 j2 xs' ds' I Kk A1 A2 ci k1 ck k2 _ GD7xx.out HRG.out (by omega)
            rw [HDD.out.1, HDD.out.2.2.1, HDD.out.2.2.2.1, HDD.out.2.2.2.2.1] at hsm
            refine hsm.mono ?_
            rintro x w7xxx ⟨rfl, hk⟩
            clear hsm
            have PF7xxx := Lib.hid (PF7xx.out.kept hk (by simp)); have PD7xxx := Lib.hid (PD7xx.out.kept hk (by simp)); have GG7xxx := Lib.hid (GG7xx.out.kept hk); have GD7xxx := Lib.hid (GD7xx.out.kept hk); have LW7xxx := Lib.hid (LW7xx.out.kept hk (by simp)); have KW7xxx := Lib.hid (KW7xx.out.trans0 hk)
            have FG7xxx := Lib.hid (frc PF7xxx.out); have FD7xxx := Lib.hid (frc PD7xxx.out)
            clear hk
            try go_simp
            refine hK _ _ ?_
            clear hK K
            refine wpAny_ready (rs := [14]) (by kernel_rfl) (by simp) ?_
            refine (AllReady.cons rfl (fun K hK => ?_) AllReady.nil)
            go_simp
            refine hK _ _ ?_
            clear hK K
            refine wpAny_ready (rs := [15]) (by kernel_rfl) (by simp) ?_
            refine (AllReady.cons rfl (fun K hK => ?_) AllReady.nil)
            go_simp
            refine hK _ _ ?_
            clear hK K
            refine wpAny_ready (rs := [16]) (by kernel_rfl) (by simp) ?_
            refine (AllReady.cons rfl (fun K hK => ?_) AllReady.nil)
            go_simp
            refine hK _ _ ?_
            clear hK K
            refine wpAny_ready (rs := [17]) (by kernel_rfl) (by simp) ?_
            refine (AllReady.cons rfl (fun K hK => ?_) AllReady.nil)
            go_simp
            refine hK _ _ ?_
            clear hK K
            refine wpAny_ready (rs := [18]) (by kernel_rfl) (by simp) ?_
            refine (AllReady.cons rfl (fun K hK => ?_) AllReady.nil)
            go_simp
            refine hK _ _ ?_
            clear hK K
            refine wpAny_ready (rs := [19]) (by kernel_rfl) (by simp) ?_
            refine (AllReady.cons rfl (fun K hK => ?_) AllReady.nil)
            go_simp
            refine hK _ _ ?_
            clear hK K
            refine wpAny_ready (rs := [20]) (by kernel_rfl) (by simp) ?_
            refine (AllReady.cons rfl (fun K hK => ?_) AllReady.nil)
            go_simp
            refine hK _ _ ?_
            clear hK K
            refine wpAny_done (by kernel_rfl) ?_ _
            go_wp2
            go_ret
            exact ⟨by simp; omega, KW7xxx.out⟩
          · refine if_step rfl ?_
            go_simp
            go_at_call 9
            refine (ref_any G A1 A2 k1 k2 xs' ds' _ GG7x.out).mono ?_
            rintro x w7xx ⟨I, Kk, ci, ck, rfl, hrg, hk⟩
            have HRG := Lib.hid (hrg.other (F' := D) HDD.out.2.1 HDD.out.2.2.2.2.2 HDD.out.2.2.1 HDD.out.2.2.2.2.1)
            have PF7xx := Lib.hid (PF7x.out.kept hk (by simp)); have PD7xx := Lib.hid (PD7x.out.kept hk (by simp)); have GG7xx := Lib.hid (GG7x.out.kept hk); have GD7xx := Lib.hid (GD7x.out.kept hk); have LW7xx := Lib.hid (LW7x.out.kept hk (by simp)); have KW7xx := Lib.hid (KW7x.out.trans0 hk)
            have FG7xx := Lib.hid (frc PF7xx.out); have FD7xx := Lib.hid (frc PD7xx.out)
            clear hk hrg
            try go_simp
            refine hK _ _ ?_
            clear hK K
            refine wpAny_ready (rs := [10]) (by kernel_rfl) (by simp) ?_
            refine (AllReady.cons rfl (fun K hK => ?_) AllReady.nil)
            refine if_step rfl ?_
            refine wp_load_part _ 33 _ rfl b6 0 rfl D.list _ FD7xx.out Tryd.underlying33 rfl DRI.out ?_
            try go_simp
            refine hK _ _ ?_
            clear hK K
            refine wpAny_ready (rs := [13]) (by kernel_rfl) (by simp) ?_
            refine (AllReady.cons rfl (fun K hK => ?_) AllReady.nil)
            refine if_step rfl ?_
            go_simp
            go_at_call 15
            have hsm := same_true D B1 B2 j1 j2 xs' ds' I Kk A1 A2 ci k1 ck k2 _ GD7xx.out HRG.out (by omega)
            rw [HDD.out.1, HDD.out.2.2.1, HDD.out.2.2.2.1, HDD.out.2.2.2.2.1] at hsm
            refine hsm.mono ?_
            rintro x w7xxx ⟨rfl, hk⟩
            clear hsm
            have PF7xxx := Lib.hid (PF7xx.out.kept hk (by simp)); have PD7xxx := Lib.hid (PD7xx.out.kept hk (by simp)); have GG7xxx := Lib.hid (GG7xx.out.kept hk); have GD7xxx := Lib.hid (GD7xx.out.kept hk); have LW7xxx := Lib.hid (LW7xx.out.kept hk (by simp)); have KW7xxx := Lib.hid (KW7xx.out.trans0 hk)
            have FG7xxx := Lib.hid (frc PF7xxx.out); have FD7xxx := Lib.hid (frc PD7xxx.out)
            clear hk
            try go_simp
            refine hK _ _ ?_
            clear hK K
            refine wpAny_ready (rs := [14]) (by kernel_rfl) (by simp) ?_
            refine (AllReady.cons rfl (fun K hK => ?_) AllReady.nil)
            go_simp
            refine hK _ _ ?_
            clear hK K
            refine wpAny_ready (rs := [15]) (by kernel_rfl) (by simp) ?_
            refine (AllReady.cons rfl (fun K hK => ?_) AllReady.nil)
            go_simp
            refine hK _ _ ?_
            clear hK K
            refine wpAny_ready (rs := [16]) (by kernel_rfl) (by simp) ?_
            refine (AllReady.cons rfl (fun K hK => ?_) AllReady.nil)
            go_simp
            refine hK _ _ ?_
            clear hK K
            refine wpAny_ready (rs := [17]) (by kernel_rfl) (by simp) ?_
            refine (AllReady.cons rfl (fun K hK => ?_) AllReady.nil)
            go_simp
            refine hK _ _ ?_
            clear hK K
            refine wpAny_ready (rs := [18]) (by kernel_rfl) (by simp) ?_
            refine (AllReady.cons rfl (fun K hK => ?_) AllReady.nil)
            go_simp
            refine hK _ _ ?_
            clear hK K
            refine wpAny_ready (rs := [19]) (by kernel_rfl) (by simp) ?_
            refine (AllReady.cons rfl (fun K hK => ?_) AllReady.nil)
            go_simp
            refine hK _ _ ?_
            clear hK K
            refine wpAny_ready (rs := [20]) (by kernel_rfl) (by simp) ?_
            refine (AllReady.cons rfl (fun K hK => ?_) AllReady.nil)
            go_simp
            refine hK _ _ ?_
            clear hK K
            refine wpAny_done (by kernel_rfl) ?_ _
            go_wp2
            go_ret
            exact ⟨by simp; omega, KW7xxx.out⟩
  · have hri' : rightF G xs' ds' = false := by simpa using hri
    have HRI := Lib.hid hri'
    clear hri hri'
    refine (encode_no G A1 A2 k1 k2 xs' ds' _ (HL.out.kept HK3.out (by simp)) (HGC.out.kept HK3.out) HIN.out.hosts (by omega) (by omega) HRI.out).mono ?_
    rintro x w4 ⟨rfl, hk4⟩
    have hf4 := HF3.out.kept hk4 (by simp)
    have FRC4 := Lib.hid (frc hf4)
    have HK4 := Lib.hid (HK3.out.trans0 hk4); have HF4 := Lib.hid hf4
    clear hk4 hf4
    go_wp2_with (first
      | ((with_reducible show wpList _ _ _ (⟨some 21, Op.load _ _, _, _, _, _⟩ :: _) _ _); refine wpList_load_part _ 33 _ rfl rfl w.heap.size 0 rfl G.list _ FRC4.out Tryd.underlying33 rfl GRI.out ?_))
    refine (right_any G A1 A2 k1 k2 xs' ds' w4 (HL.out.kept HK4.out (by simp)) (HGC.out.kept HK4.out) HIN.out.hosts (by omega) (by omega)).mono ?_
    rintro x w8 ⟨rfl, hk8⟩
    rw [HRI.out]
    have HK8 := Lib.hid (HK4.out.trans0 hk8)
    clear hk8
    go_wp2
    go_ret
    exact ⟨rfl, HK8.out⟩
end Go.Proofs.YthnmjpohdlimiaaDoor
