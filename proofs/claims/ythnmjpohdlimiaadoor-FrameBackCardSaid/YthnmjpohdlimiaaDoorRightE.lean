/- frame.Right: some of the kinds. -/
import Derived.Test.YthnmjpohdlimiaaDoorRightA
namespace Go.Proofs.YthnmjpohdlimiaaDoor
open Go.RowKit

set_option maxHeartbeats 4000000 in
theorem right_9 : RightOf 9 := by
  intro F A1 A2 k1 k2 xs ds w hkind hL hg hh hx hd
  have c0 : (w.alloc (.cells F.cells 33)).cell? ⟨w.heap.size, 0, none⟩ = some (.int .i64 9) := by
    rw [World.cell?_alloc_at _ _ _ _ rfl, ← hkind]; exact Fr.get_kind hg.id hg.key
  have hL0 := hL.kept ((Kept.refl [] w).alloc (.cells F.cells 33)) (by simp)
  have hF0 : FB (w.alloc (.cells F.cells 33)) w.heap.size F := ⟨heap_alloc_new _ _, hg.id, hg.key⟩
  obtain ⟨i0, hi, hz0, hz1, hz2⟩ := info_parts info_byte
  have HL := Lib.hid hL; have HL0 := Lib.hid hL0; have HF0 := Lib.hid hF0; have HG := Lib.hid hg; have HH := Lib.hid hh; have HK := Lib.hid hkind
  clear hL hL0 hF0 hg hh hkind
  go_enter Tryd.func11, Tryd.ntmps11
  go_wp2_with fail
  refine (of_9 _ HL0.out).mono ?_
  rintro x w1 ⟨rfl, hk1⟩
  rw [show (hasOf 9).val = .agg #[.bool false, .bool true, .bool false, .bool false, .bool false, .bool false] from rfl]
  have s1 : RS w (w1.alloc (.cells #[.bool false, .bool true, .bool false, .bool false, .bool false, .bool false] 55)) w.heap.size w1.heap.size F (hasOf 9) :=
    have hk := hk1.alloc (.cells #[.bool false, .bool true, .bool false, .bool false, .bool false, .bool false] 55)
    ⟨HF0.out.kept hk (by simp), heap_alloc_new _ _, HL0.out.kept hk (by simp), ((Kept.refl [] w).alloc _).trans hk (by simp)⟩
  have kf := s1.fb.kind; rw [HK.out] at kf
  have hf := s1.fb.host; have pf := s1.fb.port; have nf := s1.fb.n
  have sf := s1.fb.sa; rw [HG.out.sa] at sf
  have df := s1.fb.sd; rw [HG.out.sd] at df
  have S1 := Lib.hid s1; clear s1
  clear hk1 c0
  go_wp2_with fail
  by_cases hp : 0 ≤ F.port ∧ F.port < 65536
  rotate_left
  · refine (port_no F.host F.port _ (by omega)).mono ?_
    rintro x w2 ⟨rfl, hk2⟩
    have HP := Lib.hid hp; have hk2' := Lib.hid hk2; clear hp hk2
    go_wp2
    go_ret
    exact ⟨ret_false (rightF_port HP.out), (S1.out.next hk2'.out).kept⟩
  refine (port_yes F.host F.port _ hp.1 hp.2).mono ?_
  rintro x w2 ⟨rfl, hk2⟩
  have HP := Lib.hid hp; clear hp
  have s2 := S1.out.next hk2
  clear kf hf pf nf sf df
  have kf := s2.fb.kind; rw [HK.out] at kf
  have hf := s2.fb.host; have pf := s2.fb.port; have nf := s2.fb.n
  have sf := s2.fb.sa; rw [HG.out.sa] at sf
  have df := s2.fb.sd; rw [HG.out.sd] at df
  obtain ⟨b0, b1, b2, b3, b4, b5⟩ : w2.cell? ⟨w1.heap.size, 0, none⟩ = some (.bool false) ∧ w2.cell? ⟨w1.heap.size, 1, none⟩ = some (.bool true) ∧ w2.cell? ⟨w1.heap.size, 2, none⟩ = some (.bool false) ∧ w2.cell? ⟨w1.heap.size, 3, none⟩ = some (.bool false) ∧ w2.cell? ⟨w1.heap.size, 4, none⟩ = some (.bool false) ∧ w2.cell? ⟨w1.heap.size, 5, none⟩ = some (.bool false) := s2.hb.cells
  have S2 := Lib.hid s2; clear s2
  clear hk2
  by_cases h8 : 8 < xs.length
  · go_wp2_with fail
    go_ret
    exact ⟨ret_false (rightF_many h8), S2.out.kept⟩
  go_wp2_with fail
  go_loopw [6, 42] (fun _ j wr => ∃ k : Nat, k ≤ xs.length ∧ j = .int .i64 k ∧ Hid (RS w wr w.heap.size w1.heap.size F (hasOf 9)) ∧ Hid (∀ i, i < k → 0 ≤ (xs[i]?.getD (0, 0)).2 ∧ (xs[i]?.getD (0, 0)).2 < 65536)) (fun _ j _ => xs.length - (intOf j).toNat)
  case atStart => exact ⟨0, Nat.zero_le _, rfl, S2.out, fun i hi => absurd hi (by omega)⟩
  case round =>
    obtain ⟨k, hk, rfl, SR, HI⟩ := hrel
    by_cases hlt : k < xs.length
    · obtain ⟨b, off, hA, hbl, hcell⟩ := (HG.out.r1.kept SR.out.kept (by simp)).at_ (k := 2 * k) (by rw [avs_length]; omega)
      have x1 := hcell _ _ (avs_get xs k hlt).1
      have x2 := hcell _ _ (avs_get xs k hlt).2
      rw [show off + 2 * k = off + k * 2 by omega] at x1
      rw [show off + (2 * k + 1) = off + k * 2 + 1 by omega] at x2
      obtain ⟨ah, ap, hap⟩ : ∃ ah ap : Int, xs[k]?.getD (0, 0) = (ah, ap) := ⟨_, _, rfl⟩
      rw [hap] at x1 x2
      have HAP := Lib.hid hap; clear hap
      subst hA
      clear hcell kf hf pf nf sf df b0 b1 b2 b3 b4 b5 hbl
      go_wp2_with fail
      have hk3 : Kept [] wr (wr.alloc (.cells #[.int .u32 ah, .int .i64 ap] 26)) := (Kept.refl [] wr).alloc _
      by_cases hq : 0 ≤ ap ∧ ap < 65536
      · refine (port_yes _ _ _ hq.1 hq.2).mono ?_
        rintro x w3 ⟨rfl, hk4⟩
        have SR3 := Lib.hid ((SR.out.next hk3).next hk4)
        have HI3 : Hid (∀ i, i < k + 1 → 0 ≤ (xs[i]?.getD (0, 0)).2 ∧ (xs[i]?.getD (0, 0)).2 < 65536) := fun i hi => by
          by_cases e : i = k
          · rw [e, HAP.out]; exact hq
          · exact HI.out i (by omega)
        clear hk3 hk4 hq x1 x2
        go_wp2
        go_roundw
        case rel => exact ⟨k + 1, by omega, by go_num, SR3, HI3⟩
        case measure => simp [intOf]; omega
      · refine (port_no _ _ _ (by omega)).mono ?_
        rintro x w3 ⟨rfl, hk4⟩
        have SR3 := Lib.hid ((SR.out.next hk3).next hk4)
        have HQ := Lib.hid (rightF_addr (F := F) (ds := ds) k hlt (by rw [HAP.out]; exact hq))
        clear hk3 hk4 hq x1 x2
        go_wp2
        go_ret
        exact ⟨ret_false HQ.out, SR3.out.kept⟩
    · have hke : k = xs.length := by omega
      subst hke
      have s4 := SR.out
      clear kf hf pf nf sf df b0 b1 b2 b3 b4 b5
      have kf := s4.fb.kind; rw [HK.out] at kf
      have hf := s4.fb.host; have pf := s4.fb.port; have nf := s4.fb.n
      have sf := s4.fb.sa; rw [HG.out.sa] at sf
      have df := s4.fb.sd; rw [HG.out.sd] at df
      obtain ⟨b0, b1, b2, b3, b4, b5⟩ : wr.cell? ⟨w1.heap.size, 0, none⟩ = some (.bool false) ∧ wr.cell? ⟨w1.heap.size, 1, none⟩ = some (.bool true) ∧ wr.cell? ⟨w1.heap.size, 2, none⟩ = some (.bool false) ∧ wr.cell? ⟨w1.heap.size, 3, none⟩ = some (.bool false) ∧ wr.cell? ⟨w1.heap.size, 4, none⟩ = some (.bool false) ∧ wr.cell? ⟨w1.heap.size, 5, none⟩ = some (.bool false) := s4.hb.cells
      have S4 := Lib.hid s4; clear s4
      have IDC := Lib.hid (show ∀ j u, (bvs F.id)[j]? = some u → wr.cell? ⟨w.heap.size, 1 + j, none⟩ = some u from fun j u hu => by
        have hj : j < 12 := by obtain ⟨h1, _⟩ := List.getElem?_eq_some_iff.1 hu; simpa [HG.out.id] using h1
        rw [S4.out.fb.cell, Fr.get_id HG.out.id HG.out.key j hj]; exact hu)
      have KYC := Lib.hid (show ∀ j u, (bvs F.key)[j]? = some u → wr.cell? ⟨w.heap.size, 17 + j, none⟩ = some u from fun j u hu => by
        have hj : j < 32 := by obtain ⟨h1, _⟩ := List.getElem?_eq_some_iff.1 hu; simpa [HG.out.key] using h1
        rw [S4.out.fb.cell, Fr.get_key HG.out.id HG.out.key j hj]; exact hu)
      have IDI := Lib.hid (show (Tryd.prog.info? 23).map (·.size) = some (bvs F.id).length from by rw [info_arr12, bvs_length, HG.out.id])
      have KYI := Lib.hid (show (Tryd.prog.info? 30).map (·.size) = some (bvs F.key).length from by rw [info_arr32, bvs_length, HG.out.key])
      have gh := HG.out.h0; have gn := HG.out.n0
      cases zi : (F.id == zeros 12)
      · have ZI := Lib.hid zi
        go_wp2_with (first | (with_reducible show wpList _ _ _ (⟨some 54, _, _, _, _, _⟩ :: _) _ _; refine wpList_load_part _ 23 (.tmp 53) rfl rfl w.heap.size 1 rfl (bvs F.id) _ IDC.out Tryd.underlying23 rfl IDI.out ?_) | (with_reducible show wpList _ _ _ (⟨some 56, _, _, _, _, _⟩ :: _) _ _; refine wpList_eql_bytes _ 23 _ (.tmp 54) (.tmp 55) rfl rfl 5 12 i0 Tryd.underlying23 hi cells_byte Tryd.underlying5 plain_byte guard12 F.id (zeros 12) HG.out.id rfl rfl rfl ?_) | (with_reducible show wpList _ _ _ (⟨some 92, _, _, _, _, _⟩ :: _) _ _; refine wpList_load_part _ 30 (.tmp 91) rfl rfl w.heap.size 17 rfl (bvs F.key) _ KYC.out Tryd.underlying30 rfl KYI.out ?_) | (with_reducible show wpList _ _ _ (⟨some 94, _, _, _, _, _⟩ :: _) _ _; refine wpList_eql_bytes _ 30 _ (.tmp 92) (.tmp 93) rfl rfl 5 32 i0 Tryd.underlying30 hi cells_byte Tryd.underlying5 plain_byte guard32 F.key (zeros 32) HG.out.key rfl rfl rfl ?_))
        go_ret
        exact ⟨ret_false (rightF_empty (emptyF_id (by rw [HK.out]; rfl) ZI.out)), S4.out.kept⟩
      have ZI := Lib.hid zi
      by_cases zx : xs = []
      rotate_left
      · have ZX := Lib.hid zx
        go_wp2_with (first | (with_reducible show wpList _ _ _ (⟨some 54, _, _, _, _, _⟩ :: _) _ _; refine wpList_load_part _ 23 (.tmp 53) rfl rfl w.heap.size 1 rfl (bvs F.id) _ IDC.out Tryd.underlying23 rfl IDI.out ?_) | (with_reducible show wpList _ _ _ (⟨some 56, _, _, _, _, _⟩ :: _) _ _; refine wpList_eql_bytes _ 23 _ (.tmp 54) (.tmp 55) rfl rfl 5 12 i0 Tryd.underlying23 hi cells_byte Tryd.underlying5 plain_byte guard12 F.id (zeros 12) HG.out.id rfl rfl rfl ?_) | (with_reducible show wpList _ _ _ (⟨some 92, _, _, _, _, _⟩ :: _) _ _; refine wpList_load_part _ 30 (.tmp 91) rfl rfl w.heap.size 17 rfl (bvs F.key) _ KYC.out Tryd.underlying30 rfl KYI.out ?_) | (with_reducible show wpList _ _ _ (⟨some 94, _, _, _, _, _⟩ :: _) _ _; refine wpList_eql_bytes _ 30 _ (.tmp 92) (.tmp 93) rfl rfl 5 32 i0 Tryd.underlying30 hi cells_byte Tryd.underlying5 plain_byte guard32 F.key (zeros 32) HG.out.key rfl rfl rfl ?_))
        go_ret
        exact ⟨ret_false (rightF_empty (emptyF_addrs (by rw [HK.out]; rfl) (List.length_pos_iff.2 ZX.out))), S4.out.kept⟩
      have ZX := Lib.hid zx
      by_cases zn : F.n = 0
      rotate_left
      · have ZN := Lib.hid zn
        go_wp2_with (first | (with_reducible show wpList _ _ _ (⟨some 54, _, _, _, _, _⟩ :: _) _ _; refine wpList_load_part _ 23 (.tmp 53) rfl rfl w.heap.size 1 rfl (bvs F.id) _ IDC.out Tryd.underlying23 rfl IDI.out ?_) | (with_reducible show wpList _ _ _ (⟨some 56, _, _, _, _, _⟩ :: _) _ _; refine wpList_eql_bytes _ 23 _ (.tmp 54) (.tmp 55) rfl rfl 5 12 i0 Tryd.underlying23 hi cells_byte Tryd.underlying5 plain_byte guard12 F.id (zeros 12) HG.out.id rfl rfl rfl ?_) | (with_reducible show wpList _ _ _ (⟨some 92, _, _, _, _, _⟩ :: _) _ _; refine wpList_load_part _ 30 (.tmp 91) rfl rfl w.heap.size 17 rfl (bvs F.key) _ KYC.out Tryd.underlying30 rfl KYI.out ?_) | (with_reducible show wpList _ _ _ (⟨some 94, _, _, _, _, _⟩ :: _) _ _; refine wpList_eql_bytes _ 30 _ (.tmp 92) (.tmp 93) rfl rfl 5 32 i0 Tryd.underlying30 hi cells_byte Tryd.underlying5 plain_byte guard32 F.key (zeros 32) HG.out.key rfl rfl rfl ?_))
        go_ret
        exact ⟨ret_false (rightF_empty (emptyF_n (by rw [HK.out]; rfl) (by have := ZN.out; omega))), S4.out.kept⟩
      have ZN := Lib.hid zn
      cases zk : (F.key == zeros 32)
      · have ZK := Lib.hid zk
        go_wp2_with (first | (with_reducible show wpList _ _ _ (⟨some 54, _, _, _, _, _⟩ :: _) _ _; refine wpList_load_part _ 23 (.tmp 53) rfl rfl w.heap.size 1 rfl (bvs F.id) _ IDC.out Tryd.underlying23 rfl IDI.out ?_) | (with_reducible show wpList _ _ _ (⟨some 56, _, _, _, _, _⟩ :: _) _ _; refine wpList_eql_bytes _ 23 _ (.tmp 54) (.tmp 55) rfl rfl 5 12 i0 Tryd.underlying23 hi cells_byte Tryd.underlying5 plain_byte guard12 F.id (zeros 12) HG.out.id rfl rfl rfl ?_) | (with_reducible show wpList _ _ _ (⟨some 92, _, _, _, _, _⟩ :: _) _ _; refine wpList_load_part _ 30 (.tmp 91) rfl rfl w.heap.size 17 rfl (bvs F.key) _ KYC.out Tryd.underlying30 rfl KYI.out ?_) | (with_reducible show wpList _ _ _ (⟨some 94, _, _, _, _, _⟩ :: _) _ _; refine wpList_eql_bytes _ 30 _ (.tmp 92) (.tmp 93) rfl rfl 5 32 i0 Tryd.underlying30 hi cells_byte Tryd.underlying5 plain_byte guard32 F.key (zeros 32) HG.out.key rfl rfl rfl ?_))
        go_ret
        exact ⟨ret_false (rightF_empty (emptyF_key (by rw [HK.out]; rfl) ZK.out)), S4.out.kept⟩
      have ZK := Lib.hid zk
      by_cases zd : ds = []
      rotate_left
      · have ZD := Lib.hid zd
        go_wp2_with (first | (with_reducible show wpList _ _ _ (⟨some 54, _, _, _, _, _⟩ :: _) _ _; refine wpList_load_part _ 23 (.tmp 53) rfl rfl w.heap.size 1 rfl (bvs F.id) _ IDC.out Tryd.underlying23 rfl IDI.out ?_) | (with_reducible show wpList _ _ _ (⟨some 56, _, _, _, _, _⟩ :: _) _ _; refine wpList_eql_bytes _ 23 _ (.tmp 54) (.tmp 55) rfl rfl 5 12 i0 Tryd.underlying23 hi cells_byte Tryd.underlying5 plain_byte guard12 F.id (zeros 12) HG.out.id rfl rfl rfl ?_) | (with_reducible show wpList _ _ _ (⟨some 92, _, _, _, _, _⟩ :: _) _ _; refine wpList_load_part _ 30 (.tmp 91) rfl rfl w.heap.size 17 rfl (bvs F.key) _ KYC.out Tryd.underlying30 rfl KYI.out ?_) | (with_reducible show wpList _ _ _ (⟨some 94, _, _, _, _, _⟩ :: _) _ _; refine wpList_eql_bytes _ 30 _ (.tmp 92) (.tmp 93) rfl rfl 5 32 i0 Tryd.underlying30 hi cells_byte Tryd.underlying5 plain_byte guard32 F.key (zeros 32) HG.out.key rfl rfl rfl ?_))
        go_ret
        exact ⟨ret_false (rightF_empty (emptyF_data (by rw [HK.out]; rfl) (List.length_pos_iff.2 ZD.out))), S4.out.kept⟩
      have ZD := Lib.hid zd
      have FRC := Lib.hid (show ∀ j u, F.list[j]? = some u → wr.cell? ⟨w.heap.size, 0 + j, none⟩ = some u from fun j u hu => by rw [Nat.zero_add, S4.out.fb.cell]; simpa [Fr.cells] using hu)
      have FRI := Lib.hid (show (Tryd.prog.info? 33).map (·.size) = some F.list.length from by rw [info_frame]; have := Fr.size HG.out.id HG.out.key; rw [← this]; simp [Fr.cells])
      go_wp2_with (first | (with_reducible show wpList _ _ _ (⟨some 54, _, _, _, _, _⟩ :: _) _ _; refine wpList_load_part _ 23 (.tmp 53) rfl rfl w.heap.size 1 rfl (bvs F.id) _ IDC.out Tryd.underlying23 rfl IDI.out ?_) | (with_reducible show wpList _ _ _ (⟨some 56, _, _, _, _, _⟩ :: _) _ _; refine wpList_eql_bytes _ 23 _ (.tmp 54) (.tmp 55) rfl rfl 5 12 i0 Tryd.underlying23 hi cells_byte Tryd.underlying5 plain_byte guard12 F.id (zeros 12) HG.out.id rfl rfl rfl ?_) | (with_reducible show wpList _ _ _ (⟨some 92, _, _, _, _, _⟩ :: _) _ _; refine wpList_load_part _ 30 (.tmp 91) rfl rfl w.heap.size 17 rfl (bvs F.key) _ KYC.out Tryd.underlying30 rfl KYI.out ?_) | (with_reducible show wpList _ _ _ (⟨some 94, _, _, _, _, _⟩ :: _) _ _; refine wpList_eql_bytes _ 30 _ (.tmp 92) (.tmp 93) rfl rfl 5 32 i0 Tryd.underlying30 hi cells_byte Tryd.underlying5 plain_byte guard32 F.key (zeros 32) HG.out.key rfl rfl rfl ?_) | (with_reducible show wpList _ _ _ (⟨some 109, _, _, _, _, _⟩ :: _) _ _; refine wpList_load_part _ 33 (.tmp 1) rfl rfl w.heap.size 0 rfl F.list _ FRC.out Tryd.underlying33 rfl FRI.out ?_))
      clear zi zx zn zk zd
      have hga : GoodAs xs := fun i hi => ⟨(HH.out i hi).1, (HH.out i hi).2, (HI.out i hi).1, (HI.out i hi).2⟩
      refine (written_any F A1 A2 k1 k2 xs ds wr S4.out.lay (by rw [HK.out]; rfl) (HG.out.kept S4.out.kept) HP.out.1 HP.out.2 hga (by omega) hd).mono ?_
      rintro x w5 ⟨v5, rfl, hown5, hk5⟩
      obtain ⟨m, hm⟩ : ∃ m, m = (encF F xs ds).length := ⟨_, rfl⟩
      rw [← hm] at hown5
      obtain ⟨A5, c5, rfl⟩ := own_slice hown5
      have HR := Lib.hid (rightF_ok (F := F) (xs := xs) (ds := ds) (by rw [HK.out]; rfl) HP.out (by omega) (fun hk4 => by have := HK.out; omega) HI.out (emptyF_true (.inr ZI.out) (.inl (by rw [HK.out]; rfl)) (.inr (by rw [ZX.out]; rfl)) (.inr ZN.out) (.inr ZK.out) (.inr (by rw [ZD.out]; rfl))))
      have HM := Lib.hid hm; have HK5 := Lib.hid hk5
      clear hm hk5 hown5 hga
      go_wp2
      go_ret
      have e : decide ((m : Int) ≤ 1500) = rightF F xs ds := by rw [HR.out, ← HM.out]; exact decide_eq_decide.2 (by omega)
      exact ⟨congrArg (fun b => Ending.returned (.bool b)) e, S4.out.kept.trans HK5.out (by simp)⟩

set_option maxHeartbeats 4000000 in
theorem right_10 : RightOf 10 := by
  intro F A1 A2 k1 k2 xs ds w hkind hL hg hh hx hd
  have c0 : (w.alloc (.cells F.cells 33)).cell? ⟨w.heap.size, 0, none⟩ = some (.int .i64 10) := by
    rw [World.cell?_alloc_at _ _ _ _ rfl, ← hkind]; exact Fr.get_kind hg.id hg.key
  have hL0 := hL.kept ((Kept.refl [] w).alloc (.cells F.cells 33)) (by simp)
  have hF0 : FB (w.alloc (.cells F.cells 33)) w.heap.size F := ⟨heap_alloc_new _ _, hg.id, hg.key⟩
  obtain ⟨i0, hi, hz0, hz1, hz2⟩ := info_parts info_byte
  have HL := Lib.hid hL; have HL0 := Lib.hid hL0; have HF0 := Lib.hid hF0; have HG := Lib.hid hg; have HH := Lib.hid hh; have HK := Lib.hid hkind
  clear hL hL0 hF0 hg hh hkind
  go_enter Tryd.func11, Tryd.ntmps11
  go_wp2_with fail
  refine (of_10 _ HL0.out).mono ?_
  rintro x w1 ⟨rfl, hk1⟩
  rw [show (hasOf 10).val = .agg #[.bool false, .bool false, .bool false, .bool false, .bool true, .bool true] from rfl]
  have s1 : RS w (w1.alloc (.cells #[.bool false, .bool false, .bool false, .bool false, .bool true, .bool true] 55)) w.heap.size w1.heap.size F (hasOf 10) :=
    have hk := hk1.alloc (.cells #[.bool false, .bool false, .bool false, .bool false, .bool true, .bool true] 55)
    ⟨HF0.out.kept hk (by simp), heap_alloc_new _ _, HL0.out.kept hk (by simp), ((Kept.refl [] w).alloc _).trans hk (by simp)⟩
  have kf := s1.fb.kind; rw [HK.out] at kf
  have hf := s1.fb.host; have pf := s1.fb.port; have nf := s1.fb.n
  have sf := s1.fb.sa; rw [HG.out.sa] at sf
  have df := s1.fb.sd; rw [HG.out.sd] at df
  have S1 := Lib.hid s1; clear s1
  clear hk1 c0
  go_wp2_with fail
  by_cases hp : 0 ≤ F.port ∧ F.port < 65536
  rotate_left
  · refine (port_no F.host F.port _ (by omega)).mono ?_
    rintro x w2 ⟨rfl, hk2⟩
    have HP := Lib.hid hp; have hk2' := Lib.hid hk2; clear hp hk2
    go_wp2
    go_ret
    exact ⟨ret_false (rightF_port HP.out), (S1.out.next hk2'.out).kept⟩
  refine (port_yes F.host F.port _ hp.1 hp.2).mono ?_
  rintro x w2 ⟨rfl, hk2⟩
  have HP := Lib.hid hp; clear hp
  have s2 := S1.out.next hk2
  clear kf hf pf nf sf df
  have kf := s2.fb.kind; rw [HK.out] at kf
  have hf := s2.fb.host; have pf := s2.fb.port; have nf := s2.fb.n
  have sf := s2.fb.sa; rw [HG.out.sa] at sf
  have df := s2.fb.sd; rw [HG.out.sd] at df
  obtain ⟨b0, b1, b2, b3, b4, b5⟩ : w2.cell? ⟨w1.heap.size, 0, none⟩ = some (.bool false) ∧ w2.cell? ⟨w1.heap.size, 1, none⟩ = some (.bool false) ∧ w2.cell? ⟨w1.heap.size, 2, none⟩ = some (.bool false) ∧ w2.cell? ⟨w1.heap.size, 3, none⟩ = some (.bool false) ∧ w2.cell? ⟨w1.heap.size, 4, none⟩ = some (.bool true) ∧ w2.cell? ⟨w1.heap.size, 5, none⟩ = some (.bool true) := s2.hb.cells
  have S2 := Lib.hid s2; clear s2
  clear hk2
  by_cases h8 : 8 < xs.length
  · go_wp2_with fail
    go_ret
    exact ⟨ret_false (rightF_many h8), S2.out.kept⟩
  go_wp2_with fail
  go_loopw [6, 42] (fun _ j wr => ∃ k : Nat, k ≤ xs.length ∧ j = .int .i64 k ∧ Hid (RS w wr w.heap.size w1.heap.size F (hasOf 10)) ∧ Hid (∀ i, i < k → 0 ≤ (xs[i]?.getD (0, 0)).2 ∧ (xs[i]?.getD (0, 0)).2 < 65536)) (fun _ j _ => xs.length - (intOf j).toNat)
  case atStart => exact ⟨0, Nat.zero_le _, rfl, S2.out, fun i hi => absurd hi (by omega)⟩
  case round =>
    obtain ⟨k, hk, rfl, SR, HI⟩ := hrel
    by_cases hlt : k < xs.length
    · obtain ⟨b, off, hA, hbl, hcell⟩ := (HG.out.r1.kept SR.out.kept (by simp)).at_ (k := 2 * k) (by rw [avs_length]; omega)
      have x1 := hcell _ _ (avs_get xs k hlt).1
      have x2 := hcell _ _ (avs_get xs k hlt).2
      rw [show off + 2 * k = off + k * 2 by omega] at x1
      rw [show off + (2 * k + 1) = off + k * 2 + 1 by omega] at x2
      obtain ⟨ah, ap, hap⟩ : ∃ ah ap : Int, xs[k]?.getD (0, 0) = (ah, ap) := ⟨_, _, rfl⟩
      rw [hap] at x1 x2
      have HAP := Lib.hid hap; clear hap
      subst hA
      clear hcell kf hf pf nf sf df b0 b1 b2 b3 b4 b5 hbl
      go_wp2_with fail
      have hk3 : Kept [] wr (wr.alloc (.cells #[.int .u32 ah, .int .i64 ap] 26)) := (Kept.refl [] wr).alloc _
      by_cases hq : 0 ≤ ap ∧ ap < 65536
      · refine (port_yes _ _ _ hq.1 hq.2).mono ?_
        rintro x w3 ⟨rfl, hk4⟩
        have SR3 := Lib.hid ((SR.out.next hk3).next hk4)
        have HI3 : Hid (∀ i, i < k + 1 → 0 ≤ (xs[i]?.getD (0, 0)).2 ∧ (xs[i]?.getD (0, 0)).2 < 65536) := fun i hi => by
          by_cases e : i = k
          · rw [e, HAP.out]; exact hq
          · exact HI.out i (by omega)
        clear hk3 hk4 hq x1 x2
        go_wp2
        go_roundw
        case rel => exact ⟨k + 1, by omega, by go_num, SR3, HI3⟩
        case measure => simp [intOf]; omega
      · refine (port_no _ _ _ (by omega)).mono ?_
        rintro x w3 ⟨rfl, hk4⟩
        have SR3 := Lib.hid ((SR.out.next hk3).next hk4)
        have HQ := Lib.hid (rightF_addr (F := F) (ds := ds) k hlt (by rw [HAP.out]; exact hq))
        clear hk3 hk4 hq x1 x2
        go_wp2
        go_ret
        exact ⟨ret_false HQ.out, SR3.out.kept⟩
    · have hke : k = xs.length := by omega
      subst hke
      have s4 := SR.out
      clear kf hf pf nf sf df b0 b1 b2 b3 b4 b5
      have kf := s4.fb.kind; rw [HK.out] at kf
      have hf := s4.fb.host; have pf := s4.fb.port; have nf := s4.fb.n
      have sf := s4.fb.sa; rw [HG.out.sa] at sf
      have df := s4.fb.sd; rw [HG.out.sd] at df
      obtain ⟨b0, b1, b2, b3, b4, b5⟩ : wr.cell? ⟨w1.heap.size, 0, none⟩ = some (.bool false) ∧ wr.cell? ⟨w1.heap.size, 1, none⟩ = some (.bool false) ∧ wr.cell? ⟨w1.heap.size, 2, none⟩ = some (.bool false) ∧ wr.cell? ⟨w1.heap.size, 3, none⟩ = some (.bool false) ∧ wr.cell? ⟨w1.heap.size, 4, none⟩ = some (.bool true) ∧ wr.cell? ⟨w1.heap.size, 5, none⟩ = some (.bool true) := s4.hb.cells
      have S4 := Lib.hid s4; clear s4
      have IDC := Lib.hid (show ∀ j u, (bvs F.id)[j]? = some u → wr.cell? ⟨w.heap.size, 1 + j, none⟩ = some u from fun j u hu => by
        have hj : j < 12 := by obtain ⟨h1, _⟩ := List.getElem?_eq_some_iff.1 hu; simpa [HG.out.id] using h1
        rw [S4.out.fb.cell, Fr.get_id HG.out.id HG.out.key j hj]; exact hu)
      have KYC := Lib.hid (show ∀ j u, (bvs F.key)[j]? = some u → wr.cell? ⟨w.heap.size, 17 + j, none⟩ = some u from fun j u hu => by
        have hj : j < 32 := by obtain ⟨h1, _⟩ := List.getElem?_eq_some_iff.1 hu; simpa [HG.out.key] using h1
        rw [S4.out.fb.cell, Fr.get_key HG.out.id HG.out.key j hj]; exact hu)
      have IDI := Lib.hid (show (Tryd.prog.info? 23).map (·.size) = some (bvs F.id).length from by rw [info_arr12, bvs_length, HG.out.id])
      have KYI := Lib.hid (show (Tryd.prog.info? 30).map (·.size) = some (bvs F.key).length from by rw [info_arr32, bvs_length, HG.out.key])
      have gh := HG.out.h0; have gn := HG.out.n0
      cases zi : (F.id == zeros 12)
      · have ZI := Lib.hid zi
        go_wp2_with (first | (with_reducible show wpList _ _ _ (⟨some 54, _, _, _, _, _⟩ :: _) _ _; refine wpList_load_part _ 23 (.tmp 53) rfl rfl w.heap.size 1 rfl (bvs F.id) _ IDC.out Tryd.underlying23 rfl IDI.out ?_) | (with_reducible show wpList _ _ _ (⟨some 56, _, _, _, _, _⟩ :: _) _ _; refine wpList_eql_bytes _ 23 _ (.tmp 54) (.tmp 55) rfl rfl 5 12 i0 Tryd.underlying23 hi cells_byte Tryd.underlying5 plain_byte guard12 F.id (zeros 12) HG.out.id rfl rfl rfl ?_) | (with_reducible show wpList _ _ _ (⟨some 92, _, _, _, _, _⟩ :: _) _ _; refine wpList_load_part _ 30 (.tmp 91) rfl rfl w.heap.size 17 rfl (bvs F.key) _ KYC.out Tryd.underlying30 rfl KYI.out ?_) | (with_reducible show wpList _ _ _ (⟨some 94, _, _, _, _, _⟩ :: _) _ _; refine wpList_eql_bytes _ 30 _ (.tmp 92) (.tmp 93) rfl rfl 5 32 i0 Tryd.underlying30 hi cells_byte Tryd.underlying5 plain_byte guard32 F.key (zeros 32) HG.out.key rfl rfl rfl ?_))
        go_ret
        exact ⟨ret_false (rightF_empty (emptyF_id (by rw [HK.out]; rfl) ZI.out)), S4.out.kept⟩
      have ZI := Lib.hid zi
      by_cases zh : F.host = 0
      rotate_left
      · have zb : (F.host == 0) = false := by rw [beq_eq_false_iff_ne]; exact zh
        have ZH := Lib.hid zh
        go_wp2_with (first | (with_reducible show wpList _ _ _ (⟨some 54, _, _, _, _, _⟩ :: _) _ _; refine wpList_load_part _ 23 (.tmp 53) rfl rfl w.heap.size 1 rfl (bvs F.id) _ IDC.out Tryd.underlying23 rfl IDI.out ?_) | (with_reducible show wpList _ _ _ (⟨some 56, _, _, _, _, _⟩ :: _) _ _; refine wpList_eql_bytes _ 23 _ (.tmp 54) (.tmp 55) rfl rfl 5 12 i0 Tryd.underlying23 hi cells_byte Tryd.underlying5 plain_byte guard12 F.id (zeros 12) HG.out.id rfl rfl rfl ?_) | (with_reducible show wpList _ _ _ (⟨some 92, _, _, _, _, _⟩ :: _) _ _; refine wpList_load_part _ 30 (.tmp 91) rfl rfl w.heap.size 17 rfl (bvs F.key) _ KYC.out Tryd.underlying30 rfl KYI.out ?_) | (with_reducible show wpList _ _ _ (⟨some 94, _, _, _, _, _⟩ :: _) _ _; refine wpList_eql_bytes _ 30 _ (.tmp 92) (.tmp 93) rfl rfl 5 32 i0 Tryd.underlying30 hi cells_byte Tryd.underlying5 plain_byte guard32 F.key (zeros 32) HG.out.key rfl rfl rfl ?_))
        go_ret
        exact ⟨ret_false (rightF_empty (emptyF_addr (by rw [HK.out]; rfl) (.inl ZH.out))), S4.out.kept⟩
      have zb : (F.host == 0) = true := by rw [beq_iff_eq]; exact zh
      have ZH := Lib.hid zh
      by_cases zp : F.port = 0
      rotate_left
      · have zq : (F.port == 0) = false := by rw [beq_eq_false_iff_ne]; exact zp
        have ZP := Lib.hid zp
        go_wp2_with (first | (with_reducible show wpList _ _ _ (⟨some 54, _, _, _, _, _⟩ :: _) _ _; refine wpList_load_part _ 23 (.tmp 53) rfl rfl w.heap.size 1 rfl (bvs F.id) _ IDC.out Tryd.underlying23 rfl IDI.out ?_) | (with_reducible show wpList _ _ _ (⟨some 56, _, _, _, _, _⟩ :: _) _ _; refine wpList_eql_bytes _ 23 _ (.tmp 54) (.tmp 55) rfl rfl 5 12 i0 Tryd.underlying23 hi cells_byte Tryd.underlying5 plain_byte guard12 F.id (zeros 12) HG.out.id rfl rfl rfl ?_) | (with_reducible show wpList _ _ _ (⟨some 92, _, _, _, _, _⟩ :: _) _ _; refine wpList_load_part _ 30 (.tmp 91) rfl rfl w.heap.size 17 rfl (bvs F.key) _ KYC.out Tryd.underlying30 rfl KYI.out ?_) | (with_reducible show wpList _ _ _ (⟨some 94, _, _, _, _, _⟩ :: _) _ _; refine wpList_eql_bytes _ 30 _ (.tmp 92) (.tmp 93) rfl rfl 5 32 i0 Tryd.underlying30 hi cells_byte Tryd.underlying5 plain_byte guard32 F.key (zeros 32) HG.out.key rfl rfl rfl ?_))
        go_ret
        exact ⟨ret_false (rightF_empty (emptyF_addr (by rw [HK.out]; rfl) (.inr ZP.out))), S4.out.kept⟩
      have zq : (F.port == 0) = true := by rw [beq_iff_eq]; exact zp
      have ZP := Lib.hid zp
      by_cases zx : xs = []
      rotate_left
      · have ZX := Lib.hid zx
        go_wp2_with (first | (with_reducible show wpList _ _ _ (⟨some 54, _, _, _, _, _⟩ :: _) _ _; refine wpList_load_part _ 23 (.tmp 53) rfl rfl w.heap.size 1 rfl (bvs F.id) _ IDC.out Tryd.underlying23 rfl IDI.out ?_) | (with_reducible show wpList _ _ _ (⟨some 56, _, _, _, _, _⟩ :: _) _ _; refine wpList_eql_bytes _ 23 _ (.tmp 54) (.tmp 55) rfl rfl 5 12 i0 Tryd.underlying23 hi cells_byte Tryd.underlying5 plain_byte guard12 F.id (zeros 12) HG.out.id rfl rfl rfl ?_) | (with_reducible show wpList _ _ _ (⟨some 92, _, _, _, _, _⟩ :: _) _ _; refine wpList_load_part _ 30 (.tmp 91) rfl rfl w.heap.size 17 rfl (bvs F.key) _ KYC.out Tryd.underlying30 rfl KYI.out ?_) | (with_reducible show wpList _ _ _ (⟨some 94, _, _, _, _, _⟩ :: _) _ _; refine wpList_eql_bytes _ 30 _ (.tmp 92) (.tmp 93) rfl rfl 5 32 i0 Tryd.underlying30 hi cells_byte Tryd.underlying5 plain_byte guard32 F.key (zeros 32) HG.out.key rfl rfl rfl ?_))
        go_ret
        exact ⟨ret_false (rightF_empty (emptyF_addrs (by rw [HK.out]; rfl) (List.length_pos_iff.2 ZX.out))), S4.out.kept⟩
      have ZX := Lib.hid zx
      by_cases zn : F.n = 0
      rotate_left
      · have ZN := Lib.hid zn
        go_wp2_with (first | (with_reducible show wpList _ _ _ (⟨some 54, _, _, _, _, _⟩ :: _) _ _; refine wpList_load_part _ 23 (.tmp 53) rfl rfl w.heap.size 1 rfl (bvs F.id) _ IDC.out Tryd.underlying23 rfl IDI.out ?_) | (with_reducible show wpList _ _ _ (⟨some 56, _, _, _, _, _⟩ :: _) _ _; refine wpList_eql_bytes _ 23 _ (.tmp 54) (.tmp 55) rfl rfl 5 12 i0 Tryd.underlying23 hi cells_byte Tryd.underlying5 plain_byte guard12 F.id (zeros 12) HG.out.id rfl rfl rfl ?_) | (with_reducible show wpList _ _ _ (⟨some 92, _, _, _, _, _⟩ :: _) _ _; refine wpList_load_part _ 30 (.tmp 91) rfl rfl w.heap.size 17 rfl (bvs F.key) _ KYC.out Tryd.underlying30 rfl KYI.out ?_) | (with_reducible show wpList _ _ _ (⟨some 94, _, _, _, _, _⟩ :: _) _ _; refine wpList_eql_bytes _ 30 _ (.tmp 92) (.tmp 93) rfl rfl 5 32 i0 Tryd.underlying30 hi cells_byte Tryd.underlying5 plain_byte guard32 F.key (zeros 32) HG.out.key rfl rfl rfl ?_))
        go_ret
        exact ⟨ret_false (rightF_empty (emptyF_n (by rw [HK.out]; rfl) (by have := ZN.out; omega))), S4.out.kept⟩
      have ZN := Lib.hid zn
      have FRC := Lib.hid (show ∀ j u, F.list[j]? = some u → wr.cell? ⟨w.heap.size, 0 + j, none⟩ = some u from fun j u hu => by rw [Nat.zero_add, S4.out.fb.cell]; simpa [Fr.cells] using hu)
      have FRI := Lib.hid (show (Tryd.prog.info? 33).map (·.size) = some F.list.length from by rw [info_frame]; have := Fr.size HG.out.id HG.out.key; rw [← this]; simp [Fr.cells])
      go_wp2_with (first | (with_reducible show wpList _ _ _ (⟨some 54, _, _, _, _, _⟩ :: _) _ _; refine wpList_load_part _ 23 (.tmp 53) rfl rfl w.heap.size 1 rfl (bvs F.id) _ IDC.out Tryd.underlying23 rfl IDI.out ?_) | (with_reducible show wpList _ _ _ (⟨some 56, _, _, _, _, _⟩ :: _) _ _; refine wpList_eql_bytes _ 23 _ (.tmp 54) (.tmp 55) rfl rfl 5 12 i0 Tryd.underlying23 hi cells_byte Tryd.underlying5 plain_byte guard12 F.id (zeros 12) HG.out.id rfl rfl rfl ?_) | (with_reducible show wpList _ _ _ (⟨some 92, _, _, _, _, _⟩ :: _) _ _; refine wpList_load_part _ 30 (.tmp 91) rfl rfl w.heap.size 17 rfl (bvs F.key) _ KYC.out Tryd.underlying30 rfl KYI.out ?_) | (with_reducible show wpList _ _ _ (⟨some 94, _, _, _, _, _⟩ :: _) _ _; refine wpList_eql_bytes _ 30 _ (.tmp 92) (.tmp 93) rfl rfl 5 32 i0 Tryd.underlying30 hi cells_byte Tryd.underlying5 plain_byte guard32 F.key (zeros 32) HG.out.key rfl rfl rfl ?_) | (with_reducible show wpList _ _ _ (⟨some 109, _, _, _, _, _⟩ :: _) _ _; refine wpList_load_part _ 33 (.tmp 1) rfl rfl w.heap.size 0 rfl F.list _ FRC.out Tryd.underlying33 rfl FRI.out ?_))
      clear zi zh zb zp zq zx zn
      have hga : GoodAs xs := fun i hi => ⟨(HH.out i hi).1, (HH.out i hi).2, (HI.out i hi).1, (HI.out i hi).2⟩
      refine (written_any F A1 A2 k1 k2 xs ds wr S4.out.lay (by rw [HK.out]; rfl) (HG.out.kept S4.out.kept) HP.out.1 HP.out.2 hga (by omega) hd).mono ?_
      rintro x w5 ⟨v5, rfl, hown5, hk5⟩
      obtain ⟨m, hm⟩ : ∃ m, m = (encF F xs ds).length := ⟨_, rfl⟩
      rw [← hm] at hown5
      obtain ⟨A5, c5, rfl⟩ := own_slice hown5
      have HR := Lib.hid (rightF_ok (F := F) (xs := xs) (ds := ds) (by rw [HK.out]; rfl) HP.out (by omega) (fun hk4 => by have := HK.out; omega) HI.out (emptyF_true (.inr ZI.out) (.inr ⟨ZH.out, ZP.out⟩) (.inr (by rw [ZX.out]; rfl)) (.inr ZN.out) (.inl (by rw [HK.out]; rfl)) (.inl (by rw [HK.out]; rfl))))
      have HM := Lib.hid hm; have HK5 := Lib.hid hk5
      clear hm hk5 hown5 hga
      go_wp2
      go_ret
      have e : decide ((m : Int) ≤ 1500) = rightF F xs ds := by rw [HR.out, ← HM.out]; exact decide_eq_decide.2 (by omega)
      exact ⟨congrArg (fun b => Ending.returned (.bool b)) e, S4.out.kept.trans HK5.out (by simp)⟩
end Go.Proofs.YthnmjpohdlimiaaDoor
