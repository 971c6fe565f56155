/- hatchwaylaw13.shown. -/
import Derived.Test.YthnmjpohdlimiaaDoorDec
namespace Go.Proofs.YthnmjpohdlimiaaDoor
open Go.RowKit

/-- The frame that 'shown' tells. -/
def shFr : Fr := ⟨2, 1 :: List.replicate 11 0, 2, 3, .slice none 0 0, 0, List.replicate 32 0, .slice none 0 0⟩
theorem run_build_sh (w : World) : (Instr.build 33 #[(0, .int .i64 2), (1, .agg #[.int .u8 1, .int .u8 0, .int .u8 0, .int .u8 0, .int .u8 0, .int .u8 0, .int .u8 0, .int .u8 0, .int .u8 0, .int .u8 0, .int .u8 0, .int .u8 0]), (2, .agg #[.int .u32 2, .int .i64 3])]).run Tryd.prog w =
    .ok (.agg shFr.cells) w := by kernel_rfl
theorem shFr_right : rightF shFr [] [] = true := by decide +kernel
theorem new0_right : rightF (Fr.new 0) [] [] = false := by decide +kernel
theorem encF_sh : encF shFr [] [] = 2 :: ([1] ++ List.replicate 11 0 ++ [0, 0, 0, 2, 0, 3]) := by decide +kernel
theorem decOk_sh : decOk 2 ([1] ++ List.replicate 11 0 ++ [0, 0, 0, 2, 0, 3]) = true := by decide +kernel
theorem decPort_sh : (decB 2 ([1] ++ List.replicate 11 0 ++ [0, 0, 0, 2, 0, 3])).addr.2 = 3 := by decide +kernel
theorem good_sh (w : World) : Good w shFr none none 0 0 [] [] := ⟨rfl, rfl, rfl, rfl, Rd.nil, Rd.nil, by simp, by simp, by decide, by decide, by decide, by decide⟩
theorem good_new (K : Int) (w : World) : Good w (Fr.new K) none none 0 0 [] [] := ⟨rfl, rfl, rfl, rfl, Rd.nil, Rd.nil, by simp, by simp, by simp [Fr.new], by simp [Fr.new], by simp [Fr.new], by simp [Fr.new]⟩
theorem hosts_nil : HostsOk [] := fun k hk => absurd hk (by simp)

set_option maxRecDepth 100000 in
set_option maxHeartbeats 2000000 in
theorem shown_true (w : World) (hL : Laid w) :
    Calls Tryd.prog 6 #[] w fun x w' => x = .returned (.bool true) ∧ Kept [] w w' := by
  have HL := Lib.hid hL
  clear hL
  go_enter Tryd.func6, Tryd.ntmps6
  go_wp2_with (first
    | ((with_reducible show wpList _ _ _ (⟨some 13, Op.build _ _, _, _, _, _⟩ :: _) _ _); refine wpList_build_known _ 33 _ rfl rfl #[(0, .int .i64 2), (1, .agg #[.int .u8 1, .int .u8 0, .int .u8 0, .int .u8 0, .int .u8 0, .int .u8 0, .int .u8 0, .int .u8 0, .int .u8 0, .int .u8 0, .int .u8 0, .int .u8 0]), (2, .agg #[.int .u32 2, .int .i64 3])] (by simp only [List.map_toArray, List.map_cons, List.map_nil]; rfl) _ (run_build_sh _) ?_))
  refine (encode_yes shFr none none 0 0 [] [] w HL.out (good_sh w) hosts_nil (by simp) (by simp) shFr_right).mono ?_
  rintro x w1 ⟨v1, rfl, hown1, hk1⟩
  rw [encF_sh] at hown1
  obtain ⟨A1, c1, rfl⟩ := own_slice hown1
  have HR1 := Lib.hid (Rd.of_own hown1)
  have hcc : 19 ≤ c1 ∧ c1 ≤ maxLen := by
    rcases own_form hown1 with ⟨hv, hn, _⟩ | ⟨g, cap, cur, hv, _, _, _, h1, h2, _⟩
    · simp at hn
    · injection hv with _ _ hc; subst hc; exact ⟨by simpa using h1, h2⟩
  have HK1 := Lib.hid hk1
  clear hown1 hk1
  go_wp2_with fail
  refine (decode_some A1 c1 2 ([1] ++ List.replicate 11 0 ++ [0, 0, 0, 2, 0, 3]) w1 (HL.out.kept HK1.out (by simp)) HR1.out (by simp) (by simpa using hcc.1) hcc.2).mono ?_
  rintro x w2 ⟨hk2, _, hyes⟩
  obtain ⟨B1, B2, j1, j2, rfl, hg2, _, _⟩ := hyes decOk_sh
  have hport := decPort_sh
  have HSZ := Lib.hid (Fr.size hg2.id hg2.key)
  have H1C := Lib.hid (Fr.one (decFr 2 ([1] ++ List.replicate 11 0 ++ [0, 0, 0, 2, 0, 3]) (.slice B1 (decB 2 ([1] ++ List.replicate 11 0 ++ [0, 0, 0, 2, 0, 3])).xs.length j1) (.slice B2 (decB 2 ([1] ++ List.replicate 11 0 ++ [0, 0, 0, 2, 0, 3])).rest.length j2)) rfl rfl)
  have HPO := Lib.hid (show (decFr 2 ([1] ++ List.replicate 11 0 ++ [0, 0, 0, 2, 0, 3]) (.slice B1 (decB 2 ([1] ++ List.replicate 11 0 ++ [0, 0, 0, 2, 0, 3])).xs.length j1) (.slice B2 (decB 2 ([1] ++ List.replicate 11 0 ++ [0, 0, 0, 2, 0, 3])).rest.length j2)).cells[14]? = some (.int .i64 3) from by
    rw [Fr.get_port hg2.id hg2.key]; show some (Value.int .i64 _) = _; rw [← hport]; rfl)
  have HK2 := Lib.hid (HK1.out.trans hk2 (by simp))
  clear hk2 hyes hport hg2
  generalize (decFr 2 ([1] ++ List.replicate 11 0 ++ [0, 0, 0, 2, 0, 3]) (.slice B1 (decB 2 ([1] ++ List.replicate 11 0 ++ [0, 0, 0, 2, 0, 3])).xs.length j1) (.slice B2 (decB 2 ([1] ++ List.replicate 11 0 ++ [0, 0, 0, 2, 0, 3])).rest.length j2)) = F at HSZ H1C HPO ⊢
  go_wp2_with (first
    | ((with_reducible show wpList _ _ _ (⟨some 3, Op.alloc _, _, _, _, _⟩ :: _) _ _); refine wpList_alloc_known _ 33 rfl rfl _ (run_alloc_frame _) ?_)
    | ((with_reducible show wpList _ _ _ (⟨none, Op.store 33 (.tmp 3) (.tmp 20), _, _, _, _⟩ :: _) _ _); refine wpList_store_whole _ 33 (.tmp 3) (.tmp 20) rfl rfl w2.heap.size (by rfl) F.cells (by rfl) _ _ (heap_alloc_new _ _) (HSZ.out.trans (Fr.new_size _).symm) (info_frame.trans (congrArg some HSZ.out.symm)) H1C.out _ (setRow_new _ _ _ _) ?_)
    | ((with_reducible show wpList _ _ _ (⟨some 23, Op.build _ _, _, _, _, _⟩ :: _) _ _); refine wpList_build_known _ 33 _ rfl rfl #[] (by simp only [List.map_toArray, List.map_nil]) _ (run_build_frame0 _) ?_))
  have hk3 : Kept [] w (w2.alloc (.cells F.cells 33)) := HK2.out.alloc _
  refine (encode_no (Fr.new 0) none none 0 0 [] [] _ (HL.out.kept hk3 (by simp)) (good_new 0 _) hosts_nil (by simp) (by simp) new0_right).mono ?_
  rintro x w4 ⟨rfl, hk4⟩
  have HK4 := Lib.hid hk4; have HK3 := Lib.hid hk3
  clear hk4 hk3
  go_wp2_with fail
  refine (decode_none none 0 _).mono ?_
  rintro x w5 ⟨rfl, hk5⟩
  have hk35 : Kept [] (w2.alloc (.cells F.cells 33)) w5 := HK4.out.trans hk5 (by simp)
  have c14 : w5.cell? ⟨w2.heap.size, 14, none⟩ = some (.int .i64 3) :=
    (hk35.cell (p := ⟨w2.heap.size, 14, none⟩) (by simp) (by simp)).trans ((cell_of_row _ _ _ _ _ _ (heap_alloc_new _ _)).trans HPO.out)
  have c14' := cell_new c14
  have HK5 := Lib.hid (HK3.out.trans hk35 (by simp))
  clear hk5 hk35 c14
  go_wp2_with (first
    | ((with_reducible show wpList _ _ _ (⟨some 7, Op.alloc _, _, _, _, _⟩ :: _) _ _); refine wpList_alloc_known _ 33 rfl rfl _ (run_alloc_frame _) ?_)
    | ((with_reducible show wpList _ _ _ (⟨none, Op.store 33 (.tmp 7) (.tmp 29), _, _, _, _⟩ :: _) _ _); refine wpList_store_whole _ 33 (.tmp 7) (.tmp 29) rfl rfl w5.heap.size (by rfl) (Fr.new 0).cells (by rfl) _ _ (heap_alloc_new _ _) rfl (info_frame.trans (congrArg some (Fr.new_size _).symm)) (Fr.new_one _) _ (setRow_new _ _ _ _) ?_))
  go_ret
  exact ⟨rfl, HK5.out.alloc _⟩
end Go.Proofs.YthnmjpohdlimiaaDoor
