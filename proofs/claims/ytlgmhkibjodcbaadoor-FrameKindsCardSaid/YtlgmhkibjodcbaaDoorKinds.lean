/- hatchwaylaw13.FrameKinds: bytes of no kind are none; nor are those of one that are cut. -/
import Derived.Test.YtlgmhkibjodcbaaDoorLaw
import Derived.Test.YtlgmhkibjodcbaaDoorSizes
namespace Go.Proofs.YtlgmhkibjodcbaaDoor
open Go.RowKit

theorem okL_no {b0 : UInt8} (l : List UInt8) (h : b0.toNat < 1 ∨ 10 < b0.toNat) : okL (b0 :: l) = false := by
  have hk : isKind (b0.toNat : Int) = false := by simp [isKind]; omega
  show decOk b0 l = false
  unfold decOk
  have : rightF (decFr b0 l undef undef) (decB b0 l).xs (decB b0 l).rest = false := rightF_kind hk
  rw [this, Bool.and_false]
/-- No frame of fixed size is one when it is cut. -/
theorem cut_none : ∀ K : Fin 11, 1 ≤ K.val → ∀ m : Fin 42, m.val < (encF (Fr.new K.val) [] []).length → okL ((encF (Fr.new K.val) [] []).take m.val) = false := by decide +kernel
theorem right_new : ∀ K : Fin 11, 1 ≤ K.val → rightF (Fr.new K.val) [] [] = true := by decide +kernel
theorem enc_new_len : ∀ K : Fin 11, 1 ≤ K.val → (encF (Fr.new K.val) [] []).length ≤ 41 := by decide +kernel

set_option maxRecDepth 100000 in
set_option maxHeartbeats 2000000 in
theorem kinds_true (b0 : UInt8) (A : Option Addr) (c : Nat) (bs : List UInt8) (ct : Int) (w : World) (hL : Laid w) (hr : Rd w A (bvs bs)) (hc : bs.length ≤ c) (hct : c ≤ maxLen) :
    Calls Tryd.prog 8 #[.int .u8 b0.toNat, .slice A bs.length c, .int .i64 ct] w fun x w' => x = .returned (.bool true) ∧ Kept [] w w' := by
  have hbs : bs.length ≤ 9223372036854775807 := by unfold maxLen at hct; omega
  have hb0 := b0.toNat_lt
  obtain ⟨L, hLl, hLr⟩ : ∃ L : List UInt8, L.length = min bs.length 100 ∧ Rd w A (bvs L) := ⟨bs.take 100, by simp [Nat.min_comm], by rw [← bvs_take]; exact hr.take 100⟩
  obtain ⟨i0, hi, hz0, hz1, hz2⟩ := info_parts info_byte
  have HL := Lib.hid hL; have HR := Lib.hid hLr
  have HLL := Lib.hid hLl
  clear hL hr hLr hLl
  by_cases hk : b0.toNat < 1 ∨ 10 < b0.toNat
  · have HOK := Lib.hid (okL_no L hk)
    go_enter Tryd.func8, Tryd.ntmps8
    go_wp2_with fail
    refine (shown_true w HL.out).mono ?_
    rintro x w1 ⟨rfl, hk1⟩
    have HK1 := Lib.hid hk1
    clear hk1
    have hn : (if 100 < (bs.length : Int) then (100 : Int) else (bs.length : Int)).toNat = L.length := by have := HLL.out; split <;> omega
    have hL100 : L.length ≤ 100 := by have := HLL.out; omega
    have HN := Lib.hid hn
    clear hn
    go_upto_region 4 with fail
    all_goals
      rw [HN.out]
      have hown : (w1.alloc (.cells #[.int .u8 b0.toNat] 5)).ownsRow w1.heap.size 5 1 (.slice (some ⟨w1.heap.size, 0, none⟩) 1 1) 1 (bvs [b0]) :=
        ⟨by simp, .inr ⟨w1.heap.size, 1, #[.int .u8 b0.toNat], rfl, Nat.le_refl _, heap_alloc_new _ _, by simp, by simp [maxLen], by simp, by simp [bvs]⟩⟩
      have HRW := Lib.hid (HR.out.kept (HK1.out.alloc (.cells #[.int .u8 b0.toNat] 5)) (by simp))
      have HO := Lib.hid hown
      clear hown
      go_wp2_with (first
        | ((with_reducible show wpList _ _ _ (⟨some 31, _, _, _, _, _⟩ :: _) _ _); refine wpList_append_rd _ rfl (.tmp 29) (.tmp 30) 31 rfl w1.heap.size 5 i0 (.int .u8 0) 1 1 Tryd.underlying31 hi hz0 hz1 hz2 rfl (by decide) _ 1 _ rfl HO.out A L.length c (bvs L) rfl (by simp) HRW.out (bvs_one L) (by unfold maxLen; omega) (by omega) (by simp) ?_))
      all_goals
        intro v2 w2 hown2 hg2 _
        have hk2 : Kept [] w1 w2 := ((Kept.refl [] w1).alloc _).grown hg2 (by intro k hk; simp [Value.ownBlock] at hk; omega)
        rw [← bvs_append] at hown2
        obtain ⟨A2, c2, rfl⟩ := own_slice hown2
        have hr2 := Rd.of_own hown2
        have hcc : 1 + L.length ≤ c2 ∧ c2 ≤ maxLen := by
          rcases own_form hown2 with ⟨hv, hn, _⟩ | ⟨g, cap, cur, hv, _, _, _, h1, h2, _⟩
          · simp at hn
          · injection hv with _ _ hc; subst hc; exact ⟨by simpa using h1, h2⟩
        obtain ⟨hc1, hc2⟩ := hcc
        have HR2 := Lib.hid hr2
        have HK2 := Lib.hid (HK1.out.trans hk2 (by simp))
        clear hown2 hg2 hk2 hr2
        go_wp2_with fail
        refine (decode_any A2 c2 _ (b0 :: L) w2 (by simp; omega) (HL.out.kept HK2.out (by simp)) HR2.out (by simp; omega) (by simp; omega) hc2).mono ?_
        rintro x w3 ⟨hk3, hno, _⟩
        obtain rfl := hno HOK.out
        have HK3 := Lib.hid (HK2.out.trans hk3 (by simp))
        clear hno hk3
        go_wp2_with (first
          | ((with_reducible show wpList _ _ _ (⟨some 8, Op.alloc _, _, _, _, _⟩ :: _) _ _); refine wpList_alloc_known _ 33 rfl rfl _ (run_alloc_frame _) ?_)
          | ((with_reducible show wpList _ _ _ (⟨none, Op.store 33 (.tmp 8) (.tmp 33), _, _, _, _⟩ :: _) _ _); refine wpList_store_whole _ 33 (.tmp 8) (.tmp 33) rfl rfl w3.heap.size (by rfl) (Fr.new 0).cells (by rfl) _ _ (heap_alloc_new _ _) rfl (info_frame.trans (congrArg some (Fr.new_size _).symm)) (Fr.new_one _) _ (setRow_new _ _ _ _) ?_))
        go_ret
        exact ⟨rfl, HK3.out.alloc _⟩
  · obtain ⟨K, hK⟩ : ∃ K : Nat, K = b0.toNat := ⟨_, rfl⟩
    have hk1 : 1 ≤ K := by omega
    have hk2 : K ≤ 10 := by omega
    rw [← hK]
    clear hk hK hb0
    obtain ⟨F, hF⟩ : ∃ F : Fr, F = Fr.new K := ⟨_, rfl⟩
    have hri : rightF F [] [] = true := by rw [hF]; exact right_new ⟨K, by omega⟩ hk1
    have hlen : (encF F [] []).length ≤ 41 := by rw [hF]; exact enc_new_len ⟨K, by omega⟩ hk1
    have hcut : ∀ m, m < (encF F [] []).length → okL ((encF F [] []).take m) = false := fun m hm => by
      rw [hF] at hm hlen ⊢; exact cut_none ⟨K, by omega⟩ hk1 ⟨m, by omega⟩ hm
    obtain ⟨N, hN⟩ : ∃ N, N = (encF F [] []).length := ⟨_, rfl⟩
    have hN0 : 0 < N := by rw [hN]; simp [encF]
    rw [← hN] at hlen
    have hmk : 0 ≤ bits .and .i64 ct 65535 ∧ bits .and .i64 ct 65535 ≤ 65535 := by rw [and_65535]; omega
    obtain ⟨hmk1, hmk2⟩ := hmk
    obtain ⟨q, hq⟩ : ∃ q : Nat, bits .and .i64 ct 65535 % (N : Int) = (q : Int) := ⟨(bits .and .i64 ct 65535 % (N : Int)).toNat, (Int.toNat_of_nonneg (Int.emod_nonneg _ (by omega))).symm⟩
    have hqN : q < N := by have := Int.emod_lt_of_pos (bits .and .i64 ct 65535) (b := (N : Int)) (by omega); omega
    have HRI := Lib.hid hri; have HCUT := Lib.hid hcut; have HF := Lib.hid hF; have HN := Lib.hid hN
    clear hri hcut hN
    go_enter Tryd.func8, Tryd.ntmps8
    go_wp2_with fail
    refine (shown_true w HL.out).mono ?_
    rintro x w1 ⟨rfl, hk1⟩
    have HK1 := Lib.hid hk1
    clear hk1
    have FRC := Lib.hid (show ∀ j u, F.list[j]? = some u → (w1.alloc (.cells F.cells 33)).cell? ⟨w1.heap.size, 0 + j, none⟩ = some u from fun j u hu => by
      rw [Nat.zero_add, World.cell?_alloc_at _ _ _ _ rfl]; simpa [Fr.cells] using hu)
    have FRI := Lib.hid (show (Tryd.prog.info? 33).map (·.size) = some F.list.length from by rw [info_frame, hF]; rfl)
    have F50 := Lib.hid (show F.cells.size = 50 from by rw [hF]; rfl)
    have F1 := Lib.hid (show ∀ v ∈ F.cells.toList, v.oneCell' = true from by rw [hF]; exact Fr.new_one _)
    have FB := Lib.hid (show (Instr.build 33 #[(0, .int .i64 (K : Int))]).run Tryd.prog w1 = .ok (.agg F.cells) w1 from by rw [hF]; exact run_build_frame _ _)
    clear hF
    go_wp2_with (first
      | ((with_reducible show wpList _ _ _ (⟨some 10, Op.alloc _, _, _, _, _⟩ :: _) _ _); refine wpList_alloc_known _ 33 rfl rfl _ (run_alloc_frame _) ?_)
      | ((with_reducible show wpList _ _ _ (⟨some 42, Op.build _ _, _, _, _, _⟩ :: _) _ _); refine wpList_build_known _ 33 _ rfl rfl #[(0, .int .i64 (K : Int))] (by simp only [List.map_toArray, List.map_cons, List.map_nil]; rfl) _ FB.out ?_)
      | ((with_reducible show wpList _ _ _ (⟨none, Op.store 33 (.tmp 10) (.tmp 42), _, _, _, _⟩ :: _) _ _); refine wpList_store_whole _ 33 (.tmp 10) (.tmp 42) rfl rfl w1.heap.size (by rfl) F.cells (by rfl) _ _ (heap_alloc_new _ _) (F50.out.trans (Fr.new_size _).symm) (info_frame.trans (congrArg some F50.out.symm)) F1.out _ (setRow_new _ _ _ _) ?_)
      | ((with_reducible show wpList _ _ _ (⟨some 44, Op.load _ _, _, _, _, _⟩ :: _) _ _); refine wpList_load_part _ 33 _ rfl rfl w1.heap.size 0 rfl F.list _ FRC.out Tryd.underlying33 rfl FRI.out ?_))
    all_goals
      have hka : Kept [] w1 (w1.alloc (.cells F.cells 33)) := (Kept.refl [] w1).alloc _
      have hkw := HK1.out.trans hka (by simp)
      have hg : Good (w1.alloc (.cells F.cells 33)) F none none 0 0 [] [] := by rw [HF.out]; exact good_new _ _
      refine (encode_yes F none none 0 0 [] [] _ (HL.out.kept hkw (by simp)) hg hosts_nil (by simp) (by simp) HRI.out).mono ?_
      rintro x w3 ⟨v3, rfl, hown3, hk3⟩
      rw [← HN.out] at hown3
      obtain ⟨A3, c3, rfl⟩ := own_slice hown3
      have hr3 := (Rd.of_own hown3).take (N - (1 + q))
      rw [bvs_take] at hr3
      have hcc : N ≤ c3 ∧ c3 ≤ maxLen := by
        rcases own_form hown3 with ⟨hv, hn, _⟩ | ⟨g, cap, cur, hv, _, _, _, h1, h2, _⟩
        · omega
        · injection hv with _ _ hc; subst hc; exact ⟨by simpa using h1, h2⟩
      obtain ⟨hc1, hc2⟩ := hcc
      have HR3 := Lib.hid hr3
      have HOK := Lib.hid (HCUT.out (N - (1 + q)) (by have := HN.out; omega))
      have HTL := Lib.hid (show ((encF F [] []).take (N - (1 + q))).length = N - (1 + q) by have := HN.out; simp; omega)
      have HK3 := Lib.hid (hkw.trans hk3 (by simp))
      clear hown3 hk3 hka hkw hg hr3
      go_wp2_with fail
      refine (decode_any A3 c3 _ ((encF F [] []).take (N - (1 + q))) w3 HTL.out.symm (HL.out.kept HK3.out (by simp)) HR3.out (by rw [HTL.out]; omega) (by rw [HTL.out]; omega) hc2).mono ?_
      rintro x w4 ⟨hk4, hno, _⟩
      obtain rfl := hno HOK.out
      have HK4 := Lib.hid (HK3.out.trans hk4 (by simp))
      clear hno hk4
      go_wp2_with (first
        | ((with_reducible show wpList _ _ _ (⟨some 13, Op.alloc _, _, _, _, _⟩ :: _) _ _); refine wpList_alloc_known _ 33 rfl rfl _ (run_alloc_frame _) ?_)
        | ((with_reducible show wpList _ _ _ (⟨none, Op.store 33 (.tmp 13) (.tmp 69), _, _, _, _⟩ :: _) _ _); refine wpList_store_whole _ 33 (.tmp 13) (.tmp 69) rfl rfl w4.heap.size (by rfl) (Fr.new 0).cells (by rfl) _ _ (heap_alloc_new _ _) rfl (info_frame.trans (congrArg some (Fr.new_size _).symm)) (Fr.new_one _) _ (setRow_new _ _ _ _) ?_))
      go_ret
      exact ⟨rfl, HK4.out.alloc _⟩
end Go.Proofs.YtlgmhkibjodcbaaDoor
