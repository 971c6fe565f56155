/- hatchwaylaw13.FrameText. -/
import Derived.Test.YtlgmhkibjodcbaaDoorStr
import Derived.Test.YtlgmhkibjodcbaaDoorPlain
namespace Go.Proofs.YtlgmhkibjodcbaaDoor
open Go.RowKit

/-- Whether bytes are a right frame. -/
def okL : List UInt8 → Bool
  | [] => false
  | b0 :: l => decOk b0 l
/-- What Decode answers: none, or a right frame that is told by just these bytes. -/
def DecodedL (w : World) (L : List UInt8) (x : Ending) (w' : World) : Prop :=
  Kept [] w w' ∧ (okL L = false → x = .returned (.tuple #[.agg (Fr.new 0).cells, .int .i64 2])) ∧
    (okL L = true → ∃ F A1 A2 k1 k2 xs ds, x = .returned (.tuple #[.agg F.cells, .int .i64 0]) ∧ Good w' F A1 A2 k1 k2 xs ds ∧ HostsOk xs ∧ rightF F xs ds = true ∧ encF F xs ds = L ∧ xs.length < 256 ∧ ds.length ≤ L.length)
theorem decode_any (A : Option Addr) (c n : Nat) (L : List UInt8) (w : World) (hn : n = L.length) (hL : Laid w) (hr : Rd w A (bvs L)) (h5 : L.length + 40000 ≤ 140737488355328) (hc : L.length ≤ c) (hct : c ≤ maxLen) :
    Calls Tryd.prog 17 #[.slice A n c] w fun x w' => DecodedL w L x w' := by
  subst hn
  rcases L with _ | ⟨b0, l⟩
  · refine (decode_none A c w).mono ?_
    rintro x w' ⟨rfl, hk⟩
    exact ⟨hk, fun _ => rfl, fun h => by cases h⟩
  · have h5' : l.length + 40000 ≤ 140737488355328 := by rw [List.length_cons] at h5; omega
    have hc' : l.length + 1 ≤ c := by rw [List.length_cons] at hc; exact hc
    rw [List.length_cons]
    refine (decode_some A c b0 l w hL hr h5' hc' hct).mono ?_
    rintro x w' ⟨hk, hno, hyes⟩
    refine ⟨hk, hno, fun h => ?_⟩
    obtain ⟨A1, A2, k1, k2, rfl, hg, _, _⟩ := hyes h
    have hok : (decB b0 l).fails = false ∧ rightF (decFr b0 l undef undef) (decB b0 l).xs (decB b0 l).rest = true := by
      have h' : decOk b0 l = true := h
      unfold decOk at h'
      simpa using h'
    have hrest := rdDoes_rest (hasOf b0.toNat) l
    refine ⟨_, A1, A2, k1, k2, _, _, rfl, hg, hostsOk_of (dec_xs _ _), (rightF_decFr b0 l _ _).trans hok.2, dec_enc b0 l _ _ hok.1, ?_, ?_⟩
    · have := (rightF_gives hok.2).2.2.1; omega
    · simp only [List.length_cons]; unfold decB; omega

set_option maxRecDepth 100000 in
set_option maxHeartbeats 2000000 in
theorem text_true (A : Option Addr) (c : Nat) (bs : List UInt8) (w : World) (hL : Laid w) (hr : Rd w A (bvs bs)) (hc : bs.length ≤ c) (hct : c ≤ maxLen) :
    Calls Tryd.prog 6 #[.slice A bs.length c] w fun x w' => x = .returned (.bool true) ∧ Kept [] w w' := by
  obtain ⟨L, hLl, hLr⟩ : ∃ L : List UInt8, L.length = min bs.length 1600 ∧ Rd w A (bvs L) := ⟨bs.take 1600, by simp [Nat.min_comm], by rw [← bvs_take]; exact hr.take 1600⟩
  have HL := Lib.hid hL; have HR := Lib.hid hLr
  have hLc : L.length ≤ c := by omega
  have h5 : L.length + 40000 ≤ 140737488355328 := by omega
  have HLL := Lib.hid hLl
  clear hL hr hLr hLl
  go_enter Tryd.func6, Tryd.ntmps6
  go_wp2_with fail
  refine (shown_true w HL.out).mono ?_
  rintro x w1 ⟨rfl, hk1⟩
  have HK1 := Lib.hid hk1
  clear hk1
  go_wp2_with fail
  · refine (decode_any A c _ L w1 (by have := HLL.out; omega) (HL.out.kept HK1.out (by simp)) (HR.out.kept HK1.out (by simp)) h5 hLc hct).mono ?_
    rintro x w2 ⟨hk2, hno, hyes⟩
    have HK2 := Lib.hid (HK1.out.trans hk2 (by simp)); have HK12 := Lib.hid hk2
    by_cases hok : okL L = true
    · obtain ⟨F, A1, A2, k1, k2, xs, ds, rfl, hg, hh, hri, hen, hx, hd⟩ := hyes hok
      have HSZ := Lib.hid (Fr.size hg.id hg.key)
      have H1C := Lib.hid (Fr.one F (by rw [hg.sa]; rfl) (by rw [hg.sd]; rfl))
      have FRC := Lib.hid (show ∀ j u, F.list[j]? = some u → (w2.alloc (.cells F.cells 33)).cell? ⟨w2.heap.size, 0 + j, none⟩ = some u from fun j u hu => by
        rw [Nat.zero_add, World.cell?_alloc_at _ _ _ _ rfl]; simpa [Fr.cells] using hu)
      have FRI := Lib.hid (show (Tryd.prog.info? 33).map (·.size) = some F.list.length from by rw [info_frame]; have := HSZ.out; rw [← this]; simp [Fr.cells])
      have HG := Lib.hid hg; have HH := Lib.hid hh; have HRI := Lib.hid hri; have HEN := Lib.hid hen
      clear hno hyes hok hk2 hg hh hri hen
      go_wp2_with (first
        | ((with_reducible show wpList _ _ _ (⟨some 4, Op.alloc _, _, _, _, _⟩ :: _) _ _); refine wpList_alloc_known _ 33 rfl rfl _ (run_alloc_frame _) ?_)
        | ((with_reducible show wpList _ _ _ (⟨none, Op.store 33 (.tmp 4) (.tmp 17), _, _, _, _⟩ :: _) _ _); refine wpList_store_whole _ 33 (.tmp 4) (.tmp 17) rfl rfl w2.heap.size (by rfl) F.cells (by rfl) _ _ (heap_alloc_new _ _) (HSZ.out.trans (Fr.new_size _).symm) (info_frame.trans (congrArg some HSZ.out.symm)) H1C.out _ (setRow_new _ _ _ _) ?_)
        | ((with_reducible show wpList _ _ _ (⟨some 23, Op.load _ _, _, _, _, _⟩ :: _) _ _); refine wpList_load_part _ 33 _ rfl rfl w2.heap.size 0 rfl F.list _ FRC.out Tryd.underlying33 rfl FRI.out ?_))
      have hka : Kept [] w2 (w2.alloc (.cells F.cells 33)) := (Kept.refl [] w2).alloc _
      have hkw := HK2.out.trans hka (by simp)
      refine (encode_yes F A1 A2 k1 k2 xs ds _ (HL.out.kept hkw (by simp)) (HG.out.kept hka) HH.out (by omega) (by omega) HRI.out).mono ?_
      rintro x w3 ⟨v3, rfl, hown3, hk3⟩
      rw [HEN.out] at hown3
      obtain ⟨A3, c3, rfl⟩ := own_slice hown3
      have HR3 := Lib.hid (Rd.of_own hown3)
      have HK3 := Lib.hid (hkw.trans hk3 (by simp))
      have HRL := Lib.hid (HR.out.kept HK3.out (by simp))
      clear hown3 hk3 hka hkw
      go_wp2_with (first
        | ((with_reducible show wpList _ _ _ (⟨some 34, Op.convert _ _ _, _, _, _, _⟩ :: _) _ _); refine wpList_string _ _ _ _ rfl rfl A3 c3 L L.length rfl rfl HR3.out Tryd.underlying31 Tryd.underlying5 Tryd.underlying9 ?_)
        | ((with_reducible show wpList _ _ _ (⟨some 36, Op.convert _ _ _, _, _, _, _⟩ :: _) _ _); refine wpList_string _ _ _ _ rfl rfl A c L _ (by have := HLL.out; omega) rfl HRL.out Tryd.underlying31 Tryd.underlying5 Tryd.underlying9 ?_))
      go_ret
      exact ⟨rfl, HK3.out⟩
    · have hok' : okL L = false := by simpa using hok
      obtain rfl := hno hok'
      clear hno hyes hok hok' hk2
      go_wp2_with (first
        | ((with_reducible show wpList _ _ _ (⟨some 4, Op.alloc _, _, _, _, _⟩ :: _) _ _); refine wpList_alloc_known _ 33 rfl rfl _ (run_alloc_frame _) ?_)
        | ((with_reducible show wpList _ _ _ (⟨none, Op.store 33 (.tmp 4) (.tmp 17), _, _, _, _⟩ :: _) _ _); refine wpList_store_whole _ 33 (.tmp 4) (.tmp 17) rfl rfl w2.heap.size (by rfl) (Fr.new 0).cells (by rfl) _ _ (heap_alloc_new _ _) rfl (info_frame.trans (congrArg some (Fr.new_size _).symm)) (Fr.new_one _) _ (setRow_new _ _ _ _) ?_))
      go_ret
      exact ⟨rfl, HK2.out.alloc _⟩
  · refine (decode_any A c _ L w1 (by have := HLL.out; omega) (HL.out.kept HK1.out (by simp)) (HR.out.kept HK1.out (by simp)) h5 hLc hct).mono ?_
    rintro x w2 ⟨hk2, hno, hyes⟩
    have HK2 := Lib.hid (HK1.out.trans hk2 (by simp)); have HK12 := Lib.hid hk2
    by_cases hok : okL L = true
    · obtain ⟨F, A1, A2, k1, k2, xs, ds, rfl, hg, hh, hri, hen, hx, hd⟩ := hyes hok
      have HSZ := Lib.hid (Fr.size hg.id hg.key)
      have H1C := Lib.hid (Fr.one F (by rw [hg.sa]; rfl) (by rw [hg.sd]; rfl))
      have FRC := Lib.hid (show ∀ j u, F.list[j]? = some u → (w2.alloc (.cells F.cells 33)).cell? ⟨w2.heap.size, 0 + j, none⟩ = some u from fun j u hu => by
        rw [Nat.zero_add, World.cell?_alloc_at _ _ _ _ rfl]; simpa [Fr.cells] using hu)
      have FRI := Lib.hid (show (Tryd.prog.info? 33).map (·.size) = some F.list.length from by rw [info_frame]; have := HSZ.out; rw [← this]; simp [Fr.cells])
      have HG := Lib.hid hg; have HH := Lib.hid hh; have HRI := Lib.hid hri; have HEN := Lib.hid hen
      clear hno hyes hok hk2 hg hh hri hen
      go_wp2_with (first
        | ((with_reducible show wpList _ _ _ (⟨some 4, Op.alloc _, _, _, _, _⟩ :: _) _ _); refine wpList_alloc_known _ 33 rfl rfl _ (run_alloc_frame _) ?_)
        | ((with_reducible show wpList _ _ _ (⟨none, Op.store 33 (.tmp 4) (.tmp 17), _, _, _, _⟩ :: _) _ _); refine wpList_store_whole _ 33 (.tmp 4) (.tmp 17) rfl rfl w2.heap.size (by rfl) F.cells (by rfl) _ _ (heap_alloc_new _ _) (HSZ.out.trans (Fr.new_size _).symm) (info_frame.trans (congrArg some HSZ.out.symm)) H1C.out _ (setRow_new _ _ _ _) ?_)
        | ((with_reducible show wpList _ _ _ (⟨some 23, Op.load _ _, _, _, _, _⟩ :: _) _ _); refine wpList_load_part _ 33 _ rfl rfl w2.heap.size 0 rfl F.list _ FRC.out Tryd.underlying33 rfl FRI.out ?_))
      have hka : Kept [] w2 (w2.alloc (.cells F.cells 33)) := (Kept.refl [] w2).alloc _
      have hkw := HK2.out.trans hka (by simp)
      refine (encode_yes F A1 A2 k1 k2 xs ds _ (HL.out.kept hkw (by simp)) (HG.out.kept hka) HH.out (by omega) (by omega) HRI.out).mono ?_
      rintro x w3 ⟨v3, rfl, hown3, hk3⟩
      rw [HEN.out] at hown3
      obtain ⟨A3, c3, rfl⟩ := own_slice hown3
      have HR3 := Lib.hid (Rd.of_own hown3)
      have HK3 := Lib.hid (hkw.trans hk3 (by simp))
      have HRL := Lib.hid (HR.out.kept HK3.out (by simp))
      clear hown3 hk3 hka hkw
      go_wp2_with (first
        | ((with_reducible show wpList _ _ _ (⟨some 34, Op.convert _ _ _, _, _, _, _⟩ :: _) _ _); refine wpList_string _ _ _ _ rfl rfl A3 c3 L L.length rfl rfl HR3.out Tryd.underlying31 Tryd.underlying5 Tryd.underlying9 ?_)
        | ((with_reducible show wpList _ _ _ (⟨some 36, Op.convert _ _ _, _, _, _, _⟩ :: _) _ _); refine wpList_string _ _ _ _ rfl rfl A c L _ (by have := HLL.out; omega) rfl HRL.out Tryd.underlying31 Tryd.underlying5 Tryd.underlying9 ?_))
      go_ret
      exact ⟨rfl, HK3.out⟩
    · have hok' : okL L = false := by simpa using hok
      obtain rfl := hno hok'
      clear hno hyes hok hok' hk2
      go_wp2_with (first
        | ((with_reducible show wpList _ _ _ (⟨some 4, Op.alloc _, _, _, _, _⟩ :: _) _ _); refine wpList_alloc_known _ 33 rfl rfl _ (run_alloc_frame _) ?_)
        | ((with_reducible show wpList _ _ _ (⟨none, Op.store 33 (.tmp 4) (.tmp 17), _, _, _, _⟩ :: _) _ _); refine wpList_store_whole _ 33 (.tmp 4) (.tmp 17) rfl rfl w2.heap.size (by rfl) (Fr.new 0).cells (by rfl) _ _ (heap_alloc_new _ _) rfl (info_frame.trans (congrArg some (Fr.new_size _).symm)) (Fr.new_one _) _ (setRow_new _ _ _ _) ?_))
      go_ret
      exact ⟨rfl, HK2.out.alloc _⟩
end Go.Proofs.YtlgmhkibjodcbaaDoor
