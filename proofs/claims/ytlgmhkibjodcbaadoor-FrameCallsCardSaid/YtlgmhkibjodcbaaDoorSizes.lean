/- hatchwaylaw13.FrameSizes: a frame has as many bytes as what it has, and one. -/
import Derived.Test.YtlgmhkibjodcbaaDoorLaw
import Derived.Deep.DeepCutAuto
namespace Go.Proofs.YtlgmhkibjodcbaaDoor
open Go.RowKit

def SizesOf (K : Int) : Prop := ∀ (kd nn : Int) (A : Option Addr) (c : Nat) (bs : List UInt8) (w : World) (_ : 1 + bits .and .i64 kd 65535 % 10 = K) (q : Nat) (_ : bits .and .i64 nn 65535 % 11 = (q : Int)) (_ : q ≤ 10) (_ : ∀ a, A = some a → a.block < w.heap.size) (_ : Laid w) (_ : Rd w A (bvs bs)) (_ : bs.length ≤ c) (_ : c ≤ maxLen),
    Calls Tryd.prog 7 #[.int .i64 kd, .slice A bs.length c, .int .i64 nn] w fun x w' => x = .returned (.bool true) ∧ Kept [] w w'
/-- What a slice of the call's own holds at its begin. -/
theorem own_first {w : World} {base n c : Nat} {A : Option Addr} {b : UInt8} {l : List UInt8} (h : w.ownsRow base 5 1 (.slice A n c) n (bvs (b :: l))) :
    ∃ g off, A = some ⟨g, off, none⟩ ∧ w.cell? ⟨g, off, none⟩ = some (.int .u8 b.toNat) := by
  obtain ⟨g, off, hA, _, hc⟩ := (Rd.of_own h).at_ (k := 0) (by simp [bvs])
  exact ⟨g, off, hA, by have := hc 0 (.int .u8 b.toNat) (by simp [bvs]); simpa using this⟩
theorem encF_sd (K : Int) (sd : Value) (L : List UInt8) : encF { Fr.new K with sd := sd } [] L = encF (Fr.new K) [] [] ++ L := by simp [encF, encH, Fr.new]
theorem good_sd (K : Int) (A : Option Addr) (c : Nat) (L : List UInt8) (w : World) (hr : Rd w A (bvs L)) (hA : ∀ a, A = some a → a.block < w.heap.size) : Good w { Fr.new K with sd := .slice A L.length c } none A 0 c [] L :=
  ⟨rfl, rfl, rfl, rfl, Rd.nil, hr, by simp, hA, by simp [Fr.new], by simp [Fr.new], by simp [Fr.new], by simp [Fr.new]⟩
theorem right_sd (K : Int) (sd : Value) (L : List UInt8) (hk : K = 4 ∨ K = 5 ∨ K = 6 ∨ K = 7 ∨ K = 10) :
    rightF { Fr.new K with sd := sd } [] L = (!(K == 4 && decide (1000 < L.length)) && decide ((encF (Fr.new K) [] []).length + L.length ≤ 1500)) := by
  unfold rightF
  rw [encF_sd, List.length_append]
  rcases hk with rfl | rfl | rfl | rfl | rfl <;> simp [isKind, portB, emptyF, hasOf, Fr.new, zeros]

set_option maxRecDepth 100000 in
set_option maxHeartbeats 2000000 in
theorem sizes_1 : SizesOf 1 := by
  intro kd nn A c bs w hK q hq hq10 hA hL hr hc hct
  have hmk : 0 ≤ bits .and .i64 kd 65535 ∧ bits .and .i64 kd 65535 ≤ 65535 := by rw [and_65535]; omega
  have hmn : 0 ≤ bits .and .i64 nn 65535 ∧ bits .and .i64 nn 65535 ≤ 65535 := by rw [and_65535]; omega
  obtain ⟨hmk1, hmk2⟩ := hmk
  obtain ⟨hmn1, hmn2⟩ := hmn
  obtain ⟨L, hLl, hLr⟩ : ∃ L : List UInt8, L.length = min bs.length 1600 ∧ Rd w A (bvs L) := ⟨bs.take 1600, by simp [Nat.min_comm], by rw [← bvs_take]; exact hr.take 1600⟩
  have HL := Lib.hid hL; have HR := Lib.hid hLr
  have HLL := Lib.hid hLl
  have HA := Lib.hid hA; clear hA
  clear hL hr hLr hLl
  go_enter Tryd.func7, Tryd.ntmps7
  go_wp2_with fail
  refine (shown_true w HL.out).mono ?_
  rintro x w1 ⟨rfl, hk1⟩
  have HK1 := Lib.hid hk1
  clear hk1
  have FRC := Lib.hid (show ∀ j u, (Fr.new 1).list[j]? = some u → (w1.alloc (.cells (Fr.new 1).cells 33)).cell? ⟨w1.heap.size, 0 + j, none⟩ = some u from fun j u hu => by
    rw [Nat.zero_add, World.cell?_alloc_at _ _ _ _ rfl]; simpa [Fr.cells] using hu)
  have FRI := Lib.hid (show (Tryd.prog.info? 33).map (·.size) = some (Fr.new 1).list.length from by rw [info_frame]; rfl)
  go_wp2_with (first
    | ((with_reducible show wpList _ _ _ (⟨some 63, Op.load _ _, _, _, _, _⟩ :: _) _ _); refine wpList_load_part _ 33 _ rfl rfl w1.heap.size 0 rfl (Fr.new 1).list _ FRC.out Tryd.underlying33 rfl FRI.out ?_)
    | ((with_reducible show wpList _ _ _ (⟨some 8, Op.alloc _, _, _, _, _⟩ :: _) _ _); refine wpList_alloc_known _ 33 rfl rfl _ (run_alloc_frame _) ?_)
    | ((with_reducible show wpList _ _ _ (⟨some 27, Op.build _ _, _, _, _, _⟩ :: _) _ _); refine wpList_build_known _ 33 _ rfl rfl #[(0, .int .i64 1)] (by simp only [List.map_toArray, List.map_cons, List.map_nil]; rfl) _ (run_build_frame _ _) ?_)
    | ((with_reducible show wpList _ _ _ (⟨none, Op.store 33 (.tmp 8) (.tmp 27), _, _, _, _⟩ :: _) _ _); refine wpList_store_whole _ 33 (.tmp 8) (.tmp 27) rfl rfl w1.heap.size (by rfl) (Fr.new 1).cells (by rfl) _ _ (heap_alloc_new _ _) rfl (info_frame.trans (congrArg some (Fr.new_size _).symm)) (Fr.new_one _) _ (setRow_new _ _ _ _) ?_))
  all_goals
    have hka : Kept [] w1 (w1.alloc (.cells (Fr.new 1).cells 33)) := (Kept.refl [] w1).alloc _
    have hkw := HK1.out.trans hka (by simp)
    refine (encode_yes (Fr.new 1) none none 0 0 [] [] _ (HL.out.kept hkw (by simp)) (good_new 1 _) hosts_nil (by simp) (by simp) (by decide +kernel)).mono ?_
    rintro x w3 ⟨v3, rfl, hown3, hk3⟩
    rw [show encF (Fr.new 1) [] [] = 1 :: (encF (Fr.new 1) [] []).tail from by decide +kernel] at hown3
    obtain ⟨A3, c3, rfl⟩ := own_slice hown3
    obtain ⟨g, off, rfl, hcell⟩ := own_first hown3
    have hlen : (1 :: (encF (Fr.new 1) [] []).tail : List UInt8).length = 13 := by decide +kernel
    rw [hlen]
    have HK3 := Lib.hid (hkw.trans hk3 (by simp))
    clear hown3 hk3 hka hkw hlen
    go_wp2_with fail
    go_ret
    exact ⟨rfl, HK3.out⟩

set_option maxRecDepth 100000 in
set_option maxHeartbeats 2000000 in
theorem sizes_2 : SizesOf 2 := by
  intro kd nn A c bs w hK q hq hq10 hA hL hr hc hct
  have hmk : 0 ≤ bits .and .i64 kd 65535 ∧ bits .and .i64 kd 65535 ≤ 65535 := by rw [and_65535]; omega
  have hmn : 0 ≤ bits .and .i64 nn 65535 ∧ bits .and .i64 nn 65535 ≤ 65535 := by rw [and_65535]; omega
  obtain ⟨hmk1, hmk2⟩ := hmk
  obtain ⟨hmn1, hmn2⟩ := hmn
  obtain ⟨L, hLl, hLr⟩ : ∃ L : List UInt8, L.length = min bs.length 1600 ∧ Rd w A (bvs L) := ⟨bs.take 1600, by simp [Nat.min_comm], by rw [← bvs_take]; exact hr.take 1600⟩
  have HL := Lib.hid hL; have HR := Lib.hid hLr
  have HLL := Lib.hid hLl
  have HA := Lib.hid hA; clear hA
  clear hL hr hLr hLl
  go_enter Tryd.func7, Tryd.ntmps7
  go_wp2_with fail
  refine (shown_true w HL.out).mono ?_
  rintro x w1 ⟨rfl, hk1⟩
  have HK1 := Lib.hid hk1
  clear hk1
  have FRC := Lib.hid (show ∀ j u, (Fr.new 2).list[j]? = some u → (w1.alloc (.cells (Fr.new 2).cells 33)).cell? ⟨w1.heap.size, 0 + j, none⟩ = some u from fun j u hu => by
    rw [Nat.zero_add, World.cell?_alloc_at _ _ _ _ rfl]; simpa [Fr.cells] using hu)
  have FRI := Lib.hid (show (Tryd.prog.info? 33).map (·.size) = some (Fr.new 2).list.length from by rw [info_frame]; rfl)
  go_wp2_with (first
    | ((with_reducible show wpList _ _ _ (⟨some 63, Op.load _ _, _, _, _, _⟩ :: _) _ _); refine wpList_load_part _ 33 _ rfl rfl w1.heap.size 0 rfl (Fr.new 2).list _ FRC.out Tryd.underlying33 rfl FRI.out ?_)
    | ((with_reducible show wpList _ _ _ (⟨some 8, Op.alloc _, _, _, _, _⟩ :: _) _ _); refine wpList_alloc_known _ 33 rfl rfl _ (run_alloc_frame _) ?_)
    | ((with_reducible show wpList _ _ _ (⟨some 27, Op.build _ _, _, _, _, _⟩ :: _) _ _); refine wpList_build_known _ 33 _ rfl rfl #[(0, .int .i64 2)] (by simp only [List.map_toArray, List.map_cons, List.map_nil]; rfl) _ (run_build_frame _ _) ?_)
    | ((with_reducible show wpList _ _ _ (⟨none, Op.store 33 (.tmp 8) (.tmp 27), _, _, _, _⟩ :: _) _ _); refine wpList_store_whole _ 33 (.tmp 8) (.tmp 27) rfl rfl w1.heap.size (by rfl) (Fr.new 2).cells (by rfl) _ _ (heap_alloc_new _ _) rfl (info_frame.trans (congrArg some (Fr.new_size _).symm)) (Fr.new_one _) _ (setRow_new _ _ _ _) ?_))
  all_goals
    have hka : Kept [] w1 (w1.alloc (.cells (Fr.new 2).cells 33)) := (Kept.refl [] w1).alloc _
    have hkw := HK1.out.trans hka (by simp)
    refine (encode_yes (Fr.new 2) none none 0 0 [] [] _ (HL.out.kept hkw (by simp)) (good_new 2 _) hosts_nil (by simp) (by simp) (by decide +kernel)).mono ?_
    rintro x w3 ⟨v3, rfl, hown3, hk3⟩
    rw [show encF (Fr.new 2) [] [] = 2 :: (encF (Fr.new 2) [] []).tail from by decide +kernel] at hown3
    obtain ⟨A3, c3, rfl⟩ := own_slice hown3
    obtain ⟨g, off, rfl, hcell⟩ := own_first hown3
    have hlen : (2 :: (encF (Fr.new 2) [] []).tail : List UInt8).length = 19 := by decide +kernel
    rw [hlen]
    have HK3 := Lib.hid (hkw.trans hk3 (by simp))
    clear hown3 hk3 hka hkw hlen
    go_wp2_with fail
    go_ret
    exact ⟨rfl, HK3.out⟩

set_option maxRecDepth 100000 in
set_option maxHeartbeats 2000000 in
theorem sizes_8 : SizesOf 8 := by
  intro kd nn A c bs w hK q hq hq10 hA hL hr hc hct
  have hmk : 0 ≤ bits .and .i64 kd 65535 ∧ bits .and .i64 kd 65535 ≤ 65535 := by rw [and_65535]; omega
  have hmn : 0 ≤ bits .and .i64 nn 65535 ∧ bits .and .i64 nn 65535 ≤ 65535 := by rw [and_65535]; omega
  obtain ⟨hmk1, hmk2⟩ := hmk
  obtain ⟨hmn1, hmn2⟩ := hmn
  obtain ⟨L, hLl, hLr⟩ : ∃ L : List UInt8, L.length = min bs.length 1600 ∧ Rd w A (bvs L) := ⟨bs.take 1600, by simp [Nat.min_comm], by rw [← bvs_take]; exact hr.take 1600⟩
  have HL := Lib.hid hL; have HR := Lib.hid hLr
  have HLL := Lib.hid hLl
  have HA := Lib.hid hA; clear hA
  clear hL hr hLr hLl
  go_enter Tryd.func7, Tryd.ntmps7
  go_wp2_with fail
  refine (shown_true w HL.out).mono ?_
  rintro x w1 ⟨rfl, hk1⟩
  have HK1 := Lib.hid hk1
  clear hk1
  have FRC := Lib.hid (show ∀ j u, (Fr.new 8).list[j]? = some u → (w1.alloc (.cells (Fr.new 8).cells 33)).cell? ⟨w1.heap.size, 0 + j, none⟩ = some u from fun j u hu => by
    rw [Nat.zero_add, World.cell?_alloc_at _ _ _ _ rfl]; simpa [Fr.cells] using hu)
  have FRI := Lib.hid (show (Tryd.prog.info? 33).map (·.size) = some (Fr.new 8).list.length from by rw [info_frame]; rfl)
  go_wp2_with (first
    | ((with_reducible show wpList _ _ _ (⟨some 63, Op.load _ _, _, _, _, _⟩ :: _) _ _); refine wpList_load_part _ 33 _ rfl rfl w1.heap.size 0 rfl (Fr.new 8).list _ FRC.out Tryd.underlying33 rfl FRI.out ?_)
    | ((with_reducible show wpList _ _ _ (⟨some 8, Op.alloc _, _, _, _, _⟩ :: _) _ _); refine wpList_alloc_known _ 33 rfl rfl _ (run_alloc_frame _) ?_)
    | ((with_reducible show wpList _ _ _ (⟨some 27, Op.build _ _, _, _, _, _⟩ :: _) _ _); refine wpList_build_known _ 33 _ rfl rfl #[(0, .int .i64 8)] (by simp only [List.map_toArray, List.map_cons, List.map_nil]; rfl) _ (run_build_frame _ _) ?_)
    | ((with_reducible show wpList _ _ _ (⟨none, Op.store 33 (.tmp 8) (.tmp 27), _, _, _, _⟩ :: _) _ _); refine wpList_store_whole _ 33 (.tmp 8) (.tmp 27) rfl rfl w1.heap.size (by rfl) (Fr.new 8).cells (by rfl) _ _ (heap_alloc_new _ _) rfl (info_frame.trans (congrArg some (Fr.new_size _).symm)) (Fr.new_one _) _ (setRow_new _ _ _ _) ?_))
  all_goals
    have hka : Kept [] w1 (w1.alloc (.cells (Fr.new 8).cells 33)) := (Kept.refl [] w1).alloc _
    have hkw := HK1.out.trans hka (by simp)
    refine (encode_yes (Fr.new 8) none none 0 0 [] [] _ (HL.out.kept hkw (by simp)) (good_new 8 _) hosts_nil (by simp) (by simp) (by decide +kernel)).mono ?_
    rintro x w3 ⟨v3, rfl, hown3, hk3⟩
    rw [show encF (Fr.new 8) [] [] = 8 :: (encF (Fr.new 8) [] []).tail from by decide +kernel] at hown3
    obtain ⟨A3, c3, rfl⟩ := own_slice hown3
    obtain ⟨g, off, rfl, hcell⟩ := own_first hown3
    have hlen : (8 :: (encF (Fr.new 8) [] []).tail : List UInt8).length = 33 := by decide +kernel
    rw [hlen]
    have HK3 := Lib.hid (hkw.trans hk3 (by simp))
    clear hown3 hk3 hka hkw hlen
    go_wp2_with fail
    go_ret
    exact ⟨rfl, HK3.out⟩

set_option maxRecDepth 100000 in
set_option maxHeartbeats 2000000 in
theorem sizes_9 : SizesOf 9 := by
  intro kd nn A c bs w hK q hq hq10 hA hL hr hc hct
  have hmk : 0 ≤ bits .and .i64 kd 65535 ∧ bits .and .i64 kd 65535 ≤ 65535 := by rw [and_65535]; omega
  have hmn : 0 ≤ bits .and .i64 nn 65535 ∧ bits .and .i64 nn 65535 ≤ 65535 := by rw [and_65535]; omega
  obtain ⟨hmk1, hmk2⟩ := hmk
  obtain ⟨hmn1, hmn2⟩ := hmn
  obtain ⟨L, hLl, hLr⟩ : ∃ L : List UInt8, L.length = min bs.length 1600 ∧ Rd w A (bvs L) := ⟨bs.take 1600, by simp [Nat.min_comm], by rw [← bvs_take]; exact hr.take 1600⟩
  have HL := Lib.hid hL; have HR := Lib.hid hLr
  have HLL := Lib.hid hLl
  have HA := Lib.hid hA; clear hA
  clear hL hr hLr hLl
  go_enter Tryd.func7, Tryd.ntmps7
  go_wp2_with fail
  refine (shown_true w HL.out).mono ?_
  rintro x w1 ⟨rfl, hk1⟩
  have HK1 := Lib.hid hk1
  clear hk1
  have FRC := Lib.hid (show ∀ j u, (Fr.new 9).list[j]? = some u → (w1.alloc (.cells (Fr.new 9).cells 33)).cell? ⟨w1.heap.size, 0 + j, none⟩ = some u from fun j u hu => by
    rw [Nat.zero_add, World.cell?_alloc_at _ _ _ _ rfl]; simpa [Fr.cells] using hu)
  have FRI := Lib.hid (show (Tryd.prog.info? 33).map (·.size) = some (Fr.new 9).list.length from by rw [info_frame]; rfl)
  go_wp2_with (first
    | ((with_reducible show wpList _ _ _ (⟨some 63, Op.load _ _, _, _, _, _⟩ :: _) _ _); refine wpList_load_part _ 33 _ rfl rfl w1.heap.size 0 rfl (Fr.new 9).list _ FRC.out Tryd.underlying33 rfl FRI.out ?_)
    | ((with_reducible show wpList _ _ _ (⟨some 8, Op.alloc _, _, _, _, _⟩ :: _) _ _); refine wpList_alloc_known _ 33 rfl rfl _ (run_alloc_frame _) ?_)
    | ((with_reducible show wpList _ _ _ (⟨some 27, Op.build _ _, _, _, _, _⟩ :: _) _ _); refine wpList_build_known _ 33 _ rfl rfl #[(0, .int .i64 9)] (by simp only [List.map_toArray, List.map_cons, List.map_nil]; rfl) _ (run_build_frame _ _) ?_)
    | ((with_reducible show wpList _ _ _ (⟨none, Op.store 33 (.tmp 8) (.tmp 27), _, _, _, _⟩ :: _) _ _); refine wpList_store_whole _ 33 (.tmp 8) (.tmp 27) rfl rfl w1.heap.size (by rfl) (Fr.new 9).cells (by rfl) _ _ (heap_alloc_new _ _) rfl (info_frame.trans (congrArg some (Fr.new_size _).symm)) (Fr.new_one _) _ (setRow_new _ _ _ _) ?_))
  all_goals
    have hka : Kept [] w1 (w1.alloc (.cells (Fr.new 9).cells 33)) := (Kept.refl [] w1).alloc _
    have hkw := HK1.out.trans hka (by simp)
    refine (encode_yes (Fr.new 9) none none 0 0 [] [] _ (HL.out.kept hkw (by simp)) (good_new 9 _) hosts_nil (by simp) (by simp) (by decide +kernel)).mono ?_
    rintro x w3 ⟨v3, rfl, hown3, hk3⟩
    rw [show encF (Fr.new 9) [] [] = 9 :: (encF (Fr.new 9) [] []).tail from by decide +kernel] at hown3
    obtain ⟨A3, c3, rfl⟩ := own_slice hown3
    obtain ⟨g, off, rfl, hcell⟩ := own_first hown3
    have hlen : (9 :: (encF (Fr.new 9) [] []).tail : List UInt8).length = 7 := by decide +kernel
    rw [hlen]
    have HK3 := Lib.hid (hkw.trans hk3 (by simp))
    clear hown3 hk3 hka hkw hlen
    go_wp2_with fail
    go_ret
    exact ⟨rfl, HK3.out⟩

set_option maxRecDepth 100000 in
set_option maxHeartbeats 4000000 in
theorem sizes_4 : SizesOf 4 := by
  intro kd nn A c bs w hK q hq hq10 hA hL hr hc hct
  have hmk : 0 ≤ bits .and .i64 kd 65535 ∧ bits .and .i64 kd 65535 ≤ 65535 := by rw [and_65535]; omega
  have hmn : 0 ≤ bits .and .i64 nn 65535 ∧ bits .and .i64 nn 65535 ≤ 65535 := by rw [and_65535]; omega
  obtain ⟨hmk1, hmk2⟩ := hmk
  obtain ⟨hmn1, hmn2⟩ := hmn
  have hbs : bs.length ≤ 9223372036854775807 := by unfold maxLen at hct; omega
  obtain ⟨L, hLl, hLr⟩ : ∃ L : List UInt8, L.length = min bs.length 1600 ∧ Rd w A (bvs L) := ⟨bs.take 1600, by simp [Nat.min_comm], by rw [← bvs_take]; exact hr.take 1600⟩
  have hLk : L.length ≤ 1600 := by omega
  have HL := Lib.hid hL; have HR := Lib.hid hLr
  have HLL := Lib.hid hLl
  have HA := Lib.hid hA; clear hA
  clear hL hr hLr hLl
  go_enter Tryd.func7, Tryd.ntmps7
  go_wp2_with fail
  refine (shown_true w HL.out).mono ?_
  rintro x w1 ⟨rfl, hk1⟩
  have HK1 := Lib.hid hk1
  clear hk1
  go_upto_region 30 with (first
    | ((with_reducible show wpList _ _ _ (⟨some 8, Op.alloc _, _, _, _, _⟩ :: _) _ _); refine wpList_alloc_known _ 33 rfl rfl _ (run_alloc_frame _) ?_)
    | ((with_reducible show wpList _ _ _ (⟨some 27, Op.build _ _, _, _, _, _⟩ :: _) _ _); refine wpList_build_known _ 33 _ rfl rfl #[(0, .int .i64 4)] (by simp only [List.map_toArray, List.map_cons, List.map_nil]; rfl) _ (run_build_frame _ _) ?_)
    | ((with_reducible show wpList _ _ _ (⟨none, Op.store 33 (.tmp 8) (.tmp 27), _, _, _, _⟩ :: _) _ _); refine wpList_store_whole _ 33 (.tmp 8) (.tmp 27) rfl rfl w1.heap.size (by rfl) (Fr.new 4).cells (by rfl) _ _ (heap_alloc_new _ _) rfl (info_frame.trans (congrArg some (Fr.new_size _).symm)) (Fr.new_one _) _ (setRow_new _ _ _ _) ?_))
  · have hn : L.length = 1600 := by have := HLL.out; omega
    have HN := Lib.hid hn
    have hsd : (Fr.new 4).cells.setIfInBounds 49 (.slice A 1600 c) = ({ Fr.new 4 with sd := .slice A L.length c } : Fr).cells := by rw [HN.out]; exact Fr.set_sd rfl rfl _
    rw [hsd]
    clear hsd hn
    obtain ⟨F, hF⟩ : ∃ F : Fr, F = { Fr.new 4 with sd := .slice A L.length c } := ⟨_, rfl⟩
    rw [← hF]
    have hka : Kept [] w1 (w1.alloc (.cells F.cells 33)) := (Kept.refl [] w1).alloc _
    have hkw := HK1.out.trans hka (by simp)
    have hg : Good (w1.alloc (.cells F.cells 33)) F none A 0 c [] L := by
      rw [hF]; exact good_sd 4 A c L _ (HR.out.kept (by rw [← hF]; exact hkw) (by simp)) (fun a e => Nat.lt_of_lt_of_le (HA.out a e) (by rw [← hF]; exact hkw.size))
    have hen : encF F [] L = 4 :: ((encF (Fr.new 4) [] []).tail ++ L) := by
      rw [hF, encF_sd, show encF (Fr.new 4) [] [] = 4 :: (encF (Fr.new 4) [] []).tail from by decide +kernel]; rfl
    have hri : rightF F [] L = (!((4 : Int) == 4 && decide (1000 < L.length)) && decide ((encF (Fr.new 4) [] []).length + L.length ≤ 1500)) := by rw [hF]; exact right_sd 4 _ L (by decide)
    rw [show (encF (Fr.new 4) [] []).length = 1 from by decide +kernel] at hri
    have hln : (4 :: ((encF (Fr.new 4) [] []).tail ++ L) : List UInt8).length = 1 + L.length := by
      rw [← List.cons_append, List.length_append]; congr 1
    have FRC := Lib.hid (show ∀ j u, F.list[j]? = some u → (w1.alloc (.cells F.cells 33)).cell? ⟨w1.heap.size, 0 + j, none⟩ = some u from fun j u hu => by
      rw [Nat.zero_add, World.cell?_alloc_at _ _ _ _ rfl]; simpa [Fr.cells] using hu)
    have FRI := Lib.hid (show (Tryd.prog.info? 33).map (·.size) = some F.list.length from by rw [info_frame, hF]; rfl)
    have HRI := Lib.hid hri; have HEN := Lib.hid hen; have HLN := Lib.hid hln; have HG := Lib.hid hg; have HKW := Lib.hid hkw
    clear hri hen hln hF hg hka hkw
    by_cases hfit : L.length ≤ 1000
    · exact absurd hfit (by have := HN.out; omega)
    · have hno : rightF F [] L = false := by rw [HRI.out]; simp; omega
      have HY := Lib.hid hno
      clear hno
      have hfit' := hfit
      rw [HN.out] at hfit'
      go_wp2_with (first
        | ((with_reducible show wpList _ _ _ (⟨some 63, Op.load _ _, _, _, _, _⟩ :: _) _ _); refine wpList_load_part _ 33 _ rfl rfl w1.heap.size 0 rfl F.list _ FRC.out Tryd.underlying33 rfl FRI.out ?_))
      refine (encode_no F none A 0 c [] L _ (HL.out.kept HKW.out (by simp)) HG.out hosts_nil (by simp) (by omega) HY.out).mono ?_
      rintro x w3 ⟨rfl, hk3⟩
      have HK3 := Lib.hid (HKW.out.trans hk3 (by simp))
      clear hk3
      go_wp2_with fail
      go_ret
      exact ⟨rfl, HK3.out⟩
  · have hn : L.length = bs.length := by have := HLL.out; omega
    have HN := Lib.hid hn
    have hsd : (Fr.new 4).cells.setIfInBounds 49 (.slice A bs.length c) = ({ Fr.new 4 with sd := .slice A L.length c } : Fr).cells := by rw [HN.out]; exact Fr.set_sd rfl rfl _
    rw [hsd]
    clear hsd hn
    obtain ⟨F, hF⟩ : ∃ F : Fr, F = { Fr.new 4 with sd := .slice A L.length c } := ⟨_, rfl⟩
    rw [← hF]
    have hka : Kept [] w1 (w1.alloc (.cells F.cells 33)) := (Kept.refl [] w1).alloc _
    have hkw := HK1.out.trans hka (by simp)
    have hg : Good (w1.alloc (.cells F.cells 33)) F none A 0 c [] L := by
      rw [hF]; exact good_sd 4 A c L _ (HR.out.kept (by rw [← hF]; exact hkw) (by simp)) (fun a e => Nat.lt_of_lt_of_le (HA.out a e) (by rw [← hF]; exact hkw.size))
    have hen : encF F [] L = 4 :: ((encF (Fr.new 4) [] []).tail ++ L) := by
      rw [hF, encF_sd, show encF (Fr.new 4) [] [] = 4 :: (encF (Fr.new 4) [] []).tail from by decide +kernel]; rfl
    have hri : rightF F [] L = (!((4 : Int) == 4 && decide (1000 < L.length)) && decide ((encF (Fr.new 4) [] []).length + L.length ≤ 1500)) := by rw [hF]; exact right_sd 4 _ L (by decide)
    rw [show (encF (Fr.new 4) [] []).length = 1 from by decide +kernel] at hri
    have hln : (4 :: ((encF (Fr.new 4) [] []).tail ++ L) : List UInt8).length = 1 + L.length := by
      rw [← List.cons_append, List.length_append]; congr 1
    have FRC := Lib.hid (show ∀ j u, F.list[j]? = some u → (w1.alloc (.cells F.cells 33)).cell? ⟨w1.heap.size, 0 + j, none⟩ = some u from fun j u hu => by
      rw [Nat.zero_add, World.cell?_alloc_at _ _ _ _ rfl]; simpa [Fr.cells] using hu)
    have FRI := Lib.hid (show (Tryd.prog.info? 33).map (·.size) = some F.list.length from by rw [info_frame, hF]; rfl)
    have HRI := Lib.hid hri; have HEN := Lib.hid hen; have HLN := Lib.hid hln; have HG := Lib.hid hg; have HKW := Lib.hid hkw
    clear hri hen hln hF hg hka hkw
    by_cases hfit : L.length ≤ 1000
    · have hyes : rightF F [] L = true := by rw [HRI.out]; simp; omega
      have HY := Lib.hid hyes
      clear hyes
      have hfit' := hfit
      rw [HN.out] at hfit'
      go_wp2_with (first
        | ((with_reducible show wpList _ _ _ (⟨some 63, Op.load _ _, _, _, _, _⟩ :: _) _ _); refine wpList_load_part _ 33 _ rfl rfl w1.heap.size 0 rfl F.list _ FRC.out Tryd.underlying33 rfl FRI.out ?_))
      refine (encode_yes F none A 0 c [] L _ (HL.out.kept HKW.out (by simp)) HG.out hosts_nil (by simp) (by omega) HY.out).mono ?_
      rintro x w3 ⟨v3, rfl, hown3, hk3⟩
      rw [HEN.out, HLN.out] at hown3
      obtain ⟨A3, c3, rfl⟩ := own_slice hown3
      have hcell := own_first (by rw [← HLN.out] at hown3; exact hown3)
      obtain ⟨g, off, rfl, hcell⟩ := hcell
      rw [HN.out]
      have HK3 := Lib.hid (HKW.out.trans hk3 (by simp))
      clear hown3 hk3
      go_wp2_with fail
      go_ret
      exact ⟨by simp, HK3.out⟩
    · have hno : rightF F [] L = false := by rw [HRI.out]; simp; omega
      have HY := Lib.hid hno
      clear hno
      have hfit' := hfit
      rw [HN.out] at hfit'
      go_wp2_with (first
        | ((with_reducible show wpList _ _ _ (⟨some 63, Op.load _ _, _, _, _, _⟩ :: _) _ _); refine wpList_load_part _ 33 _ rfl rfl w1.heap.size 0 rfl F.list _ FRC.out Tryd.underlying33 rfl FRI.out ?_))
      refine (encode_no F none A 0 c [] L _ (HL.out.kept HKW.out (by simp)) HG.out hosts_nil (by simp) (by omega) HY.out).mono ?_
      rintro x w3 ⟨rfl, hk3⟩
      have HK3 := Lib.hid (HKW.out.trans hk3 (by simp))
      clear hk3
      go_wp2_with fail
      go_ret
      exact ⟨rfl, HK3.out⟩

set_option maxRecDepth 100000 in
set_option maxHeartbeats 4000000 in
theorem sizes_5 : SizesOf 5 := by
  intro kd nn A c bs w hK q hq hq10 hA hL hr hc hct
  have hmk : 0 ≤ bits .and .i64 kd 65535 ∧ bits .and .i64 kd 65535 ≤ 65535 := by rw [and_65535]; omega
  have hmn : 0 ≤ bits .and .i64 nn 65535 ∧ bits .and .i64 nn 65535 ≤ 65535 := by rw [and_65535]; omega
  obtain ⟨hmk1, hmk2⟩ := hmk
  obtain ⟨hmn1, hmn2⟩ := hmn
  have hbs : bs.length ≤ 9223372036854775807 := by unfold maxLen at hct; omega
  obtain ⟨L, hLl, hLr⟩ : ∃ L : List UInt8, L.length = min bs.length 1600 ∧ Rd w A (bvs L) := ⟨bs.take 1600, by simp [Nat.min_comm], by rw [← bvs_take]; exact hr.take 1600⟩
  have hLk : L.length ≤ 1600 := by omega
  have HL := Lib.hid hL; have HR := Lib.hid hLr
  have HLL := Lib.hid hLl
  have HA := Lib.hid hA; clear hA
  clear hL hr hLr hLl
  go_enter Tryd.func7, Tryd.ntmps7
  go_wp2_with fail
  refine (shown_true w HL.out).mono ?_
  rintro x w1 ⟨rfl, hk1⟩
  have HK1 := Lib.hid hk1
  clear hk1
  go_upto_region 30 with (first
    | ((with_reducible show wpList _ _ _ (⟨some 8, Op.alloc _, _, _, _, _⟩ :: _) _ _); refine wpList_alloc_known _ 33 rfl rfl _ (run_alloc_frame _) ?_)
    | ((with_reducible show wpList _ _ _ (⟨some 27, Op.build _ _, _, _, _, _⟩ :: _) _ _); refine wpList_build_known _ 33 _ rfl rfl #[(0, .int .i64 5)] (by simp only [List.map_toArray, List.map_cons, List.map_nil]; rfl) _ (run_build_frame _ _) ?_)
    | ((with_reducible show wpList _ _ _ (⟨none, Op.store 33 (.tmp 8) (.tmp 27), _, _, _, _⟩ :: _) _ _); refine wpList_store_whole _ 33 (.tmp 8) (.tmp 27) rfl rfl w1.heap.size (by rfl) (Fr.new 5).cells (by rfl) _ _ (heap_alloc_new _ _) rfl (info_frame.trans (congrArg some (Fr.new_size _).symm)) (Fr.new_one _) _ (setRow_new _ _ _ _) ?_))
  · have hn : L.length = 1600 := by have := HLL.out; omega
    have HN := Lib.hid hn
    have hsd : (Fr.new 5).cells.setIfInBounds 49 (.slice A 1600 c) = ({ Fr.new 5 with sd := .slice A L.length c } : Fr).cells := by rw [HN.out]; exact Fr.set_sd rfl rfl _
    rw [hsd]
    clear hsd hn
    obtain ⟨F, hF⟩ : ∃ F : Fr, F = { Fr.new 5 with sd := .slice A L.length c } := ⟨_, rfl⟩
    rw [← hF]
    have hka : Kept [] w1 (w1.alloc (.cells F.cells 33)) := (Kept.refl [] w1).alloc _
    have hkw := HK1.out.trans hka (by simp)
    have hg : Good (w1.alloc (.cells F.cells 33)) F none A 0 c [] L := by
      rw [hF]; exact good_sd 5 A c L _ (HR.out.kept (by rw [← hF]; exact hkw) (by simp)) (fun a e => Nat.lt_of_lt_of_le (HA.out a e) (by rw [← hF]; exact hkw.size))
    have hen : encF F [] L = 5 :: ((encF (Fr.new 5) [] []).tail ++ L) := by
      rw [hF, encF_sd, show encF (Fr.new 5) [] [] = 5 :: (encF (Fr.new 5) [] []).tail from by decide +kernel]; rfl
    have hri : rightF F [] L = (!((5 : Int) == 4 && decide (1000 < L.length)) && decide ((encF (Fr.new 5) [] []).length + L.length ≤ 1500)) := by rw [hF]; exact right_sd 5 _ L (by decide)
    rw [show (encF (Fr.new 5) [] []).length = 1 from by decide +kernel] at hri
    have hln : (5 :: ((encF (Fr.new 5) [] []).tail ++ L) : List UInt8).length = 1 + L.length := by
      rw [← List.cons_append, List.length_append]; congr 1
    have FRC := Lib.hid (show ∀ j u, F.list[j]? = some u → (w1.alloc (.cells F.cells 33)).cell? ⟨w1.heap.size, 0 + j, none⟩ = some u from fun j u hu => by
      rw [Nat.zero_add, World.cell?_alloc_at _ _ _ _ rfl]; simpa [Fr.cells] using hu)
    have FRI := Lib.hid (show (Tryd.prog.info? 33).map (·.size) = some F.list.length from by rw [info_frame, hF]; rfl)
    have HRI := Lib.hid hri; have HEN := Lib.hid hen; have HLN := Lib.hid hln; have HG := Lib.hid hg; have HKW := Lib.hid hkw
    clear hri hen hln hF hg hka hkw
    by_cases hfit : L.length ≤ 1499
    · exact absurd hfit (by have := HN.out; omega)
    · have hno : rightF F [] L = false := by rw [HRI.out]; simp; omega
      have HY := Lib.hid hno
      clear hno
      have hfit' := hfit
      rw [HN.out] at hfit'
      go_wp2_with (first
        | ((with_reducible show wpList _ _ _ (⟨some 63, Op.load _ _, _, _, _, _⟩ :: _) _ _); refine wpList_load_part _ 33 _ rfl rfl w1.heap.size 0 rfl F.list _ FRC.out Tryd.underlying33 rfl FRI.out ?_))
      refine (encode_no F none A 0 c [] L _ (HL.out.kept HKW.out (by simp)) HG.out hosts_nil (by simp) (by omega) HY.out).mono ?_
      rintro x w3 ⟨rfl, hk3⟩
      have HK3 := Lib.hid (HKW.out.trans hk3 (by simp))
      clear hk3
      go_wp2_with fail
      go_ret
      exact ⟨rfl, HK3.out⟩
  · have hn : L.length = bs.length := by have := HLL.out; omega
    have HN := Lib.hid hn
    have hsd : (Fr.new 5).cells.setIfInBounds 49 (.slice A bs.length c) = ({ Fr.new 5 with sd := .slice A L.length c } : Fr).cells := by rw [HN.out]; exact Fr.set_sd rfl rfl _
    rw [hsd]
    clear hsd hn
    obtain ⟨F, hF⟩ : ∃ F : Fr, F = { Fr.new 5 with sd := .slice A L.length c } := ⟨_, rfl⟩
    rw [← hF]
    have hka : Kept [] w1 (w1.alloc (.cells F.cells 33)) := (Kept.refl [] w1).alloc _
    have hkw := HK1.out.trans hka (by simp)
    have hg : Good (w1.alloc (.cells F.cells 33)) F none A 0 c [] L := by
      rw [hF]; exact good_sd 5 A c L _ (HR.out.kept (by rw [← hF]; exact hkw) (by simp)) (fun a e => Nat.lt_of_lt_of_le (HA.out a e) (by rw [← hF]; exact hkw.size))
    have hen : encF F [] L = 5 :: ((encF (Fr.new 5) [] []).tail ++ L) := by
      rw [hF, encF_sd, show encF (Fr.new 5) [] [] = 5 :: (encF (Fr.new 5) [] []).tail from by decide +kernel]; rfl
    have hri : rightF F [] L = (!((5 : Int) == 4 && decide (1000 < L.length)) && decide ((encF (Fr.new 5) [] []).length + L.length ≤ 1500)) := by rw [hF]; exact right_sd 5 _ L (by decide)
    rw [show (encF (Fr.new 5) [] []).length = 1 from by decide +kernel] at hri
    have hln : (5 :: ((encF (Fr.new 5) [] []).tail ++ L) : List UInt8).length = 1 + L.length := by
      rw [← List.cons_append, List.length_append]; congr 1
    have FRC := Lib.hid (show ∀ j u, F.list[j]? = some u → (w1.alloc (.cells F.cells 33)).cell? ⟨w1.heap.size, 0 + j, none⟩ = some u from fun j u hu => by
      rw [Nat.zero_add, World.cell?_alloc_at _ _ _ _ rfl]; simpa [Fr.cells] using hu)
    have FRI := Lib.hid (show (Tryd.prog.info? 33).map (·.size) = some F.list.length from by rw [info_frame, hF]; rfl)
    have HRI := Lib.hid hri; have HEN := Lib.hid hen; have HLN := Lib.hid hln; have HG := Lib.hid hg; have HKW := Lib.hid hkw
    clear hri hen hln hF hg hka hkw
    by_cases hfit : L.length ≤ 1499
    · have hyes : rightF F [] L = true := by rw [HRI.out]; simp; omega
      have HY := Lib.hid hyes
      clear hyes
      have hfit' := hfit
      rw [HN.out] at hfit'
      go_wp2_with (first
        | ((with_reducible show wpList _ _ _ (⟨some 63, Op.load _ _, _, _, _, _⟩ :: _) _ _); refine wpList_load_part _ 33 _ rfl rfl w1.heap.size 0 rfl F.list _ FRC.out Tryd.underlying33 rfl FRI.out ?_))
      refine (encode_yes F none A 0 c [] L _ (HL.out.kept HKW.out (by simp)) HG.out hosts_nil (by simp) (by omega) HY.out).mono ?_
      rintro x w3 ⟨v3, rfl, hown3, hk3⟩
      rw [HEN.out, HLN.out] at hown3
      obtain ⟨A3, c3, rfl⟩ := own_slice hown3
      have hcell := own_first (by rw [← HLN.out] at hown3; exact hown3)
      obtain ⟨g, off, rfl, hcell⟩ := hcell
      rw [HN.out]
      have HK3 := Lib.hid (HKW.out.trans hk3 (by simp))
      clear hown3 hk3
      go_wp2_with fail
      go_ret
      exact ⟨by simp, HK3.out⟩
    · have hno : rightF F [] L = false := by rw [HRI.out]; simp; omega
      have HY := Lib.hid hno
      clear hno
      have hfit' := hfit
      rw [HN.out] at hfit'
      go_wp2_with (first
        | ((with_reducible show wpList _ _ _ (⟨some 63, Op.load _ _, _, _, _, _⟩ :: _) _ _); refine wpList_load_part _ 33 _ rfl rfl w1.heap.size 0 rfl F.list _ FRC.out Tryd.underlying33 rfl FRI.out ?_))
      refine (encode_no F none A 0 c [] L _ (HL.out.kept HKW.out (by simp)) HG.out hosts_nil (by simp) (by omega) HY.out).mono ?_
      rintro x w3 ⟨rfl, hk3⟩
      have HK3 := Lib.hid (HKW.out.trans hk3 (by simp))
      clear hk3
      go_wp2_with fail
      go_ret
      exact ⟨rfl, HK3.out⟩

set_option maxRecDepth 100000 in
set_option maxHeartbeats 4000000 in
theorem sizes_6 : SizesOf 6 := by
  intro kd nn A c bs w hK q hq hq10 hA hL hr hc hct
  have hmk : 0 ≤ bits .and .i64 kd 65535 ∧ bits .and .i64 kd 65535 ≤ 65535 := by rw [and_65535]; omega
  have hmn : 0 ≤ bits .and .i64 nn 65535 ∧ bits .and .i64 nn 65535 ≤ 65535 := by rw [and_65535]; omega
  obtain ⟨hmk1, hmk2⟩ := hmk
  obtain ⟨hmn1, hmn2⟩ := hmn
  have hbs : bs.length ≤ 9223372036854775807 := by unfold maxLen at hct; omega
  obtain ⟨L, hLl, hLr⟩ : ∃ L : List UInt8, L.length = min bs.length 1600 ∧ Rd w A (bvs L) := ⟨bs.take 1600, by simp [Nat.min_comm], by rw [← bvs_take]; exact hr.take 1600⟩
  have hLk : L.length ≤ 1600 := by omega
  have HL := Lib.hid hL; have HR := Lib.hid hLr
  have HLL := Lib.hid hLl
  have HA := Lib.hid hA; clear hA
  clear hL hr hLr hLl
  go_enter Tryd.func7, Tryd.ntmps7
  go_wp2_with fail
  refine (shown_true w HL.out).mono ?_
  rintro x w1 ⟨rfl, hk1⟩
  have HK1 := Lib.hid hk1
  clear hk1
  go_upto_region 30 with (first
    | ((with_reducible show wpList _ _ _ (⟨some 8, Op.alloc _, _, _, _, _⟩ :: _) _ _); refine wpList_alloc_known _ 33 rfl rfl _ (run_alloc_frame _) ?_)
    | ((with_reducible show wpList _ _ _ (⟨some 27, Op.build _ _, _, _, _, _⟩ :: _) _ _); refine wpList_build_known _ 33 _ rfl rfl #[(0, .int .i64 6)] (by simp only [List.map_toArray, List.map_cons, List.map_nil]; rfl) _ (run_build_frame _ _) ?_)
    | ((with_reducible show wpList _ _ _ (⟨none, Op.store 33 (.tmp 8) (.tmp 27), _, _, _, _⟩ :: _) _ _); refine wpList_store_whole _ 33 (.tmp 8) (.tmp 27) rfl rfl w1.heap.size (by rfl) (Fr.new 6).cells (by rfl) _ _ (heap_alloc_new _ _) rfl (info_frame.trans (congrArg some (Fr.new_size _).symm)) (Fr.new_one _) _ (setRow_new _ _ _ _) ?_))
  · have hn : L.length = 1600 := by have := HLL.out; omega
    have HN := Lib.hid hn
    have hsd : (Fr.new 6).cells.setIfInBounds 49 (.slice A 1600 c) = ({ Fr.new 6 with sd := .slice A L.length c } : Fr).cells := by rw [HN.out]; exact Fr.set_sd rfl rfl _
    rw [hsd]
    clear hsd hn
    obtain ⟨F, hF⟩ : ∃ F : Fr, F = { Fr.new 6 with sd := .slice A L.length c } := ⟨_, rfl⟩
    rw [← hF]
    have hka : Kept [] w1 (w1.alloc (.cells F.cells 33)) := (Kept.refl [] w1).alloc _
    have hkw := HK1.out.trans hka (by simp)
    have hg : Good (w1.alloc (.cells F.cells 33)) F none A 0 c [] L := by
      rw [hF]; exact good_sd 6 A c L _ (HR.out.kept (by rw [← hF]; exact hkw) (by simp)) (fun a e => Nat.lt_of_lt_of_le (HA.out a e) (by rw [← hF]; exact hkw.size))
    have hen : encF F [] L = 6 :: ((encF (Fr.new 6) [] []).tail ++ L) := by
      rw [hF, encF_sd, show encF (Fr.new 6) [] [] = 6 :: (encF (Fr.new 6) [] []).tail from by decide +kernel]; rfl
    have hri : rightF F [] L = (!((6 : Int) == 4 && decide (1000 < L.length)) && decide ((encF (Fr.new 6) [] []).length + L.length ≤ 1500)) := by rw [hF]; exact right_sd 6 _ L (by decide)
    rw [show (encF (Fr.new 6) [] []).length = 1 from by decide +kernel] at hri
    have hln : (6 :: ((encF (Fr.new 6) [] []).tail ++ L) : List UInt8).length = 1 + L.length := by
      rw [← List.cons_append, List.length_append]; congr 1
    have FRC := Lib.hid (show ∀ j u, F.list[j]? = some u → (w1.alloc (.cells F.cells 33)).cell? ⟨w1.heap.size, 0 + j, none⟩ = some u from fun j u hu => by
      rw [Nat.zero_add, World.cell?_alloc_at _ _ _ _ rfl]; simpa [Fr.cells] using hu)
    have FRI := Lib.hid (show (Tryd.prog.info? 33).map (·.size) = some F.list.length from by rw [info_frame, hF]; rfl)
    have HRI := Lib.hid hri; have HEN := Lib.hid hen; have HLN := Lib.hid hln; have HG := Lib.hid hg; have HKW := Lib.hid hkw
    clear hri hen hln hF hg hka hkw
    by_cases hfit : L.length ≤ 1499
    · exact absurd hfit (by have := HN.out; omega)
    · have hno : rightF F [] L = false := by rw [HRI.out]; simp; omega
      have HY := Lib.hid hno
      clear hno
      have hfit' := hfit
      rw [HN.out] at hfit'
      go_wp2_with (first
        | ((with_reducible show wpList _ _ _ (⟨some 63, Op.load _ _, _, _, _, _⟩ :: _) _ _); refine wpList_load_part _ 33 _ rfl rfl w1.heap.size 0 rfl F.list _ FRC.out Tryd.underlying33 rfl FRI.out ?_))
      refine (encode_no F none A 0 c [] L _ (HL.out.kept HKW.out (by simp)) HG.out hosts_nil (by simp) (by omega) HY.out).mono ?_
      rintro x w3 ⟨rfl, hk3⟩
      have HK3 := Lib.hid (HKW.out.trans hk3 (by simp))
      clear hk3
      go_wp2_with fail
      go_ret
      exact ⟨rfl, HK3.out⟩
  · have hn : L.length = bs.length := by have := HLL.out; omega
    have HN := Lib.hid hn
    have hsd : (Fr.new 6).cells.setIfInBounds 49 (.slice A bs.length c) = ({ Fr.new 6 with sd := .slice A L.length c } : Fr).cells := by rw [HN.out]; exact Fr.set_sd rfl rfl _
    rw [hsd]
    clear hsd hn
    obtain ⟨F, hF⟩ : ∃ F : Fr, F = { Fr.new 6 with sd := .slice A L.length c } := ⟨_, rfl⟩
    rw [← hF]
    have hka : Kept [] w1 (w1.alloc (.cells F.cells 33)) := (Kept.refl [] w1).alloc _
    have hkw := HK1.out.trans hka (by simp)
    have hg : Good (w1.alloc (.cells F.cells 33)) F none A 0 c [] L := by
      rw [hF]; exact good_sd 6 A c L _ (HR.out.kept (by rw [← hF]; exact hkw) (by simp)) (fun a e => Nat.lt_of_lt_of_le (HA.out a e) (by rw [← hF]; exact hkw.size))
    have hen : encF F [] L = 6 :: ((encF (Fr.new 6) [] []).tail ++ L) := by
      rw [hF, encF_sd, show encF (Fr.new 6) [] [] = 6 :: (encF (Fr.new 6) [] []).tail from by decide +kernel]; rfl
    have hri : rightF F [] L = (!((6 : Int) == 4 && decide (1000 < L.length)) && decide ((encF (Fr.new 6) [] []).length + L.length ≤ 1500)) := by rw [hF]; exact right_sd 6 _ L (by decide)
    rw [show (encF (Fr.new 6) [] []).length = 1 from by decide +kernel] at hri
    have hln : (6 :: ((encF (Fr.new 6) [] []).tail ++ L) : List UInt8).length = 1 + L.length := by
      rw [← List.cons_append, List.length_append]; congr 1
    have FRC := Lib.hid (show ∀ j u, F.list[j]? = some u → (w1.alloc (.cells F.cells 33)).cell? ⟨w1.heap.size, 0 + j, none⟩ = some u from fun j u hu => by
      rw [Nat.zero_add, World.cell?_alloc_at _ _ _ _ rfl]; simpa [Fr.cells] using hu)
    have FRI := Lib.hid (show (Tryd.prog.info? 33).map (·.size) = some F.list.length from by rw [info_frame, hF]; rfl)
    have HRI := Lib.hid hri; have HEN := Lib.hid hen; have HLN := Lib.hid hln; have HG := Lib.hid hg; have HKW := Lib.hid hkw
    clear hri hen hln hF hg hka hkw
    by_cases hfit : L.length ≤ 1499
    · have hyes : rightF F [] L = true := by rw [HRI.out]; simp; omega
      have HY := Lib.hid hyes
      clear hyes
      have hfit' := hfit
      rw [HN.out] at hfit'
      go_wp2_with (first
        | ((with_reducible show wpList _ _ _ (⟨some 63, Op.load _ _, _, _, _, _⟩ :: _) _ _); refine wpList_load_part _ 33 _ rfl rfl w1.heap.size 0 rfl F.list _ FRC.out Tryd.underlying33 rfl FRI.out ?_))
      refine (encode_yes F none A 0 c [] L _ (HL.out.kept HKW.out (by simp)) HG.out hosts_nil (by simp) (by omega) HY.out).mono ?_
      rintro x w3 ⟨v3, rfl, hown3, hk3⟩
      rw [HEN.out, HLN.out] at hown3
      obtain ⟨A3, c3, rfl⟩ := own_slice hown3
      have hcell := own_first (by rw [← HLN.out] at hown3; exact hown3)
      obtain ⟨g, off, rfl, hcell⟩ := hcell
      rw [HN.out]
      have HK3 := Lib.hid (HKW.out.trans hk3 (by simp))
      clear hown3 hk3
      go_wp2_with fail
      go_ret
      exact ⟨by simp, HK3.out⟩
    · have hno : rightF F [] L = false := by rw [HRI.out]; simp; omega
      have HY := Lib.hid hno
      clear hno
      have hfit' := hfit
      rw [HN.out] at hfit'
      go_wp2_with (first
        | ((with_reducible show wpList _ _ _ (⟨some 63, Op.load _ _, _, _, _, _⟩ :: _) _ _); refine wpList_load_part _ 33 _ rfl rfl w1.heap.size 0 rfl F.list _ FRC.out Tryd.underlying33 rfl FRI.out ?_))
      refine (encode_no F none A 0 c [] L _ (HL.out.kept HKW.out (by simp)) HG.out hosts_nil (by simp) (by omega) HY.out).mono ?_
      rintro x w3 ⟨rfl, hk3⟩
      have HK3 := Lib.hid (HKW.out.trans hk3 (by simp))
      clear hk3
      go_wp2_with fail
      go_ret
      exact ⟨rfl, HK3.out⟩

set_option maxRecDepth 100000 in
set_option maxHeartbeats 4000000 in
theorem sizes_7 : SizesOf 7 := by
  intro kd nn A c bs w hK q hq hq10 hA hL hr hc hct
  have hmk : 0 ≤ bits .and .i64 kd 65535 ∧ bits .and .i64 kd 65535 ≤ 65535 := by rw [and_65535]; omega
  have hmn : 0 ≤ bits .and .i64 nn 65535 ∧ bits .and .i64 nn 65535 ≤ 65535 := by rw [and_65535]; omega
  obtain ⟨hmk1, hmk2⟩ := hmk
  obtain ⟨hmn1, hmn2⟩ := hmn
  have hbs : bs.length ≤ 9223372036854775807 := by unfold maxLen at hct; omega
  obtain ⟨L, hLl, hLr⟩ : ∃ L : List UInt8, L.length = min bs.length 1600 ∧ Rd w A (bvs L) := ⟨bs.take 1600, by simp [Nat.min_comm], by rw [← bvs_take]; exact hr.take 1600⟩
  have hLk : L.length ≤ 1600 := by omega
  have HL := Lib.hid hL; have HR := Lib.hid hLr
  have HLL := Lib.hid hLl
  have HA := Lib.hid hA; clear hA
  clear hL hr hLr hLl
  go_enter Tryd.func7, Tryd.ntmps7
  go_wp2_with fail
  refine (shown_true w HL.out).mono ?_
  rintro x w1 ⟨rfl, hk1⟩
  have HK1 := Lib.hid hk1
  clear hk1
  go_upto_region 30 with (first
    | ((with_reducible show wpList _ _ _ (⟨some 8, Op.alloc _, _, _, _, _⟩ :: _) _ _); refine wpList_alloc_known _ 33 rfl rfl _ (run_alloc_frame _) ?_)
    | ((with_reducible show wpList _ _ _ (⟨some 27, Op.build _ _, _, _, _, _⟩ :: _) _ _); refine wpList_build_known _ 33 _ rfl rfl #[(0, .int .i64 7)] (by simp only [List.map_toArray, List.map_cons, List.map_nil]; rfl) _ (run_build_frame _ _) ?_)
    | ((with_reducible show wpList _ _ _ (⟨none, Op.store 33 (.tmp 8) (.tmp 27), _, _, _, _⟩ :: _) _ _); refine wpList_store_whole _ 33 (.tmp 8) (.tmp 27) rfl rfl w1.heap.size (by rfl) (Fr.new 7).cells (by rfl) _ _ (heap_alloc_new _ _) rfl (info_frame.trans (congrArg some (Fr.new_size _).symm)) (Fr.new_one _) _ (setRow_new _ _ _ _) ?_))
  · have hn : L.length = 1600 := by have := HLL.out; omega
    have HN := Lib.hid hn
    have hsd : (Fr.new 7).cells.setIfInBounds 49 (.slice A 1600 c) = ({ Fr.new 7 with sd := .slice A L.length c } : Fr).cells := by rw [HN.out]; exact Fr.set_sd rfl rfl _
    rw [hsd]
    clear hsd hn
    obtain ⟨F, hF⟩ : ∃ F : Fr, F = { Fr.new 7 with sd := .slice A L.length c } := ⟨_, rfl⟩
    rw [← hF]
    have hka : Kept [] w1 (w1.alloc (.cells F.cells 33)) := (Kept.refl [] w1).alloc _
    have hkw := HK1.out.trans hka (by simp)
    have hg : Good (w1.alloc (.cells F.cells 33)) F none A 0 c [] L := by
      rw [hF]; exact good_sd 7 A c L _ (HR.out.kept (by rw [← hF]; exact hkw) (by simp)) (fun a e => Nat.lt_of_lt_of_le (HA.out a e) (by rw [← hF]; exact hkw.size))
    have hen : encF F [] L = 7 :: ((encF (Fr.new 7) [] []).tail ++ L) := by
      rw [hF, encF_sd, show encF (Fr.new 7) [] [] = 7 :: (encF (Fr.new 7) [] []).tail from by decide +kernel]; rfl
    have hri : rightF F [] L = (!((7 : Int) == 4 && decide (1000 < L.length)) && decide ((encF (Fr.new 7) [] []).length + L.length ≤ 1500)) := by rw [hF]; exact right_sd 7 _ L (by decide)
    rw [show (encF (Fr.new 7) [] []).length = 9 from by decide +kernel] at hri
    have hln : (7 :: ((encF (Fr.new 7) [] []).tail ++ L) : List UInt8).length = 9 + L.length := by
      rw [← List.cons_append, List.length_append]; congr 1
    have FRC := Lib.hid (show ∀ j u, F.list[j]? = some u → (w1.alloc (.cells F.cells 33)).cell? ⟨w1.heap.size, 0 + j, none⟩ = some u from fun j u hu => by
      rw [Nat.zero_add, World.cell?_alloc_at _ _ _ _ rfl]; simpa [Fr.cells] using hu)
    have FRI := Lib.hid (show (Tryd.prog.info? 33).map (·.size) = some F.list.length from by rw [info_frame, hF]; rfl)
    have HRI := Lib.hid hri; have HEN := Lib.hid hen; have HLN := Lib.hid hln; have HG := Lib.hid hg; have HKW := Lib.hid hkw
    clear hri hen hln hF hg hka hkw
    by_cases hfit : L.length ≤ 1491
    · exact absurd hfit (by have := HN.out; omega)
    · have hno : rightF F [] L = false := by rw [HRI.out]; simp; omega
      have HY := Lib.hid hno
      clear hno
      have hfit' := hfit
      rw [HN.out] at hfit'
      go_wp2_with (first
        | ((with_reducible show wpList _ _ _ (⟨some 63, Op.load _ _, _, _, _, _⟩ :: _) _ _); refine wpList_load_part _ 33 _ rfl rfl w1.heap.size 0 rfl F.list _ FRC.out Tryd.underlying33 rfl FRI.out ?_))
      refine (encode_no F none A 0 c [] L _ (HL.out.kept HKW.out (by simp)) HG.out hosts_nil (by simp) (by omega) HY.out).mono ?_
      rintro x w3 ⟨rfl, hk3⟩
      have HK3 := Lib.hid (HKW.out.trans hk3 (by simp))
      clear hk3
      go_wp2_with fail
      go_ret
      exact ⟨rfl, HK3.out⟩
  · have hn : L.length = bs.length := by have := HLL.out; omega
    have HN := Lib.hid hn
    have hsd : (Fr.new 7).cells.setIfInBounds 49 (.slice A bs.length c) = ({ Fr.new 7 with sd := .slice A L.length c } : Fr).cells := by rw [HN.out]; exact Fr.set_sd rfl rfl _
    rw [hsd]
    clear hsd hn
    obtain ⟨F, hF⟩ : ∃ F : Fr, F = { Fr.new 7 with sd := .slice A L.length c } := ⟨_, rfl⟩
    rw [← hF]
    have hka : Kept [] w1 (w1.alloc (.cells F.cells 33)) := (Kept.refl [] w1).alloc _
    have hkw := HK1.out.trans hka (by simp)
    have hg : Good (w1.alloc (.cells F.cells 33)) F none A 0 c [] L := by
      rw [hF]; exact good_sd 7 A c L _ (HR.out.kept (by rw [← hF]; exact hkw) (by simp)) (fun a e => Nat.lt_of_lt_of_le (HA.out a e) (by rw [← hF]; exact hkw.size))
    have hen : encF F [] L = 7 :: ((encF (Fr.new 7) [] []).tail ++ L) := by
      rw [hF, encF_sd, show encF (Fr.new 7) [] [] = 7 :: (encF (Fr.new 7) [] []).tail from by decide +kernel]; rfl
    have hri : rightF F [] L = (!((7 : Int) == 4 && decide (1000 < L.length)) && decide ((encF (Fr.new 7) [] []).length + L.length ≤ 1500)) := by rw [hF]; exact right_sd 7 _ L (by decide)
    rw [show (encF (Fr.new 7) [] []).length = 9 from by decide +kernel] at hri
    have hln : (7 :: ((encF (Fr.new 7) [] []).tail ++ L) : List UInt8).length = 9 + L.length := by
      rw [← List.cons_append, List.length_append]; congr 1
    have FRC := Lib.hid (show ∀ j u, F.list[j]? = some u → (w1.alloc (.cells F.cells 33)).cell? ⟨w1.heap.size, 0 + j, none⟩ = some u from fun j u hu => by
      rw [Nat.zero_add, World.cell?_alloc_at _ _ _ _ rfl]; simpa [Fr.cells] using hu)
    have FRI := Lib.hid (show (Tryd.prog.info? 33).map (·.size) = some F.list.length from by rw [info_frame, hF]; rfl)
    have HRI := Lib.hid hri; have HEN := Lib.hid hen; have HLN := Lib.hid hln; have HG := Lib.hid hg; have HKW := Lib.hid hkw
    clear hri hen hln hF hg hka hkw
    by_cases hfit : L.length ≤ 1491
    · have hyes : rightF F [] L = true := by rw [HRI.out]; simp; omega
      have HY := Lib.hid hyes
      clear hyes
      have hfit' := hfit
      rw [HN.out] at hfit'
      go_wp2_with (first
        | ((with_reducible show wpList _ _ _ (⟨some 63, Op.load _ _, _, _, _, _⟩ :: _) _ _); refine wpList_load_part _ 33 _ rfl rfl w1.heap.size 0 rfl F.list _ FRC.out Tryd.underlying33 rfl FRI.out ?_))
      refine (encode_yes F none A 0 c [] L _ (HL.out.kept HKW.out (by simp)) HG.out hosts_nil (by simp) (by omega) HY.out).mono ?_
      rintro x w3 ⟨v3, rfl, hown3, hk3⟩
      rw [HEN.out, HLN.out] at hown3
      obtain ⟨A3, c3, rfl⟩ := own_slice hown3
      have hcell := own_first (by rw [← HLN.out] at hown3; exact hown3)
      obtain ⟨g, off, rfl, hcell⟩ := hcell
      rw [HN.out]
      have HK3 := Lib.hid (HKW.out.trans hk3 (by simp))
      clear hown3 hk3
      go_wp2_with fail
      go_ret
      exact ⟨by simp, HK3.out⟩
    · have hno : rightF F [] L = false := by rw [HRI.out]; simp; omega
      have HY := Lib.hid hno
      clear hno
      have hfit' := hfit
      rw [HN.out] at hfit'
      go_wp2_with (first
        | ((with_reducible show wpList _ _ _ (⟨some 63, Op.load _ _, _, _, _, _⟩ :: _) _ _); refine wpList_load_part _ 33 _ rfl rfl w1.heap.size 0 rfl F.list _ FRC.out Tryd.underlying33 rfl FRI.out ?_))
      refine (encode_no F none A 0 c [] L _ (HL.out.kept HKW.out (by simp)) HG.out hosts_nil (by simp) (by omega) HY.out).mono ?_
      rintro x w3 ⟨rfl, hk3⟩
      have HK3 := Lib.hid (HKW.out.trans hk3 (by simp))
      clear hk3
      go_wp2_with fail
      go_ret
      exact ⟨rfl, HK3.out⟩

set_option maxRecDepth 100000 in
set_option maxHeartbeats 4000000 in
theorem sizes_10 : SizesOf 10 := by
  intro kd nn A c bs w hK q hq hq10 hA hL hr hc hct
  have hmk : 0 ≤ bits .and .i64 kd 65535 ∧ bits .and .i64 kd 65535 ≤ 65535 := by rw [and_65535]; omega
  have hmn : 0 ≤ bits .and .i64 nn 65535 ∧ bits .and .i64 nn 65535 ≤ 65535 := by rw [and_65535]; omega
  obtain ⟨hmk1, hmk2⟩ := hmk
  obtain ⟨hmn1, hmn2⟩ := hmn
  have hbs : bs.length ≤ 9223372036854775807 := by unfold maxLen at hct; omega
  obtain ⟨L, hLl, hLr⟩ : ∃ L : List UInt8, L.length = min bs.length 1600 ∧ Rd w A (bvs L) := ⟨bs.take 1600, by simp [Nat.min_comm], by rw [← bvs_take]; exact hr.take 1600⟩
  have hLk : L.length ≤ 1600 := by omega
  have HL := Lib.hid hL; have HR := Lib.hid hLr
  have HLL := Lib.hid hLl
  have HA := Lib.hid hA; clear hA
  clear hL hr hLr hLl
  go_enter Tryd.func7, Tryd.ntmps7
  go_wp2_with fail
  refine (shown_true w HL.out).mono ?_
  rintro x w1 ⟨rfl, hk1⟩
  have HK1 := Lib.hid hk1
  clear hk1
  go_upto_region 30 with (first
    | ((with_reducible show wpList _ _ _ (⟨some 8, Op.alloc _, _, _, _, _⟩ :: _) _ _); refine wpList_alloc_known _ 33 rfl rfl _ (run_alloc_frame _) ?_)
    | ((with_reducible show wpList _ _ _ (⟨some 27, Op.build _ _, _, _, _, _⟩ :: _) _ _); refine wpList_build_known _ 33 _ rfl rfl #[(0, .int .i64 10)] (by simp only [List.map_toArray, List.map_cons, List.map_nil]; rfl) _ (run_build_frame _ _) ?_)
    | ((with_reducible show wpList _ _ _ (⟨none, Op.store 33 (.tmp 8) (.tmp 27), _, _, _, _⟩ :: _) _ _); refine wpList_store_whole _ 33 (.tmp 8) (.tmp 27) rfl rfl w1.heap.size (by rfl) (Fr.new 10).cells (by rfl) _ _ (heap_alloc_new _ _) rfl (info_frame.trans (congrArg some (Fr.new_size _).symm)) (Fr.new_one _) _ (setRow_new _ _ _ _) ?_))
  · have hn : L.length = 1600 := by have := HLL.out; omega
    have HN := Lib.hid hn
    have hsd : (Fr.new 10).cells.setIfInBounds 49 (.slice A 1600 c) = ({ Fr.new 10 with sd := .slice A L.length c } : Fr).cells := by rw [HN.out]; exact Fr.set_sd rfl rfl _
    rw [hsd]
    clear hsd hn
    obtain ⟨F, hF⟩ : ∃ F : Fr, F = { Fr.new 10 with sd := .slice A L.length c } := ⟨_, rfl⟩
    rw [← hF]
    have hka : Kept [] w1 (w1.alloc (.cells F.cells 33)) := (Kept.refl [] w1).alloc _
    have hkw := HK1.out.trans hka (by simp)
    have hg : Good (w1.alloc (.cells F.cells 33)) F none A 0 c [] L := by
      rw [hF]; exact good_sd 10 A c L _ (HR.out.kept (by rw [← hF]; exact hkw) (by simp)) (fun a e => Nat.lt_of_lt_of_le (HA.out a e) (by rw [← hF]; exact hkw.size))
    have hen : encF F [] L = 10 :: ((encF (Fr.new 10) [] []).tail ++ L) := by
      rw [hF, encF_sd, show encF (Fr.new 10) [] [] = 10 :: (encF (Fr.new 10) [] []).tail from by decide +kernel]; rfl
    have hri : rightF F [] L = (!((10 : Int) == 4 && decide (1000 < L.length)) && decide ((encF (Fr.new 10) [] []).length + L.length ≤ 1500)) := by rw [hF]; exact right_sd 10 _ L (by decide)
    rw [show (encF (Fr.new 10) [] []).length = 33 from by decide +kernel] at hri
    have hln : (10 :: ((encF (Fr.new 10) [] []).tail ++ L) : List UInt8).length = 33 + L.length := by
      rw [← List.cons_append, List.length_append]; congr 1
    have FRC := Lib.hid (show ∀ j u, F.list[j]? = some u → (w1.alloc (.cells F.cells 33)).cell? ⟨w1.heap.size, 0 + j, none⟩ = some u from fun j u hu => by
      rw [Nat.zero_add, World.cell?_alloc_at _ _ _ _ rfl]; simpa [Fr.cells] using hu)
    have FRI := Lib.hid (show (Tryd.prog.info? 33).map (·.size) = some F.list.length from by rw [info_frame, hF]; rfl)
    have HRI := Lib.hid hri; have HEN := Lib.hid hen; have HLN := Lib.hid hln; have HG := Lib.hid hg; have HKW := Lib.hid hkw
    clear hri hen hln hF hg hka hkw
    by_cases hfit : L.length ≤ 1467
    · exact absurd hfit (by have := HN.out; omega)
    · have hno : rightF F [] L = false := by rw [HRI.out]; simp; omega
      have HY := Lib.hid hno
      clear hno
      have hfit' := hfit
      rw [HN.out] at hfit'
      go_wp2_with (first
        | ((with_reducible show wpList _ _ _ (⟨some 63, Op.load _ _, _, _, _, _⟩ :: _) _ _); refine wpList_load_part _ 33 _ rfl rfl w1.heap.size 0 rfl F.list _ FRC.out Tryd.underlying33 rfl FRI.out ?_))
      refine (encode_no F none A 0 c [] L _ (HL.out.kept HKW.out (by simp)) HG.out hosts_nil (by simp) (by omega) HY.out).mono ?_
      rintro x w3 ⟨rfl, hk3⟩
      have HK3 := Lib.hid (HKW.out.trans hk3 (by simp))
      clear hk3
      go_wp2_with fail
      go_ret
      exact ⟨rfl, HK3.out⟩
  · have hn : L.length = bs.length := by have := HLL.out; omega
    have HN := Lib.hid hn
    have hsd : (Fr.new 10).cells.setIfInBounds 49 (.slice A bs.length c) = ({ Fr.new 10 with sd := .slice A L.length c } : Fr).cells := by rw [HN.out]; exact Fr.set_sd rfl rfl _
    rw [hsd]
    clear hsd hn
    obtain ⟨F, hF⟩ : ∃ F : Fr, F = { Fr.new 10 with sd := .slice A L.length c } := ⟨_, rfl⟩
    rw [← hF]
    have hka : Kept [] w1 (w1.alloc (.cells F.cells 33)) := (Kept.refl [] w1).alloc _
    have hkw := HK1.out.trans hka (by simp)
    have hg : Good (w1.alloc (.cells F.cells 33)) F none A 0 c [] L := by
      rw [hF]; exact good_sd 10 A c L _ (HR.out.kept (by rw [← hF]; exact hkw) (by simp)) (fun a e => Nat.lt_of_lt_of_le (HA.out a e) (by rw [← hF]; exact hkw.size))
    have hen : encF F [] L = 10 :: ((encF (Fr.new 10) [] []).tail ++ L) := by
      rw [hF, encF_sd, show encF (Fr.new 10) [] [] = 10 :: (encF (Fr.new 10) [] []).tail from by decide +kernel]; rfl
    have hri : rightF F [] L = (!((10 : Int) == 4 && decide (1000 < L.length)) && decide ((encF (Fr.new 10) [] []).length + L.length ≤ 1500)) := by rw [hF]; exact right_sd 10 _ L (by decide)
    rw [show (encF (Fr.new 10) [] []).length = 33 from by decide +kernel] at hri
    have hln : (10 :: ((encF (Fr.new 10) [] []).tail ++ L) : List UInt8).length = 33 + L.length := by
      rw [← List.cons_append, List.length_append]; congr 1
    have FRC := Lib.hid (show ∀ j u, F.list[j]? = some u → (w1.alloc (.cells F.cells 33)).cell? ⟨w1.heap.size, 0 + j, none⟩ = some u from fun j u hu => by
      rw [Nat.zero_add, World.cell?_alloc_at _ _ _ _ rfl]; simpa [Fr.cells] using hu)
    have FRI := Lib.hid (show (Tryd.prog.info? 33).map (·.size) = some F.list.length from by rw [info_frame, hF]; rfl)
    have HRI := Lib.hid hri; have HEN := Lib.hid hen; have HLN := Lib.hid hln; have HG := Lib.hid hg; have HKW := Lib.hid hkw
    clear hri hen hln hF hg hka hkw
    by_cases hfit : L.length ≤ 1467
    · have hyes : rightF F [] L = true := by rw [HRI.out]; simp; omega
      have HY := Lib.hid hyes
      clear hyes
      have hfit' := hfit
      rw [HN.out] at hfit'
      go_wp2_with (first
        | ((with_reducible show wpList _ _ _ (⟨some 63, Op.load _ _, _, _, _, _⟩ :: _) _ _); refine wpList_load_part _ 33 _ rfl rfl w1.heap.size 0 rfl F.list _ FRC.out Tryd.underlying33 rfl FRI.out ?_))
      refine (encode_yes F none A 0 c [] L _ (HL.out.kept HKW.out (by simp)) HG.out hosts_nil (by simp) (by omega) HY.out).mono ?_
      rintro x w3 ⟨v3, rfl, hown3, hk3⟩
      rw [HEN.out, HLN.out] at hown3
      obtain ⟨A3, c3, rfl⟩ := own_slice hown3
      have hcell := own_first (by rw [← HLN.out] at hown3; exact hown3)
      obtain ⟨g, off, rfl, hcell⟩ := hcell
      rw [HN.out]
      have HK3 := Lib.hid (HKW.out.trans hk3 (by simp))
      clear hown3 hk3
      go_wp2_with fail
      go_ret
      exact ⟨by simp, HK3.out⟩
    · have hno : rightF F [] L = false := by rw [HRI.out]; simp; omega
      have HY := Lib.hid hno
      clear hno
      have hfit' := hfit
      rw [HN.out] at hfit'
      go_wp2_with (first
        | ((with_reducible show wpList _ _ _ (⟨some 63, Op.load _ _, _, _, _, _⟩ :: _) _ _); refine wpList_load_part _ 33 _ rfl rfl w1.heap.size 0 rfl F.list _ FRC.out Tryd.underlying33 rfl FRI.out ?_))
      refine (encode_no F none A 0 c [] L _ (HL.out.kept HKW.out (by simp)) HG.out hosts_nil (by simp) (by omega) HY.out).mono ?_
      rintro x w3 ⟨rfl, hk3⟩
      have HK3 := Lib.hid (HKW.out.trans hk3 (by simp))
      clear hk3
      go_wp2_with fail
      go_ret
      exact ⟨rfl, HK3.out⟩

theorem encF_sa (sa : Value) (q : Nat) : encF { Fr.new 3 with sa := sa } (List.replicate q (0, 0)) [] = 3 :: (encN q 1 true ++ encAs (List.replicate q (0, 0))) := by simp [encF, encH, Fr.new, hasOf]
theorem good_sa (g q : Nat) (w : World) (hg : g < w.heap.size) (hr : Rd w (some ⟨g, 0, none⟩) (avs (List.replicate q (0, 0)))) : Good w { Fr.new 3 with sa := .slice (some ⟨g, 0, none⟩) q q } (some ⟨g, 0, none⟩) none q 0 (List.replicate q (0, 0)) [] :=
  ⟨rfl, rfl, by simp, rfl, hr, Rd.nil, fun a e => by injection e with e; subst e; exact hg, by simp, by simp [Fr.new], by simp [Fr.new], by simp [Fr.new], by simp [Fr.new]⟩
theorem hosts_zero (q : Nat) : HostsOk (List.replicate q (0, 0)) := fun k hk => by
  rw [List.getElem?_eq_getElem hk]; simp
theorem right_sa : ∀ q : Fin 11, rightF { Fr.new 3 with sa := undef } (List.replicate q.val (0, 0)) [] = decide (q.val ≤ 8) := by decide +kernel
theorem right_sa' (sa : Value) (q : Nat) (hq : q ≤ 10) : rightF { Fr.new 3 with sa := sa } (List.replicate q (0, 0)) [] = decide (q ≤ 8) := right_sa ⟨q, by omega⟩

set_option maxRecDepth 100000 in
set_option maxHeartbeats 4000000 in
theorem sizes_3 : SizesOf 3 := by
  intro kd nn A c bs w hK q hq hq10 hA hL hr hc hct
  have hmk : 0 ≤ bits .and .i64 kd 65535 ∧ bits .and .i64 kd 65535 ≤ 65535 := by rw [and_65535]; omega
  have hmn : 0 ≤ bits .and .i64 nn 65535 ∧ bits .and .i64 nn 65535 ≤ 65535 := by rw [and_65535]; omega
  obtain ⟨hmk1, hmk2⟩ := hmk
  obtain ⟨hmn1, hmn2⟩ := hmn
  have hbs : bs.length ≤ 9223372036854775807 := by unfold maxLen at hct; omega
  obtain ⟨i0, hi, hz0, hz1, hz2⟩ := info_parts info_addr
  have HL := Lib.hid hL
  clear hL hr hA
  go_enter Tryd.func7, Tryd.ntmps7
  go_wp2_with fail
  refine (shown_true w HL.out).mono ?_
  rintro x w1 ⟨rfl, hk1⟩
  have HK1 := Lib.hid hk1
  have hsz1 := hk1.size
  clear hk1
  go_upto_region 30 with (first
    | ((with_reducible show wpList _ _ _ (⟨some 8, Op.alloc _, _, _, _, _⟩ :: _) _ _); refine wpList_alloc_known _ 33 rfl rfl _ (run_alloc_frame _) ?_)
    | ((with_reducible show wpList _ _ _ (⟨some 27, Op.build _ _, _, _, _, _⟩ :: _) _ _); refine wpList_build_known _ 33 _ rfl rfl #[(0, .int .i64 3)] (by simp only [List.map_toArray, List.map_cons, List.map_nil]; rfl) _ (run_build_frame _ _) ?_)
    | ((with_reducible show wpList _ _ _ (⟨none, Op.store 33 (.tmp 8) (.tmp 27), _, _, _, _⟩ :: _) _ _); refine wpList_store_whole _ 33 (.tmp 8) (.tmp 27) rfl rfl w1.heap.size (by rfl) (Fr.new 3).cells (by rfl) _ _ (heap_alloc_new _ _) rfl (info_frame.trans (congrArg some (Fr.new_size _).symm)) (Fr.new_one _) _ (setRow_new _ _ _ _) ?_)
    | ((with_reducible show wpList _ _ _ (⟨some 51, _, _, _, _, _⟩ :: _) _ _); refine wpList_make_full _ rfl _ _ 27 rfl w.heap.size 26 i0 _ 2 Tryd.underlying27 hi hz0 hz1 .i64 .i64 _ _ q rfl rfl rfl rfl (by rw [hz2]; omega) (by unfold maxLen; omega) (by simp; omega) ?_))
  all_goals
    intro w2 hown2 hg2
    have hk2 : Kept [] (w1.alloc (.cells (Fr.new 3).cells 33)) w2 := (Kept.refl [] _).grown hg2 (by simp)
    have hF1 : FB (w1.alloc (.cells (Fr.new 3).cells 33)) w1.heap.size (Fr.new 3) := ⟨heap_alloc_new _ _, rfl, rfl⟩
    have hF2 := hF1.kept hk2 (by simp)
    rw [avs_zero] at hown2
    have hr2 : w1.heap.size + 1 < w2.heap.size ∧ Rd w2 (some ⟨w1.heap.size + 1, 0, none⟩) (avs (List.replicate q (0, 0))) := by
      rcases hown2.2 with ⟨hv, _⟩ | ⟨g', cap, cur, hv, _, hh, _, _, hs, ht⟩
      · cases hv
      · injection hv with hA _ hc
        injection hA with hA
        injection hA with hA _
        have hA' : w1.heap.size + 1 = g' := by simpa using hA
        subst hA' hc
        have hb := (Array.getElem?_eq_some_iff.1 hh).1
        refine ⟨hb, fun _ => ⟨w1.heap.size + 1, 0, rfl, hb, fun j u hu => ?_⟩⟩
        rw [cell_of_row _ _ _ _ _ _ hh, Nat.zero_add, ← ht, List.getElem?_take] at *
        split at hu
        · simpa using hu
        · cases hu
    obtain ⟨hg2', hrd2⟩ := hr2
    have z1 := hF2.sa
    have z2 := hF2.frozen 15
    have HK2 := Lib.hid (HK1.out.trans (((Kept.refl [] w1).alloc _).trans hk2 (by simp)) (by simp))
    have HF2 := Lib.hid hF2; have HR2 := Lib.hid hrd2
    clear hown2 hg2 hk2 hF1 hF2 hrd2
    by_cases hfit : q ≤ 8
    · go_upto_region 30 with fail
      obtain ⟨F, hF⟩ : ∃ F : Fr, F = { Fr.new 3 with sa := .slice (some ⟨w1.heap.size + 1, 0, none⟩) q q } := ⟨_, rfl⟩
      obtain ⟨w3, hw3⟩ : ∃ w3, w3 = w2.setCell ⟨w1.heap.size, 15, none⟩ (.slice (some ⟨w1.heap.size + 1, 0, none⟩) q q) := ⟨_, rfl⟩
      rw [← hw3]
      have hkk : Kept [w1.heap.size] w2 w3 := by rw [hw3]; exact (Kept.refl _ _).setCell (by simp) _
      have hf3 : FB w3 w1.heap.size F := by
        refine ⟨?_, by rw [hF]; rfl, by rw [hF]; rfl⟩
        rw [hF, ← Fr.set_sa HF2.out.id, hw3]
        exact heap_setCell_same w2 _ 15 _ _ _ HF2.out.blk
      have hkw : Kept [] w w3 := HK2.out.trans hkk (fun j hj hm => by simp at hm; omega)
      have hg : Good w3 F (some ⟨w1.heap.size + 1, 0, none⟩) none q 0 (List.replicate q (0, 0)) [] := by
        rw [hF]; exact good_sa _ q w3 (Nat.lt_of_lt_of_le hg2' hkk.size) (HR2.out.kept hkk (fun a e _ => by injection e with e; subst e; simp))
      have hen : encF F (List.replicate q (0, 0)) [] = 3 :: (encN q 1 true ++ encAs (List.replicate q (0, 0))) := by rw [hF]; exact encF_sa _ q
      have hln : (3 :: (encN q 1 true ++ encAs (List.replicate q (0, 0))) : List UInt8).length = 2 + 6 * q := by
        rw [List.length_cons, List.length_append, encN_length, encAs_length, List.length_replicate]; omega
      have hri : rightF F (List.replicate q (0, 0)) [] = decide (q ≤ 8) := by rw [hF]; exact right_sa' _ q hq10
      have FRC := Lib.hid (show ∀ j u, F.list[j]? = some u → w3.cell? ⟨w1.heap.size, 0 + j, none⟩ = some u from fun j u hu => by
        rw [Nat.zero_add, hf3.cell]; simpa [Fr.cells] using hu)
      have FRI := Lib.hid (show (Tryd.prog.info? 33).map (·.size) = some F.list.length from by rw [info_frame, hF]; rfl)
      have HRI := Lib.hid hri; have HEN := Lib.hid hen; have HLN := Lib.hid hln; have HG := Lib.hid hg; have HKW := Lib.hid hkw
      clear hri hen hln hF hg hkw hkk hf3 hw3 z1 z2 HF2
      have hyes : rightF F (List.replicate q (0, 0)) [] = true := by rw [HRI.out]; simpa using hfit
      have HY := Lib.hid hyes
      clear hyes
      go_wp2_with (first
        | ((with_reducible show wpList _ _ _ (⟨some 63, Op.load _ _, _, _, _, _⟩ :: _) _ _); refine wpList_load_part _ 33 _ rfl rfl w1.heap.size 0 rfl F.list _ FRC.out Tryd.underlying33 rfl FRI.out ?_))
      refine (encode_yes F _ none q 0 (List.replicate q (0, 0)) [] _ (HL.out.kept HKW.out (by simp)) HG.out (hosts_zero q) (by simp; omega) (by simp) HY.out).mono ?_
      rintro x w4 ⟨v4, rfl, hown4, hk4⟩
      rw [HEN.out, HLN.out] at hown4
      obtain ⟨A4, c4, rfl⟩ := own_slice hown4
      have hcell := own_first (by rw [← HLN.out] at hown4; exact hown4)
      obtain ⟨g, off, rfl, hcell⟩ := hcell
      have HK4 := Lib.hid (HKW.out.trans hk4 (by simp))
      clear hown4 hk4
      go_wp2_with fail
      go_ret
      exact ⟨by simp, HK4.out⟩
    · go_upto_region 30 with fail
      obtain ⟨F, hF⟩ : ∃ F : Fr, F = { Fr.new 3 with sa := .slice (some ⟨w1.heap.size + 1, 0, none⟩) q q } := ⟨_, rfl⟩
      obtain ⟨w3, hw3⟩ : ∃ w3, w3 = w2.setCell ⟨w1.heap.size, 15, none⟩ (.slice (some ⟨w1.heap.size + 1, 0, none⟩) q q) := ⟨_, rfl⟩
      rw [← hw3]
      have hkk : Kept [w1.heap.size] w2 w3 := by rw [hw3]; exact (Kept.refl _ _).setCell (by simp) _
      have hf3 : FB w3 w1.heap.size F := by
        refine ⟨?_, by rw [hF]; rfl, by rw [hF]; rfl⟩
        rw [hF, ← Fr.set_sa HF2.out.id, hw3]
        exact heap_setCell_same w2 _ 15 _ _ _ HF2.out.blk
      have hkw : Kept [] w w3 := HK2.out.trans hkk (fun j hj hm => by simp at hm; omega)
      have hg : Good w3 F (some ⟨w1.heap.size + 1, 0, none⟩) none q 0 (List.replicate q (0, 0)) [] := by
        rw [hF]; exact good_sa _ q w3 (Nat.lt_of_lt_of_le hg2' hkk.size) (HR2.out.kept hkk (fun a e _ => by injection e with e; subst e; simp))
      have hen : encF F (List.replicate q (0, 0)) [] = 3 :: (encN q 1 true ++ encAs (List.replicate q (0, 0))) := by rw [hF]; exact encF_sa _ q
      have hln : (3 :: (encN q 1 true ++ encAs (List.replicate q (0, 0))) : List UInt8).length = 2 + 6 * q := by
        rw [List.length_cons, List.length_append, encN_length, encAs_length, List.length_replicate]; omega
      have hri : rightF F (List.replicate q (0, 0)) [] = decide (q ≤ 8) := by rw [hF]; exact right_sa' _ q hq10
      have FRC := Lib.hid (show ∀ j u, F.list[j]? = some u → w3.cell? ⟨w1.heap.size, 0 + j, none⟩ = some u from fun j u hu => by
        rw [Nat.zero_add, hf3.cell]; simpa [Fr.cells] using hu)
      have FRI := Lib.hid (show (Tryd.prog.info? 33).map (·.size) = some F.list.length from by rw [info_frame, hF]; rfl)
      have HRI := Lib.hid hri; have HEN := Lib.hid hen; have HLN := Lib.hid hln; have HG := Lib.hid hg; have HKW := Lib.hid hkw
      clear hri hen hln hF hg hkw hkk hf3 hw3 z1 z2 HF2
      have hno : rightF F (List.replicate q (0, 0)) [] = false := by rw [HRI.out]; simpa using hfit
      have HY := Lib.hid hno
      clear hno
      go_wp2_with (first
        | ((with_reducible show wpList _ _ _ (⟨some 63, Op.load _ _, _, _, _, _⟩ :: _) _ _); refine wpList_load_part _ 33 _ rfl rfl w1.heap.size 0 rfl F.list _ FRC.out Tryd.underlying33 rfl FRI.out ?_))
      refine (encode_no F _ none q 0 (List.replicate q (0, 0)) [] _ (HL.out.kept HKW.out (by simp)) HG.out (hosts_zero q) (by simp; omega) (by simp) HY.out).mono ?_
      rintro x w4 ⟨rfl, hk4⟩
      have HK4 := Lib.hid (HKW.out.trans hk4 (by simp))
      clear hk4
      go_wp2_with fail
      go_ret
      exact ⟨rfl, HK4.out⟩

theorem sizes_true (kd nn : Int) (A : Option Addr) (c : Nat) (bs : List UInt8) (w : World) (hA : ∀ a, A = some a → a.block < w.heap.size) (hL : Laid w) (hr : Rd w A (bvs bs)) (hc : bs.length ≤ c) (hct : c ≤ maxLen) :
    Calls Tryd.prog 7 #[.int .i64 kd, .slice A bs.length c, .int .i64 nn] w fun x w' => x = .returned (.bool true) ∧ Kept [] w w' := by
  have hm := and_65535 nn
  obtain ⟨q, hq⟩ : ∃ q : Nat, bits .and .i64 nn 65535 % 11 = (q : Int) := ⟨(bits .and .i64 nn 65535 % 11).toNat, by omega⟩
  have hq10 : q ≤ 10 := by omega
  have go : ∀ K : Int, SizesOf K → 1 + bits .and .i64 kd 65535 % 10 = K → Calls Tryd.prog 7 #[.int .i64 kd, .slice A bs.length c, .int .i64 nn] w fun x w' => x = .returned (.bool true) ∧ Kept [] w w' :=
    fun K h hK => h kd nn A c bs w hK q hq hq10 hA hL hr hc hct
  have hk := and_65535 kd
  rcases (show 1 + bits .and .i64 kd 65535 % 10 = 1 ∨ 1 + bits .and .i64 kd 65535 % 10 = 2 ∨ 1 + bits .and .i64 kd 65535 % 10 = 3 ∨ 1 + bits .and .i64 kd 65535 % 10 = 4 ∨ 1 + bits .and .i64 kd 65535 % 10 = 5 ∨
      1 + bits .and .i64 kd 65535 % 10 = 6 ∨ 1 + bits .and .i64 kd 65535 % 10 = 7 ∨ 1 + bits .and .i64 kd 65535 % 10 = 8 ∨ 1 + bits .and .i64 kd 65535 % 10 = 9 ∨ 1 + bits .and .i64 kd 65535 % 10 = 10 by omega) with h | h | h | h | h | h | h | h | h | h
  · exact go _ sizes_1 h
  · exact go _ sizes_2 h
  · exact go _ sizes_3 h
  · exact go _ sizes_4 h
  · exact go _ sizes_5 h
  · exact go _ sizes_6 h
  · exact go _ sizes_7 h
  · exact go _ sizes_8 h
  · exact go _ sizes_9 h
  · exact go _ sizes_10 h
end Go.Proofs.YtlgmhkibjodcbaaDoor
