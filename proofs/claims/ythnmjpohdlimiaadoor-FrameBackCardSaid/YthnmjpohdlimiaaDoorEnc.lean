/- frame.Encode. -/
import Derived.Test.YthnmjpohdlimiaaDoorRight
namespace Go.Proofs.YthnmjpohdlimiaaDoor
open Go.RowKit

theorem rightF_gives {F : Fr} {xs : List (Int × Int)} {ds : List UInt8} (h : rightF F xs ds = true) :
    isKind F.kind = true ∧ (0 ≤ F.port ∧ F.port < 65536) ∧ xs.length ≤ 8 ∧ (∀ k, k < xs.length → 0 ≤ (xs[k]?.getD (0, 0)).2 ∧ (xs[k]?.getD (0, 0)).2 < 65536) ∧ emptyF F xs ds = true ∧ (encF F xs ds).length ≤ 1500 ∧ ¬ (F.kind = 4 ∧ 1000 < ds.length) := by
  simp only [rightF, Bool.and_eq_true, decide_eq_true_eq, portB, Bool.not_eq_true', List.all_eq_true] at h
  obtain ⟨⟨⟨⟨⟨⟨h1, h2⟩, h3⟩, h4⟩, h5⟩, h6⟩, h7⟩ := h
  refine ⟨h1, h2, h3, fun k hk => ?_, h6, h7, fun ⟨e1, e2⟩ => ?_⟩
  · rw [List.getElem?_eq_getElem hk]
    exact h5 _ (List.getElem_mem hk)
  · simp [e1, e2] at h4

set_option maxHeartbeats 1000000 in
theorem encode_no (F : Fr) (A1 A2 : Option Addr) (k1 k2 : Nat) (xs : List (Int × Int)) (ds : List UInt8) (w : World) (hL : Laid w) (hg : Good w F A1 A2 k1 k2 xs ds) (hh : HostsOk xs) (hx : xs.length ≤ 140737488355328) (hd : ds.length + 30000 ≤ 140737488355328)
    (hr : rightF F xs ds = false) :
    Calls Tryd.prog 8 #[.agg F.cells] w fun x w' => x = .returned (.tuple #[.slice none 0 0, .int .i64 1]) ∧ Kept [] w w' := by
  have FRC := Lib.hid (show ∀ j u, F.list[j]? = some u → (w.alloc (.cells F.cells 33)).cell? ⟨w.heap.size, 0 + j, none⟩ = some u from fun j u hu => by
    rw [Nat.zero_add, World.cell?_alloc_at _ _ _ _ rfl]; simpa [Fr.cells] using hu)
  have FRI := Lib.hid (show (Tryd.prog.info? 33).map (·.size) = some F.list.length from by rw [info_frame]; have := Fr.size hg.id hg.key; rw [← this]; simp [Fr.cells])
  have hk0 : Kept [] w (w.alloc (.cells F.cells 33)) := (Kept.refl [] w).alloc _
  have hb0 : (w.alloc (.cells F.cells 33)).heap[w.heap.size]? = some (.cells F.cells 33 (0, 0)) := heap_alloc_new _ _
  have hL0 := hL.kept hk0 (by simp)
  have hg0 := hg.kept hk0
  have HR := Lib.hid hr
  have HL := Lib.hid hL0; have HG := Lib.hid hg0; have HK0 := Lib.hid hk0; have HB0 := Lib.hid hb0
  clear hr hL0 hg0 hk0 hL hg hb0
  go_enter Tryd.func8, Tryd.ntmps8
  go_wp2_with (with_reducible show wpList _ _ _ (⟨some 4, Op.load _ _, _, _, _, _⟩ :: _) _ _; refine wpList_load_part _ 33 _ rfl rfl w.heap.size 0 rfl F.list _ FRC.out Tryd.underlying33 rfl FRI.out ?_)
  refine (right_any F A1 A2 k1 k2 xs ds _ HL.out HG.out hh hx hd).mono ?_
  rintro x w1 ⟨rfl, hk1⟩
  rw [HR.out]
  have HK1 := Lib.hid hk1
  clear hk1
  go_wp2_with fail
  go_ret2
  exact ⟨rfl, HK0.out.trans HK1.out (by simp)⟩

set_option maxHeartbeats 1000000 in
theorem encode_yes (F : Fr) (A1 A2 : Option Addr) (k1 k2 : Nat) (xs : List (Int × Int)) (ds : List UInt8) (w : World) (hL : Laid w) (hg : Good w F A1 A2 k1 k2 xs ds) (hh : HostsOk xs) (hx : xs.length ≤ 140737488355328) (hd : ds.length + 30000 ≤ 140737488355328)
    (hr : rightF F xs ds = true) :
    Calls Tryd.prog 8 #[.agg F.cells] w fun x w' => ∃ v, x = .returned (.tuple #[v, .int .i64 0]) ∧ w'.ownsRow w.heap.size 5 1 v (encF F xs ds).length (bvs (encF F xs ds)) ∧ Kept [] w w' := by
  have FRC := Lib.hid (show ∀ j u, F.list[j]? = some u → (w.alloc (.cells F.cells 33)).cell? ⟨w.heap.size, 0 + j, none⟩ = some u from fun j u hu => by
    rw [Nat.zero_add, World.cell?_alloc_at _ _ _ _ rfl]; simpa [Fr.cells] using hu)
  have FRI := Lib.hid (show (Tryd.prog.info? 33).map (·.size) = some F.list.length from by rw [info_frame]; have := Fr.size hg.id hg.key; rw [← this]; simp [Fr.cells])
  have hk0 : Kept [] w (w.alloc (.cells F.cells 33)) := (Kept.refl [] w).alloc _
  have hb0 : (w.alloc (.cells F.cells 33)).heap[w.heap.size]? = some (.cells F.cells 33 (0, 0)) := heap_alloc_new _ _
  have hL0 := hL.kept hk0 (by simp)
  have hg0 := hg.kept hk0
  have HR := Lib.hid hr
  have HL := Lib.hid hL0; have HG := Lib.hid hg0; have HK0 := Lib.hid hk0; have HB0 := Lib.hid hb0
  clear hr hL0 hg0 hk0 hL hg hb0
  go_enter Tryd.func8, Tryd.ntmps8
  go_wp2_with (with_reducible show wpList _ _ _ (⟨some 4, Op.load _ _, _, _, _, _⟩ :: _) _ _; refine wpList_load_part _ 33 _ rfl rfl w.heap.size 0 rfl F.list _ FRC.out Tryd.underlying33 rfl FRI.out ?_)
  refine (right_any F A1 A2 k1 k2 xs ds _ HL.out HG.out hh hx hd).mono ?_
  rintro x w1 ⟨rfl, hk1⟩
  rw [HR.out]
  have FRC1 := Lib.hid (show ∀ j u, F.list[j]? = some u → w1.cell? ⟨w.heap.size, 0 + j, none⟩ = some u from fun j u hu => (hk1.cell (p := ⟨w.heap.size, 0 + j, none⟩) (by simp) (by simp)).trans (FRC.out j u hu))
  have HK1 := Lib.hid (HK0.out.trans hk1 (by simp))
  obtain ⟨g1, g2, g3, g4, _, _, _⟩ := rightF_gives HR.out
  have hga : GoodAs xs := fun i hi => ⟨(hh i hi).1, (hh i hi).2, (g4 i hi).1, (g4 i hi).2⟩
  have HW := Lib.hid (written_any F A1 A2 k1 k2 xs ds w1 (HL.out.kept hk1 (by simp)) g1 (HG.out.kept hk1) g2.1 g2.2 hga (by omega) hd)
  clear hk1 g1 g2 g3 g4 hga
  go_wp2_with (with_reducible show wpList _ _ _ (⟨some 7, Op.load _ _, _, _, _, _⟩ :: _) _ _; refine wpList_load_part _ 33 _ rfl rfl w.heap.size 0 rfl F.list _ FRC1.out Tryd.underlying33 rfl FRI.out ?_)
  refine HW.out.mono ?_
  rintro x w2 ⟨v2, rfl, hown2, hk2⟩
  have HO2 := Lib.hid hown2
  have HK2 := Lib.hid (HK1.out.trans hk2 (by simp))
  have hsz := HK1.out.size
  clear hown2 hk2
  go_wp2_with fail
  go_ret2
  exact ⟨_, rfl, own_base HO2.out hsz, HK2.out⟩
end Go.Proofs.YthnmjpohdlimiaaDoor
