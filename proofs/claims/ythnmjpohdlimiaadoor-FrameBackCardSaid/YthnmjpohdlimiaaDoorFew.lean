/- hatchwaylaw13.few: a frame whose rows are cut. -/
import Derived.Test.YthnmjpohdlimiaaDoorLaw
import Derived.Deep.DeepCutAuto
namespace Go.Proofs.YthnmjpohdlimiaaDoor
open Go.RowKit

theorem results_one_cell {fn : Func} {p : Tmp} {ty : TypeId} (h : fn.results = #[.cell p ty]) (tmps : Array Value) (P : Program) (w : World) :
    (results fn tmps).run P w = ((asAddr (tmps.getD p undef)).run P w).andThen fun a w₁ => (loadVar ty a).run P w₁ := by
  simp only [results, h]
  simp [Sem.run_bind, Result.andThen]
/-- A frame whose rows are cut. -/
def cutFr (F : Fr) (A1 A2 : Option Addr) (n1 k1 n2 k2 : Nat) : Fr := { F with sa := .slice A1 n1 k1, sd := .slice A2 n2 k2 }
set_option maxRecDepth 100000 in
set_option maxHeartbeats 2000000 in
theorem few_any (F : Fr) (A1 A2 : Option Addr) (k1 k2 : Nat) (xs : List (Int × Int)) (ds : List UInt8) (w : World) (hg : Good w F A1 A2 k1 k2 xs ds) (h1 : xs.length ≤ k1) (h2 : k1 ≤ maxLen) (h3 : ds.length ≤ k2) (h4 : k2 ≤ maxLen) :
    Calls Tryd.prog 7 #[.agg F.cells] w fun x w' => x = .returned (.agg (cutFr F A1 A2 (xs.take 10).length k1 (ds.take 1600).length k2).cells) ∧ Kept [] w w' := by
  obtain ⟨n1, hn1⟩ : ∃ n1, n1 = (xs.take 10).length := ⟨_, rfl⟩
  obtain ⟨n2, hn2⟩ : ∃ n2, n2 = (ds.take 1600).length := ⟨_, rfl⟩
  rw [← hn1, ← hn2]
  have HN1 := Lib.hid hn1; have HN2 := Lib.hid hn2
  clear hn1 hn2
  have hx : xs.length ≤ 9223372036854775807 := by unfold maxLen at h2; omega
  have hd : ds.length ≤ 9223372036854775807 := by unfold maxLen at h4; omega
  have HG := Lib.hid hg
  clear hg
  go_enter Tryd.func7, Tryd.ntmps7
  go_upto_region 1 with (first
    | ((with_reducible show wpList _ _ _ (⟨some 2, Op.alloc _, _, _, _, _⟩ :: _) _ _); refine wpList_alloc_known _ 33 rfl rfl _ (run_alloc_frame _) ?_))
  obtain ⟨w0, hw0⟩ : ∃ w0, w0 = (w.alloc (.cells F.cells 33)).alloc (.cells (Fr.new 0).cells 33) := ⟨_, rfl⟩
  have hF0 : FB w0 w.heap.size F := ⟨by rw [hw0, Below.heap_alloc _ _ _ (by simp)]; exact heap_alloc_new _ _, HG.out.id, HG.out.key⟩
  have hR0 : w0.heap[w.heap.size + 1]? = some (.cells (Fr.new 0).cells 33 (0, 0)) := by rw [hw0]; exact heap_new2 _ _ _
  have hk0 : Kept [] w w0 := by rw [hw0]; exact ((Kept.refl [] w).alloc _).alloc _
  have hsz : (w.alloc (.cells F.cells 33)).heap.size = w.heap.size + 1 := by simp
  rw [← hw0, hsz]
  have z15 := hF0.sa; rw [HG.out.sa] at z15
  have y15 := hF0.frozen 15
  have z49 := hF0.sd; rw [HG.out.sd] at z49
  have y49 := hF0.frozen 49
  have hb0 := hF0.lt
  have HF0 := Lib.hid hF0; have HR0 := Lib.hid hR0; have HK0 := Lib.hid hk0
  clear hw0 hF0 hR0 hk0 hsz
  go_upto_region 2 with fail
  have en1 : (if (10 : Int) < (xs.length : Int) then (10 : Int) else (xs.length : Int)) = ((n1 : Nat) : Int) := by rw [HN1.out, List.length_take]; split <;> omega
  rw [en1, Int.toNat_natCast]
  obtain ⟨w1, hw1⟩ : ∃ w1, w1 = w0.setCell ⟨w.heap.size, 15, none⟩ (.slice A1 n1 k1) := ⟨_, rfl⟩
  rw [← hw1]
  have hk1 : Kept [w.heap.size] w0 w1 := by rw [hw1]; exact (Kept.refl _ _).setCell (by simp) _
  have hF1 : FB w1 w.heap.size { F with sa := .slice A1 n1 k1 } := by
    refine ⟨?_, HG.out.id, HG.out.key⟩
    rw [← Fr.set_sa HG.out.id, hw1]
    exact heap_setCell_same w0 _ 15 _ _ _ HF0.out.blk
  have hR1 := (hk1.block (w.heap.size + 1) (Array.getElem?_eq_some_iff.1 HR0.out).1 (by simp)).trans HR0.out
  have hk1' : Kept [] w w1 := HK0.out.trans hk1 (fun j hj hm => by simp at hm; omega)
  clear z15 y15 z49 y49 HF0 HR0 en1
  have z49 : w1.cell? ⟨w.heap.size, 49, none⟩ = some (.slice A2 ds.length k2) := hF1.sd.trans (congrArg some HG.out.sd)
  have y49 := hF1.frozen 49
  have HF1 := Lib.hid hF1; have HR1 := Lib.hid hR1; have HK1 := Lib.hid hk1'
  clear hw1 hk1 hF1 hR1 hk1'
  go_upto_region 3 with fail
  have en2 : (if (1600 : Int) < (ds.length : Int) then (1600 : Int) else (ds.length : Int)) = ((n2 : Nat) : Int) := by rw [HN2.out, List.length_take]; split <;> omega
  rw [en2, Int.toNat_natCast]
  obtain ⟨w2, hw2⟩ : ∃ w2, w2 = w1.setCell ⟨w.heap.size, 49, none⟩ (.slice A2 n2 k2) := ⟨_, rfl⟩
  rw [← hw2]
  obtain ⟨G, hG⟩ : ∃ G, G = cutFr F A1 A2 n1 k1 n2 k2 := ⟨_, rfl⟩
  have hk2 : Kept [w.heap.size] w1 w2 := by rw [hw2]; exact (Kept.refl _ _).setCell (by simp) _
  have hF2 : FB w2 w.heap.size G := by
    refine ⟨?_, by rw [hG]; exact HG.out.id, by rw [hG]; exact HG.out.key⟩
    have e : G.cells = ({ F with sa := .slice A1 n1 k1 } : Fr).cells.setIfInBounds 49 (.slice A2 n2 k2) := by
      rw [Fr.set_sd (F := { F with sa := .slice A1 n1 k1 }) HG.out.id HG.out.key, hG]; rfl
    rw [e, hw2]
    exact heap_setCell_same w1 _ 49 _ _ _ HF1.out.blk
  have hR2 := (hk2.block (w.heap.size + 1) (Array.getElem?_eq_some_iff.1 HR1.out).1 (by simp)).trans HR1.out
  have hk2' : Kept [] w w2 := HK1.out.trans hk2 (fun j hj hm => by simp at hm; omega)
  have FRC := Lib.hid (show ∀ j u, G.list[j]? = some u → w2.cell? ⟨w.heap.size, 0 + j, none⟩ = some u from fun j u hu => by
    rw [Nat.zero_add, hF2.cell]; simpa [Fr.cells] using hu)
  have F50 := Lib.hid (Fr.size hF2.id hF2.key)
  have FRI := Lib.hid (show (Tryd.prog.info? 33).map (·.size) = some G.list.length from by rw [info_frame, ← F50.out]; rfl)
  have F1C := Lib.hid (Fr.one G (by rw [hG]; rfl) (by rw [hG]; rfl))
  have HR2 := Lib.hid hR2; have HK2 := Lib.hid hk2'; have HGG := Lib.hid hG
  clear z49 y49 HF1 HR1 en2 hw2 hk2 hF2 hR2 hk2' hG
  go_wp2_with (first
    | ((with_reducible show wpList _ _ _ (⟨some 19, Op.load _ _, _, _, _, _⟩ :: _) _ _); refine wpList_load_part _ 33 _ rfl rfl w.heap.size 0 rfl G.list _ FRC.out Tryd.underlying33 rfl FRI.out ?_)
    | ((with_reducible show wpList _ _ _ (⟨none, Op.store 33 (.tmp 2) (.tmp 19), _, _, _, _⟩ :: _) _ _); refine wpList_store_whole _ 33 (.tmp 2) (.tmp 19) rfl rfl (w.heap.size + 1) (by rfl) G.cells (by rfl) _ _ HR2.out (F50.out.trans (Fr.new_size _).symm) (info_frame.trans (congrArg some F50.out.symm)) F1C.out _ rfl ?_))
  refine bodyPost_ret (v := .agg G.cells) ?_ rfl ⟨by rw [HGG.out], ?_⟩
  · rw [results_one_cell rfl]
    have h := run_loadVar_row (P := Tryd.prog) (w2.setRow (w.heap.size + 1) G.cells) (w.heap.size + 1) 33 33 G.cells (0, 0) _ (setRow_heap _ _ _ _ _ _ HR2.out) Tryd.underlying33 rfl (info_frame.trans (congrArg some F50.out.symm))
    show ((asAddr (.pointer (some ⟨w.heap.size + 1, 0, none⟩))).run Tryd.prog _).andThen _ = _
    simp only [asAddr, Sem.run_pure, Result.andThen_ok, h]
  · exact HK2.out.trans (kept_setRow _ _ _) (fun j hj hm => by simp at hm; omega)
end Go.Proofs.YthnmjpohdlimiaaDoor
