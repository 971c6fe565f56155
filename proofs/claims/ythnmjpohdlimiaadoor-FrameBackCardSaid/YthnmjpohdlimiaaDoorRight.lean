/- frame.Right: all kinds. -/
import Derived.Test.YthnmjpohdlimiaaDoorRightB
import Derived.Test.YthnmjpohdlimiaaDoorRightC
import Derived.Test.YthnmjpohdlimiaaDoorRightD
import Derived.Test.YthnmjpohdlimiaaDoorRightE
namespace Go.Proofs.YthnmjpohdlimiaaDoor
open Go.RowKit

set_option maxHeartbeats 1000000 in
theorem right_no (F : Fr) (w : World) (hk : isKind F.kind = false) (hi : F.id.length = 12) (hkey : F.key.length = 32) (xs : List (Int × Int)) (ds : List UInt8) :
    Calls Tryd.prog 11 #[.agg F.cells] w fun x w' => x = .returned (.bool (rightF F xs ds)) ∧ Kept [] w w' := by
  have h' : F.kind < 1 ∨ 10 < F.kind := by
    have : ¬ (1 ≤ F.kind ∧ F.kind ≤ 10) := by simpa [isKind] using hk
    omega
  have c0 : (w.alloc (.cells F.cells 33)).cell? ⟨w.heap.size, 0, none⟩ = some (.int .i64 F.kind) := by
    rw [World.cell?_alloc_at _ _ _ _ rfl]; exact Fr.get_kind hi hkey
  have HR := Lib.hid (rightF_kind (F := F) (xs := xs) (ds := ds) hk)
  have H' := Lib.hid h'
  clear hk h'
  go_enter Tryd.func11, Tryd.ntmps11
  go_wp2_with fail
  refine (of_no F.kind _ H'.out).mono ?_
  rintro x w1 ⟨rfl, hk1⟩
  have HK1 := Lib.hid hk1
  clear hk1
  go_wp2_with fail
  go_ret
  exact ⟨ret_false HR.out, (((Kept.refl [] w).alloc _).trans HK1.out (by simp)).alloc _⟩

/-- frame.Right, whatever the frame. -/
theorem right_any (F : Fr) (A1 A2 : Option Addr) (k1 k2 : Nat) (xs : List (Int × Int)) (ds : List UInt8) (w : World) (hL : Laid w) (hg : Good w F A1 A2 k1 k2 xs ds) (hh : HostsOk xs) (hx : xs.length ≤ 140737488355328) (hd : ds.length + 30000 ≤ 140737488355328) :
    Calls Tryd.prog 11 #[.agg F.cells] w fun x w' => x = .returned (.bool (rightF F xs ds)) ∧ Kept [] w w' := by
  by_cases h : 1 ≤ F.kind ∧ F.kind ≤ 10
  · have : ∀ K : Int, 1 ≤ K → K ≤ 10 → RightOf K := fun K h1 h2 => by
      rcases (show K = 1 ∨ K = 2 ∨ K = 3 ∨ K = 4 ∨ K = 5 ∨ K = 6 ∨ K = 7 ∨ K = 8 ∨ K = 9 ∨ K = 10 by omega) with rfl | rfl | rfl | rfl | rfl | rfl | rfl | rfl | rfl | rfl
      · exact right_1
      · exact right_2
      · exact right_3
      · exact right_4
      · exact right_5
      · exact right_6
      · exact right_7
      · exact right_8
      · exact right_9
      · exact right_10
    exact this F.kind h.1 h.2 F A1 A2 k1 k2 xs ds w rfl hL hg hh hx hd
  · exact right_no F w (by simpa [isKind] using h) hg.id hg.key xs ds
end Go.Proofs.YthnmjpohdlimiaaDoor
