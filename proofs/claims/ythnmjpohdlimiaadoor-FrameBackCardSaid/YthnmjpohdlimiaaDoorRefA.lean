/- The document's frame: its small functions. -/
import Derived.Test.YthnmjpohdlimiaaDoorRefPut
import Derived.Test.YthnmjpohdlimiaaDoorRefGet
import Derived.Test.YthnmjpohdlimiaaDoorRightA
import Derived.Deep.QuietTactic
import Derived.BigQuiet
import Derived.Deep.RegionWith
namespace Go.Proofs.YthnmjpohdlimiaaDoor
open Go.RowKit

theorem ret_bool {a b : Bool} (h : a = b) : Ending.returned (.bool a) = .returned (.bool b) := by rw [h]
/-- Are bytes all noughts? -/
def zeroB (l : List UInt8) : Bool := l.all (· == 0)
theorem zeroB_at {l : List UInt8} {t : Nat} (ht : t < l.length) (h : l[t]?.getD 0 ≠ 0) : zeroB l = false := by
  rw [List.getElem?_eq_getElem ht, Option.getD_some] at h
  unfold zeroB
  rw [List.all_eq_false]
  exact ⟨l[t], List.getElem_mem ht, by simpa using h⟩
theorem zeroB_all {l : List UInt8} (h : ∀ t, t < l.length → l[t]?.getD 0 = 0) : zeroB l = true := by
  unfold zeroB
  rw [List.all_eq_true]
  intro b hb
  obtain ⟨t, ht, rfl⟩ := List.getElem_of_mem hb
  have := h t ht
  rw [List.getElem?_eq_getElem ht, Option.getD_some] at this
  simpa using this
theorem zeroB_zeros {l : List UInt8} : zeroB l = (l == zeros l.length) := by
  rw [Bool.eq_iff_iff]
  unfold zeroB zeros
  simp [List.eq_replicate_iff]
theorem refzero_any (A : Option Addr) (c : Nat) (l : List UInt8) (w : World) (h5 : l.length ≤ 140737488355328) (hr : Rd w A (bvs l)) :
    Calls Tryd.prog 18 #[.slice A l.length c] w fun x w' => x = .returned (.bool (zeroB l)) ∧ w = w' := by
  have HR := Lib.hid hr
  clear hr
  go_enter Tryd.func18, Tryd.ntmps18
  go_wp2
  go_loop [3] (fun i => ∃ t : Nat, t ≤ l.length ∧ i = .int .i64 t ∧ Hid (∀ j, j < t → l[j]?.getD 0 = 0)) (fun i => l.length - (intOf i).toNat)
  case atStart => exact ⟨0, Nat.zero_le _, rfl, fun j hj => by omega⟩
  case round =>
    obtain ⟨t, ht, rfl, HZ⟩ := hrel
    by_cases hlt : t < l.length
    · obtain ⟨b, off, hA, _, hc⟩ := HR.out.at_ (k := t) (by rw [bvs_length]; exact hlt)
      have hx := hc t _ (bvs_get l t hlt)
      subst hA
      clear hc
      by_cases hz : l[t]?.getD 0 = 0
      · rw [hz] at hx
        have HN : Hid (∀ j, j < t + 1 → l[j]?.getD 0 = 0) := fun j hj => by
          rcases Nat.lt_or_ge j t with h | h
          · exact HZ.out j h
          · rw [show j = t by omega]; exact hz
        clear hz
        go_wp2
        go_round
        case rel => exact ⟨t + 1, by omega, by go_num, HN⟩
        case measure => simp [intOf]; omega
      · have HF := Lib.hid (zeroB_at hlt hz)
        have hne : ((l[t]?.getD 0).toNat : Int) ≠ 0 := fun e => hz (UInt8.toNat.inj (by simpa using e))
        obtain ⟨u, hu⟩ : ∃ u : Int, u = ((l[t]?.getD 0).toNat : Int) := ⟨_, rfl⟩
        rw [← hu] at hx hne
        clear hz hu
        go_wp2
        go_ret
        exact ⟨ret_bool HF.out.symm, rfl⟩
    · have HT := Lib.hid (zeroB_all (l := l) (fun j hj => HZ.out j (by omega)))
      go_wp2
      go_ret
      exact ⟨ret_bool HT.out.symm, rfl⟩
theorem refport_any (h p : Int) (w : World) (hp : -9223372036854775808 ≤ p ∧ p ≤ 9223372036854775807) :
    Calls Tryd.prog 17 #[.agg #[.int .u32 h, .int .i64 p]] w fun e w' => e = .returned (.bool (portB p)) ∧ Kept [] w w' := by
  go_enter Tryd.func17, Tryd.ntmps17
  go_wp2
  all_goals
    go_ret
    refine ⟨?_, (Kept.refl [] w).alloc _⟩
    have e : portB p = decide (0 ≤ p ∧ p ≤ 65535) := by unfold portB; congr 1; rw [eq_iff_iff]; omega
    rw [e]
    simp <;> omega
def dataB (k : Int) : Bool := decide (k = 4 ∨ k = 5 ∨ k = 6 ∨ k = 7 ∨ k = 10)
theorem refdata_any (k : Int) (w : World) :
    Calls Tryd.prog 19 #[.int .i64 k] w fun e w' => e = .returned (.bool (dataB k)) ∧ w = w' := by
  have e : dataB k = (k == 4 || k == 5 || k == 6 || k == 7 || k == 10) := by
    rw [Bool.eq_iff_iff]; simp [dataB, or_assoc]
  have HE := Lib.hid e
  clear e
  go_enter Tryd.func19, Tryd.ntmps19
  go_wp2
  all_goals
    go_ret
    first | exact ⟨ret_bool HE.out.symm, rfl⟩ | (refine ⟨ret_bool ?_, rfl⟩; rw [HE.out]; simp_all)
end Go.Proofs.YthnmjpohdlimiaaDoor
