/- The document's Get: of bytes that lie there the number. -/
import Derived.Test.YthnmjpohdlimiaaDoorRows
import Derived.Test.YthnmjpohdlimiaaDoorMem
namespace Go.Proofs.YthnmjpohdlimiaaDoor
open Go.RowKit

set_option maxHeartbeats 400000 in
theorem refget_nat (A : Option Addr) (c : Nat) (l : List UInt8) (a s : Nat) (big : Bool) (w : World) (h1 : 1 ≤ s) (h2 : s ≤ 8) (h4 : a + s ≤ l.length) (h5 : l.length ≤ 140737488355328)
    (hr : Rd w A (bvs l)) :
    Calls Tryd.prog 26 #[.slice A l.length c, .int .i64 a, .int .i64 s, .bool big] w fun e w' => e = .returned (.tuple #[.int .u64 (getN l a s big), .bool true]) ∧ w = w' := by
  obtain ⟨b, off, rfl, hb, hc⟩ := hr.at_ (k := 0) (by rw [bvs_length]; omega)
  go_enter Tryd.func26, Tryd.ntmps26
  go_wp2
  go_loop [10, 11, 12] (fun n j _ => ∃ t : Nat, t ≤ s ∧ j = .int .i64 t ∧ n = .int .u64 (be ((ord l a s big).take t))) (fun _ j _ => (s - intOf j).toNat)
  case atStart => exact ⟨0, Nat.zero_le _, rfl, rfl⟩
  case round =>
    obtain ⟨t, ht, rfl, rfl⟩ := hrel
    have hlen := ord_length l a s big h4
    by_cases hlt : t < s
    · have hm := be_lt ((ord l a s big).take t)
      rw [List.length_take, hlen, Nat.min_eq_left ht] at hm
      have hp := pow_le_7 t (by omega)
      cases big
      · have ho := ord_get_little l a s t h4 hlt
        have hx := hc (a + (s - 1 - t)) _ (bvs_get l (a + (s - 1 - t)) (by omega))
        have hb1 := byte_lt l (a + (s - 1 - t))
        rw [show a + s - 1 - t = a + (s - 1 - t) by omega] at ho
        have hS := be_take_succ _ _ _ ho
        have HS := Lib.hid hS; clear hS ho hlen
        go_wp2
        go_round
        case rel => exact ⟨t + 1, by omega, by go_num, by rw [HS.out]; go_num⟩
        case measure => simp [intOf]; omega
      · have ho := ord_get_big l a s t h4 hlt
        have hx := hc (a + t) _ (bvs_get l (a + t) (by omega))
        have hb1 := byte_lt l (a + t)
        have hS := be_take_succ _ _ _ ho
        have HS := Lib.hid hS; clear hS ho hlen
        go_wp2
        go_round
        case rel => exact ⟨t + 1, by omega, by go_num, by rw [HS.out]; go_num⟩
        case measure => simp [intOf]; omega
    · have : t = s := by omega
      subst this
      have he : (ord l a t big).take t = ord l a t big := List.take_of_length_le (by omega)
      have HE := Lib.hid he; clear he hlen
      go_wp2
      go_ret2
      exact ⟨by rw [HE.out]; rfl, rfl⟩
end Go.Proofs.YthnmjpohdlimiaaDoor
