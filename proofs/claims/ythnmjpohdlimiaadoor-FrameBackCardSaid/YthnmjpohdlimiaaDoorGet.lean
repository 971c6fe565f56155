/- words.Get and the document's Get: of bytes that lie there the number, else 0 and false. -/
import Derived.Test.YthnmjpohdlimiaaDoorRows
import Derived.Test.YthnmjpohdlimiaaDoorMem
namespace Go.Proofs.YthnmjpohdlimiaaDoor
open Go.RowKit

set_option maxHeartbeats 400000 in
theorem get_nat (A : Option Addr) (c : Nat) (l : List UInt8) (a s : Nat) (big : Bool) (w : World) (h1 : 1 ≤ s) (h2 : s ≤ 8) (h4 : a + s ≤ l.length) (h5 : l.length ≤ 140737488355328)
    (hr : Rd w A (bvs l)) :
    Calls Tryd.prog 33 #[.slice A l.length c, .int .i64 a, .int .i64 s, .bool big] w fun e w' => e = .returned (.tuple #[.int .u64 (getN l a s big), .bool true]) ∧ w = w' := by
  obtain ⟨b, off, rfl, hb, hc⟩ := hr.at_ (k := 0) (by rw [bvs_length]; omega)
  go_enter Tryd.func33, Tryd.ntmps33
  go_wp2
  go_loop [8, 10, 11, 31] (fun n _ _ j => ∃ t : Nat, t ≤ s ∧ j = .int .i64 t ∧ n = .int .u64 (be ((ord l a s big).take t))) (fun _ _ _ j => (s - intOf j).toNat)
  case atStart => exact ⟨0, Nat.zero_le _, rfl, rfl⟩
  case round =>
    obtain ⟨t, ht, rfl, rfl⟩ := hrel
    have hlen := ord_length l a s big h4
    by_cases hlt : t < s
    · have hm := be_lt ((ord l a s big).take t)
      rw [List.length_take, hlen, Nat.min_eq_left ht] at hm
      have hp := pow_le_7 t (by omega)
      cases big
      · have ho := ord_get_little l a s t h4 hlt
        have hx := hc (a + s - 1 - t) _ (bvs_get l (a + s - 1 - t) (by omega))
        have hb1 := byte_lt l (a + s - 1 - t)
        have hS := be_take_succ _ _ _ ho
        have hor := or_byte (be ((ord l a s false).take t)) (l[a + s - 1 - t]?.getD 0).toNat (by omega) (by omega)
        have HS := Lib.hid hS; have HO := Lib.hid hor; clear hS hor ho hlen
        go_wp2
        go_round
        case rel => exact ⟨t + 1, by omega, by go_num, by rw [HO.out, HS.out]⟩
        case measure => simp [intOf]; omega
      · have ho := ord_get_big l a s t h4 hlt
        have hx := hc (a + t) _ (bvs_get l (a + t) (by omega))
        have hb1 := byte_lt l (a + t)
        have hS := be_take_succ _ _ _ ho
        have hor := or_byte (be ((ord l a s true).take t)) (l[a + t]?.getD 0).toNat (by omega) (by omega)
        have HS := Lib.hid hS; have HO := Lib.hid hor; clear hS hor ho hlen
        go_wp2
        go_round
        case rel => exact ⟨t + 1, by omega, by go_num, by rw [HO.out, HS.out]⟩
        case measure => simp [intOf]; omega
    · have : t = s := by omega
      subst this
      have he : (ord l a t big).take t = ord l a t big := List.take_of_length_le (by omega)
      have HE := Lib.hid he; clear he hlen
      go_wp2
      go_ret2
      exact ⟨by rw [HE.out]; rfl, rfl⟩
/-- Where they lie there. -/
theorem get_yes (A : Option Addr) (c : Nat) (l : List UInt8) (a s : Int) (big : Bool) (w : World) (h1 : 1 ≤ s) (h2 : s ≤ 8) (h3 : 0 ≤ a) (h4 : a + s ≤ l.length) (h5 : l.length ≤ 140737488355328)
    (hr : Rd w A (bvs l)) :
    Calls Tryd.prog 33 #[.slice A l.length c, .int .i64 a, .int .i64 s, .bool big] w fun e w' => e = .returned (.tuple #[.int .u64 (getN l a.toNat s.toNat big), .bool true]) ∧ w = w' := by
  obtain ⟨a, rfl⟩ := Int.eq_ofNat_of_zero_le h3
  obtain ⟨s, rfl⟩ := Int.eq_ofNat_of_zero_le (a := s) (by omega)
  exact get_nat A c l a s big w (by omega) (by omega) (by omega) h5 hr

set_option maxHeartbeats 400000 in
theorem get_no (A : Option Addr) (n c : Nat) (a s : Int) (big : Bool) (w : World) (h : s < 1 ∨ 8 < s ∨ a < 0 ∨ (n : Int) - s < a) (h5 : n ≤ 140737488355328) (ha : a ≤ 9223372036854775807) :
    Calls Tryd.prog 33 #[.slice A n c, .int .i64 a, .int .i64 s, .bool big] w fun e w' => e = .returned (.tuple #[.int .u64 0, .bool false]) ∧ w = w' := by
  by_cases h1 : s < 1
  · go_enter Tryd.func33, Tryd.ntmps33
    go_wp2
    go_ret2
    exact ⟨rfl, rfl⟩
  by_cases h2 : 8 < s
  · go_enter Tryd.func33, Tryd.ntmps33
    go_wp2
    go_ret2
    exact ⟨rfl, rfl⟩
  by_cases h3 : a < 0
  · go_enter Tryd.func33, Tryd.ntmps33
    go_wp2
    go_ret2
    exact ⟨rfl, rfl⟩
  have h4 : (n : Int) - s < a := by omega
  have g1 : 1 ≤ s := by omega
  have g2 : s ≤ 8 := by omega
  clear h
  go_enter Tryd.func33, Tryd.ntmps33
  go_wp2
  go_ret2
  exact ⟨rfl, rfl⟩

/-- .. the length by another name. -/
theorem get_len (A : Option Addr) (c m : Nat) (l : List UInt8) (a s : Int) (big : Bool) (w : World) (hm : l.length = m) (h1 : 1 ≤ s) (h2 : s ≤ 8) (h3 : 0 ≤ a) (h4 : a + s ≤ m) (h5 : m ≤ 140737488355328)
    (hr : Rd w A (bvs l)) :
    Calls Tryd.prog 33 #[.slice A m c, .int .i64 a, .int .i64 s, .bool big] w fun e w' => e = .returned (.tuple #[.int .u64 (getN l a.toNat s.toNat big), .bool true]) ∧ w = w' := by
  subst hm
  exact get_yes A c l a s big w h1 h2 h3 h4 h5 hr
end Go.Proofs.YthnmjpohdlimiaaDoor
