/- The document's Put: a number's bytes behind others. -/
import Derived.Test.YthnmjpohdlimiaaDoorPut
namespace Go.Proofs.YthnmjpohdlimiaaDoor
open Go.RowKit

theorem encN_get (n s t : Nat) (big : Bool) (ht : t < s) : (encN n s big)[t]? = some (UInt8.ofNat (n / 256 ^ (if big then s - 1 - t else t))) := by
  unfold encN
  cases big
  · simp [encL, ht]
  · simp only [if_true]
    rw [List.getElem?_reverse (by rw [encL_length]; exact ht), encL_length]
    simp only [encL, List.getElem?_map]
    rw [List.getElem?_range (by omega)]
    rfl
theorem encN_take (n s t : Nat) (big : Bool) (ht : t < s) : (encN n s big).take (t + 1) = (encN n s big).take t ++ [UInt8.ofNat (n / 256 ^ (if big then s - 1 - t else t))] := by
  have h := encN_get n s t big ht
  obtain ⟨h1, h2⟩ := List.getElem?_eq_some_iff.1 h
  rw [List.take_succ_eq_append_getElem h1, h2]
theorem byte_of_mod (q : Nat) : ((q : Int) % 256) = (((UInt8.ofNat q).toNat : Nat) : Int) := by
  rw [UInt8.toNat_ofNat']
  omega
theorem div_pow_succ (n q : Nat) : ((n / 256 ^ q : Nat) : Int) / 256 = ((n / 256 ^ (q + 1) : Nat) : Int) := by
  rw [Nat.pow_succ, ← Nat.div_div_eq_div_mul]
  omega

set_option maxHeartbeats 2000000 in
theorem refput_nat (A : Option Addr) (c : Nat) (l : List UInt8) (s n : Nat) (big : Bool) (w : World) (hs : s ≤ 8) (hn : n < 18446744073709551616) (h5 : l.length + 8 ≤ 140737488355328) (hr : Rd w A (bvs l)) :
    Calls Tryd.prog 23 #[.slice A l.length c, .int .i64 s, .int .u64 n, .bool big] w fun x w' => ∃ v, x = .returned v ∧ w'.ownsRow w.heap.size 5 1 v (l.length + s) (bvs (l ++ encN n s big)) ∧ Kept [] w w' := by
  obtain ⟨i0, hi, hz0, hz1, hz2⟩ := info_parts info_byte
  have hmade := World.ownsRow_made (e := 5) (size := 1) w #[] 0 (Nat.le_refl _) (by simp) (by simp)
  go_enter Tryd.func23, Tryd.ntmps23
  go_wp2_with (at_builtin; refine wpList_append_rd _ rfl (.tmp 14) (.tmp 15) 31 rfl w.heap.size 5 i0 (.int .u8 0) 1 1 Tryd.underlying31 hi hz0 hz1 hz2 rfl (by decide) _ _ _ rfl hmade _ _ _ (bvs l) rfl ?a1 (hr.alloc _) (bvs_one l) ?a4 ?a5 ?a6 ?_)
  case a1 => simp
  case a4 => unfold maxLen; omega
  case a5 => omega
  case a6 => simp
  intro v1 w1 hown1 hg1 _
  have hk1 : Kept [] w w1 := ((Kept.refl [] w).alloc _).grown hg1 (by intro k hk; simp [Value.ownBlock] at hk; omega)
  have HO1 := Lib.hid hown1
  have HK1 := Lib.hid hk1
  clear hown1 hk1 hg1 hmade hr
  go_wp2
  go_loopw [9, 10, 11, 12, 13] (fun v i _ _ _ wr => ∃ t : Nat, t ≤ s ∧ i = .int .i64 t ∧ Hid (wr.ownsRow w.heap.size 5 1 v (l.length + t) (bvs (l ++ (encN n s big).take t))) ∧ Hid (Kept [] w wr))
    (fun _ i _ _ _ _ => s - (intOf i).toNat)
  case atStart => exact ⟨0, Nat.zero_le _, rfl, by show w1.ownsRow _ _ _ _ _ _; simpa using HO1.out, HK1.out⟩
  case round =>
    obtain ⟨t, ht, rfl, HO, HK⟩ := hrel
    by_cases hlt : t < s
    · cases big
      · go_wp2
        go_loop [12, 13] (fun x j => ∃ q X : Nat, q ≤ t ∧ j = .int .i64 q ∧ x = .int .u64 X ∧ Hid (X = n / 256 ^ q) ∧ X < 18446744073709551616) (fun _ j => t - (intOf j).toNat)
        case atStart => exact ⟨0, n, Nat.zero_le _, rfl, rfl, by show n = n / 256 ^ 0; simp, hn⟩
        case round =>
          obtain ⟨q, X, hq, rfl, rfl, HX, hX⟩ := hrel
          by_cases hq2 : q < t
          · go_wp2
            go_round
            case rel => exact ⟨q + 1, X / 256, by omega, by go_num, by go_num, by show X / 256 = _; rw [HX.out, Nat.pow_succ, Nat.div_div_eq_div_mul], by omega⟩
            case measure => simp [intOf]; omega
          · have hqe : q = t := by omega
            have hbt := byte_of_mod X
            have HB := Lib.hid hbt
            have HE := Lib.hid (encN_take n s t false hlt)
            have HQ := Lib.hid hqe
            clear hbt hqe
            go_wp2_with (at_builtin; refine wpList_append_rd _ rfl (.tmp 39) (.tmp 43) 31 rfl w.heap.size 5 i0 (.int .u8 0) 1 1 Tryd.underlying31 hi hz0 hz1 hz2 rfl (by decide) _ _ _ rfl (HO.out.alloc _) _ _ _ [.int .u8 ((X : Int) % 256)] rfl rfl ?c2 ?c3 ?c4 ?c5 ?c6 ?_)
            case c2 => exact Rd.new_one _ _ _
            case c3 => first | rfl | (intro u hu; simp at hu; subst hu; rfl)
            case c4 => unfold maxLen; omega
            case c5 => omega
            case c6 => have := HK.out.size; simp; omega
            intro v3 w3 hown3 hg3 _
            have hk3 : Kept [] w w3 := (HK.out.alloc _).grown hg3 (fun k hk hlt => by have := HO.out.lt k hk; omega)
            have HO3 : Hid (w3.ownsRow w.heap.size 5 1 v3 (l.length + (t + 1)) (bvs (l ++ (encN n s false).take (t + 1)))) := by
              have hb : [Value.int .u8 ((X : Int) % 256)] = bvs [UInt8.ofNat X] := by rw [HB.out]; rfl
              have he : (encN n s false).take (t + 1) = (encN n s false).take t ++ [UInt8.ofNat X] := by rw [HE.out, HX.out, HQ.out]; rfl
              show w3.ownsRow _ _ _ _ _ _
              rw [he, ← List.append_assoc, bvs_append, ← hb, ← Nat.add_assoc]
              exact hown3
            have HK3 := Lib.hid hk3
            clear hown3 hk3 hg3
            go_wp2
            go_roundw
            case rel => exact ⟨t + 1, by omega, by go_num, HO3, HK3⟩
            case measure => simp [intOf]; omega
      · go_wp2
        go_loop [12, 13] (fun x j => ∃ q X : Nat, q ≤ s - 1 - t ∧ j = .int .i64 q ∧ x = .int .u64 X ∧ Hid (X = n / 256 ^ q) ∧ X < 18446744073709551616) (fun _ j => s - 1 - t - (intOf j).toNat)
        case atStart => exact ⟨0, n, Nat.zero_le _, rfl, rfl, by show n = n / 256 ^ 0; simp, hn⟩
        case round =>
          obtain ⟨q, X, hq, rfl, rfl, HX, hX⟩ := hrel
          by_cases hq2 : q < s - 1 - t
          · go_wp2
            go_round
            case rel => exact ⟨q + 1, X / 256, by omega, by go_num, by go_num, by show X / 256 = _; rw [HX.out, Nat.pow_succ, Nat.div_div_eq_div_mul], by omega⟩
            case measure => simp [intOf]; omega
          · have hqe : q = s - 1 - t := by omega
            have hbt := byte_of_mod X
            have HB := Lib.hid hbt
            have HE := Lib.hid (encN_take n s t true hlt)
            have HQ := Lib.hid hqe
            clear hbt hqe
            go_wp2_with (at_builtin; refine wpList_append_rd _ rfl (.tmp 39) (.tmp 43) 31 rfl w.heap.size 5 i0 (.int .u8 0) 1 1 Tryd.underlying31 hi hz0 hz1 hz2 rfl (by decide) _ _ _ rfl (HO.out.alloc _) _ _ _ [.int .u8 ((X : Int) % 256)] rfl rfl ?d2 ?d3 ?d4 ?d5 ?d6 ?_)
            case d2 => exact Rd.new_one _ _ _
            case d3 => first | rfl | (intro u hu; simp at hu; subst hu; rfl)
            case d4 => unfold maxLen; omega
            case d5 => omega
            case d6 => have := HK.out.size; simp; omega
            intro v3 w3 hown3 hg3 _
            have hk3 : Kept [] w w3 := (HK.out.alloc _).grown hg3 (fun k hk hlt => by have := HO.out.lt k hk; omega)
            have HO3 : Hid (w3.ownsRow w.heap.size 5 1 v3 (l.length + (t + 1)) (bvs (l ++ (encN n s true).take (t + 1)))) := by
              have hb : [Value.int .u8 ((X : Int) % 256)] = bvs [UInt8.ofNat X] := by rw [HB.out]; rfl
              have he : (encN n s true).take (t + 1) = (encN n s true).take t ++ [UInt8.ofNat X] := by rw [HE.out, HX.out, HQ.out]; rfl
              show w3.ownsRow _ _ _ _ _ _
              rw [he, ← List.append_assoc, bvs_append, ← hb, ← Nat.add_assoc]
              exact hown3
            have HK3 := Lib.hid hk3
            clear hown3 hk3 hg3
            go_wp2
            go_roundw
            case rel => exact ⟨t + 1, by omega, by go_num, HO3, HK3⟩
            case measure => simp [intOf]; omega
    · have : t = s := by omega
      subst this
      go_wp2
      go_ret
      have h2 := HO.out
      rw [List.take_of_length_le (by rw [encN_length]; exact Nat.le_refl _)] at h2
      exact ⟨_, rfl, h2, HK.out⟩
end Go.Proofs.YthnmjpohdlimiaaDoor
