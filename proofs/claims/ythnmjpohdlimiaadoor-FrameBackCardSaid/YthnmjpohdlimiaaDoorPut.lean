/- slices.Clone, slices.Reverse of bytes; words.Put. -/
import Derived.Test.YthnmjpohdlimiaaDoorRows
import Derived.Test.YthnmjpohdlimiaaDoorApp
namespace Go.Proofs.YthnmjpohdlimiaaDoor
open Go.RowKit

theorem info_byte : (Tryd.prog.info? 5).map (fun i => (i.zero, i.size, i.bytes)) = some (some (.int .u8 0), 1, 1) := by kernel_rfl

set_option maxHeartbeats 400000 in
/-- slices.Clone of bytes. -/
theorem clone_any (A : Option Addr) (c : Nat) (l : List UInt8) (w : World) (h5 : l.length ≤ 140737488355328) (hr : Rd w A (bvs l)) :
    Calls Tryd.prog 35 #[.slice A l.length c] w fun e w' => ∃ v, e = .returned v ∧ w'.ownsRow w.heap.size 5 1 v l.length (bvs l) ∧ Kept [] w w' := by
  have qT : ∀ (w : World) (a : Option Addr) (n c n' c' : Nat), (binOp .eql 31 (.slice a n c) (.slice none n' c')).run Tryd.prog w = .ok (.bool a.isNone) w :=
    fun w a n c n' c' => Lib.run_eql_slice_nil w _ _ a n c n' c' Tryd.underlying31
  cases A with
  | none =>
    have hl : l = [] := by have := hr.none_nil; simpa [bvs] using this
    subst hl
    go_enter Tryd.func35, Tryd.ntmps35
    go_wp2
    go_ret
    exact ⟨_, rfl, World.ownsRow_nil _ _ _ _, Kept.refl _ _⟩
  | some ad =>
    obtain ⟨i0, hi, hz0, hz1, hz2⟩ := info_parts info_byte
    have hmade := World.ownsRow_made (e := 5) (size := 1) w #[] 0 (Nat.le_refl _) (by simp) (by simp)
    go_enter Tryd.func35, Tryd.ntmps35
    go_wp2_with (at_builtin; refine wpList_append_rd _ rfl _ _ 31 rfl w.heap.size 5 i0 (.int .u8 0) 1 1 Tryd.underlying31 hi hz0 hz1 hz2 rfl (by decide) _ _ _ rfl hmade _ _ _ (bvs l) rfl ?c1 (hr.alloc _) (bvs_one l) ?c4 ?c5 ?c6 ?_)
    case c1 => simp
    case c4 => unfold maxLen; omega
    case c5 => omega
    case c6 => simp
    intro v1 w1 hown1 hg1 _
    go_wp2
    go_ret
    refine ⟨_, rfl, by simpa using hown1, ((Kept.refl [] w).alloc _).grown hg1 ?_⟩
    intro k hk
    simp [Value.ownBlock] at hk
    omega

set_option maxHeartbeats 400000 in
/-- slices.Reverse of bytes: nothing to do. -/
theorem reverse_few (A : Option Addr) (n c : Nat) (w : World) (hn : n ≤ 1) :
    Calls Tryd.prog 36 #[.slice A n c] w fun e w' => e = .returned (.tuple #[]) ∧ w = w' := by
  go_enter Tryd.func36, Tryd.ntmps36
  go_wp2
  refine wp_loop_rounds 1 ?_
  rw [rounds_succ]
  go_wp2
  go_end0
  exact ⟨rfl, rfl⟩

/-- One exchange of a reversal. -/
theorem rev_step (cs cur : Array Value) (off n k : Nat) (u v : Value) (hs : cur.size = cs.size) (hn : off + n ≤ cs.size) (hlt : 2 * k + 1 < n)
    (hP : ∀ p, cur[p]? = if (off ≤ p ∧ p < off + k) ∨ (off + n - k ≤ p ∧ p < off + n) then cs[2 * off + n - 1 - p]? else cs[p]?)
    (hu : cur[off + k]? = some u) (hv : cur[off + (n - 1 - k)]? = some v) (p : Nat) :
    ((cur.setIfInBounds (off + k) v).setIfInBounds (off + (n - 1 - k)) u)[p]? =
      if (off ≤ p ∧ p < off + (k + 1)) ∨ (off + n - (k + 1) ≤ p ∧ p < off + n) then cs[2 * off + n - 1 - p]? else cs[p]? := by
  rw [Array.getElem?_setIfInBounds, Array.getElem?_setIfInBounds]
  rw [hP, if_neg (by omega)] at hu hv
  by_cases h1 : off + (n - 1 - k) = p
  · subst h1
    simp only [Array.size_setIfInBounds, if_true]
    rw [if_pos (by omega), if_pos (by omega), ← hu]
    congr 1
    omega
  · rw [if_neg h1]
    by_cases h2 : off + k = p
    · subst h2
      simp only [if_true]
      rw [if_pos (by omega), if_pos (by omega), ← hv]
      congr 1
      omega
    · rw [if_neg h2, hP]
      by_cases h3 : (off ≤ p ∧ p < off + k) ∨ (off + n - k ≤ p ∧ p < off + n)
      · rw [if_pos h3, if_pos (by omega)]
      · rw [if_neg h3, if_neg (by omega)]

set_option maxHeartbeats 1000000 in
/-- slices.Reverse of bytes that lie in a block. -/
theorem reverse_block (g off n c : Nat) (cs : Array Value) (w : World) (hn : off + n ≤ cs.size) (hsz : n ≤ 140737488355328) (hg : w.heap[g]? = some (.cells cs 5 (0, 0)))
    (hone : ∀ (j : Nat) (u : Value), off ≤ j → j < off + n → cs[j]? = some u → ∃ x : Int, u = .int .u8 x) (h2 : 2 ≤ n) :
    Calls Tryd.prog 36 #[.slice (some ⟨g, off, none⟩) n c] w fun e w' => e = .returned (.tuple #[]) ∧
      (∃ cur : Array Value, w'.heap[g]? = some (.cells cur 5 (0, 0)) ∧ cur.size = cs.size ∧ ∀ p, cur[p]? = if off ≤ p ∧ p < off + n then cs[2 * off + n - 1 - p]? else cs[p]?) ∧ Kept [g] w w' := by
  have HG := Lib.hid hg
  have HO := Lib.hid hone
  clear hg hone
  go_enter Tryd.func36, Tryd.ntmps36
  go_wp2
  go_loopw [2, 3] (fun i j wr => ∃ (k : Nat) (cur : Array Value), 2 * k ≤ n ∧ i = .int .i64 k ∧ j = .int .i64 ((n : Int) - 1 - k) ∧ Hid (wr.heap[g]? = some (.cells cur 5 (0, 0))) ∧ Hid (cur.size = cs.size) ∧
      Hid (∀ p, cur[p]? = if (off ≤ p ∧ p < off + k) ∨ (off + n - k ≤ p ∧ p < off + n) then cs[2 * off + n - 1 - p]? else cs[p]?) ∧ Kept [g] w wr)
    (fun i _ _ => n - (intOf i).toNat)
  case atStart => exact ⟨0, cs, by omega, rfl, by simp, HG.out, rfl, fun p => by rw [if_neg (by omega)], Kept.refl _ _⟩
  case round =>
    obtain ⟨k, cur, hk, rfl, rfl, HC, HS, HP, hkept⟩ := hrel
    by_cases hlt : 2 * k + 1 < n
    · have hcs : ∀ (j : Nat) (u : Value), off ≤ j → j < off + n → cur[j]? = some u → ∃ x : Int, u = .int .u8 x := fun j u h1 h2 hu => by
        rw [HP.out j] at hu
        split at hu
        · exact HO.out _ _ (by omega) (by omega) hu
        · exact HO.out _ _ h1 h2 hu
      obtain ⟨u, hu⟩ : ∃ u : Int, cur[off + k]? = some (.int .u8 u) := by
        obtain ⟨u, hu⟩ : ∃ u, cur[off + k]? = some u := ⟨_, Array.getElem?_eq_getElem (by have := HS.out; omega)⟩
        obtain ⟨x, rfl⟩ := hcs _ _ (by omega) (by omega) hu
        exact ⟨x, hu⟩
      obtain ⟨v, hv⟩ : ∃ v : Int, cur[off + (n - 1 - k)]? = some (.int .u8 v) := by
        obtain ⟨u, hu⟩ : ∃ u, cur[off + (n - 1 - k)]? = some u := ⟨_, Array.getElem?_eq_getElem (by have := HS.out; omega)⟩
        obtain ⟨x, rfl⟩ := hcs _ _ (by omega) (by omega) hu
        exact ⟨x, hu⟩
      have c1 : wr.cell? ⟨g, off + k, none⟩ = some (.int .u8 u) := (cell_of_row wr g _ cur _ _ HC.out).trans hu
      have c2 : wr.cell? ⟨g, off + (n - 1 - k), none⟩ = some (.int .u8 v) := (cell_of_row wr g _ cur _ _ HC.out).trans hv
      have f1 : wr.frozen? ⟨g, off + k, none⟩ = false := frozen_of_row wr g _ cur _ HC.out
      have f2 : wr.frozen? ⟨g, off + (n - 1 - k), none⟩ = false := frozen_of_row wr g _ cur _ HC.out
      have HU := Lib.hid hu
      have HV := Lib.hid hv
      clear hu hv hcs
      go_wp2
      go_region
      go_wp2
      go_roundw
      case rel =>
        have e1 := heap_setCell_same wr g (off + k) cur _ (.int .u8 v) HC.out
        have e2 := heap_setCell_same _ g (off + (n - 1 - k)) _ _ (.int .u8 u) e1
        refine ⟨k + 1, _, by omega, by go_num, by go_num, e2, ?_, rev_step cs cur off n k _ _ HS.out hn hlt HP.out HU.out HV.out, ((hkept.setCell (by simp) _).setCell (by simp) _).drew⟩
        exact (Array.size_setIfInBounds).trans ((Array.size_setIfInBounds).trans HS.out)
      case measure => simp [intOf]; omega
    · go_wp2
      go_end0
      refine ⟨rfl, ⟨cur, HC.out, HS.out, fun p => ?_⟩, hkept⟩
      rw [HP.out p]
      by_cases h : off ≤ p ∧ p < off + n
      · rw [if_pos h]
        by_cases h' : off ≤ p ∧ p < off + k ∨ off + n - k ≤ p ∧ p < off + n
        · rw [if_pos h']
        · rw [if_neg h', show 2 * off + n - 1 - p = p by omega]
      · rw [if_neg h, if_neg (by omega)]

/-- .. of the end of an owned row. -/
theorem reverse_own (base g cap c m : Nat) (l e : List UInt8) (w : World) (hm : e.length = m) (hsz : l.length + m ≤ 140737488355328)
    (hown : w.ownsRow base 5 1 (.slice (some ⟨g, 0, none⟩) (l.length + m) cap) (l.length + m) (bvs (l ++ e))) :
    Calls Tryd.prog 36 #[.slice (some ⟨g, l.length, none⟩) m c] w fun x w' => x = .returned (.tuple #[]) ∧
      w'.ownsRow base 5 1 (.slice (some ⟨g, 0, none⟩) (l.length + m) cap) (l.length + m) (bvs (l ++ e.reverse)) ∧ Kept [g] w w' := by
  subst hm
  by_cases h1 : e.length ≤ 1
  · refine (reverse_few _ _ _ _ h1).mono ?_
    rintro x w' ⟨rfl, rfl⟩
    have : e.reverse = e := by
      match e, h1 with
      | [], _ => rfl
      | [x], _ => rfl
    rw [this]
    exact ⟨rfl, hown, Kept.refl _ _⟩
  · obtain ⟨g', cap', cur, hv, hb, hg, hhg, hn, hm, hs, ht⟩ := (own_form hown).resolve_left (by rintro ⟨h, _⟩; cases h)
    injection hv with hA hl hc
    injection hA with hA
    injection hA with hA _
    subst hA hc
    have hget : ∀ j, j < l.length + e.length → cur[j]? = (bvs (l ++ e))[j]? := fun j hj => by
      rw [← ht, List.getElem?_take, if_pos hj]
      simp
    refine (reverse_block g l.length e.length c cur w (by omega) (by omega) hhg (fun j u h1 h2 hu => ?_) (by omega)).mono ?_
    · rw [hget j h2] at hu
      simp only [bvs, List.getElem?_map, Option.map_eq_some_iff] at hu
      obtain ⟨b, _, rfl⟩ := hu
      exact ⟨_, rfl⟩
    · rintro x w' ⟨rfl, ⟨cur', hc', hs', hp⟩, hk⟩
      refine ⟨rfl, ⟨by simp, .inr ⟨g, cap, cur', rfl, hb, hc', hn, hm, by omega, ?_⟩⟩, hk⟩
      apply List.ext_getElem?
      intro j
      rw [List.getElem?_take, Nat.mul_one]
      by_cases hj : j < l.length + e.length
      · rw [if_pos hj, Array.getElem?_toList, hp j]
        by_cases hj' : l.length ≤ j
        · rw [if_pos (by omega), hget _ (by omega)]
          simp only [bvs, List.getElem?_map]
          rw [List.getElem?_append_right (by omega), List.getElem?_append_right hj', List.getElem?_reverse (by omega)]
          congr 2
          omega
        · rw [if_neg (by omega), hget _ hj]
          simp only [bvs, List.getElem?_map]
          rw [List.getElem?_append_left (by omega), List.getElem?_append_left (by omega)]
      · rw [if_neg hj, List.getElem?_eq_none (by simp; omega)]

/-- The bytes of a number. -/
def encL (n s : Nat) : List UInt8 := (List.range s).map fun i => UInt8.ofNat (n / 256 ^ i)
def encN (n s : Nat) (big : Bool) : List UInt8 := if big then (encL n s).reverse else encL n s
theorem encL_length (n s : Nat) : (encL n s).length = s := by simp [encL]
theorem encN_length (n s : Nat) (big : Bool) : (encN n s big).length = s := by unfold encN; split <;> simp [encL_length]
def filled (l : List UInt8) (n s k : Nat) : List UInt8 := l ++ ((encL n s).take k ++ List.replicate (s - k) 0)
theorem filled_zero (l : List UInt8) (n s : Nat) : filled l n s 0 = l ++ List.replicate s 0 := by simp [filled]
theorem filled_all (l : List UInt8) (n s : Nat) : filled l n s s = l ++ encL n s := by simp [filled, List.take_of_length_le, encL_length]
theorem filled_length (l : List UInt8) (n s k : Nat) (hk : k ≤ s) : (filled l n s k).length = l.length + s := by simp [filled, encL_length]; omega
theorem filled_set (l : List UInt8) (n s k : Nat) (hk : k < s) : (filled l n s k).set (l.length + k) (UInt8.ofNat (n / 256 ^ k)) = filled l n s (k + 1) := by
  have h1 : ((encL n s).take k).length = k := by simp [encL_length]; omega
  obtain ⟨r, hr⟩ : ∃ r, s - k = r + 1 := ⟨s - k - 1, by omega⟩
  have h2 : (encL n s).take (k + 1) = (encL n s).take k ++ [UInt8.ofNat (n / 256 ^ k)] := by
    rw [List.take_succ_eq_append_getElem (by rw [encL_length]; exact hk)]
    simp [encL]
  unfold filled
  rw [List.set_append, if_neg (by omega), show l.length + k - l.length = k by omega, List.set_append, if_neg (by omega), h1, Nat.sub_self, h2, show s - (k + 1) = r by omega, hr]
  simp [List.replicate_succ]
theorem bvs_set (l : List UInt8) (j : Nat) (b : UInt8) : (bvs l).set j (.int .u8 b.toNat) = bvs (l.set j b) := by simp [bvs, List.map_set]
theorem bvs_zeros (s : Nat) : List.replicate s (Value.int .u8 0) = bvs (List.replicate s 0) := by simp [bvs]
theorem byte_of_shift (n k : Nat) : ((n : Int) / 2 ^ (8 * k) % 256) = (((UInt8.ofNat (n / 256 ^ k)).toNat : Nat) : Int) := by
  have e : (2 : Int) ^ (8 * k) = ((256 ^ k : Nat) : Int) := by
    rw [show (256 : Nat) = 2 ^ 8 from rfl, ← Nat.pow_mul]
    exact (Int.natCast_pow 2 (8 * k)).symm
  rw [e, ← Int.natCast_ediv, UInt8.toNat_ofNat']
  omega

set_option maxHeartbeats 1000000 in
/-- words.Put. -/
theorem put_nat (A : Option Addr) (c : Nat) (l : List UInt8) (s n : Nat) (big : Bool) (w : World) (hs : s ≤ 8) (_hn : n < 18446744073709551616) (h5 : l.length + 8 ≤ 140737488355328) (hr : Rd w A (bvs l)) :
    Calls Tryd.prog 34 #[.slice A l.length c, .int .i64 s, .int .u64 n, .bool big] w fun x w' => ∃ v, x = .returned v ∧ w'.ownsRow w.heap.size 5 1 v (l.length + s) (bvs (l ++ encN n s big)) ∧ Kept [] w w' := by
  obtain ⟨i0, hi, hz0, hz1, hz2⟩ := info_parts info_byte
  go_enter Tryd.func34, Tryd.ntmps34
  go_wp2_with fail
  refine (clone_any A c l w (by omega) hr).mono ?_
  rintro x w1 ⟨v1, rfl, hown1, hk1⟩
  go_wp2_with (at_builtin; refine wpList_append_zeros _ rfl (.tmp 16) (.tmp 17) 31 3 rfl w.heap.size 5 i0 (.int .u8 0) 1 Tryd.underlying31 Tryd.underlying3 hi hz0 hz1 hz2 rfl rfl v1 _ _ rfl hown1 s rfl ?c4 ?c5 ?c6 ?_)
  case c4 => unfold maxLen; omega
  case c5 => omega
  case c6 => exact hk1.size
  intro v2 w2 hown2 hg2 hat
  have hk2 : Kept [] w w2 := hk1.grown hg2 (fun k hk hlt => by have := hown1.lt k hk; omega)
  rw [bvs_zeros, ← bvs_append, ← filled_zero l n s] at hown2
  clear hat hg2 hown1 hr hk1
  rcases own_form hown2 with ⟨rfl, h0, _⟩ | ⟨g, cap, cur, rfl, hbg, hgs, _, hnc, hcm, _, _⟩
  · have hl : l = [] := List.eq_nil_of_length_eq_zero (by omega)
    have hs0 : s = 0 := by omega
    subst hl hs0
    cases big
    · go_wp2
      refine wp_loop_rounds 1 ?_
      rw [rounds_succ]
      go_wp2
      go_ret
      exact ⟨_, rfl, hown2, hk2⟩
    · go_wp2
      refine wp_loop_rounds 1 ?_
      rw [rounds_succ]
      go_wp2_with fail
      refine (reverse_few _ _ _ _ (by omega)).mono ?_
      rintro x w3 ⟨rfl, rfl⟩
      go_wp2
      go_ret
      exact ⟨_, rfl, hown2, hk2⟩
  · unfold maxLen at hcm
    have H2 := Lib.hid hown2
    have HK := Lib.hid hk2
    clear hown2 hk2
    by_cases hs0 : s = 0
    · subst hs0
      have h3 : w2.ownsRow w.heap.size 5 1 (.slice (some ⟨g, 0, none⟩) l.length cap) l.length (bvs (l ++ encN n 0 big)) := by
        simpa [filled, encN, encL] using H2.out
      have H3 := Lib.hid h3
      clear h3
      clear H2
      by_cases hcap : cap = l.length
      all_goals
        first | subst hcap | skip
        cases big
        · go_wp2
          refine wp_loop_rounds 1 ?_
          rw [rounds_succ]
          go_wp2
          go_ret
          exact ⟨_, rfl, H3.out, HK.out⟩
        · go_wp2
          refine wp_loop_rounds 1 ?_
          rw [rounds_succ]
          go_wp2_with fail
          refine (reverse_few _ _ _ _ (by omega)).mono ?_
          rintro x w3 ⟨rfl, rfl⟩
          go_wp2
          go_ret
          exact ⟨_, rfl, H3.out, HK.out⟩
    · have hs1 : 0 < s := by omega
      have hroom : l.length < cap := by omega
      clear hs0
      go_wp2
      go_loopw [11, 25] (fun _ j wr => ∃ k : Nat, k ≤ s ∧ j = .int .i64 k ∧ Hid (wr.ownsRow w.heap.size 5 1 (.slice (some ⟨g, 0, none⟩) (l.length + s) cap) (l.length + s) (bvs (filled l n s k))) ∧ Hid (Kept [] w wr))
        (fun _ j _ => s - (intOf j).toNat)
      case atStart => exact ⟨0, Nat.zero_le _, rfl, H2.out, HK.out⟩
      case round =>
        obtain ⟨k, hk, rfl, HO, HKr⟩ := hrel
        by_cases hlt : k < s
        · have hx := HO.out.cellAt (l.length + k) (by omega)
          have hf := HO.out.frozenAt (l.length + k)
          rw [bvs_get _ _ (by rw [filled_length _ _ _ _ hk]; omega)] at hx
          have hv := byte_of_shift n k
          have HV := Lib.hid hv
          have HS := Lib.hid (filled_set l n s k hlt)
          clear hv
          go_wp2
          go_roundw
          case rel =>
            have h2 := (HO.out.stored (l.length + k) (.int .u8 (UInt8.ofNat (n / 256 ^ k)).toNat)).1
            rw [bvs_set, HS.out] at h2
            rw [HV.out]
            exact ⟨k + 1, by omega, by go_num, h2, HKr.out.setCell (fun h => by have h' : g < w.heap.size := h; omega) _⟩
          case measure => simp [intOf]; omega
        · have : k = s := by omega
          subst this
          cases big
          · go_wp2
            go_ret
            have h2 := HO.out
            rw [filled_all] at h2
            exact ⟨_, rfl, h2, HKr.out⟩
          · go_wp2_with fail
            have h2 := HO.out
            rw [filled_all] at h2
            refine (reverse_own w.heap.size g cap (cap - l.length) k l (encL n k) wr (encL_length n k) (by omega) h2).mono ?_
            rintro x w3 ⟨rfl, h3, hk3⟩
            go_wp2
            go_ret
            exact ⟨_, rfl, h3, HKr.out.trans hk3 (fun j hj hm => by simp at hm; omega)⟩

/-- .. its size and its number as they come. -/
theorem put_any (A : Option Addr) (c : Nat) (l : List UInt8) (s n : Int) (big : Bool) (w : World) (h0 : 0 ≤ s) (hs : s ≤ 8) (h1 : 0 ≤ n) (hn : n < 18446744073709551616) (h5 : l.length + 8 ≤ 140737488355328) (hr : Rd w A (bvs l)) :
    Calls Tryd.prog 34 #[.slice A l.length c, .int .i64 s, .int .u64 n, .bool big] w fun x w' => ∃ v, x = .returned v ∧ w'.ownsRow w.heap.size 5 1 v (l.length + s.toNat) (bvs (l ++ encN n.toNat s.toNat big)) ∧ Kept [] w w' := by
  obtain ⟨s, rfl⟩ := Int.eq_ofNat_of_zero_le h0
  obtain ⟨n, rfl⟩ := Int.eq_ofNat_of_zero_le h1
  exact put_nat A c l s n big w (by omega) (by omega) h5 hr
end Go.Proofs.YthnmjpohdlimiaaDoor
