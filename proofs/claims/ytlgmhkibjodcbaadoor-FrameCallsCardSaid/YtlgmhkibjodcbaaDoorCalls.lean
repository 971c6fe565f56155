/- hatchwaylaw13.FrameCalls: addresses are told in order. -/
import Derived.Test.YtlgmhkibjodcbaaDoorSizes
import Derived.Test.YtlgmhkibjodcbaaDoorOpen
import Derived.Deep.RegionLaw
import Derived.Deep.QuietTactic
import Derived.BigQuiet
namespace Go.Proofs.YtlgmhkibjodcbaaDoor
open Go.RowKit

/-- An address, its port of sixteen bits. -/
def low (x : Int × Int) : Int × Int := (x.1, bits .and .i64 x.2 65535)
def lows (xs : List (Int × Int)) : List (Int × Int) := xs.map low

theorem Rd.new_two (w : World) (u v : Value) (e : TypeId) : Rd (w.alloc (.cells #[u, v] e)) (some ⟨w.heap.size, 0, none⟩) [u, v] := fun _ =>
  ⟨w.heap.size, 0, rfl, by simp, fun j x hx => by
    rw [World.cell?_alloc_at _ _ _ _ rfl, Nat.zero_add]
    rcases j with _ | _ | j
    · simpa using hx
    · simpa using hx
    · simp at hx⟩
theorem Rd.of_own2 {w : World} {base e n c : Nat} {A : Option Addr} {xs : List Value} (h : w.ownsRow base e 2 (.slice A n c) n xs) : Rd w A xs := fun hx => by
  rcases h.2 with ⟨hv, hn⟩ | ⟨g, cap, cur, hv, _, hg, _, _, _, ht⟩
  · exact absurd (by have := h.1; rw [hn] at this; exact List.eq_nil_of_length_eq_zero (by simpa using this)) hx
  · injection hv with hA _ _
    refine ⟨g, 0, hA, (Array.getElem?_eq_some_iff.1 hg).1, fun j u hu => ?_⟩
    rw [cell_of_row _ _ _ _ _ _ hg, Nat.zero_add, ← Array.getElem?_toList]
    rw [← ht, List.getElem?_take] at hu
    split at hu
    · exact hu
    · cases hu
theorem run_build_call (A : Option Addr) (n c : Nat) (w : World) : (Instr.build 33 #[(0, .int .i64 3), (3, .slice A n c)]).run Tryd.prog w = .ok (.agg ({ Fr.new 3 with sa := .slice A n c } : Fr).cells) w := by kernel_rfl
theorem right_call (sa : Value) (L : List (Int × Int)) (h8 : L.length ≤ 8) (hin : ∀ x ∈ L, 0 ≤ x.1 ∧ x.1 < 4294967296 ∧ 0 ≤ x.2 ∧ x.2 < 65536) : rightF { Fr.new 3 with sa := sa } L [] = true := by
  have hp : L.all (fun x => portB x.2) = true := by
    rw [List.all_eq_true]; intro x hx; have := hin x hx; simp [portB]; omega
  have hl : (encF { Fr.new 3 with sa := sa } L []).length ≤ 1500 := by
    simp only [encF, encH, Fr.new, List.length_cons, List.length_append, List.append_nil]
    simp [hasOf, encN_length, encAs_length]; omega
  unfold rightF
  rw [hp, decide_eq_true hl]
  simp [isKind, portB, Fr.new, h8, emptyF, hasOf, zeros]
set_option maxRecDepth 100000 in
set_option maxHeartbeats 4000000 in
theorem calls_true (A : Option Addr) (c : Nat) (xs : List (Int × Int)) (w : World) (hL : Laid w) (hr : Rd w A (avs xs)) (hc : xs.length ≤ c) (hct : c ≤ maxLen) (hin : AddrsIn xs) :
    Calls Tryd.prog 9 #[.slice A xs.length c] w fun x w' => x = .returned (.bool true) ∧ Kept [] w w' := by
  have hxs : xs.length ≤ 9223372036854775807 := by unfold maxLen at hct; omega
  obtain ⟨i0, hi, hz0, hz1, hz2⟩ := info_parts info_addr
  have HL := Lib.hid hL; have HR := Lib.hid hr; have HIN := Lib.hid hin
  clear hL hr hin
  go_enter Tryd.func9, Tryd.ntmps9
  go_wp2_with fail
  refine (shown_true w HL.out).mono ?_
  rintro x w1 ⟨rfl, hk1⟩
  have HK1 := Lib.hid hk1
  clear hk1
  go_wp2
  go_loopw [4, 5] (fun v i wr => ∃ t : Nat, t ≤ xs.length ∧ t ≤ 8 ∧ i = .int .i64 t ∧ Hid (wr.ownsRow w.heap.size 26 2 v t (avs (lows (xs.take t)))) ∧ Hid (Kept [] w wr)) (fun _ i _ => 8 - (intOf i).toNat)
  case atStart => exact ⟨0, Nat.zero_le _, by decide, rfl, ⟨by simp [lows, avs], .inl ⟨rfl, by simp [lows, avs]⟩⟩, HK1.out⟩
  case round =>
    obtain ⟨t, ht, ht8, rfl, HO, HK⟩ := hrel
    by_cases hlt : t < xs.length ∧ t < 8
    · obtain ⟨hlt, hl8⟩ := hlt
      have hne : 0 < (avs xs).length := by rw [avs_length]; omega
      obtain ⟨b, off, hA, hb, hcell⟩ := (HR.out.kept HK.out (by simp)).at_ (k := 0) hne
      have hg := avs_get xs t hlt
      have x0 := hcell _ _ hg.1
      have x1 := hcell _ _ hg.2
      obtain ⟨⟨h, p⟩, hx⟩ : ∃ x : Int × Int, xs[t]?.getD (0, 0) = x := ⟨_, rfl⟩
      rw [hx, show off + 2 * t = off + t * 2 by omega] at x0
      rw [hx, show off + (2 * t + 1) = off + t * 2 + 1 by omega] at x1
      have hm : 0 ≤ bits .and .i64 p 65535 ∧ bits .and .i64 p 65535 ≤ 65535 := by rw [and_65535]; omega
      have HX := Lib.hid hx
      subst hA
      clear hcell hg hx
      have hsz : w.heap.size ≤ wr.heap.size := HK.out.size
      go_wp2_with fail
      go_region_law (refine step_append_rd _ rfl (.tmp 22) (.tmp 35) 27 rfl w.heap.size 26 i0 _ 2 16 Tryd.underlying27 hi hz0 hz1 hz2 rfl (by decide) u4 t _ rfl (HO.out.alloc _) _ 1 1 [.int .u32 h, .int .i64 (bits .and .i64 p 65535)] rfl rfl (Rd.new_two _ _ _ _) (by simp [Value.oneCell']) (by unfold maxLen; omega) (by omega) (by simp; omega) ?_; intro v9 w9 hown9 hg9 hrow9; have HO9 := Lib.hid hown9; have HK9 := Lib.hid (((HK.out.alloc (.cells #[.int .u32 h, .int .i64 (bits .and .i64 p 65535)] 26)).drew).grown hg9 (fun k hk hlt => by have := HO.out.lt k hk; omega)); clear hown9 hg9 hrow9)
      all_goals
        have HO10 : Hid (w9.ownsRow w.heap.size 26 2 v9 (t + 1) (avs (lows (xs.take (t + 1))))) := by
          have e : lows (xs.take (t + 1)) = lows (xs.take t) ++ [(h, bits .and .i64 p 65535)] := by
            rw [List.take_succ_eq_append_getElem hlt]
            have := HX.out
            rw [List.getElem?_eq_getElem hlt, Option.getD_some] at this
            simp [lows, low, this]
          show w9.ownsRow _ _ _ _ _ _
          rw [e, avs_append]
          exact HO9.out
        go_wp2
        go_roundw
        case rel => exact ⟨t + 1, by omega, by omega, by go_num, HO10, HK9⟩
        case measure => simp [intOf]; omega
    · have HNL : Hid (lows (xs.take 8) = lows (xs.take t)) := by
        show _ = _
        congr 1
        rcases (show t = 8 ∨ t = xs.length by omega) with e | e
        · rw [e]
        · rw [e, List.take_of_length_le (by omega), List.take_of_length_le (by omega)]
      obtain ⟨L, hLe⟩ : ∃ L, L = lows (xs.take t) := ⟨_, rfl⟩
      have hLl : L.length = t := by rw [hLe]; simp [lows]; omega
      have hLin : ∀ x ∈ L, 0 ≤ x.1 ∧ x.1 < 4294967296 ∧ 0 ≤ x.2 ∧ x.2 < 65536 := by
        rw [hLe]
        intro x hx
        obtain ⟨y, hy, rfl⟩ := List.mem_map.1 hx
        have := HIN.out y (List.mem_of_mem_take hy)
        refine ⟨this.1, this.2.1, ?_⟩
        show 0 ≤ bits .and .i64 y.2 65535 ∧ bits .and .i64 y.2 65535 < 65536
        rw [and_65535]; omega
      rw [← hLe] at HO HNL
      have hown := HO.out
      obtain ⟨A1, c1, rfl⟩ := own_slice hown
      have hal := own_addr hown
      have hrd := Rd.of_own2 hown
      clear hLe hown HO
      subst hLl
      have hg1 : Good wr { Fr.new 3 with sa := .slice A1 L.length c1 } A1 none c1 0 L [] :=
        ⟨rfl, rfl, rfl, rfl, hrd, Rd.nil, fun a e => (hal a e).2, by simp, by simp [Fr.new], by simp [Fr.new], by simp [Fr.new], by simp [Fr.new]⟩
      obtain ⟨F, hF⟩ : ∃ F : Fr, F = { Fr.new 3 with sa := .slice A1 L.length c1 } := ⟨_, rfl⟩
      have HB := Lib.hid (show ∀ w', (Instr.build 33 #[(0, .int .i64 3), (3, .slice A1 L.length c1)]).run Tryd.prog w' = .ok (.agg F.cells) w' from fun w' => by rw [hF]; exact run_build_call _ _ _ _)
      rw [← hF] at hg1
      have HRI := Lib.hid (show rightF F L [] = true from by rw [hF]; exact right_call _ L ht8 hLin)
      have hln : (encF F L []).length = 2 + 6 * L.length := by
        rw [hF]
        simp only [encF, encH, Fr.new, List.length_cons, List.length_append, List.append_nil]
        simp [hasOf, encN_length, encAs_length]; omega
      have HLI := Lib.hid hLin; have HG := Lib.hid hg1; have HAL := Lib.hid hal; have HLN := Lib.hid hln
      have HH : Hid (HostsOk L) := hostsOk_of hLin
      have hsz : w.heap.size ≤ wr.heap.size := HK.out.size
      have HFI := Lib.hid hF
      clear hLin hg1 hal hrd hF hln HNL
      by_cases hlt' : L.length < xs.length
      all_goals
        go_upto_region 7 with fail
        go_wp2_with (first
          | ((with_reducible show wpList _ _ _ (⟨some 39, Op.build _ _, _, _, _, _⟩ :: _) _ _); refine wpList_build_known _ 33 _ rfl rfl #[(0, .int .i64 3), (3, .slice A1 L.length c1)] (by simp only [List.map_toArray, List.map_cons, List.map_nil]; rfl) _ (HB.out _) ?_))
        refine (encode_yes F A1 none c1 0 L [] wr (HL.out.kept HK.out (by simp)) HG.out HH.out (by omega) (by simp) HRI.out).mono ?_
        rintro x w3 ⟨v3, rfl, hown3, hk3⟩
        obtain ⟨A3, c3, rfl⟩ := own_slice hown3
        have hcc := own_cap hown3
        have HR3 := Lib.hid (Rd.of_own hown3)
        have HG3 := Lib.hid (HG.out.kept hk3)
        have hk3' := Lib.hid hk3
        have HK3 := Lib.hid (HK.out.trans hk3 (by simp))
        rw [HLN.out]
        rw [HLN.out] at hcc
        obtain ⟨hc31, hc32⟩ := hcc
        clear hown3 hk3
        go_wp2_with fail
        refine (back_any HRI.out HG.out.id HG.out.key HG.out.h0 HG.out.h1 HG.out.n0 HG.out.n1 HH.out A3 c3 _ w3 HLN.out.symm (HL.out.kept HK3.out (by simp)) HR3.out hc31 hc32).mono ?_
        rintro x w4 ⟨hk4, B1, B2, j1, j2, rfl, hg4, hb1, hb2⟩
        have hsz4 := hk4.size
        obtain ⟨F4, hF4⟩ : ∃ F4 : Fr, F4 = { F with sa := .slice B1 L.length j1, sd := .slice B2 ([] : List UInt8).length j2 } := ⟨_, rfl⟩
        rw [← hF4] at hg4 ⊢
        have HSZ := Lib.hid (Fr.size hg4.id hg4.key)
        have H1C := Lib.hid (Fr.one F4 (by rw [hg4.sa]; rfl) (by rw [hg4.sd]; rfl))
        have h15 : (w4.alloc (.cells F4.cells 33)).cell? ⟨w4.heap.size, 15, none⟩ = some (.slice B1 L.length j1) := by
          rw [World.cell?_alloc_at _ _ _ _ rfl, Fr.get_sa hg4.id hg4.key, hg4.sa]
        have HR4 := Lib.hid hg4.r1
        have HR5 := Lib.hid (HG.out.r1.kept (hk3'.out.trans hk4 (by simp)) (by simp))
        have HK4 := Lib.hid (HK3.out.trans hk4 (by simp))
        clear hk4 hg4 hF4 hb1 hb2
        go_wp2_with (first
          | ((with_reducible show wpList _ _ _ (⟨some 8, Op.alloc _, _, _, _, _⟩ :: _) _ _); refine wpList_alloc_known _ 33 rfl rfl _ (run_alloc_frame _) ?_)
          | ((with_reducible show wpList _ _ _ (⟨none, Op.store 33 (.tmp 8) (.tmp 46), _, _, _, _⟩ :: _) _ _); refine wpList_store_whole _ 33 (.tmp 8) (.tmp 46) rfl rfl w4.heap.size (by rfl) F4.cells (by rfl) _ _ (heap_alloc_new _ _) (HSZ.out.trans (Fr.new_size _).symm) (info_frame.trans (congrArg some HSZ.out.symm)) H1C.out _ (setRow_new _ _ _ _) ?_))
        obtain ⟨w5, hw5⟩ : ∃ w5, w5 = w4.alloc (.cells F4.cells 33) := ⟨_, rfl⟩
        rw [← hw5] at h15 ⊢
        have hk5 : Kept [] w4 w5 := by rw [hw5]; exact (Kept.refl [] w4).alloc _
        have HK5 := Lib.hid (HK4.out.trans hk5 (by simp))
        have HR6 := Lib.hid (HR4.out.kept hk5 (by simp))
        have HR7 := Lib.hid (HR5.out.kept hk5 (by simp))
        have hb5 : w4.heap.size < w5.heap.size := by rw [hw5]; simp
        have H15 := Lib.hid h15
        clear hw5 hk5 HR4 HR5 HK4 h15
        go_loopw [10] (fun i wr => ∃ t : Nat, t ≤ L.length ∧ i = .int .i64 t ∧ Hid (Kept [] w5 wr)) (fun i _ => L.length - (intOf i).toNat)
        case atStart => exact ⟨0, Nat.zero_le _, rfl, Kept.refl [] w5⟩
        case round =>
          obtain ⟨t, ht, rfl, HKr⟩ := hrel
          by_cases hlt2 : t < L.length
          · have hne : 0 < (avs L).length := by rw [avs_length]; omega
            obtain ⟨ba, oa, hA, _, hcell⟩ := (HR6.out.kept HKr.out (by simp)).at_ (k := 0) hne
            obtain ⟨bb, ob, hB, _, hcell'⟩ := (HR7.out.kept HKr.out (by simp)).at_ (k := 0) hne
            have hg := avs_get L t hlt2
            have x0 := hcell _ _ hg.1
            have x1 := hcell _ _ hg.2
            have y0 := hcell' _ _ hg.1
            have y1 := hcell' _ _ hg.2
            obtain ⟨⟨h, p⟩, hx⟩ : ∃ x : Int × Int, L[t]?.getD (0, 0) = x := ⟨_, rfl⟩
            rw [hx, show oa + 2 * t = oa + t * 2 by omega] at x0
            rw [hx, show oa + (2 * t + 1) = oa + t * 2 + 1 by omega] at x1
            rw [hx, show ob + 2 * t = ob + t * 2 by omega] at y0
            rw [hx, show ob + (2 * t + 1) = ob + t * 2 + 1 by omega] at y1
            have z15 := (HKr.out.cell (p := ⟨w4.heap.size, 15, none⟩) hb5 (by simp)).trans H15.out
            subst hA
            subst hB
            clear hcell hcell' hg hx
            go_wp2_with fail
            have hti : (t : Int) < (L.length : Int) := by omega
            have ht0 : (0 : Int) ≤ (t : Int) := by omega
            go_quiet (fail)
            go_wp2
            go_roundw
            case rel => exact ⟨t + 1, by omega, by go_num, HKr.out.drewN _⟩
            case measure => simp [intOf]; omega
          · go_wp2
            go_ret
            exact ⟨rfl, HK5.out.trans HKr.out (by simp)⟩
end Go.Proofs.YtlgmhkibjodcbaaDoor
