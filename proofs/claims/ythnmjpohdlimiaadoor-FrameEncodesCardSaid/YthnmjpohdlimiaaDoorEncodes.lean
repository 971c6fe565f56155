/- hatchwaylaw13.FrameEncodes: a frame has the bytes that the document says, if it is right. -/
import Derived.Test.YthnmjpohdlimiaaDoorRefOf
import Derived.Test.YthnmjpohdlimiaaDoorRefRight
import Derived.Test.YthnmjpohdlimiaaDoorOpen
namespace Go.Proofs.YthnmjpohdlimiaaDoor
open Go.RowKit

theorem avs_take (xs : List (Int × Int)) : ∀ n, avs (xs.take n) = (avs xs).take (n * 2) := by
  induction xs with
  | nil => intro n; simp [avs]
  | cons x xs ih =>
    intro n
    rcases n with _ | n
    · simp [avs]
    · rw [List.take_succ_cons, avs_cons, avs_cons, ih, show (n + 1) * 2 = n * 2 + 1 + 1 by omega, List.take_succ_cons, List.take_succ_cons]
theorem good_cut {w : World} {F : Fr} {A1 A2 : Option Addr} {k1 k2 : Nat} {xs : List (Int × Int)} {ds : List UInt8} (h : Good w F A1 A2 k1 k2 xs ds) :
    Good w (cutFr F A1 A2 (xs.take 10).length k1 (ds.take 1600).length k2) A1 A2 k1 k2 (xs.take 10) (ds.take 1600) := by
  refine ⟨h.id, h.key, rfl, rfl, ?_, ?_, h.a1, h.a2, h.h0, h.h1, h.n0, h.n1⟩
  · have e := avs_take xs 10
    rw [e]
    exact h.r1.take 20
  · rw [← bvs_take]
    exact h.r2.take 1600
theorem Kept.rd0 {w w' : World} {A : Option Addr} {xs : List Value} (hk : Kept [] w w') (h : Rd w A xs) : Rd w' A xs := h.kept0 hk
/-- string(b). -/
theorem strS {w : World} {A : Option Addr} {cap : Nat} {L : List UInt8} (hr : Rd w A (bvs L)) : (convert 31 9 (.slice A L.length cap)).run Tryd.prog w = .ok (.string ⟨L.toArray⟩) w :=
  run_string_rd w _ _ 5 A cap L hr Tryd.underlying31 Tryd.underlying5 Tryd.underlying9
/-- What a boxed frame reads as, whole. -/
theorem frc {w : World} {q : Nat} {F : Fr} (h : FB w q F) : ∀ j u, F.list[j]? = some u → w.cell? ⟨q, 0 + j, none⟩ = some u := fun j u hu => by
  rw [Nat.zero_add, h.cell]; simpa [Fr.cells] using hu
theorem fri {F : Fr} (h1 : F.id.length = 12) (h2 : F.key.length = 32) : (Tryd.prog.info? 33).map (·.size) = some F.list.length := by
  rw [info_frame, ← Fr.size h1 h2]; rfl

set_option maxRecDepth 100000 in
set_option maxHeartbeats 4000000 in
theorem encodes_true (F : Fr) (A1 A2 : Option Addr) (k1 k2 : Nat) (xs : List (Int × Int)) (ds : List UInt8) (w : World) (hL : Laid w) (hg : Good w F A1 A2 k1 k2 xs ds) (hin : AddrsIn xs) (h1 : xs.length ≤ k1) (h2 : k1 ≤ maxLen) (h3 : ds.length ≤ k2) (h4 : k2 ≤ maxLen)
    (hp : -9223372036854775808 ≤ F.port ∧ F.port ≤ 9223372036854775807) :
    Calls Tryd.prog 3 #[.agg F.cells] w fun x w' => x = .returned (.bool true) ∧ Kept [] w w' := by
  obtain ⟨xs', hxs'⟩ : ∃ xs', xs' = xs.take 10 := ⟨_, rfl⟩
  obtain ⟨ds', hds'⟩ : ∃ ds', ds' = ds.take 1600 := ⟨_, rfl⟩
  obtain ⟨G, hG⟩ : ∃ G, G = cutFr F A1 A2 xs'.length k1 ds'.length k2 := ⟨_, rfl⟩
  have hgc := good_cut hg
  rw [← hxs', ← hds', ← hG] at hgc
  have hx10 : xs'.length ≤ 10 := by rw [hxs', List.length_take]; omega
  have hd16 : ds'.length ≤ 1600 := by rw [hds', List.length_take]; omega
  have hinc : AddrsIn xs' := by rw [hxs']; exact hin.take 10
  have hpc : -9223372036854775808 ≤ G.port ∧ G.port ≤ 9223372036854775807 := by rw [hG]; exact hp
  have hf0 : FB (w.alloc (.cells F.cells 33)) w.heap.size F := ⟨heap_alloc_new _ _, hg.id, hg.key⟩
  have hk0 : Kept [] w (w.alloc (.cells F.cells 33)) := (Kept.refl [] w).alloc _
  have few := fun w' (hk : Kept [] w w') => few_any F A1 A2 k1 k2 xs ds w' (hg.kept hk) h1 h2 h3 h4
  rw [← hxs', ← hds', ← hG] at few
  have FEW := Lib.hid few
  have HL := Lib.hid hL; have HF0 := Lib.hid hf0; have HK0 := Lib.hid hk0; have HGC := Lib.hid hgc; have HIN := Lib.hid hinc; have HPC := Lib.hid hpc
  have HFI := Lib.hid hg.id; have HFK := Lib.hid hg.key
  clear hL hg hin h1 h2 h3 h4 hp hxs' hds' hG hgc hinc hpc hf0 hk0 few
  go_enter Tryd.func3, Tryd.ntmps3
  go_wp2_with fail
  refine (shown_true _ (HL.out.kept HK0.out (by simp))).mono ?_
  rintro x w1 ⟨rfl, hk1⟩
  have hf1 := HF0.out.kept hk1 (by simp)
  have FRC1 := Lib.hid (frc hf1)
  have FRI1 := Lib.hid (fri HFI.out HFK.out)
  have HK1 := Lib.hid (HK0.out.trans0 hk1); have HF1 := Lib.hid hf1
  clear hk1 hf1
  go_wp2_with (first
    | ((with_reducible show wpList _ _ _ (⟨some 9, Op.load _ _, _, _, _, _⟩ :: _) _ _); refine wpList_load_part _ 33 _ rfl rfl w.heap.size 0 rfl F.list _ FRC1.out Tryd.underlying33 rfl FRI1.out ?_))
  refine (FEW.out w1 HK1.out).mono ?_
  rintro x w2 ⟨rfl, hk2⟩
  have hf2 := HF1.out.kept hk2 (by simp)
  have hf3 : FB (w2.setRow w.heap.size G.cells) w.heap.size G := ⟨setRow_heap _ _ _ _ _ _ hf2.blk, HGC.out.id, HGC.out.key⟩
  have hk3 : Kept [] w (w2.setRow w.heap.size G.cells) := (HK1.out.trans0 hk2).trans (kept_setRow _ _ _) (fun j hj hm => by simp at hm; omega)
  have F50 := Lib.hid (Fr.size HFI.out HFK.out); have G50 := Lib.hid (Fr.size HGC.out.id HGC.out.key)
  have G1C := Lib.hid (Fr.one G (by rw [HGC.out.sa]; rfl) (by rw [HGC.out.sd]; rfl))
  obtain ⟨w3, hw3⟩ : ∃ w3, w3 = w2.setRow w.heap.size G.cells := ⟨_, rfl⟩
  rw [← hw3] at hf3 hk3
  have HW3 := Lib.hid hw3
  have HF2 := Lib.hid hf2; have HF3 := Lib.hid hf3; have HK3 := Lib.hid hk3
  have FRC3 := Lib.hid (frc hf3)
  have GRI := Lib.hid (fri HGC.out.id HGC.out.key)
  clear hk2 hf2 hf3 hk3 hw3
  go_wp2_with (first
    | ((with_reducible show wpList _ _ _ (⟨none, Op.store 33 (.tmp 1) (.tmp 10), _, _, _, _⟩ :: _) _ _); refine wpList_store_whole _ 33 (.tmp 1) (.tmp 10) rfl rfl w.heap.size (by rfl) G.cells (by rfl) _ _ HF2.out.blk (G50.out.trans F50.out.symm) (info_frame.trans (congrArg some G50.out.symm)) G1C.out _ HW3.out.symm ?_)
    | ((with_reducible show wpList _ _ _ (⟨some 12, Op.load _ _, _, _, _, _⟩ :: _) _ _); refine wpList_load_part _ 33 _ rfl rfl w.heap.size 0 rfl G.list _ FRC3.out Tryd.underlying33 rfl GRI.out ?_))
  by_cases hri : rightF G xs' ds' = true
  · have HRI := Lib.hid hri
    clear hri
    refine (encode_yes G A1 A2 k1 k2 xs' ds' _ (HL.out.kept HK3.out (by simp)) (HGC.out.kept HK3.out) HIN.out.hosts (by omega) (by omega) HRI.out).mono ?_
    rintro x w4 ⟨v4, rfl, hown4, hk4⟩
    obtain ⟨A4, c4, rfl⟩ := own_slice hown4
    have HR4 := Lib.hid (Rd.of_own hown4)
    have hf4 := HF3.out.kept hk4 (by simp)
    have FRC4 := Lib.hid (frc hf4)
    have HK4 := Lib.hid (HK3.out.trans0 hk4); have HF4 := Lib.hid hf4; have hk4' := Lib.hid hk4
    clear hk4 hf4
    go_wp2_with (first
      | ((with_reducible show wpList _ _ _ (⟨some 16, Op.load _ _, _, _, _, _⟩ :: _) _ _); refine wpList_load_part _ 33 _ rfl rfl w.heap.size 0 rfl G.list _ FRC4.out Tryd.underlying33 rfl GRI.out ?_))
    refine (ref_any G A1 A2 k1 k2 xs' ds' w4 (HGC.out.kept HK4.out)).mono ?_
    rintro x w5 ⟨I, Kk, ci, ck, rfl, hrg5, hk5⟩
    have hk6 : Kept [] w4 (w5.alloc (.cells #[.int .i64 G.kind, .slice I 12 ci, .int .u32 G.host, .int .i64 G.port, .slice A1 xs'.length k1, .int .u64 G.n, .slice Kk 32 ck, .slice A2 ds'.length k2] 40)) := hk5.alloc _
    have RG6 := Lib.hid (hrg5.kept ((Kept.refl [] w5).alloc (.cells #[.int .i64 G.kind, .slice I 12 ci, .int .u32 G.host, .int .i64 G.port, .slice A1 xs'.length k1, .int .u64 G.n, .slice Kk 32 ck, .slice A2 ds'.length k2] 40)))
    have hf6 := HF4.out.kept hk6 (by simp)
    have HK6 := Lib.hid (HK4.out.trans0 hk6); have HF6 := Lib.hid hf6
    have hk46 := Lib.hid hk6
    clear hk5 hrg5 hk6 hf6
    go_wp2_with fail
    refine (refright_any G I A1 Kk A2 ci k1 ck k2 xs' ds' _ RG6.out HPC.out HIN.out (by omega) (by omega)).mono ?_
    rintro x w7 ⟨rfl, hk7⟩
    rw [HRI.out]
    have hf7 := HF6.out.kept hk7 (by simp)
    have FRC7 := Lib.hid (frc hf7)
    have HK7 := Lib.hid (HK6.out.trans0 hk7); have HF7 := Lib.hid hf7; have hk7' := Lib.hid hk7
    clear hk7 hf7
    go_wp2_with (first
      | ((with_reducible show wpList _ _ _ (⟨some 20, Op.load _ _, _, _, _, _⟩ :: _) _ _); refine wpList_load_part _ 33 _ rfl rfl w.heap.size 0 rfl G.list _ FRC7.out Tryd.underlying33 rfl GRI.out ?_))
    refine (right_any G A1 A2 k1 k2 xs' ds' w7 (HL.out.kept HK7.out (by simp)) (HGC.out.kept HK7.out) HIN.out.hosts (by omega) (by omega)).mono ?_
    rintro x w8 ⟨rfl, hk8⟩
    rw [HRI.out]
    have HK8 := Lib.hid hk8
    clear hk8
    go_wp2_with fail
    obtain ⟨L, hLe⟩ : ∃ L, L = encF G xs' ds' := ⟨_, rfl⟩
    obtain ⟨b6, hb6⟩ : ∃ b6, b6 = w5.heap.size := ⟨_, rfl⟩
    have hrow6 : (w5.alloc (.cells #[.int .i64 G.kind, .slice I 12 ci, .int .u32 G.host, .int .i64 G.port, .slice A1 xs'.length k1, .int .u64 G.n, .slice Kk 32 ck, .slice A2 ds'.length k2] 40)).heap[b6]? = some (.cells #[.int .i64 G.kind, .slice I 12 ci, .int .u32 G.host, .int .i64 G.port, .slice A1 xs'.length k1, .int .u64 G.n, .slice Kk 32 ck, .slice A2 ds'.length k2] 40 (0, 0)) := by rw [hb6]; exact heap_alloc_new _ _
    have hk68 := hk7'.out.trans0 HK8.out
    have hrow8 := RowAt.kept0 hrow6 hk68
    have hc8 := hrow8.cells
    have cc0 : w8.cell? ⟨b6, 0, none⟩ = some (.int .i64 G.kind) := hc8 0
    have cc1 : w8.cell? ⟨b6, 1, none⟩ = some (.slice I 12 ci) := hc8 1
    have cc2 : w8.cell? ⟨b6, 2, none⟩ = some (.int .u32 G.host) := hc8 2
    have cc3 : w8.cell? ⟨b6, 3, none⟩ = some (.int .i64 G.port) := hc8 3
    have cc4 : w8.cell? ⟨b6, 4, none⟩ = some (.slice A1 xs'.length k1) := hc8 4
    have cc5 : w8.cell? ⟨b6, 5, none⟩ = some (.int .u64 G.n) := hc8 5
    have cc6 : w8.cell? ⟨b6, 6, none⟩ = some (.slice Kk 32 ck) := hc8 6
    have cc7 : w8.cell? ⟨b6, 7, none⟩ = some (.slice A2 ds'.length k2) := hc8 7
    have hrg8 := RG6.out.kept hk68
    have hrd8 := HR4.out.kept0 ((hk46.out.trans0 hk7'.out).trans0 HK8.out)
    rw [← hLe] at hrd8
    rw [← hLe, ← hb6]
    have RG8 := Lib.hid (hrg8.kept ((Kept.refl [] w8).drew))
    have HK88 := Lib.hid (HK7.out.trans0 HK8.out)
    have hgk : isKind G.kind = true := (rightF_gives HRI.out).1
    have hgp := (rightF_gives HRI.out).2.1
    have hgx : GoodAs xs' := fun q hq => ⟨(HIN.out.hosts q hq).1, (HIN.out.hosts q hq).2, ((rightF_gives HRI.out).2.2.2.1 q hq).1, ((rightF_gives HRI.out).2.2.2.1 q hq).2⟩
    have HGK := Lib.hid hgk; have HGP := Lib.hid hgp; have HGX := Lib.hid hgx
    have HLE := Lib.hid hLe
    have HRD8 := Lib.hid hrd8
    have q43 := strS (cap := c4) hrd8
    have q43' := strS (cap := c4) hrd8.drew
    clear hc8 hrow8 hrow6 hk68 hrg8 hgk hgp hgx hown4 hLe hb6 hrd8
    go_region_with (go_at_call 12; refine (refenc_any G I A1 Kk A2 ci k1 ck k2 xs' ds' _ HGK.out RG8.out HGP.out.1 HGP.out.2 HGX.out ?_ ?_).mono ?_; omega; omega; rintro x w9 ⟨v9, rfl, hown9, hk9⟩; rw [← HLE.out] at hown9; obtain ⟨A9, c9, rfl⟩ := own_slice hown9; have q46 := strS (cap := c9) (Rd.of_own hown9); have q49 := strS (cap := c4) (HRD8.out.drew.kept0 hk9); have HK99 := Lib.hid hk9; clear hown9 hk9)
    all_goals
      go_wp2
      go_ret
      exact ⟨rfl, HK88.out.drew.trans0 HK99.out⟩
  · have hri' : rightF G xs' ds' = false := by simpa using hri
    have HRI := Lib.hid hri'
    clear hri hri'
    refine (encode_no G A1 A2 k1 k2 xs' ds' _ (HL.out.kept HK3.out (by simp)) (HGC.out.kept HK3.out) HIN.out.hosts (by omega) (by omega) HRI.out).mono ?_
    rintro x w4 ⟨rfl, hk4⟩
    have hf4 := HF3.out.kept hk4 (by simp)
    have FRC4 := Lib.hid (frc hf4)
    have HK4 := Lib.hid (HK3.out.trans0 hk4); have HF4 := Lib.hid hf4; have hk4' := Lib.hid hk4
    clear hk4 hf4
    go_wp2_with (first
      | ((with_reducible show wpList _ _ _ (⟨some 16, Op.load _ _, _, _, _, _⟩ :: _) _ _); refine wpList_load_part _ 33 _ rfl rfl w.heap.size 0 rfl G.list _ FRC4.out Tryd.underlying33 rfl GRI.out ?_))
    refine (ref_any G A1 A2 k1 k2 xs' ds' w4 (HGC.out.kept HK4.out)).mono ?_
    rintro x w5 ⟨I, Kk, ci, ck, rfl, hrg5, hk5⟩
    have hk6 : Kept [] w4 (w5.alloc (.cells #[.int .i64 G.kind, .slice I 12 ci, .int .u32 G.host, .int .i64 G.port, .slice A1 xs'.length k1, .int .u64 G.n, .slice Kk 32 ck, .slice A2 ds'.length k2] 40)) := hk5.alloc _
    have RG6 := Lib.hid (hrg5.kept ((Kept.refl [] w5).alloc (.cells #[.int .i64 G.kind, .slice I 12 ci, .int .u32 G.host, .int .i64 G.port, .slice A1 xs'.length k1, .int .u64 G.n, .slice Kk 32 ck, .slice A2 ds'.length k2] 40)))
    have hf6 := HF4.out.kept hk6 (by simp)
    have HK6 := Lib.hid (HK4.out.trans0 hk6); have HF6 := Lib.hid hf6
    have hk46 := Lib.hid hk6
    clear hk5 hrg5 hk6 hf6
    go_wp2_with fail
    refine (refright_any G I A1 Kk A2 ci k1 ck k2 xs' ds' _ RG6.out HPC.out HIN.out (by omega) (by omega)).mono ?_
    rintro x w7 ⟨rfl, hk7⟩
    rw [HRI.out]
    have hf7 := HF6.out.kept hk7 (by simp)
    have FRC7 := Lib.hid (frc hf7)
    have HK7 := Lib.hid (HK6.out.trans0 hk7); have HF7 := Lib.hid hf7; have hk7' := Lib.hid hk7
    clear hk7 hf7
    go_wp2_with (first
      | ((with_reducible show wpList _ _ _ (⟨some 20, Op.load _ _, _, _, _, _⟩ :: _) _ _); refine wpList_load_part _ 33 _ rfl rfl w.heap.size 0 rfl G.list _ FRC7.out Tryd.underlying33 rfl GRI.out ?_))
    refine (right_any G A1 A2 k1 k2 xs' ds' w7 (HL.out.kept HK7.out (by simp)) (HGC.out.kept HK7.out) HIN.out.hosts (by omega) (by omega)).mono ?_
    rintro x w8 ⟨rfl, hk8⟩
    rw [HRI.out]
    have HK8 := Lib.hid (HK7.out.trans0 hk8)
    clear hk8
    go_wp2
    go_ret
    exact ⟨rfl, HK8.out⟩
end Go.Proofs.YthnmjpohdlimiaaDoor
