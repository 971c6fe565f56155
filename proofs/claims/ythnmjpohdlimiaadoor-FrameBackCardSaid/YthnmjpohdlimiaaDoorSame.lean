/- hatchwaylaw13.same: a frame and the document's that hold the same. -/
import Derived.Test.YthnmjpohdlimiaaDoorRefOf
import Derived.Test.YthnmjpohdlimiaaDoorOpen
import Derived.Deep.RegionHeld3
namespace Go.Proofs.YthnmjpohdlimiaaDoor
open Go.RowKit

theorem strS {w : World} {A : Option Addr} {cap : Nat} {L : List UInt8} (hr : Rd w A (bvs L)) : (convert 31 9 (.slice A L.length cap)).run Tryd.prog w = .ok (.string ⟨L.toArray⟩) w :=
  run_string_rd w _ _ 5 A cap L hr Tryd.underlying31 Tryd.underlying5 Tryd.underlying9
theorem strN {w : World} {A : Option Addr} {n cap : Nat} {L : List UInt8} (hn : n = L.length) (hr : Rd w A (bvs L)) : (convert 31 9 (.slice A n cap)).run Tryd.prog w = .ok (.string ⟨L.toArray⟩) w := by
  subst hn; exact strS hr
/-- string(b), as one step of a region that only reads. -/
theorem wpQuiet_string {ops : Array Oper} {rest : List Oper} {o : Oper} {a : Act} {Q : Act → Prop} {w1 : World} (x : Operand) (ho : o.op = .convert 31 9 x) (hw : Region.wanted o (yielded ops a.tmps) = true)
    (A : Option Addr) (n cap : Nat) (L : List UInt8) (hx : a.eval x = .slice A n cap) (hn : n = L.length) (hr : Rd w1 A (bvs L))
    (h : wpQuiet Tryd.prog ops (fun w' => ∃ n, w' = w1.drewN n) Q rest (a.put o.dst (.string ⟨L.toArray⟩))) : wpQuiet Tryd.prog ops (fun w' => ∃ n, w' = w1.drewN n) Q (o :: rest) a :=
  wpQuiet_step fun K hK => by
    rw [if_pos hw]
    refine ⟨.string ⟨L.toArray⟩, fun w hC => ?_, hK _ h⟩
    obtain ⟨k, rfl⟩ := hC
    have hrun := strN (cap := cap) hn (hr.drewN k)
    unfold Oper.quietAt execOp
    simp only [ho, hx, Sem.run_bind, hrun, Result.andThen_ok, Sem.run_pure]
    exact ⟨rfl, rfl⟩
set_option maxRecDepth 100000 in
set_option maxHeartbeats 4000000 in
theorem same_true (F : Fr) (A1 A2 : Option Addr) (k1 k2 : Nat) (xs : List (Int × Int)) (ds : List UInt8) (I Kk B1 B2 : Option Addr) (ci j1 ck j2 : Nat) (w : World) (hg : Good w F A1 A2 k1 k2 xs ds) (hr : RefG w F I B1 Kk B2 xs ds) (hxl : xs.length ≤ 140737488355328) :
    Calls Tryd.prog 15 #[.agg F.cells, .agg #[.int .i64 F.kind, .slice I 12 ci, .int .u32 F.host, .int .i64 F.port, .slice B1 xs.length j1, .int .u64 F.n, .slice Kk 32 ck, .slice B2 ds.length j2]] w fun x w' => x = .returned (.bool true) ∧ Kept [] w w' := by
  have HG := Lib.hid hg; have HRG := Lib.hid hr
  have HI := Lib.hid hg.id; have HKE := Lib.hid hg.key
  clear hg hr
  go_enter Tryd.func15, Tryd.ntmps15
  go_upto_region 1 with fail
  obtain ⟨w1, hw1⟩ : ∃ w1, w1 = (w.alloc (.cells F.cells 33)).alloc (.cells #[.int .i64 F.kind, .slice I 12 ci, .int .u32 F.host, .int .i64 F.port, .slice B1 xs.length j1, .int .u64 F.n, .slice Kk 32 ck, .slice B2 ds.length j2] 40) := ⟨_, rfl⟩
  have hF1 : FB w1 w.heap.size F := ⟨by rw [hw1, Below.heap_alloc _ _ _ (by simp)]; exact heap_alloc_new _ _, HG.out.id, HG.out.key⟩
  have hR1 : RowAt w1 (w.heap.size + 1) #[.int .i64 F.kind, .slice I 12 ci, .int .u32 F.host, .int .i64 F.port, .slice B1 xs.length j1, .int .u64 F.n, .slice Kk 32 ck, .slice B2 ds.length j2] := by show _ = _; rw [hw1]; exact heap_new2 _ _ _
  have hk1 : Kept [] w w1 := by rw [hw1]; exact ((Kept.refl [] w).alloc _).alloc _
  rw [← hw1]
  have z0 := hF1.kind; have z13 := hF1.host; have z14 := hF1.port; have z16 := hF1.n
  have z15 : w1.cell? ⟨w.heap.size, 15, none⟩ = some (.slice A1 xs.length k1) := hF1.sa.trans (congrArg some HG.out.sa)
  have z49 : w1.cell? ⟨w.heap.size, 49, none⟩ = some (.slice A2 ds.length k2) := hF1.sd.trans (congrArg some HG.out.sd)
  have hc1 := hR1.cells
  have cc0 : w1.cell? ⟨w.heap.size + 1, 0, none⟩ = some (.int .i64 F.kind) := hc1 0
  have cc1 : w1.cell? ⟨w.heap.size + 1, 1, none⟩ = some (.slice I 12 ci) := hc1 1
  have cc2 : w1.cell? ⟨w.heap.size + 1, 2, none⟩ = some (.int .u32 F.host) := hc1 2
  have cc3 : w1.cell? ⟨w.heap.size + 1, 3, none⟩ = some (.int .i64 F.port) := hc1 3
  have cc4 : w1.cell? ⟨w.heap.size + 1, 4, none⟩ = some (.slice B1 xs.length j1) := hc1 4
  have cc5 : w1.cell? ⟨w.heap.size + 1, 5, none⟩ = some (.int .u64 F.n) := hc1 5
  have cc6 : w1.cell? ⟨w.heap.size + 1, 6, none⟩ = some (.slice Kk 32 ck) := hc1 6
  have cc7 : w1.cell? ⟨w.heap.size + 1, 7, none⟩ = some (.slice B2 ds.length j2) := hc1 7
  have Q1 := Lib.hid hF1.idRd; have Q2 := Lib.hid (HRG.out.ri.kept0 hk1); have Q3 := Lib.hid hF1.keyRd; have Q4 := Lib.hid (HRG.out.rk.kept0 hk1); have Q5 := Lib.hid (HG.out.r2.kept0 hk1); have Q6 := Lib.hid (HRG.out.r2.kept0 hk1)
  have hb1 := hF1.lt
  have HR6 := Lib.hid (HG.out.r1.kept0 hk1); have HR7 := Lib.hid (HRG.out.r1.kept0 hk1)
  have HZ15 := Lib.hid z15; have HC4 := Lib.hid cc4
  have HK1 := Lib.hid hk1
  clear hw1 hF1 hR1 hk1 hc1
  refine wp_region_quiet_lit (by kernel_rfl) (by kernel_rfl) ?_
  repeat (any_goals (first | ((with_reducible show wpQuiet _ _ _ _ (⟨some 14, _, _, _, _, _⟩ :: _) _); refine wpQuiet_string (.tmp 13) rfl (by rfl) _ 12 12 F.id (by rfl) HI.out.symm Q1.out ?_) | ((with_reducible show wpQuiet _ _ _ _ (⟨some 17, _, _, _, _, _⟩ :: _) _); refine wpQuiet_string (.tmp 16) rfl (by rfl) I 12 ci F.id (by rfl) HI.out.symm Q2.out ?_) | ((with_reducible show wpQuiet _ _ _ _ (⟨some 37, _, _, _, _, _⟩ :: _) _); refine wpQuiet_string (.tmp 36) rfl (by rfl) _ 32 32 F.key (by rfl) HKE.out.symm Q3.out ?_) | ((with_reducible show wpQuiet _ _ _ _ (⟨some 40, _, _, _, _, _⟩ :: _) _); refine wpQuiet_string (.tmp 39) rfl (by rfl) Kk 32 ck F.key (by rfl) HKE.out.symm Q4.out ?_) | ((with_reducible show wpQuiet _ _ _ _ (⟨some 46, _, _, _, _, _⟩ :: _) _); refine wpQuiet_string (.tmp 45) rfl (by rfl) A2 ds.length k2 ds (by rfl) rfl Q5.out ?_) | ((with_reducible show wpQuiet _ _ _ _ (⟨some 49, _, _, _, _, _⟩ :: _) _); refine wpQuiet_string (.tmp 48) rfl (by rfl) B2 ds.length j2 ds (by rfl) rfl Q6.out ?_) | go_big_quiet_step (fail) | quiet_step (fail)))
  refine wpQuiet_nil ?_
  intro w2 hw2
  obtain ⟨nq, rfl⟩ := hw2
  clear z0 z13 z14 z15 z16 z49 cc0 cc1 cc2 cc3 cc4 cc5 cc6 cc7
  have hkq : Kept [] w1 (w1.drewN nq) := (Kept.refl [] w1).drewN nq
  have HKQ := Lib.hid hkq
  have hz15 : (w1.drewN nq).cell? ⟨w.heap.size, 15, none⟩ = some (.slice A1 xs.length k1) := HZ15.out
  clear hkq
  go_wp2
  clear hz15
  go_loopw [5] (fun i wr => ∃ t : Nat, t ≤ xs.length ∧ i = .int .i64 t ∧ Hid (Kept [] w1 wr)) (fun i _ => xs.length - (intOf i).toNat)
  case atStart => exact ⟨0, Nat.zero_le _, rfl, HKQ.out⟩
  case round =>
    obtain ⟨t, ht, rfl, HKr⟩ := hrel
    have y15 : wr.cell? ⟨w.heap.size, 15, none⟩ = some (.slice A1 xs.length k1) := HKr.out.cell0 HZ15.out
    have y4 : wr.cell? ⟨w.heap.size + 1, 4, none⟩ = some (.slice B1 xs.length j1) := HKr.out.cell0 HC4.out
    by_cases hlt2 : t < xs.length
    · have hne : 0 < (avs xs).length := by rw [avs_length]; omega
      obtain ⟨ba, oa, hA, _, hcell⟩ := (HR6.out.kept0 HKr.out).at_ (k := 0) hne
      obtain ⟨bb, ob, hB, _, hcell'⟩ := (HR7.out.kept0 HKr.out).at_ (k := 0) hne
      have hg := avs_get xs t hlt2
      have x0 := hcell _ _ hg.1
      have x1 := hcell _ _ hg.2
      have y0 := hcell' _ _ hg.1
      have y1 := hcell' _ _ hg.2
      obtain ⟨⟨h, p⟩, hx⟩ : ∃ x : Int × Int, xs[t]?.getD (0, 0) = x := ⟨_, rfl⟩
      rw [hx, show oa + 2 * t = oa + t * 2 by omega] at x0
      rw [hx, show oa + (2 * t + 1) = oa + t * 2 + 1 by omega] at x1
      rw [hx, show ob + 2 * t = ob + t * 2 by omega] at y0
      rw [hx, show ob + (2 * t + 1) = ob + t * 2 + 1 by omega] at y1
      subst hA
      subst hB
      clear hcell hcell' hg hx
      go_wp2_with fail
      have hti : (t : Int) < (xs.length : Int) := by omega
      have ht0 : (0 : Int) ≤ (t : Int) := by omega
      go_quiet (fail)
      go_wp2

      go_roundw
      case rel => exact ⟨t + 1, by omega, by go_num, HKr.out.drewN _⟩
      case measure => simp [intOf]; omega
    · go_wp2
      go_ret
      exact ⟨rfl, HK1.out.trans0 HKr.out⟩
end Go.Proofs.YthnmjpohdlimiaaDoor
