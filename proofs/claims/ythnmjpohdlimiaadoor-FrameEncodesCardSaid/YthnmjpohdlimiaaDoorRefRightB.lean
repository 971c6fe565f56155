/- The document's frame: is it right? Kinds 4 to 6. -/
import Derived.Test.YthnmjpohdlimiaaDoorRefRightA
namespace Go.Proofs.YthnmjpohdlimiaaDoor
open Go.RowKit

set_option maxHeartbeats 4000000 in
theorem refright_4 : RefRightOf 4 := by
  intro F I A1 Kk A2 ci k1 ck k2 xs ds w hkind hg hpr hin hxl hd
  have s0 := RB.start w #[.int .i64 4, .slice I 12 ci, .int .u32 F.host, .int .i64 F.port, .slice A1 xs.length k1, .int .u64 F.n, .slice Kk 32 ck, .slice A2 ds.length k2]
  have HG := Lib.hid hg; have HIN := Lib.hid hin
  have HK := Lib.hid hkind
  have S0 := Lib.hid s0
  have HI := Lib.hid hg.id; have HKE := Lib.hid hg.key
  have g1 := hg.h0; have g2 := hg.h1; have g3 := hg.n0; have g4 := hg.n1
  clear hg hin hkind s0
  go_enter Tryd.func10, Tryd.ntmps10
  go_wp2_with fail
  refine (refport_any F.host F.port _ hpr).mono ?_
  rintro x w1 ⟨rfl, hk1⟩
  have S1 := Lib.hid (S0.out.next hk1)
  clear hk1
  have e0 : w1.cell? ⟨w.heap.size, 0, none⟩ = some (.int .i64 4) := S1.out.cell 0
  have e1 : w1.cell? ⟨w.heap.size, 1, none⟩ = some (.slice I 12 ci) := S1.out.cell 1
  have e2 : w1.cell? ⟨w.heap.size, 2, none⟩ = some (.int .u32 F.host) := S1.out.cell 2
  have e3 : w1.cell? ⟨w.heap.size, 3, none⟩ = some (.int .i64 F.port) := S1.out.cell 3
  have e4 : w1.cell? ⟨w.heap.size, 4, none⟩ = some (.slice A1 xs.length k1) := S1.out.cell 4
  have e5 : w1.cell? ⟨w.heap.size, 5, none⟩ = some (.int .u64 F.n) := S1.out.cell 5
  have e6 : w1.cell? ⟨w.heap.size, 6, none⟩ = some (.slice Kk 32 ck) := S1.out.cell 6
  have e7 : w1.cell? ⟨w.heap.size, 7, none⟩ = some (.slice A2 ds.length k2) := S1.out.cell 7
  by_cases hp : 0 ≤ F.port ∧ F.port < 65536
  rotate_left
  · rw [show portB F.port = false from by simpa [portB] using hp]
    have HP := Lib.hid hp
    clear hp
    go_wp2
    go_ret
    exact ⟨ret_false (rightF_port HP.out), S1.out.kept⟩
  rw [show portB F.port = true from by simpa [portB] using hp]
  have HP := Lib.hid hp
  have hp0 := hp.1; have hp1 := hp.2
  clear hp
  by_cases h8 : 8 < xs.length
  · go_wp2_with fail
    go_ret
    exact ⟨ret_false (rightF_many h8), S1.out.kept⟩
  by_cases h1000 : 1000 < ds.length
  · go_wp2_with fail
    go_ret
    exact ⟨ret_false (rightF_data HK.out h1000), S1.out.kept⟩
  go_wp2_with fail
  refine (refzero_n I ci 12 F.id _ HI.out.symm (by have := HI.out; omega) (HG.out.ri.kept S1.out.kept (by simp))).mono ?_
  rintro x w1' ⟨rfl, rfl⟩
  by_cases hz : zeroB F.id = true
  rotate_left
  · have hz' : zeroB F.id = false := by simpa using hz
    rw [hz']
    have HZ := Lib.hid hz'
    clear hz hz'
    go_wp2
    go_ret
    exact ⟨ret_false (rightF_id HI.out (by rw [HK.out]; rfl) HZ.out), S1.out.kept⟩
  rw [hz]
  have HID : Hid ((hasOf F.kind).id = true ∨ (F.id == zeros 12) = true) := .inr (by have h := zeroB_zeros (l := F.id); rw [hz, HI.out] at h; exact h.symm)
  clear hz
  by_cases hho : F.host = 0
  rotate_left
  · go_wp2
    go_ret
    exact ⟨ret_false (rightF_empty (emptyF_addr (by rw [HK.out]; rfl) (.inl hho))), S1.out.kept⟩
  by_cases hpo : F.port = 0
  rotate_left
  · rw [hho] at e2
    have HHO := Lib.hid hho
    clear hho
    go_wp2
    go_ret
    exact ⟨ret_false (rightF_empty (emptyF_addr (by rw [HK.out]; rfl) (.inr hpo))), S1.out.kept⟩
  have HAD : Hid ((hasOf F.kind).addr = true ∨ (F.host = 0 ∧ F.port = 0)) := .inr ⟨hho, hpo⟩
  rw [hho] at e2
  rw [hpo] at e3
  have HHO := Lib.hid hho; have HPO := Lib.hid hpo
  clear hho hpo
  by_cases hxs : 0 < xs.length
  · go_wp2
    go_ret
    exact ⟨ret_false (rightF_empty (emptyF_addrs (by rw [HK.out]; rfl) hxs)), S1.out.kept⟩
  have HAS : Hid ((hasOf F.kind).addrs = true ∨ xs.length = 0) := .inr (by omega)
  have HX0 := Lib.hid (show xs.length = 0 by omega)
  by_cases hnz : F.n = 0
  rotate_left
  · go_wp2
    go_ret
    exact ⟨ret_false (rightF_empty (emptyF_n (by rw [HK.out]; rfl) (by omega))), S1.out.kept⟩
  have HNN : Hid ((hasOf F.kind).n = true ∨ F.n = 0) := .inr hnz
  rw [hnz] at e5
  have HNZ := Lib.hid hnz
  clear hnz
  go_wp2_with fail
  refine (refzero_n Kk ck 32 F.key _ HKE.out.symm (by have := HKE.out; omega) (HG.out.rk.kept S1.out.kept (by simp))).mono ?_
  rintro x w1' ⟨rfl, rfl⟩
  by_cases hz : zeroB F.key = true
  rotate_left
  · have hz' : zeroB F.key = false := by simpa using hz
    rw [hz']
    have HZ := Lib.hid hz'
    clear hz hz'
    go_wp2
    go_ret
    exact ⟨ret_false (rightF_key HKE.out (by rw [HK.out]; rfl) HZ.out), S1.out.kept⟩
  rw [hz]
  have HKY : Hid ((hasOf F.kind).key = true ∨ (F.key == zeros 32) = true) := .inr (by have h := zeroB_zeros (l := F.key); rw [hz, HKE.out] at h; exact h.symm)
  clear hz
  go_wp2_with fail
  refine (refdata_any 4 _).mono ?_
  rintro x w1' ⟨rfl, rfl⟩
  rw [show dataB 4 = true from rfl]
  have HDA : Hid ((hasOf F.kind).data = true ∨ ds.length = 0) := .inl (by rw [HK.out]; rfl)
  have HEM := Lib.hid (emptyF_true (F := F) (xs := xs) (ds := ds) HID.out HAD.out HAS.out HNN.out HKY.out HDA.out)
  go_wp2_with fail
  clear hxs
  clear e0 e1 e2 e3 e4 e5 e6 e7
  go_loopw [4] (fun i wr => ∃ k : Nat, k ≤ xs.length ∧ i = .int .i64 k ∧ Hid (RB w wr #[.int .i64 4, .slice I 12 ci, .int .u32 F.host, .int .i64 F.port, .slice A1 xs.length k1, .int .u64 F.n, .slice Kk 32 ck, .slice A2 ds.length k2]) ∧ Hid (∀ i, i < k → 0 ≤ (xs[i]?.getD (0, 0)).2 ∧ (xs[i]?.getD (0, 0)).2 < 65536)) (fun i _ => xs.length - (intOf i).toNat)
  case atStart => exact ⟨0, Nat.zero_le _, rfl, S1.out, fun i hi => absurd hi (by omega)⟩
  case round =>
    obtain ⟨k, hk, rfl, SR, HI2⟩ := hrel
    have z4 : wr.cell? ⟨w.heap.size, 4, none⟩ = some (.slice A1 xs.length k1) := SR.out.cell 4
    by_cases hlt : k < xs.length
    · exact absurd hlt (by have := HX0.out; omega)
    · have hke : k = xs.length := by omega
      subst hke
      have hga : GoodAs xs := fun i hi => ⟨(HIN.out.hosts i hi).1, (HIN.out.hosts i hi).2, (HI2.out i hi).1, (HI2.out i hi).2⟩
      have HRF := Lib.hid (rightF_ok (by rw [HK.out]; rfl) HP.out (by omega) (fun _ => by omega) HI2.out HEM.out)
      have HGA := Lib.hid hga
      clear hga
      have e0 : wr.cell? ⟨w.heap.size, 0, none⟩ = some (.int .i64 4) := SR.out.cell 0
      have e1 : wr.cell? ⟨w.heap.size, 1, none⟩ = some (.slice I 12 ci) := SR.out.cell 1
      have e2 : wr.cell? ⟨w.heap.size, 2, none⟩ = some (.int .u32 F.host) := SR.out.cell 2
      have e3 : wr.cell? ⟨w.heap.size, 3, none⟩ = some (.int .i64 F.port) := SR.out.cell 3
      have e4 : wr.cell? ⟨w.heap.size, 4, none⟩ = some (.slice A1 xs.length k1) := SR.out.cell 4
      have e5 : wr.cell? ⟨w.heap.size, 5, none⟩ = some (.int .u64 F.n) := SR.out.cell 5
      have e6 : wr.cell? ⟨w.heap.size, 6, none⟩ = some (.slice Kk 32 ck) := SR.out.cell 6
      have e7 : wr.cell? ⟨w.heap.size, 7, none⟩ = some (.slice A2 ds.length k2) := SR.out.cell 7
      go_wp2_with fail
      refine (refenc_k 4 F I A1 Kk A2 ci k1 ck k2 xs ds wr HK.out (by decide) (HG.out.kept SR.out.kept) HP.out.1 HP.out.2 HGA.out (by omega) hd).mono ?_
      rintro x w5 ⟨v5, rfl, hown5, hk5⟩
      obtain ⟨A5, c5, rfl⟩ := own_slice hown5
      have HK5 := Lib.hid (SR.out.kept.trans hk5 (by simp))
      clear hown5 hk5
      obtain ⟨n5, hn5⟩ : ∃ n5, n5 = (encF F xs ds).length := ⟨_, rfl⟩
      rw [← hn5] at HRF ⊢
      clear hn5
      go_wp2
      go_ret
      exact ⟨ret_bool (by rw [HRF.out]; congr 1; rw [eq_iff_iff]; omega), HK5.out⟩

set_option maxHeartbeats 4000000 in
theorem refright_5 : RefRightOf 5 := by
  intro F I A1 Kk A2 ci k1 ck k2 xs ds w hkind hg hpr hin hxl hd
  have s0 := RB.start w #[.int .i64 5, .slice I 12 ci, .int .u32 F.host, .int .i64 F.port, .slice A1 xs.length k1, .int .u64 F.n, .slice Kk 32 ck, .slice A2 ds.length k2]
  have HG := Lib.hid hg; have HIN := Lib.hid hin
  have HK := Lib.hid hkind
  have S0 := Lib.hid s0
  have HI := Lib.hid hg.id; have HKE := Lib.hid hg.key
  have g1 := hg.h0; have g2 := hg.h1; have g3 := hg.n0; have g4 := hg.n1
  clear hg hin hkind s0
  go_enter Tryd.func10, Tryd.ntmps10
  go_wp2_with fail
  refine (refport_any F.host F.port _ hpr).mono ?_
  rintro x w1 ⟨rfl, hk1⟩
  have S1 := Lib.hid (S0.out.next hk1)
  clear hk1
  have e0 : w1.cell? ⟨w.heap.size, 0, none⟩ = some (.int .i64 5) := S1.out.cell 0
  have e1 : w1.cell? ⟨w.heap.size, 1, none⟩ = some (.slice I 12 ci) := S1.out.cell 1
  have e2 : w1.cell? ⟨w.heap.size, 2, none⟩ = some (.int .u32 F.host) := S1.out.cell 2
  have e3 : w1.cell? ⟨w.heap.size, 3, none⟩ = some (.int .i64 F.port) := S1.out.cell 3
  have e4 : w1.cell? ⟨w.heap.size, 4, none⟩ = some (.slice A1 xs.length k1) := S1.out.cell 4
  have e5 : w1.cell? ⟨w.heap.size, 5, none⟩ = some (.int .u64 F.n) := S1.out.cell 5
  have e6 : w1.cell? ⟨w.heap.size, 6, none⟩ = some (.slice Kk 32 ck) := S1.out.cell 6
  have e7 : w1.cell? ⟨w.heap.size, 7, none⟩ = some (.slice A2 ds.length k2) := S1.out.cell 7
  by_cases hp : 0 ≤ F.port ∧ F.port < 65536
  rotate_left
  · rw [show portB F.port = false from by simpa [portB] using hp]
    have HP := Lib.hid hp
    clear hp
    go_wp2
    go_ret
    exact ⟨ret_false (rightF_port HP.out), S1.out.kept⟩
  rw [show portB F.port = true from by simpa [portB] using hp]
  have HP := Lib.hid hp
  have hp0 := hp.1; have hp1 := hp.2
  clear hp
  by_cases h8 : 8 < xs.length
  · go_wp2_with fail
    go_ret
    exact ⟨ret_false (rightF_many h8), S1.out.kept⟩
  go_wp2_with fail
  refine (refzero_n I ci 12 F.id _ HI.out.symm (by have := HI.out; omega) (HG.out.ri.kept S1.out.kept (by simp))).mono ?_
  rintro x w1' ⟨rfl, rfl⟩
  by_cases hz : zeroB F.id = true
  rotate_left
  · have hz' : zeroB F.id = false := by simpa using hz
    rw [hz']
    have HZ := Lib.hid hz'
    clear hz hz'
    go_wp2
    go_ret
    exact ⟨ret_false (rightF_id HI.out (by rw [HK.out]; rfl) HZ.out), S1.out.kept⟩
  rw [hz]
  have HID : Hid ((hasOf F.kind).id = true ∨ (F.id == zeros 12) = true) := .inr (by have h := zeroB_zeros (l := F.id); rw [hz, HI.out] at h; exact h.symm)
  clear hz
  by_cases hho : F.host = 0
  rotate_left
  · go_wp2
    go_ret
    exact ⟨ret_false (rightF_empty (emptyF_addr (by rw [HK.out]; rfl) (.inl hho))), S1.out.kept⟩
  by_cases hpo : F.port = 0
  rotate_left
  · rw [hho] at e2
    have HHO := Lib.hid hho
    clear hho
    go_wp2
    go_ret
    exact ⟨ret_false (rightF_empty (emptyF_addr (by rw [HK.out]; rfl) (.inr hpo))), S1.out.kept⟩
  have HAD : Hid ((hasOf F.kind).addr = true ∨ (F.host = 0 ∧ F.port = 0)) := .inr ⟨hho, hpo⟩
  rw [hho] at e2
  rw [hpo] at e3
  have HHO := Lib.hid hho; have HPO := Lib.hid hpo
  clear hho hpo
  by_cases hxs : 0 < xs.length
  · go_wp2
    go_ret
    exact ⟨ret_false (rightF_empty (emptyF_addrs (by rw [HK.out]; rfl) hxs)), S1.out.kept⟩
  have HAS : Hid ((hasOf F.kind).addrs = true ∨ xs.length = 0) := .inr (by omega)
  have HX0 := Lib.hid (show xs.length = 0 by omega)
  by_cases hnz : F.n = 0
  rotate_left
  · go_wp2
    go_ret
    exact ⟨ret_false (rightF_empty (emptyF_n (by rw [HK.out]; rfl) (by omega))), S1.out.kept⟩
  have HNN : Hid ((hasOf F.kind).n = true ∨ F.n = 0) := .inr hnz
  rw [hnz] at e5
  have HNZ := Lib.hid hnz
  clear hnz
  go_wp2_with fail
  refine (refzero_n Kk ck 32 F.key _ HKE.out.symm (by have := HKE.out; omega) (HG.out.rk.kept S1.out.kept (by simp))).mono ?_
  rintro x w1' ⟨rfl, rfl⟩
  by_cases hz : zeroB F.key = true
  rotate_left
  · have hz' : zeroB F.key = false := by simpa using hz
    rw [hz']
    have HZ := Lib.hid hz'
    clear hz hz'
    go_wp2
    go_ret
    exact ⟨ret_false (rightF_key HKE.out (by rw [HK.out]; rfl) HZ.out), S1.out.kept⟩
  rw [hz]
  have HKY : Hid ((hasOf F.kind).key = true ∨ (F.key == zeros 32) = true) := .inr (by have h := zeroB_zeros (l := F.key); rw [hz, HKE.out] at h; exact h.symm)
  clear hz
  go_wp2_with fail
  refine (refdata_any 5 _).mono ?_
  rintro x w1' ⟨rfl, rfl⟩
  rw [show dataB 5 = true from rfl]
  have HDA : Hid ((hasOf F.kind).data = true ∨ ds.length = 0) := .inl (by rw [HK.out]; rfl)
  have HEM := Lib.hid (emptyF_true (F := F) (xs := xs) (ds := ds) HID.out HAD.out HAS.out HNN.out HKY.out HDA.out)
  go_wp2_with fail
  clear hxs
  clear e0 e1 e2 e3 e4 e5 e6 e7
  go_loopw [4] (fun i wr => ∃ k : Nat, k ≤ xs.length ∧ i = .int .i64 k ∧ Hid (RB w wr #[.int .i64 5, .slice I 12 ci, .int .u32 F.host, .int .i64 F.port, .slice A1 xs.length k1, .int .u64 F.n, .slice Kk 32 ck, .slice A2 ds.length k2]) ∧ Hid (∀ i, i < k → 0 ≤ (xs[i]?.getD (0, 0)).2 ∧ (xs[i]?.getD (0, 0)).2 < 65536)) (fun i _ => xs.length - (intOf i).toNat)
  case atStart => exact ⟨0, Nat.zero_le _, rfl, S1.out, fun i hi => absurd hi (by omega)⟩
  case round =>
    obtain ⟨k, hk, rfl, SR, HI2⟩ := hrel
    have z4 : wr.cell? ⟨w.heap.size, 4, none⟩ = some (.slice A1 xs.length k1) := SR.out.cell 4
    by_cases hlt : k < xs.length
    · exact absurd hlt (by have := HX0.out; omega)
    · have hke : k = xs.length := by omega
      subst hke
      have hga : GoodAs xs := fun i hi => ⟨(HIN.out.hosts i hi).1, (HIN.out.hosts i hi).2, (HI2.out i hi).1, (HI2.out i hi).2⟩
      have HRF := Lib.hid (rightF_ok (by rw [HK.out]; rfl) HP.out (by omega) (fun e => absurd (HK.out.symm.trans e) (by decide)) HI2.out HEM.out)
      have HGA := Lib.hid hga
      clear hga
      have e0 : wr.cell? ⟨w.heap.size, 0, none⟩ = some (.int .i64 5) := SR.out.cell 0
      have e1 : wr.cell? ⟨w.heap.size, 1, none⟩ = some (.slice I 12 ci) := SR.out.cell 1
      have e2 : wr.cell? ⟨w.heap.size, 2, none⟩ = some (.int .u32 F.host) := SR.out.cell 2
      have e3 : wr.cell? ⟨w.heap.size, 3, none⟩ = some (.int .i64 F.port) := SR.out.cell 3
      have e4 : wr.cell? ⟨w.heap.size, 4, none⟩ = some (.slice A1 xs.length k1) := SR.out.cell 4
      have e5 : wr.cell? ⟨w.heap.size, 5, none⟩ = some (.int .u64 F.n) := SR.out.cell 5
      have e6 : wr.cell? ⟨w.heap.size, 6, none⟩ = some (.slice Kk 32 ck) := SR.out.cell 6
      have e7 : wr.cell? ⟨w.heap.size, 7, none⟩ = some (.slice A2 ds.length k2) := SR.out.cell 7
      go_wp2_with fail
      refine (refenc_k 5 F I A1 Kk A2 ci k1 ck k2 xs ds wr HK.out (by decide) (HG.out.kept SR.out.kept) HP.out.1 HP.out.2 HGA.out (by omega) hd).mono ?_
      rintro x w5 ⟨v5, rfl, hown5, hk5⟩
      obtain ⟨A5, c5, rfl⟩ := own_slice hown5
      have HK5 := Lib.hid (SR.out.kept.trans hk5 (by simp))
      clear hown5 hk5
      obtain ⟨n5, hn5⟩ : ∃ n5, n5 = (encF F xs ds).length := ⟨_, rfl⟩
      rw [← hn5] at HRF ⊢
      clear hn5
      go_wp2
      go_ret
      exact ⟨ret_bool (by rw [HRF.out]; congr 1; rw [eq_iff_iff]; omega), HK5.out⟩

set_option maxHeartbeats 4000000 in
theorem refright_6 : RefRightOf 6 := by
  intro F I A1 Kk A2 ci k1 ck k2 xs ds w hkind hg hpr hin hxl hd
  have s0 := RB.start w #[.int .i64 6, .slice I 12 ci, .int .u32 F.host, .int .i64 F.port, .slice A1 xs.length k1, .int .u64 F.n, .slice Kk 32 ck, .slice A2 ds.length k2]
  have HG := Lib.hid hg; have HIN := Lib.hid hin
  have HK := Lib.hid hkind
  have S0 := Lib.hid s0
  have HI := Lib.hid hg.id; have HKE := Lib.hid hg.key
  have g1 := hg.h0; have g2 := hg.h1; have g3 := hg.n0; have g4 := hg.n1
  clear hg hin hkind s0
  go_enter Tryd.func10, Tryd.ntmps10
  go_wp2_with fail
  refine (refport_any F.host F.port _ hpr).mono ?_
  rintro x w1 ⟨rfl, hk1⟩
  have S1 := Lib.hid (S0.out.next hk1)
  clear hk1
  have e0 : w1.cell? ⟨w.heap.size, 0, none⟩ = some (.int .i64 6) := S1.out.cell 0
  have e1 : w1.cell? ⟨w.heap.size, 1, none⟩ = some (.slice I 12 ci) := S1.out.cell 1
  have e2 : w1.cell? ⟨w.heap.size, 2, none⟩ = some (.int .u32 F.host) := S1.out.cell 2
  have e3 : w1.cell? ⟨w.heap.size, 3, none⟩ = some (.int .i64 F.port) := S1.out.cell 3
  have e4 : w1.cell? ⟨w.heap.size, 4, none⟩ = some (.slice A1 xs.length k1) := S1.out.cell 4
  have e5 : w1.cell? ⟨w.heap.size, 5, none⟩ = some (.int .u64 F.n) := S1.out.cell 5
  have e6 : w1.cell? ⟨w.heap.size, 6, none⟩ = some (.slice Kk 32 ck) := S1.out.cell 6
  have e7 : w1.cell? ⟨w.heap.size, 7, none⟩ = some (.slice A2 ds.length k2) := S1.out.cell 7
  by_cases hp : 0 ≤ F.port ∧ F.port < 65536
  rotate_left
  · rw [show portB F.port = false from by simpa [portB] using hp]
    have HP := Lib.hid hp
    clear hp
    go_wp2
    go_ret
    exact ⟨ret_false (rightF_port HP.out), S1.out.kept⟩
  rw [show portB F.port = true from by simpa [portB] using hp]
  have HP := Lib.hid hp
  have hp0 := hp.1; have hp1 := hp.2
  clear hp
  by_cases h8 : 8 < xs.length
  · go_wp2_with fail
    go_ret
    exact ⟨ret_false (rightF_many h8), S1.out.kept⟩
  go_wp2_with fail
  refine (refzero_n I ci 12 F.id _ HI.out.symm (by have := HI.out; omega) (HG.out.ri.kept S1.out.kept (by simp))).mono ?_
  rintro x w1' ⟨rfl, rfl⟩
  by_cases hz : zeroB F.id = true
  rotate_left
  · have hz' : zeroB F.id = false := by simpa using hz
    rw [hz']
    have HZ := Lib.hid hz'
    clear hz hz'
    go_wp2
    go_ret
    exact ⟨ret_false (rightF_id HI.out (by rw [HK.out]; rfl) HZ.out), S1.out.kept⟩
  rw [hz]
  have HID : Hid ((hasOf F.kind).id = true ∨ (F.id == zeros 12) = true) := .inr (by have h := zeroB_zeros (l := F.id); rw [hz, HI.out] at h; exact h.symm)
  clear hz
  by_cases hho : F.host = 0
  rotate_left
  · go_wp2
    go_ret
    exact ⟨ret_false (rightF_empty (emptyF_addr (by rw [HK.out]; rfl) (.inl hho))), S1.out.kept⟩
  by_cases hpo : F.port = 0
  rotate_left
  · rw [hho] at e2
    have HHO := Lib.hid hho
    clear hho
    go_wp2
    go_ret
    exact ⟨ret_false (rightF_empty (emptyF_addr (by rw [HK.out]; rfl) (.inr hpo))), S1.out.kept⟩
  have HAD : Hid ((hasOf F.kind).addr = true ∨ (F.host = 0 ∧ F.port = 0)) := .inr ⟨hho, hpo⟩
  rw [hho] at e2
  rw [hpo] at e3
  have HHO := Lib.hid hho; have HPO := Lib.hid hpo
  clear hho hpo
  by_cases hxs : 0 < xs.length
  · go_wp2
    go_ret
    exact ⟨ret_false (rightF_empty (emptyF_addrs (by rw [HK.out]; rfl) hxs)), S1.out.kept⟩
  have HAS : Hid ((hasOf F.kind).addrs = true ∨ xs.length = 0) := .inr (by omega)
  have HX0 := Lib.hid (show xs.length = 0 by omega)
  by_cases hnz : F.n = 0
  rotate_left
  · go_wp2
    go_ret
    exact ⟨ret_false (rightF_empty (emptyF_n (by rw [HK.out]; rfl) (by omega))), S1.out.kept⟩
  have HNN : Hid ((hasOf F.kind).n = true ∨ F.n = 0) := .inr hnz
  rw [hnz] at e5
  have HNZ := Lib.hid hnz
  clear hnz
  go_wp2_with fail
  refine (refzero_n Kk ck 32 F.key _ HKE.out.symm (by have := HKE.out; omega) (HG.out.rk.kept S1.out.kept (by simp))).mono ?_
  rintro x w1' ⟨rfl, rfl⟩
  by_cases hz : zeroB F.key = true
  rotate_left
  · have hz' : zeroB F.key = false := by simpa using hz
    rw [hz']
    have HZ := Lib.hid hz'
    clear hz hz'
    go_wp2
    go_ret
    exact ⟨ret_false (rightF_key HKE.out (by rw [HK.out]; rfl) HZ.out), S1.out.kept⟩
  rw [hz]
  have HKY : Hid ((hasOf F.kind).key = true ∨ (F.key == zeros 32) = true) := .inr (by have h := zeroB_zeros (l := F.key); rw [hz, HKE.out] at h; exact h.symm)
  clear hz
  go_wp2_with fail
  refine (refdata_any 6 _).mono ?_
  rintro x w1' ⟨rfl, rfl⟩
  rw [show dataB 6 = true from rfl]
  have HDA : Hid ((hasOf F.kind).data = true ∨ ds.length = 0) := .inl (by rw [HK.out]; rfl)
  have HEM := Lib.hid (emptyF_true (F := F) (xs := xs) (ds := ds) HID.out HAD.out HAS.out HNN.out HKY.out HDA.out)
  go_wp2_with fail
  clear hxs
  clear e0 e1 e2 e3 e4 e5 e6 e7
  go_loopw [4] (fun i wr => ∃ k : Nat, k ≤ xs.length ∧ i = .int .i64 k ∧ Hid (RB w wr #[.int .i64 6, .slice I 12 ci, .int .u32 F.host, .int .i64 F.port, .slice A1 xs.length k1, .int .u64 F.n, .slice Kk 32 ck, .slice A2 ds.length k2]) ∧ Hid (∀ i, i < k → 0 ≤ (xs[i]?.getD (0, 0)).2 ∧ (xs[i]?.getD (0, 0)).2 < 65536)) (fun i _ => xs.length - (intOf i).toNat)
  case atStart => exact ⟨0, Nat.zero_le _, rfl, S1.out, fun i hi => absurd hi (by omega)⟩
  case round =>
    obtain ⟨k, hk, rfl, SR, HI2⟩ := hrel
    have z4 : wr.cell? ⟨w.heap.size, 4, none⟩ = some (.slice A1 xs.length k1) := SR.out.cell 4
    by_cases hlt : k < xs.length
    · exact absurd hlt (by have := HX0.out; omega)
    · have hke : k = xs.length := by omega
      subst hke
      have hga : GoodAs xs := fun i hi => ⟨(HIN.out.hosts i hi).1, (HIN.out.hosts i hi).2, (HI2.out i hi).1, (HI2.out i hi).2⟩
      have HRF := Lib.hid (rightF_ok (by rw [HK.out]; rfl) HP.out (by omega) (fun e => absurd (HK.out.symm.trans e) (by decide)) HI2.out HEM.out)
      have HGA := Lib.hid hga
      clear hga
      have e0 : wr.cell? ⟨w.heap.size, 0, none⟩ = some (.int .i64 6) := SR.out.cell 0
      have e1 : wr.cell? ⟨w.heap.size, 1, none⟩ = some (.slice I 12 ci) := SR.out.cell 1
      have e2 : wr.cell? ⟨w.heap.size, 2, none⟩ = some (.int .u32 F.host) := SR.out.cell 2
      have e3 : wr.cell? ⟨w.heap.size, 3, none⟩ = some (.int .i64 F.port) := SR.out.cell 3
      have e4 : wr.cell? ⟨w.heap.size, 4, none⟩ = some (.slice A1 xs.length k1) := SR.out.cell 4
      have e5 : wr.cell? ⟨w.heap.size, 5, none⟩ = some (.int .u64 F.n) := SR.out.cell 5
      have e6 : wr.cell? ⟨w.heap.size, 6, none⟩ = some (.slice Kk 32 ck) := SR.out.cell 6
      have e7 : wr.cell? ⟨w.heap.size, 7, none⟩ = some (.slice A2 ds.length k2) := SR.out.cell 7
      go_wp2_with fail
      refine (refenc_k 6 F I A1 Kk A2 ci k1 ck k2 xs ds wr HK.out (by decide) (HG.out.kept SR.out.kept) HP.out.1 HP.out.2 HGA.out (by omega) hd).mono ?_
      rintro x w5 ⟨v5, rfl, hown5, hk5⟩
      obtain ⟨A5, c5, rfl⟩ := own_slice hown5
      have HK5 := Lib.hid (SR.out.kept.trans hk5 (by simp))
      clear hown5 hk5
      obtain ⟨n5, hn5⟩ : ∃ n5, n5 = (encF F xs ds).length := ⟨_, rfl⟩
      rw [← hn5] at HRF ⊢
      clear hn5
      go_wp2
      go_ret
      exact ⟨ret_bool (by rw [HRF.out]; congr 1; rw [eq_iff_iff]; omega), HK5.out⟩
end Go.Proofs.YthnmjpohdlimiaaDoor
