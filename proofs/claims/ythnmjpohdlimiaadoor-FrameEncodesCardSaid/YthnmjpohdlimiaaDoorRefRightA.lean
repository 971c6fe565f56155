/- The document's frame: is it right? Kinds 1 to 3. -/
import Derived.Test.YthnmjpohdlimiaaDoorRefEnc
import Derived.Test.YthnmjpohdlimiaaDoorOpen
namespace Go.Proofs.YthnmjpohdlimiaaDoor
open Go.RowKit

/-- The frame in its cells. -/
structure RB (w wr : World) (cs : Array Value) : Prop where
  blk : wr.heap[w.heap.size]? = some (.cells cs 40 (0, 0))
  kept : Kept [] w wr
theorem RB.start (w : World) (cs : Array Value) : RB w (w.alloc (.cells cs 40)) cs := ⟨heap_alloc_new _ _, (Kept.refl [] w).alloc _⟩
theorem RB.next {w wr w' : World} {cs : Array Value} (h : RB w wr cs) (hk : Kept [] wr w') : RB w w' cs :=
  ⟨(hk.block _ (Array.getElem?_eq_some_iff.1 h.blk).1 (by simp)).trans h.blk, h.kept.trans hk (by simp)⟩
theorem RB.cell {w wr : World} {cs : Array Value} (h : RB w wr cs) (j : Nat) : wr.cell? ⟨w.heap.size, j, none⟩ = cs[j]? := cell_of_row _ _ _ _ _ _ h.blk
def RefRightOf (K : Int) : Prop := ∀ (F : Fr) (I A1 Kk A2 : Option Addr) (ci k1 ck k2 : Nat) (xs : List (Int × Int)) (ds : List UInt8) (w : World) (_ : F.kind = K) (_ : RefG w F I A1 Kk A2 xs ds) (_ : -9223372036854775808 ≤ F.port ∧ F.port ≤ 9223372036854775807) (_ : AddrsIn xs) (_ : xs.length ≤ 140737488355328) (_ : ds.length + 30000 ≤ 140737488355328),
    Calls Tryd.prog 10 #[.agg #[.int .i64 K, .slice I 12 ci, .int .u32 F.host, .int .i64 F.port, .slice A1 xs.length k1, .int .u64 F.n, .slice Kk 32 ck, .slice A2 ds.length k2]] w
      fun x w' => x = .returned (.bool (rightF F xs ds)) ∧ Kept [] w w'
theorem rightF_id {F : Fr} {xs : List (Int × Int)} {ds : List UInt8} (hl : F.id.length = 12) (h : (hasOf F.kind).id = false) (h' : zeroB F.id = false) : rightF F xs ds = false :=
  rightF_empty (emptyF_id h (by rw [zeroB_zeros, hl] at h'; exact h'))
theorem rightF_key {F : Fr} {xs : List (Int × Int)} {ds : List UInt8} (hl : F.key.length = 32) (h : (hasOf F.kind).key = false) (h' : zeroB F.key = false) : rightF F xs ds = false :=
  rightF_empty (emptyF_key h (by rw [zeroB_zeros, hl] at h'; exact h'))

theorem refzero_n (A : Option Addr) (c n : Nat) (l : List UInt8) (w : World) (hn : n = l.length) (h5 : l.length ≤ 140737488355328) (hr : Rd w A (bvs l)) :
    Calls Tryd.prog 18 #[.slice A n c] w fun x w' => x = .returned (.bool (zeroB l)) ∧ w = w' := by
  subst hn
  exact refzero_any A c l w h5 hr
theorem refenc_k (K : Int) (F : Fr) (I A1 Kk A2 : Option Addr) (ci k1 ck k2 : Nat) (xs : List (Int × Int)) (ds : List UInt8) (w : World) (e : F.kind = K) (hk : isKind K = true) (hg : RefG w F I A1 Kk A2 xs ds) (hp0 : 0 ≤ F.port) (hp1 : F.port < 65536) (hga : GoodAs xs) (hx : xs.length < 256) (hd : ds.length + 30000 ≤ 140737488355328) :
    Calls Tryd.prog 12 #[.agg #[.int .i64 K, .slice I 12 ci, .int .u32 F.host, .int .i64 F.port, .slice A1 xs.length k1, .int .u64 F.n, .slice Kk 32 ck, .slice A2 ds.length k2]] w
      fun x w' => ∃ v, x = .returned v ∧ w'.ownsRow w.heap.size 5 1 v (encF F xs ds).length (bvs (encF F xs ds)) ∧ Kept [] w w' := by
  subst e
  exact refenc_any F I A1 Kk A2 ci k1 ck k2 xs ds w hk hg hp0 hp1 hga hx hd

set_option maxHeartbeats 4000000 in
theorem refright_1 : RefRightOf 1 := by
  intro F I A1 Kk A2 ci k1 ck k2 xs ds w hkind hg hpr hin hxl hd
  have s0 := RB.start w #[.int .i64 1, .slice I 12 ci, .int .u32 F.host, .int .i64 F.port, .slice A1 xs.length k1, .int .u64 F.n, .slice Kk 32 ck, .slice A2 ds.length k2]
  have HG := Lib.hid hg; have HIN := Lib.hid hin
  have HK := Lib.hid hkind
  have S0 := Lib.hid s0
  have HI := Lib.hid hg.id; have HKE := Lib.hid hg.key
  have g1 := hg.h0; have g2 := hg.h1; have g3 := hg.n0; have g4 := hg.n1
  clear hg hin hkind s0
  go_enter Tryd.func10, Tryd.ntmps10
  go_wp2_with fail
  refine (refport_any F.host F.port _ hpr).mono ?_
  rintro x w1 ⟨rfl, hk1⟩
  have S1 := Lib.hid (S0.out.next hk1)
  clear hk1
  have e0 : w1.cell? ⟨w.heap.size, 0, none⟩ = some (.int .i64 1) := S1.out.cell 0
  have e1 : w1.cell? ⟨w.heap.size, 1, none⟩ = some (.slice I 12 ci) := S1.out.cell 1
  have e2 : w1.cell? ⟨w.heap.size, 2, none⟩ = some (.int .u32 F.host) := S1.out.cell 2
  have e3 : w1.cell? ⟨w.heap.size, 3, none⟩ = some (.int .i64 F.port) := S1.out.cell 3
  have e4 : w1.cell? ⟨w.heap.size, 4, none⟩ = some (.slice A1 xs.length k1) := S1.out.cell 4
  have e5 : w1.cell? ⟨w.heap.size, 5, none⟩ = some (.int .u64 F.n) := S1.out.cell 5
  have e6 : w1.cell? ⟨w.heap.size, 6, none⟩ = some (.slice Kk 32 ck) := S1.out.cell 6
  have e7 : w1.cell? ⟨w.heap.size, 7, none⟩ = some (.slice A2 ds.length k2) := S1.out.cell 7
  by_cases hp : 0 ≤ F.port ∧ F.port < 65536
  rotate_left
  · rw [show portB F.port = false from by simpa [portB] using hp]
    have HP := Lib.hid hp
    clear hp
    go_wp2
    go_ret
    exact ⟨ret_false (rightF_port HP.out), S1.out.kept⟩
  rw [show portB F.port = true from by simpa [portB] using hp]
  have HP := Lib.hid hp
  have hp0 := hp.1; have hp1 := hp.2
  clear hp
  by_cases h8 : 8 < xs.length
  · go_wp2_with fail
    go_ret
    exact ⟨ret_false (rightF_many h8), S1.out.kept⟩
  have HID : Hid ((hasOf F.kind).id = true ∨ (F.id == zeros 12) = true) := .inl (by rw [HK.out]; rfl)
  by_cases hho : F.host = 0
  rotate_left
  · go_wp2
    go_ret
    exact ⟨ret_false (rightF_empty (emptyF_addr (by rw [HK.out]; rfl) (.inl hho))), S1.out.kept⟩
  by_cases hpo : F.port = 0
  rotate_left
  · rw [hho] at e2
    have HHO := Lib.hid hho
    clear hho
    go_wp2
    go_ret
    exact ⟨ret_false (rightF_empty (emptyF_addr (by rw [HK.out]; rfl) (.inr hpo))), S1.out.kept⟩
  have HAD : Hid ((hasOf F.kind).addr = true ∨ (F.host = 0 ∧ F.port = 0)) := .inr ⟨hho, hpo⟩
  rw [hho] at e2
  rw [hpo] at e3
  have HHO := Lib.hid hho; have HPO := Lib.hid hpo
  clear hho hpo
  by_cases hxs : 0 < xs.length
  · go_wp2
    go_ret
    exact ⟨ret_false (rightF_empty (emptyF_addrs (by rw [HK.out]; rfl) hxs)), S1.out.kept⟩
  have HAS : Hid ((hasOf F.kind).addrs = true ∨ xs.length = 0) := .inr (by omega)
  have HX0 := Lib.hid (show xs.length = 0 by omega)
  by_cases hnz : F.n = 0
  rotate_left
  · go_wp2
    go_ret
    exact ⟨ret_false (rightF_empty (emptyF_n (by rw [HK.out]; rfl) (by omega))), S1.out.kept⟩
  have HNN : Hid ((hasOf F.kind).n = true ∨ F.n = 0) := .inr hnz
  rw [hnz] at e5
  have HNZ := Lib.hid hnz
  clear hnz
  go_wp2_with fail
  refine (refzero_n Kk ck 32 F.key _ HKE.out.symm (by have := HKE.out; omega) (HG.out.rk.kept S1.out.kept (by simp))).mono ?_
  rintro x w1' ⟨rfl, rfl⟩
  by_cases hz : zeroB F.key = true
  rotate_left
  · have hz' : zeroB F.key = false := by simpa using hz
    rw [hz']
    have HZ := Lib.hid hz'
    clear hz hz'
    go_wp2
    go_ret
    exact ⟨ret_false (rightF_key HKE.out (by rw [HK.out]; rfl) HZ.out), S1.out.kept⟩
  rw [hz]
  have HKY : Hid ((hasOf F.kind).key = true ∨ (F.key == zeros 32) = true) := .inr (by have h := zeroB_zeros (l := F.key); rw [hz, HKE.out] at h; exact h.symm)
  clear hz
  go_wp2_with fail
  refine (refdata_any 1 _).mono ?_
  rintro x w1' ⟨rfl, rfl⟩
  rw [show dataB 1 = false from rfl]
  by_cases hdz : 0 < ds.length
  · go_wp2
    go_ret
    exact ⟨ret_false (rightF_empty (emptyF_data (by rw [HK.out]; rfl) hdz)), S1.out.kept⟩
  have HDA : Hid ((hasOf F.kind).data = true ∨ ds.length = 0) := .inr (by omega)
  have HEM := Lib.hid (emptyF_true (F := F) (xs := xs) (ds := ds) HID.out HAD.out HAS.out HNN.out HKY.out HDA.out)
  go_wp2_with fail
  clear hxs
  clear e0 e1 e2 e3 e4 e5 e6 e7
  go_loopw [4] (fun i wr => ∃ k : Nat, k ≤ xs.length ∧ i = .int .i64 k ∧ Hid (RB w wr #[.int .i64 1, .slice I 12 ci, .int .u32 F.host, .int .i64 F.port, .slice A1 xs.length k1, .int .u64 F.n, .slice Kk 32 ck, .slice A2 ds.length k2]) ∧ Hid (∀ i, i < k → 0 ≤ (xs[i]?.getD (0, 0)).2 ∧ (xs[i]?.getD (0, 0)).2 < 65536)) (fun i _ => xs.length - (intOf i).toNat)
  case atStart => exact ⟨0, Nat.zero_le _, rfl, S1.out, fun i hi => absurd hi (by omega)⟩
  case round =>
    obtain ⟨k, hk, rfl, SR, HI2⟩ := hrel
    have z4 : wr.cell? ⟨w.heap.size, 4, none⟩ = some (.slice A1 xs.length k1) := SR.out.cell 4
    by_cases hlt : k < xs.length
    · exact absurd hlt (by have := HX0.out; omega)
    · have hke : k = xs.length := by omega
      subst hke
      have hga : GoodAs xs := fun i hi => ⟨(HIN.out.hosts i hi).1, (HIN.out.hosts i hi).2, (HI2.out i hi).1, (HI2.out i hi).2⟩
      have HRF := Lib.hid (rightF_ok (by rw [HK.out]; rfl) HP.out (by omega) (fun e => absurd (HK.out.symm.trans e) (by decide)) HI2.out HEM.out)
      have HGA := Lib.hid hga
      clear hga
      have e0 : wr.cell? ⟨w.heap.size, 0, none⟩ = some (.int .i64 1) := SR.out.cell 0
      have e1 : wr.cell? ⟨w.heap.size, 1, none⟩ = some (.slice I 12 ci) := SR.out.cell 1
      have e2 : wr.cell? ⟨w.heap.size, 2, none⟩ = some (.int .u32 F.host) := SR.out.cell 2
      have e3 : wr.cell? ⟨w.heap.size, 3, none⟩ = some (.int .i64 F.port) := SR.out.cell 3
      have e4 : wr.cell? ⟨w.heap.size, 4, none⟩ = some (.slice A1 xs.length k1) := SR.out.cell 4
      have e5 : wr.cell? ⟨w.heap.size, 5, none⟩ = some (.int .u64 F.n) := SR.out.cell 5
      have e6 : wr.cell? ⟨w.heap.size, 6, none⟩ = some (.slice Kk 32 ck) := SR.out.cell 6
      have e7 : wr.cell? ⟨w.heap.size, 7, none⟩ = some (.slice A2 ds.length k2) := SR.out.cell 7
      go_wp2_with fail
      refine (refenc_k 1 F I A1 Kk A2 ci k1 ck k2 xs ds wr HK.out (by decide) (HG.out.kept SR.out.kept) HP.out.1 HP.out.2 HGA.out (by omega) hd).mono ?_
      rintro x w5 ⟨v5, rfl, hown5, hk5⟩
      obtain ⟨A5, c5, rfl⟩ := own_slice hown5
      have HK5 := Lib.hid (SR.out.kept.trans hk5 (by simp))
      clear hown5 hk5
      obtain ⟨n5, hn5⟩ : ∃ n5, n5 = (encF F xs ds).length := ⟨_, rfl⟩
      rw [← hn5] at HRF ⊢
      clear hn5
      go_wp2
      go_ret
      exact ⟨ret_bool (by rw [HRF.out]; congr 1; rw [eq_iff_iff]; omega), HK5.out⟩

set_option maxHeartbeats 4000000 in
theorem refright_2 : RefRightOf 2 := by
  intro F I A1 Kk A2 ci k1 ck k2 xs ds w hkind hg hpr hin hxl hd
  have s0 := RB.start w #[.int .i64 2, .slice I 12 ci, .int .u32 F.host, .int .i64 F.port, .slice A1 xs.length k1, .int .u64 F.n, .slice Kk 32 ck, .slice A2 ds.length k2]
  have HG := Lib.hid hg; have HIN := Lib.hid hin
  have HK := Lib.hid hkind
  have S0 := Lib.hid s0
  have HI := Lib.hid hg.id; have HKE := Lib.hid hg.key
  have g1 := hg.h0; have g2 := hg.h1; have g3 := hg.n0; have g4 := hg.n1
  clear hg hin hkind s0
  go_enter Tryd.func10, Tryd.ntmps10
  go_wp2_with fail
  refine (refport_any F.host F.port _ hpr).mono ?_
  rintro x w1 ⟨rfl, hk1⟩
  have S1 := Lib.hid (S0.out.next hk1)
  clear hk1
  have e0 : w1.cell? ⟨w.heap.size, 0, none⟩ = some (.int .i64 2) := S1.out.cell 0
  have e1 : w1.cell? ⟨w.heap.size, 1, none⟩ = some (.slice I 12 ci) := S1.out.cell 1
  have e2 : w1.cell? ⟨w.heap.size, 2, none⟩ = some (.int .u32 F.host) := S1.out.cell 2
  have e3 : w1.cell? ⟨w.heap.size, 3, none⟩ = some (.int .i64 F.port) := S1.out.cell 3
  have e4 : w1.cell? ⟨w.heap.size, 4, none⟩ = some (.slice A1 xs.length k1) := S1.out.cell 4
  have e5 : w1.cell? ⟨w.heap.size, 5, none⟩ = some (.int .u64 F.n) := S1.out.cell 5
  have e6 : w1.cell? ⟨w.heap.size, 6, none⟩ = some (.slice Kk 32 ck) := S1.out.cell 6
  have e7 : w1.cell? ⟨w.heap.size, 7, none⟩ = some (.slice A2 ds.length k2) := S1.out.cell 7
  by_cases hp : 0 ≤ F.port ∧ F.port < 65536
  rotate_left
  · rw [show portB F.port = false from by simpa [portB] using hp]
    have HP := Lib.hid hp
    clear hp
    go_wp2
    go_ret
    exact ⟨ret_false (rightF_port HP.out), S1.out.kept⟩
  rw [show portB F.port = true from by simpa [portB] using hp]
  have HP := Lib.hid hp
  have hp0 := hp.1; have hp1 := hp.2
  clear hp
  by_cases h8 : 8 < xs.length
  · go_wp2_with fail
    go_ret
    exact ⟨ret_false (rightF_many h8), S1.out.kept⟩
  have HID : Hid ((hasOf F.kind).id = true ∨ (F.id == zeros 12) = true) := .inl (by rw [HK.out]; rfl)
  have HAD : Hid ((hasOf F.kind).addr = true ∨ (F.host = 0 ∧ F.port = 0)) := .inl (by rw [HK.out]; rfl)
  by_cases hxs : 0 < xs.length
  · go_wp2
    go_ret
    exact ⟨ret_false (rightF_empty (emptyF_addrs (by rw [HK.out]; rfl) hxs)), S1.out.kept⟩
  have HAS : Hid ((hasOf F.kind).addrs = true ∨ xs.length = 0) := .inr (by omega)
  have HX0 := Lib.hid (show xs.length = 0 by omega)
  by_cases hnz : F.n = 0
  rotate_left
  · go_wp2
    go_ret
    exact ⟨ret_false (rightF_empty (emptyF_n (by rw [HK.out]; rfl) (by omega))), S1.out.kept⟩
  have HNN : Hid ((hasOf F.kind).n = true ∨ F.n = 0) := .inr hnz
  rw [hnz] at e5
  have HNZ := Lib.hid hnz
  clear hnz
  go_wp2_with fail
  refine (refzero_n Kk ck 32 F.key _ HKE.out.symm (by have := HKE.out; omega) (HG.out.rk.kept S1.out.kept (by simp))).mono ?_
  rintro x w1' ⟨rfl, rfl⟩
  by_cases hz : zeroB F.key = true
  rotate_left
  · have hz' : zeroB F.key = false := by simpa using hz
    rw [hz']
    have HZ := Lib.hid hz'
    clear hz hz'
    go_wp2
    go_ret
    exact ⟨ret_false (rightF_key HKE.out (by rw [HK.out]; rfl) HZ.out), S1.out.kept⟩
  rw [hz]
  have HKY : Hid ((hasOf F.kind).key = true ∨ (F.key == zeros 32) = true) := .inr (by have h := zeroB_zeros (l := F.key); rw [hz, HKE.out] at h; exact h.symm)
  clear hz
  go_wp2_with fail
  refine (refdata_any 2 _).mono ?_
  rintro x w1' ⟨rfl, rfl⟩
  rw [show dataB 2 = false from rfl]
  by_cases hdz : 0 < ds.length
  · go_wp2
    go_ret
    exact ⟨ret_false (rightF_empty (emptyF_data (by rw [HK.out]; rfl) hdz)), S1.out.kept⟩
  have HDA : Hid ((hasOf F.kind).data = true ∨ ds.length = 0) := .inr (by omega)
  have HEM := Lib.hid (emptyF_true (F := F) (xs := xs) (ds := ds) HID.out HAD.out HAS.out HNN.out HKY.out HDA.out)
  go_wp2_with fail
  clear hxs
  clear e0 e1 e2 e3 e4 e5 e6 e7
  go_loopw [4] (fun i wr => ∃ k : Nat, k ≤ xs.length ∧ i = .int .i64 k ∧ Hid (RB w wr #[.int .i64 2, .slice I 12 ci, .int .u32 F.host, .int .i64 F.port, .slice A1 xs.length k1, .int .u64 F.n, .slice Kk 32 ck, .slice A2 ds.length k2]) ∧ Hid (∀ i, i < k → 0 ≤ (xs[i]?.getD (0, 0)).2 ∧ (xs[i]?.getD (0, 0)).2 < 65536)) (fun i _ => xs.length - (intOf i).toNat)
  case atStart => exact ⟨0, Nat.zero_le _, rfl, S1.out, fun i hi => absurd hi (by omega)⟩
  case round =>
    obtain ⟨k, hk, rfl, SR, HI2⟩ := hrel
    have z4 : wr.cell? ⟨w.heap.size, 4, none⟩ = some (.slice A1 xs.length k1) := SR.out.cell 4
    by_cases hlt : k < xs.length
    · exact absurd hlt (by have := HX0.out; omega)
    · have hke : k = xs.length := by omega
      subst hke
      have hga : GoodAs xs := fun i hi => ⟨(HIN.out.hosts i hi).1, (HIN.out.hosts i hi).2, (HI2.out i hi).1, (HI2.out i hi).2⟩
      have HRF := Lib.hid (rightF_ok (by rw [HK.out]; rfl) HP.out (by omega) (fun e => absurd (HK.out.symm.trans e) (by decide)) HI2.out HEM.out)
      have HGA := Lib.hid hga
      clear hga
      have e0 : wr.cell? ⟨w.heap.size, 0, none⟩ = some (.int .i64 2) := SR.out.cell 0
      have e1 : wr.cell? ⟨w.heap.size, 1, none⟩ = some (.slice I 12 ci) := SR.out.cell 1
      have e2 : wr.cell? ⟨w.heap.size, 2, none⟩ = some (.int .u32 F.host) := SR.out.cell 2
      have e3 : wr.cell? ⟨w.heap.size, 3, none⟩ = some (.int .i64 F.port) := SR.out.cell 3
      have e4 : wr.cell? ⟨w.heap.size, 4, none⟩ = some (.slice A1 xs.length k1) := SR.out.cell 4
      have e5 : wr.cell? ⟨w.heap.size, 5, none⟩ = some (.int .u64 F.n) := SR.out.cell 5
      have e6 : wr.cell? ⟨w.heap.size, 6, none⟩ = some (.slice Kk 32 ck) := SR.out.cell 6
      have e7 : wr.cell? ⟨w.heap.size, 7, none⟩ = some (.slice A2 ds.length k2) := SR.out.cell 7
      go_wp2_with fail
      refine (refenc_k 2 F I A1 Kk A2 ci k1 ck k2 xs ds wr HK.out (by decide) (HG.out.kept SR.out.kept) HP.out.1 HP.out.2 HGA.out (by omega) hd).mono ?_
      rintro x w5 ⟨v5, rfl, hown5, hk5⟩
      obtain ⟨A5, c5, rfl⟩ := own_slice hown5
      have HK5 := Lib.hid (SR.out.kept.trans hk5 (by simp))
      clear hown5 hk5
      obtain ⟨n5, hn5⟩ : ∃ n5, n5 = (encF F xs ds).length := ⟨_, rfl⟩
      rw [← hn5] at HRF ⊢
      clear hn5
      go_wp2
      go_ret
      exact ⟨ret_bool (by rw [HRF.out]; congr 1; rw [eq_iff_iff]; omega), HK5.out⟩

set_option maxHeartbeats 4000000 in
theorem refright_3 : RefRightOf 3 := by
  intro F I A1 Kk A2 ci k1 ck k2 xs ds w hkind hg hpr hin hxl hd
  have s0 := RB.start w #[.int .i64 3, .slice I 12 ci, .int .u32 F.host, .int .i64 F.port, .slice A1 xs.length k1, .int .u64 F.n, .slice Kk 32 ck, .slice A2 ds.length k2]
  have HG := Lib.hid hg; have HIN := Lib.hid hin
  have HK := Lib.hid hkind
  have S0 := Lib.hid s0
  have HI := Lib.hid hg.id; have HKE := Lib.hid hg.key
  have g1 := hg.h0; have g2 := hg.h1; have g3 := hg.n0; have g4 := hg.n1
  clear hg hin hkind s0
  go_enter Tryd.func10, Tryd.ntmps10
  go_wp2_with fail
  refine (refport_any F.host F.port _ hpr).mono ?_
  rintro x w1 ⟨rfl, hk1⟩
  have S1 := Lib.hid (S0.out.next hk1)
  clear hk1
  have e0 : w1.cell? ⟨w.heap.size, 0, none⟩ = some (.int .i64 3) := S1.out.cell 0
  have e1 : w1.cell? ⟨w.heap.size, 1, none⟩ = some (.slice I 12 ci) := S1.out.cell 1
  have e2 : w1.cell? ⟨w.heap.size, 2, none⟩ = some (.int .u32 F.host) := S1.out.cell 2
  have e3 : w1.cell? ⟨w.heap.size, 3, none⟩ = some (.int .i64 F.port) := S1.out.cell 3
  have e4 : w1.cell? ⟨w.heap.size, 4, none⟩ = some (.slice A1 xs.length k1) := S1.out.cell 4
  have e5 : w1.cell? ⟨w.heap.size, 5, none⟩ = some (.int .u64 F.n) := S1.out.cell 5
  have e6 : w1.cell? ⟨w.heap.size, 6, none⟩ = some (.slice Kk 32 ck) := S1.out.cell 6
  have e7 : w1.cell? ⟨w.heap.size, 7, none⟩ = some (.slice A2 ds.length k2) := S1.out.cell 7
  by_cases hp : 0 ≤ F.port ∧ F.port < 65536
  rotate_left
  · rw [show portB F.port = false from by simpa [portB] using hp]
    have HP := Lib.hid hp
    clear hp
    go_wp2
    go_ret
    exact ⟨ret_false (rightF_port HP.out), S1.out.kept⟩
  rw [show portB F.port = true from by simpa [portB] using hp]
  have HP := Lib.hid hp
  have hp0 := hp.1; have hp1 := hp.2
  clear hp
  by_cases h8 : 8 < xs.length
  · go_wp2_with fail
    go_ret
    exact ⟨ret_false (rightF_many h8), S1.out.kept⟩
  go_wp2_with fail
  refine (refzero_n I ci 12 F.id _ HI.out.symm (by have := HI.out; omega) (HG.out.ri.kept S1.out.kept (by simp))).mono ?_
  rintro x w1' ⟨rfl, rfl⟩
  by_cases hz : zeroB F.id = true
  rotate_left
  · have hz' : zeroB F.id = false := by simpa using hz
    rw [hz']
    have HZ := Lib.hid hz'
    clear hz hz'
    go_wp2
    go_ret
    exact ⟨ret_false (rightF_id HI.out (by rw [HK.out]; rfl) HZ.out), S1.out.kept⟩
  rw [hz]
  have HID : Hid ((hasOf F.kind).id = true ∨ (F.id == zeros 12) = true) := .inr (by have h := zeroB_zeros (l := F.id); rw [hz, HI.out] at h; exact h.symm)
  clear hz
  by_cases hho : F.host = 0
  rotate_left
  · go_wp2
    go_ret
    exact ⟨ret_false (rightF_empty (emptyF_addr (by rw [HK.out]; rfl) (.inl hho))), S1.out.kept⟩
  by_cases hpo : F.port = 0
  rotate_left
  · rw [hho] at e2
    have HHO := Lib.hid hho
    clear hho
    go_wp2
    go_ret
    exact ⟨ret_false (rightF_empty (emptyF_addr (by rw [HK.out]; rfl) (.inr hpo))), S1.out.kept⟩
  have HAD : Hid ((hasOf F.kind).addr = true ∨ (F.host = 0 ∧ F.port = 0)) := .inr ⟨hho, hpo⟩
  rw [hho] at e2
  rw [hpo] at e3
  have HHO := Lib.hid hho; have HPO := Lib.hid hpo
  clear hho hpo
  have HAS : Hid ((hasOf F.kind).addrs = true ∨ xs.length = 0) := .inl (by rw [HK.out]; rfl)
  by_cases hnz : F.n = 0
  rotate_left
  · go_wp2
    go_ret
    exact ⟨ret_false (rightF_empty (emptyF_n (by rw [HK.out]; rfl) (by omega))), S1.out.kept⟩
  have HNN : Hid ((hasOf F.kind).n = true ∨ F.n = 0) := .inr hnz
  rw [hnz] at e5
  have HNZ := Lib.hid hnz
  clear hnz
  go_wp2_with fail
  refine (refzero_n Kk ck 32 F.key _ HKE.out.symm (by have := HKE.out; omega) (HG.out.rk.kept S1.out.kept (by simp))).mono ?_
  rintro x w1' ⟨rfl, rfl⟩
  by_cases hz : zeroB F.key = true
  rotate_left
  · have hz' : zeroB F.key = false := by simpa using hz
    rw [hz']
    have HZ := Lib.hid hz'
    clear hz hz'
    go_wp2
    go_ret
    exact ⟨ret_false (rightF_key HKE.out (by rw [HK.out]; rfl) HZ.out), S1.out.kept⟩
  rw [hz]
  have HKY : Hid ((hasOf F.kind).key = true ∨ (F.key == zeros 32) = true) := .inr (by have h := zeroB_zeros (l := F.key); rw [hz, HKE.out] at h; exact h.symm)
  clear hz
  go_wp2_with fail
  refine (refdata_any 3 _).mono ?_
  rintro x w1' ⟨rfl, rfl⟩
  rw [show dataB 3 = false from rfl]
  by_cases hdz : 0 < ds.length
  · go_wp2
    go_ret
    exact ⟨ret_false (rightF_empty (emptyF_data (by rw [HK.out]; rfl) hdz)), S1.out.kept⟩
  have HDA : Hid ((hasOf F.kind).data = true ∨ ds.length = 0) := .inr (by omega)
  have HEM := Lib.hid (emptyF_true (F := F) (xs := xs) (ds := ds) HID.out HAD.out HAS.out HNN.out HKY.out HDA.out)
  go_wp2_with fail
  clear e0 e1 e2 e3 e4 e5 e6 e7
  go_loopw [4] (fun i wr => ∃ k : Nat, k ≤ xs.length ∧ i = .int .i64 k ∧ Hid (RB w wr #[.int .i64 3, .slice I 12 ci, .int .u32 F.host, .int .i64 F.port, .slice A1 xs.length k1, .int .u64 F.n, .slice Kk 32 ck, .slice A2 ds.length k2]) ∧ Hid (∀ i, i < k → 0 ≤ (xs[i]?.getD (0, 0)).2 ∧ (xs[i]?.getD (0, 0)).2 < 65536)) (fun i _ => xs.length - (intOf i).toNat)
  case atStart => exact ⟨0, Nat.zero_le _, rfl, S1.out, fun i hi => absurd hi (by omega)⟩
  case round =>
    obtain ⟨k, hk, rfl, SR, HI2⟩ := hrel
    have z4 : wr.cell? ⟨w.heap.size, 4, none⟩ = some (.slice A1 xs.length k1) := SR.out.cell 4
    by_cases hlt : k < xs.length
    · obtain ⟨b, off, hA, hbl, hcell⟩ := (HG.out.r1.kept SR.out.kept (by simp)).at_ (k := 2 * k) (by rw [avs_length]; omega)
      have x1 := hcell _ _ (avs_get xs k hlt).1
      have x2 := hcell _ _ (avs_get xs k hlt).2
      rw [show off + 2 * k = off + k * 2 by omega] at x1
      rw [show off + (2 * k + 1) = off + k * 2 + 1 by omega] at x2
      obtain ⟨ah, ap, hap⟩ : ∃ ah ap : Int, xs[k]?.getD (0, 0) = (ah, ap) := ⟨_, _, rfl⟩
      rw [hap] at x1 x2
      have hrg : -9223372036854775808 ≤ ap ∧ ap ≤ 9223372036854775807 := by
        have := HIN.out xs[k] (List.getElem_mem hlt)
        rw [List.getElem?_eq_getElem hlt, Option.getD_some] at hap
        rw [hap] at this
        exact ⟨this.2.2.1, this.2.2.2⟩
      have HAP := Lib.hid hap; clear hap
      have HRG := Lib.hid hrg; clear hrg
      subst hA
      clear hcell hbl
      go_wp2_with fail
      refine (refport_any ah ap _ HRG.out).mono ?_
      rintro x w3 ⟨rfl, hk3⟩
      have SR3 := Lib.hid (SR.out.next hk3)
      clear hk3 x1 x2
      by_cases hq : 0 ≤ ap ∧ ap < 65536
      · rw [show portB ap = true from by simpa [portB] using hq]
        have HI3 : Hid (∀ i, i < k + 1 → 0 ≤ (xs[i]?.getD (0, 0)).2 ∧ (xs[i]?.getD (0, 0)).2 < 65536) := fun i hi => by
          by_cases e : i = k
          · rw [e, HAP.out]; exact hq
          · exact HI2.out i (by omega)
        clear hq
        go_wp2
        go_roundw
        case rel => exact ⟨k + 1, by omega, by go_num, SR3, HI3⟩
        case measure => simp [intOf]; omega
      · rw [show portB ap = false from by simpa [portB] using hq]
        have HQ := Lib.hid (rightF_addr (F := F) (ds := ds) k hlt (by rw [HAP.out]; exact hq))
        clear hq
        go_wp2
        go_ret
        exact ⟨ret_false HQ.out, SR3.out.kept⟩
    · have hke : k = xs.length := by omega
      subst hke
      have hga : GoodAs xs := fun i hi => ⟨(HIN.out.hosts i hi).1, (HIN.out.hosts i hi).2, (HI2.out i hi).1, (HI2.out i hi).2⟩
      have HRF := Lib.hid (rightF_ok (by rw [HK.out]; rfl) HP.out (by omega) (fun e => absurd (HK.out.symm.trans e) (by decide)) HI2.out HEM.out)
      have HGA := Lib.hid hga
      clear hga
      have e0 : wr.cell? ⟨w.heap.size, 0, none⟩ = some (.int .i64 3) := SR.out.cell 0
      have e1 : wr.cell? ⟨w.heap.size, 1, none⟩ = some (.slice I 12 ci) := SR.out.cell 1
      have e2 : wr.cell? ⟨w.heap.size, 2, none⟩ = some (.int .u32 F.host) := SR.out.cell 2
      have e3 : wr.cell? ⟨w.heap.size, 3, none⟩ = some (.int .i64 F.port) := SR.out.cell 3
      have e4 : wr.cell? ⟨w.heap.size, 4, none⟩ = some (.slice A1 xs.length k1) := SR.out.cell 4
      have e5 : wr.cell? ⟨w.heap.size, 5, none⟩ = some (.int .u64 F.n) := SR.out.cell 5
      have e6 : wr.cell? ⟨w.heap.size, 6, none⟩ = some (.slice Kk 32 ck) := SR.out.cell 6
      have e7 : wr.cell? ⟨w.heap.size, 7, none⟩ = some (.slice A2 ds.length k2) := SR.out.cell 7
      go_wp2_with fail
      refine (refenc_k 3 F I A1 Kk A2 ci k1 ck k2 xs ds wr HK.out (by decide) (HG.out.kept SR.out.kept) HP.out.1 HP.out.2 HGA.out (by omega) hd).mono ?_
      rintro x w5 ⟨v5, rfl, hown5, hk5⟩
      obtain ⟨A5, c5, rfl⟩ := own_slice hown5
      have HK5 := Lib.hid (SR.out.kept.trans hk5 (by simp))
      clear hown5 hk5
      obtain ⟨n5, hn5⟩ : ∃ n5, n5 = (encF F xs ds).length := ⟨_, rfl⟩
      rw [← hn5] at HRF ⊢
      clear hn5
      go_wp2
      go_ret
      exact ⟨ret_bool (by rw [HRF.out]; congr 1; rw [eq_iff_iff]; omega), HK5.out⟩
end Go.Proofs.YthnmjpohdlimiaaDoor
