/- frame.port; frame.written: a frame's bytes. -/
import Derived.Test.YthnmjpohdlimiaaDoorDoesW
namespace Go.Proofs.YthnmjpohdlimiaaDoor
open Go.RowKit

theorem port_yes (h p : Int) (w : World) (h1 : 0 ≤ p) (h2 : p < 65536) :
    Calls Tryd.prog 21 #[.agg #[.int .u32 h, .int .i64 p]] w fun e w' => e = .returned (.bool true) ∧ Kept [] w w' := by
  go_enter Tryd.func21, Tryd.ntmps21
  go_wp2
  go_ret
  exact ⟨by simp, (Kept.refl [] w).alloc _⟩
theorem port_no (h p : Int) (w : World) (h1 : p < 0 ∨ 65536 ≤ p) :
    Calls Tryd.prog 21 #[.agg #[.int .u32 h, .int .i64 p]] w fun e w' => e = .returned (.bool false) ∧ Kept [] w w' := by
  rcases h1 with h1 | h1
  · go_enter Tryd.func21, Tryd.ntmps21
    go_wp2
    go_ret
    exact ⟨by simp, (Kept.refl [] w).alloc _⟩
  · have h2 : 0 ≤ p := by omega
    go_enter Tryd.func21, Tryd.ntmps21
    go_wp2
    go_ret
    exact ⟨by simp; omega, (Kept.refl [] w).alloc _⟩

/-- A frame's bytes. -/
def encF (F : Fr) (xs : List (Int × Int)) (ds : List UInt8) : List UInt8 := UInt8.ofNat F.kind.toNat :: (encH F xs ++ ds)

/-- What a frame that is told asks of what it holds. -/
structure Good (w : World) (F : Fr) (A1 A2 : Option Addr) (k1 k2 : Nat) (xs : List (Int × Int)) (ds : List UInt8) : Prop where
  id : F.id.length = 12
  key : F.key.length = 32
  sa : F.sa = .slice A1 xs.length k1
  sd : F.sd = .slice A2 ds.length k2
  r1 : Rd w A1 (avs xs)
  r2 : Rd w A2 (bvs ds)
  a1 : ∀ a, A1 = some a → a.block < w.heap.size
  a2 : ∀ a, A2 = some a → a.block < w.heap.size
  h0 : 0 ≤ F.host
  h1 : F.host < 4294967296
  n0 : 0 ≤ F.n
  n1 : F.n < 18446744073709551616

set_option maxHeartbeats 1000000 in
theorem written_any (F : Fr) (A1 A2 : Option Addr) (k1 k2 : Nat) (xs : List (Int × Int)) (ds : List UInt8) (w : World) (hL : Laid w) (hk : isKind F.kind = true) (hg : Good w F A1 A2 k1 k2 xs ds)
    (g3 : 0 ≤ F.port) (g4 : F.port < 65536) (g5 : GoodAs xs) (g6 : xs.length < 256) (h5 : ds.length + 30000 ≤ 140737488355328) :
    Calls Tryd.prog 16 #[.agg F.cells] w fun x w' => ∃ v, x = .returned v ∧ w'.ownsRow w.heap.size 5 1 v (encF F xs ds).length (bvs (encF F xs ds)) ∧ Kept [] w w' := by
  have hk' : 1 ≤ F.kind ∧ F.kind ≤ 10 := by simpa [isKind] using hk
  have c0 : (w.alloc (.cells F.cells 33)).cell? ⟨w.heap.size, 0, none⟩ = some (.int .i64 F.kind) := by
    rw [World.cell?_alloc_at _ _ _ _ rfl]; exact Fr.get_kind hg.id hg.key
  have HL := Lib.hid hL
  have HG := Lib.hid hg
  have H5 := Lib.hid g5
  clear hL hg g5
  go_enter Tryd.func16, Tryd.ntmps16
  go_wp2_with fail
  have hkb : F.kind = ((UInt8.ofNat F.kind.toNat).toNat : Int) := by rw [UInt8.toNat_ofNat']; omega
  have hkept : Kept [] w (((w.alloc (.cells F.cells 33)).alloc (.cells #[.int .u8 F.kind] 5)).alloc (.cells #[.slice (some ⟨w.heap.size + 1, 0, none⟩) 1 1, .bool false, .bool false] 62)) :=
    (((Kept.refl [] w).alloc _).alloc _).alloc _
  have hF : FB (((w.alloc (.cells F.cells 33)).alloc (.cells #[.int .u8 F.kind] 5)).alloc (.cells #[.slice (some ⟨w.heap.size + 1, 0, none⟩) 1 1, .bool false, .bool false] 62)) w.heap.size F :=
    ⟨by rw [Below.heap_alloc _ _ _ (by simp; omega), Below.heap_alloc _ _ _ (by simp), heap_alloc_new], HG.out.id, HG.out.key⟩
  have hC : CW (((w.alloc (.cells F.cells 33)).alloc (.cells #[.int .u8 F.kind] 5)).alloc (.cells #[.slice (some ⟨w.heap.size + 1, 0, none⟩) 1 1, .bool false, .bool false] 62)) (w.heap.size + 1) (w.heap.size + 1 + 1)
      (.slice (some ⟨w.heap.size + 1, 0, none⟩) 1 1) [UInt8.ofNat F.kind.toNat] := by
    refine ⟨?_, ⟨by simp, .inr ⟨w.heap.size + 1, 1, #[.int .u8 F.kind], rfl, Nat.le_refl _, ?_, by simp, by simp [maxLen], by simp, ?_⟩⟩⟩
    · have := heap_alloc_new ((w.alloc (.cells F.cells 33)).alloc (.cells #[.int .u8 F.kind] 5)) (.cells #[.slice (some ⟨w.heap.size + 1, 0, none⟩) 1 1, .bool false, .bool false] 62)
      simpa using this
    · rw [Below.heap_alloc _ _ _ (by simp)]
      have := heap_alloc_new (w.alloc (.cells F.cells 33)) (.cells #[.int .u8 F.kind] 5)
      simpa using this
    · simp [bvs]; omega
  refine (does_w F.kind hk (w.heap.size + 1) (w.heap.size + 1 + 1) w.heap.size A1 A2 k1 k2 F _ _ xs ds _ rfl (HL.out.kept hkept (by simp)) hF hC (by simp) (by omega) HG.out.sa HG.out.sd (HG.out.r1.kept hkept (by simp)) (HG.out.r2.kept hkept (by simp))
    (fun a e => by have := HG.out.a1 a e; omega) (fun a e => by have := HG.out.a2 a e; omega) HG.out.h0 HG.out.h1 g3 g4 H5.out g6 HG.out.n0 HG.out.n1 (by simp; omega)).mono ?_
  rintro x w1 ⟨rfl, v1, hC1, hM1⟩
  obtain ⟨e0, _, _, _⟩ := hC1.cell
  have hk1 : Kept [] w w1 := hkept.trans hM1.kept fun k hk hm => by
    rcases List.mem_cons.1 hm with rfl | hm
    · omega
    · simp [Value.ownBlock] at hm; omega
  have HC1 := Lib.hid hC1
  have HK1 := Lib.hid hk1
  clear hC1 hM1 hk1 hC hF hkept hkb
  go_wp2
  go_ret
  exact ⟨_, rfl, own_base HC1.out.own (by omega), HK1.out⟩
end Go.Proofs.YthnmjpohdlimiaaDoor
