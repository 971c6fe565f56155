/- frame.Right: is a frame one that may be told? -/
import Derived.Test.YthnmjpohdlimiaaDoorWritten
import Derived.Test.YthnmjpohdlimiaaDoorEq
namespace Go.Proofs.YthnmjpohdlimiaaDoor
open Go.RowKit

def zeros (n : Nat) : List UInt8 := List.replicate n 0
def portB (p : Int) : Bool := decide (0 ≤ p ∧ p < 65536)
def emptyF (F : Fr) (xs : List (Int × Int)) (ds : List UInt8) : Bool :=
  ((hasOf F.kind).id || F.id == zeros 12) && ((hasOf F.kind).addr || (F.host == 0 && F.port == 0)) && ((hasOf F.kind).addrs || xs.length == 0) && ((hasOf F.kind).n || F.n == 0) &&
    ((hasOf F.kind).key || F.key == zeros 32) && ((hasOf F.kind).data || ds.length == 0)
/-- Is a frame right? -/
def rightF (F : Fr) (xs : List (Int × Int)) (ds : List UInt8) : Bool :=
  isKind F.kind && portB F.port && decide (xs.length ≤ 8) && !(F.kind == 4 && decide (1000 < ds.length)) && xs.all (fun x => portB x.2) && emptyF F xs ds && decide ((encF F xs ds).length ≤ 1500)
theorem emptyF_true {F : Fr} {xs : List (Int × Int)} {ds : List UInt8} (h1 : (hasOf F.kind).id = true ∨ (F.id == zeros 12) = true) (h2 : (hasOf F.kind).addr = true ∨ (F.host = 0 ∧ F.port = 0)) (h3 : (hasOf F.kind).addrs = true ∨ xs.length = 0)
    (h4 : (hasOf F.kind).n = true ∨ F.n = 0) (h5 : (hasOf F.kind).key = true ∨ (F.key == zeros 32) = true) (h6 : (hasOf F.kind).data = true ∨ ds.length = 0) : emptyF F xs ds = true := by
  unfold emptyF
  rcases h1 with h1 | h1 <;> rcases h2 with h2 | ⟨h2, h2'⟩ <;> rcases h3 with h3 | h3 <;> rcases h4 with h4 | h4 <;> rcases h5 with h5 | h5 <;> rcases h6 with h6 | h6 <;> simp [*]
theorem emptyF_id {F : Fr} {xs : List (Int × Int)} {ds : List UInt8} (h : (hasOf F.kind).id = false) (h' : (F.id == zeros 12) = false) : emptyF F xs ds = false := by unfold emptyF; rw [h, h']; rfl
theorem emptyF_addr {F : Fr} {xs : List (Int × Int)} {ds : List UInt8} (h : (hasOf F.kind).addr = false) (h' : F.host ≠ 0 ∨ F.port ≠ 0) : emptyF F xs ds = false := by
  have : (F.host == 0 && F.port == 0) = false := by simpa using fun e => h'.resolve_left (fun k => k e)
  unfold emptyF; rw [h, this]; simp
theorem emptyF_addrs {F : Fr} {xs : List (Int × Int)} {ds : List UInt8} (h : (hasOf F.kind).addrs = false) (h' : 0 < xs.length) : emptyF F xs ds = false := by
  have : (xs.length == 0) = false := by rw [beq_eq_false_iff_ne]; omega
  unfold emptyF; rw [h, this]; simp
theorem emptyF_n {F : Fr} {xs : List (Int × Int)} {ds : List UInt8} (h : (hasOf F.kind).n = false) (h' : 0 < F.n) : emptyF F xs ds = false := by
  have : (F.n == 0) = false := by rw [beq_eq_false_iff_ne]; omega
  unfold emptyF; rw [h, this]; simp
theorem emptyF_key {F : Fr} {xs : List (Int × Int)} {ds : List UInt8} (h : (hasOf F.kind).key = false) (h' : (F.key == zeros 32) = false) : emptyF F xs ds = false := by unfold emptyF; rw [h, h']; simp
theorem emptyF_data {F : Fr} {xs : List (Int × Int)} {ds : List UInt8} (h : (hasOf F.kind).data = false) (h' : 0 < ds.length) : emptyF F xs ds = false := by
  have : (ds.length == 0) = false := by rw [beq_eq_false_iff_ne]; omega
  unfold emptyF; rw [h, this]; simp
theorem rightF_kind {F : Fr} {xs : List (Int × Int)} {ds : List UInt8} (h : isKind F.kind = false) : rightF F xs ds = false := by simp [rightF, h]
theorem rightF_port {F : Fr} {xs : List (Int × Int)} {ds : List UInt8} (h : ¬ (0 ≤ F.port ∧ F.port < 65536)) : rightF F xs ds = false := by
  have : portB F.port = false := by simpa [portB] using h
  simp [rightF, this]
theorem rightF_many {F : Fr} {xs : List (Int × Int)} {ds : List UInt8} (h : 8 < xs.length) : rightF F xs ds = false := by
  have : decide (xs.length ≤ 8) = false := by simp; omega
  simp [rightF, this]
theorem rightF_data {F : Fr} {xs : List (Int × Int)} {ds : List UInt8} (hk : F.kind = 4) (h : 1000 < ds.length) : rightF F xs ds = false := by
  have : decide (1000 < ds.length) = true := by simpa using h
  simp [rightF, this, hk]
theorem rightF_addr {F : Fr} {xs : List (Int × Int)} {ds : List UInt8} (k : Nat) (hk : k < xs.length) (h : ¬ (0 ≤ (xs[k]?.getD (0, 0)).2 ∧ (xs[k]?.getD (0, 0)).2 < 65536)) : rightF F xs ds = false := by
  have : xs.all (fun x => portB x.2) = false := by
    rw [List.all_eq_false]
    rw [List.getElem?_eq_getElem hk] at h
    exact ⟨xs[k], List.getElem_mem hk, by simpa [portB] using h⟩
  simp [rightF, this]
theorem rightF_empty {F : Fr} {xs : List (Int × Int)} {ds : List UInt8} (h : emptyF F xs ds = false) : rightF F xs ds = false := by simp [rightF, h]
theorem rightF_ok {F : Fr} {xs : List (Int × Int)} {ds : List UInt8} (h1 : isKind F.kind = true) (h2 : 0 ≤ F.port ∧ F.port < 65536) (h3 : xs.length ≤ 8) (h4 : F.kind = 4 → ds.length ≤ 1000)
    (h5 : ∀ k, k < xs.length → 0 ≤ (xs[k]?.getD (0, 0)).2 ∧ (xs[k]?.getD (0, 0)).2 < 65536) (h6 : emptyF F xs ds = true) : rightF F xs ds = decide ((encF F xs ds).length ≤ 1500) := by
  have a2 : portB F.port = true := by simpa [portB] using h2
  have a4 : (F.kind == 4 && decide (1000 < ds.length)) = false := by
    by_cases hk : F.kind = 4
    · have := h4 hk
      simp [hk]; omega
    · simp [hk]
  have a5 : xs.all (fun x => portB x.2) = true := by
    rw [List.all_eq_true]
    intro x hx
    obtain ⟨k, hk, rfl⟩ := List.getElem_of_mem hx
    have := h5 k hk
    rw [List.getElem?_eq_getElem hk] at this
    simpa [portB] using this
  simp only [rightF, h1, a2, h3, a4, a5, h6, decide_true, Bool.not_false, Bool.and_self, Bool.true_and]

theorem Good.kept {w w' : World} {F : Fr} {A1 A2 : Option Addr} {k1 k2 : Nat} {xs : List (Int × Int)} {ds : List UInt8} (h : Good w F A1 A2 k1 k2 xs ds) (hk : Kept [] w w') : Good w' F A1 A2 k1 k2 xs ds :=
  ⟨h.id, h.key, h.sa, h.sd, h.r1.kept hk (by simp), h.r2.kept hk (by simp), fun a e => Nat.lt_of_lt_of_le (h.a1 a e) hk.size, fun a e => Nat.lt_of_lt_of_le (h.a2 a e) hk.size, h.h0, h.h1, h.n0, h.n1⟩
/-- What is known in the midst of Right. -/
structure RS (w0 w : World) (B hb : Nat) (F : Fr) (h : Has) : Prop where
  fb : FB w B F
  hb : HB w hb h
  lay : Laid w
  kept : Kept [] w0 w
theorem RS.next {w0 w w' : World} {B hb : Nat} {F : Fr} {h : Has} (s : RS w0 w B hb F h) (hk : Kept [] w w') : RS w0 w' B hb F h :=
  ⟨s.fb.kept hk (by simp), (hk.block hb (Array.getElem?_eq_some_iff.1 s.hb).1 (by simp)).trans s.hb, s.lay.kept hk (by simp), s.kept.trans hk (by simp)⟩
/-- The hosts that a frame's addresses have. -/
def HostsOk (l : List (Int × Int)) : Prop := ∀ k, k < l.length → 0 ≤ (l[k]?.getD (0, 0)).1 ∧ (l[k]?.getD (0, 0)).1 < 4294967296
/-- frame.Right, for one kind. -/
def RightOf (K : Int) : Prop := ∀ (F : Fr) (A1 A2 : Option Addr) (k1 k2 : Nat) (xs : List (Int × Int)) (ds : List UInt8) (w : World) (_ : F.kind = K) (_ : Laid w) (_ : Good w F A1 A2 k1 k2 xs ds) (_ : HostsOk xs) (_ : xs.length ≤ 140737488355328) (_ : ds.length + 30000 ≤ 140737488355328),
    Calls Tryd.prog 11 #[.agg F.cells] w fun x w' => x = .returned (.bool (rightF F xs ds)) ∧ Kept [] w w'
theorem info_arr12 : (Tryd.prog.info? 23).map (·.size) = some 12 := by kernel_rfl
theorem info_arr32 : (Tryd.prog.info? 30).map (·.size) = some 32 := by kernel_rfl
theorem info_frame : (Tryd.prog.info? 33).map (·.size) = some 50 := by kernel_rfl
theorem guard12 : Tryd.prog.eqGuardType Tryd.prog.depth 23 = false := by kernel_rfl
theorem guard32 : Tryd.prog.eqGuardType Tryd.prog.depth 30 = false := by kernel_rfl
theorem cells_byte : Tryd.prog.cellsOf 5 = 1 := by kernel_rfl
theorem plain_byte : Tryd.prog.plainKey 5 = true := by kernel_rfl
theorem ret_false {b : Bool} (h : b = false) : Ending.returned (.bool false) = .returned (.bool b) := by rw [h]
end Go.Proofs.YthnmjpohdlimiaaDoor
