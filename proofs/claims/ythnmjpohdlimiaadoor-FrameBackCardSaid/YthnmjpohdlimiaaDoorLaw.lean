/- What the laws of frames share: a mask of low bits; what comes of a frame whose rows are cut. -/
import Derived.Test.YthnmjpohdlimiaaDoorPlain2
import Derived.Test.YthnmjpohdlimiaaDoorDecAny
namespace Go.Proofs.YthnmjpohdlimiaaDoor
open Go.RowKit

theorem and_mask (x : Int) (i : Nat) (hi : i ≤ 62) : bits .and .i64 x ((2 ^ i - 1 : Nat) : Int) = x % ((2 ^ i : Nat) : Int) := by
  have hp : 2 ^ i ≤ 2 ^ 62 := Nat.pow_le_pow_right (by decide) hi
  have h1 : (BitVec.ofInt 64 ((2 ^ i - 1 : Nat) : Int)).toNat = 2 ^ i - 1 := by
    rw [BitVec.ofInt_natCast, BitVec.toNat_ofNat]; exact Nat.mod_eq_of_lt (by omega)
  show IntKind.i64.wrap ((BitVec.ofInt 64 x &&& BitVec.ofInt 64 ((2 ^ i - 1 : Nat) : Int)).toNat : Int) = _
  rw [BitVec.toNat_and, h1, Nat.and_two_pow_sub_one_eq_mod, BitVec.toNat_ofInt, IntKind.wrap_i64]
  have hpos : 0 < 2 ^ i := Nat.two_pow_pos i
  have hd : ((2 ^ i : Nat) : Int) ∣ ((2 ^ 64 : Nat) : Int) := by
    exact_mod_cast Nat.pow_dvd_pow 2 (by omega)
  have hx : (((x % ((2 ^ 64 : Nat) : Int)).toNat % 2 ^ i : Nat) : Int) = x % ((2 ^ i : Nat) : Int) := by
    rw [Int.natCast_emod, Int.toNat_of_nonneg (Int.emod_nonneg _ (by decide)), Int.emod_emod_of_dvd _ hd]
  have h0 := Int.emod_nonneg x (b := ((2 ^ i : Nat) : Int)) (by omega)
  have h2 := Int.emod_lt_of_pos x (b := ((2 ^ i : Nat) : Int)) (by omega)
  have h3 : ((2 ^ i : Nat) : Int) ≤ ((2 ^ 62 : Nat) : Int) := by exact_mod_cast hp
  rw [hx]
  generalize x % ((2 ^ i : Nat) : Int) = y at h0 h2 ⊢
  have h4 : ((2 ^ 62 : Nat) : Int) = 4611686018427387904 := by decide
  omega
theorem and_65535 (x : Int) : bits .and .i64 x 65535 = x % 65536 := and_mask x 16 (by decide)
/-- The block that a slice of the call's own lies in. -/
theorem own_addr {w : World} {base n c : Nat} {e : TypeId} {size : Nat} {A : Option Addr} {xs : List Value} (h : w.ownsRow base e size (.slice A n c) n xs) : ∀ a, A = some a → base ≤ a.block ∧ a.block < w.heap.size := by
  intro a ha
  rcases h.2 with ⟨hv, _⟩ | ⟨g, cap, cur, hv, hb, hg, _⟩
  · injection hv with hA; rw [ha] at hA; cases hA
  · injection hv with hA
    rw [ha] at hA
    injection hA with hA
    subst hA
    exact ⟨hb, (Array.getElem?_eq_some_iff.1 hg).1⟩
theorem own_cap {w : World} {base n c : Nat} {A : Option Addr} {xs : List Value} (h : w.ownsRow base 5 1 (.slice A n c) n xs) : n ≤ c ∧ c ≤ maxLen := by
  rcases h.2 with ⟨hv, hn⟩ | ⟨g, cap, cur, hv, hb, hg, hn, hm, _⟩
  · injection hv with _ hn' hc; subst hn'; subst hc; exact ⟨Nat.le_refl _, by unfold maxLen; omega⟩
  · injection hv with _ _ hc; subst hc; exact ⟨hn, hm⟩
/-- What Decode answers of a right frame's bytes. -/
def ReadBack (F : Fr) (xs : List (Int × Int)) (ds : List UInt8) (w : World) (x : Ending) (w' : World) : Prop :=
  Kept [] w w' ∧ ∃ A1 A2 k1 k2, x = .returned (.tuple #[.agg ({ F with sa := .slice A1 xs.length k1, sd := .slice A2 ds.length k2 } : Fr).cells, .int .i64 0]) ∧ Good w' { F with sa := .slice A1 xs.length k1, sd := .slice A2 ds.length k2 } A1 A2 k1 k2 xs ds ∧
    (∀ a, A1 = some a → w.heap.size ≤ a.block) ∧ (∀ a, A2 = some a → w.heap.size ≤ a.block)
theorem back_any {F : Fr} {xs : List (Int × Int)} {ds : List UInt8} (hr : rightF F xs ds = true) (hi : F.id.length = 12) (hk : F.key.length = 32) (h0 : 0 ≤ F.host) (h1 : F.host < 4294967296) (n0 : 0 ≤ F.n) (n1 : F.n < 18446744073709551616) (hh : HostsOk xs)
    (A : Option Addr) (c n : Nat) (w : World) (hn : n = (encF F xs ds).length) (hL : Laid w) (hrd : Rd w A (bvs (encF F xs ds))) (hc : n ≤ c) (hct : c ≤ maxLen) :
    Calls Tryd.prog 13 #[.slice A n c] w fun x w' => ReadBack F xs ds w x w' := by
  subst hn
  have hok := enc_ok hr hi hk h0 h1 n0 n1 hh
  have hdec := enc_dec hr hi hk h0 h1 n0 n1 hh
  obtain ⟨_, _, _, _, _, h1500, _⟩ := rightF_gives hr
  have hl : (encF F xs ds).length = (encH F xs ++ ds).length + 1 := rfl
  rw [hl] at h1500 hc ⊢
  refine (decode_some A c (UInt8.ofNat F.kind.toNat) (encH F xs ++ ds) w hL hrd (by omega) hc hct).mono ?_
  rintro x w' ⟨hkp, _, hyes⟩
  obtain ⟨A1, A2, k1, k2, rfl, hg, ha1, ha2⟩ := hyes (hok undef undef).1
  rw [(hok _ _).2] at hg ⊢
  rw [hdec] at hg ⊢
  exact ⟨hkp, A1, A2, k1, k2, rfl, hg, ha1, ha2⟩
end Go.Proofs.YthnmjpohdlimiaaDoor
