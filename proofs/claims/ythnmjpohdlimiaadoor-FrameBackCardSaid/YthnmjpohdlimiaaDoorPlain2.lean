/- What is told is read as it was, in plain Lean. -/
import Derived.Test.YthnmjpohdlimiaaDoorPlain
namespace Go.Proofs.YthnmjpohdlimiaaDoor
open Go.RowKit

theorem rdTake_app (a l : List UInt8) (f : Bool) (n : Nat) (h : a.length = n) : rdTake (a ++ l) f n = (a, l, f) := by
  subst h
  unfold rdTake
  rw [if_pos (by simp), List.take_left, List.drop_left]
theorem rdAddr_app (h p : Int) (l : List UInt8) (f : Bool) (h0 : 0 ≤ h) (h1 : h < 4294967296) (p0 : 0 ≤ p) (p1 : p < 65536) : rdAddr (encA h p ++ l) f = ((h, p), l, f) := by
  unfold encA rdAddr
  rw [List.append_assoc, rdTake_app _ _ _ 4 (encN_length _ _ _)]
  dsimp only
  rw [rdTake_app _ _ _ 2 (encN_length _ _ _)]
  dsimp only
  rw [getN_encN _ _ _ (by omega), getN_encN _ _ _ (by omega), Int.toNat_of_nonneg h0, Int.toNat_of_nonneg p0]
theorem rdLoop_app (xs : List (Int × Int)) (l : List UInt8) (f : Bool) (hx : ∀ x ∈ xs, 0 ≤ x.1 ∧ x.1 < 4294967296 ∧ 0 ≤ x.2 ∧ x.2 < 65536) :
    ∀ n, n ≤ xs.length → rdLoop (encAs xs ++ l) f n = (xs.take n, encAs (xs.drop n) ++ l, f) := by
  intro n
  induction n with
  | zero => intro _; simp [rdLoop]
  | succ n ih =>
    intro hn
    have hd : xs.drop n = xs[n] :: xs.drop (n + 1) := List.drop_eq_getElem_cons (by omega)
    have hg := hx xs[n] (List.getElem_mem (by omega))
    rw [rdLoop, ih (by omega)]
    dsimp only
    rw [hd, encAs_cons, List.append_assoc, rdAddr_app _ _ _ _ hg.1 hg.2.1 hg.2.2.1 hg.2.2.2, List.take_succ_eq_append_getElem (by omega)]
theorem rdAddrs_app (xs : List (Int × Int)) (l : List UInt8) (hx : ∀ x ∈ xs, 0 ≤ x.1 ∧ x.1 < 4294967296 ∧ 0 ≤ x.2 ∧ x.2 < 65536) (hn : xs.length < 256) :
    rdAddrs (encN xs.length 1 true ++ (encAs xs ++ l)) false = (xs, l, false) := by
  have h1 := rdTake_app (encN xs.length 1 true) (encAs xs ++ l) false 1 (encN_length _ _ _)
  have hc : rdCount (encN xs.length 1 true ++ (encAs xs ++ l)) false = xs.length := by
    unfold rdCount
    rw [h1, if_pos rfl, getN_encN _ _ _ (by omega)]
  unfold rdAddrs
  rw [hc, h1]
  have := rdLoop_app xs l false hx xs.length (Nat.le_refl _)
  simpa [encAs] using this
theorem rd_of_enc (h : Has) (id key ds : List UInt8) (host port : Int) (xs : List (Int × Int)) (n : Nat) (hi : id.length = 12) (hk : key.length = 32) (h0 : 0 ≤ host) (h1 : host < 4294967296) (p0 : 0 ≤ port) (p1 : port < 65536)
    (hx : ∀ x ∈ xs, 0 ≤ x.1 ∧ x.1 < 4294967296 ∧ 0 ≤ x.2 ∧ x.2 < 65536) (hxn : xs.length < 256) (hn : n < 18446744073709551616) :
    rdDoes h ((if h.id then id else []) ++ (if h.addr then encA host port else []) ++ (if h.addrs then encN xs.length 1 true ++ encAs xs else []) ++ (if h.n then encN n 8 false else []) ++ (if h.key then key else []) ++ ds) =
      ⟨if h.id then id else List.replicate 12 0, if h.addr then (host, port) else (0, 0), if h.addrs then xs else [], if h.n then n else 0, if h.key then key else List.replicate 32 0, ds, false⟩ := by
  have s1 : ∀ (a : Bool) (z v l : List UInt8) (f : Bool) (m : Nat), v.length = m → (if a = true then rdTake ((if a = true then v else []) ++ l) f m else (z, (if a = true then v else []) ++ l, f)) = (if a = true then v else z, l, f) := by
    intro a z v l f m hv
    cases a
    · rfl
    · simp only [if_true]; exact rdTake_app v l f m hv
  have s2 : ∀ (a : Bool) (l : List UInt8) (f : Bool), (if a = true then rdAddr ((if a = true then encA host port else []) ++ l) f else ((0, 0), (if a = true then encA host port else []) ++ l, f)) = (if a = true then (host, port) else (0, 0), l, f) := by
    intro a l f
    cases a
    · rfl
    · simp only [if_true]; exact rdAddr_app host port l f h0 h1 p0 p1
  have s3 : ∀ (a : Bool) (l : List UInt8), (if a = true then rdAddrs ((if a = true then encN xs.length 1 true ++ encAs xs else []) ++ l) false else ([], (if a = true then encN xs.length 1 true ++ encAs xs else []) ++ l, false)) = (if a = true then xs else [], l, false) := by
    intro a l
    cases a
    · rfl
    · simp only [if_true, List.append_assoc]; exact rdAddrs_app xs l hx hxn
  have s4 : ∀ (a : Bool) (l : List UInt8) (f : Bool), (if a = true then (getN (rdTake ((if a = true then encN n 8 false else []) ++ l) f 8).1 0 8 false, (rdTake ((if a = true then encN n 8 false else []) ++ l) f 8).2) else (0, (if a = true then encN n 8 false else []) ++ l, f)) = (if a = true then n else 0, l, f) := by
    intro a l f
    cases a
    · rfl
    · simp only [if_true]; rw [rdTake_app _ l f 8 (encN_length _ _ _), getN_encN _ _ _ (by omega)]
  unfold rdDoes
  rcases h with ⟨a, b, c, d, e, g⟩
  dsimp only
  rw [List.append_assoc, List.append_assoc, List.append_assoc, List.append_assoc, s1 a (List.replicate 12 0) id _ false 12 hi]
  dsimp only
  rw [s2 b]
  dsimp only
  rw [s3 c]
  dsimp only
  rw [s4 d]
  dsimp only
  rw [s1 e (List.replicate 32 0) key _ false 32 hk]
/-- A right frame is read as it was. -/
theorem enc_dec {F : Fr} {xs : List (Int × Int)} {ds : List UInt8} (hr : rightF F xs ds = true) (hi : F.id.length = 12) (hk : F.key.length = 32) (h0 : 0 ≤ F.host) (h1 : F.host < 4294967296) (n0 : 0 ≤ F.n) (n1 : F.n < 18446744073709551616) (hh : HostsOk xs) :
    decB (UInt8.ofNat F.kind.toNat) (encH F xs ++ ds) = ⟨F.id, (F.host, F.port), xs, F.n.toNat, F.key, ds, false⟩ := by
  obtain ⟨g1, g2, g3, g4, g5, _, _⟩ := rightF_gives hr
  have hkind : 1 ≤ F.kind ∧ F.kind ≤ 10 := by simpa [isKind] using g1
  have hb : ((UInt8.ofNat F.kind.toNat).toNat : Int) = F.kind := by rw [UInt8.toNat_ofNat']; omega
  have hx : ∀ x ∈ xs, 0 ≤ x.1 ∧ x.1 < 4294967296 ∧ 0 ≤ x.2 ∧ x.2 < 65536 := by
    intro x hm
    obtain ⟨k, hk', rfl⟩ := List.getElem_of_mem hm
    have a := hh k hk'
    have b := g4 k hk'
    rw [List.getElem?_eq_getElem hk'] at a b
    exact ⟨a.1, a.2, b.1, b.2⟩
  have h := rd_of_enc (hasOf F.kind) F.id F.key ds F.host F.port xs F.n.toNat hi hk h0 h1 g2.1 g2.2 hx (by omega) (by omega)
  unfold decB encH
  rw [hb, h]
  simp only [emptyF, Bool.and_eq_true, Bool.or_eq_true, beq_iff_eq] at g5
  obtain ⟨⟨⟨⟨⟨e1, e2⟩, e3⟩, e4⟩, e5⟩, e6⟩ := g5
  congr 1
  · split
    · rfl
    · rcases e1 with e | e
      · contradiction
      · exact e.symm
  · split
    · rfl
    · rcases e2 with e | e
      · contradiction
      · rw [e.1, e.2]
  · split
    · rfl
    · rcases e3 with e | e
      · contradiction
      · exact (List.eq_nil_of_length_eq_zero e).symm
  · split
    · rfl
    · rcases e4 with e | e
      · contradiction
      · rw [e]; rfl
  · split
    · rfl
    · rcases e5 with e | e
      · contradiction
      · exact e.symm
/-- .. and Decode takes it. -/
theorem enc_ok {F : Fr} {xs : List (Int × Int)} {ds : List UInt8} (hr : rightF F xs ds = true) (hi : F.id.length = 12) (hk : F.key.length = 32) (h0 : 0 ≤ F.host) (h1 : F.host < 4294967296) (n0 : 0 ≤ F.n) (n1 : F.n < 18446744073709551616) (hh : HostsOk xs) (u v : Value) :
    decOk (UInt8.ofNat F.kind.toNat) (encH F xs ++ ds) = true ∧ decFr (UInt8.ofNat F.kind.toNat) (encH F xs ++ ds) u v = { F with sa := u, sd := v } := by
  have hd := enc_dec hr hi hk h0 h1 n0 n1 hh
  obtain ⟨g1, _⟩ := rightF_gives hr
  have hkind : 1 ≤ F.kind ∧ F.kind ≤ 10 := by simpa [isKind] using g1
  have hb : ((UInt8.ofNat F.kind.toNat).toNat : Int) = F.kind := by rw [UInt8.toNat_ofNat']; omega
  have hF : ∀ u v, decFr (UInt8.ofNat F.kind.toNat) (encH F xs ++ ds) u v = { F with sa := u, sd := v } := by
    intro u v
    unfold decFr
    rw [hd, hb]
    dsimp only
    rw [Int.toNat_of_nonneg n0]
  refine ⟨?_, hF u v⟩
  unfold decOk
  rw [hF, hd]
  exact hr
end Go.Proofs.YthnmjpohdlimiaaDoor
