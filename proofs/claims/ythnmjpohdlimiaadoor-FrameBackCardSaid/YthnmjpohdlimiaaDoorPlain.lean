/- What is told and what is read, in plain Lean. -/
import Derived.Test.YthnmjpohdlimiaaDoorShown
namespace Go.Proofs.YthnmjpohdlimiaaDoor
open Go.RowKit

theorem encL_succ (n s : Nat) : encL n (s + 1) = UInt8.ofNat n :: encL (n / 256) s := by
  unfold encL
  rw [List.range_succ_eq_map, List.map_cons, List.map_map]
  congr 1
  · simp
  · apply List.map_congr_left
    intro k _
    simp only [Function.comp, Nat.pow_succ', Nat.div_div_eq_div_mul]
theorem encL_be (l : List UInt8) : encL (be l) l.length = l.reverse := by
  have : ∀ m : List UInt8, encL (be m.reverse) m.length = m := by
    intro m
    induction m with
    | nil => rfl
    | cons b m ih =>
      rw [List.reverse_cons, be_snoc, List.length_cons, encL_succ]
      have hb := b.toNat_lt
      congr 1
      · apply UInt8.toNat.inj
        rw [UInt8.toNat_ofNat']
        omega
      · rw [show (be m.reverse * 256 + b.toNat) / 256 = be m.reverse by omega]
        exact ih
  have h := this l.reverse
  rwa [List.reverse_reverse, List.length_reverse] at h
theorem be_encL (n s : Nat) : be (encL n s).reverse = n % 256 ^ s := by
  induction s generalizing n with
  | zero => simp [encL, be, Nat.mod_one]
  | succ s ih =>
    have h := Nat.mod_mul (x := n) (a := 256) (b := 256 ^ s)
    rw [encL_succ, List.reverse_cons, be_snoc, ih, UInt8.toNat_ofNat', show 256 ^ (s + 1) = 256 * 256 ^ s from Nat.pow_succ', h]
    omega
theorem encN_getN (l : List UInt8) (s : Nat) (big : Bool) (h : l.length = s) : encN (getN l 0 s big) s big = l := by
  subst h
  unfold encN getN ord
  cases big
  · have := encL_be l.reverse
    simp only [List.drop_zero, List.take_length, Bool.false_eq_true, if_false]
    rw [List.length_reverse, List.reverse_reverse] at this
    exact this
  · simp only [List.drop_zero, List.take_length, if_true]
    rw [encL_be, List.reverse_reverse]
theorem getN_encN (n s : Nat) (big : Bool) (h : n < 256 ^ s) : getN (encN n s big) 0 s big = n := by
  unfold encN getN ord
  cases big
  · simp only [List.drop_zero, Bool.false_eq_true, if_false]
    rw [List.take_of_length_le (by rw [encL_length]; exact Nat.le_refl _), be_encL, Nat.mod_eq_of_lt h]
  · simp only [List.drop_zero, if_true]
    rw [List.take_of_length_le (by rw [List.length_reverse, encL_length]; exact Nat.le_refl _), be_encL, Nat.mod_eq_of_lt h]

/- Bytes that were read are told again. -/
theorem rdTake_ok {l : List UInt8} {f : Bool} {n : Nat} (h : (rdTake l f n).2.2 = false) : f = false ∧ n ≤ l.length ∧ rdTake l f n = (l.take n, l.drop n, false) := by
  unfold rdTake at h ⊢
  split at h
  · rename_i hn
    rw [if_pos hn]
    exact ⟨h, hn, by rw [show f = false from h]⟩
  · cases h
theorem st_take (a : Bool) (n : Nat) (z l : List UInt8) (f : Bool) (h : (if a = true then rdTake l f n else (z, l, f)).2.2 = false) :
    f = false ∧ (if a = true then (if a = true then rdTake l f n else (z, l, f)).1 else []) ++ (if a = true then rdTake l f n else (z, l, f)).2.1 = l := by
  cases a
  · exact ⟨h, rfl⟩
  · obtain ⟨h1, _, h2⟩ := rdTake_ok h
    simp only [if_true]
    exact ⟨h1, by rw [h2]; exact List.take_append_drop _ _⟩
theorem rdAddr_enc {l : List UInt8} {f : Bool} (h : (rdAddr l f).2.2 = false) : f = false ∧ encA (rdAddr l f).1.1 (rdAddr l f).1.2 ++ (rdAddr l f).2.1 = l := by
  obtain ⟨h1, n1, e1⟩ := rdTake_ok (l := (rdTake l f 4).2.1) (f := (rdTake l f 4).2.2) (n := 2) h
  obtain ⟨h2, n2, e2⟩ := rdTake_ok h1
  refine ⟨h2, ?_⟩
  unfold encA rdAddr
  rw [e1, e2]
  rw [e2] at n1
  simp only [Int.toNat_natCast] at n1 ⊢
  rw [encN_getN _ _ _ (by simp; omega), encN_getN _ _ _ (by simp; simp at n1; omega), List.append_assoc, List.take_append_drop, List.take_append_drop]
theorem rdLoop_enc (l : List UInt8) (f : Bool) (n : Nat) (h : (rdLoop l f n).2.2 = false) : f = false ∧ encAs (rdLoop l f n).1 ++ (rdLoop l f n).2.1 = l := by
  induction n with
  | zero => exact ⟨h, rfl⟩
  | succ n ih =>
    obtain ⟨h1, e1⟩ := rdAddr_enc (l := (rdLoop l f n).2.1) (f := (rdLoop l f n).2.2) h
    obtain ⟨h2, e2⟩ := ih h1
    refine ⟨h2, ?_⟩
    rw [rdLoop]
    simp only [encAs_append]
    rw [List.append_assoc]
    have : encAs [(rdAddr (rdLoop l f n).2.1 (rdLoop l f n).2.2).1] = encA (rdAddr (rdLoop l f n).2.1 (rdLoop l f n).2.2).1.1 (rdAddr (rdLoop l f n).2.1 (rdLoop l f n).2.2).1.2 := by simp [encAs]
    rw [this, e1, e2]
theorem rdAddrs_enc {l : List UInt8} {f : Bool} (h : (rdAddrs l f).2.2 = false) : f = false ∧ encN (rdAddrs l f).1.length 1 true ++ encAs (rdAddrs l f).1 ++ (rdAddrs l f).2.1 = l := by
  obtain ⟨h1, e1⟩ := rdLoop_enc _ _ _ h
  obtain ⟨h2, n2, e2⟩ := rdTake_ok h1
  refine ⟨h2, ?_⟩
  have hc : (rdAddrs l f).1.length = getN (l.take 1) 0 1 true := by
    unfold rdAddrs
    rw [rdLoop_length]
    unfold rdCount
    rw [if_pos h1, e2]
  rw [hc, encN_getN _ _ _ (by simp; omega), List.append_assoc]
  unfold rdAddrs
  rw [e1, e2]
  exact List.take_append_drop _ _
theorem rd_enc (h : Has) (l : List UInt8) (hf : (rdDoes h l).fails = false) :
    (if h.id then (rdDoes h l).id else []) ++ (if h.addr then encA (rdDoes h l).addr.1 (rdDoes h l).addr.2 else []) ++ (if h.addrs then encN (rdDoes h l).xs.length 1 true ++ encAs (rdDoes h l).xs else []) ++
      (if h.n then encN (rdDoes h l).n 8 false else []) ++ (if h.key then (rdDoes h l).key else []) ++ (rdDoes h l).rest = l := by
  have st_addr : ∀ (a : Bool) (l : List UInt8) (f : Bool), (if a = true then rdAddr l f else ((0, 0), l, f)).2.2 = false →
      f = false ∧ (if a = true then encA (if a = true then rdAddr l f else ((0, 0), l, f)).1.1 (if a = true then rdAddr l f else ((0, 0), l, f)).1.2 else []) ++ (if a = true then rdAddr l f else ((0, 0), l, f)).2.1 = l := by
    intro a l f h
    cases a
    · exact ⟨h, rfl⟩
    · exact rdAddr_enc h
  have st_addrs : ∀ (a : Bool) (l : List UInt8) (f : Bool), (if a = true then rdAddrs l f else ([], l, f)).2.2 = false →
      f = false ∧ (if a = true then encN (if a = true then rdAddrs l f else ([], l, f)).1.length 1 true ++ encAs (if a = true then rdAddrs l f else ([], l, f)).1 else []) ++ (if a = true then rdAddrs l f else ([], l, f)).2.1 = l := by
    intro a l f h
    cases a
    · exact ⟨h, rfl⟩
    · exact rdAddrs_enc h
  have st_n : ∀ (a : Bool) (l : List UInt8) (f : Bool), (if a = true then (getN (rdTake l f 8).1 0 8 false, (rdTake l f 8).2) else (0, l, f)).2.2 = false →
      f = false ∧ (if a = true then encN (if a = true then (getN (rdTake l f 8).1 0 8 false, (rdTake l f 8).2) else (0, l, f)).1 8 false else []) ++ (if a = true then (getN (rdTake l f 8).1 0 8 false, (rdTake l f 8).2) else (0, l, f)).2.1 = l := by
    intro a l f h
    cases a
    · exact ⟨h, rfl⟩
    · obtain ⟨h1, n1, e1⟩ := rdTake_ok (l := l) (f := f) (n := 8) h
      simp only [if_true]
      rw [e1]
      exact ⟨h1, by rw [encN_getN _ _ _ (by simp; omega)]; exact List.take_append_drop _ _⟩
  unfold rdDoes at hf ⊢
  dsimp only at hf ⊢
  obtain ⟨f4, e5⟩ := st_take h.key 32 (List.replicate 32 0) _ _ hf
  obtain ⟨f3, e4⟩ := st_n h.n _ _ f4
  obtain ⟨f2, e3⟩ := st_addrs h.addrs _ _ f3
  obtain ⟨f1, e2⟩ := st_addr h.addr _ _ f2
  obtain ⟨_, e1⟩ := st_take h.id 12 (List.replicate 12 0) l false f1
  simp only [List.append_assoc] at e1 e2 e3 e4 e5 ⊢
  rw [e5, e4, e3, e2, e1]
/-- Bytes that are a frame are told again as they were. -/
theorem dec_enc (b0 : UInt8) (l : List UInt8) (u v : Value) (h : (decB b0 l).fails = false) : encF (decFr b0 l u v) (decB b0 l).xs (decB b0 l).rest = b0 :: l := by
  have hh := rd_enc (hasOf b0.toNat) l h
  unfold encF encH
  congr 1
  simp [decFr]
end Go.Proofs.YthnmjpohdlimiaaDoor
