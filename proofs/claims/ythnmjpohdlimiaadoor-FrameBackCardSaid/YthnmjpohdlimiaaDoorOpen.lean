/- A frame that came in as an argument; addresses that came in. -/
import Derived.Test.YthnmjpohdlimiaaDoorRowKit
import Derived.Test.YthnmjpohdlimiaaDoorRightA
import Derived.Deep.SlicePairs
namespace Go.Proofs.YthnmjpohdlimiaaDoor
open Go.ChangeShapes Go.WideShapes Go.ChangeAt Go.RowKit

theorem cut_drop {α : Type} (l : List α) (a k b : Nat) (h : a + k = b) : l.drop a = (l.drop a).take k ++ l.drop b := by
  subst h
  rw [← List.drop_drop, List.take_append_drop]
/-- Fifty cells, by a frame's fields. -/
theorem cut_frame {α : Type} (l : List α) (h : l.length = 50) :
    l = (l.drop 0).take 1 ++ ((l.drop 1).take 12 ++ ((l.drop 13).take 2 ++ ((l.drop 15).take 1 ++ ((l.drop 16).take 1 ++ ((l.drop 17).take 32 ++ (l.drop 49).take 1))))) := by
  have e0 := cut_drop l 0 1 1 rfl
  have e1 := cut_drop l 1 12 13 rfl
  have e2 := cut_drop l 13 2 15 rfl
  have e3 := cut_drop l 15 1 16 rfl
  have e4 := cut_drop l 16 1 17 rfl
  have e5 := cut_drop l 17 32 49 rfl
  have e6 := cut_drop l 49 1 50 rfl
  rw [show l.drop 50 = [] from List.drop_eq_nil_of_le (by omega), List.append_nil] at e6
  rw [← e6, ← e5, ← e4, ← e3, ← e2, ← e1, ← e0]
  rfl
section
variable {H : Type} {enc : TypeId × Value → H} {W : World} {spare : Nat → Bool} {held : Bool}
/-- An array of bytes. -/
theorem open_array {n : Nat} {t : TypeId} (ht : Tryd.prog.underlying t = some (.array n 5)) (hn : Tryd.prog.cellsOf t = n) {fuel : Nat} {cs : List Value} {x : DataW H × List MemPlace}
    (h : DataW.trod enc Tryd.prog W 0 spare held fuel t cs = some x) : ∃ l : List UInt8, l.length = n ∧ cs = bvs l := by
  obtain ⟨xs, m, _, _, hlen, hl, hel⟩ := DataW.trod_array ht h
  rw [hn] at hlen
  have c1 : Tryd.prog.cellsOf 5 = 1 := by kernel_rfl
  have each : ∀ i, i < n → ∃ b : UInt8, cs[i]? = some (.int .u8 b.toNat) := by
    intro i hi
    have hx := hel i hi
    rw [c1, Nat.mul_one, List.getElem?_eq_getElem (show i < xs.length by omega)] at hx
    obtain ⟨k, hk, _, hw⟩ := DataW.trod_int Tryd.underlying5 hx
    have hb := bounds_u8 hw
    refine ⟨UInt8.ofNat k.toNat, ?_⟩
    have e : cs[i]? = ((cs.drop i).take 1)[0]? := by rw [List.getElem?_take_of_lt (by omega), List.getElem?_drop]; rfl
    rw [e, hk, UInt8.toNat_ofNat']
    simp only [List.getElem?_cons_zero, Option.some.injEq, Value.int.injEq, true_and]
    omega
  refine ⟨(List.range n).map fun i => match cs[i]? with | some (Value.int _ k) => UInt8.ofNat k.toNat | _ => 0, by simp, ?_⟩
  apply List.ext_getElem?
  intro i
  by_cases hi : i < n
  · obtain ⟨b, hb⟩ := each i hi
    rw [hb]
    simp [bvs, hi, hb]
  · rw [List.getElem?_eq_none (by omega), List.getElem?_eq_none (by simp [bvs]; omega)]

/-- What is known of addresses that came in. -/
def AddrsIn (xs : List (Int × Int)) : Prop := ∀ x ∈ xs, 0 ≤ x.1 ∧ x.1 < 4294967296 ∧ -9223372036854775808 ≤ x.2 ∧ x.2 ≤ 9223372036854775807
theorem AddrsIn.hosts {xs : List (Int × Int)} (h : AddrsIn xs) : HostsOk xs := fun k hk => by
  rw [List.getElem?_eq_getElem hk]
  have := h _ (List.getElem_mem hk)
  exact ⟨this.1, this.2.1⟩
theorem AddrsIn.take {xs : List (Int × Int)} (h : AddrsIn xs) (n : Nat) : AddrsIn (xs.take n) := fun x hx => h x (List.mem_of_mem_take hx)
theorem open_addr {fuel : Nat} {cs : List Value} {x : DataW H × List MemPlace} (h : DataW.trod enc Tryd.prog W 0 spare held fuel 26 cs = some x) :
    ∃ a p : Int, cs = [.int .u32 a, .int .i64 p] ∧ 0 ≤ a ∧ a < 4294967296 ∧ -9223372036854775808 ≤ p ∧ p ≤ 9223372036854775807 := by
  obtain ⟨xs, n, _, _, hlen, hl, hf⟩ := DataW.trod_struct Tryd.underlying26 h
  rw [show Tryd.prog.cellsOf 26 = 2 by kernel_rfl] at hlen
  have h0 := hf 0 _ rfl
  have h1 := hf 1 _ rfl
  match cs, hlen with
  | [c0, c1], _ =>
    match xs, hl with
    | [y0, y1], _ =>
      change DataW.trod _ _ _ _ _ _ n 24 (List.take (Tryd.prog.cellsOf 24) (List.drop 0 [c0, c1])) = some y0 at h0
      change DataW.trod _ _ _ _ _ _ n 3 (List.take (Tryd.prog.cellsOf 3) (List.drop 1 [c0, c1])) = some y1 at h1
      rw [show Tryd.prog.cellsOf 24 = 1 by kernel_rfl] at h0
      rw [show Tryd.prog.cellsOf 3 = 1 by kernel_rfl] at h1
      obtain ⟨a, ha, _, wa⟩ := DataW.trod_int Tryd.underlying24 h0
      obtain ⟨p, hp, _, wp⟩ := DataW.trod_int Tryd.underlying3 h1
      simp only [List.drop_zero, List.drop_succ_cons, List.take_succ_cons, List.take_zero, List.cons.injEq, and_true] at ha hp
      have b1 := bounds_u32 wa
      have b2 := bounds_i64 wp
      exact ⟨a, p, by rw [ha, hp], by omega, by omega, by omega, by omega⟩
/-- Addresses in a slice. -/
theorem open_addrs {fuel : Nat} {v : Value} {x : DataW H × List MemPlace} (h : DataW.trod enc Tryd.prog W 0 spare held fuel 27 [v] = some x) :
    ∃ A c xs, v = .slice A (List.length xs) c ∧ Rd W A (avs xs) ∧ xs.length ≤ c ∧ c ≤ maxLen ∧ AddrsIn xs := by
  rcases Deep.open_slice Tryd.underlying27 h with ⟨hcs, _⟩ | ⟨a, len, cap, m, n, D, Pl, hcs, _, hl, hm, hmm, _, hx⟩
  · simp at hcs
    exact ⟨none, 0, [], hcs, Rd.nil, Nat.le_refl _, by unfold maxLen; omega, fun x hx => by cases hx⟩
  · simp at hcs
    have hlm : len ≤ m := by rw [hmm]; split <;> omega
    have c2 : Tryd.prog.cellsOf 26 = 2 := by kernel_rfl
    have each : ∀ i, i < len → ∃ q : Int × Int, W.cell? (a.add (i * 2)) = some (.int .u32 q.1) ∧ W.cell? (a.add (i * 2 + 1)) = some (.int .i64 q.2) ∧ 0 ≤ q.1 ∧ q.1 < 4294967296 ∧ -9223372036854775808 ≤ q.2 ∧ q.2 ≤ 9223372036854775807 := by
      intro i hi
      obtain ⟨cs', h1, h2⟩ := hx i (by omega)
      rw [c2] at h1
      obtain ⟨g, p, rfl, b⟩ := open_addr h2
      obtain ⟨_, _, hcell⟩ := World.cells?_some h1
      have e0 := hcell 0 (by omega)
      have e1 := hcell 1 (by omega)
      rw [Deep.add_add] at e0 e1
      exact ⟨(g, p), by simpa using e0, by simpa using e1, b⟩
    obtain ⟨q, hq⟩ := Deep.choose_lt each
    have hlen : ((List.range len).map q).length = len := by simp
    refine ⟨some a, cap, (List.range len).map q, by rw [hlen]; exact hcs, ?_, by omega, hm, ?_⟩
    · intro hne
      have h0 : 0 < len := by
        rcases Nat.eq_zero_or_pos len with h | h
        · subst h; simp [avs] at hne
        · exact h
      obtain ⟨ab, ao, spot⟩ := a
      have hspot : spot = none := by simpa [Addr.add] using World.cell?_spot (hq 0 h0).1
      subst hspot
      have hc0 := (hq 0 h0).1
      rw [add_lit'] at hc0
      refine ⟨ab, ao, rfl, lt_of_cell hc0, fun j u hu => ?_⟩
      have hj : j < len * 2 := by have := (List.getElem?_eq_some_iff.1 hu).1; rw [avs_length, hlen] at this; exact this
      have hg := avs_get ((List.range len).map q) (j / 2) (by rw [hlen]; omega)
      have hqj := hq (j / 2) (by omega)
      rw [add_lit', add_lit'] at hqj
      rw [show ((List.range len).map q)[j / 2]?.getD (0, 0) = q (j / 2) by simp [show j / 2 < len by omega]] at hg
      rcases Nat.mod_two_eq_zero_or_one j with hp | hp
      · rw [show j = 2 * (j / 2) by omega, hg.1] at hu
        rw [← hu, show ao + j = ao + j / 2 * 2 by omega]
        exact hqj.1
      · rw [show j = 2 * (j / 2) + 1 by omega, hg.2] at hu
        rw [← hu, show ao + j = ao + (j / 2 * 2 + 1) by omega]
        exact hqj.2.1
    · intro x hx
      obtain ⟨i, hi, rfl⟩ := List.mem_map.1 hx
      exact (hq i (List.mem_range.1 hi)).2.2
/-- Bytes in a slice. -/
theorem open_bytes {fuel : Nat} {v : Value} {x : DataW H × List MemPlace} (h : DataW.trod enc Tryd.prog W 0 spare held fuel 31 [v] = some x) :
    ∃ A c, ∃ bs : List UInt8, v = .slice A bs.length c ∧ Rd W A (bvs bs) ∧ bs.length ≤ c ∧ c ≤ maxLen := by
  rcases open_ints Tryd.underlying31 Tryd.underlying5 (by kernel_rfl) h with ⟨hcs, _⟩ | ⟨a, len, cap, zs, hcs, _, hl, hm, hz, _, hcell, hwz⟩
  · simp at hcs
    exact ⟨none, 0, [], hcs, Rd.nil, Nat.le_refl _, by unfold maxLen; omega⟩
  · simp at hcs
    have hz' : len ≤ zs.length := by rw [hz]; split <;> omega
    have hlen : ((zs.take len).map fun n => UInt8.ofNat n.toNat).length = len := by simp; omega
    refine ⟨some a, cap, (zs.take len).map fun n => UInt8.ofNat n.toNat, by rw [hlen]; exact hcs, ?_, by omega, hm⟩
    intro hne
    have h0 : 0 < len := by
      rcases Nat.eq_zero_or_pos len with h | h
      · subst h; simp [bvs] at hne
      · exact h
    obtain ⟨ab, ao, spot⟩ := a
    have hspot : spot = none := by simpa [Addr.add] using World.cell?_spot (hcell 0 (by omega))
    subst hspot
    have hc0 := hcell 0 (by omega)
    rw [add_lit'] at hc0
    refine ⟨ab, ao, rfl, lt_of_cell hc0, fun j u hu => ?_⟩
    have hj : j < len := by have := (List.getElem?_eq_some_iff.1 hu).1; simp at this; omega
    rw [bvs_get _ _ (by rw [hlen]; exact hj)] at hu
    have hcj := hcell j (by omega)
    rw [add_lit'] at hcj
    rw [hcj, ← hu]
    have hb := range_u8 hwz j
    have e : zs.getD j 0 = zs[j]'(by omega) := by simp [List.getD, List.getElem?_eq_getElem (show j < zs.length by omega)]
    rw [List.getElem?_eq_getElem (by rw [hlen]; exact hj), e]
    rw [List.getD_eq_getElem?_getD] at e
    rw [e] at hb
    simp only [List.getElem_map, List.getElem_take, Option.getD_some, UInt8.toNat_ofNat']
    congr 2
    omega
end

theorem one_cell {α : Type} {l : List α} (h : l.length = 1) : ∃ v, l = [v] := by
  match l, h with
  | [v], _ => exact ⟨v, rfl⟩
theorem frame_types : Tryd.prog.cellTypes Tryd.prog.depth 33 = some (3 :: (List.replicate 12 5 ++ (24 :: 3 :: 27 :: 28 :: (List.replicate 32 5 ++ [31])))) := by kernel_rfl
theorem block_of_has {P : Program} {w : World} {r : Reach} {base : Nat} {a : Addr} {e : TypeId} {n : Nat} (h : w.has P r base a e n) : a.block < w.heap.size := by
  obtain ⟨_, _, row, cells, hs, _⟩ := h
  rcases Nat.lt_or_ge a.block w.heap.size with h | h
  · exact h
  · simp [World.shape?, Array.getElem?_eq_none h] at hs
/-- Bytes that came in as an argument. -/
theorem open_bytes_arg {H : Type} {enc : TypeId × Value → H} {W : World} {base : Nat} {v : Value} {d : DataW H} {p : List MemPlace} (hval : Value.okWide Tryd.prog W .any base 31 v)
    (h : DataW.Trod enc Tryd.prog W 0 (fun _ => true) true 31 v d p) : ∃ A c, ∃ bs : List UInt8, v = .slice A bs.length c ∧ Rd W A (bvs bs) ∧ bs.length ≤ c ∧ c ≤ maxLen ∧ ∀ a, A = some a → a.block < W.heap.size := by
  obtain ⟨A, c, bs, rfl, hr, hc, hm⟩ := open_bytes_rd hval h
  refine ⟨A, c, bs, rfl, hr, hc, hm, fun a e => ?_⟩
  subst e
  simp only [Value.okWide, Cell.okWide, Cell.ok, Tryd.underlying31] at hval
  exact block_of_has hval.2.2
/-- Addresses that came in as an argument. -/
theorem open_addrs_arg {H : Type} {enc : TypeId × Value → H} {W : World} {base : Nat} {v : Value} {d : DataW H} {p : List MemPlace} (hval : Value.okWide Tryd.prog W .any base 27 v)
    (h : DataW.Trod enc Tryd.prog W 0 (fun _ => true) true 27 v d p) : ∃ A c xs, v = .slice A (List.length xs) c ∧ Rd W A (avs xs) ∧ xs.length ≤ c ∧ c ≤ maxLen ∧ AddrsIn xs := by
  obtain ⟨A, n, c, rfl⟩ := okWide_slice Tryd.underlying27 hval
  obtain ⟨fuel, hf⟩ := h
  exact open_addrs hf
/-- A number that came in. -/
theorem open_int_arg {H : Type} {enc : TypeId × Value → H} {W : World} {base : Nat} {v : Value} {d : DataW H} {p : List MemPlace} (hval : Value.okWide Tryd.prog W .any base 3 v)
    (h : DataW.Trod enc Tryd.prog W 0 (fun _ => true) true 3 v d p) : ∃ n : Int, v = .int .i64 n ∧ -9223372036854775808 ≤ n ∧ n ≤ 9223372036854775807 := by
  obtain ⟨n, rfl, _, _, hw⟩ := open_int Tryd.underlying3 hval h
  exact ⟨n, rfl, bounds_i64 hw⟩
/-- A byte that came in. -/
theorem open_byte_arg {H : Type} {enc : TypeId × Value → H} {W : World} {base : Nat} {v : Value} {d : DataW H} {p : List MemPlace} (hval : Value.okWide Tryd.prog W .any base 5 v)
    (h : DataW.Trod enc Tryd.prog W 0 (fun _ => true) true 5 v d p) : ∃ b : UInt8, v = .int .u8 b.toNat := by
  obtain ⟨n, rfl, _, _, hw⟩ := open_int Tryd.underlying5 hval h
  have hb := bounds_u8 hw
  refine ⟨UInt8.ofNat n.toNat, ?_⟩
  rw [UInt8.toNat_ofNat', show ((n.toNat % 2 ^ 8 : Nat) : Int) = n by omega]
/-- A frame that came in. -/
theorem open_frame {H : Type} {enc : TypeId × Value → H} {W : World} {base : Nat} {v : Value} {d : DataW H} {p : List MemPlace} (hval : Value.okWide Tryd.prog W .any base 33 v)
    (h : DataW.Trod enc Tryd.prog W 0 (fun _ => true) true 33 v d p) :
    ∃ F A1 A2 k1 k2 xs ds, v = .agg F.cells ∧ Good W F A1 A2 k1 k2 xs ds ∧ AddrsIn xs ∧ xs.length ≤ k1 ∧ k1 ≤ maxLen ∧ ds.length ≤ k2 ∧ k2 ≤ maxLen ∧
      -9223372036854775808 ≤ F.port ∧ F.port ≤ 9223372036854775807 ∧ -9223372036854775808 ≤ F.kind ∧ F.kind ≤ 9223372036854775807 := by
  have hval' := hval
  simp only [Value.okWide, Tryd.underlying33] at hval'
  obtain ⟨cs, rfl, hsz, ts, hts, _, hrow⟩ := hval'
  rw [show Tryd.prog.cellsOf 33 = 50 by kernel_rfl] at hsz
  obtain rfl := Option.some.inj (hts.symm.trans frame_types)
  obtain ⟨fuel, hf⟩ := h
  obtain ⟨xs, n, _, _, hlen, hl, hfs⟩ := DataW.trod_struct Tryd.underlying33 hf
  have h0 := hfs 0 _ rfl; have h1 := hfs 1 _ rfl; have h2 := hfs 2 _ rfl; have h3 := hfs 3 _ rfl; have h4 := hfs 4 _ rfl; have h5 := hfs 5 _ rfl; have h6 := hfs 6 _ rfl
  obtain ⟨l, hcl⟩ : ∃ l, cs.toList = l := ⟨_, rfl⟩
  have hl50 : l.length = 50 := by rw [← hcl]; simpa using hsz
  match xs, hl with
  | [y0, y1, y2, y3, y4, y5, y6], _ =>
    change DataW.trod _ _ _ _ _ _ n 3 (List.take (Tryd.prog.cellsOf 3) (List.drop 0 cs.toList)) = some y0 at h0
    change DataW.trod _ _ _ _ _ _ n 23 (List.take (Tryd.prog.cellsOf 23) (List.drop 1 cs.toList)) = some y1 at h1
    change DataW.trod _ _ _ _ _ _ n 26 (List.take (Tryd.prog.cellsOf 26) (List.drop 13 cs.toList)) = some y2 at h2
    change DataW.trod _ _ _ _ _ _ n 27 (List.take (Tryd.prog.cellsOf 27) (List.drop 15 cs.toList)) = some y3 at h3
    change DataW.trod _ _ _ _ _ _ n 28 (List.take (Tryd.prog.cellsOf 28) (List.drop 16 cs.toList)) = some y4 at h4
    change DataW.trod _ _ _ _ _ _ n 30 (List.take (Tryd.prog.cellsOf 30) (List.drop 17 cs.toList)) = some y5 at h5
    change DataW.trod _ _ _ _ _ _ n 31 (List.take (Tryd.prog.cellsOf 31) (List.drop 49 cs.toList)) = some y6 at h6
    rw [show Tryd.prog.cellsOf 3 = 1 by kernel_rfl, hcl] at h0
    rw [show Tryd.prog.cellsOf 23 = 12 by kernel_rfl, hcl] at h1
    rw [show Tryd.prog.cellsOf 26 = 2 by kernel_rfl, hcl] at h2
    rw [show Tryd.prog.cellsOf 27 = 1 by kernel_rfl, hcl] at h3
    rw [show Tryd.prog.cellsOf 28 = 1 by kernel_rfl, hcl] at h4
    rw [show Tryd.prog.cellsOf 30 = 32 by kernel_rfl, hcl] at h5
    rw [show Tryd.prog.cellsOf 31 = 1 by kernel_rfl, hcl] at h6
    have hcut := cut_frame l hl50
    obtain ⟨kind, e0, _, w0⟩ := DataW.trod_int Tryd.underlying3 h0
    obtain ⟨id, hid, e1⟩ := open_array Tryd.underlying23 (by kernel_rfl) h1
    obtain ⟨host, port, e2, b2⟩ := open_addr h2
    obtain ⟨sa, e3⟩ := one_cell (l := (l.drop 15).take 1) (by simp; omega)
    rw [e3] at h3
    obtain ⟨A1, k1, xs', rfl, hr1, hk1, hm1, hin⟩ := open_addrs h3
    obtain ⟨nn, e4, _, w4⟩ := DataW.trod_int Tryd.underlying28 h4
    obtain ⟨key, hkey, e5⟩ := open_array Tryd.underlying30 (by kernel_rfl) h5
    obtain ⟨sd, e6⟩ := one_cell (l := (l.drop 49).take 1) (by simp; omega)
    rw [e6] at h6
    obtain ⟨A2, k2, ds', rfl, hr2, hk2, hm2⟩ := open_bytes h6
    have b4 := bounds_u64 w4
    have b0 := bounds_i64 w0
    rw [e0, e1, e2, e3, e4, e5, e6] at hcut
    have hcs : cs = (⟨kind, id, host, port, .slice A1 xs'.length k1, nn, key, .slice A2 ds'.length k2⟩ : Fr).cells := by
      have : cs = ⟨l⟩ := by rw [← hcl]
      rw [this, hcut]
      simp [Fr.cells, Fr.list]
    subst hcs
    have g15 := hrow 15 _ (Fr.get_sa hid hkey)
    have g49 := hrow 49 _ (Fr.get_sd hid hkey)
    obtain ⟨u1, hu1, ho1⟩ := g15
    obtain ⟨u2, hu2, ho2⟩ := g49
    obtain rfl : u1 = 27 := by simpa using hu1.symm
    obtain rfl : u2 = 31 := by simpa using hu2.symm
    refine ⟨⟨kind, id, host, port, .slice A1 xs'.length k1, nn, key, .slice A2 ds'.length k2⟩, A1, A2, k1, k2, xs', ds', rfl, ⟨hid, hkey, rfl, rfl, hr1, hr2, ?_, ?_, b2.1, b2.2.1, by show 0 ≤ nn; omega, by show nn < _; omega⟩, hin, hk1, hm1, hk2, hm2, b2.2.2.1, b2.2.2.2, b0.1, b0.2⟩
    · intro a e
      subst e
      simp only [Cell.okWide, Cell.ok, Tryd.underlying27] at ho1
      exact block_of_has ho1.2.2
    · intro a e
      subst e
      simp only [Cell.okWide, Cell.ok, Tryd.underlying31] at ho2
      exact block_of_has ho2.2.2
end Go.Proofs.YthnmjpohdlimiaaDoor
