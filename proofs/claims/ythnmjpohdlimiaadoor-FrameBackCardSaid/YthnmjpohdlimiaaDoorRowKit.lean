/- From a row's condition to what the walks ask. -/
import Derived.Test.YthnmjpohdlimiaaDoorMem
import Derived.Test.YthnmjpohdlimiaaDoorOf
import Derived.Test.YthnmjpohdlimiaaDoorCards
import Derived.Test.YthnmjpohdlimiaaDoorTie
import Derived.WalkKit
import Derived.ProofKit
import Derived.OpenShut
import Derived.Below
import Derived.ChangeSlices
import Derived.LaidMore
import Derived.LaidOnce
import Derived.Lay
import Derived.SevenTiedAt
import Derived.Deep.DeepHandedRow
namespace Go.Proofs.YthnmjpohdlimiaaDoor
open Go.ChangeShapes Go.WideShapes Go.ChangeAt Go.RowKit

theorem own : ownKnob Tryd.prog.godebug = none := by kernel_rfl
theorem laidOut : laidOutB Tryd.prog = true := by kernel_rfl

def kindRows : List (List Bool) := [[false, false, false, false, false, false], [true, false, false, false, false, false], [true, true, false, false, false, false], [false, false, true, false, false, false], [false, false, false, false, false, true],
  [false, false, false, false, false, true], [false, false, false, false, false, true], [false, false, false, true, false, true], [false, false, false, false, true, false], [false, true, false, false, false, false], [false, false, false, false, true, true]]
theorem kindRows_tbl : ∀ i, i < 11 → ∀ r, r < 6 → kindTbl[i * 6 + r]? = (kindRows[i]?.getD [])[r]? := by decide
/-- The table of kinds, out of the row's list. -/
theorem laid_of_row {W : World} (h : laidMetH Tryd.prog [("hatchway/frame.kinds", Rows.laid_hatchway_frame_kinds)] W) : Laid W := by
  rw [MakeChecks.laidMetH_plain _ _ _ (by kernel_rfl)] at h
  obtain ⟨ps, ⟨g, t, cs, fuel, p, q, hg, ht, hv, hd, _, _⟩, _, _⟩ := h
  obtain rfl := Option.some.inj ((show Tryd.prog.globalNamed "hatchway/frame.kinds" = some 0 by kernel_rfl).symm.trans hg)
  obtain rfl := Option.some.inj ((show (Tryd.prog.globals[0]?).map (·.type) = some 68 by kernel_rfl).symm.trans ht)
  have c4 : Tryd.prog.cellsOf 4 = 1 := by kernel_rfl
  have c58 : Tryd.prog.cellsOf 55 = 6 := by kernel_rfl
  have c71 : Tryd.prog.cellsOf 68 = 66 := by kernel_rfl
  obtain ⟨xs, m, _, ex, hlen, hl, hel⟩ := DataW.trod_array Tryd.underlying68 hd
  rw [c71] at hlen
  have hrow : ∀ i, i < 11 → ∃ bs : List Bool, bs.length = 6 ∧ (cs.toList.drop (i * 6)).take 6 = bs.map Value.bool ∧ (xs[i]?).map (·.1) = some (.agg (bs.map fun b => .lit (.bool b))) := by
    intro i hi
    have hx := hel i hi
    rw [c58] at hx
    rw [show xs[i]? = some xs[i] from List.getElem?_eq_getElem (by omega)] at hx ⊢
    obtain ⟨ys, n, _, ey, hlen', hl', hel'⟩ := DataW.trod_struct Tryd.underlying55 hx
    rw [c58] at hlen'
    have k0 := hel' 0 _ rfl; have k1 := hel' 1 _ rfl; have k2 := hel' 2 _ rfl; have k3 := hel' 3 _ rfl; have k4 := hel' 4 _ rfl; have k5 := hel' 5 _ rfl
    match ys, hl' with
    | [y0, y1, y2, y3, y4, y5], _ =>
      obtain ⟨r, hr⟩ : ∃ r, (cs.toList.drop (i * 6)).take 6 = r := ⟨_, rfl⟩
      rw [hr] at hlen' k0 k1 k2 k3 k4 k5 ⊢
      match r, hlen' with
      | [r0, r1, r2, r3, r4, r5], _ =>
        change DataW.trod _ _ _ _ _ _ n 4 (List.take (Tryd.prog.cellsOf 4) (List.drop 0 [r0, r1, r2, r3, r4, r5])) = some y0 at k0
        change DataW.trod _ _ _ _ _ _ n 4 (List.take (Tryd.prog.cellsOf 4) (List.drop 1 [r0, r1, r2, r3, r4, r5])) = some y1 at k1
        change DataW.trod _ _ _ _ _ _ n 4 (List.take (Tryd.prog.cellsOf 4) (List.drop 2 [r0, r1, r2, r3, r4, r5])) = some y2 at k2
        change DataW.trod _ _ _ _ _ _ n 4 (List.take (Tryd.prog.cellsOf 4) (List.drop 3 [r0, r1, r2, r3, r4, r5])) = some y3 at k3
        change DataW.trod _ _ _ _ _ _ n 4 (List.take (Tryd.prog.cellsOf 4) (List.drop 4 [r0, r1, r2, r3, r4, r5])) = some y4 at k4
        change DataW.trod _ _ _ _ _ _ n 4 (List.take (Tryd.prog.cellsOf 4) (List.drop 5 [r0, r1, r2, r3, r4, r5])) = some y5 at k5
        rw [c4] at k0 k1 k2 k3 k4 k5
        obtain ⟨b0, a0, d0⟩ := DataW.trod_bool Tryd.underlying4 k0
        obtain ⟨b1, a1, d1⟩ := DataW.trod_bool Tryd.underlying4 k1
        obtain ⟨b2, a2, d2⟩ := DataW.trod_bool Tryd.underlying4 k2
        obtain ⟨b3, a3, d3⟩ := DataW.trod_bool Tryd.underlying4 k3
        obtain ⟨b4, a4, d4⟩ := DataW.trod_bool Tryd.underlying4 k4
        obtain ⟨b5, a5, d5⟩ := DataW.trod_bool Tryd.underlying4 k5
        simp only [List.drop_zero, List.drop_succ_cons, List.take_succ_cons, List.take_zero, List.cons.injEq, and_true] at a0 a1 a2 a3 a4 a5
        refine ⟨[b0, b1, b2, b3, b4, b5], rfl, by simp [a0, a1, a2, a3, a4, a5], ?_⟩
        rw [ey]
        simp [d0, d1, d2, d3, d4, d5]
  have e2 := (DataW.agg.inj (Prod.mk.inj ex).1)
  have e3 : xs.map (·.1) = kindRows.map fun bs => (.agg (bs.map fun b => .lit (.bool b)) : DataW Unit) := e2.symm
  have hcell : ∀ i, i < 11 → ∀ r, r < 6 → W.cell? ⟨0, i * 6 + r, none⟩ = (((kindRows[i]?.getD [])[r]?).map Value.bool) := by
    intro i hi r hr
    obtain ⟨bs, hbl, hbs, hbx⟩ := hrow i hi
    have e4 : (xs.map (·.1))[i]? = some (.agg (bs.map fun b => .lit (.bool b))) := by rw [List.getElem?_map]; exact hbx
    rw [e3, List.getElem?_map] at e4
    have hk : kindRows[i]? = some bs := by
      obtain ⟨bs', h1, h2⟩ := Option.map_eq_some_iff.1 e4
      have h3 := DataW.agg.inj h2
      rw [h1, (List.map_inj_right (fun x y h => by injection h with h; injection h)).1 h3]
    rw [World.var?_cell hg hv (i * 6 + r), hk, ← Array.getElem?_toList, ← List.getElem?_drop]
    have : ((cs.toList.drop (i * 6)).take 6)[r]? = (cs.toList.drop (i * 6))[r]? := List.getElem?_take_of_lt hr
    rw [← this, hbs, List.getElem?_map]
    rfl
  have htb : ∀ j b, kindTbl[j]? = some b → W.cell? ⟨0, j, none⟩ = some (.bool b) := by
    intro j b hb
    have hj : j < 66 := (List.getElem?_eq_some_iff.1 hb).1
    have h1 := hcell (j / 6) (by omega) (j % 6) (by omega)
    rw [show j / 6 * 6 + j % 6 = j by omega, ← kindRows_tbl (j / 6) (by omega) (j % 6) (by omega), show j / 6 * 6 + j % 6 = j by omega, hb] at h1
    exact h1
  exact ⟨lt_of_cell (htb 0 false rfl), htb⟩

/-- What a slice of bytes that came in gives. -/
theorem open_bytes_rd {H : Type} {enc : TypeId × Value → H} {W : World} {base : Nat} {v1 : Value} {d1 : DataW H} {p1 : List MemPlace} (hval : Value.okWide Tryd.prog W .any base 31 v1)
    (h1 : DataW.Trod enc Tryd.prog W 0 (fun _ => true) true 31 v1 d1 p1) : ∃ A c, ∃ bs : List UInt8, v1 = .slice A bs.length c ∧ Rd W A (bvs bs) ∧ bs.length ≤ c ∧ c ≤ maxLen := by
  obtain ⟨a1, len, cap, rfl⟩ := okWide_slice Tryd.underlying31 hval
  obtain ⟨fuel, hf⟩ := h1
  rcases open_ints Tryd.underlying31 Tryd.underlying5 (by kernel_rfl) hf with ⟨hcs, hx⟩ | ⟨a, len', cap', zs, hcs, _, hl, hm, hz, hx, hcell, hwz⟩
  · simp [Value.cells] at hcs
    obtain ⟨rfl, rfl, rfl⟩ := hcs
    exact ⟨none, 0, [], rfl, Rd.nil, Nat.le_refl _, by unfold maxLen; omega⟩
  · simp [Value.cells] at hcs
    obtain ⟨rfl, rfl, rfl⟩ := hcs
    simp only [if_true] at hz
    have hlen : ((zs.take len).map fun n => UInt8.ofNat n.toNat).length = len := by simp; omega
    refine ⟨some a, cap, (zs.take len).map fun n => UInt8.ofNat n.toNat, by rw [hlen], ?_, by omega, hm⟩
    intro hne
    have h0 : 0 < len := by
      rcases Nat.eq_zero_or_pos len with h | h
      · subst h; simp [bvs] at hne
      · exact h
    obtain ⟨ab, ao, spot⟩ := a
    have hspot : spot = none := by simpa [Addr.add] using World.cell?_spot (hcell 0 (by omega))
    subst hspot
    have hc0 := hcell 0 (by omega)
    rw [Addr.add_lit] at hc0
    refine ⟨ab, ao, rfl, lt_of_cell hc0, fun j u hu => ?_⟩
    have hj : j < len := by have := (List.getElem?_eq_some_iff.1 hu).1; simp at this; omega
    rw [bvs_get _ _ (by rw [hlen]; exact hj)] at hu
    have hcj := hcell j (by omega)
    rw [Addr.add_lit] at hcj
    rw [hcj]
    rw [← hu]
    have hb := range_u8 hwz j
    have e : zs.getD j 0 = zs[j]'(by omega) := by simp [List.getD, List.getElem?_eq_getElem (show j < zs.length by omega)]
    rw [List.getElem?_eq_getElem (by rw [hlen]; exact hj)]
    rw [e]
    rw [List.getD_eq_getElem?_getD] at e
    rw [e] at hb
    simp only [List.getElem_map, List.getElem_take, Option.getD_some, UInt8.toNat_ofNat']
    congr 2
    omega

/-- A world for the witness: the table is laid. -/
noncomputable def laidWorld (os : Os) : World :=
  { World.holding Tryd.prog os ⟨#[], #[], []⟩ with heap := (World.holding Tryd.prog os ⟨#[], #[], []⟩).heap.modify 0 fun
      | .cells _ t frozen => .cells (kindTbl.map Value.bool).toArray t frozen
      | o => o }
theorem laid_met (os : Os) (args : Array Value) : laidMet Tryd.prog [("hatchway/frame.kinds", Rows.laid_hatchway_frame_kinds)] ((laidWorld os).forCall (fun _ _ => 0) ⟨#[], args, []⟩).memory :=
  laidMet_of_run' 8 (by kernel_rfl) (by kernel_rfl)
end Go.Proofs.YthnmjpohdlimiaaDoor
