/- hatchwaylaw13.ref: a frame as the document's. -/
import Derived.Test.YthnmjpohdlimiaaDoorRefEnc
import Derived.Test.YthnmjpohdlimiaaDoorFew
import Derived.Deep.RegionHeld3
namespace Go.Proofs.YthnmjpohdlimiaaDoor
open Go.RowKit

section
variable {P : Program} (w : World)
theorem run_append_cap0 (t ty e : TypeId) (i : TypeInfo) (ht : P.underlying t = some (.slice e)) (hi : P.info? e = some i) (a : Addr) (A : Option Addr) (m c : Nat) (hm : 0 < m) (hb : m * i.bytes ≤ 281474976710656) :
    (Builtin.append_ #[t, t] ty #[.slice (some a) 0 0, .slice A m c]).run P w = (Builtin.append_ #[t, t] ty #[.slice none 0 0, .slice A m c]).run P w := by
  have hn : Builtin.nextslicecap m 0 = m := by unfold Builtin.nextslicecap; rw [if_pos (by omega)]
  have hb' : ¬ (2 ^ 48 < m * i.bytes) := by omega
  have hm' : ¬ m = 0 := by omega
  have hm2 : ¬ m ≤ 0 := by omega
  have z0 : loadCells a 0 = (pure #[] : Sem (Array Value)) := rfl
  simp only [Builtin.append_]
  simp [run_underlying ht, sizeOf, typeInfo, hi, Builtin.lenOf, Builtin.firstCells, hn, hb', hm', z0]
end
/-- append onto a slice without room, as one step of a region that draws: the row is new. -/
theorem step_append_fresh {P : Program} {w : World} {ops : Array Oper} {o : Oper} {a : Act} {K : Act → World → Prop} {Q : Exit → Act → World → Prop} {E : Prop} (hgd : o.guard = none) (s x : Operand) (t : TypeId)
    (ho : o.op = .call { callee := .builtin .append, args := #[s, x], argTypes := #[t, t] })
    (e : TypeId) (i : TypeInfo) (z : Value) (ht : P.underlying t = some (.slice e)) (hi : P.info? e = some i) (hz : i.zero = some z)
    (hsize : i.size = 1) (hby : i.bytes = 1) (hzs : z.cells.size = 1)
    (A0 : Addr) (hs : a.eval s = .slice (some A0) 0 0) (A : Option Addr) (m c : Nat) (news : List Value) (hx : a.eval x = .slice A m c) (hl : news.length = m) (hr : Rd w A news) (h1 : ∀ u ∈ news, u.oneCell' = true)
    (hm : 0 < m) (h63 : m ≤ 140737488355328)
    (h : ∀ g c' w', Rd w' (some ⟨g, 0, none⟩) news → Kept [] w w' → g < w'.heap.size → w.heap.size ≤ g → c' ≤ maxLen → K (a.put o.dst (.slice (some ⟨g, 0, none⟩) m c')) w') :
    if Region.wanted o (yielded ops a.tmps) = true then Oper.wp P o a w K Q else E := by
  have hw : Region.wanted o (yielded ops a.tmps) = true := by simp [Region.wanted, hgd]
  rw [if_pos hw]
  have hown : w.ownsRow w.heap.size e 1 (.slice none 0 0) 0 [] := ⟨by simp, .inl ⟨rfl, rfl⟩⟩
  obtain ⟨v', w', hrun, h2, h3, h4⟩ := run_append_rd (P := P) w w.heap.size t o.type e i z 1 1 ht hi hz hsize hby hzs (by decide) _ _ _ hown A m c news (by omega) hr h1 (by unfold maxLen; omega) (by omega) (Nat.le_refl _)
  rw [Nat.zero_add, List.nil_append] at h2
  rw [← run_append_cap0 w t o.type e i ht hi A0 A m c hm (by rw [hby]; omega)] at hrun
  have hk : Kept [] w w' := (Kept.refl [] w).grown h3 (by simp [Value.ownBlock])
  rcases h2.2 with ⟨hv, hn⟩ | ⟨g, cap, cur, hv, hb, hg, hn, hm', _⟩
  · omega
  · subst hv
    have hrd := Rd.of_own h2
    unfold Oper.wp execOp
    simp only [ho, resolve, invoke, builtin, Sem.run_bind, Sem.run_pure, Result.andThen_ok, List.map_toArray, List.map_cons, List.map_nil, hs, hx, hrun]
    exact h g cap w' hrd hk (Array.getElem?_eq_some_iff.1 hg).1 hb hm'
theorem Kept.trans0 {a b c : World} (h : Kept [] a b) (h' : Kept [] b c) : Kept [] a c := h.trans h' (by simp)
theorem Rd.kept0 {w w' : World} {A : Option Addr} {xs : List Value} (h : Rd w A xs) (hk : Kept [] w w') : Rd w' A xs := h.kept hk (by simp)
theorem Kept.cell0 {w w' : World} {p : Addr} {v : Value} (h : Kept [] w w') (hc : w.cell? p = some v) : w'.cell? p = some v := (h.cell (lt_of_cell hc) (by simp)).trans hc
/-- The cells of a row that nobody has written yet. -/
def RowAt (w : World) (b : Nat) (Z : Array Value) : Prop := w.heap[b]? = some (.cells Z 40 (0, 0))
theorem RowAt.kept0 {w w' : World} {b : Nat} {Z : Array Value} (hr : RowAt w b Z) (h : Kept [] w w') : RowAt w' b Z := (h.block b (Array.getElem?_eq_some_iff.1 hr).1 (by simp)).trans hr
theorem RowAt.drew {w : World} {b : Nat} {Z : Array Value} (hr : RowAt w b Z) : RowAt w.drew b Z := hr
theorem Kept.row0 {w w' : World} {b : Nat} {Z : Array Value} (h : Kept [] w w') (hr : RowAt w b Z) : RowAt w' b Z := hr.kept0 h
theorem Kept.after {a b c : World} (h' : Kept [] b c) (h : Kept [] a b) : Kept [] a c := h.trans0 h'
theorem RowAt.cells {w : World} {b : Nat} {Z : Array Value} (hr : RowAt w b Z) : ∀ j, w.cell? ⟨b, j, none⟩ = Z[j]? := fun j => cell_of_row _ _ _ _ _ _ hr
theorem RowAt.frozens {w : World} {b : Nat} {Z : Array Value} (hr : RowAt w b Z) : ∀ j, w.frozen? ⟨b, j, none⟩ = false := fun j => frozen_of_row _ _ _ _ _ hr
theorem RowAt.alloc {w : World} {b : Nat} {Z : Array Value} (hr : RowAt w b Z) (o : Obj) : RowAt (w.alloc o) b Z := hr.kept0 ((Kept.refl [] w).alloc o)
/-- A row of eight cells, each written anew. -/
theorem row8 {w : World} {b : Nat} {t : TypeId} {z0 z1 z2 z3 z4 z5 z6 z7 : Value} (h : w.heap[b]? = some (.cells #[z0, z1, z2, z3, z4, z5, z6, z7] t (0, 0))) (v0 v1 v2 v3 v4 v5 v6 v7 : Value) :
    ((((((((w.setCell ⟨b, 0, none⟩ v0).setCell ⟨b, 1, none⟩ v1).setCell ⟨b, 2, none⟩ v2).setCell ⟨b, 3, none⟩ v3).setCell ⟨b, 4, none⟩ v4).setCell ⟨b, 5, none⟩ v5).setCell ⟨b, 6, none⟩ v6).setCell ⟨b, 7, none⟩ v7).heap[b]? = some (.cells #[v0, v1, v2, v3, v4, v5, v6, v7] t (0, 0)) := by
  have h0 := heap_setCell_same w b 0 _ _ v0 h
  have h1 := heap_setCell_same _ b 1 _ _ v1 h0
  have h2 := heap_setCell_same _ b 2 _ _ v2 h1
  have h3 := heap_setCell_same _ b 3 _ _ v3 h2
  have h4 := heap_setCell_same _ b 4 _ _ v4 h3
  have h5 := heap_setCell_same _ b 5 _ _ v5 h4
  have h6 := heap_setCell_same _ b 6 _ _ v6 h5
  have h7 := heap_setCell_same _ b 7 _ _ v7 h6
  simpa using h7
theorem kept8 (w : World) (b : Nat) (v0 v1 v2 v3 v4 v5 v6 v7 : Value) :
    Kept [b] w ((((((((w.setCell ⟨b, 0, none⟩ v0).setCell ⟨b, 1, none⟩ v1).setCell ⟨b, 2, none⟩ v2).setCell ⟨b, 3, none⟩ v3).setCell ⟨b, 4, none⟩ v4).setCell ⟨b, 5, none⟩ v5).setCell ⟨b, 6, none⟩ v6).setCell ⟨b, 7, none⟩ v7) :=
  ((((((((Kept.refl [b] w).setCell (by simp) _).setCell (by simp) _).setCell (by simp) _).setCell (by simp) _).setCell (by simp) _).setCell (by simp) _).setCell (by simp) _).setCell (by simp) _
theorem info_ref : (Tryd.prog.info? 40).map (·.size) = some 8 := by kernel_rfl
set_option maxRecDepth 100000 in
set_option maxHeartbeats 4000000 in
theorem ref_any (F : Fr) (A1 A2 : Option Addr) (k1 k2 : Nat) (xs : List (Int × Int)) (ds : List UInt8) (w : World) (hg : Good w F A1 A2 k1 k2 xs ds) :
    Calls Tryd.prog 9 #[.agg F.cells] w fun x w' => ∃ I Kk ci ck, x = .returned (.agg #[.int .i64 F.kind, .slice I 12 ci, .int .u32 F.host, .int .i64 F.port, .slice A1 xs.length k1, .int .u64 F.n, .slice Kk 32 ck, .slice A2 ds.length k2]) ∧
      RefG w' F I A1 Kk A2 xs ds ∧ Kept [] w w' := by
  obtain ⟨i0, hi, hz0, hz1, hz2⟩ := info_parts info_byte
  have HG := Lib.hid hg
  have HI := Lib.hid hg.id; have HKE := Lib.hid hg.key
  clear hg
  go_enter Tryd.func9, Tryd.ntmps9
  go_upto_region 1 with fail
  obtain ⟨w1, hw1⟩ : ∃ w1, w1 = (w.alloc (.cells F.cells 33)).alloc (.cells #[.int .i64 0, .slice none 0 0, .int .u32 0, .int .i64 0, .slice none 0 0, .int .u64 0, .slice none 0 0, .slice none 0 0] 40) := ⟨_, rfl⟩
  have hF1 : FB w1 w.heap.size F := ⟨by rw [hw1, Below.heap_alloc _ _ _ (by simp)]; exact heap_alloc_new _ _, HG.out.id, HG.out.key⟩
  have hR1 : w1.heap[w.heap.size + 1]? = some (.cells #[.int .i64 0, .slice none 0 0, .int .u32 0, .int .i64 0, .slice none 0 0, .int .u64 0, .slice none 0 0, .slice none 0 0] 40 (0, 0)) := by rw [hw1]; exact heap_new2 _ _ _
  have hk1 : Kept [] w w1 := by rw [hw1]; exact ((Kept.refl [] w).alloc _).alloc _
  rw [← hw1]
  have z0 := hF1.kind; have z13 := hF1.host; have z14 := hF1.port; have z16 := hF1.n
  have z15 : w1.cell? ⟨w.heap.size, 15, none⟩ = some (.slice A1 xs.length k1) := hF1.sa.trans (congrArg some HG.out.sa)
  have z49 : w1.cell? ⟨w.heap.size, 49, none⟩ = some (.slice A2 ds.length k2) := hF1.sd.trans (congrArg some HG.out.sd)
  have y0 : ∀ j, w1.cell? ⟨w.heap.size + 1, j, none⟩ = (#[.int .i64 0, .slice none 0 0, .int .u32 0, .int .i64 0, .slice none 0 0, .int .u64 0, .slice none 0 0, .slice none 0 0] : Array Value)[j]? := fun j => cell_of_row _ _ _ _ _ _ hR1
  have y1 : ∀ j, w1.frozen? ⟨w.heap.size + 1, j, none⟩ = false := fun j => frozen_of_row _ _ _ _ _ hR1
  have hb1 := hF1.lt
  have hb2 : w.heap.size + 1 < w1.heap.size := (Array.getElem?_eq_some_iff.1 hR1).1
  have HRI := Lib.hid hF1.idRd; have HRK := Lib.hid hF1.keyRd
  have HR1 := Lib.hid hR1; have HK1 := Lib.hid hk1
  clear hw1 hF1 hR1 hk1
  have hrow : RowAt w1 (w.heap.size + 1) #[.int .i64 0, .slice none 0 0, .int .u32 0, .int .i64 0, .slice none 0 0, .int .u64 0, .slice none 0 0, .slice none 0 0] := HR1.out
  clear y0 y1
  have HKK8 := Lib.hid (Kept.refl [] w1); have HKK18 := Lib.hid (Kept.refl [] w1)
  go_region_held3 (fun w' => w'.cell? ⟨w.heap.size, 0, none⟩ = some (.int .i64 F.kind) ∧ w'.cell? ⟨w.heap.size, 13, none⟩ = some (.int .u32 F.host) ∧ w'.cell? ⟨w.heap.size, 14, none⟩ = some (.int .i64 F.port) ∧
      w'.cell? ⟨w.heap.size, 15, none⟩ = some (.slice A1 xs.length k1) ∧ w'.cell? ⟨w.heap.size, 16, none⟩ = some (.int .u64 F.n) ∧ w'.cell? ⟨w.heap.size, 49, none⟩ = some (.slice A2 ds.length k2))
    (first
      | ((repeat (first | with_reducible assumption | with_reducible apply RowAt.drew | with_reducible apply RowAt.alloc | with_reducible apply HKK8.out.row0 | with_reducible apply HKK18.out.row0)); done)
      | ((try go_split_ands); (try dsimp only); (repeat' apply And.intro) <;> first | ((repeat (first | with_reducible assumption | with_reducible apply RowAt.drew | with_reducible apply RowAt.alloc | with_reducible apply HKK8.out.row0 | with_reducible apply HKK18.out.row0)); done) | (with_reducible apply HKK8.out.cell0; go_keep) | (with_reducible apply HKK18.out.cell0; go_keep) | go_keep)
      | go_keep)
    (first
      | (refine step_append_fresh (by rfl) (.tmp 5) (.tmp 7) 31 (by rfl) 5 i0 (.int .u8 0) Tryd.underlying31 hi hz0 hz1 hz2 (by rfl) _ (by rfl) _ 12 12 (bvs F.id) (by rfl) ?_ ?_ (bvs_one _) (by decide) (by decide) ?_; (rw [bvs_length]; exact HI.out); (refine HRI.out.kept0 ?_; repeat (first | with_reducible exact Kept.refl _ _ | with_reducible refine Kept.drew ?_ | with_reducible refine Kept.alloc ?_ _ | with_reducible refine Kept.trans0 ?_ HKK8.out | with_reducible refine Kept.trans0 ?_ HKK18.out)); intro A8 c8 w8 hr8 hk8 hb8 hc8 hm8; have hk08 : Kept [] w1 w8 := (by with_reducible apply Kept.trans0 (h' := hk8); repeat (first | with_reducible exact Kept.refl _ _ | with_reducible apply Kept.drew | with_reducible apply Kept.alloc | with_reducible apply HKK8.out.after | with_reducible apply HKK18.out.after)); have yc8 := (hrow.kept0 hk08).cells; have yf8 := (hrow.kept0 hk08).frozens; have HGE8 := Lib.hid hc8; have HR8 := Lib.hid hr8; have HKK8 := Lib.hid hk8; clear hk08;clear hr8 hk8 hb8 hc8 hm8)
      | (refine step_append_fresh (by rfl) (.tmp 15) (.tmp 17) 31 (by rfl) 5 i0 (.int .u8 0) Tryd.underlying31 hi hz0 hz1 hz2 (by rfl) _ (by rfl) _ 32 32 (bvs F.key) (by rfl) ?_ ?_ (bvs_one _) (by decide) (by decide) ?_; (rw [bvs_length]; exact HKE.out); (refine HRK.out.kept0 ?_; repeat (first | with_reducible exact Kept.refl _ _ | with_reducible refine Kept.drew ?_ | with_reducible refine Kept.alloc ?_ _ | with_reducible refine Kept.trans0 ?_ HKK8.out | with_reducible refine Kept.trans0 ?_ HKK18.out)); intro A18 c18 w18 hr18 hk18 hb18 hc18 hm18; have hk018 : Kept [] w1 w18 := (by with_reducible apply Kept.trans0 (h' := hk18); repeat (first | with_reducible exact Kept.refl _ _ | with_reducible apply Kept.drew | with_reducible apply Kept.alloc | with_reducible apply HKK8.out.after | with_reducible apply HKK18.out.after)); have yc18 := (hrow.kept0 hk018).cells; have yf18 := (hrow.kept0 hk018).frozens; have HGE18 := Lib.hid hc18; have HR18 := Lib.hid hr18; have HKK18 := Lib.hid hk18; clear hk018;clear hr18 hk18 hb18 hc18 hm18))
  all_goals
    have hk1e : Kept [] w1 w18 := by
      repeat (first | with_reducible exact Kept.refl _ _ | with_reducible apply Kept.drew | with_reducible apply Kept.alloc | with_reducible apply HKK18.out.after | with_reducible apply HKK8.out.after)
    have hk8e : Kept [] w8 w18 := by
      repeat (first | with_reducible exact Kept.refl _ _ | with_reducible apply Kept.drew | with_reducible apply Kept.alloc | with_reducible apply HKK18.out.after)
    have hge8 : w.heap.size + 1 < A8 := by have := HGE8.out; simp at this; omega
    have hge18 : w.heap.size + 1 < A18 := by have := HGE18.out; have h2 := HKK8.out.size; simp at this h2; omega
    have hrowe := hrow.kept0 hk1e
    have hend := row8 hrowe (.int .i64 F.kind) (.slice (some ⟨A8, 0, none⟩) 12 c8) (.int .u32 F.host) (.int .i64 F.port) (.slice A1 xs.length k1) (.int .u64 F.n) (.slice (some ⟨A18, 0, none⟩) 32 c18) (.slice A2 ds.length k2)
    have hkend := kept8 w18 (w.heap.size + 1) (.int .i64 F.kind) (.slice (some ⟨A8, 0, none⟩) 12 c8) (.int .u32 F.host) (.int .i64 F.port) (.slice A1 xs.length k1) (.int .u64 F.n) (.slice (some ⟨A18, 0, none⟩) 32 c18) (.slice A2 ds.length k2)
    have HEND := Lib.hid hend; have HKEND := Lib.hid hkend; have HK1E := Lib.hid hk1e; have HK8E := Lib.hid hk8e
    clear hend hkend hk1e hk8e hrowe
    clear yc8 yf8 yc18 yf18
    go_wp2
    have hkw : Kept [] w ((((((((w18.setCell ⟨w.heap.size + 1, 0, none⟩ (.int .i64 F.kind)).setCell ⟨w.heap.size + 1, 1, none⟩ (.slice (some ⟨A8, 0, none⟩) 12 c8)).setCell ⟨w.heap.size + 1, 2, none⟩ (.int .u32 F.host)).setCell ⟨w.heap.size + 1, 3, none⟩ (.int .i64 F.port)).setCell ⟨w.heap.size + 1, 4, none⟩ (.slice A1 xs.length k1)).setCell ⟨w.heap.size + 1, 5, none⟩ (.int .u64 F.n)).setCell ⟨w.heap.size + 1, 6, none⟩ (.slice (some ⟨A18, 0, none⟩) 32 c18)).setCell ⟨w.heap.size + 1, 7, none⟩ (.slice A2 ds.length k2)) :=
      (HK1.out.trans0 HK1E.out).trans HKEND.out (fun j hj hm => by simp at hm; omega)
    refine bodyPost_ret (v := .agg #[.int .i64 F.kind, .slice (some ⟨A8, 0, none⟩) 12 c8, .int .u32 F.host, .int .i64 F.port, .slice A1 xs.length k1, .int .u64 F.n, .slice (some ⟨A18, 0, none⟩) 32 c18, .slice A2 ds.length k2]) ?_ rfl
      ⟨some ⟨A8, 0, none⟩, some ⟨A18, 0, none⟩, c8, c18, rfl, ⟨HI.out, HKE.out, ?_, HG.out.r1.kept hkw (by simp), ?_, HG.out.r2.kept hkw (by simp), HG.out.h0, HG.out.h1, HG.out.n0, HG.out.n1⟩, hkw⟩
    · rw [results_one_cell rfl]
      have h := run_loadVar_row (P := Tryd.prog) _ (w.heap.size + 1) 40 40 _ (0, 0) _ HEND.out Tryd.underlying40 rfl info_ref
      show ((asAddr (.pointer (some ⟨w.heap.size + 1, 0, none⟩))).run Tryd.prog _).andThen _ = _
      simp only [asAddr, Sem.run_pure, Result.andThen_ok, h]
    · exact (HR8.out.kept HK8E.out (by simp)).kept HKEND.out (fun a e _ => by injection e with e; subst e; simp; omega)
    · exact HR18.out.kept HKEND.out (fun a e _ => by injection e with e; subst e; simp; omega)
end Go.Proofs.YthnmjpohdlimiaaDoor
