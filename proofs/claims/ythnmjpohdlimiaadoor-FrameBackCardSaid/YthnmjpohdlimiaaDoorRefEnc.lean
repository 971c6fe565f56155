/- The document's frame: its bytes. -/
import Derived.Test.YthnmjpohdlimiaaDoorRefB
import Derived.Deep.DeepCutAuto
namespace Go.Proofs.YthnmjpohdlimiaaDoor
open Go.RowKit

/-- What the document's frame reads as. -/
structure RefG (w : World) (F : Fr) (I A1 Kk A2 : Option Addr) (xs : List (Int × Int)) (ds : List UInt8) : Prop where
  id : F.id.length = 12
  key : F.key.length = 32
  ri : Rd w I (bvs F.id)
  r1 : Rd w A1 (avs xs)
  rk : Rd w Kk (bvs F.key)
  r2 : Rd w A2 (bvs ds)
  h0 : 0 ≤ F.host
  h1 : F.host < 4294967296
  n0 : 0 ≤ F.n
  n1 : F.n < 18446744073709551616
theorem RefG.kept {w w' : World} {F : Fr} {I A1 Kk A2 : Option Addr} {xs : List (Int × Int)} {ds : List UInt8} (h : RefG w F I A1 Kk A2 xs ds) (hk : Kept [] w w') : RefG w' F I A1 Kk A2 xs ds :=
  { h with ri := h.ri.kept hk (by simp), r1 := h.r1.kept hk (by simp), rk := h.rk.kept hk (by simp), r2 := h.r2.kept hk (by simp) }
/-- The bytes that were told so far. -/
structure RE (w wr : World) (cs : Array Value) (v : Value) (l : List UInt8) : Prop where
  own : wr.ownsRow (w.heap.size + 1) 5 1 v l.length (bvs l)
  blk : wr.heap[w.heap.size]? = some (.cells cs 40 (0, 0))
  kept : Kept [] w wr
theorem RE.start (w : World) (cs : Array Value) (b : UInt8) : RE w ((w.alloc (.cells cs 40)).alloc (.cells #[.int .u8 b.toNat] 5)) cs (.slice (some ⟨w.heap.size + 1, 0, none⟩) 1 1) [b] := by
  refine ⟨⟨by simp, .inr ⟨w.heap.size + 1, 1, #[.int .u8 b.toNat], rfl, Nat.le_refl _, heap_new2 _ _ _, by simp, by simp [maxLen], by simp, by simp [bvs]⟩⟩, ?_, ((Kept.refl [] w).alloc _).alloc _⟩
  rw [Below.heap_alloc _ _ _ (by simp)]
  exact heap_alloc_new _ _
theorem RE.cell {w wr : World} {cs : Array Value} {v : Value} {l : List UInt8} (h : RE w wr cs v l) (j : Nat) : wr.cell? ⟨w.heap.size, j, none⟩ = cs[j]? := cell_of_row _ _ _ _ _ _ h.blk
theorem RE.size {w wr : World} {cs : Array Value} {v : Value} {l : List UInt8} (h : RE w wr cs v l) : w.heap.size < wr.heap.size := (Array.getElem?_eq_some_iff.1 h.blk).1
/-- A step that leaves the frame as it is. -/
theorem RE.next {w wr w' : World} {cs : Array Value} {v v' : Value} {l : List UInt8} (h : RE w wr cs v l) (hk : ∀ k, k < w.heap.size + 1 → w'.heap[k]? = wr.heap[k]?) (hk' : Kept [] w w') {l' : List UInt8} (hown : w'.ownsRow (w.heap.size + 1) 5 1 v' l'.length (bvs l')) : RE w w' cs v' l' :=
  ⟨hown, (hk _ (by omega)).trans h.blk, hk'⟩
theorem RE.append {w wr w' : World} {cs : Array Value} {v v' : Value} {l m : List UInt8} {n : Nat} (h : RE w wr cs v l) (hown : w'.ownsRow (w.heap.size + 1) 5 1 v' n (bvs l ++ bvs m)) (hn : n = l.length + m.length) (hg : wr.grownBy w' v.ownBlock) : RE w w' cs v' (l ++ m) := by
  refine h.next (fun k hk => ?_) (h.kept.grown hg (fun k hk hlt => by have := (h.own.lt k hk).1; omega)) (by rw [← bvs_append, hn, ← List.length_append] at hown; exact hown)
  exact hg.block k (by have := h.size; omega) (fun e => by have := (h.own.lt k e.symm).1; omega)
theorem RE.put {w wr w' : World} {cs : Array Value} {v v' : Value} {l l' : List UInt8} {n : Nat} (h : RE w wr cs v l) (hown : w'.ownsRow wr.heap.size 5 1 v' n (bvs l')) (hn : n = l'.length) (hk : Kept [] wr w') : RE w w' cs v' l' := by
  subst hn
  exact h.next (fun k hlt => hk.block k (by have := h.size; omega) (by simp)) (h.kept.trans hk (by simp)) (own_base hown (by have := h.size; omega))
theorem RE.drew {w wr : World} {cs : Array Value} {v : Value} {l : List UInt8} (h : RE w wr cs v l) : RE w wr.drew cs v l := ⟨h.own, h.blk, h.kept.drew⟩
theorem RE.alloc {w wr : World} {cs : Array Value} {v : Value} {l : List UInt8} (h : RE w wr cs v l) (o : Obj) : RE w (wr.alloc o) cs v l :=
  h.next (fun k hk => Below.heap_alloc _ _ _ (by have := h.size; omega)) (h.kept.alloc o) (h.own.alloc o)
theorem RE.slice {w wr : World} {cs : Array Value} {v : Value} {l : List UInt8} (h : RE w wr cs v l) : ∃ A c, v = .slice A l.length c ∧ Rd wr A (bvs l) := by
  obtain ⟨A, c, rfl⟩ := own_slice h.own
  exact ⟨A, c, rfl, Rd.of_own h.own⟩

def RefEncOf (K : Int) : Prop := ∀ (F : Fr) (I A1 Kk A2 : Option Addr) (ci k1 ck k2 : Nat) (xs : List (Int × Int)) (ds : List UInt8) (w : World) (_ : F.kind = K) (_ : RefG w F I A1 Kk A2 xs ds) (_ : 0 ≤ F.port) (_ : F.port < 65536) (_ : GoodAs xs) (_ : xs.length < 256) (_ : ds.length + 30000 ≤ 140737488355328),
    Calls Tryd.prog 12 #[.agg #[.int .i64 K, .slice I 12 ci, .int .u32 F.host, .int .i64 F.port, .slice A1 xs.length k1, .int .u64 F.n, .slice Kk 32 ck, .slice A2 ds.length k2]] w
      fun x w' => ∃ v, x = .returned v ∧ w'.ownsRow w.heap.size 5 1 v (encF F xs ds).length (bvs (encF F xs ds)) ∧ Kept [] w w'

set_option maxHeartbeats 2000000 in
theorem refenc_4 : RefEncOf 4 := by
  intro F I A1 Kk A2 ci k1 ck k2 xs ds w hkind hg hp0 hp1 hga hx hd
  obtain ⟨i0, hi, hz0, hz1, hz2⟩ := info_parts info_byte
  have s1 : RE w ((w.alloc (.cells #[.int .i64 4, .slice I 12 ci, .int .u32 F.host, .int .i64 F.port, .slice A1 xs.length k1, .int .u64 F.n, .slice Kk 32 ck, .slice A2 ds.length k2] 40)).alloc (.cells #[.int .u8 4] 5)) #[.int .i64 4, .slice I 12 ci, .int .u32 F.host, .int .i64 F.port, .slice A1 xs.length k1, .int .u64 F.n, .slice Kk 32 ck, .slice A2 ds.length k2] (.slice (some ⟨w.heap.size + 1, 0, none⟩) 1 1) [4] := RE.start w _ 4
  have HG := Lib.hid hg; have HGA := Lib.hid hga
  have HK := Lib.hid hkind
  have S1 := Lib.hid s1
  have i1 := hg.id; have i2 := hg.key
  have HI := Lib.hid i1; have HKE := Lib.hid i2
  have g1 := hg.h0; have g2 := hg.h1; have g3 := hg.n0; have g4 := hg.n1
  clear hg hga hkind s1 i1 i2
  go_enter Tryd.func12, Tryd.ntmps12
  go_wp2_with ((with_reducible show wpList _ _ _ (⟨some 71, _, _, _, _, _⟩ :: _) _ _); refine wpList_append_rd _ rfl (.tmp 68) (.tmp 70) 31 rfl (w.heap.size + 1) 5 i0 (.int .u8 0) 1 1 Tryd.underlying31 hi hz0 hz1 hz2 rfl (by decide) _ _ _ rfl S1.out.own A2 ds.length k2 (bvs ds) rfl (by have := HI.out; have := HKE.out; simp; try omega) (HG.out.r2.kept S1.out.kept (by simp)) (bvs_one _) (by have := HI.out; have := HKE.out; unfold maxLen; first | omega | (simp [encA_length, encN_length]; done) | (simp [encA_length, encN_length]; omega)) (by have := HI.out; have := HKE.out; first | omega | (simp [encA_length, encN_length]; done) | (simp [encA_length, encN_length]; omega)) (by have := S1.out.size; omega) ?_)
  intro v9 w9 hown9 hg9 _
  have S9 := Lib.hid (S1.out.append hown9 (by simp) hg9)
  clear hown9 hg9
  go_wp2
  go_ret
  refine ⟨_, rfl, ?_, S9.out.kept⟩
  have h9 := own_base S9.out.own (show w.heap.size ≤ _ by omega)
  have e : encF F xs ds = [(4 : UInt8)] ++ ds := by simp [encF, encH, HK.out, hasOf]
  rw [e]
  exact h9

set_option maxHeartbeats 2000000 in
theorem refenc_5 : RefEncOf 5 := by
  intro F I A1 Kk A2 ci k1 ck k2 xs ds w hkind hg hp0 hp1 hga hx hd
  obtain ⟨i0, hi, hz0, hz1, hz2⟩ := info_parts info_byte
  have s1 : RE w ((w.alloc (.cells #[.int .i64 5, .slice I 12 ci, .int .u32 F.host, .int .i64 F.port, .slice A1 xs.length k1, .int .u64 F.n, .slice Kk 32 ck, .slice A2 ds.length k2] 40)).alloc (.cells #[.int .u8 5] 5)) #[.int .i64 5, .slice I 12 ci, .int .u32 F.host, .int .i64 F.port, .slice A1 xs.length k1, .int .u64 F.n, .slice Kk 32 ck, .slice A2 ds.length k2] (.slice (some ⟨w.heap.size + 1, 0, none⟩) 1 1) [5] := RE.start w _ 5
  have HG := Lib.hid hg; have HGA := Lib.hid hga
  have HK := Lib.hid hkind
  have S1 := Lib.hid s1
  have i1 := hg.id; have i2 := hg.key
  have HI := Lib.hid i1; have HKE := Lib.hid i2
  have g1 := hg.h0; have g2 := hg.h1; have g3 := hg.n0; have g4 := hg.n1
  clear hg hga hkind s1 i1 i2
  go_enter Tryd.func12, Tryd.ntmps12
  go_wp2_with ((with_reducible show wpList _ _ _ (⟨some 71, _, _, _, _, _⟩ :: _) _ _); refine wpList_append_rd _ rfl (.tmp 68) (.tmp 70) 31 rfl (w.heap.size + 1) 5 i0 (.int .u8 0) 1 1 Tryd.underlying31 hi hz0 hz1 hz2 rfl (by decide) _ _ _ rfl S1.out.own A2 ds.length k2 (bvs ds) rfl (by have := HI.out; have := HKE.out; simp; try omega) (HG.out.r2.kept S1.out.kept (by simp)) (bvs_one _) (by have := HI.out; have := HKE.out; unfold maxLen; first | omega | (simp [encA_length, encN_length]; done) | (simp [encA_length, encN_length]; omega)) (by have := HI.out; have := HKE.out; first | omega | (simp [encA_length, encN_length]; done) | (simp [encA_length, encN_length]; omega)) (by have := S1.out.size; omega) ?_)
  intro v9 w9 hown9 hg9 _
  have S9 := Lib.hid (S1.out.append hown9 (by simp) hg9)
  clear hown9 hg9
  go_wp2
  go_ret
  refine ⟨_, rfl, ?_, S9.out.kept⟩
  have h9 := own_base S9.out.own (show w.heap.size ≤ _ by omega)
  have e : encF F xs ds = [(5 : UInt8)] ++ ds := by simp [encF, encH, HK.out, hasOf]
  rw [e]
  exact h9

set_option maxHeartbeats 2000000 in
theorem refenc_6 : RefEncOf 6 := by
  intro F I A1 Kk A2 ci k1 ck k2 xs ds w hkind hg hp0 hp1 hga hx hd
  obtain ⟨i0, hi, hz0, hz1, hz2⟩ := info_parts info_byte
  have s1 : RE w ((w.alloc (.cells #[.int .i64 6, .slice I 12 ci, .int .u32 F.host, .int .i64 F.port, .slice A1 xs.length k1, .int .u64 F.n, .slice Kk 32 ck, .slice A2 ds.length k2] 40)).alloc (.cells #[.int .u8 6] 5)) #[.int .i64 6, .slice I 12 ci, .int .u32 F.host, .int .i64 F.port, .slice A1 xs.length k1, .int .u64 F.n, .slice Kk 32 ck, .slice A2 ds.length k2] (.slice (some ⟨w.heap.size + 1, 0, none⟩) 1 1) [6] := RE.start w _ 6
  have HG := Lib.hid hg; have HGA := Lib.hid hga
  have HK := Lib.hid hkind
  have S1 := Lib.hid s1
  have i1 := hg.id; have i2 := hg.key
  have HI := Lib.hid i1; have HKE := Lib.hid i2
  have g1 := hg.h0; have g2 := hg.h1; have g3 := hg.n0; have g4 := hg.n1
  clear hg hga hkind s1 i1 i2
  go_enter Tryd.func12, Tryd.ntmps12
  go_wp2_with ((with_reducible show wpList _ _ _ (⟨some 71, _, _, _, _, _⟩ :: _) _ _); refine wpList_append_rd _ rfl (.tmp 68) (.tmp 70) 31 rfl (w.heap.size + 1) 5 i0 (.int .u8 0) 1 1 Tryd.underlying31 hi hz0 hz1 hz2 rfl (by decide) _ _ _ rfl S1.out.own A2 ds.length k2 (bvs ds) rfl (by have := HI.out; have := HKE.out; simp; try omega) (HG.out.r2.kept S1.out.kept (by simp)) (bvs_one _) (by have := HI.out; have := HKE.out; unfold maxLen; first | omega | (simp [encA_length, encN_length]; done) | (simp [encA_length, encN_length]; omega)) (by have := HI.out; have := HKE.out; first | omega | (simp [encA_length, encN_length]; done) | (simp [encA_length, encN_length]; omega)) (by have := S1.out.size; omega) ?_)
  intro v9 w9 hown9 hg9 _
  have S9 := Lib.hid (S1.out.append hown9 (by simp) hg9)
  clear hown9 hg9
  go_wp2
  go_ret
  refine ⟨_, rfl, ?_, S9.out.kept⟩
  have h9 := own_base S9.out.own (show w.heap.size ≤ _ by omega)
  have e : encF F xs ds = [(6 : UInt8)] ++ ds := by simp [encF, encH, HK.out, hasOf]
  rw [e]
  exact h9

set_option maxHeartbeats 2000000 in
theorem refenc_1 : RefEncOf 1 := by
  intro F I A1 Kk A2 ci k1 ck k2 xs ds w hkind hg hp0 hp1 hga hx hd
  obtain ⟨i0, hi, hz0, hz1, hz2⟩ := info_parts info_byte
  have s1 : RE w ((w.alloc (.cells #[.int .i64 1, .slice I 12 ci, .int .u32 F.host, .int .i64 F.port, .slice A1 xs.length k1, .int .u64 F.n, .slice Kk 32 ck, .slice A2 ds.length k2] 40)).alloc (.cells #[.int .u8 1] 5)) #[.int .i64 1, .slice I 12 ci, .int .u32 F.host, .int .i64 F.port, .slice A1 xs.length k1, .int .u64 F.n, .slice Kk 32 ck, .slice A2 ds.length k2] (.slice (some ⟨w.heap.size + 1, 0, none⟩) 1 1) [1] := RE.start w _ 1
  have HG := Lib.hid hg; have HGA := Lib.hid hga
  have HK := Lib.hid hkind
  have S1 := Lib.hid s1
  have i1 := hg.id; have i2 := hg.key
  have HI := Lib.hid i1; have HKE := Lib.hid i2
  have g1 := hg.h0; have g2 := hg.h1; have g3 := hg.n0; have g4 := hg.n1
  clear hg hga hkind s1 i1 i2
  go_enter Tryd.func12, Tryd.ntmps12
  go_wp2_with ((with_reducible show wpList _ _ _ (⟨some 16, _, _, _, _, _⟩ :: _) _ _); refine wpList_append_rd _ rfl (.tmp 13) (.tmp 15) 31 rfl (w.heap.size + 1) 5 i0 (.int .u8 0) 1 1 Tryd.underlying31 hi hz0 hz1 hz2 rfl (by decide) _ _ _ rfl S1.out.own I 12 ci (bvs F.id) rfl (by have := HI.out; have := HKE.out; simp; try omega) (HG.out.ri.kept S1.out.kept (by simp)) (bvs_one _) (by have := HI.out; have := HKE.out; unfold maxLen; first | omega | (simp [encA_length, encN_length]; done) | (simp [encA_length, encN_length]; omega)) (by have := HI.out; have := HKE.out; first | omega | (simp [encA_length, encN_length]; done) | (simp [encA_length, encN_length]; omega)) (by have := S1.out.size; omega) ?_)
  intro v2 w2 hown2 hg2 _
  have S2 := Lib.hid (S1.out.append hown2 (by have := HI.out; have := HKE.out; simp; try omega) hg2)
  clear hown2 hg2
  have e0 : w2.cell? ⟨w.heap.size, 0, none⟩ = some (.int .i64 1) := S2.out.cell 0
  have e1 : w2.cell? ⟨w.heap.size, 1, none⟩ = some (.slice I 12 ci) := S2.out.cell 1
  have e2 : w2.cell? ⟨w.heap.size, 2, none⟩ = some (.int .u32 F.host) := S2.out.cell 2
  have e3 : w2.cell? ⟨w.heap.size, 3, none⟩ = some (.int .i64 F.port) := S2.out.cell 3
  have e4 : w2.cell? ⟨w.heap.size, 4, none⟩ = some (.slice A1 xs.length k1) := S2.out.cell 4
  have e5 : w2.cell? ⟨w.heap.size, 5, none⟩ = some (.int .u64 F.n) := S2.out.cell 5
  have e6 : w2.cell? ⟨w.heap.size, 6, none⟩ = some (.slice Kk 32 ck) := S2.out.cell 6
  have e7 : w2.cell? ⟨w.heap.size, 7, none⟩ = some (.slice A2 ds.length k2) := S2.out.cell 7
  go_wp2_with ((with_reducible show wpList _ _ _ (⟨some 71, _, _, _, _, _⟩ :: _) _ _); refine wpList_append_rd _ rfl (.tmp 68) (.tmp 70) 31 rfl (w.heap.size + 1) 5 i0 (.int .u8 0) 1 1 Tryd.underlying31 hi hz0 hz1 hz2 rfl (by decide) _ _ _ rfl S2.out.own A2 ds.length k2 (bvs ds) rfl (by have := HI.out; have := HKE.out; simp; try omega) (HG.out.r2.kept S2.out.kept (by simp)) (bvs_one _) (by have := HI.out; have := HKE.out; unfold maxLen; first | omega | (simp [encA_length, encN_length]; done) | (simp [encA_length, encN_length]; omega)) (by have := HI.out; have := HKE.out; first | omega | (simp [encA_length, encN_length]; done) | (simp [encA_length, encN_length]; omega)) (by have := S2.out.size; omega) ?_)
  intro v9 w9 hown9 hg9 _
  have S9 := Lib.hid (S2.out.append hown9 (by simp) hg9)
  clear hown9 hg9
  go_wp2
  go_ret
  refine ⟨_, rfl, ?_, S9.out.kept⟩
  have h9 := own_base S9.out.own (show w.heap.size ≤ _ by omega)
  have e : encF F xs ds = ([(1 : UInt8)] ++ F.id) ++ ds := by simp [encF, encH, HK.out, hasOf]
  rw [e]
  exact h9

set_option maxHeartbeats 2000000 in
theorem refenc_8 : RefEncOf 8 := by
  intro F I A1 Kk A2 ci k1 ck k2 xs ds w hkind hg hp0 hp1 hga hx hd
  obtain ⟨i0, hi, hz0, hz1, hz2⟩ := info_parts info_byte
  have s1 : RE w ((w.alloc (.cells #[.int .i64 8, .slice I 12 ci, .int .u32 F.host, .int .i64 F.port, .slice A1 xs.length k1, .int .u64 F.n, .slice Kk 32 ck, .slice A2 ds.length k2] 40)).alloc (.cells #[.int .u8 8] 5)) #[.int .i64 8, .slice I 12 ci, .int .u32 F.host, .int .i64 F.port, .slice A1 xs.length k1, .int .u64 F.n, .slice Kk 32 ck, .slice A2 ds.length k2] (.slice (some ⟨w.heap.size + 1, 0, none⟩) 1 1) [8] := RE.start w _ 8
  have HG := Lib.hid hg; have HGA := Lib.hid hga
  have HK := Lib.hid hkind
  have S1 := Lib.hid s1
  have i1 := hg.id; have i2 := hg.key
  have HI := Lib.hid i1; have HKE := Lib.hid i2
  have g1 := hg.h0; have g2 := hg.h1; have g3 := hg.n0; have g4 := hg.n1
  clear hg hga hkind s1 i1 i2
  go_enter Tryd.func12, Tryd.ntmps12
  go_wp2_with ((with_reducible show wpList _ _ _ (⟨some 61, _, _, _, _, _⟩ :: _) _ _); refine wpList_append_rd _ rfl (.tmp 58) (.tmp 60) 31 rfl (w.heap.size + 1) 5 i0 (.int .u8 0) 1 1 Tryd.underlying31 hi hz0 hz1 hz2 rfl (by decide) _ _ _ rfl S1.out.own Kk 32 ck (bvs F.key) rfl (by have := HI.out; have := HKE.out; simp; try omega) (HG.out.rk.kept S1.out.kept (by simp)) (bvs_one _) (by have := HI.out; have := HKE.out; unfold maxLen; first | omega | (simp [encA_length, encN_length]; done) | (simp [encA_length, encN_length]; omega)) (by have := HI.out; have := HKE.out; first | omega | (simp [encA_length, encN_length]; done) | (simp [encA_length, encN_length]; omega)) (by have := S1.out.size; omega) ?_)
  intro v2 w2 hown2 hg2 _
  have S2 := Lib.hid (S1.out.append hown2 (by have := HI.out; have := HKE.out; simp; try omega) hg2)
  clear hown2 hg2
  have e0 : w2.cell? ⟨w.heap.size, 0, none⟩ = some (.int .i64 8) := S2.out.cell 0
  have e1 : w2.cell? ⟨w.heap.size, 1, none⟩ = some (.slice I 12 ci) := S2.out.cell 1
  have e2 : w2.cell? ⟨w.heap.size, 2, none⟩ = some (.int .u32 F.host) := S2.out.cell 2
  have e3 : w2.cell? ⟨w.heap.size, 3, none⟩ = some (.int .i64 F.port) := S2.out.cell 3
  have e4 : w2.cell? ⟨w.heap.size, 4, none⟩ = some (.slice A1 xs.length k1) := S2.out.cell 4
  have e5 : w2.cell? ⟨w.heap.size, 5, none⟩ = some (.int .u64 F.n) := S2.out.cell 5
  have e6 : w2.cell? ⟨w.heap.size, 6, none⟩ = some (.slice Kk 32 ck) := S2.out.cell 6
  have e7 : w2.cell? ⟨w.heap.size, 7, none⟩ = some (.slice A2 ds.length k2) := S2.out.cell 7
  go_wp2_with ((with_reducible show wpList _ _ _ (⟨some 71, _, _, _, _, _⟩ :: _) _ _); refine wpList_append_rd _ rfl (.tmp 68) (.tmp 70) 31 rfl (w.heap.size + 1) 5 i0 (.int .u8 0) 1 1 Tryd.underlying31 hi hz0 hz1 hz2 rfl (by decide) _ _ _ rfl S2.out.own A2 ds.length k2 (bvs ds) rfl (by have := HI.out; have := HKE.out; simp; try omega) (HG.out.r2.kept S2.out.kept (by simp)) (bvs_one _) (by have := HI.out; have := HKE.out; unfold maxLen; first | omega | (simp [encA_length, encN_length]; done) | (simp [encA_length, encN_length]; omega)) (by have := HI.out; have := HKE.out; first | omega | (simp [encA_length, encN_length]; done) | (simp [encA_length, encN_length]; omega)) (by have := S2.out.size; omega) ?_)
  intro v9 w9 hown9 hg9 _
  have S9 := Lib.hid (S2.out.append hown9 (by simp) hg9)
  clear hown9 hg9
  go_wp2
  go_ret
  refine ⟨_, rfl, ?_, S9.out.kept⟩
  have h9 := own_base S9.out.own (show w.heap.size ≤ _ by omega)
  have e : encF F xs ds = ([(8 : UInt8)] ++ F.key) ++ ds := by simp [encF, encH, HK.out, hasOf]
  rw [e]
  exact h9

set_option maxHeartbeats 2000000 in
theorem refenc_10 : RefEncOf 10 := by
  intro F I A1 Kk A2 ci k1 ck k2 xs ds w hkind hg hp0 hp1 hga hx hd
  obtain ⟨i0, hi, hz0, hz1, hz2⟩ := info_parts info_byte
  have s1 : RE w ((w.alloc (.cells #[.int .i64 10, .slice I 12 ci, .int .u32 F.host, .int .i64 F.port, .slice A1 xs.length k1, .int .u64 F.n, .slice Kk 32 ck, .slice A2 ds.length k2] 40)).alloc (.cells #[.int .u8 10] 5)) #[.int .i64 10, .slice I 12 ci, .int .u32 F.host, .int .i64 F.port, .slice A1 xs.length k1, .int .u64 F.n, .slice Kk 32 ck, .slice A2 ds.length k2] (.slice (some ⟨w.heap.size + 1, 0, none⟩) 1 1) [10] := RE.start w _ 10
  have HG := Lib.hid hg; have HGA := Lib.hid hga
  have HK := Lib.hid hkind
  have S1 := Lib.hid s1
  have i1 := hg.id; have i2 := hg.key
  have HI := Lib.hid i1; have HKE := Lib.hid i2
  have g1 := hg.h0; have g2 := hg.h1; have g3 := hg.n0; have g4 := hg.n1
  clear hg hga hkind s1 i1 i2
  go_enter Tryd.func12, Tryd.ntmps12
  go_wp2_with ((with_reducible show wpList _ _ _ (⟨some 61, _, _, _, _, _⟩ :: _) _ _); refine wpList_append_rd _ rfl (.tmp 58) (.tmp 60) 31 rfl (w.heap.size + 1) 5 i0 (.int .u8 0) 1 1 Tryd.underlying31 hi hz0 hz1 hz2 rfl (by decide) _ _ _ rfl S1.out.own Kk 32 ck (bvs F.key) rfl (by have := HI.out; have := HKE.out; simp; try omega) (HG.out.rk.kept S1.out.kept (by simp)) (bvs_one _) (by have := HI.out; have := HKE.out; unfold maxLen; first | omega | (simp [encA_length, encN_length]; done) | (simp [encA_length, encN_length]; omega)) (by have := HI.out; have := HKE.out; first | omega | (simp [encA_length, encN_length]; done) | (simp [encA_length, encN_length]; omega)) (by have := S1.out.size; omega) ?_)
  intro v2 w2 hown2 hg2 _
  have S2 := Lib.hid (S1.out.append hown2 (by have := HI.out; have := HKE.out; simp; try omega) hg2)
  clear hown2 hg2
  have e0 : w2.cell? ⟨w.heap.size, 0, none⟩ = some (.int .i64 10) := S2.out.cell 0
  have e1 : w2.cell? ⟨w.heap.size, 1, none⟩ = some (.slice I 12 ci) := S2.out.cell 1
  have e2 : w2.cell? ⟨w.heap.size, 2, none⟩ = some (.int .u32 F.host) := S2.out.cell 2
  have e3 : w2.cell? ⟨w.heap.size, 3, none⟩ = some (.int .i64 F.port) := S2.out.cell 3
  have e4 : w2.cell? ⟨w.heap.size, 4, none⟩ = some (.slice A1 xs.length k1) := S2.out.cell 4
  have e5 : w2.cell? ⟨w.heap.size, 5, none⟩ = some (.int .u64 F.n) := S2.out.cell 5
  have e6 : w2.cell? ⟨w.heap.size, 6, none⟩ = some (.slice Kk 32 ck) := S2.out.cell 6
  have e7 : w2.cell? ⟨w.heap.size, 7, none⟩ = some (.slice A2 ds.length k2) := S2.out.cell 7
  go_wp2_with ((with_reducible show wpList _ _ _ (⟨some 71, _, _, _, _, _⟩ :: _) _ _); refine wpList_append_rd _ rfl (.tmp 68) (.tmp 70) 31 rfl (w.heap.size + 1) 5 i0 (.int .u8 0) 1 1 Tryd.underlying31 hi hz0 hz1 hz2 rfl (by decide) _ _ _ rfl S2.out.own A2 ds.length k2 (bvs ds) rfl (by have := HI.out; have := HKE.out; simp; try omega) (HG.out.r2.kept S2.out.kept (by simp)) (bvs_one _) (by have := HI.out; have := HKE.out; unfold maxLen; first | omega | (simp [encA_length, encN_length]; done) | (simp [encA_length, encN_length]; omega)) (by have := HI.out; have := HKE.out; first | omega | (simp [encA_length, encN_length]; done) | (simp [encA_length, encN_length]; omega)) (by have := S2.out.size; omega) ?_)
  intro v9 w9 hown9 hg9 _
  have S9 := Lib.hid (S2.out.append hown9 (by simp) hg9)
  clear hown9 hg9
  go_wp2
  go_ret
  refine ⟨_, rfl, ?_, S9.out.kept⟩
  have h9 := own_base S9.out.own (show w.heap.size ≤ _ by omega)
  have e : encF F xs ds = ([(10 : UInt8)] ++ F.key) ++ ds := by simp [encF, encH, HK.out, hasOf]
  rw [e]
  exact h9

set_option maxHeartbeats 2000000 in
theorem refenc_9 : RefEncOf 9 := by
  intro F I A1 Kk A2 ci k1 ck k2 xs ds w hkind hg hp0 hp1 hga hx hd
  obtain ⟨i0, hi, hz0, hz1, hz2⟩ := info_parts info_byte
  have s1 : RE w ((w.alloc (.cells #[.int .i64 9, .slice I 12 ci, .int .u32 F.host, .int .i64 F.port, .slice A1 xs.length k1, .int .u64 F.n, .slice Kk 32 ck, .slice A2 ds.length k2] 40)).alloc (.cells #[.int .u8 9] 5)) #[.int .i64 9, .slice I 12 ci, .int .u32 F.host, .int .i64 F.port, .slice A1 xs.length k1, .int .u64 F.n, .slice Kk 32 ck, .slice A2 ds.length k2] (.slice (some ⟨w.heap.size + 1, 0, none⟩) 1 1) [9] := RE.start w _ 9
  have HG := Lib.hid hg; have HGA := Lib.hid hga
  have HK := Lib.hid hkind
  have S1 := Lib.hid s1
  have i1 := hg.id; have i2 := hg.key
  have HI := Lib.hid i1; have HKE := Lib.hid i2
  have g1 := hg.h0; have g2 := hg.h1; have g3 := hg.n0; have g4 := hg.n1
  clear hg hga hkind s1 i1 i2
  go_enter Tryd.func12, Tryd.ntmps12
  have hr1 := Rd.of_own S1.out.own
  have HR1 := Lib.hid hr1
  clear hr1
  go_wp2_with fail
  refine (refaddr_any _ _ [(9 : UInt8)] F.host F.port _ g1 g2 hp0 hp1 (by simp) HR1.out).mono ?_
  rintro x w2 ⟨v2, rfl, hown2, hk2⟩
  have S2 := Lib.hid (S1.out.put hown2 (by simp [encA_length]) hk2)
  clear hown2 hk2
  have e0 : w2.cell? ⟨w.heap.size, 0, none⟩ = some (.int .i64 9) := S2.out.cell 0
  have e1 : w2.cell? ⟨w.heap.size, 1, none⟩ = some (.slice I 12 ci) := S2.out.cell 1
  have e2 : w2.cell? ⟨w.heap.size, 2, none⟩ = some (.int .u32 F.host) := S2.out.cell 2
  have e3 : w2.cell? ⟨w.heap.size, 3, none⟩ = some (.int .i64 F.port) := S2.out.cell 3
  have e4 : w2.cell? ⟨w.heap.size, 4, none⟩ = some (.slice A1 xs.length k1) := S2.out.cell 4
  have e5 : w2.cell? ⟨w.heap.size, 5, none⟩ = some (.int .u64 F.n) := S2.out.cell 5
  have e6 : w2.cell? ⟨w.heap.size, 6, none⟩ = some (.slice Kk 32 ck) := S2.out.cell 6
  have e7 : w2.cell? ⟨w.heap.size, 7, none⟩ = some (.slice A2 ds.length k2) := S2.out.cell 7
  go_wp2_with ((with_reducible show wpList _ _ _ (⟨some 71, _, _, _, _, _⟩ :: _) _ _); refine wpList_append_rd _ rfl (.tmp 68) (.tmp 70) 31 rfl (w.heap.size + 1) 5 i0 (.int .u8 0) 1 1 Tryd.underlying31 hi hz0 hz1 hz2 rfl (by decide) _ _ _ rfl S2.out.own A2 ds.length k2 (bvs ds) rfl (by have := HI.out; have := HKE.out; simp; try omega) (HG.out.r2.kept S2.out.kept (by simp)) (bvs_one _) (by have := HI.out; have := HKE.out; unfold maxLen; first | omega | (simp [encA_length, encN_length]; done) | (simp [encA_length, encN_length]; omega)) (by have := HI.out; have := HKE.out; first | omega | (simp [encA_length, encN_length]; done) | (simp [encA_length, encN_length]; omega)) (by have := S2.out.size; omega) ?_)
  intro v9 w9 hown9 hg9 _
  have S9 := Lib.hid (S2.out.append hown9 (by simp) hg9)
  clear hown9 hg9
  go_wp2
  go_ret
  refine ⟨_, rfl, ?_, S9.out.kept⟩
  have h9 := own_base S9.out.own (show w.heap.size ≤ _ by omega)
  have e : encF F xs ds = ([(9 : UInt8)] ++ encA F.host F.port) ++ ds := by simp [encF, encH, HK.out, hasOf]
  rw [e]
  exact h9

set_option maxHeartbeats 2000000 in
theorem refenc_7 : RefEncOf 7 := by
  intro F I A1 Kk A2 ci k1 ck k2 xs ds w hkind hg hp0 hp1 hga hx hd
  obtain ⟨i0, hi, hz0, hz1, hz2⟩ := info_parts info_byte
  have s1 : RE w ((w.alloc (.cells #[.int .i64 7, .slice I 12 ci, .int .u32 F.host, .int .i64 F.port, .slice A1 xs.length k1, .int .u64 F.n, .slice Kk 32 ck, .slice A2 ds.length k2] 40)).alloc (.cells #[.int .u8 7] 5)) #[.int .i64 7, .slice I 12 ci, .int .u32 F.host, .int .i64 F.port, .slice A1 xs.length k1, .int .u64 F.n, .slice Kk 32 ck, .slice A2 ds.length k2] (.slice (some ⟨w.heap.size + 1, 0, none⟩) 1 1) [7] := RE.start w _ 7
  have HG := Lib.hid hg; have HGA := Lib.hid hga
  have HK := Lib.hid hkind
  have S1 := Lib.hid s1
  have i1 := hg.id; have i2 := hg.key
  have HI := Lib.hid i1; have HKE := Lib.hid i2
  have g1 := hg.h0; have g2 := hg.h1; have g3 := hg.n0; have g4 := hg.n1
  clear hg hga hkind s1 i1 i2
  go_enter Tryd.func12, Tryd.ntmps12
  obtain ⟨nn, hnn⟩ : ∃ nn : Nat, F.n = (nn : Int) := ⟨F.n.toNat, by omega⟩
  have HNN := Lib.hid hnn
  rw [hnn] at g3 g4
  rw [hnn] at S1 ⊢
  have HR1 := Lib.hid (Rd.of_own S1.out.own)
  clear hnn
  go_wp2_with fail
  refine (refput_i _ _ [(7 : UInt8)] _ 8 8 nn false _ rfl rfl (by decide) (by omega) (by simp) HR1.out).mono ?_
  rintro x w2 ⟨v2, rfl, hown2, hk2⟩
  have S2 := Lib.hid (S1.out.put hown2 (by simp [encN_length]) hk2)
  clear hown2 hk2
  have e0 : w2.cell? ⟨w.heap.size, 0, none⟩ = some (.int .i64 7) := S2.out.cell 0
  have e1 : w2.cell? ⟨w.heap.size, 1, none⟩ = some (.slice I 12 ci) := S2.out.cell 1
  have e2 : w2.cell? ⟨w.heap.size, 2, none⟩ = some (.int .u32 F.host) := S2.out.cell 2
  have e3 : w2.cell? ⟨w.heap.size, 3, none⟩ = some (.int .i64 F.port) := S2.out.cell 3
  have e4 : w2.cell? ⟨w.heap.size, 4, none⟩ = some (.slice A1 xs.length k1) := S2.out.cell 4
  have e5 : w2.cell? ⟨w.heap.size, 5, none⟩ = some (.int .u64 nn) := S2.out.cell 5
  have e6 : w2.cell? ⟨w.heap.size, 6, none⟩ = some (.slice Kk 32 ck) := S2.out.cell 6
  have e7 : w2.cell? ⟨w.heap.size, 7, none⟩ = some (.slice A2 ds.length k2) := S2.out.cell 7
  go_wp2_with ((with_reducible show wpList _ _ _ (⟨some 71, _, _, _, _, _⟩ :: _) _ _); refine wpList_append_rd _ rfl (.tmp 68) (.tmp 70) 31 rfl (w.heap.size + 1) 5 i0 (.int .u8 0) 1 1 Tryd.underlying31 hi hz0 hz1 hz2 rfl (by decide) _ _ _ rfl S2.out.own A2 ds.length k2 (bvs ds) rfl (by have := HI.out; have := HKE.out; simp; try omega) (HG.out.r2.kept S2.out.kept (by simp)) (bvs_one _) (by have := HI.out; have := HKE.out; unfold maxLen; first | omega | (simp [encA_length, encN_length]; done) | (simp [encA_length, encN_length]; omega)) (by have := HI.out; have := HKE.out; first | omega | (simp [encA_length, encN_length]; done) | (simp [encA_length, encN_length]; omega)) (by have := S2.out.size; omega) ?_)
  intro v9 w9 hown9 hg9 _
  have S9 := Lib.hid (S2.out.append hown9 (by simp) hg9)
  clear hown9 hg9
  go_wp2
  go_ret
  refine ⟨_, rfl, ?_, S9.out.kept⟩
  have h9 := own_base S9.out.own (show w.heap.size ≤ _ by omega)
  have e : encF F xs ds = ([(7 : UInt8)] ++ encN nn 8 false) ++ ds := by simp [encF, encH, HK.out, hasOf, HNN.out]
  rw [e]
  exact h9

set_option maxHeartbeats 2000000 in
theorem refenc_2 : RefEncOf 2 := by
  intro F I A1 Kk A2 ci k1 ck k2 xs ds w hkind hg hp0 hp1 hga hx hd
  obtain ⟨i0, hi, hz0, hz1, hz2⟩ := info_parts info_byte
  have s1 : RE w ((w.alloc (.cells #[.int .i64 2, .slice I 12 ci, .int .u32 F.host, .int .i64 F.port, .slice A1 xs.length k1, .int .u64 F.n, .slice Kk 32 ck, .slice A2 ds.length k2] 40)).alloc (.cells #[.int .u8 2] 5)) #[.int .i64 2, .slice I 12 ci, .int .u32 F.host, .int .i64 F.port, .slice A1 xs.length k1, .int .u64 F.n, .slice Kk 32 ck, .slice A2 ds.length k2] (.slice (some ⟨w.heap.size + 1, 0, none⟩) 1 1) [2] := RE.start w _ 2
  have HG := Lib.hid hg; have HGA := Lib.hid hga
  have HK := Lib.hid hkind
  have S1 := Lib.hid s1
  have i1 := hg.id; have i2 := hg.key
  have HI := Lib.hid i1; have HKE := Lib.hid i2
  have g1 := hg.h0; have g2 := hg.h1; have g3 := hg.n0; have g4 := hg.n1
  clear hg hga hkind s1 i1 i2
  go_enter Tryd.func12, Tryd.ntmps12
  have e0 : ((w.alloc (.cells #[.int .i64 2, .slice I 12 ci, .int .u32 F.host, .int .i64 F.port, .slice A1 xs.length k1, .int .u64 F.n, .slice Kk 32 ck, .slice A2 ds.length k2] 40)).alloc (.cells #[.int .u8 2] 5)).cell? ⟨w.heap.size, 0, none⟩ = some (.int .i64 2) := S1.out.cell 0
  have e1 : ((w.alloc (.cells #[.int .i64 2, .slice I 12 ci, .int .u32 F.host, .int .i64 F.port, .slice A1 xs.length k1, .int .u64 F.n, .slice Kk 32 ck, .slice A2 ds.length k2] 40)).alloc (.cells #[.int .u8 2] 5)).cell? ⟨w.heap.size, 1, none⟩ = some (.slice I 12 ci) := S1.out.cell 1
  have e2 : ((w.alloc (.cells #[.int .i64 2, .slice I 12 ci, .int .u32 F.host, .int .i64 F.port, .slice A1 xs.length k1, .int .u64 F.n, .slice Kk 32 ck, .slice A2 ds.length k2] 40)).alloc (.cells #[.int .u8 2] 5)).cell? ⟨w.heap.size, 2, none⟩ = some (.int .u32 F.host) := S1.out.cell 2
  have e3 : ((w.alloc (.cells #[.int .i64 2, .slice I 12 ci, .int .u32 F.host, .int .i64 F.port, .slice A1 xs.length k1, .int .u64 F.n, .slice Kk 32 ck, .slice A2 ds.length k2] 40)).alloc (.cells #[.int .u8 2] 5)).cell? ⟨w.heap.size, 3, none⟩ = some (.int .i64 F.port) := S1.out.cell 3
  have e4 : ((w.alloc (.cells #[.int .i64 2, .slice I 12 ci, .int .u32 F.host, .int .i64 F.port, .slice A1 xs.length k1, .int .u64 F.n, .slice Kk 32 ck, .slice A2 ds.length k2] 40)).alloc (.cells #[.int .u8 2] 5)).cell? ⟨w.heap.size, 4, none⟩ = some (.slice A1 xs.length k1) := S1.out.cell 4
  have e5 : ((w.alloc (.cells #[.int .i64 2, .slice I 12 ci, .int .u32 F.host, .int .i64 F.port, .slice A1 xs.length k1, .int .u64 F.n, .slice Kk 32 ck, .slice A2 ds.length k2] 40)).alloc (.cells #[.int .u8 2] 5)).cell? ⟨w.heap.size, 5, none⟩ = some (.int .u64 F.n) := S1.out.cell 5
  have e6 : ((w.alloc (.cells #[.int .i64 2, .slice I 12 ci, .int .u32 F.host, .int .i64 F.port, .slice A1 xs.length k1, .int .u64 F.n, .slice Kk 32 ck, .slice A2 ds.length k2] 40)).alloc (.cells #[.int .u8 2] 5)).cell? ⟨w.heap.size, 6, none⟩ = some (.slice Kk 32 ck) := S1.out.cell 6
  have e7 : ((w.alloc (.cells #[.int .i64 2, .slice I 12 ci, .int .u32 F.host, .int .i64 F.port, .slice A1 xs.length k1, .int .u64 F.n, .slice Kk 32 ck, .slice A2 ds.length k2] 40)).alloc (.cells #[.int .u8 2] 5)).cell? ⟨w.heap.size, 7, none⟩ = some (.slice A2 ds.length k2) := S1.out.cell 7
  go_wp2_with fail
  go_region_law (first
    | ((refine step_append_rd _ rfl (.tmp 19) (.tmp 21) 31 rfl (w.heap.size + 1) 5 i0 (.int .u8 0) 1 1 Tryd.underlying31 hi hz0 hz1 hz2 rfl (by decide) _ _ _ rfl S1.out.drew.own I 12 ci (bvs F.id) rfl (by rw [bvs_length]; exact HI.out) (HG.out.ri.kept S1.out.drew.kept (fun _ _ _ => List.not_mem_nil)) (bvs_one _) (by unfold maxLen; show 1 + 12 ≤ _; decide) (by show (1 + 12) * 1 ≤ _; decide) S1.out.drew.size ?_); intro v2 w2 hown2 hg2 _; have S2 := Lib.hid (S1.out.drew.append hown2 (by have := HI.out; simp; try omega) hg2); clear hown2 hg2; obtain ⟨A3, c3, hv3, hr3⟩ := S2.out.slice; have HR3 := Lib.hid hr3; clear hr3; subst hv3; have z2 : w2.cell? ⟨w.heap.size, 2, none⟩ = some (.int .u32 F.host) := S2.out.cell 2; have z3 : w2.cell? ⟨w.heap.size, 3, none⟩ = some (.int .i64 F.port) := S2.out.cell 3)
    | (rw [if_pos (by simp [Region.wanted])]; go_simp; go_at_call 22; refine (refaddr_any _ _ ([(2 : UInt8)] ++ F.id) F.host F.port _ g1 g2 hp0 hp1 (by have := HI.out; simp; omega) HR3.out).mono ?_; rintro x w4 ⟨v4, rfl, hown4, hk4⟩; have S4 := Lib.hid (S2.out.put hown4 (by simp [encA_length]) hk4); clear hown4 hk4))
  all_goals
    have e0 : w4.cell? ⟨w.heap.size, 0, none⟩ = some (.int .i64 2) := S4.out.cell 0
    have e1 : w4.cell? ⟨w.heap.size, 1, none⟩ = some (.slice I 12 ci) := S4.out.cell 1
    have e2 : w4.cell? ⟨w.heap.size, 2, none⟩ = some (.int .u32 F.host) := S4.out.cell 2
    have e3 : w4.cell? ⟨w.heap.size, 3, none⟩ = some (.int .i64 F.port) := S4.out.cell 3
    have e4 : w4.cell? ⟨w.heap.size, 4, none⟩ = some (.slice A1 xs.length k1) := S4.out.cell 4
    have e5 : w4.cell? ⟨w.heap.size, 5, none⟩ = some (.int .u64 F.n) := S4.out.cell 5
    have e6 : w4.cell? ⟨w.heap.size, 6, none⟩ = some (.slice Kk 32 ck) := S4.out.cell 6
    have e7 : w4.cell? ⟨w.heap.size, 7, none⟩ = some (.slice A2 ds.length k2) := S4.out.cell 7
    go_wp2_with ((with_reducible show wpList _ _ _ (⟨some 71, _, _, _, _, _⟩ :: _) _ _); refine wpList_append_rd _ rfl (.tmp 68) (.tmp 70) 31 rfl (w.heap.size + 1) 5 i0 (.int .u8 0) 1 1 Tryd.underlying31 hi hz0 hz1 hz2 rfl (by decide) _ _ _ rfl S4.out.own A2 ds.length k2 (bvs ds) rfl (by have := HI.out; have := HKE.out; simp; try omega) (HG.out.r2.kept S4.out.kept (by simp)) (bvs_one _) (by have := HI.out; have := HKE.out; unfold maxLen; first | omega | (simp [encA_length, encN_length]; done) | (simp [encA_length, encN_length]; omega)) (by have := HI.out; have := HKE.out; first | omega | (simp [encA_length, encN_length]; done) | (simp [encA_length, encN_length]; omega)) (by have := S4.out.size; omega) ?_)
    intro v9 w9 hown9 hg9 _
    have S9 := Lib.hid (S4.out.append hown9 (by simp) hg9)
    clear hown9 hg9
    go_wp2
    go_ret
    refine ⟨_, rfl, ?_, S9.out.kept⟩
    have h9 := own_base S9.out.own (show w.heap.size ≤ _ by omega)
    have e : encF F xs ds = ([(2 : UInt8)] ++ F.id ++ encA F.host F.port) ++ ds := by simp [encF, encH, HK.out, hasOf]
    rw [e]
    exact h9

theorem Rd.new_at {w : World} {u : Value} {e : TypeId} {n : Nat} (h : n = w.heap.size) : Rd (w.alloc (.cells #[u] e)) (some ⟨n, 0, none⟩) [u] := by subst h; exact Rd.new_one _ _ _
theorem encN_one (n : Nat) : encN n 1 true = [UInt8.ofNat n] := by simp [encN, encL]

set_option maxHeartbeats 2000000 in
theorem refenc_3 : RefEncOf 3 := by
  intro F I A1 Kk A2 ci k1 ck k2 xs ds w hkind hg hp0 hp1 hga hx hd
  obtain ⟨i0, hi, hz0, hz1, hz2⟩ := info_parts info_byte
  have s1 : RE w ((w.alloc (.cells #[.int .i64 3, .slice I 12 ci, .int .u32 F.host, .int .i64 F.port, .slice A1 xs.length k1, .int .u64 F.n, .slice Kk 32 ck, .slice A2 ds.length k2] 40)).alloc (.cells #[.int .u8 3] 5)) #[.int .i64 3, .slice I 12 ci, .int .u32 F.host, .int .i64 F.port, .slice A1 xs.length k1, .int .u64 F.n, .slice Kk 32 ck, .slice A2 ds.length k2] (.slice (some ⟨w.heap.size + 1, 0, none⟩) 1 1) [3] := RE.start w _ 3
  have HG := Lib.hid hg; have HGA := Lib.hid hga
  have HK := Lib.hid hkind
  have S1 := Lib.hid s1
  have i1 := hg.id; have i2 := hg.key
  have HI := Lib.hid i1; have HKE := Lib.hid i2
  have g1 := hg.h0; have g2 := hg.h1; have g3 := hg.n0; have g4 := hg.n1
  clear hg hga hkind s1 i1 i2
  go_enter Tryd.func12, Tryd.ntmps12
  have e0 : ((w.alloc (.cells #[.int .i64 3, .slice I 12 ci, .int .u32 F.host, .int .i64 F.port, .slice A1 xs.length k1, .int .u64 F.n, .slice Kk 32 ck, .slice A2 ds.length k2] 40)).alloc (.cells #[.int .u8 3] 5)).cell? ⟨w.heap.size, 0, none⟩ = some (.int .i64 3) := S1.out.cell 0
  have e1 : ((w.alloc (.cells #[.int .i64 3, .slice I 12 ci, .int .u32 F.host, .int .i64 F.port, .slice A1 xs.length k1, .int .u64 F.n, .slice Kk 32 ck, .slice A2 ds.length k2] 40)).alloc (.cells #[.int .u8 3] 5)).cell? ⟨w.heap.size, 1, none⟩ = some (.slice I 12 ci) := S1.out.cell 1
  have e2 : ((w.alloc (.cells #[.int .i64 3, .slice I 12 ci, .int .u32 F.host, .int .i64 F.port, .slice A1 xs.length k1, .int .u64 F.n, .slice Kk 32 ck, .slice A2 ds.length k2] 40)).alloc (.cells #[.int .u8 3] 5)).cell? ⟨w.heap.size, 2, none⟩ = some (.int .u32 F.host) := S1.out.cell 2
  have e3 : ((w.alloc (.cells #[.int .i64 3, .slice I 12 ci, .int .u32 F.host, .int .i64 F.port, .slice A1 xs.length k1, .int .u64 F.n, .slice Kk 32 ck, .slice A2 ds.length k2] 40)).alloc (.cells #[.int .u8 3] 5)).cell? ⟨w.heap.size, 3, none⟩ = some (.int .i64 F.port) := S1.out.cell 3
  have e4 : ((w.alloc (.cells #[.int .i64 3, .slice I 12 ci, .int .u32 F.host, .int .i64 F.port, .slice A1 xs.length k1, .int .u64 F.n, .slice Kk 32 ck, .slice A2 ds.length k2] 40)).alloc (.cells #[.int .u8 3] 5)).cell? ⟨w.heap.size, 4, none⟩ = some (.slice A1 xs.length k1) := S1.out.cell 4
  have e5 : ((w.alloc (.cells #[.int .i64 3, .slice I 12 ci, .int .u32 F.host, .int .i64 F.port, .slice A1 xs.length k1, .int .u64 F.n, .slice Kk 32 ck, .slice A2 ds.length k2] 40)).alloc (.cells #[.int .u8 3] 5)).cell? ⟨w.heap.size, 5, none⟩ = some (.int .u64 F.n) := S1.out.cell 5
  have e6 : ((w.alloc (.cells #[.int .i64 3, .slice I 12 ci, .int .u32 F.host, .int .i64 F.port, .slice A1 xs.length k1, .int .u64 F.n, .slice Kk 32 ck, .slice A2 ds.length k2] 40)).alloc (.cells #[.int .u8 3] 5)).cell? ⟨w.heap.size, 6, none⟩ = some (.slice Kk 32 ck) := S1.out.cell 6
  have e7 : ((w.alloc (.cells #[.int .i64 3, .slice I 12 ci, .int .u32 F.host, .int .i64 F.port, .slice A1 xs.length k1, .int .u64 F.n, .slice Kk 32 ck, .slice A2 ds.length k2] 40)).alloc (.cells #[.int .u8 3] 5)).cell? ⟨w.heap.size, 7, none⟩ = some (.slice A2 ds.length k2) := S1.out.cell 7
  have hb : bvs [UInt8.ofNat xs.length] = [.int .u8 (xs.length : Int)] := by simp [bvs]; omega
  have HBB := Lib.hid hb
  clear hb
  go_wp2_with ((with_reducible show wpList _ _ _ (⟨some 34, _, _, _, _, _⟩ :: _) _ _); refine wpList_append_rd _ rfl (.tmp 28) (.tmp 33) 31 rfl (w.heap.size + 1) 5 i0 (.int .u8 0) 1 1 Tryd.underlying31 hi hz0 hz1 hz2 rfl (by decide) (.slice (some ⟨w.heap.size + 1, 0, none⟩) 1 1) 1 (bvs [3]) rfl (S1.out.alloc (.cells #[.int .u8 (xs.length : Int)] 5)).own _ 1 1 [.int .u8 (xs.length : Int)] rfl rfl (Rd.new_at (by simp)) (by simp [Value.oneCell']) (by unfold maxLen; show 1 + 1 ≤ _; decide) (by show (1 + 1) * 1 ≤ _; decide) (S1.out.alloc (.cells #[.int .u8 (xs.length : Int)] 5)).size ?_)
  intro v2 w2 hown2 hg2 _
  have S2 := Lib.hid ((S1.out.alloc _).append (m := [UInt8.ofNat xs.length]) (by rw [HBB.out]; exact hown2) rfl hg2)
  clear hown2 hg2 e0 e1 e2 e3 e4 e5 e6 e7
  go_wp2
  go_loopw [3, 4] (fun v i wr => ∃ k : Nat, k ≤ xs.length ∧ i = .int .i64 k ∧ Hid (RE w wr #[.int .i64 3, .slice I 12 ci, .int .u32 F.host, .int .i64 F.port, .slice A1 xs.length k1, .int .u64 F.n, .slice Kk 32 ck, .slice A2 ds.length k2] v ([3] ++ [UInt8.ofNat xs.length] ++ encAs (xs.take k)))) (fun _ i _ => xs.length - (intOf i).toNat)
  case atStart => exact ⟨0, Nat.zero_le _, rfl, by show RE _ _ _ _ _; simpa [encAs] using S2.out⟩
  case round =>
    obtain ⟨k, hk, rfl, S3⟩ := hrel
    have z4 : wr.cell? ⟨w.heap.size, 4, none⟩ = some (.slice A1 xs.length k1) := S3.out.cell 4
    by_cases hlt : k < xs.length
    · obtain ⟨ba, oa, hA, _, hcell⟩ := (HG.out.r1.kept S3.out.kept (by simp)).at_ (k := 0) (by rw [avs_length]; omega)
      have hgk := avs_get xs k hlt
      have x0 := hcell _ _ hgk.1
      have x1 := hcell _ _ hgk.2
      obtain ⟨⟨h, p⟩, hx2⟩ : ∃ x : Int × Int, xs[k]?.getD (0, 0) = x := ⟨_, rfl⟩
      have hgo := HGA.out k hlt
      rw [hx2] at hgo
      rw [hx2, show oa + 2 * k = oa + k * 2 by omega] at x0
      rw [hx2, show oa + (2 * k + 1) = oa + k * 2 + 1 by omega] at x1
      have HX := Lib.hid hx2
      subst hA
      clear hcell hgk hx2
      obtain ⟨A3, c3, hv3, hr3⟩ := S3.out.slice
      subst hv3
      have HR3 := Lib.hid hr3
      have hlen : ([3] ++ [UInt8.ofNat xs.length] ++ encAs (xs.take k)).length = 2 + 6 * k := by
        rw [List.length_append, encAs_length, List.length_take, Nat.min_eq_left hk]; rfl
      have HLN := Lib.hid hlen
      clear hr3 hlen
      go_wp2_with fail
      refine (refaddr_any A3 c3 _ h p wr hgo.1 hgo.2.1 hgo.2.2.1 hgo.2.2.2 (by rw [HLN.out]; omega) HR3.out).mono ?_
      rintro x w4 ⟨v4, rfl, hown4, hk4⟩
      have S4 := Lib.hid (S3.out.put hown4 (by simp [encA_length]) hk4)
      clear hown4 hk4
      go_wp2
      go_roundw
      case rel =>
        refine ⟨k + 1, by omega, by go_num, ?_⟩
        show RE _ _ _ _ _
        rw [encAs_take xs k hlt, HX.out, ← List.append_assoc]
        exact S4.out
      case measure => simp [intOf]; omega
    · have hke : k = xs.length := by omega
      subst hke
      rw [List.take_length] at S3
      have HLN : Hid (([3] ++ [UInt8.ofNat xs.length] ++ encAs xs).length = 2 + 6 * xs.length) := by
        show _ = _
        rw [List.length_append, encAs_length]; rfl
      have z7 : wr.cell? ⟨w.heap.size, 7, none⟩ = some (.slice A2 ds.length k2) := S3.out.cell 7
      go_wp2_with ((with_reducible show wpList _ _ _ (⟨some 71, _, _, _, _, _⟩ :: _) _ _); refine wpList_append_rd _ rfl (.tmp 68) (.tmp 70) 31 rfl (w.heap.size + 1) 5 i0 (.int .u8 0) 1 1 Tryd.underlying31 hi hz0 hz1 hz2 rfl (by decide) _ _ _ rfl S3.out.own A2 ds.length k2 (bvs ds) rfl (by have := HI.out; have := HKE.out; simp; try omega) (HG.out.r2.kept S3.out.kept (by simp)) (bvs_one _) (by have := HLN.out; unfold maxLen; first | omega | (simp [encA_length, encN_length]; done) | (simp [encA_length, encN_length]; omega)) (by have := HLN.out; first | omega | (simp [encA_length, encN_length]; done) | (simp [encA_length, encN_length]; omega)) (by have := S3.out.size; omega) ?_)
      intro v9 w9 hown9 hg9 _
      have S9 := Lib.hid (S3.out.append hown9 (by simp) hg9)
      clear hown9 hg9
      go_wp2
      go_ret
      refine ⟨_, rfl, ?_, S9.out.kept⟩
      have h9 := own_base S9.out.own (show w.heap.size ≤ _ by omega)
      have e : encF F xs ds = ([3] ++ [UInt8.ofNat xs.length] ++ encAs xs) ++ ds := by simp [encF, encH, HK.out, hasOf, encN_one]
      rw [e]
      exact h9

theorem refenc_any (F : Fr) (I A1 Kk A2 : Option Addr) (ci k1 ck k2 : Nat) (xs : List (Int × Int)) (ds : List UInt8) (w : World) (hk : isKind F.kind = true) (hg : RefG w F I A1 Kk A2 xs ds) (hp0 : 0 ≤ F.port) (hp1 : F.port < 65536) (hga : GoodAs xs) (hx : xs.length < 256) (hd : ds.length + 30000 ≤ 140737488355328) :
    Calls Tryd.prog 12 #[.agg #[.int .i64 F.kind, .slice I 12 ci, .int .u32 F.host, .int .i64 F.port, .slice A1 xs.length k1, .int .u64 F.n, .slice Kk 32 ck, .slice A2 ds.length k2]] w
      fun x w' => ∃ v, x = .returned v ∧ w'.ownsRow w.heap.size 5 1 v (encF F xs ds).length (bvs (encF F xs ds)) ∧ Kept [] w w' := by
  have h : 1 ≤ F.kind ∧ F.kind ≤ 10 := by simpa [isKind] using hk
  have go : ∀ K : Int, RefEncOf K → F.kind = K → Calls Tryd.prog 12 #[.agg #[.int .i64 F.kind, .slice I 12 ci, .int .u32 F.host, .int .i64 F.port, .slice A1 xs.length k1, .int .u64 F.n, .slice Kk 32 ck, .slice A2 ds.length k2]] w
      fun x w' => ∃ v, x = .returned v ∧ w'.ownsRow w.heap.size 5 1 v (encF F xs ds).length (bvs (encF F xs ds)) ∧ Kept [] w w' := fun K hK e => by
    rw [e]
    exact hK F I A1 Kk A2 ci k1 ck k2 xs ds w e hg hp0 hp1 hga hx hd
  rcases (show F.kind = 1 ∨ F.kind = 2 ∨ F.kind = 3 ∨ F.kind = 4 ∨ F.kind = 5 ∨ F.kind = 6 ∨ F.kind = 7 ∨ F.kind = 8 ∨ F.kind = 9 ∨ F.kind = 10 by omega) with e | e | e | e | e | e | e | e | e | e
  · exact go _ refenc_1 e
  · exact go _ refenc_2 e
  · exact go _ refenc_3 e
  · exact go _ refenc_4 e
  · exact go _ refenc_5 e
  · exact go _ refenc_6 e
  · exact go _ refenc_7 e
  · exact go _ refenc_8 e
  · exact go _ refenc_9 e
  · exact go _ refenc_10 e
end Go.Proofs.YthnmjpohdlimiaaDoor
