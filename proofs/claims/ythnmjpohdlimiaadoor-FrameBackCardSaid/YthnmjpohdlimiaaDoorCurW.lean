/- The cursor of package frame as it writes: its fields, one behind the other. -/
import Derived.Test.YthnmjpohdlimiaaDoorPut
import Derived.Deep.RegionWith
import Derived.Deep.RegionHeld3
namespace Go.Proofs.YthnmjpohdlimiaaDoor
open Go.RowKit

/-- A cursor that writes: its bytes are a row of the call's own. -/
structure CW (w : World) (base c : Nat) (v : Value) (l : List UInt8) : Prop where
  blk : w.heap[c]? = some (.cells #[v, .bool false, .bool false] 62 (0, 0))
  own : w.ownsRow base 5 1 v l.length (bvs l)
/-- What a step of a cursor may have turned: its own block, and its row. -/
structure Moved (c : Nat) (w w' : World) (v v' : Value) : Prop where
  kept : Kept (c :: v.ownBlock.toList) w w'
  row : v'.ownBlock = v.ownBlock ∨ ∀ k, v'.ownBlock = some k → w.heap.size ≤ k
theorem Moved.refl (c : Nat) (w : World) (v : Value) : Moved c w w v v := ⟨Kept.refl _ _, .inl rfl⟩
theorem Moved.trans {c : Nat} {w w1 w2 : World} {v v1 v2 : Value} (h : Moved c w w1 v v1) (h' : Moved c w1 w2 v1 v2) : Moved c w w2 v v2 := by
  refine ⟨h.kept.trans h'.kept fun k hk hm => ?_, ?_⟩
  · rcases List.mem_cons.1 hm with rfl | hm
    · exact List.mem_cons_self
    · rcases h.row with e | e
      · rw [e] at hm; exact List.mem_cons_of_mem _ hm
      · have := e k (by simpa using hm)
        omega
  · rcases h'.row with e' | e'
    · rw [e']; exact h.row
    · exact .inr fun k hk => Nat.le_trans h.kept.size (e' k hk)
theorem CW.cell {w : World} {base c : Nat} {v : Value} {l : List UInt8} (h : CW w base c v l) : w.cell? ⟨c, 0, none⟩ = some v ∧ w.cell? ⟨c, 1, none⟩ = some (.bool false) ∧ w.cell? ⟨c, 2, none⟩ = some (.bool false) ∧ w.frozen? ⟨c, 0, none⟩ = false :=
  ⟨cell_of_row _ _ _ _ _ _ h.blk, cell_of_row _ _ _ _ _ _ h.blk, cell_of_row _ _ _ _ _ _ h.blk, frozen_of_row _ _ _ _ _ h.blk⟩
theorem CW.slice {w : World} {base c : Nat} {v : Value} {l : List UInt8} (h : CW w base c v l) : ∃ A k, v = .slice A l.length k ∧ Rd w A (bvs l) := by
  obtain ⟨A, k, e⟩ : ∃ A k, v = .slice A l.length k := by
    exact own_slice h.own
  subst e
  exact ⟨A, k, rfl, Rd.of_own h.own⟩

theorem Kept.of_drewN {S : List Nat} {w w' : World} {n : Nat} (h : Kept S (w.drewN n) w') : Kept S w w' := ⟨h.os, h.tape, h.output, h.size, h.block⟩
theorem blk_set0 {w : World} {c : Nat} {t : TypeId} {v v' x y : Value} (h : w.heap[c]? = some (.cells #[v, x, y] t (0, 0))) : (w.setCell ⟨c, 0, none⟩ v').heap[c]? = some (.cells #[v', x, y] t (0, 0)) :=
  heap_setCell_same w c 0 _ t v' h
/-- Other bytes in the cursor's place, a new row. -/
theorem cw_put {w w1 : World} {base c m n : Nat} {v v1 : Value} {l l1 : List UInt8} (h : CW w base c v l) (hb : base ≤ w.heap.size)
    (hown : w1.ownsRow (w.drewN n).heap.size 5 1 v1 m (bvs l1)) (hk : Kept [] (w.drewN n) w1) (hm : m = l1.length) : CW (w1.setCell ⟨c, 0, none⟩ v1) base c v1 l1 := by
  subst hm
  have hc : c < w.heap.size := (Array.getElem?_eq_some_iff.1 h.blk).1
  have hk' : Kept [] w w1 := hk.of_drewN
  refine ⟨blk_set0 ((hk'.block c hc (by simp)).trans h.blk), ?_⟩
  refine own_kept (own_base hown (by simpa using hb)) (Kept.setCell (S := [c]) (Kept.refl _ _) (by simp) v1) fun j hj hm => ?_
  have := (hown.lt j hj).1
  simp only [List.mem_singleton] at hm
  have e : (w.drewN n).heap.size = w.heap.size := rfl
  omega
theorem moved_put {w w1 : World} {c n : Nat} {v v1 : Value} (hk : Kept [] (w.drewN n) w1) (hrow : ∀ k, v1.ownBlock = some k → w.heap.size ≤ k) : Moved c w (w1.setCell ⟨c, 0, none⟩ v1) v v1 := by
  refine ⟨Kept.setCell ((Kept.of_drewN (n := n) hk).mono fun k _ hm => by cases hm) (fun _ => ?_) _, .inr hrow⟩
  exact List.mem_cons_self

set_option maxHeartbeats 1000000 in
/-- (*cursor).number, as it writes. -/
theorem number_w (base c p o : Nat) (s n : Int) (big : Bool) (v : Value) (l : List UInt8) (w : World) (h : CW w base c v l) (hb : base ≤ w.heap.size) (hp : w.cell? ⟨p, o, none⟩ = some (.int .u64 n))
    (h0 : 0 ≤ s) (hs : s ≤ 8) (h1 : 0 ≤ n) (hn : n < 18446744073709551616) (h5 : l.length + 8 ≤ 140737488355328) :
    Calls Tryd.prog 30 #[.pointer (some ⟨c, 0, none⟩), .int .i64 s, .pointer (some ⟨p, o, none⟩), .bool big] w fun x w' => x = .returned (.tuple #[]) ∧
      ∃ v', CW w' base c v' (l ++ encN n.toNat s.toNat big) ∧ Moved c w w' v v' := by
  obtain ⟨c0, c1, _, f0⟩ := h.cell
  obtain ⟨A, k, rfl, hr⟩ := h.slice
  have hcs : c < w.heap.size := block_lt_of_cell c0
  have H := Lib.hid h
  clear h
  go_enter Tryd.func30, Tryd.ntmps30
  go_wp2_with fail
  go_region_with (go_at_call 34; refine (put_any A k l s n big _ h0 hs h1 hn h5 (hr.drewN _)).mono ?_; rintro x w1 ⟨v1, rfl, hown1, hk1⟩; obtain ⟨A1, k1, rfl⟩ := own_slice hown1; have d0 := (hk1.cell (p := ⟨c, 0, none⟩) hcs (by simp)).trans c0; have d1 := (hk1.frozen (p := ⟨c, 0, none⟩) hcs (by simp)).trans f0)
  all_goals
    go_wp2
    go_end0
    exact ⟨rfl, _, cw_put H.out hb hown1 hk1 (by rw [List.length_append, encN_length]), moved_put hk1 fun j hj => (hown1.lt j hj).1⟩

theorem own_ne_blk {w : World} {base c : Nat} {v : Value} {l : List UInt8} (h : CW w base c v l) (e : v.ownBlock = some c) : False := by
  rcases own_form h.own with ⟨rfl, _⟩ | ⟨g, cap, cur, rfl, _, _, hg, _⟩
  · simp [Value.ownBlock] at e
  · simp [Value.ownBlock] at e
    subst e
    rw [h.blk] at hg
    injection hg with hg
    injection hg with _ ht
    exact absurd ht (by decide)
theorem cw_append {w w1 : World} {base c n : Nat} {v v1 : Value} {l r : List UInt8} (h : CW w base c v l) (_hb : base ≤ w.heap.size)
    (hown : w1.ownsRow base 5 1 v1 n (bvs l ++ bvs r)) (hn : n = l.length + r.length) (hg : w.grownBy w1 v.ownBlock) (hrow : v1.ownBlock = v.ownBlock ∨ v1.ownBlock = some w.heap.size) :
    CW (w1.setCell ⟨c, 0, none⟩ v1) base c v1 (l ++ r) ∧ Moved c w (w1.setCell ⟨c, 0, none⟩ v1) v v1 := by
  subst hn
  have hc : c < w.heap.size := (Array.getElem?_eq_some_iff.1 h.blk).1
  have hne : ∀ k, v.ownBlock = some k → k ≠ c := fun k hk e => own_ne_blk h (e ▸ hk)
  have hne1 : ∀ k, v1.ownBlock = some k → k ≠ c := fun k hk => by
    rcases hrow with e | e
    · exact hne k (e ▸ hk)
    · rw [e] at hk; injection hk with hk; omega
  have hk1 : Kept (c :: v.ownBlock.toList) w w1 := (Kept.refl _ _).grown hg fun k hk _ => List.mem_cons_of_mem _ (by rw [hk]; simp)
  refine ⟨⟨blk_set0 ((hg.block c hc fun e => hne c e.symm rfl).trans h.blk), ?_⟩, hk1.setCell (fun _ => List.mem_cons_self) _, ?_⟩
  · rw [List.length_append, bvs_append]
    refine own_kept hown (Kept.setCell (S := [c]) (Kept.refl _ _) (by simp) v1) fun j hj hm => ?_
    simp only [List.mem_singleton] at hm
    exact hne1 j hj hm
  · rcases hrow with e | e
    · exact .inl e
    · exact .inr fun k hk => by rw [e] at hk; injection hk with hk; omega

set_option maxHeartbeats 1000000 in
/-- (*cursor).raw, as it writes. -/
theorem raw_w (base c : Nat) (A : Option Addr) (m k : Nat) (r : List UInt8) (v : Value) (l : List UInt8) (w : World) (h : CW w base c v l) (hb : base ≤ w.heap.size) (hr : Rd w A (bvs r)) (hm : m = r.length)
    (h5 : l.length + r.length ≤ 140737488355328) :
    Calls Tryd.prog 27 #[.pointer (some ⟨c, 0, none⟩), .slice A m k] w fun x w' => x = .returned (.tuple #[]) ∧
      ∃ v', CW w' base c v' (l ++ r) ∧ Moved c w w' v v' := by
  obtain ⟨i0, hi, hz0, hz1, hz2⟩ := info_parts info_byte
  obtain ⟨c0, c1, _, f0⟩ := h.cell
  obtain ⟨A0, k0, rfl, _⟩ := h.slice
  have hcs : c < w.heap.size := block_lt_of_cell c0
  have H := Lib.hid h
  clear h
  subst hm
  go_enter Tryd.func27, Tryd.ntmps27
  go_wp2_with (at_builtin; refine wpList_append_rd _ rfl (.tmp 18) (.tmp 19) 31 rfl base 5 i0 (.int .u8 0) 1 1 Tryd.underlying31 hi hz0 hz1 hz2 rfl (by decide) _ _ _ rfl H.out.own _ _ _ (bvs r) rfl ?c1 hr (bvs_one r) ?c4 ?c5 ?c6 ?_)
  case c1 => simp
  case c4 => unfold maxLen; omega
  case c5 => omega
  case c6 => exact hb
  intro v1 w1 hown1 hg1 hrow1
  obtain ⟨hC, hM⟩ := cw_append H.out hb hown1 rfl hg1 hrow1
  have hnb : some c ≠ (Value.slice A0 l.length k0).ownBlock := fun e => own_ne_blk H.out e.symm
  have d0 := (World.cell?_of_block (w := w) (a := ⟨c, 0, none⟩) (hg1.block c hcs hnb)).trans c0
  have d1 := (World.frozen?_of_block (w := w) (a := ⟨c, 0, none⟩) (hg1.block c hcs hnb)).trans f0
  have HC := Lib.hid hC
  have HM := Lib.hid hM
  obtain ⟨A1, k1, rfl⟩ := own_slice hown1
  clear hC hM hg1 hrow1 hnb hown1
  go_wp2
  go_end0
  exact ⟨rfl, _, HC.out, HM.out⟩

theorem CW.lt {w : World} {base c : Nat} {v : Value} {l : List UInt8} (h : CW w base c v l) : c < w.heap.size := (Array.getElem?_eq_some_iff.1 h.blk).1
theorem CW.kept {S : List Nat} {w w' : World} {base c : Nat} {v : Value} {l : List UInt8} (h : CW w base c v l) (hk : Kept S w w') (hc : c ∉ S) (hv : ∀ k, v.ownBlock = some k → k ∉ S) : CW w' base c v l :=
  ⟨(hk.block c h.lt hc).trans h.blk, own_kept h.own hk hv⟩
/-- An address's bytes. -/
def encA (h q : Int) : List UInt8 := encN h.toNat 4 true ++ encN q.toNat 2 true
theorem encA_length (h q : Int) : (encA h q).length = 6 := by simp [encA, encN_length]

theorem Moved.cell {c B : Nat} {w w' : World} {v v' : Value} (h : Moved c w w' v v') (hc : c < B) (hv : ∀ k, v.ownBlock = some k → k < B) {p : Addr} (hp : B ≤ p.block) (hlt : p.block < w.heap.size) : w'.cell? p = w.cell? p :=
  h.kept.cell hlt fun hm => by
    rcases List.mem_cons.1 hm with e | hm
    · omega
    · have := hv p.block (by simpa using hm)
      omega
/-- Two new cells: the cursor is as it was. -/
theorem cw_new2 {w : World} {base c : Nat} {v : Value} {l : List UInt8} (h : CW w base c v l) (x y : Value) (t : TypeId) :
    CW ((w.alloc (.cells #[x] t)).alloc (.cells #[y] t)).drew base c v l ∧ Moved c w ((w.alloc (.cells #[x] t)).alloc (.cells #[y] t)).drew v v ∧
      ((w.alloc (.cells #[x] t)).alloc (.cells #[y] t)).drew.cell? ⟨w.heap.size, 0, none⟩ = some x ∧ ((w.alloc (.cells #[x] t)).alloc (.cells #[y] t)).drew.cell? ⟨w.heap.size + 1, 0, none⟩ = some y := by
  have hk : Kept [] w ((w.alloc (.cells #[x] t)).alloc (.cells #[y] t)).drew := (((Kept.refl [] w).alloc _).alloc _).drew
  refine ⟨h.kept hk (by simp) (by simp), ⟨hk.mono fun k _ hm => (by cases hm), .inl rfl⟩, ?_, ?_⟩
  · show ((w.alloc (.cells #[x] t)).alloc (.cells #[y] t)).cell? ⟨w.heap.size, 0, none⟩ = some x
    rw [World.cell?_alloc_lt _ _ _ (by simp), World.cell?_alloc_at _ _ _ _ rfl]
    rfl
  · show ((w.alloc (.cells #[x] t)).alloc (.cells #[y] t)).cell? ⟨w.heap.size + 1, 0, none⟩ = some y
    rw [World.cell?_alloc_at _ _ _ _ (by simp)]
    rfl

set_option maxHeartbeats 2000000 in
/-- (*cursor).addr, as it writes. -/
theorem addr_w (base c p o : Nat) (hh q : Int) (v : Value) (l : List UInt8) (w : World) (h : CW w base c v l) (hb : base ≤ w.heap.size)
    (hp1 : w.cell? ⟨p, o, none⟩ = some (.int .u32 hh)) (hp2 : w.cell? ⟨p, o + 1, none⟩ = some (.int .i64 q)) (h0 : 0 ≤ hh) (h1 : hh < 4294967296) (h2 : 0 ≤ q) (h3 : q < 65536) (h5 : l.length + 20 ≤ 140737488355328) :
    Calls Tryd.prog 28 #[.pointer (some ⟨c, 0, none⟩), .pointer (some ⟨p, o, none⟩)] w fun x w' => x = .returned (.tuple #[]) ∧
      ∃ v', CW w' base c v' (l ++ encA hh q) ∧ Moved c w w' v v' := by
  have H := Lib.hid h
  have p1 := cell_new hp1
  have p2 := cell_new2 hp1
  have q1 := cell_new hp2
  have q2 := cell_new2 hp2
  clear h
  go_enter Tryd.func28, Tryd.ntmps28
  go_wp2_with fail
  go_region
  · obtain ⟨hC, hM, a1, a2⟩ := cw_new2 H.out (.int .u64 hh) (.int .u64 q) 28
    go_wp2_with fail
    refine (number_w base c (w.heap.size) 0 4 hh true v l _ hC (by simp; omega) a1 (by omega) (by omega) h0 (by omega) (by omega)).mono ?_
    rintro x w1 ⟨rfl, v1, hC1, hM1⟩
    have e2 := (hM1.cell (B := w.heap.size) (p := ⟨w.heap.size + 1, 0, none⟩) H.out.lt (fun k hk => (H.out.own.lt k hk).2) (by simp) (by first | (simp; done) | (simp; omega))).trans a2
    have hsz := (hM.trans hM1).kept.size
    go_wp2_with fail
    refine (number_w base c (w.heap.size + 1) 0 2 q true v1 _ w1 hC1 (by omega) e2 (by omega) (by omega) h2 (by omega) (by simp [encN_length]; omega)).mono ?_
    rintro x w2 ⟨rfl, v2, hC2, hM2⟩
    obtain ⟨_, d1, _, _⟩ := hC2.cell
    have HC := Lib.hid hC2
    have HM := Lib.hid ((hM.trans hM1).trans hM2)
    clear hC1 hM1 hC2 hM2 hC hM e2
    go_wp2
    go_end0
    refine ⟨rfl, v2, ?_, HM.out⟩
    have := HC.out
    rw [List.append_assoc] at this
    exact this
  · obtain ⟨hC, hM, a1, a2⟩ := cw_new2 H.out (.int .u64 q) (.int .u64 hh) 28
    go_wp2_with fail
    refine (number_w base c (w.heap.size + 1) 0 4 hh true v l _ hC (by simp; omega) a2 (by omega) (by omega) h0 (by omega) (by omega)).mono ?_
    rintro x w1 ⟨rfl, v1, hC1, hM1⟩
    have e2 := (hM1.cell (B := w.heap.size) (p := ⟨w.heap.size, 0, none⟩) H.out.lt (fun k hk => (H.out.own.lt k hk).2) (by simp) (by first | (simp; done) | (simp; omega))).trans a1
    have hsz := (hM.trans hM1).kept.size
    go_wp2_with fail
    refine (number_w base c (w.heap.size) 0 2 q true v1 _ w1 hC1 (by omega) e2 (by omega) (by omega) h2 (by omega) (by simp [encN_length]; omega)).mono ?_
    rintro x w2 ⟨rfl, v2, hC2, hM2⟩
    obtain ⟨_, d1, _, _⟩ := hC2.cell
    have HC := Lib.hid hC2
    have HM := Lib.hid ((hM.trans hM1).trans hM2)
    clear hC1 hM1 hC2 hM2 hC hM e2
    go_wp2
    go_end0
    refine ⟨rfl, v2, ?_, HM.out⟩
    have := HC.out
    rw [List.append_assoc] at this
    exact this

/-- Addresses as values, a cell a field. -/
def avs (l : List (Int × Int)) : List Value := l.flatMap fun x => [.int .u32 x.1, .int .i64 x.2]
theorem avs_cons (x : Int × Int) (l : List (Int × Int)) : avs (x :: l) = .int .u32 x.1 :: .int .i64 x.2 :: avs l := rfl
theorem avs_append (l m : List (Int × Int)) : avs (l ++ m) = avs l ++ avs m := by simp [avs]
theorem avs_length (l : List (Int × Int)) : (avs l).length = l.length * 2 := by
  induction l with
  | nil => rfl
  | cons x l ih => rw [avs_cons, List.length_cons, List.length_cons, List.length_cons, ih]; omega
theorem avs_get (l : List (Int × Int)) : ∀ (k : Nat), k < l.length → (avs l)[2 * k]? = some (.int .u32 (l[k]?.getD (0, 0)).1) ∧ (avs l)[2 * k + 1]? = some (.int .i64 (l[k]?.getD (0, 0)).2) := by
  induction l with
  | nil => intro k hk; simp at hk
  | cons x l ih =>
    intro k hk
    cases k with
    | zero => simp [avs_cons]
    | succ k =>
      have := ih k (by simpa using hk)
      rw [avs_cons, show 2 * (k + 1) = 2 * k + 1 + 1 by omega]
      simpa using this
/-- The bytes of addresses. -/
def encAs (l : List (Int × Int)) : List UInt8 := l.flatMap fun x => encA x.1 x.2
theorem encAs_cons (x : Int × Int) (l : List (Int × Int)) : encAs (x :: l) = encA x.1 x.2 ++ encAs l := rfl
theorem encAs_append (l m : List (Int × Int)) : encAs (l ++ m) = encAs l ++ encAs m := by simp [encAs]
theorem encAs_take (l : List (Int × Int)) (k : Nat) (hk : k < l.length) : encAs (l.take (k + 1)) = encAs (l.take k) ++ encA (l[k]?.getD (0, 0)).1 (l[k]?.getD (0, 0)).2 := by
  rw [List.take_succ_eq_append_getElem hk, encAs_append, encAs_cons, List.getElem?_eq_getElem hk]
  simp [encAs]
theorem encAs_length (l : List (Int × Int)) : (encAs l).length = 6 * l.length := by
  induction l with
  | nil => rfl
  | cons x l ih => rw [encAs_cons, List.length_append, encA_length, ih, List.length_cons]; omega
/-- Addresses that may be: hosts of 32 bits, ports of 16. -/
def GoodAs (l : List (Int × Int)) : Prop := ∀ k, k < l.length → 0 ≤ (l[k]?.getD (0, 0)).1 ∧ (l[k]?.getD (0, 0)).1 < 4294967296 ∧ 0 ≤ (l[k]?.getD (0, 0)).2 ∧ (l[k]?.getD (0, 0)).2 < 65536

set_option maxHeartbeats 2000000 in
/-- (*cursor).addrs, as it writes. -/
theorem addrs_w (base c p o : Nat) (A : Option Addr) (cap : Nat) (xs : List (Int × Int)) (v : Value) (l : List UInt8) (w : World) (h : CW w base c v l) (hb : base ≤ w.heap.size)
    (hp : w.cell? ⟨p, o, none⟩ = some (.slice A xs.length cap)) (hr : Rd w A (avs xs)) (hpc : p ∉ c :: v.ownBlock.toList) (hA : ∀ a, A = some a → a.block ∉ c :: v.ownBlock.toList) (hgood : GoodAs xs) (hn : xs.length < 256) (h5 : l.length + 10000 ≤ 140737488355328) :
    Calls Tryd.prog 29 #[.pointer (some ⟨c, 0, none⟩), .pointer (some ⟨p, o, none⟩)] w fun x w' => x = .returned (.tuple #[]) ∧
      ∃ v', CW w' base c v' (l ++ (encN xs.length 1 true ++ encAs xs)) ∧ Moved c w w' v v' := by
  have H := Lib.hid h
  have p1 := cell_new hp
  have hplt := lt_of_cell hp
  have a1 : (w.alloc (.cells #[.int .u64 xs.length] 28)).cell? ⟨w.heap.size, 0, none⟩ = some (.int .u64 xs.length) := by
    rw [World.cell?_alloc_at _ _ _ _ rfl]; rfl
  have hk0 : Kept [] w (w.alloc (.cells #[.int .u64 xs.length] 28)) := (Kept.refl [] w).alloc _
  have hC0 : CW (w.alloc (.cells #[.int .u64 xs.length] 28)) base c v l := h.kept hk0 (by simp) (by simp)
  have hM0 : Moved c w (w.alloc (.cells #[.int .u64 xs.length] 28)) v v := ⟨hk0.mono fun k _ hm => (by cases hm), .inl rfl⟩
  have HA := Lib.hid hA
  have HP := Lib.hid hpc
  have HG := Lib.hid hgood
  clear h hA hpc hgood
  go_enter Tryd.func29, Tryd.ntmps29
  go_wp2_with fail
  refine (number_w base c w.heap.size 0 1 xs.length true v l _ hC0 (by simp; omega) a1 (by omega) (by omega) (by omega) (by omega) (by omega)).mono ?_
  rintro x w1 ⟨rfl, v1, hC1, hM1⟩
  rw [Int.toNat_natCast] at hC1
  have hM1' := hM0.trans hM1
  obtain ⟨_, d1, _, _⟩ := hC1.cell
  have e1 := (hM1'.kept.cell (p := ⟨p, o, none⟩) hplt HP.out).trans hp
  have e2 := (hM1.cell (B := w.heap.size) (p := ⟨w.heap.size, 0, none⟩) H.out.lt (fun k hk => (H.out.own.lt k hk).2) (by simp) (by simp)).trans a1
  have HC1 := Lib.hid hC1
  have HM1 := Lib.hid hM1'
  clear hC1 hM1 hM1' hC0 hM0 hk0
  go_wp2
  go_loopw [5, 36] (fun _ j wr => ∃ (k : Nat) (vr : Value), k ≤ xs.length ∧ j = .int .i64 k ∧ Hid (CW wr base c vr (l ++ (encN xs.length 1 true ++ encAs (xs.take k)))) ∧ Hid (Moved c w wr v vr))
    (fun _ j _ => xs.length - (intOf j).toNat)
  case atStart => exact ⟨0, v1, Nat.zero_le _, rfl, by show CW _ _ _ _ _; simpa [encAs] using HC1.out, HM1.out⟩
  case round =>
    obtain ⟨k, vr, hk, rfl, HC, HM⟩ := hrel
    obtain ⟨_, g1, _, _⟩ := HC.out.cell
    have g2 := (HM.out.kept.cell (p := ⟨p, o, none⟩) hplt HP.out).trans hp
    by_cases hlt : k < xs.length
    · obtain ⟨b, off, rfl, hbl, hcell⟩ := hr.at_ (k := 2 * k) (by rw [avs_length]; omega)
      have x1 := (HM.out.kept.cell (p := ⟨b, off + 2 * k, none⟩) hbl (HA.out ⟨b, off, none⟩ rfl)).trans (hcell _ _ (avs_get xs k hlt).1)
      have x2 := (HM.out.kept.cell (p := ⟨b, off + (2 * k + 1), none⟩) hbl (HA.out ⟨b, off, none⟩ rfl)).trans (hcell _ _ (avs_get xs k hlt).2)
      rw [show off + 2 * k = off + k * 2 by omega] at x1
      rw [show off + (2 * k + 1) = off + k * 2 + 1 by omega] at x2
      obtain ⟨y1, y2, y3, y4⟩ := HG.out k hlt
      have X1 := Lib.hid x1
      have X2 := Lib.hid x2
      clear x1 x2 hcell
      have hlen : (encAs (xs.take k)).length ≤ 6 * 256 := by rw [encAs_length, List.length_take]; omega
      go_wp2_with fail
      refine (addr_w base c b (off + k * 2) _ _ vr _ wr HC.out (by have := HM.out.kept.size; omega) X1.out X2.out y1 y2 y3 y4 (by simp only [List.length_append, encN_length]; omega)).mono ?_
      rintro x w2 ⟨rfl, v2, hC2, hM2⟩
      have HC2 : Hid (CW w2 base c v2 (l ++ (encN xs.length 1 true ++ encAs (xs.take (k + 1))))) := by
        show CW _ _ _ _ _
        rw [encAs_take xs k hlt, ← List.append_assoc (encN xs.length 1 true), ← List.append_assoc l]
        exact hC2
      have HM2 := Lib.hid (HM.out.trans hM2)
      clear hC2 hM2 y1 y2 y3 y4
      go_wp2
      go_roundw
      case rel => exact ⟨k + 1, v2, by omega, by go_num, HC2, HM2⟩
      case measure => simp [intOf]; omega
    · have : k = xs.length := by omega
      subst this
      go_wp2
      go_end0
      have := HC.out
      rw [List.take_of_length_le (Nat.le_refl _)] at this
      exact ⟨rfl, vr, this, HM.out⟩
end Go.Proofs.YthnmjpohdlimiaaDoor
