/- Words for memory that the walks of this seat use: what a slice reads as, which blocks a call keeps, numbers out of bytes. No program in sight. -/
import Derived.WalkKit
import Derived.WalkSpells
import Derived.WalkLawsBesides
import Derived.Lib.Hide
import Derived.Maps.AppendAt
namespace Go.Proofs.YthnmjpohdlimiaaDoor
open Go.RowKit

/-- Of the blocks that were there, only those in S may have turned. -/
structure Kept (S : List Nat) (w w' : World) : Prop where
  os : w'.os = w.os
  tape : w'.tape = w.tape
  output : w'.output = w.output
  size : w.heap.size ≤ w'.heap.size
  block : ∀ k, k < w.heap.size → k ∉ S → w'.heap[k]? = w.heap[k]?

namespace Kept
variable {S T : List Nat} {w w' w'' : World}
theorem refl (S : List Nat) (w : World) : Kept S w w := ⟨rfl, rfl, rfl, Nat.le_refl _, fun _ _ _ => rfl⟩
theorem mono (h : Kept S w w') (hS : ∀ k, k < w.heap.size → k ∈ S → k ∈ T) : Kept T w w' :=
  ⟨h.os, h.tape, h.output, h.size, fun k hk hn => h.block k hk fun hm => hn (hS k hk hm)⟩
theorem trans (h : Kept S w w') (h' : Kept T w' w'') (hT : ∀ k, k < w.heap.size → k ∈ T → k ∈ S) : Kept S w w'' :=
  ⟨h'.os.trans h.os, h'.tape.trans h.tape, h'.output.trans h.output, Nat.le_trans h.size h'.size,
    fun k hk hn => (h'.block k (Nat.lt_of_lt_of_le hk h.size) fun hm => hn (hT k hk hm)).trans (h.block k hk hn)⟩
theorem drew (h : Kept S w w') : Kept S w w'.drew := ⟨h.os, h.tape, h.output, h.size, h.block⟩
theorem drewN (h : Kept S w w') (n : Nat) : Kept S w (w'.drewN n) := ⟨h.os, h.tape, h.output, h.size, h.block⟩
theorem alloc (h : Kept S w w') (o : Obj) : Kept S w (w'.alloc o) :=
  ⟨h.os, h.tape, h.output, by have := h.size; simp; omega, fun k hk hn => (Below.heap_alloc w' o k (Nat.lt_of_lt_of_le hk h.size)).trans (h.block k hk hn)⟩
theorem setCell (h : Kept S w w') {p : Addr} (hp : p.block < w.heap.size → p.block ∈ S) (u : Value) : Kept S w (w'.setCell p u) :=
  ⟨h.os, h.tape, h.output, by have := h.size; simp [World.setCell]; omega, fun k hk hn => (heap_setCell_other w' p k u (fun e => hn (e ▸ hp (e ▸ hk)))).trans (h.block k hk hn)⟩
theorem grown {row : Option Nat} (h : Kept S w w') (hg : w'.grownBy w'' row) (hr : ∀ k, row = some k → k < w.heap.size → k ∈ S) : Kept S w w'' :=
  ⟨hg.os.trans h.os, hg.tape.trans h.tape, hg.output.trans h.output, Nat.le_trans h.size hg.size,
    fun k hk hn => (hg.block k (Nat.lt_of_lt_of_le hk h.size) fun e => hn (hr k e.symm hk)).trans (h.block k hk hn)⟩
theorem below {B : Nat} (h : Kept S w w') (hS : ∀ k, k ∈ S → B ≤ k) (hB : B ≤ w.heap.size) : Below B w w' :=
  ⟨h.os, h.tape, h.output, h.size, fun k hk => h.block k (by omega) fun hm => by have := hS k hm; omega⟩
theorem of_below (h : Below w.heap.size w w') : Kept S w w' := ⟨h.os, h.tape, h.output, h.size, fun k hk _ => h.block k hk⟩
theorem of_below' {B : Nat} (h : Below B w w') (hS : ∀ k, B ≤ k → k < w.heap.size → k ∈ S) : Kept S w w' :=
  ⟨h.os, h.tape, h.output, h.size, fun k hk hn => h.block k (Nat.lt_of_not_le fun hle => hn (hS k hle hk))⟩
theorem cell (h : Kept S w w') {p : Addr} (hp : p.block < w.heap.size) (hn : p.block ∉ S) : w'.cell? p = w.cell? p := World.cell?_of_block (w := w) (h.block p.block hp hn)
theorem frozen (h : Kept S w w') {p : Addr} (hp : p.block < w.heap.size) (hn : p.block ∉ S) : w'.frozen? p = w.frozen? p := World.frozen?_of_block (w := w) (h.block p.block hp hn)
theorem nil_below (h : Kept [] w w') : Below w.heap.size w w' := h.below (by simp) (Nat.le_refl _)
end Kept

theorem lt_of_cell {w : World} {a : Addr} {v : Value} (h : w.cell? a = some v) : a.block < w.heap.size := block_lt_of_cell h

theorem cell_new {w : World} {a : Addr} {v : Value} (h : w.cell? a = some v) (x : Obj) : (w.alloc x).cell? a = some v := (World.cell?_alloc_lt w x a (lt_of_cell h)).trans h
theorem cell_new2 {w : World} {a : Addr} {v : Value} (h : w.cell? a = some v) (x y : Obj) : ((w.alloc x).alloc y).cell? a = some v := cell_new (cell_new h x) y

/-- A slice at A reads as xs, a cell an element; of an empty one nothing is asked. -/
def Rd (w : World) (A : Option Addr) (xs : List Value) : Prop :=
  xs ≠ [] → ∃ b off, A = some ⟨b, off, none⟩ ∧ b < w.heap.size ∧ ∀ j u, xs[j]? = some u → w.cell? ⟨b, off + j, none⟩ = some u

/-- The blocks that a slice's address names. -/
def inBlock (A : Option Addr) : List Nat := match A with | some a => [a.block] | none => []

namespace Rd
variable {S : List Nat} {w w' : World} {A : Option Addr} {xs : List Value}
theorem nil : Rd w A [] := fun h => absurd rfl h
theorem kept (h : Rd w A xs) (hk : Kept S w w') (hn : ∀ a, A = some a → a.block < w.heap.size → a.block ∉ S) : Rd w' A xs := fun hx => by
  obtain ⟨b, off, rfl, hb, hc⟩ := h hx
  exact ⟨b, off, rfl, Nat.lt_of_lt_of_le hb hk.size, fun j u hu => (hk.cell (p := ⟨b, off + j, none⟩) hb (hn ⟨b, off, none⟩ rfl hb)).trans (hc j u hu)⟩
theorem below (h : Rd w A xs) (hk : Below w.heap.size w w') : Rd w' A xs := h.kept (S := []) (Kept.of_below hk) (by simp)
theorem alloc (h : Rd w A xs) (o : Obj) : Rd (w.alloc o) A xs := h.kept (S := []) ((Kept.refl _ _).alloc o) (by simp)
theorem drew (h : Rd w A xs) : Rd w.drew A xs := h
theorem drewN (h : Rd w A xs) (n : Nat) : Rd (w.drewN n) A xs := h
theorem at_ {k : Nat} (h : Rd w A xs) (hk : k < xs.length) : ∃ b off, A = some ⟨b, off, none⟩ ∧ b < w.heap.size ∧ ∀ j u, xs[j]? = some u → w.cell? ⟨b, off + j, none⟩ = some u :=
  h (by intro e; subst e; simp at hk)
theorem take (h : Rd w A xs) (n : Nat) : Rd w A (xs.take n) := fun hx => by
  obtain ⟨b, off, rfl, hb, hc⟩ := h (by intro e; subst e; simp at hx)
  refine ⟨b, off, rfl, hb, fun j u hu => hc j u ?_⟩
  rw [List.getElem?_take] at hu
  split at hu
  · exact hu
  · cases hu
theorem drop (h : Rd w A xs) (k : Nat) {c : Nat} (hc : xs.length ≤ c) : Rd w (if c = k then A else A.map (·.add k)) (xs.drop k) := fun hx => by
  have hk : k < xs.length := by
    rcases Nat.lt_or_ge k xs.length with h | h
    · exact h
    · exact absurd (List.drop_eq_nil_of_le h) hx
  obtain ⟨b, off, rfl, hb, hcell⟩ := h (by intro e; subst e; simp at hk)
  rw [if_neg (by omega)]
  refine ⟨b, off + k, ?_, hb, fun j u hu => ?_⟩
  · unfold Addr.add; by_cases h0 : k = 0 <;> simp [h0]
  · rw [List.getElem?_drop] at hu
    rw [Nat.add_assoc]
    exact hcell _ _ hu
theorem of_own {base e n c : Nat} (h : w.ownsRow base e 1 (.slice A n c) n xs) : Rd w A xs := fun hx => by
  rcases h.2 with ⟨hv, hn⟩ | ⟨g, cap, cur, hv, _, hg, _, _, _, ht⟩
  · exfalso
    have := h.1
    rw [hn] at this
    exact hx (List.eq_nil_of_length_eq_zero (by simpa using this))
  · injection hv with hA _ _
    refine ⟨g, 0, hA, (Array.getElem?_eq_some_iff.1 hg).1, fun j u hu => ?_⟩
    have := h.cells (g := g) (by rw [hA]; rfl) j u hu
    unfold Addr.add at this
    by_cases h0 : j = 0
    · subst h0; simpa using this
    · simpa [h0] using this
end Rd

theorem add_lit' (b off j : Nat) : (⟨b, off, none⟩ : Addr).add j = ⟨b, off + j, none⟩ := by
  unfold Addr.add; by_cases h : j = 0 <;> simp [h]
theorem Rd.some_add {w : World} {ad : Addr} {xs : List Value} (h : Rd w (some ad) xs) : ∀ j u, xs[j]? = some u → w.cell? (ad.add j) = some u := by
  intro j u hu
  obtain ⟨b, off, hA, _, hc⟩ := h (by intro e; rw [e] at hu; simp at hu)
  injection hA with hA
  subst hA
  rw [add_lit']
  exact hc j u hu
theorem Rd.none_nil {w : World} {xs : List Value} (h : Rd w none xs) : xs = [] := by
  rcases xs with _ | ⟨x, xs⟩
  · rfl
  · obtain ⟨_, _, h, _⟩ := h (by simp)
    cases h

theorem Rd.new_one (w : World) (u : Value) (e : TypeId) : Rd (w.alloc (.cells #[u] e)) (some ⟨w.heap.size, 0, none⟩) [u] := fun _ =>
  ⟨w.heap.size, 0, rfl, by simp, fun j x hx => by
    rw [World.cell?_alloc_at _ _ _ _ rfl]
    rcases j with _ | j
    · simpa using hx
    · simp at hx⟩
section
variable {P : Program} (w : World)
/-- append onto a row of the call's own, whatever slice is appended (nil, empty or not). -/
theorem run_append_rd (base : Nat) (t ty e : TypeId) (i : TypeInfo) (z : Value) (size bytes : Nat) (ht : P.underlying t = some (.slice e)) (hi : P.info? e = some i) (hz : i.zero = some z)
    (hsize : i.size = size) (hby : i.bytes = bytes) (hzs : z.cells.size = size) (hsz : 0 < size)
    (v : Value) (n : Nat) (xs : List Value) (hown : w.ownsRow base e size v n xs)
    (A : Option Addr) (m c : Nat) (news : List Value) (hl : news.length = m * size) (hr : Rd w A news) (h1 : ∀ u ∈ news, u.oneCell' = true)
    (h63 : n + m ≤ maxLen) (hbytes : (n + m) * bytes ≤ 140737488355328) (hbase : base ≤ w.heap.size) :
    ∃ v' w', (Builtin.append_ #[t, t] ty #[v, .slice A m c]).run P w = .ok v' w' ∧ w'.ownsRow base e size v' (n + m) (xs ++ news) ∧ w.grownBy w' v.ownBlock ∧
      (v'.ownBlock = v.ownBlock ∨ v'.ownBlock = some w.heap.size) := by
  cases A with
  | none =>
    have hn := hr.none_nil
    subst hn
    have hm : m = 0 := by
      rcases Nat.eq_zero_or_pos m with h | h
      · exact h
      · have := Nat.mul_pos h hsz
        simp only [List.length_nil] at hl
        omega
    subst hm
    refine ⟨v, w, ?_, by simpa using hown, ⟨rfl, rfl, rfl, Nat.le_refl _, fun _ _ _ => rfl⟩, .inl rfl⟩
    rcases hown.2 with ⟨rfl, rfl⟩ | ⟨g, cap, cur, rfl, _, _, hnc, _⟩
    · simp [Builtin.append_, run_underlying ht, sizeOf, typeInfo, hi, Builtin.lenOf, Builtin.firstCells]
    · simp [Builtin.append_, run_underlying ht, sizeOf, typeInfo, hi, Builtin.lenOf, Builtin.firstCells, hnc, storeCells]
  | some ad =>
    obtain ⟨v', w', hrun, h2, h3, _, h5⟩ := run_append_own_at (P := P) w base t ty e i z size bytes ht hi hz hsize hby hzs hsz v n xs hown ad m c news hl hr.some_add h1 h63 hbytes hbase
    exact ⟨v', w', hrun, h2, h3, h5⟩

theorem wp_append_rd {o : Oper} {a : Act} {K : Act → World → Prop} {Q : Exit → Act → World → Prop} (s x : Operand) (t : TypeId)
    (ho : o.op = .call { callee := .builtin .append, args := #[s, x], argTypes := #[t, t] })
    (base : Nat) (e : TypeId) (i : TypeInfo) (z : Value) (size bytes : Nat) (ht : P.underlying t = some (.slice e)) (hi : P.info? e = some i) (hz : i.zero = some z)
    (hsize : i.size = size) (hby : i.bytes = bytes) (hzs : z.cells.size = size) (hsz : 0 < size)
    (v : Value) (n : Nat) (xs : List Value) (hs : a.eval s = v) (hown : w.ownsRow base e size v n xs)
    (A : Option Addr) (m c : Nat) (news : List Value) (hx : a.eval x = .slice A m c) (hl : news.length = m * size) (hr : Rd w A news) (h1 : ∀ u ∈ news, u.oneCell' = true)
    (h63 : n + m ≤ maxLen) (hbytes : (n + m) * bytes ≤ 140737488355328) (hbase : base ≤ w.heap.size)
    (h : ∀ v' w', w'.ownsRow base e size v' (n + m) (xs ++ news) → w.grownBy w' v.ownBlock → (v'.ownBlock = v.ownBlock ∨ v'.ownBlock = some w.heap.size) → K (a.put o.dst v') w') : o.wp P a w K Q := by
  obtain ⟨v', w', hrun, h2, h3, h4⟩ := run_append_rd (P := P) w base t o.type e i z size bytes ht hi hz hsize hby hzs hsz v n xs hown A m c news hl hr h1 h63 hbytes hbase
  unfold Oper.wp execOp
  simp only [ho, resolve, invoke, builtin, Sem.run_bind, Sem.run_pure, Result.andThen_ok, List.map_toArray, List.map_cons, List.map_nil, hs, hx, hrun]
  exact h v' w' h2 h3 h4

theorem wpList_append_rd {ops : Array Oper} {rest : List Oper} {o : Oper} {a : Act} {Q : Exit → Act → World → Prop} (hgd : o.guard = none) (s x : Operand) (t : TypeId)
    (ho : o.op = .call { callee := .builtin .append, args := #[s, x], argTypes := #[t, t] })
    (base : Nat) (e : TypeId) (i : TypeInfo) (z : Value) (size bytes : Nat) (ht : P.underlying t = some (.slice e)) (hi : P.info? e = some i) (hz : i.zero = some z)
    (hsize : i.size = size) (hby : i.bytes = bytes) (hzs : z.cells.size = size) (hsz : 0 < size)
    (v : Value) (n : Nat) (xs : List Value) (hs : a.eval s = v) (hown : w.ownsRow base e size v n xs)
    (A : Option Addr) (m c : Nat) (news : List Value) (hx : a.eval x = .slice A m c) (hl : news.length = m * size) (hr : Rd w A news) (h1 : ∀ u ∈ news, u.oneCell' = true)
    (h63 : n + m ≤ maxLen) (hbytes : (n + m) * bytes ≤ 140737488355328) (hbase : base ≤ w.heap.size)
    (h : ∀ v' w', w'.ownsRow base e size v' (n + m) (xs ++ news) → w.grownBy w' v.ownBlock → (v'.ownBlock = v.ownBlock ∨ v'.ownBlock = some w.heap.size) → wpList P ops Q rest (a.put o.dst v') w') : wpList P ops Q (o :: rest) a w :=
  wpList_plain hgd fun _ hK => wp_append_rd w s x t ho base e i z size bytes ht hi hz hsize hby hzs hsz v n xs hs hown A m c news hx hl hr h1 h63 hbytes hbase fun v' w' h2 h3 h4 => hK _ _ (h v' w' h2 h3 h4)

theorem step_append_rd {ops : Array Oper} {o : Oper} {a : Act} {K : Act → World → Prop} {Q : Exit → Act → World → Prop} {E : Prop} (hgd : o.guard = none) (s x : Operand) (t : TypeId)
    (ho : o.op = .call { callee := .builtin .append, args := #[s, x], argTypes := #[t, t] })
    (base : Nat) (e : TypeId) (i : TypeInfo) (z : Value) (size bytes : Nat) (ht : P.underlying t = some (.slice e)) (hi : P.info? e = some i) (hz : i.zero = some z)
    (hsize : i.size = size) (hby : i.bytes = bytes) (hzs : z.cells.size = size) (hsz : 0 < size)
    (v : Value) (n : Nat) (xs : List Value) (hs : a.eval s = v) (hown : w.ownsRow base e size v n xs)
    (A : Option Addr) (m c : Nat) (news : List Value) (hx : a.eval x = .slice A m c) (hl : news.length = m * size) (hr : Rd w A news) (h1 : ∀ u ∈ news, u.oneCell' = true)
    (h63 : n + m ≤ maxLen) (hbytes : (n + m) * bytes ≤ 140737488355328) (hbase : base ≤ w.heap.size)
    (h : ∀ v' w', w'.ownsRow base e size v' (n + m) (xs ++ news) → w.grownBy w' v.ownBlock → (v'.ownBlock = v.ownBlock ∨ v'.ownBlock = some w.heap.size) → K (a.put o.dst v') w') :
    if Region.wanted o (yielded ops a.tmps) = true then Oper.wp P o a w K Q else E := by
  have hw : Region.wanted o (yielded ops a.tmps) = true := by simp [Region.wanted, hgd]
  rw [if_pos hw]
  exact wp_append_rd w s x t ho base e i z size bytes ht hi hz hsize hby hzs hsz v n xs hs hown A m c news hx hl hr h1 h63 hbytes hbase h
end

/-- Bytes as values. -/
def bvs (l : List UInt8) : List Value := l.map fun b => .int .u8 b.toNat
@[simp] theorem bvs_length (l : List UInt8) : (bvs l).length = l.length := by simp [bvs]
theorem bvs_get (l : List UInt8) (j : Nat) (h : j < l.length) : (bvs l)[j]? = some (.int .u8 (l[j]?.getD 0).toNat) := by simp [bvs, h]
theorem bvs_take (l : List UInt8) (n : Nat) : (bvs l).take n = bvs (l.take n) := by simp [bvs]
theorem bvs_drop (l : List UInt8) (n : Nat) : (bvs l).drop n = bvs (l.drop n) := by simp [bvs]
theorem bvs_append (l m : List UInt8) : bvs (l ++ m) = bvs l ++ bvs m := by simp [bvs]
theorem bvs_one (l : List UInt8) : ∀ u ∈ bvs l, u.oneCell' = true := by
  intro u hu; simp only [bvs, List.mem_map] at hu; obtain ⟨b, _, rfl⟩ := hu; rfl
theorem byte_lt (l : List UInt8) (j : Nat) : ((l[j]?.getD 0).toNat : Int) < 256 ∧ 0 ≤ ((l[j]?.getD 0).toNat : Int) := by
  have := (l[j]?.getD 0).toNat_lt
  omega
theorem bvs_inj {l m : List UInt8} (h : bvs l = bvs m) : l = m := by
  unfold bvs at h
  refine (List.map_inj_right (fun a b hab => ?_)).1 h
  injection hab with _ h2
  exact UInt8.toNat_inj.1 (by omega)

/-- The number that bytes tell, the highest first. -/
def be (l : List UInt8) : Nat := l.foldl (fun n b => n * 256 + b.toNat) 0
theorem be_snoc (l : List UInt8) (b : UInt8) : be (l ++ [b]) = be l * 256 + b.toNat := by simp [be]
theorem be_from_lt (l : List UInt8) : ∀ n : Nat, l.foldl (fun n b => n * 256 + b.toNat) n < (n + 1) * 256 ^ l.length := by
  induction l with
  | nil => intro n; simp
  | cons b l ih =>
    intro n
    simp only [List.foldl_cons, List.length_cons, Nat.pow_succ]
    refine Nat.lt_of_lt_of_le (ih _) ?_
    have := b.toNat_lt
    rw [Nat.mul_comm (256 ^ l.length) 256, ← Nat.mul_assoc]
    exact Nat.mul_le_mul_right _ (by omega)
theorem be_lt (l : List UInt8) : be l < 256 ^ l.length := by have := be_from_lt l 0; simpa [be] using this
/-- The bytes of a number in the order in which they are mixed in. -/
def ord (l : List UInt8) (a s : Nat) (big : Bool) : List UInt8 := if big then (l.drop a).take s else ((l.drop a).take s).reverse
def getN (l : List UInt8) (a s : Nat) (big : Bool) : Nat := be (ord l a s big)
theorem ord_length (l : List UInt8) (a s : Nat) (big : Bool) (h : a + s ≤ l.length) : (ord l a s big).length = s := by
  unfold ord; split <;> simp <;> omega
theorem ord_get_big (l : List UInt8) (a s t : Nat) (h : a + s ≤ l.length) (ht : t < s) : (ord l a s true)[t]? = some (l[a + t]?.getD 0) := by
  have h1 : a + t < l.length := by omega
  simp [ord, ht, List.getElem?_drop, h1]
theorem ord_get_little (l : List UInt8) (a s t : Nat) (h : a + s ≤ l.length) (ht : t < s) : (ord l a s false)[t]? = some (l[a + s - 1 - t]?.getD 0) := by
  have h1 : a + s - 1 - t < l.length := by omega
  have h2 : ((l.drop a).take s).length = s := by simp; omega
  rw [ord]
  simp only [Bool.false_eq_true, if_false]
  rw [List.getElem?_reverse (by omega), h2, List.getElem?_take, if_pos (by omega), List.getElem?_drop]
  rw [show a + (s - 1 - t) = a + s - 1 - t by omega]
  simp [h1]
theorem be_take_succ (l : List UInt8) (t : Nat) (b : UInt8) (h : l[t]? = some b) : be (l.take (t + 1)) = be (l.take t) * 256 + b.toNat := by
  obtain ⟨ht, rfl⟩ := List.getElem?_eq_some_iff.1 h
  rw [List.take_succ_eq_append_getElem ht, be_snoc]
theorem or_byte (n b : Nat) (h : n * 256 < 18446744073709551616) (hb : b < 256) : bits .or .u64 ((n : Int) * 256) (b : Int) = ((n * 256 + b : Nat) : Int) := by
  have e : ((n : Int) * 256) = ((n * 256 : Nat) : Int) := by omega
  rw [e, bits_or_u64_nat _ _ h (by omega)]
  have := Nat.two_pow_add_eq_or_of_lt (i := 8) (b := b) hb n
  rw [show n * 256 = 2 ^ 8 * n by omega, ← this]
theorem pow_le_7 (t : Nat) (h : t < 8) : (256 : Nat) ^ t ≤ 72057594037927936 := by
  have : (256 : Nat) ^ t ≤ 256 ^ 7 := Nat.pow_le_pow_right (by omega) (by omega)
  omega
end Go.Proofs.YthnmjpohdlimiaaDoor
