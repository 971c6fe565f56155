/- Loads of a part of a block, and tests of arrays of bytes, as steps of a walk. No program in sight. -/
import Derived.Test.YthnmjpohdlimiaaDoorApp
import Derived.ChangeKeysEq
namespace Go.Proofs.YthnmjpohdlimiaaDoor
open Go.RowKit

section
variable {P : Program} (w : World)
theorem run_eqItems_bytes (d : Nat) {e : TypeId} (he : P.underlying e = some (.int .u8)) (hp : P.plainKey e = true) (a b : List UInt8) : ∀ is : List Nat, (∀ i ∈ is, i < a.length ∧ i < b.length) →
    ∃ r : Bool, (Op.eqItems (d + 1) e 1 (bvs a).toArray (bvs b).toArray is).run P w = .ok r w ∧ (r = true ↔ ∀ i ∈ is, a[i]? = b[i]?)
  | [], _ => ⟨true, by simp [Op.eqItems], by simp⟩
  | i :: is, h => by
    obtain ⟨h1, h2⟩ := h i (by simp)
    obtain ⟨r, hr, hiff⟩ := run_eqItems_bytes d he hp a b is fun j hj => h j (by simp [hj])
    have p1 := run_part_plain w hp (xs := (bvs a).toArray) (off := i) (v := .int .u8 (a[i]?.getD 0).toNat) (by simpa using bvs_get a i h1)
    have p2 := run_part_plain w hp (xs := (bvs b).toArray) (off := i) (v := .int .u8 (b[i]?.getD 0).toNat) (by simpa using bvs_get b i h2)
    simp only [Op.eqItems, Nat.mul_one, Sem.run_bind, p1, p2, Result.andThen_ok, run_equalIn_int w d e .u8 .u8 _ _ he]
    by_cases hab : a[i]? = b[i]?
    · refine ⟨r, ?_, by simp [hiff, hab]⟩
      rw [hab]
      simpa using hr
    · refine ⟨false, ?_, by simp [hab]⟩
      have : (((a[i]?.getD 0).toNat : Int) == ((b[i]?.getD 0).toNat : Int)) = false := by
        rw [beq_eq_false_iff_ne]
        intro e
        apply hab
        rw [List.getElem?_eq_getElem h1, List.getElem?_eq_getElem h2] at e ⊢
        simp only [Option.getD_some] at e
        rw [UInt8.toNat_inj.1 (Int.ofNat.inj e)]
      simp [this]

theorem run_eql_bytes (t e : TypeId) (n : Nat) (i : TypeInfo) (ht : P.underlying t = some (.array n e)) (hi : P.info? e = some i) (hc : P.cellsOf e = 1) (he : P.underlying e = some (.int .u8)) (hp : P.plainKey e = true) (a b : List UInt8) (ha : a.length = n) (hb : b.length = n) :
    (binOp .eql t (.agg (bvs a).toArray) (.agg (bvs b).toArray)).run P w = .ok (.bool (a == b)) w := by
  rw [run_eql_struct, run_equalIn_array w 9999 _ _ ht hi, hc]
  obtain ⟨r, hr, hiff⟩ := run_eqItems_bytes w 9998 he hp a b (List.range n) fun j hj => by have := List.mem_range.1 hj; omega
  rw [hr]
  have : (a == b) = r := by
    rw [Bool.eq_iff_iff, hiff, beq_iff_eq]
    refine ⟨fun h => by subst h; simp, fun h => List.ext_getElem? fun j => ?_⟩
    by_cases hj : j < n
    · exact h j (List.mem_range.2 hj)
    · rw [List.getElem?_eq_none (by omega), List.getElem?_eq_none (by omega)]
  rw [this]
  rfl

/-- A load of some of a block's cells, as one value. -/
theorem run_loadVar_part (b off : Nat) (ty : TypeId) (cs : List Value) (d : TypeDesc) (hc : ∀ j u, cs[j]? = some u → w.cell? ⟨b, off + j, none⟩ = some u)
    (hu : P.underlying ty = some d) (hd : (match d with | .struct _ | .array _ _ => true | _ => false) = true) (hi : (P.info? ty).map (·.size) = some cs.length) :
    (loadVar ty ⟨b, off, none⟩).run P w = .ok (.agg cs.toArray) w := by
  have hl : (loadCells ⟨b, off, none⟩ cs.length).run P w = .ok cs.toArray w :=
    run_loadCells_list (P := P) w ⟨b, off, none⟩ cs (fun j v hv => by rw [add_lit']; exact hc j v hv)
  cases hq : P.info? ty with
  | none => simp [hq] at hi
  | some i =>
    have hs : i.size = cs.length := by simpa [hq] using hi
    have hagg : (isAgg ty).run P w = .ok true w := by
      unfold isAgg
      rw [Sem.run_bind, run_underlying hu w]
      cases d <;> simp_all
    simp [loadVar, Sem.run_bind, hagg, sizeOf, typeInfo, hq, hs, hl]

theorem wp_load_part {o : Oper} {a : Act} {K : Act → World → Prop} {Q : Exit → Act → World → Prop} (ty : TypeId) (x : Operand) (ho : o.op = .load ty x)
    (b off : Nat) (hx : a.eval x = .pointer (some ⟨b, off, none⟩)) (cs : List Value) (d : TypeDesc) (hc : ∀ j u, cs[j]? = some u → w.cell? ⟨b, off + j, none⟩ = some u)
    (hu : P.underlying ty = some d) (hd : (match d with | .struct _ | .array _ _ => true | _ => false) = true) (hi : (P.info? ty).map (·.size) = some cs.length)
    (h : K (a.put o.dst (.agg cs.toArray)) w) : o.wp P a w K Q := by
  unfold Oper.wp execOp
  simp only [ho, hx, Instr.loadAt, Instr.sureAddr, Sem.run_bind, Sem.run_pure, Result.andThen_ok, run_loadVar_part w b off ty cs d hc hu hd hi]
  exact h

/-- .. whether the operation is guarded or not. -/
theorem wpList_load_part {ops : Array Oper} {rest : List Oper} {o : Oper} {a : Act} {Q : Exit → Act → World → Prop} (ty : TypeId) (x : Operand) (ho : o.op = .load ty x) (hw : Region.wanted o (yielded ops a.tmps) = true)
    (b off : Nat) (hx : a.eval x = .pointer (some ⟨b, off, none⟩)) (cs : List Value) (d : TypeDesc) (hc : ∀ j u, cs[j]? = some u → w.cell? ⟨b, off + j, none⟩ = some u)
    (hu : P.underlying ty = some d) (hd : (match d with | .struct _ | .array _ _ => true | _ => false) = true) (hi : (P.info? ty).map (·.size) = some cs.length)
    (h : wpList P ops Q rest (a.put o.dst (.agg cs.toArray)) w) : wpList P ops Q (o :: rest) a w :=
  wpList_step fun K hK => by rw [if_pos hw]; exact wp_load_part w ty x ho b off hx cs d hc hu hd hi (hK _ _ h)

/-- A test of two arrays of bytes, whether it is guarded or not. -/
theorem wpList_eql_bytes {ops : Array Oper} {rest : List Oper} {o : Oper} {a : Act} {Q : Exit → Act → World → Prop} (t u : TypeId) (x y : Operand) (ho : o.op = .binOp .eql t x y u) (hw : Region.wanted o (yielded ops a.tmps) = true)
    (e : TypeId) (n : Nat) (i : TypeInfo) (ht : P.underlying t = some (.array n e)) (hi : P.info? e = some i) (hc : P.cellsOf e = 1) (he : P.underlying e = some (.int .u8)) (hp : P.plainKey e = true) (hgt : P.eqGuardType P.depth t = false)
    (l m : List UInt8) (hl : l.length = n) (hm : m.length = n) (hx : a.eval x = .agg (bvs l).toArray) (hy : a.eval y = .agg (bvs m).toArray)
    (h : wpList P ops Q rest (a.put o.dst (.bool (l == m))) w) : wpList P ops Q (o :: rest) a w :=
  wpList_step fun K hK => by
    rw [if_pos hw]
    unfold Oper.wp execOp
    simp only [ho, hx, hy, Sem.run_bind, run_eqGuard_agg w .eql t x y _ _ hgt, Result.andThen_ok, run_eql_bytes w t e n i ht hi hc he hp l m hl hm, Sem.run_pure]
    exact hK _ _ h

/-- A new variable whose zero value is known. -/
theorem wpList_alloc_known {ops : Array Oper} {rest : List Oper} {o : Oper} {a : Act} {Q : Exit → Act → World → Prop} (t : TypeId) (ho : o.op = .alloc t) (hw : Region.wanted o (yielded ops a.tmps) = true) (cs : Array Value)
    (hrun : (Instr.alloc t true (.tuple #[])).run P w = .ok (.pointer (some ⟨w.heap.size, 0, none⟩)) (w.alloc (.cells cs t)))
    (h : wpList P ops Q rest (a.put o.dst (.pointer (some ⟨w.heap.size, 0, none⟩))) (w.alloc (.cells cs t))) : wpList P ops Q (o :: rest) a w :=
  wpList_step fun K hK => by
    rw [if_pos hw]
    unfold Oper.wp execOp
    simp only [ho, Sem.run_bind, hrun, Result.andThen_ok, Sem.run_pure]
    exact hK _ _ h
/-- A struct literal that is known. -/
theorem wpList_build_known {ops : Array Oper} {rest : List Oper} {o : Oper} {a : Act} {Q : Exit → Act → World → Prop} (t : TypeId) (parts : Array (Nat × Operand)) (ho : o.op = .build t parts) (hw : Region.wanted o (yielded ops a.tmps) = true)
    (vs : Array (Nat × Value)) (hv : (parts.map fun (i, x) => (i, a.eval x)) = vs) (v : Value) (hrun : (Instr.build t vs).run P w = .ok v w)
    (h : wpList P ops Q rest (a.put o.dst v) w) : wpList P ops Q (o :: rest) a w :=
  wpList_step fun K hK => by
    rw [if_pos hw]
    unfold Oper.wp execOp
    simp only [ho, hv, Sem.run_bind, hrun, Result.andThen_ok, Sem.run_pure]
    exact hK _ _ h
/-- A store of a whole value into a block of its size. -/
theorem run_storeVar_whole (g : Nat) (ty t : TypeId) (cur cs : Array Value) (hg : w.heap[g]? = some (.cells cur t (0, 0))) (hs : cs.size = cur.size) (hi : (P.info? ty).map (·.size) = some cs.size) (h1 : ∀ v ∈ cs.toList, v.oneCell' = true) :
    (storeVar ty ⟨g, 0, none⟩ (.agg cs)).run P w = .ok () (w.setRow g cs) := by
  have hst := run_storeCells_at P g 0 t cs.toList 0 cur w hg (by simpa using Nat.le_of_eq hs) h1
  have e : cur.toList.take (0 + 0) ++ cs.toList ++ cur.toList.drop (0 + 0 + cs.toList.length) = cs.toList := by
    rw [List.drop_eq_nil_of_le (by simp [hs])]; simp
  rw [e, Array.toArray_toList] at hst
  cases hq : P.info? ty with
  | none => simp [hq] at hi
  | some i =>
    have hsz : i.size = cs.size := by simpa [hq] using hi
    have hc : (Value.agg cs).cells = cs := rfl
    simp only [storeVar, sizeOf, typeInfo, Sem.run_bind, run_program, Result.andThen_ok, hq, Sem.run_pure, hc, hsz]
    simpa using hst
theorem wpList_store_whole {ops : Array Oper} {rest : List Oper} {o : Oper} {a : Act} {Q : Exit → Act → World → Prop} (ty : TypeId) (x y : Operand) (ho : o.op = .store ty x y) (hw : Region.wanted o (yielded ops a.tmps) = true)
    (g : Nat) (hx : a.eval x = .pointer (some ⟨g, 0, none⟩)) (cs : Array Value) (hy : a.eval y = .agg cs) (t : TypeId) (cur : Array Value) (hg : w.heap[g]? = some (.cells cur t (0, 0))) (hs : cs.size = cur.size)
    (hi : (P.info? ty).map (·.size) = some cs.size) (h1 : ∀ v ∈ cs.toList, v.oneCell' = true) (w' : World) (hw' : w.setRow g cs = w')
    (h : wpList P ops Q rest (a.put o.dst undef) w') : wpList P ops Q (o :: rest) a w :=
  wpList_step fun K hK => by
    rw [if_pos hw]
    subst hw'
    unfold Oper.wp execOp
    simp only [ho, hx, hy, Instr.storeAt, Instr.sureAddr, Sem.run_bind, Sem.run_pure, Result.andThen_ok, run_storeVar_whole w g ty t cur cs hg hs hi h1]
    exact hK _ _ h
theorem setRow_new (w : World) (cur cs : Array Value) (t : TypeId) : (w.alloc (.cells cur t)).setRow w.heap.size cs = w.alloc (.cells cs t) := by
  have e : ((w.alloc (.cells cur t)).setRow w.heap.size cs).heap = (w.alloc (.cells cs t)).heap := by
    apply Array.ext_getElem?
    intro i
    by_cases h : i = w.heap.size
    · subst h
      rw [setRow_heap _ _ cur cs t (0, 0) (heap_alloc_new _ _), heap_alloc_new]
    · rw [setRow_other _ _ _ _ h]
      by_cases hi : i < w.heap.size
      · rw [Below.heap_alloc _ _ _ hi, Below.heap_alloc _ _ _ hi]
      · rw [Array.getElem?_eq_none (by simp; omega), Array.getElem?_eq_none (by simp; omega)]
  exact congrArg (fun h => ({ w with heap := h } : World)) e
theorem heap_new2 (X Y : Obj) : ((w.alloc X).alloc Y).heap[w.heap.size + 1]? = some Y := by
  have := heap_alloc_new (w.alloc X) Y
  rwa [World.size_alloc] at this
theorem setRow_new2 (X : Obj) (cur cs : Array Value) (t : TypeId) : ((w.alloc X).alloc (.cells cur t)).setRow (w.heap.size + 1) cs = (w.alloc X).alloc (.cells cs t) := by
  have := setRow_new (w.alloc X) cur cs t
  rwa [World.size_alloc] at this
end
end Go.Proofs.YthnmjpohdlimiaaDoor
