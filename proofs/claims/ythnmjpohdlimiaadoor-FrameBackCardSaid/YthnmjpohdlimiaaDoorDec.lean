/- frame.Decode. -/
import Derived.Test.YthnmjpohdlimiaaDoorDoesR
import Derived.Test.YthnmjpohdlimiaaDoorEnc
namespace Go.Proofs.YthnmjpohdlimiaaDoor
open Go.RowKit

theorem run_alloc_frame (w : World) : (Instr.alloc 33 true (.tuple #[])).run Tryd.prog w = .ok (.pointer (some ⟨w.heap.size, 0, none⟩)) (w.alloc (.cells (Fr.new 0).cells 33)) := by kernel_rfl
theorem run_build_frame (K : Int) (w : World) : (Instr.build 33 #[(0, .int .i64 K)]).run Tryd.prog w = .ok (.agg (Fr.new K).cells) w := by kernel_rfl
theorem run_build_frame0 (w : World) : (Instr.build 33 #[]).run Tryd.prog w = .ok (.agg (Fr.new 0).cells) w := by kernel_rfl
theorem Fr.new_size (K : Int) : (Fr.new K).cells.size = 50 := rfl
theorem Fr.one (F : Fr) (h1 : F.sa.oneCell' = true) (h2 : F.sd.oneCell' = true) : ∀ v ∈ F.cells.toList, v.oneCell' = true := by
  intro v hv
  simp only [Fr.cells, Fr.list, List.mem_cons, List.mem_append, List.not_mem_nil, or_false] at hv
  rcases hv with rfl | hv | rfl | rfl | rfl | rfl | hv | rfl
  · rfl
  · exact bvs_one _ _ hv
  · rfl
  · rfl
  · exact h1
  · rfl
  · exact bvs_one _ _ hv
  · exact h2
theorem Fr.new_one (K : Int) : ∀ v ∈ (Fr.new K).cells.toList, v.oneCell' = true := Fr.one _ rfl rfl

/-- The frame that bytes are read as, and whether it is right. -/
def decB (b0 : UInt8) (l : List UInt8) : Read := rdDoes (hasOf b0.toNat) l
def decFr (b0 : UInt8) (l : List UInt8) (sa sd : Value) : Fr := ⟨b0.toNat, (decB b0 l).id, (decB b0 l).addr.1, (decB b0 l).addr.2, sa, (decB b0 l).n, (decB b0 l).key, sd⟩

theorem rdAddr_ok (l : List UInt8) (f : Bool) : 0 ≤ (rdAddr l f).1.1 ∧ (rdAddr l f).1.1 < 4294967296 ∧ 0 ≤ (rdAddr l f).1.2 ∧ (rdAddr l f).1.2 < 65536 := by
  have a := getN_lt (rdTake l f 4).1 4 true
  have b := getN_lt (rdTake (rdTake l f 4).2.1 (rdTake l f 4).2.2 2).1 2 true
  unfold rdAddr
  dsimp only
  omega
theorem rdLoop_ok (l : List UInt8) (f : Bool) (n : Nat) : ∀ x ∈ (rdLoop l f n).1, 0 ≤ x.1 ∧ x.1 < 4294967296 ∧ 0 ≤ x.2 ∧ x.2 < 65536 := by
  induction n with
  | zero => intro x hx; simp [rdLoop] at hx
  | succ n ih =>
    intro x hx
    rw [rdLoop] at hx
    rcases List.mem_append.1 hx with hx | hx
    · exact ih x hx
    · rw [List.mem_singleton.1 hx]; exact rdAddr_ok _ _
theorem dec_id (h : Has) (l : List UInt8) : (rdDoes h l).id.length = 12 := by
  unfold rdDoes; dsimp only; split
  · exact rdTake_length _ _ _
  · simp
theorem dec_key (h : Has) (l : List UInt8) : (rdDoes h l).key.length = 32 := by
  unfold rdDoes; dsimp only
  generalize h.key = k
  cases k
  · simp
  · exact rdTake_length _ _ _
theorem dec_addr (h : Has) (l : List UInt8) : 0 ≤ (rdDoes h l).addr.1 ∧ (rdDoes h l).addr.1 < 4294967296 ∧ 0 ≤ (rdDoes h l).addr.2 ∧ (rdDoes h l).addr.2 < 65536 := by
  unfold rdDoes; dsimp only
  generalize h.addr = k
  cases k
  · simp
  · exact rdAddr_ok _ _
theorem dec_n (h : Has) (l : List UInt8) : (rdDoes h l).n < 18446744073709551616 := by
  unfold rdDoes; dsimp only
  generalize h.n = k
  cases k
  · simp
  · exact getN_lt _ 8 false
theorem dec_xs (h : Has) (l : List UInt8) : ∀ x ∈ (rdDoes h l).xs, 0 ≤ x.1 ∧ x.1 < 4294967296 ∧ 0 ≤ x.2 ∧ x.2 < 65536 := by
  unfold rdDoes; dsimp only
  generalize h.addrs = k
  cases k
  · intro x hx; simp at hx
  · exact rdLoop_ok _ _ _
theorem hostsOk_of {xs : List (Int × Int)} (h : ∀ x ∈ xs, 0 ≤ x.1 ∧ x.1 < 4294967296 ∧ 0 ≤ x.2 ∧ x.2 < 65536) : HostsOk xs := fun k hk => by
  rw [List.getElem?_eq_getElem hk]
  have := h _ (List.getElem_mem hk)
  exact ⟨this.1, this.2.1⟩

/-- What is known when all has been read. -/
structure Did (w w' : World) (b0 : UInt8) (l : List UInt8) (A1 A2 : Option Addr) (k1 k2 : Nat) : Prop where
  fb : FB w' (w.heap.size + 1) (decFr b0 l (.slice A1 (decB b0 l).xs.length k1) (.slice A2 (decB b0 l).rest.length k2))
  good : Good w' (decFr b0 l (.slice A1 (decB b0 l).xs.length k1) (.slice A2 (decB b0 l).rest.length k2)) A1 A2 k1 k2 (decB b0 l).xs (decB b0 l).rest
  res : w'.heap[w.heap.size]? = some (.cells (Fr.new 0).cells 33 (0, 0))
  kept : Kept [] w w'
  laid : Laid w'
  lx : (decB b0 l).xs.length < 256
  f1 : ∀ a, A1 = some a → w.heap.size < a.block
  f2 : ∀ a, A2 = some a → w.heap.size < a.block
  fails : w'.cell? ⟨w.heap.size + 1 + 1, 2, none⟩ = some (.bool (decB b0 l).fails)

theorem dec_does (w : World) (b0 : UInt8) (l : List UInt8) (A : Option Addr) (k : Nat) (hL : Laid w) (hr : Rd w A (bvs l)) (h5 : l.length + 40000 ≤ 140737488355328) (hk : l.length ≤ k) (hkt : k ≤ maxLen) (ho : ∀ a, A = some a → a.block < w.heap.size) :
    Calls Tryd.prog 24 #[.pointer (some ⟨w.heap.size + 1 + 1, 0, none⟩), .pointer (some ⟨w.heap.size + 1, 0, none⟩)]
      (((w.alloc (.cells (Fr.new 0).cells 33)).alloc (.cells (Fr.new b0.toNat).cells 33)).alloc (.cells #[.slice A l.length k, .bool true, .bool false] 62))
      fun x w' => x = .returned (.tuple #[]) ∧ ∃ A1 A2 k1 k2, Did w w' b0 l A1 A2 k1 k2 := by
  have hk0 : Kept [] w (((w.alloc (.cells (Fr.new 0).cells 33)).alloc (.cells (Fr.new b0.toNat).cells 33)).alloc (.cells #[.slice A l.length k, .bool true, .bool false] 62)) :=
    (((Kept.refl [] w).alloc _).alloc _).alloc _
  have e2 : (((w.alloc (.cells (Fr.new 0).cells 33)).alloc (.cells (Fr.new b0.toNat).cells 33)).alloc (.cells #[.slice A l.length k, .bool true, .bool false] 62)).heap[w.heap.size + 1 + 1]? =
      some (.cells #[.slice A l.length k, .bool true, .bool false] 62 (0, 0)) := by
    have := heap_alloc_new ((w.alloc (.cells (Fr.new 0).cells 33)).alloc (.cells (Fr.new b0.toNat).cells 33)) (.cells #[.slice A l.length k, .bool true, .bool false] 62)
    simpa using this
  have e1 : (((w.alloc (.cells (Fr.new 0).cells 33)).alloc (.cells (Fr.new b0.toNat).cells 33)).alloc (.cells #[.slice A l.length k, .bool true, .bool false] 62)).heap[w.heap.size + 1]? =
      some (.cells (Fr.new b0.toNat).cells 33 (0, 0)) := by
    rw [Below.heap_alloc _ _ _ (by simp)]
    exact heap_new2 _ _ _
  have e0 : (((w.alloc (.cells (Fr.new 0).cells 33)).alloc (.cells (Fr.new b0.toNat).cells 33)).alloc (.cells #[.slice A l.length k, .bool true, .bool false] 62)).heap[w.heap.size]? =
      some (.cells (Fr.new 0).cells 33 (0, 0)) := by
    rw [Below.heap_alloc _ _ _ (by simp; omega), Below.heap_alloc _ _ _ (by simp)]
    exact heap_alloc_new _ _
  have hsz : (((w.alloc (.cells (Fr.new 0).cells 33)).alloc (.cells (Fr.new b0.toNat).cells 33)).alloc (.cells #[.slice A l.length k, .bool true, .bool false] 62)).heap.size = w.heap.size + 1 + 1 + 1 := by simp
  generalize (((w.alloc (.cells (Fr.new 0).cells 33)).alloc (.cells (Fr.new b0.toNat).cells 33)).alloc (.cells #[.slice A l.length k, .bool true, .bool false] 62)) = w3 at hk0 e0 e1 e2 hsz ⊢
  refine (does_r b0.toNat w.heap.size (w.heap.size + 1 + 1) (w.heap.size + 1) A k l w3 (hL.kept hk0 (by simp)) ⟨e2, hr.kept hk0 (by simp), hk, hkt, ho, by omega⟩ ⟨e1, rfl, rfl⟩ (by omega) (by omega) (by omega) (by omega)).mono ?_
  rintro x w' ⟨rfl, A1, k1, A2, k2, A', k', hF, hr1, hr2, hC, hK, ha1, ha2, hx⟩
  have hs' := hK.size
  refine ⟨rfl, A1, A2, k1, k2, hF, ⟨dec_id _ _, dec_key _ _, rfl, rfl, hr1, hr2, ?_, ?_, (dec_addr _ _).1, (dec_addr _ _).2.1, Int.natCast_nonneg _, by have := dec_n (hasOf b0.toNat) l; simp only [decFr, decB]; omega⟩, (hK.block _ (by omega) (by simp; omega)).trans e0, hk0.trans hK (fun j hj hm => by simp at hm; omega),
    hL.kept (hk0.trans hK (fun j hj hm => by simp at hm; omega)) (by simp), hx, fun a e => by have := (ha1 a e).1; omega, fun a e => by have := (ha2 a e).1; omega, hC.cell.2.2.1⟩
  · exact fun a e => (ha1 a e).2
  · exact fun a e => (ha2 a e).2

/-- Whether bytes are a right frame. -/
def decOk (b0 : UInt8) (l : List UInt8) : Bool := !(decB b0 l).fails && rightF (decFr b0 l undef undef) (decB b0 l).xs (decB b0 l).rest
theorem rightF_decFr (b0 : UInt8) (l : List UInt8) (u v : Value) : rightF (decFr b0 l u v) (decB b0 l).xs (decB b0 l).rest = rightF (decFr b0 l undef undef) (decB b0 l).xs (decB b0 l).rest := rfl
theorem kept_setRow (w : World) (g : Nat) (cs : Array Value) : Kept [g] w (w.setRow g cs) := ⟨rfl, rfl, rfl, by simp, fun j _ hj => setRow_other w g j _ (by simpa using hj)⟩
theorem Good.keptS {S : List Nat} {w w' : World} {F : Fr} {A1 A2 : Option Addr} {k1 k2 : Nat} {xs : List (Int × Int)} {ds : List UInt8} (h : Good w F A1 A2 k1 k2 xs ds) (hk : Kept S w w') (h1 : ∀ a, A1 = some a → a.block ∉ S) (h2 : ∀ a, A2 = some a → a.block ∉ S) : Good w' F A1 A2 k1 k2 xs ds :=
  { h with r1 := h.r1.kept hk fun a e _ => h1 a e, r2 := h.r2.kept hk fun a e _ => h2 a e, a1 := fun a e => Nat.lt_of_lt_of_le (h.a1 a e) hk.size, a2 := fun a e => Nat.lt_of_lt_of_le (h.a2 a e) hk.size }
/-- What Decode answers. -/
def Decoded (w : World) (b0 : UInt8) (l : List UInt8) (x : Ending) (w' : World) : Prop :=
  Kept [] w w' ∧ (decOk b0 l = false → x = .returned (.tuple #[.agg (Fr.new 0).cells, .int .i64 2])) ∧
    (decOk b0 l = true → ∃ A1 A2 k1 k2, x = .returned (.tuple #[.agg (decFr b0 l (.slice A1 (decB b0 l).xs.length k1) (.slice A2 (decB b0 l).rest.length k2)).cells, .int .i64 0]) ∧
      Good w' (decFr b0 l (.slice A1 (decB b0 l).xs.length k1) (.slice A2 (decB b0 l).rest.length k2)) A1 A2 k1 k2 (decB b0 l).xs (decB b0 l).rest ∧ (∀ a, A1 = some a → w.heap.size ≤ a.block) ∧ (∀ a, A2 = some a → w.heap.size ≤ a.block))
/-- The result lies in a cell. -/
theorem ret_frame (w : World) (tmps : Array Value) (g : Nat) (F : Fr) (h50 : F.cells.size = 50) (hg : w.heap[g]? = some (.cells F.cells 33 (0, 0))) (ht : tmps.getD 2 undef = .pointer (some ⟨g, 0, none⟩)) :
    (results Tryd.f13 tmps).run Tryd.prog w = .ok (.tuple #[.agg F.cells, tmps.getD 3 undef]) w := by
  rw [results_cell_tmp rfl, ht]
  have h := run_loadVar_row (P := Tryd.prog) w g 33 33 F.cells (0, 0) _ hg Tryd.underlying33 rfl (info_frame.trans (congrArg some h50.symm))
  simp only [asAddr, Sem.run_pure, Result.andThen_ok, h]

set_option maxRecDepth 100000 in
set_option maxHeartbeats 2000000 in
theorem decode_some (A : Option Addr) (c : Nat) (b0 : UInt8) (l : List UInt8) (w : World) (hL : Laid w) (hr : Rd w A (bvs (b0 :: l))) (h5 : l.length + 40000 ≤ 140737488355328) (hc : l.length + 1 ≤ c) (hct : c ≤ maxLen) :
    Calls Tryd.prog 13 #[.slice A (l.length + 1) c] w fun x w' => Decoded w b0 l x w' := by
  obtain ⟨b, off, rfl, hb, hcell⟩ := hr.at_ (k := 0) (by simp [bvs])
  have h0 := hcell 0 (.int .u8 b0.toNat) (by simp [bvs])
  rw [Nat.add_zero] at h0
  have hb0 : (b0.toNat : Int) < 256 := by have := b0.toNat_lt; omega
  have HC := Lib.hid hcell; have HL := Lib.hid hL
  have h0' := cell_new h0
  have h0'' := cell_new2 h0
  unfold maxLen at hct
  clear hcell hL
  by_cases hc1 : c = 1
  · obtain rfl : l = [] := by cases l with | nil => rfl | cons x y => simp at hc; omega
    subst hc1
    go_enter Tryd.func13, Tryd.ntmps13
    go_wp2_with (first
      | ((with_reducible show wpList _ _ _ (⟨some 2, Op.alloc _, _, _, _, _⟩ :: _) _ _); refine wpList_alloc_known _ 33 rfl rfl _ (run_alloc_frame _) ?_)
      | ((with_reducible show wpList _ _ _ (⟨some 4, Op.alloc _, _, _, _, _⟩ :: _) _ _); refine wpList_alloc_known _ 33 rfl rfl _ (run_alloc_frame _) ?_)
      | ((with_reducible show wpList _ _ _ (⟨some 14, Op.build _ _, _, _, _, _⟩ :: _) _ _); refine wpList_build_known _ 33 _ rfl rfl #[(0, .int .i64 b0.toNat)] (by simp only [List.map_toArray, List.map_cons, List.map_nil]; rfl) _ (run_build_frame b0.toNat _) ?_)
      | ((with_reducible show wpList _ _ _ (⟨none, Op.store 33 (.tmp 4) (.tmp 14), _, _, _, _⟩ :: _) _ _); refine wpList_store_whole _ 33 (.tmp 4) (.tmp 14) rfl rfl (w.alloc (.cells (Fr.new 0).cells 33)).heap.size (by rfl) (Fr.new b0.toNat).cells (by rfl) _ _ (heap_alloc_new _ _) ((Fr.new_size _).trans (Fr.new_size _).symm) (info_frame.trans (congrArg some (Fr.new_size _).symm)) (Fr.new_one _) _ (setRow_new _ _ _ _) ?_))
    refine (dec_does w b0 [] _ 0 HL.out Rd.nil h5 (Nat.le_refl _) (by decide) (by rintro a e; injection e with e; subst e; exact hb)).mono ?_
    rintro x w1 ⟨rfl, A1, A2, k1, k2, D⟩
    have hfl := D.fails
    have HD := Lib.hid D
    clear D
    by_cases hff : (decB b0 []).fails = true
    · rw [hff] at hfl
      have HFF := Lib.hid hff
      clear hff
      go_wp2_with (first
        | ((with_reducible show wpList _ _ _ (⟨some 30, Op.build _ _, _, _, _, _⟩ :: _) _ _); refine wpList_build_known _ 33 _ rfl rfl #[] (by simp only [List.map_toArray, List.map_nil]) _ (run_build_frame0 _) ?_)
        | ((with_reducible show wpList _ _ _ (⟨none, Op.store 33 (.tmp 2) (.tmp 30), _, _, _, _⟩ :: _) _ _); refine wpList_store_whole _ 33 (.tmp 2) (.tmp 30) rfl rfl w.heap.size (by rfl) (Fr.new 0).cells (by rfl) _ _ HD.out.res rfl (info_frame.trans (congrArg some (Fr.new_size _).symm)) (Fr.new_one _) _ rfl ?_))
      refine bodyPost_ret (ret_frame _ _ w.heap.size (Fr.new 0) rfl (setRow_heap _ _ _ _ _ _ HD.out.res) rfl) rfl ?_
      refine ⟨HD.out.kept.trans (kept_setRow _ _ _) (fun j hj hm => by simp at hm; omega), fun _ => rfl, fun h => ?_⟩
      exfalso
      unfold decOk at h
      rw [HFF.out] at h
      cases h
    · have hff' : (decB b0 []).fails = false := by simpa using hff
      rw [hff'] at hfl
      have HFF := Lib.hid hff'
      clear hff hff'
      have FRC := Lib.hid (show ∀ j u, (decFr b0 [] (.slice A1 (decB b0 []).xs.length k1) (.slice A2 (decB b0 []).rest.length k2)).list[j]? = some u → w1.cell? ⟨w.heap.size + 1, 0 + j, none⟩ = some u from fun j u hu => by
        rw [HD.out.fb.cell, Nat.zero_add]; simpa [Fr.cells] using hu)
      have FRI := Lib.hid (show (Tryd.prog.info? 33).map (·.size) = some (decFr b0 [] (.slice A1 (decB b0 []).xs.length k1) (.slice A2 (decB b0 []).rest.length k2)).list.length from by rw [info_frame]; have := Fr.size HD.out.fb.id HD.out.fb.key; rw [← this]; simp [Fr.cells])
      have HSZ := Lib.hid (Fr.size HD.out.fb.id HD.out.fb.key)
      have H1C := Lib.hid (Fr.one (decFr b0 [] (.slice A1 (decB b0 []).xs.length k1) (.slice A2 (decB b0 []).rest.length k2)) rfl rfl)
      have HN := Lib.hid (show (decB b0 []).xs.length ≤ 140737488355328 ∧ (decB b0 []).rest.length + 30000 ≤ 140737488355328 from ⟨by have := HD.out.lx; omega, by have := rdDoes_rest (hasOf b0.toNat) []; unfold decB; omega⟩)
      go_wp2_with (first
        | ((with_reducible show wpList _ _ _ (⟨some 26, Op.load _ _, _, _, _, _⟩ :: _) _ _); refine wpList_load_part _ 33 _ rfl rfl (w.heap.size + 1) 0 rfl _ _ FRC.out Tryd.underlying33 rfl FRI.out ?_))
      refine (right_any (decFr b0 [] (.slice A1 (decB b0 []).xs.length k1) (.slice A2 (decB b0 []).rest.length k2)) A1 A2 k1 k2 (decB b0 []).xs (decB b0 []).rest w1 HD.out.laid HD.out.good (hostsOk_of (dec_xs _ _)) HN.out.1 HN.out.2).mono ?_
      rintro x w2 ⟨rfl, hk2⟩
      rw [rightF_decFr]
      have HK2 := Lib.hid hk2
      have hcr : w2.cell? ⟨w.heap.size + 1 + 1, 2, none⟩ = some (.bool false) := (hk2.cell (p := ⟨w.heap.size + 1 + 1, 2, none⟩) (lt_of_cell hfl) (by simp)).trans hfl
      have HRS := Lib.hid ((hk2.block w.heap.size (Array.getElem?_eq_some_iff.1 HD.out.res).1 (by simp)).trans HD.out.res)
      have HFC := Lib.hid (HD.out.fb.kept hk2 (by simp))
      have FRC2 := Lib.hid (show ∀ j u, (decFr b0 [] (.slice A1 (decB b0 []).xs.length k1) (.slice A2 (decB b0 []).rest.length k2)).list[j]? = some u → w2.cell? ⟨w.heap.size + 1, 0 + j, none⟩ = some u from fun j u hu => by
        rw [HFC.out.cell, Nat.zero_add]; simpa [Fr.cells] using hu)
      clear hk2 hfl FRC
      by_cases hrr : rightF (decFr b0 [] undef undef) (decB b0 []).xs (decB b0 []).rest = true
      · rw [hrr]
        have HRR := Lib.hid hrr
        clear hrr
        go_wp2_with (first
          | ((with_reducible show wpList _ _ _ (⟨some 31, Op.load _ _, _, _, _, _⟩ :: _) _ _); refine wpList_load_part _ 33 _ rfl rfl (w.heap.size + 1) 0 rfl _ _ FRC2.out Tryd.underlying33 rfl FRI.out ?_)
          | ((with_reducible show wpList _ _ _ (⟨none, Op.store 33 (.tmp 2) (.tmp 31), _, _, _, _⟩ :: _) _ _); refine wpList_store_whole _ 33 (.tmp 2) (.tmp 31) rfl rfl w.heap.size (by rfl) _ (by rfl) _ _ HRS.out (HSZ.out.trans (Fr.new_size _).symm) (info_frame.trans (congrArg some HSZ.out.symm)) H1C.out _ rfl ?_))
        refine bodyPost_ret (ret_frame _ _ w.heap.size (decFr b0 [] (.slice A1 (decB b0 []).xs.length k1) (.slice A2 (decB b0 []).rest.length k2)) HSZ.out (setRow_heap _ _ _ _ _ _ HRS.out) rfl) rfl ?_
        refine ⟨(HD.out.kept.trans HK2.out (fun _ _ h => h)).trans (kept_setRow w2 w.heap.size _) (fun j hj hm => by simp at hm; omega), fun h => ?_, fun _ => ⟨A1, A2, k1, k2, rfl, ?_, fun a e => Nat.le_of_lt (HD.out.f1 a e), fun a e => Nat.le_of_lt (HD.out.f2 a e)⟩⟩
        · exfalso
          unfold decOk at h
          rw [HFF.out, HRR.out] at h
          cases h
        · exact (HD.out.good.kept HK2.out).keptS (kept_setRow _ _ _) (fun a e hm => by have := HD.out.f1 a e; simp at hm; omega) (fun a e hm => by have := HD.out.f2 a e; simp at hm; omega)
      · have hrr' : rightF (decFr b0 [] undef undef) (decB b0 []).xs (decB b0 []).rest = false := by simpa using hrr
        rw [hrr']
        have HRR := Lib.hid hrr'
        clear hrr hrr'
        go_wp2_with (first
          | ((with_reducible show wpList _ _ _ (⟨some 30, Op.build _ _, _, _, _, _⟩ :: _) _ _); refine wpList_build_known _ 33 _ rfl rfl #[] (by simp only [List.map_toArray, List.map_nil]) _ (run_build_frame0 _) ?_)
          | ((with_reducible show wpList _ _ _ (⟨none, Op.store 33 (.tmp 2) (.tmp 30), _, _, _, _⟩ :: _) _ _); refine wpList_store_whole _ 33 (.tmp 2) (.tmp 30) rfl rfl w.heap.size (by rfl) (Fr.new 0).cells (by rfl) _ _ HRS.out rfl (info_frame.trans (congrArg some (Fr.new_size _).symm)) (Fr.new_one _) _ rfl ?_))
        refine bodyPost_ret (ret_frame _ _ w.heap.size (Fr.new 0) rfl (setRow_heap _ _ _ _ _ _ HRS.out) rfl) rfl ?_
        refine ⟨(HD.out.kept.trans HK2.out (fun _ _ h => h)).trans (kept_setRow w2 w.heap.size _) (fun j hj hm => by simp at hm; omega), fun _ => rfl, fun h => ?_⟩
        exfalso
        unfold decOk at h
        rw [HFF.out, HRR.out] at h
        cases h
  · go_enter Tryd.func13, Tryd.ntmps13
    go_wp2_with (first
      | ((with_reducible show wpList _ _ _ (⟨some 2, Op.alloc _, _, _, _, _⟩ :: _) _ _); refine wpList_alloc_known _ 33 rfl rfl _ (run_alloc_frame _) ?_)
      | ((with_reducible show wpList _ _ _ (⟨some 4, Op.alloc _, _, _, _, _⟩ :: _) _ _); refine wpList_alloc_known _ 33 rfl rfl _ (run_alloc_frame _) ?_)
      | ((with_reducible show wpList _ _ _ (⟨some 14, Op.build _ _, _, _, _, _⟩ :: _) _ _); refine wpList_build_known _ 33 _ rfl rfl #[(0, .int .i64 b0.toNat)] (by simp only [List.map_toArray, List.map_cons, List.map_nil]; rfl) _ (run_build_frame b0.toNat _) ?_)
      | ((with_reducible show wpList _ _ _ (⟨none, Op.store 33 (.tmp 4) (.tmp 14), _, _, _, _⟩ :: _) _ _); refine wpList_store_whole _ 33 (.tmp 4) (.tmp 14) rfl rfl (w.alloc (.cells (Fr.new 0).cells 33)).heap.size (by rfl) (Fr.new b0.toNat).cells (by rfl) _ _ (heap_alloc_new _ _) ((Fr.new_size _).trans (Fr.new_size _).symm) (info_frame.trans (congrArg some (Fr.new_size _).symm)) (Fr.new_one _) _ (setRow_new _ _ _ _) ?_))
    refine (dec_does w b0 l _ (c - 1) HL.out (fun _ => ⟨b, off + 1, rfl, hb, fun j u hu => by have := HC.out (j + 1) u (by simpa [bvs] using hu); rwa [show off + (j + 1) = off + 1 + j by omega] at this⟩) h5 (by omega) (by unfold maxLen; omega) (by rintro a e; injection e with e; subst e; exact hb)).mono ?_
    rintro x w1 ⟨rfl, A1, A2, k1, k2, D⟩
    have hfl := D.fails
    have HD := Lib.hid D
    clear D
    by_cases hff : (decB b0 l).fails = true
    · rw [hff] at hfl
      have HFF := Lib.hid hff
      clear hff
      go_wp2_with (first
        | ((with_reducible show wpList _ _ _ (⟨some 30, Op.build _ _, _, _, _, _⟩ :: _) _ _); refine wpList_build_known _ 33 _ rfl rfl #[] (by simp only [List.map_toArray, List.map_nil]) _ (run_build_frame0 _) ?_)
        | ((with_reducible show wpList _ _ _ (⟨none, Op.store 33 (.tmp 2) (.tmp 30), _, _, _, _⟩ :: _) _ _); refine wpList_store_whole _ 33 (.tmp 2) (.tmp 30) rfl rfl w.heap.size (by rfl) (Fr.new 0).cells (by rfl) _ _ HD.out.res rfl (info_frame.trans (congrArg some (Fr.new_size _).symm)) (Fr.new_one _) _ rfl ?_))
      refine bodyPost_ret (ret_frame _ _ w.heap.size (Fr.new 0) rfl (setRow_heap _ _ _ _ _ _ HD.out.res) rfl) rfl ?_
      refine ⟨HD.out.kept.trans (kept_setRow _ _ _) (fun j hj hm => by simp at hm; omega), fun _ => rfl, fun h => ?_⟩
      exfalso
      unfold decOk at h
      rw [HFF.out] at h
      cases h
    · have hff' : (decB b0 l).fails = false := by simpa using hff
      rw [hff'] at hfl
      have HFF := Lib.hid hff'
      clear hff hff'
      have FRC := Lib.hid (show ∀ j u, (decFr b0 l (.slice A1 (decB b0 l).xs.length k1) (.slice A2 (decB b0 l).rest.length k2)).list[j]? = some u → w1.cell? ⟨w.heap.size + 1, 0 + j, none⟩ = some u from fun j u hu => by
        rw [HD.out.fb.cell, Nat.zero_add]; simpa [Fr.cells] using hu)
      have FRI := Lib.hid (show (Tryd.prog.info? 33).map (·.size) = some (decFr b0 l (.slice A1 (decB b0 l).xs.length k1) (.slice A2 (decB b0 l).rest.length k2)).list.length from by rw [info_frame]; have := Fr.size HD.out.fb.id HD.out.fb.key; rw [← this]; simp [Fr.cells])
      have HSZ := Lib.hid (Fr.size HD.out.fb.id HD.out.fb.key)
      have H1C := Lib.hid (Fr.one (decFr b0 l (.slice A1 (decB b0 l).xs.length k1) (.slice A2 (decB b0 l).rest.length k2)) rfl rfl)
      have HN := Lib.hid (show (decB b0 l).xs.length ≤ 140737488355328 ∧ (decB b0 l).rest.length + 30000 ≤ 140737488355328 from ⟨by have := HD.out.lx; omega, by have := rdDoes_rest (hasOf b0.toNat) l; unfold decB; omega⟩)
      go_wp2_with (first
        | ((with_reducible show wpList _ _ _ (⟨some 26, Op.load _ _, _, _, _, _⟩ :: _) _ _); refine wpList_load_part _ 33 _ rfl rfl (w.heap.size + 1) 0 rfl _ _ FRC.out Tryd.underlying33 rfl FRI.out ?_))
      refine (right_any (decFr b0 l (.slice A1 (decB b0 l).xs.length k1) (.slice A2 (decB b0 l).rest.length k2)) A1 A2 k1 k2 (decB b0 l).xs (decB b0 l).rest w1 HD.out.laid HD.out.good (hostsOk_of (dec_xs _ _)) HN.out.1 HN.out.2).mono ?_
      rintro x w2 ⟨rfl, hk2⟩
      rw [rightF_decFr]
      have HK2 := Lib.hid hk2
      have hcr : w2.cell? ⟨w.heap.size + 1 + 1, 2, none⟩ = some (.bool false) := (hk2.cell (p := ⟨w.heap.size + 1 + 1, 2, none⟩) (lt_of_cell hfl) (by simp)).trans hfl
      have HRS := Lib.hid ((hk2.block w.heap.size (Array.getElem?_eq_some_iff.1 HD.out.res).1 (by simp)).trans HD.out.res)
      have HFC := Lib.hid (HD.out.fb.kept hk2 (by simp))
      have FRC2 := Lib.hid (show ∀ j u, (decFr b0 l (.slice A1 (decB b0 l).xs.length k1) (.slice A2 (decB b0 l).rest.length k2)).list[j]? = some u → w2.cell? ⟨w.heap.size + 1, 0 + j, none⟩ = some u from fun j u hu => by
        rw [HFC.out.cell, Nat.zero_add]; simpa [Fr.cells] using hu)
      clear hk2 hfl FRC
      by_cases hrr : rightF (decFr b0 l undef undef) (decB b0 l).xs (decB b0 l).rest = true
      · rw [hrr]
        have HRR := Lib.hid hrr
        clear hrr
        go_wp2_with (first
          | ((with_reducible show wpList _ _ _ (⟨some 31, Op.load _ _, _, _, _, _⟩ :: _) _ _); refine wpList_load_part _ 33 _ rfl rfl (w.heap.size + 1) 0 rfl _ _ FRC2.out Tryd.underlying33 rfl FRI.out ?_)
          | ((with_reducible show wpList _ _ _ (⟨none, Op.store 33 (.tmp 2) (.tmp 31), _, _, _, _⟩ :: _) _ _); refine wpList_store_whole _ 33 (.tmp 2) (.tmp 31) rfl rfl w.heap.size (by rfl) _ (by rfl) _ _ HRS.out (HSZ.out.trans (Fr.new_size _).symm) (info_frame.trans (congrArg some HSZ.out.symm)) H1C.out _ rfl ?_))
        refine bodyPost_ret (ret_frame _ _ w.heap.size (decFr b0 l (.slice A1 (decB b0 l).xs.length k1) (.slice A2 (decB b0 l).rest.length k2)) HSZ.out (setRow_heap _ _ _ _ _ _ HRS.out) rfl) rfl ?_
        refine ⟨(HD.out.kept.trans HK2.out (fun _ _ h => h)).trans (kept_setRow w2 w.heap.size _) (fun j hj hm => by simp at hm; omega), fun h => ?_, fun _ => ⟨A1, A2, k1, k2, rfl, ?_, fun a e => Nat.le_of_lt (HD.out.f1 a e), fun a e => Nat.le_of_lt (HD.out.f2 a e)⟩⟩
        · exfalso
          unfold decOk at h
          rw [HFF.out, HRR.out] at h
          cases h
        · exact (HD.out.good.kept HK2.out).keptS (kept_setRow _ _ _) (fun a e hm => by have := HD.out.f1 a e; simp at hm; omega) (fun a e hm => by have := HD.out.f2 a e; simp at hm; omega)
      · have hrr' : rightF (decFr b0 l undef undef) (decB b0 l).xs (decB b0 l).rest = false := by simpa using hrr
        rw [hrr']
        have HRR := Lib.hid hrr'
        clear hrr hrr'
        go_wp2_with (first
          | ((with_reducible show wpList _ _ _ (⟨some 30, Op.build _ _, _, _, _, _⟩ :: _) _ _); refine wpList_build_known _ 33 _ rfl rfl #[] (by simp only [List.map_toArray, List.map_nil]) _ (run_build_frame0 _) ?_)
          | ((with_reducible show wpList _ _ _ (⟨none, Op.store 33 (.tmp 2) (.tmp 30), _, _, _, _⟩ :: _) _ _); refine wpList_store_whole _ 33 (.tmp 2) (.tmp 30) rfl rfl w.heap.size (by rfl) (Fr.new 0).cells (by rfl) _ _ HRS.out rfl (info_frame.trans (congrArg some (Fr.new_size _).symm)) (Fr.new_one _) _ rfl ?_))
        refine bodyPost_ret (ret_frame _ _ w.heap.size (Fr.new 0) rfl (setRow_heap _ _ _ _ _ _ HRS.out) rfl) rfl ?_
        refine ⟨(HD.out.kept.trans HK2.out (fun _ _ h => h)).trans (kept_setRow w2 w.heap.size _) (fun j hj hm => by simp at hm; omega), fun _ => rfl, fun h => ?_⟩
        exfalso
        unfold decOk at h
        rw [HFF.out, HRR.out] at h
        cases h

set_option maxRecDepth 100000 in
theorem decode_none (A : Option Addr) (c : Nat) (w : World) :
    Calls Tryd.prog 13 #[.slice A 0 c] w fun x w' => x = .returned (.tuple #[.agg (Fr.new 0).cells, .int .i64 2]) ∧ Kept [] w w' := by
  go_enter Tryd.func13, Tryd.ntmps13
  go_wp2_with (first
    | ((with_reducible show wpList _ _ _ (⟨some 2, Op.alloc _, _, _, _, _⟩ :: _) _ _); refine wpList_alloc_known _ 33 rfl rfl _ (run_alloc_frame _) ?_)
    | ((with_reducible show wpList _ _ _ (⟨some 9, Op.build _ _, _, _, _, _⟩ :: _) _ _); refine wpList_build_known _ 33 _ rfl rfl #[] (by simp only [List.map_toArray, List.map_nil]) _ (run_build_frame0 _) ?_)
    | ((with_reducible show wpList _ _ _ (⟨none, Op.store 33 (.tmp 2) (.tmp 9), _, _, _, _⟩ :: _) _ _); refine wpList_store_whole _ 33 (.tmp 2) (.tmp 9) rfl rfl w.heap.size (by rfl) (Fr.new 0).cells (by rfl) _ _ (heap_alloc_new _ _) rfl (info_frame.trans (congrArg some (Fr.new_size _).symm)) (Fr.new_one _) _ (setRow_new _ _ _ _) ?_))
  refine bodyPost_ret (ret_frame _ _ w.heap.size (Fr.new 0) rfl (heap_alloc_new _ _) rfl) rfl ?_
  exact ⟨rfl, (Kept.refl [] w).alloc _⟩
end Go.Proofs.YthnmjpohdlimiaaDoor
