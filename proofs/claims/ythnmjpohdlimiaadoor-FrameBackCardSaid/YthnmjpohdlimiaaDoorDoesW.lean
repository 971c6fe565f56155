/- (*cursor).does as it writes. -/
import Derived.Test.YthnmjpohdlimiaaDoorFr
import Derived.Deep.RegionLaw
namespace Go.Proofs.YthnmjpohdlimiaaDoor
open Go.RowKit

/-- What (*cursor).does does as it writes, for one kind. -/
def DoesW (K : Int) : Prop := ∀ (base c q : Nat) (A1 A2 : Option Addr) (k1 k2 : Nat) (F : Fr) (v : Value) (l : List UInt8) (xs : List (Int × Int)) (ds : List UInt8) (w : World) (_ : F.kind = K) (_ : Laid w) (_ : FB w q F) (_ : CW w base c v l)
    (_ : base ≤ w.heap.size) (_ : base ≤ c) (_ : F.sa = .slice A1 xs.length k1) (_ : F.sd = .slice A2 ds.length k2) (_ : Rd w A1 (avs xs)) (_ : Rd w A2 (bvs ds)) (_ : ∀ a, A1 = some a → a.block < base) (_ : ∀ a, A2 = some a → a.block < base)
    (_ : 0 ≤ F.host) (_ : F.host < 4294967296) (_ : 0 ≤ F.port) (_ : F.port < 65536) (_ : GoodAs xs) (_ : xs.length < 256) (_ : 0 ≤ F.n) (_ : F.n < 18446744073709551616) (_ : l.length + ds.length + 20000 ≤ 140737488355328),
    Calls Tryd.prog 24 #[.pointer (some ⟨c, 0, none⟩), .pointer (some ⟨q, 0, none⟩)] w fun x w' => x = .returned (.tuple #[]) ∧
      ∃ v', CW w' base c v' (l ++ (encH F xs ++ ds)) ∧ Moved c w w' v v'
theorem SW.drew {w0 w : World} {base c q hb : Nat} {F : Fr} {h : Has} {v0 v : Value} {l : List UInt8} (s : SW w0 w base c q hb F h v0 v l) : SW w0 w.drew base c q hb F h v0 v l :=
  ⟨⟨s.cw.blk, s.cw.own⟩, ⟨s.fb.blk, s.fb.id, s.fb.key⟩, s.hb, ⟨s.mv.kept.drew, s.mv.row⟩⟩
/-- The last step's end: the data behind all. -/
theorem sw_end {w0 w w1 : World} {base c q hb n : Nat} {F : Fr} {h : Has} {v0 v v1 : Value} {l r : List UInt8} (s : SW w0 w base c q hb F h v0 v l) (hbs : base ≤ w.heap.size)
    (hown : w1.ownsRow base 5 1 v1 n (bvs l ++ bvs r)) (hn : n = l.length + r.length) (hg : w.grownBy w1 v.ownBlock) (hrow : v1.ownBlock = v.ownBlock ∨ v1.ownBlock = some w.heap.size) :
    CW (w1.setCell ⟨c, 0, none⟩ v1) base c v1 (l ++ r) ∧ Moved c w0 (w1.setCell ⟨c, 0, none⟩ v1) v0 v1 ∧ w1.cell? ⟨c, 0, none⟩ = w.cell? ⟨c, 0, none⟩ ∧ w1.frozen? ⟨c, 0, none⟩ = w.frozen? ⟨c, 0, none⟩ := by
  obtain ⟨hC, hM⟩ := cw_append s.cw hbs hown hn hg hrow
  have hnb : some c ≠ v.ownBlock := fun e => own_ne_blk s.cw e.symm
  have hcs : c < w.heap.size := s.cw.lt
  exact ⟨hC, s.mv.trans hM, World.cell?_of_block (w := w) (a := ⟨c, 0, none⟩) (hg.block c hcs hnb), World.frozen?_of_block (w := w) (a := ⟨c, 0, none⟩) (hg.block c hcs hnb)⟩

set_option maxHeartbeats 2000000 in
theorem does_w_1 : DoesW 1 := by
  intro base c q A1 A2 k1 k2 F v l xs ds w hkind hL hF h hb hc hsa hsd hr1 hr2 hA1 hA2 g1 g2 g3 g4 g5 g6 g7 g8 h5
  obtain ⟨i0, hi, hz0, hz1, hz2⟩ := info_parts info_byte
  have kf := hF.kind
  rw [hkind] at kf
  have HH := Lib.hid h
  have HF := Lib.hid hF
  have H5 := Lib.hid g5
  have HA1 := Lib.hid hA1
  have HA2 := Lib.hid hA2
  have HS1 := Lib.hid hsa
  have HS2 := Lib.hid hsd
  have HK := Lib.hid hkind
  have HR1 := Lib.hid hr1
  have HR2 := Lib.hid hr2
  clear h hF g5 hA1 hA2 hsa hsd hkind hr1 hr2
  go_enter Tryd.func24, Tryd.ntmps24
  go_wp2_with fail
  refine (of_1 w hL).mono ?_
  rintro x w1 ⟨rfl, hk1⟩
  rw [show (hasOf 1).val = .agg #[.bool true, .bool false, .bool false, .bool false, .bool false, .bool false] from rfl]
  have s1 : SW w (w1.alloc (.cells #[.bool true, .bool false, .bool false, .bool false, .bool false, .bool false] 55)) base c q w1.heap.size F (hasOf 1) v v l :=
    have hk := hk1.alloc (.cells #[.bool true, .bool false, .bool false, .bool false, .bool false, .bool false] 55)
    ⟨HH.out.kept hk (by simp) (by simp), HF.out.kept hk (by simp), heap_alloc_new _ _, ⟨hk.mono fun k _ hm => (by cases hm), .inl rfl⟩⟩
  obtain ⟨e0, e1, _, f0⟩ := s1.cw.cell
  have esd := s1.fb.sd
  rw [HS2.out] at esd
  have en := s1.fb.n
  have S1 := Lib.hid s1
  clear s1
  go_wp2_with fail
  refine (raw_w base c (some ⟨q, 1, none⟩) 12 12 F.id v _ _ S1.out.cw (Nat.le_trans hb S1.out.mv.kept.size) S1.out.fb.idRd HF.out.id.symm (by have i1 := HF.out.id; have i2 := HF.out.key; first | omega | ((repeat rw [List.length_append]); (try rw [encN_length]); (try rw [encA_length]); (try rw [encAs_length]); omega))).mono ?_
  rintro x w2 ⟨rfl, v2, hC2, hM2⟩
  have s2 := S1.out.next hC2 hM2
  obtain ⟨b0, b1, b2, b3, b4, b5⟩ : w2.cell? ⟨w1.heap.size, 0, none⟩ = some (.bool true) ∧ w2.cell? ⟨w1.heap.size, 1, none⟩ = some (.bool false) ∧ w2.cell? ⟨w1.heap.size, 2, none⟩ = some (.bool false) ∧ w2.cell? ⟨w1.heap.size, 3, none⟩ = some (.bool false) ∧ w2.cell? ⟨w1.heap.size, 4, none⟩ = some (.bool false) ∧ w2.cell? ⟨w1.heap.size, 5, none⟩ = some (.bool false) := s2.hb.cells
  clear e0 e1 f0 esd en hC2 hM2
  have a0 := b0; have a1 := b1; have a2 := b2; have a3 := b3; have a4 := b4; have a5 := b5
  clear b0 b1 b2 b3 b4 b5
  obtain ⟨e0, e1, _, f0⟩ := s2.cw.cell
  have esd := s2.fb.sd
  rw [HS2.out] at esd
  have en := s2.fb.n
  have S2 := Lib.hid s2
  clear s2
  obtain ⟨L, hLe⟩ : ∃ L, L = (l ++ F.id) := ⟨_, rfl⟩
  rw [← hLe] at S2
  have HLe := Lib.hid hLe
  obtain ⟨_, _, hvs, _⟩ := S2.out.cw.slice
  clear hvs
  have R2 := Lib.hid (rd_moved HH.out hc S2.out.mv HR2.out HA2.out)
  have hsz : base ≤ (w2).heap.size := Nat.le_trans hb S2.out.mv.kept.size
  have hlen : L.length + ds.length ≤ 140737488355328 := by rw [hLe]; exact (by have i1 := HF.out.id; have i2 := HF.out.key; first | omega | ((repeat rw [List.length_append]); (try rw [encN_length]); (try rw [encA_length]); (try rw [encAs_length]); omega))
  have HL := Lib.hid hlen
  clear hlen hLe
  go_wp2_with fail
  go_region_law (refine step_append_rd _ rfl (.tmp 67) (.tmp 71) 31 rfl base 5 i0 (.int .u8 0) 1 1 Tryd.underlying31 hi hz0 hz1 hz2 rfl (by decide) v2 _ _ rfl S2.out.cw.own A2 ds.length k2 (bvs ds) rfl (by simp) R2.out (bvs_one ds) (by have := HL.out; unfold maxLen; omega) (by have := HL.out; omega) hsz ?_; intro v9 w9 hown9 hg9 hrow9; obtain ⟨hC9, hM9, hc9, hf9⟩ := sw_end S2.out.drew hsz hown9 rfl hg9 hrow9; have HC9 := Lib.hid hC9; have HM9 := Lib.hid hM9; have d0 := hc9.trans e0; have d1 := hf9.trans f0; clear hC9 hM9 hc9 hf9 hg9 hrow9; obtain ⟨A9, k9, rfl⟩ := own_slice hown9)
  all_goals
    go_wp2
    go_end0
    refine ⟨rfl, _, ?_, HM9.out⟩
    have e : l ++ (encH F xs ++ ds) = L ++ ds := by rw [HLe.out]; simp [encH, HK.out, hasOf]
    rw [e]
    exact HC9.out

set_option maxHeartbeats 2000000 in
theorem does_w_2 : DoesW 2 := by
  intro base c q A1 A2 k1 k2 F v l xs ds w hkind hL hF h hb hc hsa hsd hr1 hr2 hA1 hA2 g1 g2 g3 g4 g5 g6 g7 g8 h5
  obtain ⟨i0, hi, hz0, hz1, hz2⟩ := info_parts info_byte
  have kf := hF.kind
  rw [hkind] at kf
  have HH := Lib.hid h
  have HF := Lib.hid hF
  have H5 := Lib.hid g5
  have HA1 := Lib.hid hA1
  have HA2 := Lib.hid hA2
  have HS1 := Lib.hid hsa
  have HS2 := Lib.hid hsd
  have HK := Lib.hid hkind
  have HR1 := Lib.hid hr1
  have HR2 := Lib.hid hr2
  clear h hF g5 hA1 hA2 hsa hsd hkind hr1 hr2
  go_enter Tryd.func24, Tryd.ntmps24
  go_wp2_with fail
  refine (of_2 w hL).mono ?_
  rintro x w1 ⟨rfl, hk1⟩
  rw [show (hasOf 2).val = .agg #[.bool true, .bool true, .bool false, .bool false, .bool false, .bool false] from rfl]
  have s1 : SW w (w1.alloc (.cells #[.bool true, .bool true, .bool false, .bool false, .bool false, .bool false] 55)) base c q w1.heap.size F (hasOf 2) v v l :=
    have hk := hk1.alloc (.cells #[.bool true, .bool true, .bool false, .bool false, .bool false, .bool false] 55)
    ⟨HH.out.kept hk (by simp) (by simp), HF.out.kept hk (by simp), heap_alloc_new _ _, ⟨hk.mono fun k _ hm => (by cases hm), .inl rfl⟩⟩
  obtain ⟨e0, e1, _, f0⟩ := s1.cw.cell
  have esd := s1.fb.sd
  rw [HS2.out] at esd
  have en := s1.fb.n
  have S1 := Lib.hid s1
  clear s1
  go_wp2_with fail
  refine (raw_w base c (some ⟨q, 1, none⟩) 12 12 F.id v _ _ S1.out.cw (Nat.le_trans hb S1.out.mv.kept.size) S1.out.fb.idRd HF.out.id.symm (by have i1 := HF.out.id; have i2 := HF.out.key; first | omega | ((repeat rw [List.length_append]); (try rw [encN_length]); (try rw [encA_length]); (try rw [encAs_length]); omega))).mono ?_
  rintro x w2 ⟨rfl, v2, hC2, hM2⟩
  have s2 := S1.out.next hC2 hM2
  obtain ⟨b0, b1, b2, b3, b4, b5⟩ : w2.cell? ⟨w1.heap.size, 0, none⟩ = some (.bool true) ∧ w2.cell? ⟨w1.heap.size, 1, none⟩ = some (.bool true) ∧ w2.cell? ⟨w1.heap.size, 2, none⟩ = some (.bool false) ∧ w2.cell? ⟨w1.heap.size, 3, none⟩ = some (.bool false) ∧ w2.cell? ⟨w1.heap.size, 4, none⟩ = some (.bool false) ∧ w2.cell? ⟨w1.heap.size, 5, none⟩ = some (.bool false) := s2.hb.cells
  clear e0 e1 f0 esd en hC2 hM2
  have a0 := b0; have a1 := b1; have a2 := b2; have a3 := b3; have a4 := b4; have a5 := b5
  clear b0 b1 b2 b3 b4 b5
  obtain ⟨e0, e1, _, f0⟩ := s2.cw.cell
  have esd := s2.fb.sd
  rw [HS2.out] at esd
  have en := s2.fb.n
  have S2 := Lib.hid s2
  clear s2
  go_wp2_with fail
  refine (addr_w base c q 13 F.host F.port v2 _ _ S2.out.cw (Nat.le_trans hb S2.out.mv.kept.size) S2.out.fb.host S2.out.fb.port g1 g2 g3 g4 (by have i1 := HF.out.id; have i2 := HF.out.key; first | omega | ((repeat rw [List.length_append]); (try rw [encN_length]); (try rw [encA_length]); (try rw [encAs_length]); omega))).mono ?_
  rintro x w3 ⟨rfl, v3, hC3, hM3⟩
  have s3 := S2.out.next hC3 hM3
  obtain ⟨b0, b1, b2, b3, b4, b5⟩ : w3.cell? ⟨w1.heap.size, 0, none⟩ = some (.bool true) ∧ w3.cell? ⟨w1.heap.size, 1, none⟩ = some (.bool true) ∧ w3.cell? ⟨w1.heap.size, 2, none⟩ = some (.bool false) ∧ w3.cell? ⟨w1.heap.size, 3, none⟩ = some (.bool false) ∧ w3.cell? ⟨w1.heap.size, 4, none⟩ = some (.bool false) ∧ w3.cell? ⟨w1.heap.size, 5, none⟩ = some (.bool false) := s3.hb.cells
  clear e0 e1 f0 esd en hC3 hM3 a0 a1 a2 a3 a4 a5
  have a0 := b0; have a1 := b1; have a2 := b2; have a3 := b3; have a4 := b4; have a5 := b5
  clear b0 b1 b2 b3 b4 b5
  obtain ⟨e0, e1, _, f0⟩ := s3.cw.cell
  have esd := s3.fb.sd
  rw [HS2.out] at esd
  have en := s3.fb.n
  have S3 := Lib.hid s3
  clear s3
  obtain ⟨L, hLe⟩ : ∃ L, L = ((l ++ F.id) ++ encA F.host F.port) := ⟨_, rfl⟩
  rw [← hLe] at S3
  have HLe := Lib.hid hLe
  obtain ⟨_, _, hvs, _⟩ := S3.out.cw.slice
  clear hvs
  have R2 := Lib.hid (rd_moved HH.out hc S3.out.mv HR2.out HA2.out)
  have hsz : base ≤ (w3).heap.size := Nat.le_trans hb S3.out.mv.kept.size
  have hlen : L.length + ds.length ≤ 140737488355328 := by rw [hLe]; exact (by have i1 := HF.out.id; have i2 := HF.out.key; first | omega | ((repeat rw [List.length_append]); (try rw [encN_length]); (try rw [encA_length]); (try rw [encAs_length]); omega))
  have HL := Lib.hid hlen
  clear hlen hLe
  go_wp2_with fail
  go_region_law (refine step_append_rd _ rfl (.tmp 67) (.tmp 71) 31 rfl base 5 i0 (.int .u8 0) 1 1 Tryd.underlying31 hi hz0 hz1 hz2 rfl (by decide) v3 _ _ rfl S3.out.cw.own A2 ds.length k2 (bvs ds) rfl (by simp) R2.out (bvs_one ds) (by have := HL.out; unfold maxLen; omega) (by have := HL.out; omega) hsz ?_; intro v9 w9 hown9 hg9 hrow9; obtain ⟨hC9, hM9, hc9, hf9⟩ := sw_end S3.out.drew hsz hown9 rfl hg9 hrow9; have HC9 := Lib.hid hC9; have HM9 := Lib.hid hM9; have d0 := hc9.trans e0; have d1 := hf9.trans f0; clear hC9 hM9 hc9 hf9 hg9 hrow9; obtain ⟨A9, k9, rfl⟩ := own_slice hown9)
  all_goals
    go_wp2
    go_end0
    refine ⟨rfl, _, ?_, HM9.out⟩
    have e : l ++ (encH F xs ++ ds) = L ++ ds := by rw [HLe.out]; simp [encH, HK.out, hasOf]
    rw [e]
    exact HC9.out

set_option maxHeartbeats 2000000 in
theorem does_w_3 : DoesW 3 := by
  intro base c q A1 A2 k1 k2 F v l xs ds w hkind hL hF h hb hc hsa hsd hr1 hr2 hA1 hA2 g1 g2 g3 g4 g5 g6 g7 g8 h5
  obtain ⟨i0, hi, hz0, hz1, hz2⟩ := info_parts info_byte
  have kf := hF.kind
  rw [hkind] at kf
  have HH := Lib.hid h
  have HF := Lib.hid hF
  have H5 := Lib.hid g5
  have HA1 := Lib.hid hA1
  have HA2 := Lib.hid hA2
  have HS1 := Lib.hid hsa
  have HS2 := Lib.hid hsd
  have HK := Lib.hid hkind
  have HR1 := Lib.hid hr1
  have HR2 := Lib.hid hr2
  clear h hF g5 hA1 hA2 hsa hsd hkind hr1 hr2
  go_enter Tryd.func24, Tryd.ntmps24
  go_wp2_with fail
  refine (of_3 w hL).mono ?_
  rintro x w1 ⟨rfl, hk1⟩
  rw [show (hasOf 3).val = .agg #[.bool false, .bool false, .bool true, .bool false, .bool false, .bool false] from rfl]
  have s1 : SW w (w1.alloc (.cells #[.bool false, .bool false, .bool true, .bool false, .bool false, .bool false] 55)) base c q w1.heap.size F (hasOf 3) v v l :=
    have hk := hk1.alloc (.cells #[.bool false, .bool false, .bool true, .bool false, .bool false, .bool false] 55)
    ⟨HH.out.kept hk (by simp) (by simp), HF.out.kept hk (by simp), heap_alloc_new _ _, ⟨hk.mono fun k _ hm => (by cases hm), .inl rfl⟩⟩
  obtain ⟨e0, e1, _, f0⟩ := s1.cw.cell
  have esd := s1.fb.sd
  rw [HS2.out] at esd
  have en := s1.fb.n
  have S1 := Lib.hid s1
  clear s1
  go_wp2_with fail
  refine (addrs_w base c q 15 A1 k1 xs v _ _ S1.out.cw (Nat.le_trans hb S1.out.mv.kept.size) (S1.out.fb.sa.trans (by rw [HS1.out])) (rd_moved HH.out hc S1.out.mv HR1.out HA1.out) (cw_apart S1.out.cw S1.out.fb.blk (by decide) (by decide)) (apart_of S1.out.cw hc HA1.out) H5.out g6 (by have i1 := HF.out.id; have i2 := HF.out.key; first | omega | ((repeat rw [List.length_append]); (try rw [encN_length]); (try rw [encA_length]); (try rw [encAs_length]); omega))).mono ?_
  rintro x w2 ⟨rfl, v2, hC2, hM2⟩
  have s2 := S1.out.next hC2 hM2
  obtain ⟨b0, b1, b2, b3, b4, b5⟩ : w2.cell? ⟨w1.heap.size, 0, none⟩ = some (.bool false) ∧ w2.cell? ⟨w1.heap.size, 1, none⟩ = some (.bool false) ∧ w2.cell? ⟨w1.heap.size, 2, none⟩ = some (.bool true) ∧ w2.cell? ⟨w1.heap.size, 3, none⟩ = some (.bool false) ∧ w2.cell? ⟨w1.heap.size, 4, none⟩ = some (.bool false) ∧ w2.cell? ⟨w1.heap.size, 5, none⟩ = some (.bool false) := s2.hb.cells
  clear e0 e1 f0 esd en hC2 hM2
  have a0 := b0; have a1 := b1; have a2 := b2; have a3 := b3; have a4 := b4; have a5 := b5
  clear b0 b1 b2 b3 b4 b5
  obtain ⟨e0, e1, _, f0⟩ := s2.cw.cell
  have esd := s2.fb.sd
  rw [HS2.out] at esd
  have en := s2.fb.n
  have S2 := Lib.hid s2
  clear s2
  obtain ⟨L, hLe⟩ : ∃ L, L = (l ++ (encN xs.length 1 true ++ encAs xs)) := ⟨_, rfl⟩
  rw [← hLe] at S2
  have HLe := Lib.hid hLe
  obtain ⟨_, _, hvs, _⟩ := S2.out.cw.slice
  clear hvs
  have R2 := Lib.hid (rd_moved HH.out hc S2.out.mv HR2.out HA2.out)
  have hsz : base ≤ (w2).heap.size := Nat.le_trans hb S2.out.mv.kept.size
  have hlen : L.length + ds.length ≤ 140737488355328 := by rw [hLe]; exact (by have i1 := HF.out.id; have i2 := HF.out.key; first | omega | ((repeat rw [List.length_append]); (try rw [encN_length]); (try rw [encA_length]); (try rw [encAs_length]); omega))
  have HL := Lib.hid hlen
  clear hlen hLe
  go_wp2_with fail
  go_region_law (refine step_append_rd _ rfl (.tmp 67) (.tmp 71) 31 rfl base 5 i0 (.int .u8 0) 1 1 Tryd.underlying31 hi hz0 hz1 hz2 rfl (by decide) v2 _ _ rfl S2.out.cw.own A2 ds.length k2 (bvs ds) rfl (by simp) R2.out (bvs_one ds) (by have := HL.out; unfold maxLen; omega) (by have := HL.out; omega) hsz ?_; intro v9 w9 hown9 hg9 hrow9; obtain ⟨hC9, hM9, hc9, hf9⟩ := sw_end S2.out.drew hsz hown9 rfl hg9 hrow9; have HC9 := Lib.hid hC9; have HM9 := Lib.hid hM9; have d0 := hc9.trans e0; have d1 := hf9.trans f0; clear hC9 hM9 hc9 hf9 hg9 hrow9; obtain ⟨A9, k9, rfl⟩ := own_slice hown9)
  all_goals
    go_wp2
    go_end0
    refine ⟨rfl, _, ?_, HM9.out⟩
    have e : l ++ (encH F xs ++ ds) = L ++ ds := by rw [HLe.out]; simp [encH, HK.out, hasOf]
    rw [e]
    exact HC9.out

set_option maxHeartbeats 2000000 in
theorem does_w_4 : DoesW 4 := by
  intro base c q A1 A2 k1 k2 F v l xs ds w hkind hL hF h hb hc hsa hsd hr1 hr2 hA1 hA2 g1 g2 g3 g4 g5 g6 g7 g8 h5
  obtain ⟨i0, hi, hz0, hz1, hz2⟩ := info_parts info_byte
  have kf := hF.kind
  rw [hkind] at kf
  have HH := Lib.hid h
  have HF := Lib.hid hF
  have H5 := Lib.hid g5
  have HA1 := Lib.hid hA1
  have HA2 := Lib.hid hA2
  have HS1 := Lib.hid hsa
  have HS2 := Lib.hid hsd
  have HK := Lib.hid hkind
  have HR1 := Lib.hid hr1
  have HR2 := Lib.hid hr2
  clear h hF g5 hA1 hA2 hsa hsd hkind hr1 hr2
  go_enter Tryd.func24, Tryd.ntmps24
  go_wp2_with fail
  refine (of_4 w hL).mono ?_
  rintro x w1 ⟨rfl, hk1⟩
  rw [show (hasOf 4).val = .agg #[.bool false, .bool false, .bool false, .bool false, .bool false, .bool true] from rfl]
  have s1 : SW w (w1.alloc (.cells #[.bool false, .bool false, .bool false, .bool false, .bool false, .bool true] 55)) base c q w1.heap.size F (hasOf 4) v v l :=
    have hk := hk1.alloc (.cells #[.bool false, .bool false, .bool false, .bool false, .bool false, .bool true] 55)
    ⟨HH.out.kept hk (by simp) (by simp), HF.out.kept hk (by simp), heap_alloc_new _ _, ⟨hk.mono fun k _ hm => (by cases hm), .inl rfl⟩⟩
  obtain ⟨e0, e1, _, f0⟩ := s1.cw.cell
  have esd := s1.fb.sd
  rw [HS2.out] at esd
  have en := s1.fb.n
  have S1 := Lib.hid s1
  clear s1
  obtain ⟨L, hLe⟩ : ∃ L, L = l := ⟨_, rfl⟩
  rw [← hLe] at S1
  have HLe := Lib.hid hLe
  obtain ⟨_, _, hvs, _⟩ := S1.out.cw.slice
  clear hvs
  have R2 := Lib.hid (rd_moved HH.out hc S1.out.mv HR2.out HA2.out)
  have hsz : base ≤ ((w1.alloc (.cells #[.bool false, .bool false, .bool false, .bool false, .bool false, .bool true] 55))).heap.size := Nat.le_trans hb S1.out.mv.kept.size
  have hlen : L.length + ds.length ≤ 140737488355328 := by rw [hLe]; exact (by have i1 := HF.out.id; have i2 := HF.out.key; first | omega | ((repeat rw [List.length_append]); (try rw [encN_length]); (try rw [encA_length]); (try rw [encAs_length]); omega))
  have HL := Lib.hid hlen
  clear hlen hLe
  go_wp2_with fail
  go_region_law (refine step_append_rd _ rfl (.tmp 67) (.tmp 71) 31 rfl base 5 i0 (.int .u8 0) 1 1 Tryd.underlying31 hi hz0 hz1 hz2 rfl (by decide) v _ _ rfl S1.out.cw.own A2 ds.length k2 (bvs ds) rfl (by simp) R2.out (bvs_one ds) (by have := HL.out; unfold maxLen; omega) (by have := HL.out; omega) hsz ?_; intro v9 w9 hown9 hg9 hrow9; obtain ⟨hC9, hM9, hc9, hf9⟩ := sw_end S1.out.drew hsz hown9 rfl hg9 hrow9; have HC9 := Lib.hid hC9; have HM9 := Lib.hid hM9; have d0 := hc9.trans e0; have d1 := hf9.trans f0; clear hC9 hM9 hc9 hf9 hg9 hrow9; obtain ⟨A9, k9, rfl⟩ := own_slice hown9)
  all_goals
    go_wp2
    go_end0
    refine ⟨rfl, _, ?_, HM9.out⟩
    have e : l ++ (encH F xs ++ ds) = L ++ ds := by rw [HLe.out]; simp [encH, HK.out, hasOf]
    rw [e]
    exact HC9.out

set_option maxHeartbeats 2000000 in
theorem does_w_5 : DoesW 5 := by
  intro base c q A1 A2 k1 k2 F v l xs ds w hkind hL hF h hb hc hsa hsd hr1 hr2 hA1 hA2 g1 g2 g3 g4 g5 g6 g7 g8 h5
  obtain ⟨i0, hi, hz0, hz1, hz2⟩ := info_parts info_byte
  have kf := hF.kind
  rw [hkind] at kf
  have HH := Lib.hid h
  have HF := Lib.hid hF
  have H5 := Lib.hid g5
  have HA1 := Lib.hid hA1
  have HA2 := Lib.hid hA2
  have HS1 := Lib.hid hsa
  have HS2 := Lib.hid hsd
  have HK := Lib.hid hkind
  have HR1 := Lib.hid hr1
  have HR2 := Lib.hid hr2
  clear h hF g5 hA1 hA2 hsa hsd hkind hr1 hr2
  go_enter Tryd.func24, Tryd.ntmps24
  go_wp2_with fail
  refine (of_5 w hL).mono ?_
  rintro x w1 ⟨rfl, hk1⟩
  rw [show (hasOf 5).val = .agg #[.bool false, .bool false, .bool false, .bool false, .bool false, .bool true] from rfl]
  have s1 : SW w (w1.alloc (.cells #[.bool false, .bool false, .bool false, .bool false, .bool false, .bool true] 55)) base c q w1.heap.size F (hasOf 5) v v l :=
    have hk := hk1.alloc (.cells #[.bool false, .bool false, .bool false, .bool false, .bool false, .bool true] 55)
    ⟨HH.out.kept hk (by simp) (by simp), HF.out.kept hk (by simp), heap_alloc_new _ _, ⟨hk.mono fun k _ hm => (by cases hm), .inl rfl⟩⟩
  obtain ⟨e0, e1, _, f0⟩ := s1.cw.cell
  have esd := s1.fb.sd
  rw [HS2.out] at esd
  have en := s1.fb.n
  have S1 := Lib.hid s1
  clear s1
  obtain ⟨L, hLe⟩ : ∃ L, L = l := ⟨_, rfl⟩
  rw [← hLe] at S1
  have HLe := Lib.hid hLe
  obtain ⟨_, _, hvs, _⟩ := S1.out.cw.slice
  clear hvs
  have R2 := Lib.hid (rd_moved HH.out hc S1.out.mv HR2.out HA2.out)
  have hsz : base ≤ ((w1.alloc (.cells #[.bool false, .bool false, .bool false, .bool false, .bool false, .bool true] 55))).heap.size := Nat.le_trans hb S1.out.mv.kept.size
  have hlen : L.length + ds.length ≤ 140737488355328 := by rw [hLe]; exact (by have i1 := HF.out.id; have i2 := HF.out.key; first | omega | ((repeat rw [List.length_append]); (try rw [encN_length]); (try rw [encA_length]); (try rw [encAs_length]); omega))
  have HL := Lib.hid hlen
  clear hlen hLe
  go_wp2_with fail
  go_region_law (refine step_append_rd _ rfl (.tmp 67) (.tmp 71) 31 rfl base 5 i0 (.int .u8 0) 1 1 Tryd.underlying31 hi hz0 hz1 hz2 rfl (by decide) v _ _ rfl S1.out.cw.own A2 ds.length k2 (bvs ds) rfl (by simp) R2.out (bvs_one ds) (by have := HL.out; unfold maxLen; omega) (by have := HL.out; omega) hsz ?_; intro v9 w9 hown9 hg9 hrow9; obtain ⟨hC9, hM9, hc9, hf9⟩ := sw_end S1.out.drew hsz hown9 rfl hg9 hrow9; have HC9 := Lib.hid hC9; have HM9 := Lib.hid hM9; have d0 := hc9.trans e0; have d1 := hf9.trans f0; clear hC9 hM9 hc9 hf9 hg9 hrow9; obtain ⟨A9, k9, rfl⟩ := own_slice hown9)
  all_goals
    go_wp2
    go_end0
    refine ⟨rfl, _, ?_, HM9.out⟩
    have e : l ++ (encH F xs ++ ds) = L ++ ds := by rw [HLe.out]; simp [encH, HK.out, hasOf]
    rw [e]
    exact HC9.out

set_option maxHeartbeats 2000000 in
theorem does_w_6 : DoesW 6 := by
  intro base c q A1 A2 k1 k2 F v l xs ds w hkind hL hF h hb hc hsa hsd hr1 hr2 hA1 hA2 g1 g2 g3 g4 g5 g6 g7 g8 h5
  obtain ⟨i0, hi, hz0, hz1, hz2⟩ := info_parts info_byte
  have kf := hF.kind
  rw [hkind] at kf
  have HH := Lib.hid h
  have HF := Lib.hid hF
  have H5 := Lib.hid g5
  have HA1 := Lib.hid hA1
  have HA2 := Lib.hid hA2
  have HS1 := Lib.hid hsa
  have HS2 := Lib.hid hsd
  have HK := Lib.hid hkind
  have HR1 := Lib.hid hr1
  have HR2 := Lib.hid hr2
  clear h hF g5 hA1 hA2 hsa hsd hkind hr1 hr2
  go_enter Tryd.func24, Tryd.ntmps24
  go_wp2_with fail
  refine (of_6 w hL).mono ?_
  rintro x w1 ⟨rfl, hk1⟩
  rw [show (hasOf 6).val = .agg #[.bool false, .bool false, .bool false, .bool false, .bool false, .bool true] from rfl]
  have s1 : SW w (w1.alloc (.cells #[.bool false, .bool false, .bool false, .bool false, .bool false, .bool true] 55)) base c q w1.heap.size F (hasOf 6) v v l :=
    have hk := hk1.alloc (.cells #[.bool false, .bool false, .bool false, .bool false, .bool false, .bool true] 55)
    ⟨HH.out.kept hk (by simp) (by simp), HF.out.kept hk (by simp), heap_alloc_new _ _, ⟨hk.mono fun k _ hm => (by cases hm), .inl rfl⟩⟩
  obtain ⟨e0, e1, _, f0⟩ := s1.cw.cell
  have esd := s1.fb.sd
  rw [HS2.out] at esd
  have en := s1.fb.n
  have S1 := Lib.hid s1
  clear s1
  obtain ⟨L, hLe⟩ : ∃ L, L = l := ⟨_, rfl⟩
  rw [← hLe] at S1
  have HLe := Lib.hid hLe
  obtain ⟨_, _, hvs, _⟩ := S1.out.cw.slice
  clear hvs
  have R2 := Lib.hid (rd_moved HH.out hc S1.out.mv HR2.out HA2.out)
  have hsz : base ≤ ((w1.alloc (.cells #[.bool false, .bool false, .bool false, .bool false, .bool false, .bool true] 55))).heap.size := Nat.le_trans hb S1.out.mv.kept.size
  have hlen : L.length + ds.length ≤ 140737488355328 := by rw [hLe]; exact (by have i1 := HF.out.id; have i2 := HF.out.key; first | omega | ((repeat rw [List.length_append]); (try rw [encN_length]); (try rw [encA_length]); (try rw [encAs_length]); omega))
  have HL := Lib.hid hlen
  clear hlen hLe
  go_wp2_with fail
  go_region_law (refine step_append_rd _ rfl (.tmp 67) (.tmp 71) 31 rfl base 5 i0 (.int .u8 0) 1 1 Tryd.underlying31 hi hz0 hz1 hz2 rfl (by decide) v _ _ rfl S1.out.cw.own A2 ds.length k2 (bvs ds) rfl (by simp) R2.out (bvs_one ds) (by have := HL.out; unfold maxLen; omega) (by have := HL.out; omega) hsz ?_; intro v9 w9 hown9 hg9 hrow9; obtain ⟨hC9, hM9, hc9, hf9⟩ := sw_end S1.out.drew hsz hown9 rfl hg9 hrow9; have HC9 := Lib.hid hC9; have HM9 := Lib.hid hM9; have d0 := hc9.trans e0; have d1 := hf9.trans f0; clear hC9 hM9 hc9 hf9 hg9 hrow9; obtain ⟨A9, k9, rfl⟩ := own_slice hown9)
  all_goals
    go_wp2
    go_end0
    refine ⟨rfl, _, ?_, HM9.out⟩
    have e : l ++ (encH F xs ++ ds) = L ++ ds := by rw [HLe.out]; simp [encH, HK.out, hasOf]
    rw [e]
    exact HC9.out

set_option maxHeartbeats 2000000 in
theorem does_w_7 : DoesW 7 := by
  intro base c q A1 A2 k1 k2 F v l xs ds w hkind hL hF h hb hc hsa hsd hr1 hr2 hA1 hA2 g1 g2 g3 g4 g5 g6 g7 g8 h5
  obtain ⟨i0, hi, hz0, hz1, hz2⟩ := info_parts info_byte
  have kf := hF.kind
  rw [hkind] at kf
  have HH := Lib.hid h
  have HF := Lib.hid hF
  have H5 := Lib.hid g5
  have HA1 := Lib.hid hA1
  have HA2 := Lib.hid hA2
  have HS1 := Lib.hid hsa
  have HS2 := Lib.hid hsd
  have HK := Lib.hid hkind
  have HR1 := Lib.hid hr1
  have HR2 := Lib.hid hr2
  clear h hF g5 hA1 hA2 hsa hsd hkind hr1 hr2
  go_enter Tryd.func24, Tryd.ntmps24
  go_wp2_with fail
  refine (of_7 w hL).mono ?_
  rintro x w1 ⟨rfl, hk1⟩
  rw [show (hasOf 7).val = .agg #[.bool false, .bool false, .bool false, .bool true, .bool false, .bool true] from rfl]
  have s1 : SW w (w1.alloc (.cells #[.bool false, .bool false, .bool false, .bool true, .bool false, .bool true] 55)) base c q w1.heap.size F (hasOf 7) v v l :=
    have hk := hk1.alloc (.cells #[.bool false, .bool false, .bool false, .bool true, .bool false, .bool true] 55)
    ⟨HH.out.kept hk (by simp) (by simp), HF.out.kept hk (by simp), heap_alloc_new _ _, ⟨hk.mono fun k _ hm => (by cases hm), .inl rfl⟩⟩
  obtain ⟨e0, e1, _, f0⟩ := s1.cw.cell
  have esd := s1.fb.sd
  rw [HS2.out] at esd
  have en := s1.fb.n
  have S1 := Lib.hid s1
  clear s1
  go_wp2_with fail
  refine (number_w base c q 16 8 F.n false v _ _ S1.out.cw (Nat.le_trans hb S1.out.mv.kept.size) S1.out.fb.n (by omega) (by omega) g7 g8 (by have i1 := HF.out.id; have i2 := HF.out.key; first | omega | ((repeat rw [List.length_append]); (try rw [encN_length]); (try rw [encA_length]); (try rw [encAs_length]); omega))).mono ?_
  rintro x w2 ⟨rfl, v2, hC2, hM2⟩
  rw [show Int.toNat 8 = 8 from rfl] at hC2
  have s2 := S1.out.next hC2 hM2
  obtain ⟨b0, b1, b2, b3, b4, b5⟩ : w2.cell? ⟨w1.heap.size, 0, none⟩ = some (.bool false) ∧ w2.cell? ⟨w1.heap.size, 1, none⟩ = some (.bool false) ∧ w2.cell? ⟨w1.heap.size, 2, none⟩ = some (.bool false) ∧ w2.cell? ⟨w1.heap.size, 3, none⟩ = some (.bool true) ∧ w2.cell? ⟨w1.heap.size, 4, none⟩ = some (.bool false) ∧ w2.cell? ⟨w1.heap.size, 5, none⟩ = some (.bool true) := s2.hb.cells
  clear e0 e1 f0 esd en hC2 hM2
  have a0 := b0; have a1 := b1; have a2 := b2; have a3 := b3; have a4 := b4; have a5 := b5
  clear b0 b1 b2 b3 b4 b5
  obtain ⟨e0, e1, _, f0⟩ := s2.cw.cell
  have esd := s2.fb.sd
  rw [HS2.out] at esd
  have en := s2.fb.n
  have S2 := Lib.hid s2
  clear s2
  obtain ⟨L, hLe⟩ : ∃ L, L = (l ++ encN F.n.toNat 8 false) := ⟨_, rfl⟩
  rw [← hLe] at S2
  have HLe := Lib.hid hLe
  obtain ⟨_, _, hvs, _⟩ := S2.out.cw.slice
  clear hvs
  have R2 := Lib.hid (rd_moved HH.out hc S2.out.mv HR2.out HA2.out)
  have hsz : base ≤ (w2).heap.size := Nat.le_trans hb S2.out.mv.kept.size
  have hlen : L.length + ds.length ≤ 140737488355328 := by rw [hLe]; exact (by have i1 := HF.out.id; have i2 := HF.out.key; first | omega | ((repeat rw [List.length_append]); (try rw [encN_length]); (try rw [encA_length]); (try rw [encAs_length]); omega))
  have HL := Lib.hid hlen
  clear hlen hLe
  go_wp2_with fail
  go_region_law (refine step_append_rd _ rfl (.tmp 67) (.tmp 71) 31 rfl base 5 i0 (.int .u8 0) 1 1 Tryd.underlying31 hi hz0 hz1 hz2 rfl (by decide) v2 _ _ rfl S2.out.cw.own A2 ds.length k2 (bvs ds) rfl (by simp) R2.out (bvs_one ds) (by have := HL.out; unfold maxLen; omega) (by have := HL.out; omega) hsz ?_; intro v9 w9 hown9 hg9 hrow9; obtain ⟨hC9, hM9, hc9, hf9⟩ := sw_end S2.out.drew hsz hown9 rfl hg9 hrow9; have HC9 := Lib.hid hC9; have HM9 := Lib.hid hM9; have d0 := hc9.trans e0; have d1 := hf9.trans f0; clear hC9 hM9 hc9 hf9 hg9 hrow9; obtain ⟨A9, k9, rfl⟩ := own_slice hown9)
  all_goals
    go_wp2
    go_end0
    refine ⟨rfl, _, ?_, HM9.out⟩
    have e : l ++ (encH F xs ++ ds) = L ++ ds := by rw [HLe.out]; simp [encH, HK.out, hasOf]
    rw [e]
    exact HC9.out

set_option maxHeartbeats 2000000 in
theorem does_w_8 : DoesW 8 := by
  intro base c q A1 A2 k1 k2 F v l xs ds w hkind hL hF h hb hc hsa hsd hr1 hr2 hA1 hA2 g1 g2 g3 g4 g5 g6 g7 g8 h5
  obtain ⟨i0, hi, hz0, hz1, hz2⟩ := info_parts info_byte
  have kf := hF.kind
  rw [hkind] at kf
  have HH := Lib.hid h
  have HF := Lib.hid hF
  have H5 := Lib.hid g5
  have HA1 := Lib.hid hA1
  have HA2 := Lib.hid hA2
  have HS1 := Lib.hid hsa
  have HS2 := Lib.hid hsd
  have HK := Lib.hid hkind
  have HR1 := Lib.hid hr1
  have HR2 := Lib.hid hr2
  clear h hF g5 hA1 hA2 hsa hsd hkind hr1 hr2
  go_enter Tryd.func24, Tryd.ntmps24
  go_wp2_with fail
  refine (of_8 w hL).mono ?_
  rintro x w1 ⟨rfl, hk1⟩
  rw [show (hasOf 8).val = .agg #[.bool false, .bool false, .bool false, .bool false, .bool true, .bool false] from rfl]
  have s1 : SW w (w1.alloc (.cells #[.bool false, .bool false, .bool false, .bool false, .bool true, .bool false] 55)) base c q w1.heap.size F (hasOf 8) v v l :=
    have hk := hk1.alloc (.cells #[.bool false, .bool false, .bool false, .bool false, .bool true, .bool false] 55)
    ⟨HH.out.kept hk (by simp) (by simp), HF.out.kept hk (by simp), heap_alloc_new _ _, ⟨hk.mono fun k _ hm => (by cases hm), .inl rfl⟩⟩
  obtain ⟨e0, e1, _, f0⟩ := s1.cw.cell
  have esd := s1.fb.sd
  rw [HS2.out] at esd
  have en := s1.fb.n
  have S1 := Lib.hid s1
  clear s1
  go_wp2_with fail
  refine (raw_w base c (some ⟨q, 17, none⟩) 32 32 F.key v _ _ S1.out.cw (Nat.le_trans hb S1.out.mv.kept.size) S1.out.fb.keyRd HF.out.key.symm (by have i1 := HF.out.id; have i2 := HF.out.key; first | omega | ((repeat rw [List.length_append]); (try rw [encN_length]); (try rw [encA_length]); (try rw [encAs_length]); omega))).mono ?_
  rintro x w2 ⟨rfl, v2, hC2, hM2⟩
  have s2 := S1.out.next hC2 hM2
  obtain ⟨b0, b1, b2, b3, b4, b5⟩ : w2.cell? ⟨w1.heap.size, 0, none⟩ = some (.bool false) ∧ w2.cell? ⟨w1.heap.size, 1, none⟩ = some (.bool false) ∧ w2.cell? ⟨w1.heap.size, 2, none⟩ = some (.bool false) ∧ w2.cell? ⟨w1.heap.size, 3, none⟩ = some (.bool false) ∧ w2.cell? ⟨w1.heap.size, 4, none⟩ = some (.bool true) ∧ w2.cell? ⟨w1.heap.size, 5, none⟩ = some (.bool false) := s2.hb.cells
  clear e0 e1 f0 esd en hC2 hM2
  have a0 := b0; have a1 := b1; have a2 := b2; have a3 := b3; have a4 := b4; have a5 := b5
  clear b0 b1 b2 b3 b4 b5
  obtain ⟨e0, e1, _, f0⟩ := s2.cw.cell
  have esd := s2.fb.sd
  rw [HS2.out] at esd
  have en := s2.fb.n
  have S2 := Lib.hid s2
  clear s2
  obtain ⟨L, hLe⟩ : ∃ L, L = (l ++ F.key) := ⟨_, rfl⟩
  rw [← hLe] at S2
  have HLe := Lib.hid hLe
  obtain ⟨_, _, hvs, _⟩ := S2.out.cw.slice
  clear hvs
  have R2 := Lib.hid (rd_moved HH.out hc S2.out.mv HR2.out HA2.out)
  have hsz : base ≤ (w2).heap.size := Nat.le_trans hb S2.out.mv.kept.size
  have hlen : L.length + ds.length ≤ 140737488355328 := by rw [hLe]; exact (by have i1 := HF.out.id; have i2 := HF.out.key; first | omega | ((repeat rw [List.length_append]); (try rw [encN_length]); (try rw [encA_length]); (try rw [encAs_length]); omega))
  have HL := Lib.hid hlen
  clear hlen hLe
  go_wp2_with fail
  go_region_law (refine step_append_rd _ rfl (.tmp 67) (.tmp 71) 31 rfl base 5 i0 (.int .u8 0) 1 1 Tryd.underlying31 hi hz0 hz1 hz2 rfl (by decide) v2 _ _ rfl S2.out.cw.own A2 ds.length k2 (bvs ds) rfl (by simp) R2.out (bvs_one ds) (by have := HL.out; unfold maxLen; omega) (by have := HL.out; omega) hsz ?_; intro v9 w9 hown9 hg9 hrow9; obtain ⟨hC9, hM9, hc9, hf9⟩ := sw_end S2.out.drew hsz hown9 rfl hg9 hrow9; have HC9 := Lib.hid hC9; have HM9 := Lib.hid hM9; have d0 := hc9.trans e0; have d1 := hf9.trans f0; clear hC9 hM9 hc9 hf9 hg9 hrow9; obtain ⟨A9, k9, rfl⟩ := own_slice hown9)
  all_goals
    go_wp2
    go_end0
    refine ⟨rfl, _, ?_, HM9.out⟩
    have e : l ++ (encH F xs ++ ds) = L ++ ds := by rw [HLe.out]; simp [encH, HK.out, hasOf]
    rw [e]
    exact HC9.out

set_option maxHeartbeats 2000000 in
theorem does_w_9 : DoesW 9 := by
  intro base c q A1 A2 k1 k2 F v l xs ds w hkind hL hF h hb hc hsa hsd hr1 hr2 hA1 hA2 g1 g2 g3 g4 g5 g6 g7 g8 h5
  obtain ⟨i0, hi, hz0, hz1, hz2⟩ := info_parts info_byte
  have kf := hF.kind
  rw [hkind] at kf
  have HH := Lib.hid h
  have HF := Lib.hid hF
  have H5 := Lib.hid g5
  have HA1 := Lib.hid hA1
  have HA2 := Lib.hid hA2
  have HS1 := Lib.hid hsa
  have HS2 := Lib.hid hsd
  have HK := Lib.hid hkind
  have HR1 := Lib.hid hr1
  have HR2 := Lib.hid hr2
  clear h hF g5 hA1 hA2 hsa hsd hkind hr1 hr2
  go_enter Tryd.func24, Tryd.ntmps24
  go_wp2_with fail
  refine (of_9 w hL).mono ?_
  rintro x w1 ⟨rfl, hk1⟩
  rw [show (hasOf 9).val = .agg #[.bool false, .bool true, .bool false, .bool false, .bool false, .bool false] from rfl]
  have s1 : SW w (w1.alloc (.cells #[.bool false, .bool true, .bool false, .bool false, .bool false, .bool false] 55)) base c q w1.heap.size F (hasOf 9) v v l :=
    have hk := hk1.alloc (.cells #[.bool false, .bool true, .bool false, .bool false, .bool false, .bool false] 55)
    ⟨HH.out.kept hk (by simp) (by simp), HF.out.kept hk (by simp), heap_alloc_new _ _, ⟨hk.mono fun k _ hm => (by cases hm), .inl rfl⟩⟩
  obtain ⟨e0, e1, _, f0⟩ := s1.cw.cell
  have esd := s1.fb.sd
  rw [HS2.out] at esd
  have en := s1.fb.n
  have S1 := Lib.hid s1
  clear s1
  go_wp2_with fail
  refine (addr_w base c q 13 F.host F.port v _ _ S1.out.cw (Nat.le_trans hb S1.out.mv.kept.size) S1.out.fb.host S1.out.fb.port g1 g2 g3 g4 (by have i1 := HF.out.id; have i2 := HF.out.key; first | omega | ((repeat rw [List.length_append]); (try rw [encN_length]); (try rw [encA_length]); (try rw [encAs_length]); omega))).mono ?_
  rintro x w2 ⟨rfl, v2, hC2, hM2⟩
  have s2 := S1.out.next hC2 hM2
  obtain ⟨b0, b1, b2, b3, b4, b5⟩ : w2.cell? ⟨w1.heap.size, 0, none⟩ = some (.bool false) ∧ w2.cell? ⟨w1.heap.size, 1, none⟩ = some (.bool true) ∧ w2.cell? ⟨w1.heap.size, 2, none⟩ = some (.bool false) ∧ w2.cell? ⟨w1.heap.size, 3, none⟩ = some (.bool false) ∧ w2.cell? ⟨w1.heap.size, 4, none⟩ = some (.bool false) ∧ w2.cell? ⟨w1.heap.size, 5, none⟩ = some (.bool false) := s2.hb.cells
  clear e0 e1 f0 esd en hC2 hM2
  have a0 := b0; have a1 := b1; have a2 := b2; have a3 := b3; have a4 := b4; have a5 := b5
  clear b0 b1 b2 b3 b4 b5
  obtain ⟨e0, e1, _, f0⟩ := s2.cw.cell
  have esd := s2.fb.sd
  rw [HS2.out] at esd
  have en := s2.fb.n
  have S2 := Lib.hid s2
  clear s2
  obtain ⟨L, hLe⟩ : ∃ L, L = (l ++ encA F.host F.port) := ⟨_, rfl⟩
  rw [← hLe] at S2
  have HLe := Lib.hid hLe
  obtain ⟨_, _, hvs, _⟩ := S2.out.cw.slice
  clear hvs
  have R2 := Lib.hid (rd_moved HH.out hc S2.out.mv HR2.out HA2.out)
  have hsz : base ≤ (w2).heap.size := Nat.le_trans hb S2.out.mv.kept.size
  have hlen : L.length + ds.length ≤ 140737488355328 := by rw [hLe]; exact (by have i1 := HF.out.id; have i2 := HF.out.key; first | omega | ((repeat rw [List.length_append]); (try rw [encN_length]); (try rw [encA_length]); (try rw [encAs_length]); omega))
  have HL := Lib.hid hlen
  clear hlen hLe
  go_wp2_with fail
  go_region_law (refine step_append_rd _ rfl (.tmp 67) (.tmp 71) 31 rfl base 5 i0 (.int .u8 0) 1 1 Tryd.underlying31 hi hz0 hz1 hz2 rfl (by decide) v2 _ _ rfl S2.out.cw.own A2 ds.length k2 (bvs ds) rfl (by simp) R2.out (bvs_one ds) (by have := HL.out; unfold maxLen; omega) (by have := HL.out; omega) hsz ?_; intro v9 w9 hown9 hg9 hrow9; obtain ⟨hC9, hM9, hc9, hf9⟩ := sw_end S2.out.drew hsz hown9 rfl hg9 hrow9; have HC9 := Lib.hid hC9; have HM9 := Lib.hid hM9; have d0 := hc9.trans e0; have d1 := hf9.trans f0; clear hC9 hM9 hc9 hf9 hg9 hrow9; obtain ⟨A9, k9, rfl⟩ := own_slice hown9)
  all_goals
    go_wp2
    go_end0
    refine ⟨rfl, _, ?_, HM9.out⟩
    have e : l ++ (encH F xs ++ ds) = L ++ ds := by rw [HLe.out]; simp [encH, HK.out, hasOf]
    rw [e]
    exact HC9.out

set_option maxHeartbeats 2000000 in
theorem does_w_10 : DoesW 10 := by
  intro base c q A1 A2 k1 k2 F v l xs ds w hkind hL hF h hb hc hsa hsd hr1 hr2 hA1 hA2 g1 g2 g3 g4 g5 g6 g7 g8 h5
  obtain ⟨i0, hi, hz0, hz1, hz2⟩ := info_parts info_byte
  have kf := hF.kind
  rw [hkind] at kf
  have HH := Lib.hid h
  have HF := Lib.hid hF
  have H5 := Lib.hid g5
  have HA1 := Lib.hid hA1
  have HA2 := Lib.hid hA2
  have HS1 := Lib.hid hsa
  have HS2 := Lib.hid hsd
  have HK := Lib.hid hkind
  have HR1 := Lib.hid hr1
  have HR2 := Lib.hid hr2
  clear h hF g5 hA1 hA2 hsa hsd hkind hr1 hr2
  go_enter Tryd.func24, Tryd.ntmps24
  go_wp2_with fail
  refine (of_10 w hL).mono ?_
  rintro x w1 ⟨rfl, hk1⟩
  rw [show (hasOf 10).val = .agg #[.bool false, .bool false, .bool false, .bool false, .bool true, .bool true] from rfl]
  have s1 : SW w (w1.alloc (.cells #[.bool false, .bool false, .bool false, .bool false, .bool true, .bool true] 55)) base c q w1.heap.size F (hasOf 10) v v l :=
    have hk := hk1.alloc (.cells #[.bool false, .bool false, .bool false, .bool false, .bool true, .bool true] 55)
    ⟨HH.out.kept hk (by simp) (by simp), HF.out.kept hk (by simp), heap_alloc_new _ _, ⟨hk.mono fun k _ hm => (by cases hm), .inl rfl⟩⟩
  obtain ⟨e0, e1, _, f0⟩ := s1.cw.cell
  have esd := s1.fb.sd
  rw [HS2.out] at esd
  have en := s1.fb.n
  have S1 := Lib.hid s1
  clear s1
  go_wp2_with fail
  refine (raw_w base c (some ⟨q, 17, none⟩) 32 32 F.key v _ _ S1.out.cw (Nat.le_trans hb S1.out.mv.kept.size) S1.out.fb.keyRd HF.out.key.symm (by have i1 := HF.out.id; have i2 := HF.out.key; first | omega | ((repeat rw [List.length_append]); (try rw [encN_length]); (try rw [encA_length]); (try rw [encAs_length]); omega))).mono ?_
  rintro x w2 ⟨rfl, v2, hC2, hM2⟩
  have s2 := S1.out.next hC2 hM2
  obtain ⟨b0, b1, b2, b3, b4, b5⟩ : w2.cell? ⟨w1.heap.size, 0, none⟩ = some (.bool false) ∧ w2.cell? ⟨w1.heap.size, 1, none⟩ = some (.bool false) ∧ w2.cell? ⟨w1.heap.size, 2, none⟩ = some (.bool false) ∧ w2.cell? ⟨w1.heap.size, 3, none⟩ = some (.bool false) ∧ w2.cell? ⟨w1.heap.size, 4, none⟩ = some (.bool true) ∧ w2.cell? ⟨w1.heap.size, 5, none⟩ = some (.bool true) := s2.hb.cells
  clear e0 e1 f0 esd en hC2 hM2
  have a0 := b0; have a1 := b1; have a2 := b2; have a3 := b3; have a4 := b4; have a5 := b5
  clear b0 b1 b2 b3 b4 b5
  obtain ⟨e0, e1, _, f0⟩ := s2.cw.cell
  have esd := s2.fb.sd
  rw [HS2.out] at esd
  have en := s2.fb.n
  have S2 := Lib.hid s2
  clear s2
  obtain ⟨L, hLe⟩ : ∃ L, L = (l ++ F.key) := ⟨_, rfl⟩
  rw [← hLe] at S2
  have HLe := Lib.hid hLe
  obtain ⟨_, _, hvs, _⟩ := S2.out.cw.slice
  clear hvs
  have R2 := Lib.hid (rd_moved HH.out hc S2.out.mv HR2.out HA2.out)
  have hsz : base ≤ (w2).heap.size := Nat.le_trans hb S2.out.mv.kept.size
  have hlen : L.length + ds.length ≤ 140737488355328 := by rw [hLe]; exact (by have i1 := HF.out.id; have i2 := HF.out.key; first | omega | ((repeat rw [List.length_append]); (try rw [encN_length]); (try rw [encA_length]); (try rw [encAs_length]); omega))
  have HL := Lib.hid hlen
  clear hlen hLe
  go_wp2_with fail
  go_region_law (refine step_append_rd _ rfl (.tmp 67) (.tmp 71) 31 rfl base 5 i0 (.int .u8 0) 1 1 Tryd.underlying31 hi hz0 hz1 hz2 rfl (by decide) v2 _ _ rfl S2.out.cw.own A2 ds.length k2 (bvs ds) rfl (by simp) R2.out (bvs_one ds) (by have := HL.out; unfold maxLen; omega) (by have := HL.out; omega) hsz ?_; intro v9 w9 hown9 hg9 hrow9; obtain ⟨hC9, hM9, hc9, hf9⟩ := sw_end S2.out.drew hsz hown9 rfl hg9 hrow9; have HC9 := Lib.hid hC9; have HM9 := Lib.hid hM9; have d0 := hc9.trans e0; have d1 := hf9.trans f0; clear hC9 hM9 hc9 hf9 hg9 hrow9; obtain ⟨A9, k9, rfl⟩ := own_slice hown9)
  all_goals
    go_wp2
    go_end0
    refine ⟨rfl, _, ?_, HM9.out⟩
    have e : l ++ (encH F xs ++ ds) = L ++ ds := by rw [HLe.out]; simp [encH, HK.out, hasOf]
    rw [e]
    exact HC9.out

/-- .. for every kind that there is. -/
theorem does_w (K : Int) (h : isKind K = true) : DoesW K := by
  have h' : 1 ≤ K ∧ K ≤ 10 := by simpa [isKind] using h
  rcases (show K = 1 ∨ K = 2 ∨ K = 3 ∨ K = 4 ∨ K = 5 ∨ K = 6 ∨ K = 7 ∨ K = 8 ∨ K = 9 ∨ K = 10 by omega) with rfl | rfl | rfl | rfl | rfl | rfl | rfl | rfl | rfl | rfl
  · exact does_w_1
  · exact does_w_2
  · exact does_w_3
  · exact does_w_4
  · exact does_w_5
  · exact does_w_6
  · exact does_w_7
  · exact does_w_8
  · exact does_w_9
  · exact does_w_10
end Go.Proofs.YthnmjpohdlimiaaDoor
