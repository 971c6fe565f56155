/- Stores into a frame's block, field by field. -/
import Derived.Test.YthnmjpohdlimiaaDoorCurR
namespace Go.Proofs.YthnmjpohdlimiaaDoor
open Go.RowKit

section
variable {F : Fr}
theorem Fr.set_tail (hi : F.id.length = 12) (j : Nat) (v : Value) : F.list.set (13 + j) v = .int .i64 F.kind :: (bvs F.id ++ ((.int .u32 F.host :: .int .i64 F.port :: F.sa :: .int .u64 F.n :: (bvs F.key ++ [F.sd])).set j v)) := by
  unfold Fr.list
  rw [show 13 + j = 12 + j + 1 by omega, List.set_cons_succ, List.set_append, if_neg (by simp; omega), bvs_length, hi, show 12 + j - 12 = j by omega]
theorem Fr.set_host (hi : F.id.length = 12) (x : Int) : F.cells.setIfInBounds 13 (.int .u32 x) = { F with host := x }.cells := by
  simp only [Fr.cells, List.setIfInBounds_toArray]; rw [show 13 = 13 + 0 from rfl, Fr.set_tail hi]; rfl
theorem Fr.set_port (hi : F.id.length = 12) (x : Int) : F.cells.setIfInBounds 14 (.int .i64 x) = { F with port := x }.cells := by
  simp only [Fr.cells, List.setIfInBounds_toArray]; rw [show 14 = 13 + 1 from rfl, Fr.set_tail hi]; rfl
theorem Fr.set_sa (hi : F.id.length = 12) (v : Value) : F.cells.setIfInBounds 15 v = { F with sa := v }.cells := by
  simp only [Fr.cells, List.setIfInBounds_toArray]; rw [show 15 = 13 + 2 from rfl, Fr.set_tail hi]; rfl
theorem Fr.set_n (hi : F.id.length = 12) (x : Int) : F.cells.setIfInBounds 16 (.int .u64 x) = { F with n := x }.cells := by
  simp only [Fr.cells, List.setIfInBounds_toArray]; rw [show 16 = 13 + 3 from rfl, Fr.set_tail hi]; rfl
theorem Fr.set_sd (hi : F.id.length = 12) (hk : F.key.length = 32) (v : Value) : F.cells.setIfInBounds 49 v = { F with sd := v }.cells := by
  simp only [Fr.cells, List.setIfInBounds_toArray]
  rw [show 49 = 13 + (32 + 1 + 1 + 1 + 1) from rfl, Fr.set_tail hi]
  simp only [List.set_cons_succ, Fr.list]
  rw [List.set_append, if_neg (by simp [hk]), bvs_length, hk]
  rfl
theorem Fr.set_id (hi : F.id.length = 12) (l : List UInt8) (_hl : l.length = 12) : F.cells.toList.take 1 ++ (bvs l ++ F.cells.toList.drop (1 + 12)) = { F with id := l }.list := by
  simp only [Fr.cells, Fr.list]
  rw [show 1 + 12 = 12 + 1 from rfl, List.drop_succ_cons, List.drop_append, List.drop_eq_nil_of_le (by simp [hi])]
  simp [hi]
theorem Fr.set_key (hi : F.id.length = 12) (hk : F.key.length = 32) (l : List UInt8) : F.cells.toList.take 17 ++ (bvs l ++ F.cells.toList.drop (17 + 32)) = { F with key := l }.list := by
  simp only [Fr.cells, Fr.list]
  rw [show 17 + 32 = 48 + 1 from rfl, List.drop_succ_cons, List.drop_append, show 17 = 16 + 1 from rfl, List.take_succ_cons, List.take_append]
  simp [hi, hk, List.take_of_length_le, List.drop_eq_nil_of_le]
end
end Go.Proofs.YthnmjpohdlimiaaDoor
