/- The document's frame: is it right? All kinds. -/
import Derived.Test.YthnmjpohdlimiaaDoorRefRightA
import Derived.Test.YthnmjpohdlimiaaDoorRefRightB
import Derived.Test.YthnmjpohdlimiaaDoorRefRightC
namespace Go.Proofs.YthnmjpohdlimiaaDoor
open Go.RowKit

theorem refright_no (F : Fr) (I A1 Kk A2 : Option Addr) (ci k1 ck k2 : Nat) (xs : List (Int × Int)) (ds : List UInt8) (w : World) (hk : isKind F.kind = false) :
    Calls Tryd.prog 10 #[.agg #[.int .i64 F.kind, .slice I 12 ci, .int .u32 F.host, .int .i64 F.port, .slice A1 xs.length k1, .int .u64 F.n, .slice Kk 32 ck, .slice A2 ds.length k2]] w
      fun x w' => x = .returned (.bool (rightF F xs ds)) ∧ Kept [] w w' := by
  have h' : F.kind < 1 ∨ 10 < F.kind := by
    have : ¬ (1 ≤ F.kind ∧ F.kind ≤ 10) := by simpa [isKind] using hk
    omega
  have HR := Lib.hid (rightF_kind (F := F) (xs := xs) (ds := ds) hk)
  clear hk
  rcases h' with h | h
  · go_enter Tryd.func10, Tryd.ntmps10
    go_wp2
    go_ret
    exact ⟨ret_false HR.out, (Kept.refl [] w).alloc _⟩
  · have h1 : 1 ≤ F.kind := by omega
    go_enter Tryd.func10, Tryd.ntmps10
    go_wp2
    go_ret
    exact ⟨ret_false HR.out, (Kept.refl [] w).alloc _⟩
theorem refright_any (F : Fr) (I A1 Kk A2 : Option Addr) (ci k1 ck k2 : Nat) (xs : List (Int × Int)) (ds : List UInt8) (w : World) (hg : RefG w F I A1 Kk A2 xs ds) (hp : -9223372036854775808 ≤ F.port ∧ F.port ≤ 9223372036854775807) (hin : AddrsIn xs) (hx : xs.length ≤ 140737488355328) (hd : ds.length + 30000 ≤ 140737488355328) :
    Calls Tryd.prog 10 #[.agg #[.int .i64 F.kind, .slice I 12 ci, .int .u32 F.host, .int .i64 F.port, .slice A1 xs.length k1, .int .u64 F.n, .slice Kk 32 ck, .slice A2 ds.length k2]] w
      fun x w' => x = .returned (.bool (rightF F xs ds)) ∧ Kept [] w w' := by
  by_cases hk : isKind F.kind = true
  · have h : 1 ≤ F.kind ∧ F.kind ≤ 10 := by simpa [isKind] using hk
    have go : ∀ K : Int, RefRightOf K → F.kind = K → Calls Tryd.prog 10 #[.agg #[.int .i64 F.kind, .slice I 12 ci, .int .u32 F.host, .int .i64 F.port, .slice A1 xs.length k1, .int .u64 F.n, .slice Kk 32 ck, .slice A2 ds.length k2]] w
        fun x w' => x = .returned (.bool (rightF F xs ds)) ∧ Kept [] w w' := fun K hK e => by
      rw [e]
      exact hK F I A1 Kk A2 ci k1 ck k2 xs ds w e hg hp hin hx hd
    rcases (show F.kind = 1 ∨ F.kind = 2 ∨ F.kind = 3 ∨ F.kind = 4 ∨ F.kind = 5 ∨ F.kind = 6 ∨ F.kind = 7 ∨ F.kind = 8 ∨ F.kind = 9 ∨ F.kind = 10 by omega) with e | e | e | e | e | e | e | e | e | e
    · exact go _ refright_1 e
    · exact go _ refright_2 e
    · exact go _ refright_3 e
    · exact go _ refright_4 e
    · exact go _ refright_5 e
    · exact go _ refright_6 e
    · exact go _ refright_7 e
    · exact go _ refright_8 e
    · exact go _ refright_9 e
    · exact go _ refright_10 e
  · exact refright_no F I A1 Kk A2 ci k1 ck k2 xs ds w (by simpa using hk)
end Go.Proofs.YthnmjpohdlimiaaDoor
