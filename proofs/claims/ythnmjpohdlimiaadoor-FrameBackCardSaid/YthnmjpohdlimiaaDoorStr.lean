/- Strings of bytes. -/
import Derived.Test.YthnmjpohdlimiaaDoorShown
import Derived.Laws.IdiomStrings
import Derived.Lib.BufferRead
namespace Go.Proofs.YthnmjpohdlimiaaDoor
open Go.RowKit
section
variable {P : Program} {w : World}
theorem run_string_rd (w : World) (src dst e : TypeId) (A : Option Addr) (cap : Nat) (xs : List UInt8) (hr : Rd w A (bvs xs)) (hs : P.underlying src = some (.slice e)) (he : P.underlying e = some (.int .u8)) (hd : P.underlying dst = some .string) :
    (convert src dst (.slice A xs.length cap)).run P w = .ok (.string ⟨xs.toArray⟩) w := by
  rcases A with _ | a
  · have h := hr.none_nil
    have hx : xs = [] := by cases xs with | nil => rfl | cons x l => simp [bvs] at h
    subst hx
    exact Lib.run_convert_nil_bytes w src dst e cap hs he hd
  · exact run_convert_bytes_back w src dst e a cap xs hs he hd (fun j hj => hr.some_add j _ (by rw [bvs_get _ _ hj, List.getElem?_eq_getElem hj]; rfl))
theorem wpList_string {ops : Array Oper} {rest : List Oper} {o : Oper} {a : Act} {Q : Exit → Act → World → Prop} (src dst e : TypeId) (x : Operand) (ho : o.op = .convert src dst x) (hw : Region.wanted o (yielded ops a.tmps) = true)
    (A : Option Addr) (cap : Nat) (xs : List UInt8) (n : Nat) (hn : n = xs.length) (hx : a.eval x = .slice A n cap) (hr : Rd w A (bvs xs)) (hs : P.underlying src = some (.slice e)) (he : P.underlying e = some (.int .u8)) (hd : P.underlying dst = some .string)
    (h : wpList P ops Q rest (a.put o.dst (.string ⟨xs.toArray⟩)) w) : wpList P ops Q (o :: rest) a w :=
  wpList_step fun K hK => by
    rw [if_pos hw]
    subst hn
    have hrun := run_string_rd (P := P) w src dst e A cap xs hr hs he hd
    unfold Oper.wp execOp
    simp only [ho, hx, Sem.run_bind, hrun, Result.andThen_ok, Sem.run_pure]
    exact hK _ _ h
end
end Go.Proofs.YthnmjpohdlimiaaDoor
