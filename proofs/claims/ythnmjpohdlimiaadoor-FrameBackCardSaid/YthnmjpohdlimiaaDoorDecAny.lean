/- frame.Decode, whatever the bytes. -/
import Derived.Test.YthnmjpohdlimiaaDoorStr
import Derived.Test.YthnmjpohdlimiaaDoorPlain
namespace Go.Proofs.YthnmjpohdlimiaaDoor
open Go.RowKit

/-- Whether bytes are a right frame. -/
def okL : List UInt8 → Bool
  | [] => false
  | b0 :: l => decOk b0 l
/-- What Decode answers: none, or a right frame that is told by just these bytes. -/
def DecodedL (w : World) (L : List UInt8) (x : Ending) (w' : World) : Prop :=
  Kept [] w w' ∧ (okL L = false → x = .returned (.tuple #[.agg (Fr.new 0).cells, .int .i64 2])) ∧
    (okL L = true → ∃ F A1 A2 k1 k2 xs ds, x = .returned (.tuple #[.agg F.cells, .int .i64 0]) ∧ Good w' F A1 A2 k1 k2 xs ds ∧ HostsOk xs ∧ rightF F xs ds = true ∧ encF F xs ds = L ∧ xs.length < 256 ∧ ds.length ≤ L.length)
theorem decode_any (A : Option Addr) (c n : Nat) (L : List UInt8) (w : World) (hn : n = L.length) (hL : Laid w) (hr : Rd w A (bvs L)) (h5 : L.length + 40000 ≤ 140737488355328) (hc : L.length ≤ c) (hct : c ≤ maxLen) :
    Calls Tryd.prog 13 #[.slice A n c] w fun x w' => DecodedL w L x w' := by
  subst hn
  rcases L with _ | ⟨b0, l⟩
  · refine (decode_none A c w).mono ?_
    rintro x w' ⟨rfl, hk⟩
    exact ⟨hk, fun _ => rfl, fun h => by cases h⟩
  · have h5' : l.length + 40000 ≤ 140737488355328 := by rw [List.length_cons] at h5; omega
    have hc' : l.length + 1 ≤ c := by rw [List.length_cons] at hc; exact hc
    rw [List.length_cons]
    refine (decode_some A c b0 l w hL hr h5' hc' hct).mono ?_
    rintro x w' ⟨hk, hno, hyes⟩
    refine ⟨hk, hno, fun h => ?_⟩
    obtain ⟨A1, A2, k1, k2, rfl, hg, _, _⟩ := hyes h
    have hok : (decB b0 l).fails = false ∧ rightF (decFr b0 l undef undef) (decB b0 l).xs (decB b0 l).rest = true := by
      have h' : decOk b0 l = true := h
      unfold decOk at h'
      simpa using h'
    have hrest := rdDoes_rest (hasOf b0.toNat) l
    refine ⟨_, A1, A2, k1, k2, _, _, rfl, hg, hostsOk_of (dec_xs _ _), (rightF_decFr b0 l _ _).trans hok.2, dec_enc b0 l _ _ hok.1, ?_, ?_⟩
    · have := (rightF_gives hok.2).2.2.1; omega
    · simp only [List.length_cons]; unfold decB; omega
end Go.Proofs.YthnmjpohdlimiaaDoor
