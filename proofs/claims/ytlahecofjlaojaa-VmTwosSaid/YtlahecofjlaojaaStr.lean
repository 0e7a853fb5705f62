/- string(b) of bytes. -/
import Derived.Test.YtlahecofjlaojaaBytes
import Derived.Laws.BytesString
namespace Go.Proofs.Ytlahecofjlaojaa
set_option linter.unusedVariables false
open Go.RowKit

def strOf (bs : List Nat) : ByteArray := (bs.map Int.ofNat).foldl (fun r n => r.push (UInt8.ofNat n.toNat)) ByteArray.empty
theorem run_string (A : Option Addr) (n c : Nat) (bs : List Nat) (w : World) (hz : Bytes w A n bs) :
    (convert 22 9 (.slice A n c)).run Try.prog w = .ok (.string (strOf bs)) w := by
  have hl := hz.len
  have hu : ∀ x, (convert 22 9 (.slice A n c)).run Try.prog x = (Conv.bytesToString (.slice A n c)).run Try.prog x := by
    intro x
    cases A <;> simp [convert, run_underlying Try.underlying22, run_underlying Try.underlying9, run_underlying Try.underlying5]
  rw [hu]
  cases A with
  | none =>
    have hn0 : n = 0 := by
      rcases Nat.eq_zero_or_pos n with h | h
      · exact h
      · obtain ⟨b, o, e, _⟩ := hz.at_ 0 h
        cases e
    subst hn0
    obtain rfl : bs = [] := List.eq_nil_of_length_eq_zero hl
    rfl
  | some ad =>
    refine run_bytesToString w ad n c (bs.map Int.ofNat) ?_
    have hr := run_loadCells_list (P := Try.prog) w ad (bvals bs) (by
      intro j v hv
      have hj : j < n := by
        have := (List.getElem?_eq_some_iff.1 hv).1
        simpa [bvals, hl] using this
      obtain ⟨b, o, e, _, hc⟩ := hz.at_ j hj
      cases e
      rw [add_lit, hc]
      simp only [bvals, List.getElem?_map] at hv
      have hjl : j < bs.length := by omega
      simpa [hjl] using hv)
    rw [bvals_eq]
    have hbl : (bvals bs).length = n := by simp [bvals, hl]
    rw [hbl] at hr
    exact hr
end Go.Proofs.Ytlahecofjlaojaa
