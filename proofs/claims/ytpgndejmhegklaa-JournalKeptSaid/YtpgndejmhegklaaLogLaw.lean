/- Plain law: frames, one behind the other. -/
import Derived.Test.YtpgndejmhegklaaRScan
namespace Go.Proofs.Ytpgndejmhegklaa
set_option linter.unusedVariables false
open Go.RowKit

/-- What log lays: frames, one behind the other. -/
def logL (rs : List (List Nat)) : List Nat := (rs.map frameL).flatten
theorem logL_snoc (rs : List (List Nat)) (k : Nat) (hk : k < rs.length) : logL (rs.take (k + 1)) = logL (rs.take k) ++ frameL (rs.getD k []) := by
  unfold logL
  rw [List.take_succ_eq_append_getElem hk, List.map_append, List.flatten_append, List.map_cons, List.map_nil, show rs.getD k [] = rs[k] from by simp [hk]]
  simp only [List.flatten_cons, List.flatten_nil, List.append_nil]
theorem frameL_len (bs : List Nat) : (frameL bs).length = bs.length + 8 := by simp [frameL, bytes4]
theorem bytes4_lt {n : Nat} (hn : n < 4294967296) : ∀ x ∈ bytes4 n, x < 256 := by
  intro x hx
  simp [bytes4] at hx
  omega
theorem frameL_lt {bs : List Nat} (hb : ∀ x ∈ bs, x < 256) (hl : bs.length < 4294967296) : ∀ x ∈ frameL bs, x < 256 := by
  intro x hx
  unfold frameL at hx
  rw [List.mem_append, List.mem_append] at hx
  rcases hx with (h | h) | h
  · exact bytes4_lt hl x h
  · exact bytes4_lt (crcN_lt bs) x h
  · exact hb x h
theorem logL_lt {rs : List (List Nat)} (hb : ∀ r ∈ rs, ∀ x ∈ r, x < 256) (hl : ∀ r ∈ rs, r.length ≤ 300) : ∀ x ∈ logL rs, x < 256 := by
  intro x hx
  unfold logL at hx
  rw [List.mem_flatten] at hx
  obtain ⟨l, h1, h2⟩ := hx
  obtain ⟨r, h3, rfl⟩ := List.mem_map.1 h1
  exact frameL_lt (hb r h3) (by have := hl r h3; omega) x h2
theorem logL_len {rs : List (List Nat)} (hl : ∀ r ∈ rs, r.length ≤ 300) : (logL rs).length ≤ 308 * rs.length := by
  induction rs with
  | nil => simp [logL]
  | cons r rs ih =>
    have h1 := ih (fun x hx => hl x (by simp [hx]))
    have h2 := hl r (by simp)
    have e : logL (r :: rs) = frameL r ++ logL rs := by simp [logL]
    rw [e, List.length_append, frameL_len, List.length_cons]
    omega

/-- What rows says of two. -/
def sameR (a b : List (List Nat)) : Bool := decide (a = b)
theorem sameR_self (a : List (List Nat)) : sameR a a = true := by simp [sameR]

end Go.Proofs.Ytpgndejmhegklaa
