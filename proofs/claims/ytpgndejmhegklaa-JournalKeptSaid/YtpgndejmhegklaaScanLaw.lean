/- Plain laws of scanning frames. -/
import Derived.Test.YtpgndejmhegklaaOne
namespace Go.Proofs.Ytpgndejmhegklaa
set_option linter.unusedVariables false

/-- One step of a scan at the bytes that are left: a record, if a whole one stands there. -/
def stepOk (r : List Nat) : Bool := decide (8 ≤ r.length) && decide (num4 r ≤ 4194304) && decide (8 + num4 r ≤ r.length) && decide (crcN ((r.drop 8).take (num4 r)) = num4 (r.drop 4))
/-- What a scan tells of bytes, and how many it takes. -/
def scanL (r : List Nat) : List (List Nat) × Nat :=
  if h : stepOk r = true then
    ((r.drop 8).take (num4 r) :: (scanL (r.drop (8 + num4 r))).1, 8 + num4 r + (scanL (r.drop (8 + num4 r))).2)
  else ([], 0)
termination_by r.length
decreasing_by all_goals (simp [stepOk] at h; simp; omega)
theorem scanL_stop {r : List Nat} (h : stepOk r = false) : scanL r = ([], 0) := by rw [scanL, dif_neg (by simp [h])]
theorem scanL_step {r : List Nat} (h : stepOk r = true) : scanL r = ((r.drop 8).take (num4 r) :: (scanL (r.drop (8 + num4 r))).1, 8 + num4 r + (scanL (r.drop (8 + num4 r))).2) := by rw [scanL, dif_pos h]
def frameL (bs : List Nat) : List Nat := bytes4 bs.length ++ bytes4 (crcN bs) ++ bs
theorem num4_bytes4 (n : Nat) (r : List Nat) (hn : n < 4294967296) : num4 (bytes4 n ++ r) = n := by
  simp [num4, bytes4]
  omega
theorem step_frame (bs r : List Nat) (h : bs.length ≤ 4194304) : stepOk (frameL bs ++ r) = true ∧ num4 (frameL bs ++ r) = bs.length ∧ ((frameL bs ++ r).drop 8).take bs.length = bs ∧ (frameL bs ++ r).drop (8 + bs.length) = r := by
  have e1 : num4 (frameL bs ++ r) = bs.length := by unfold frameL; rw [List.append_assoc, List.append_assoc]; exact num4_bytes4 _ _ (by omega)
  have e2 : (frameL bs ++ r).drop 8 = bs ++ r := by simp [frameL, bytes4]
  have e3 : (frameL bs ++ r).drop 4 = bytes4 (crcN bs) ++ (bs ++ r) := by simp [frameL, bytes4]
  have e4 : (frameL bs ++ r).length = 8 + bs.length + r.length := by simp [frameL, bytes4]; omega
  have e5 : num4 ((frameL bs ++ r).drop 4) = crcN bs := by rw [e3]; exact num4_bytes4 _ _ (crcN_lt bs)
  refine ⟨?_, e1, ?_, ?_⟩
  · unfold stepOk
    rw [e1, e2, e4, e5]
    simp
    omega
  · rw [e2]; simp
  · rw [← List.drop_drop, e2]; simp
/-- Of frames with what is none behind them just these are told. -/
theorem scan_log (l : List (List Nat)) (r : List Nat) (h : ∀ bs ∈ l, bs.length ≤ 4194304) : scanL ((l.map frameL).flatten ++ r) = (l ++ (scanL r).1, ((l.map frameL).flatten).length + (scanL r).2) := by
  induction l with
  | nil => simp
  | cons bs l ih =>
    have hs := step_frame bs ((l.map frameL).flatten ++ r) (h bs (by simp))
    have e : (List.map frameL (bs :: l)).flatten ++ r = frameL bs ++ ((l.map frameL).flatten ++ r) := by simp
    rw [e, scanL_step hs.1, hs.2.1, hs.2.2.1, hs.2.2.2, ih (fun b hb => h b (by simp [hb]))]
    simp [frameL, bytes4]
    omega
end Go.Proofs.Ytpgndejmhegklaa
