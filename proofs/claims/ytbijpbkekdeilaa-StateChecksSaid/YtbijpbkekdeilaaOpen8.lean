/- An argument that is a slice of accounts: what reads as data reads as a list of accounts. -/
import Derived.Test.YtbijpbkekdeilaaStKnown
import Derived.ProofKit
import Derived.Deep.Slices
namespace Go.Proofs.Ytbijpbkekdeilaa
set_option linter.unusedVariables false
open Go.RowKit Go.ChangeShapes Go.WideShapes Go.Deep

section
variable {H : Type} {enc : TypeId × Value → H} {w : World} {base : Nat} {spare : Nat → Bool} {held : Bool}
theorem cells_int : Try.prog.cellsOf 3 = 1 := by kernel_rfl
theorem cells_acc : Try.prog.cellsOf 29 = 4 := by kernel_rfl
theorem acc_of_trod {n : Nat} {cs : List Value} {y : DataW H × List MemPlace} (h : DataW.trod enc Try.prog w base spare held n 29 cs = some y) :
    ∃ a : Acc, cs = a.cells ∧ (Lit.int .i64 a.id).wf = true ∧ (Lit.int .i64 a.bal).wf = true ∧ (Lit.int .i64 a.non).wf = true ∧ (Lit.int .i64 a.dat).wf = true := by
  obtain ⟨xs, n', _, hy, hlen, hxl, hf⟩ := DataW.trod_struct Try.underlying29 h
  rw [cells_acc] at hlen
  match cs, hlen, xs, hxl with
  | [c0, c1, c2, c3], _, [x0, x1, x2, x3], _ =>
    have h0 : DataW.trod enc Try.prog w base spare held n' 3 (([c0, c1, c2, c3].drop 0).take (Try.prog.cellsOf 3)) = some x0 := hf 0 _ rfl
    rw [cells_int] at h0
    have h1 : DataW.trod enc Try.prog w base spare held n' 3 (([c0, c1, c2, c3].drop 1).take (Try.prog.cellsOf 3)) = some x1 := hf 1 _ rfl
    rw [cells_int] at h1
    have h2 : DataW.trod enc Try.prog w base spare held n' 3 (([c0, c1, c2, c3].drop 2).take (Try.prog.cellsOf 3)) = some x2 := hf 2 _ rfl
    rw [cells_int] at h2
    have h3 : DataW.trod enc Try.prog w base spare held n' 3 (([c0, c1, c2, c3].drop 3).take (Try.prog.cellsOf 3)) = some x3 := hf 3 _ rfl
    rw [cells_int] at h3
    obtain ⟨i, e0, _, w0⟩ := DataW.trod_int Try.underlying3 h0
    obtain ⟨b, e1, _, w1⟩ := DataW.trod_int Try.underlying3 h1
    obtain ⟨m, e2, _, w2⟩ := DataW.trod_int Try.underlying3 h2
    obtain ⟨d, e3, _, w3⟩ := DataW.trod_int Try.underlying3 h3
    simp at e0 e1 e2 e3
    subst e0 e1 e2 e3
    exact ⟨⟨i, b, m, d⟩, rfl, w0, w1, w2, w3⟩

theorem accs_open {t : TypeId} (ht : Try.prog.underlying t = some (.slice 29)) {n : Nat} {v : Value} {y : DataW H × List MemPlace} (h : DataW.trod enc Try.prog w base spare held n t [v] = some y) :
    ∃ (A : Option Addr) (k c : Nat) (l : List Acc), v = .slice A k c ∧ k ≤ c ∧ c ≤ maxLen ∧ St w A k l ∧ ∀ a ∈ l, (Lit.int .i64 a.id).wf = true := by
  rcases open_slice ht h with ⟨hc, _⟩ | ⟨a, len, cap, m, n', D, Pl, hc, _, hl, hm, hmm, _, hi⟩
  · simp at hc
    exact ⟨none, 0, 0, [], hc, Nat.le_refl _, by simp [maxLen], St.nil w none, by simp⟩
  · simp at hc
    subst hc
    have hmle : len ≤ m := by rw [hmm]; split <;> omega
    have hex : ∀ i, ∃ x : Acc, i < len → (w.cells? base (a.add (i * 4)) 4 = some x.cells ∧ (Lit.int .i64 x.id).wf = true) := fun i => by
      by_cases h : i < len
      · obtain ⟨cs', h1, h2⟩ := hi i (by omega)
        rw [cells_acc] at h1
        obtain ⟨x, rfl, w0, _⟩ := acc_of_trod h2
        exact ⟨x, fun _ => ⟨h1, w0⟩⟩
      · exact ⟨zeroAcc 0, fun h' => absurd h' h⟩
    obtain ⟨f, hf⟩ := Classical.axiomOfChoice hex
    refine ⟨some a, len, cap, (List.range len).map f, rfl, hl, hm, ⟨by simp, ?_⟩, fun x hx => ?_⟩
    · refine ⟨by rw [accs_length]; simp, ?_⟩
      by_cases h0 : len = 0
      · exact .inl h0
      · have hp : 0 < len := by omega
        obtain ⟨_, _, hc0⟩ := World.cells?_some (hf 0 hp).1
        have hc00 := hc0 0 (by omega)
        rw [Nat.zero_mul] at hc00
        obtain ⟨b, off, spot⟩ := a
        have hsp : spot = none := by
          have : w.cell? ⟨b, off, spot⟩ = some (.int .i64 (f 0).id) := by simpa [Addr.add, Acc.cells] using hc00
          simpa using World.cell?_spot this
        subst hsp
        rw [add_lit, add_lit] at hc00
        refine .inr ⟨b, off, rfl, World.block_lt_of_cell? w _ (u := .int .i64 (f 0).id) (by simpa [Acc.cells] using hc00), fun j u hu => ?_⟩
        have hjl : j < len * 4 := by
          have := (List.getElem?_eq_some_iff.1 hu).1
          rw [accs_length] at this; simpa using this
        obtain ⟨q, r, hr4, hj⟩ : ∃ q r, r < 4 ∧ j = 4 * q + r := ⟨j / 4, j % 4, by omega, by omega⟩
        subst hj
        have hji : q < len := by omega
        obtain ⟨_, _, hc⟩ := World.cells?_some (hf q hji).1
        have hcr := hc r hr4
        rw [add_lit, add_lit] at hcr
        rw [show off + (4 * q + r) = off + q * 4 + r by omega, hcr, ← hu]
        obtain ⟨g0, g1, g2, g3⟩ := accs_get ((List.range len).map f) q (by simpa using hji)
        simp only [List.getElem_map, List.getElem_range] at g0 g1 g2 g3
        have hr : r = 0 ∨ r = 1 ∨ r = 2 ∨ r = 3 := by omega
        rcases hr with rfl | rfl | rfl | rfl
        · rw [Nat.add_zero, g0]; rfl
        · rw [g1]; rfl
        · rw [g2]; rfl
        · rw [g3]; rfl
    · obtain ⟨i, hi2, rfl⟩ := List.mem_map.1 hx
      exact (hf i (by simpa using hi2)).2
end
end Go.Proofs.Ytbijpbkekdeilaa
