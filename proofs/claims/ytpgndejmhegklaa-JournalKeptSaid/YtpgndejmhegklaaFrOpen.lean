/- Arguments of bytes, and of rows of bytes. -/
import Derived.Test.YtpgndejmhegklaaRows3
import Derived.ProofKit
import Derived.Deep.Matrix
import Derived.SizedLaws
namespace Go.Proofs.Ytpgndejmhegklaa
set_option linter.unusedVariables false
open Go.RowKit Go.ChangeShapes Go.WideShapes Go.Deep

theorem int_of_wf {a : Int} (h : (Lit.int .i64 a).wf = true) : -9223372036854775808 ≤ a ∧ a ≤ 9223372036854775807 := by
  simp [Lit.wf, IntKind.min, IntKind.max, IntKind.signed, IntKind.bits] at h
  omega
theorem byte_of_wf {a : Int} (h : (Lit.int .u8 a).wf = true) : ∃ k : Nat, a = (k : Int) ∧ k < 256 := by
  have : 0 ≤ a ∧ a ≤ 255 := by
    simp [Lit.wf, IntKind.min, IntKind.max, IntKind.signed, IntKind.bits] at h
    omega
  exact ⟨a.toNat, by omega, by omega⟩
theorem nats_of_wf {zs : List Int} (h : ∀ x ∈ zs, (Lit.int .u8 x).wf = true) : zs = (zs.map Int.toNat).map Int.ofNat ∧ ∀ x ∈ zs.map Int.toNat, x < 256 := by
  refine ⟨?_, ?_⟩
  · rw [List.map_map]
    conv => lhs; rw [← List.map_id zs]
    refine List.map_congr_left fun x hx => ?_
    obtain ⟨k, rfl, _⟩ := byte_of_wf (h x hx)
    rfl
  · intro x hx
    obtain ⟨y, hy, rfl⟩ := List.mem_map.1 hx
    obtain ⟨k, rfl, hk⟩ := byte_of_wf (h y hy)
    exact hk
theorem bytes_of_nums {w : World} {A : Option Addr} {n : Nat} {zs : List Int} (hz : Nums .u8 w A n zs) (hw : ∀ x ∈ zs, (Lit.int .u8 x).wf = true) : ∃ bs, Bytes w A n bs ∧ ∀ x ∈ bs, x < 256 := by
  obtain ⟨h1, h2⟩ := nats_of_wf hw
  refine ⟨zs.map Int.toNat, ?_, h2⟩
  unfold Bytes
  rw [← h1]
  exact hz

section
variable {H : Type} {enc : TypeId × Value → H} {w : World} {base : Nat} {held : Bool}
/-- A slice that was read weighs by its capacity. -/
theorem slice_cap {P : Program} {t e : TypeId} {fuel : Nat} {A : Option Addr} {n c : Nat} {y : DataW H × List MemPlace} (ht : P.underlying t = some (.slice e)) (h : DataW.trod enc P w base (fun _ => true) held fuel t [.slice A n c] = some y) :
    c = 0 ∨ ∃ el sp, y.1 = .slice el sp ∧ el.length + sp.length = c := by
  rcases open_slice ht h with ⟨hc, _⟩ | ⟨a, len, cap, m, n', D, Pl, hc, _, hl, hm, hmm, hy, _⟩
  · simp at hc
    exact .inl hc.2.2
  · simp at hc
    obtain ⟨rfl, rfl, rfl⟩ := hc
    right
    refine ⟨_, _, by rw [hy], ?_⟩
    simp only [if_true] at hmm
    simp
    omega
theorem rows_open {n : Nat} {v : Value} {y : DataW H × List MemPlace} (h : DataW.trod enc Try.prog w base (fun _ => true) held n 23 [v] = some y) :
    ∃ (A : Option Addr) (k c : Nat) (rs : List (List Nat)), v = .slice A k c ∧ k ≤ c ∧ c ≤ maxLen ∧ Rws w A k rs ∧ ∀ r ∈ rs, ∀ x ∈ r, x < 256 := by
  rcases open_int_rows Try.underlying23 Try.underlying22 Try.underlying5 (by kernel_rfl) (by kernel_rfl) h with ⟨hc, _⟩ | ⟨a, len, cap, A, L, C, Z, hc, _, hl, hm, _, hr⟩
  · simp at hc
    exact ⟨none, 0, 0, [], hc, Nat.le_refl _, by simp [maxLen], Rws.nil w none, by simp⟩
  · simp at hc
    subst hc
    refine ⟨some a, len, cap, (List.range len).map fun r => ((Z r).take (L r)).map Int.toNat, rfl, hl, hm, ⟨by simp, ?_⟩, ?_⟩
    · by_cases h0 : len = 0
      · exact .inl h0
      · right
        obtain ⟨b, off, spot⟩ := a
        have hc0 := (hr 0 (by omega)).1
        have hspot : spot = none := by simpa [Addr.add] using World.cell?_spot hc0
        subst hspot
        refine ⟨b, off, rfl, World.block_lt_of_cell? w _ hc0, fun j hj => ?_⟩
        have hj' : j < len := by simpa using hj
        obtain ⟨h1, h2, h3, h4, h5, h6, h7⟩ := hr j (by omega)
        rw [add_lit] at h1
        refine ⟨A j, L j, C j, h1, h2, h3, ?_⟩
        simp only [List.getElem_map, List.getElem_range]
        have hw : ∀ x ∈ (Z j).take (L j), (Lit.int .u8 x).wf = true := fun x hx => h5 x (List.mem_of_mem_take hx)
        obtain ⟨e1, e2⟩ := nats_of_wf hw
        unfold Bytes
        rw [← e1]
        have hrow := nums_of_row (k := .u8) (w := w) (a := A j) (len := L j) (cap := C j) (zs := Z j) ?_
        · exact hrow.2.2.1
        · cases hA : A j with
          | none =>
            have := h6 hA
            left
            refine ⟨rfl, by omega, this, List.eq_nil_of_length_eq_zero (by omega)⟩
          | some a' =>
            right
            obtain ⟨_, h8⟩ := h7 a' hA
            exact ⟨a', rfl, h2, h3, h4, fun i hi => h8 i (by omega), h5⟩
    · intro r hrr x hx
      obtain ⟨j, hj, rfl⟩ := List.mem_map.1 hrr
      have hj' : j < len := by simpa using hj
      obtain ⟨h1, h2, h3, h4, h5, h6, h7⟩ := hr j (by omega)
      exact (nats_of_wf (fun x hx => h5 x (List.mem_of_mem_take hx))).2 x hx
end
end Go.Proofs.Ytpgndejmhegklaa
