/- Slices of rows of bytes. -/
import Derived.Test.YtpgndejmhegklaaTyp
import Derived.Test.YtpgndejmhegklaaCuts
import Derived.Test.YtpgndejmhegklaaStr2
namespace Go.Proofs.Ytpgndejmhegklaa
set_option linter.unusedVariables false
open Go.RowKit

/-! ### rows -/
/-- These slice values read as these rows of bytes; each lies in a block of bytes. -/
def RowsV (w : World) (vs : List Value) (rs : List (List Nat)) : Prop :=
  vs.length = rs.length ∧ ∀ j (h : j < rs.length), ∃ A n c, vs[j]? = some (.slice A n c) ∧ n ≤ c ∧ c ≤ maxLen ∧ Bytes w A n rs[j] ∧ Typ w 5 A n
theorem RowsV.nil (w : World) : RowsV w [] [] := ⟨rfl, fun j h => absurd h (by simp)⟩
theorem RowsV.ext {w w' : World} {vs : List Value} {rs : List (List Nat)} (h : RowsV w vs rs) (he : Ext w w') : RowsV w' vs rs :=
  ⟨h.1, fun j hj => by obtain ⟨A, n, c, h1, h2, h5, h3, h4⟩ := h.2 j hj; exact ⟨A, n, c, h1, h2, h5, h3.ext he, h4.ext he⟩⟩
theorem RowsV.snoc {w : World} {vs : List Value} {rs : List (List Nat)} (h : RowsV w vs rs) {A : Option Addr} {n c : Nat} {bs : List Nat} (hb : Bytes w A n bs) (ht : Typ w 5 A n) (hc : n ≤ c) (hm : c ≤ maxLen) : RowsV w (vs ++ [.slice A n c]) (rs ++ [bs]) := by
  refine ⟨by simp [h.1], fun j hj => ?_⟩
  simp at hj
  by_cases h0 : j < rs.length
  · obtain ⟨A1, n1, c1, h1, h2, h5, h3, h4⟩ := h.2 j h0
    exact ⟨A1, n1, c1, by rw [List.getElem?_append_left (by have := h.1; omega)]; exact h1, h2, h5, by rw [List.getElem_append_left h0]; exact h3, h4⟩
  · have hj' : j = rs.length := by omega
    subst hj'
    exact ⟨A, n, c, by rw [← h.1]; simp, hc, hm, by simpa using hb, ht⟩
theorem RowsV.grown {w w' : World} {vs : List Value} {rs : List (List Nat)} (h : RowsV w vs rs) {B : Nat} {e : TypeId} {sz n c : Nat} {A : Option Addr} {xs : List Value} (ho : Own w B e sz A n c xs) (hne : e ≠ 5) (hg : w.grownBy w' (rowOf A c)) : RowsV w' vs rs :=
  ⟨h.1, fun j hj => by
    obtain ⟨A1, n1, c1, h1, h2, h5, h3, h4⟩ := h.2 j hj
    exact ⟨A1, n1, c1, h1, h2, h5, .of (h3.rs.typ_grown h4 ho hne hg) h3.len, h4.grown ho hne hg⟩⟩
/-- A slice of rows. -/
def Rws (w : World) (A : Option Addr) (n : Nat) (rs : List (List Nat)) : Prop :=
  rs.length = n ∧ (n = 0 ∨ ∃ b o, A = some ⟨b, o, none⟩ ∧ b < w.heap.size ∧ ∀ j (h : j < rs.length), ∃ A1 n1 c1, w.cell? ⟨b, o + j, none⟩ = some (.slice A1 n1 c1) ∧ n1 ≤ c1 ∧ c1 ≤ maxLen ∧ Bytes w A1 n1 rs[j])
theorem Rws.len {w : World} {A : Option Addr} {n : Nat} {rs : List (List Nat)} (h : Rws w A n rs) : rs.length = n := h.1
theorem Rws.nil (w : World) (A : Option Addr) : Rws w A 0 [] := ⟨rfl, .inl rfl⟩
theorem Rws.ext {w w' : World} {A : Option Addr} {n : Nat} {rs : List (List Nat)} (h : Rws w A n rs) (he : Ext w w') : Rws w' A n rs := by
  refine ⟨h.1, ?_⟩
  rcases h.2 with h0 | ⟨b, o, e, hl, hc⟩
  · exact .inl h0
  · exact .inr ⟨b, o, e, he.lt hl, fun j hj => by obtain ⟨A1, n1, c1, h1, h2, h4, h3⟩ := hc j hj; exact ⟨A1, n1, c1, he.cell h1, h2, h4, h3.ext he⟩⟩
theorem Rws.at_ {w : World} {A : Option Addr} {n : Nat} {rs : List (List Nat)} (h : Rws w A n rs) (j : Nat) (hj : j < n) :
    ∃ b o A1 n1 c1, A = some ⟨b, o, none⟩ ∧ b < w.heap.size ∧ w.cell? ⟨b, o + j, none⟩ = some (.slice A1 n1 c1) ∧ n1 ≤ c1 ∧ c1 ≤ maxLen ∧ Bytes w A1 n1 (rs.getD j []) := by
  obtain ⟨b, o, e, hl, hc⟩ := h.2.resolve_left (by omega)
  have hj' : j < rs.length := by rw [h.1]; exact hj
  obtain ⟨A1, n1, c1, h1, h2, h4, h3⟩ := hc j hj'
  exact ⟨b, o, A1, n1, c1, e, hl, h1, h2, h4, by simpa [hj'] using h3⟩
theorem rows_of {w : World} {B : Nat} {n c : Nat} {A : Option Addr} {vs : List Value} {rs : List (List Nat)} {e : TypeId} (ho : Own w B e 1 A n c vs) (hv : RowsV w vs rs) : Rws w A n rs := by
  have hl : vs.length = n := by simpa using ho.1
  refine ⟨by rw [← hv.1, hl], ?_⟩
  rcases ho.rs.2 with h0 | ⟨b, o, e, hb, hc⟩
  · exact .inl h0
  · refine .inr ⟨b, o, e, hb, fun j hj => ?_⟩
    obtain ⟨A1, n1, c1, h1, h2, h5, h3, _⟩ := hv.2 j hj
    exact ⟨A1, n1, c1, hc j _ h1, h2, h5, h3⟩
theorem Rws.front {w : World} {A : Option Addr} {n hi : Nat} {rs : List (List Nat)} (h : Rws w A n rs) (h2 : hi ≤ n) : Rws w A hi (rs.take hi) := by
  refine ⟨by rw [List.length_take, h.1]; omega, ?_⟩
  by_cases h0 : hi = 0
  · exact .inl h0
  · obtain ⟨b, o, e, hl, hc⟩ := h.2.resolve_left (by omega)
    refine .inr ⟨b, o, e, hl, fun j hj => ?_⟩
    have hj' : j < rs.length := by rw [List.length_take] at hj; omega
    obtain ⟨A1, n1, c1, h1, h3, h4, h5⟩ := hc j hj'
    exact ⟨A1, n1, c1, h1, h3, h4, by simpa using h5⟩
/-- A slice value that reads as a row of bytes. -/
def RowV (w : World) (v : Value) (bs : List Nat) : Prop := ∃ A n c, v = .slice A n c ∧ n ≤ c ∧ c ≤ maxLen ∧ Bytes w A n bs
theorem RowV.mk {w : World} {A : Option Addr} {n c : Nat} {bs : List Nat} (h1 : n ≤ c) (h2 : c ≤ maxLen) (h3 : Bytes w A n bs) : RowV w (.slice A n c) bs := ⟨A, n, c, rfl, h1, h2, h3⟩
theorem RowV.ext {w w' : World} {v : Value} {bs : List Nat} (h : RowV w v bs) (he : Ext w w') : RowV w' v bs := by
  obtain ⟨A, n, c, h0, h1, h2, h3⟩ := h
  exact ⟨A, n, c, h0, h1, h2, h3.ext he⟩
theorem GB.row {w : World} {A : Option Addr} {n c : Nat} {bs : List Nat} (h : GB w A n c bs) : RowV w (.slice A n c) bs := .mk h.1 h.2.1 h.2.2.1
theorem Own.row_ {w : World} {B n c : Nat} {A : Option Addr} {bs : List Nat} (h : Own w B 5 1 A n c (bvals bs)) : RowV w (.slice A n c) bs := (GB.own h).row
def RowsL (w : World) : List Value → List (List Nat) → Prop
  | [], [] => True
  | v :: vs, r :: rs => RowV w v r ∧ RowsL w vs rs
  | _, _ => False
theorem RowsL.at_ {w : World} : ∀ {vs : List Value} {rs : List (List Nat)}, RowsL w vs rs → vs.length = rs.length ∧ ∀ j (h : j < rs.length), ∃ v, vs[j]? = some v ∧ RowV w v rs[j]
  | [], [], _ => ⟨rfl, fun j h => absurd h (by simp)⟩
  | v :: vs, r :: rs, h => by
    obtain ⟨h1, h2⟩ := RowsL.at_ h.2
    refine ⟨by simp [h1], fun j hj => ?_⟩
    match j, hj with
    | 0, _ => exact ⟨v, rfl, h.1⟩
    | j + 1, hj => exact h2 j (by simpa using hj)
/-- A block just laid, of slices of bytes. -/
theorem rws_box (w : World) (t : TypeId) (vs : List Value) (rs : List (List Nat)) (h : RowsL w vs rs) (n : Nat) (hn : rs.length = n) : Rws (w.alloc (.cells vs.toArray t)) (some ⟨w.heap.size, 0, none⟩) n rs := by
  obtain ⟨h1, h2⟩ := h.at_
  refine ⟨hn, .inr ⟨w.heap.size, 0, rfl, by simp, fun j hj => ?_⟩⟩
  obtain ⟨v, hv, A, m, c, rfl, h3, h4, h5⟩ := h2 j hj
  exact ⟨A, m, c, by rw [Nat.zero_add]; exact box_cell w _ t j _ (by simpa using hv), h3, h4, h5.ext ((Ext.refl w).alloc _)⟩
theorem row_elem : ElemFacts Try.prog 23 22 1 24 := elem_mk Try.underlying23 (by kernel_rfl) (by omega)

end Go.Proofs.Ytpgndejmhegklaa
