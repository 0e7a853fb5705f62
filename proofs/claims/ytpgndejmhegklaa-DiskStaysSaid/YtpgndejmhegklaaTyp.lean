/- Which block a slice lies in; bytes that a call gives. -/
import Derived.Test.YtpgndejmhegklaaCrc
namespace Go.Proofs.Ytpgndejmhegklaa
set_option linter.unusedVariables false
open Go.RowKit

/-! ### which block a slice lies in -/
def Typ (w : World) (t : TypeId) (A : Option Addr) (n : Nat) : Prop := n = 0 ∨ ∃ b o cur m, A = some ⟨b, o, none⟩ ∧ w.heap[b]? = some (.cells cur t m)
theorem Typ.ext {w w' : World} {t : TypeId} {A : Option Addr} {n : Nat} (h : Typ w t A n) (he : Ext w w') : Typ w' t A n := by
  rcases h with h | ⟨b, o, cur, m, e, hb⟩
  · exact .inl h
  · exact .inr ⟨b, o, cur, m, e, (he.block b (Array.getElem?_eq_some_iff.1 hb).1).trans hb⟩
theorem Own.typ {w : World} {B : Nat} {e : TypeId} {sz n c : Nat} {A : Option Addr} {xs : List Value} (h : Own w B e sz A n c xs) : Typ w e A n := by
  rcases h.2.2.2 with h0 | ⟨g, cur, hA, _, _, hg, _⟩
  · exact .inl (by have := h.2.1; omega)
  · exact .inr ⟨g, 0, cur, _, hA, hg⟩
/-- Blocks of unlike elements are not the same. -/
theorem Typ.grown {w w' : World} {t e : TypeId} {A A1 : Option Addr} {n c n1 B sz : Nat} {xs : List Value} (h : Typ w t A n) (ho : Own w B e sz A1 n1 c xs) (hne : e ≠ t) (hg : w.grownBy w' (rowOf A1 c)) : Typ w' t A n := by
  rcases h with h | ⟨b, o, cur, m, e1, hb⟩
  · exact .inl h
  · refine .inr ⟨b, o, cur, m, e1, (hg.block b (Array.getElem?_eq_some_iff.1 hb).1 ?_).trans hb⟩
    intro h2
    rcases ho.2.2.2 with h0 | ⟨g, cur2, hA, _, _, hgg, _⟩
    · simp [rowOf, h0] at h2
    · by_cases hc : c = 0
      · simp [rowOf, hc] at h2
      · simp [rowOf, hc, hA] at h2
        subst h2
        rw [hb] at hgg
        injection hgg with hgg
        injection hgg with _ h3
        exact hne h3.symm
theorem RS.typ_grown {w w' : World} {t e : TypeId} {A A1 : Option Addr} {n c n1 B sz sz2 : Nat} {xs ys : List Value} (hr : RS w sz2 A n ys) (h : Typ w t A n) (ho : Own w B e sz A1 n1 c xs) (hne : e ≠ t) (hg : w.grownBy w' (rowOf A1 c)) : RS w' sz2 A n ys := by
  refine hr.grown hg ?_
  intro b o hA
  rcases h with h | ⟨b1, o1, cur, m, e1, hb⟩
  · exact .inl h
  · right
    intro h2
    rw [hA] at e1
    simp at e1
    obtain ⟨rfl, rfl⟩ := e1
    rcases ho.2.2.2 with h0 | ⟨g, cur2, hA2, _, _, hgg, _⟩
    · simp [rowOf, h0] at h2
    · by_cases hc : c = 0
      · simp [rowOf, hc] at h2
      · simp [rowOf, hc, hA2] at h2
        subst h2
        rw [hb] at hgg
        injection hgg with hgg
        injection hgg with _ h3
        exact hne h3.symm


/-! ### append to what has no capacity: a slice of its own -/
theorem step_append_new {P : Program} {w : World} {ops : Array Oper} {o : Oper} {a : Act} {K : Act → World → Prop} {Q : Exit → Act → World → Prop} {E : Prop} (hgd : o.guard = Option.none) (s x : Operand) (t : TypeId)
    (ho : o.op = .call { callee := .builtin .append, args := #[s, x], argTypes := #[t, t] })
    (B : Nat) {e : TypeId} {sz bytes : Nat} (hE : ElemFacts P t e sz bytes) {A : Option Addr} (hs : a.eval s = .slice A 0 0)
    {A2 : Option Addr} {m c2 : Nat} {news : List Value} (hx : a.eval x = .slice A2 m c2) (hr : RS w sz A2 m news) (h1 : ∀ u ∈ news, u.oneCell' = true)
    (h63 : m ≤ maxLen) (hbytes : m * bytes ≤ 140737488355328) (hB : B ≤ w.heap.size)
    (h : ∀ A' c' w', Own w' B e sz A' m c' news → Ext w w' → K (a.put o.dst (.slice A' m c')) w') :
    if Region.wanted o (yielded ops a.tmps) = true then Oper.wp P o a w K Q else E := by
  refine step_append_Own hgd s x t ho B hE hs (Own.nil w B e sz A) hx hr h1 (by rw [Nat.zero_add]; exact h63) (by rw [Nat.zero_add]; exact hbytes) hB ?_
  intro A' c' w' h2 h3
  rw [Nat.zero_add] at h2 ⊢
  exact h A' c' w' h2 ((Ext.refl w).grown h3 (fun k hk => by simp [rowOf] at hk))
theorem wpList_append_new {P : Program} {w : World} {ops : Array Oper} {rest : List Oper} {o : Oper} {a : Act} {Q : Exit → Act → World → Prop} (hgd : o.guard = Option.none) (s x : Operand) (t : TypeId)
    (ho : o.op = .call { callee := .builtin .append, args := #[s, x], argTypes := #[t, t] })
    (B : Nat) {e : TypeId} {sz bytes : Nat} (hE : ElemFacts P t e sz bytes) {A : Option Addr} (hs : a.eval s = .slice A 0 0)
    {A2 : Option Addr} {m c2 : Nat} {news : List Value} (hx : a.eval x = .slice A2 m c2) (hr : RS w sz A2 m news) (h1 : ∀ u ∈ news, u.oneCell' = true)
    (h63 : m ≤ maxLen) (hbytes : m * bytes ≤ 140737488355328) (hB : B ≤ w.heap.size)
    (h : ∀ A' c' w', Own w' B e sz A' m c' news → Ext w w' → wpList P ops Q rest (a.put o.dst (.slice A' m c')) w') : wpList P ops Q (o :: rest) a w := by
  refine wpList_append_Own hgd s x t ho B hE hs (Own.nil w B e sz A) hx hr h1 (by rw [Nat.zero_add]; exact h63) (by rw [Nat.zero_add]; exact hbytes) hB ?_
  intro A' c' w' h2 h3
  rw [Nat.zero_add] at h2 ⊢
  exact h A' c' w' h2 ((Ext.refl w).grown h3 (fun k hk => by simp [rowOf] at hk))
/-- A block laid some time ago, read as a slice. -/
theorem box_at {w0 w : World} {b t sz n : Nat} {l : List Value} (hb : w0.heap.size = b) (h : l.length = n * sz) (he : Ext (w0.alloc (.cells l.toArray t)) w) : RS w sz (some ⟨b, 0, Option.none⟩) n l := by
  subst hb
  exact (box_rs w0 t sz l n h).ext he

/-- A slice of bytes such as a call gives. -/
def GB (w : World) (A : Option Addr) (n c : Nat) (bs : List Nat) : Prop := n ≤ c ∧ c ≤ maxLen ∧ Bytes w A n bs ∧ Typ w 5 A n
theorem GB.ext {w w' : World} {A : Option Addr} {n c : Nat} {bs : List Nat} (h : GB w A n c bs) (he : Ext w w') : GB w' A n c bs := ⟨h.1, h.2.1, h.2.2.1.ext he, h.2.2.2.ext he⟩
theorem GB.nil (w : World) : GB w none 0 0 [] := ⟨Nat.le_refl _, by simp [maxLen], .of (RS.nil _ _ _) rfl, .inl rfl⟩
theorem GB.own {w : World} {B n c : Nat} {A : Option Addr} {bs : List Nat} (h : Own w B 5 1 A n c (bvals bs)) : GB w A n c bs :=
  ⟨h.2.1, h.2.2.1, .of h.rs (by have := h.1; simpa [bvals] using this), h.typ⟩
theorem GB.bytes {w : World} {A : Option Addr} {n c : Nat} {bs : List Nat} (h : GB w A n c bs) : Bytes w A n bs := h.2.2.1
theorem GB.le {w : World} {A : Option Addr} {n c : Nat} {bs : List Nat} (h : GB w A n c bs) : n ≤ c := h.1
end Go.Proofs.Ytpgndejmhegklaa
