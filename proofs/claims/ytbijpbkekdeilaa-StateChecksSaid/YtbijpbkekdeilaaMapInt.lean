/- A map from numbers to numbers that the call itself made, said as a function. -/
import Derived.Test.YtbijpbkekdeilaaRows
import Derived.Test.YtbijpbkekdeilaaMem
import Derived.Maps.OwnOps
import Derived.Maps.Views
namespace Go.Proofs.Ytbijpbkekdeilaa
set_option linter.unusedVariables false
open Go.RowKit Go.Maps

theorem ikey : Keyed Try.prog 3 := int_keyed Try.underlying3
theorem izero (w : World) : (zeroValue 3).run Try.prog w = .ok (.int .i64 0) w := by kernel_rfl

/-- Block b is a map of at most n entries, in which x stands at f x (nought where nothing stands). -/
def Cnt (w : World) (b n : Nat) (f : Int → Int) : Prop :=
  ∃ D : DataW Unit, IsMap D ∧ w.ownsMap Try.prog 3 (plainElem Try.prog 3) b n D ∧ ∀ x, (Lit.int .i64 x).wf = true → D.atKey (.int .i64 x) (.lit (.int .i64 0)) = .lit (.int .i64 (f x))
theorem Cnt.made (w : World) : Cnt (w.alloc (.map #[] 0)) w.heap.size 0 (fun _ => 0) :=
  ⟨.map [], ⟨[], rfl⟩, World.ownsMap_made _ _ _ _, fun _ _ => rfl⟩
theorem Cnt.ext {w w' : World} {b n : Nat} {f : Int → Int} (h : Cnt w b n f) (he : Ext w w') : Cnt w' b n f := by
  obtain ⟨D, h1, ⟨es, clock, hb, r⟩, h3⟩ := h
  exact ⟨D, h1, ⟨es, clock, (he.block b (Array.getElem?_eq_some_iff.1 hb).1).trans hb, r⟩, h3⟩
theorem Cnt.lt {w : World} {b n : Nat} {f : Int → Int} (h : Cnt w b n f) : b < w.heap.size := by obtain ⟨D, _, h, _⟩ := h; exact h.lt
theorem Cnt.look {w : World} {b n : Nat} {f : Int → Int} (h : Cnt w b n f) (x : Int) (hx : (Lit.int .i64 x).wf = true) :
    (Instr.lookup 64 (.map (some b)) (.int .i64 x) false).run Try.prog w = .ok (.int .i64 (f x)) w := by
  obtain ⟨D, h1, h2, h3⟩ := h
  obtain ⟨c, hrun, hat, _⟩ := h2.lookup_int ikey Try.underlying64 Try.underlying3 (izero w) (keyOf_int_mk Try.underlying3 hx)
  rw [h3 x hx] at hat
  injection hat with hat
  injection hat with _ hat
  rw [hrun, ← hat]
theorem Cnt.looks {w : World} {b n : Nat} {f : Int → Int} (h : Cnt w b n f) (x : Int) (hx : (Lit.int .i64 x).wf = true) (k : Nat) :
    (Instr.lookup 64 (.map (some b)) (.int .i64 x) false).run Try.prog (w.drewN k) = .ok (.int .i64 (f x)) (w.drewN k) := Cnt.look (h.ext ((Ext.refl w).drewN k)) x hx

section
variable {w : World} {ops : Array Oper} {rest : List Oper} {o : Oper} {a : Act} {Q : Exit → Act → World → Prop} {b n : Nat} {f : Int → Int}
theorem wpList_cnt_store (hg : o.guard = none) (m x v : Operand) (hop : o.op = Op.mapUpdate 64 m x v) (hm : a.eval m = .map (some b)) (h : Cnt w b n f) (hn : n < maxLen)
    (key val : Int) (hx : a.eval x = .int .i64 key) (hv : a.eval v = .int .i64 val) (hk : (Lit.int .i64 key).wf = true) (hw : (Lit.int .i64 val).wf = true)
    (hK : ∀ w', Cnt w' b (n + 1) (fun y => if y = key then val else f y) → w.grownBy w' (some b) → wpList Try.prog ops Q rest (a.put o.dst undef) w') : wpList Try.prog ops Q (o :: rest) a w := by
  obtain ⟨D, h1, h2, h3⟩ := h
  refine wpList_mapUpdate_own w hg m x v 64 hop 3 3 ikey Try.underlying64 _ b n D hm h2 hn _ _ (.int .i64 key) hx hv (keyOf_int_mk Try.underlying3 hk) (.lit (.int .i64 val)) [] (plainElem_int Try.underlying3 hw) ?_
  intro w' g1 g2
  refine hK w' ⟨_, ?_, g1, fun y hy => ?_⟩ g2
  · obtain ⟨es, rfl⟩ := h1; exact ⟨_, rfl⟩
  · show _ = DataW.lit (.int .i64 (if y = key then val else f y))
    by_cases hyk : y = key
    · subst hyk
      rw [if_pos rfl, atKey_put_same h1 (by trivial)]
    · rw [if_neg hyk, atKey_put_other (by intro e; injection e with _ e; exact hyk e)]
      exact h3 y hy
end
end Go.Proofs.Ytbijpbkekdeilaa
