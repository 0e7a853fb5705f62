/- A region that draws its order, walked by hand: operations that are taken first, operations that come up alone; the condition on the world may be made to say more on the way. -/
import Derived.Test.YtpgndejmhegklaaMem2
namespace Go.Proofs.Ytpgndejmhegklaa
set_option linter.unusedVariables false
open Go.RowKit

section
variable {P : Program} {l : List Oper} {Q : Exit → Act → World → Prop} {md : Region.Mode} {S S1 S2 : World → Prop}
theorem wpAnyH_imp {ops : Array Oper} (h : ∀ w, S1 w → S2 w) : ∀ (fuel : Nat) (listed : Array Bool) (a : Act) (w : World), wpAnyH P md ops Q S1 fuel listed a w → wpAnyH P md ops Q S2 fuel listed a w
  | 0, _, _, _, H => H
  | fuel + 1, _, _, _, H => ⟨H.1, fun i hi => wpOp_mono (fun a' w' k => ⟨h _ k.1, wpAnyH_imp h fuel _ a' w' k.2⟩) (H.2 i hi)⟩
/-- From here on the condition says one thing more. -/
theorem held_more {ops : Array Oper} (F : World → Prop) {fuel : Nat} {listed : Array Bool} {a : Act} {w : World} (hS : S w) (hF : F w)
    (h : S w ∧ F w → wpAnyH P md ops Q (fun w' => S w' ∧ F w') fuel listed a w) : wpAnyH P md ops Q S fuel listed a w :=
  wpAnyH_imp (fun _ h => h.1) _ _ _ _ (h ⟨hS, hF⟩)
theorem held_take (i : Nat) {oi : Oper} {v : Value} {fuel : Nat} {listed : Array Bool} {a : Act} {w : World} (hr : (Region.ready md l.toArray listed).contains i = true) (hi : l[i]? = some oi)
    (hs : Region.noSelect l.toArray = true) (hf : Region.free md l.toArray listed i = true)
    (hQ : ∀ c a w, Q (.panic c) (a.put oi.dst v) w → Q (.panic c) a w) (hy : YieldsIf P l.toArray S oi v a) (hS : S w)
    (h : wpAnyH P md l.toArray Q S fuel (listed.setIfInBounds i true) (a.put oi.dst v) w) : wpAnyH P md l.toArray Q S (fuel + 1) listed a w :=
  wpAnyH_take (by rw [List.getElem?_toArray]; exact hi) hs hf hr hQ hy hS h
/-- One operation comes up alone. -/
theorem held_one (i : Nat) {o : Oper} {fuel : Nat} {listed : Array Bool} {a : Act} {w : World} (hr : Region.ready md l.toArray listed = [i]) (ho : l[i]? = some o)
    (h : ∀ K' : Act → World → Prop, Shut (∀ a w, S w → (S w → wpAnyH P md l.toArray Q S fuel (listed.setIfInBounds i true) a w) → K' a w) → if Region.wanted o (yielded l.toArray a.tmps) = true then Oper.wp P o a w K' Q else K' (a.put o.dst undef) w) :
    wpAnyH P md l.toArray Q S (fuel + 1) listed a w :=
  wpAnyH_ready hr (by simp) (AllReadyH.cons (by rw [List.getElem?_toArray]; exact ho) h AllReadyH.nil)
end
end Go.Proofs.Ytpgndejmhegklaa
