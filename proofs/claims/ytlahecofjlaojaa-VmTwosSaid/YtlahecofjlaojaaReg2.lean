/- A region that draws its order, walked by hand, whose last operations (the late ones, which wait for all that is taken first) may break the condition on the world. -/
import Derived.Test.YtlahecofjlaojaaMem2
namespace Go.Proofs.Ytlahecofjlaojaa
set_option linter.unusedVariables false
open Go.RowKit

section
variable {P : Program} {ops : Array Oper} {Q : Exit → Act → World → Prop} {md : Region.Mode} {S : World → Prop} {late : List Nat}
def lateFree (late : List Nat) (listed : Array Bool) : Prop := ∀ k ∈ late, listed.getD k true = false
/-- Whatever order is picked from here on; the condition holds behind every operation up to the first late one. -/
def wpAnyG (P : Program) (md : Region.Mode) (ops : Array Oper) (Q : Exit → Act → World → Prop) (S : World → Prop) (late : List Nat) : Nat → Array Bool → Act → World → Prop
  | 0, listed, a, w => Region.ready md ops listed = [] ∧ Q .normal a w
  | fuel + 1, listed, a, w =>
    (Region.ready md ops listed = [] → Q .normal a w) ∧
    ∀ i ∈ Region.ready md ops listed, wpOp P ops Q i (fun a' w' => (lateFree late (listed.setIfInBounds i true) → S w') ∧ wpAnyG P md ops Q S late fuel (listed.setIfInBounds i true) a' w') a w
theorem wpAny_of_G : ∀ (fuel : Nat) (listed : Array Bool) (a : Act) (w : World), wpAnyG P md ops Q S late fuel listed a w → wpAny P md ops Q fuel listed a w
  | 0, _, _, _, h => h
  | fuel + 1, _, _, _, h => ⟨h.1, fun i hi => wpOp_mono (fun a' w' h' => wpAny_of_G fuel _ a' w' h'.2) (h.2 i hi)⟩
theorem lateFree_set {listed : Array Bool} {j : Nat} (h : lateFree late listed) (hj : j ∉ late) : lateFree late (listed.setIfInBounds j true) := by
  intro k hk
  have hne : j ≠ k := fun e => hj (e ▸ hk)
  rw [getD_set_ne true hne]
  exact h k hk
theorem wpAnyG_first {i : Nat} {oi : Oper} {v : Value} (hi : ops[i]? = some oi) (hsel : ∀ (j : Nat) (o : Oper) cs b, ops[j]? = some o → o.op ≠ .select cs b)
    (hQ : ∀ c a w, Q (.panic c) (a.put oi.dst v) w → Q (.panic c) a w) (hil : i ∉ late)
    (hlate : ∀ k ∈ late, ∀ ok, ops[k]? = some ok → ∃ e ∈ ok.after, Region.binds md e = true ∧ e.on = i) :
    ∀ (fuel : Nat) (listed : Array Bool) (a : Act) (w : World),
      (∀ j oj, ops[j]? = some oj → j ≠ i → listed.getD j true = false → (∀ e ∈ oj.after, Region.binds md e = true → e.on ≠ i) → oi.apart ops oj = true) →
      i ∈ Region.ready md ops listed → YieldsIf P ops S oi v a → S w → lateFree late listed →
      wpAnyG P md ops Q S late fuel (listed.setIfInBounds i true) (a.put oi.dst v) w → wpAnyG P md ops Q S late (fuel + 1) listed a w := by
  intro fuel
  induction fuel with
  | zero =>
    intro listed a w _ hr hy hS hL H
    refine ⟨fun h => (by rw [h] at hr; cases hr), fun j hj => ?_⟩
    by_cases hji : j = i
    · subst hji; exact hy.wpOp hi hS ⟨fun _ => hS, H⟩
    · have := ready_mono hj hji
      rw [H.1] at this
      cases this
  | succ fuel ih =>
    intro listed a w hfree hr hy hS hL H
    refine ⟨fun h => (by rw [h] at hr; cases hr), fun j hj => ?_⟩
    by_cases hji : j = i
    · subst hji; exact hy.wpOp hi hS ⟨fun _ => hS, H⟩
    · have h1 := H.2 j (ready_mono hj hji)
      obtain ⟨hjun, oj, hoj, hall⟩ := mem_ready.1 hj
      have hnot : ∀ e ∈ oj.after, Region.binds md e = true → e.on ≠ i := fun e he hb heq => by
        have h1 := hall e he hb
        have h0 := (mem_ready.1 hr).1
        rw [heq] at h1
        rcases Nat.lt_or_ge i listed.size with h' | h'
        · simp [h'] at h0 h1; rw [h0] at h1; cases h1
        · simp [Array.getElem?_eq_none h'] at h1
      have hjl : j ∉ late := fun hk => by
        obtain ⟨e, he, hb, heq⟩ := hlate j hk oj hoj
        exact hnot e he hb heq
      have hLj := lateFree_set hL hjl
      have hLij := lateFree_set (lateFree_set hL hil) hjl
      have h2 := wpOp_putIf hoj (hfree j oj hoj hji hjun hnot) (fun cs b => hsel i oi cs b hi) (fun cs b => hsel j oj cs b hoj) hQ hy h1
      have hfree' : ∀ k ok, ops[k]? = some ok → k ≠ i → (listed.setIfInBounds j true).getD k true = false →
          (∀ e ∈ ok.after, Region.binds md e = true → e.on ≠ i) → oi.apart ops ok = true := fun k ok hk hki hun hno => by
        refine hfree k ok hk hki ?_ hno
        by_cases hjk : j = k
        · subst hjk; exact hjun
        · rw [getD_set_ne true hjk] at hun; exact hun
      refine wpOp_mono (fun a' w' h3 => ⟨fun _ => h3.2.1 hLij, ih (listed.setIfInBounds j true) a' w' hfree' (ready_mono hr (Ne.symm hji)) h3.1 (h3.2.1 hLij) hLj ?_⟩) h2
      rw [Array.setIfInBounds_comm _ _ hji]
      exact h3.2.2
/-- Do all late ones wait for number i? -/
def waits (md : Region.Mode) (ops : Array Oper) (late : List Nat) (i : Nat) : Bool := late.all fun k => match ops[k]? with | some ok => ok.after.any fun e => Region.binds md e && e.on == i | Option.none => true
theorem waits_spec {i : Nat} (h : waits md ops late i = true) : ∀ k ∈ late, ∀ ok, ops[k]? = some ok → ∃ e ∈ ok.after, Region.binds md e = true ∧ e.on = i := by
  intro k hk ok hok
  have := List.all_eq_true.1 h k hk
  rw [hok] at this
  obtain ⟨e, he, h2⟩ := Array.any_eq_true'.1 this
  simp at h2
  exact ⟨e, he, h2.1, h2.2⟩
theorem late_spec {listed : Array Bool} (h : (late.all fun k => listed.getD k true == false) = true) : lateFree late listed := fun k hk => by
  have := List.all_eq_true.1 h k hk
  simpa using this
variable {l : List Oper}
theorem G_take (i : Nat) {oi : Oper} {v : Value} {fuel : Nat} {listed : Array Bool} {a : Act} {w : World} (hr : (Region.ready md l.toArray listed).contains i = true) (hi : l[i]? = some oi)
    (hs : Region.noSelect l.toArray = true) (hf : Region.free md l.toArray listed i = true) (hw : (waits md l.toArray late i && !late.contains i && late.all fun k => listed.getD k true == false) = true)
    (hQ : ∀ c a w, Q (.panic c) (a.put oi.dst v) w → Q (.panic c) a w) (hy : YieldsIf P l.toArray S oi v a) (hS : S w)
    (h : wpAnyG P md l.toArray Q S late fuel (listed.setIfInBounds i true) (a.put oi.dst v) w) : wpAnyG P md l.toArray Q S late (fuel + 1) listed a w := by
  simp only [Bool.and_eq_true] at hw
  exact wpAnyG_first (by rw [List.getElem?_toArray]; exact hi) (Region.noSelect_spec hs) hQ (by simpa using hw.1.2) (waits_spec hw.1.1) fuel listed a w (Region.free_spec (by rw [List.getElem?_toArray]; exact hi) hf) (by simpa using hr) hy hS (late_spec hw.2) h
/-- Each of these comes up next. -/
def AllG (P : Program) (md : Region.Mode) (ops : Array Oper) (Q : Exit → Act → World → Prop) (S : World → Prop) (late : List Nat) (fuel : Nat) (listed : Array Bool) (a : Act) (w : World) (rs : List Nat) : Prop :=
  ∀ i ∈ rs, wpOp P ops Q i (fun a' w' => (lateFree late (listed.setIfInBounds i true) → S w') ∧ wpAnyG P md ops Q S late fuel (listed.setIfInBounds i true) a' w') a w
theorem AllG.nil {fuel : Nat} {listed : Array Bool} {a : Act} {w : World} : AllG P md ops Q S late fuel listed a w [] := fun _ h => by cases h
theorem AllG.cons {fuel : Nat} {listed : Array Bool} {a : Act} {w : World} (i : Nat) {o : Oper} {rs : List Nat} (ho : l[i]? = some o)
    (h : ∀ K' : Act → World → Prop, Shut (∀ a w, S w → (S w → wpAnyG P md l.toArray Q S late fuel (listed.setIfInBounds i true) a w) → K' a w) → if Region.wanted o (yielded l.toArray a.tmps) = true then Oper.wp P o a w K' Q else K' (a.put o.dst undef) w)
    (hs : AllG P md l.toArray Q S late fuel listed a w rs) : AllG P md l.toArray Q S late fuel listed a w (i :: rs) := fun j hj => by
  rcases List.mem_cons.1 hj with rfl | hj
  · exact wpOp_step (by rw [List.getElem?_toArray]; exact ho) (fun K' hK => h K' (fun a w hS hW => hK a w ⟨fun _ => hS, hW hS⟩))
  · exact hs j hj
theorem G_ready (rs : List Nat) {fuel : Nat} {listed : Array Bool} {a : Act} {w : World} (hr : Region.ready md ops listed = rs) (hne : rs ≠ [])
    (h : AllG P md ops Q S late fuel listed a w rs) : wpAnyG P md ops Q S late (fuel + 1) listed a w := ⟨fun h0 => absurd (hr ▸ h0) hne, hr ▸ h⟩
/-- A late one comes up alone: nothing is asked behind it. -/
theorem G_late (i : Nat) {o : Oper} {fuel : Nat} {listed : Array Bool} {a : Act} {w : World} (hr : Region.ready md l.toArray listed = [i]) (ho : l[i]? = some o) (hl : (late.contains i && decide (i < listed.size)) = true)
    (h : ∀ K' : Act → World → Prop, Shut (∀ a w, wpAnyG P md l.toArray Q S late fuel (listed.setIfInBounds i true) a w → K' a w) → if Region.wanted o (yielded l.toArray a.tmps) = true then Oper.wp P o a w K' Q else K' (a.put o.dst undef) w) :
    wpAnyG P md l.toArray Q S late (fuel + 1) listed a w := by
  simp only [Bool.and_eq_true, decide_eq_true_eq] at hl
  refine ⟨fun h0 => absurd (hr ▸ h0) (by simp), hr ▸ fun j hj => ?_⟩
  have : j = i := by simpa using hj
  subst this
  refine wpOp_step (by rw [List.getElem?_toArray]; exact ho) (fun K' hK => h K' (fun a w hW => hK a w ⟨fun hL => ?_, hW⟩))
  have := hL j (by simpa using hl.1)
  simp [hl.2] at this
theorem G_done {listed : Array Bool} {a : Act} {w : World} (hr : Region.ready md ops listed = []) (h : Q .normal a w) :
    ∀ fuel, wpAnyG P md ops Q S late fuel listed a w
  | 0 => ⟨hr, h⟩
  | _ + 1 => ⟨fun _ => h, by rw [hr]; simp⟩
theorem wp_region_G (S : World → Prop) (late : List Nat) {id : Nat} {a : Act} {w : World} (hm : P.follows .mixedOrders = true) (hS : S w.drew)
    (h : S w.drew → wpAnyG P .any ops Q S late ops.size (Array.replicate ops.size false) a w.drew) : (Code.region id ops true).wp P Q a w :=
  wp_region_any hm (wpAny_of_G _ _ _ _ (h hS))
end
end Go.Proofs.Ytlahecofjlaojaa
