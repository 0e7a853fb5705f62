/- Plain laws of runs. -/
import Derived.Test.YtlahecofjlaojaaVmRun
namespace Go.Proofs.Ytlahecofjlaojaa
set_option linter.unusedVariables false
open Go.RowKit

theorem push_kin (m : Ms) (l : List Int) : m.Kin (push_ m l).2 := by
  unfold push_; split <;> exact .refl m
theorem Ms.Kin.trans {a b c : Ms} (h : a.Kin b) (k : b.Kin c) : a.Kin c :=
  ⟨k.1.trans h.1, k.2.1.trans h.2.1, k.2.2.1.trans h.2.2.1, k.2.2.2.1.trans h.2.2.2.1, k.2.2.2.2.1.trans h.2.2.2.2.1, k.2.2.2.2.2.trans h.2.2.2.2.2⟩
theorem ite_kin {c : Prop} [Decidable c] {m : Ms} {x y : Int × Ms} (h : m.Kin x.2) (k : m.Kin y.2) : m.Kin (if c then x else y).2 := by
  by_cases hc : c
  · rw [if_pos hc]; exact h
  · rw [if_neg hc]; exact k
theorem doV_kin (m : Ms) (op : Nat) : m.Kin (doV m op).2 := by
  unfold doV
  simp only
  refine ite_kin (ite_kin (.refl m) (Ms.Kin.trans (b := { m with at_ := m.at_ + 8 }) (.refl m) (push_kin _ _))) ?_
  refine ite_kin (ite_kin (.refl m) (ite_kin (.refl m) (.refl m))) ?_
  refine ite_kin (ite_kin (.refl m) (.refl m)) ?_
  refine ite_kin (ite_kin (.refl m) (Ms.Kin.trans (b := { m with stack := m.stack.take (m.stack.length - 1) }) (.refl m) (push_kin _ _))) ?_
  refine ite_kin (push_kin _ _) ?_
  refine ite_kin (push_kin _ _) ?_
  refine ite_kin (ite_kin (.refl m) (ite_kin (.refl m) (ite_kin (ite_kin (.refl m) (.refl m)) (.refl m)))) ?_
  exact .refl m
/-- What a step says of the end, whatever the machine. -/
theorem stepV_end (m : Ms) (hd : m.done = false) : (stepV m).done = true ∨ ((stepV m).done = false ∧ (stepV m).gas = m.gas - 1 ∧ 1 ≤ m.gas) := by
  unfold stepV
  rw [if_neg (by simp [hd])]
  by_cases h1 : m.gas < 1
  · rw [if_pos h1]; exact .inl rfl
  rw [if_neg h1]
  simp only
  split
  · exact .inl rfl
  · split
    · exact .inl rfl
    · split
      · exact .inl rfl
      · obtain ⟨_, _, _, k4, k5, _⟩ := doV_kin { m with at_ := m.at_ + 1, gas := m.gas - 1 } (m.code.getD m.at_ 0)
        exact .inr ⟨k5.trans hd, k4, by omega⟩
theorem runEnd_step1 {m : Ms} (h : m.done = false) : runEnd m = runEnd (stepV m) := by
  unfold runEnd
  rw [runV_succ h]
  rcases stepV_end m h with h1 | ⟨h1, h2, h3⟩
  · rw [runV_id h1, runV_id h1]
  · rw [h2]
    congr 1
    omega

theorem run_over (m : Ms) (e : Int) : runEnd (overV m e) = overV m e := runEnd_id rfl

/-! ### more gas, less gas -/
def withGas (m : Ms) (g : Int) : Ms := { m with gas := g }
theorem push_gas (m : Ms) (g : Int) (l : List Int) : push_ (withGas m g) l = ((push_ m l).1, withGas (push_ m l).2 g) := by
  unfold push_ withGas
  simp only
  split <;> rfl
theorem ite_gas {c : Prop} [Decidable c] {x y x' y' : Int × Ms} {g : Int} (h : x' = (x.1, withGas x.2 g)) (k : y' = (y.1, withGas y.2 g)) : (if c then x' else y') = ((if c then x else y).1, withGas (if c then x else y).2 g) := by
  by_cases hc : c
  · rw [if_pos hc, if_pos hc]; exact h
  · rw [if_neg hc, if_neg hc]; exact k
theorem doV_gas (m : Ms) (g : Int) (op : Nat) : doV (withGas m g) op = ((doV m op).1, withGas (doV m op).2 g) := by
  unfold doV
  simp only
  refine ite_gas (ite_gas rfl (push_gas { m with at_ := m.at_ + 8 } g _)) ?_
  refine ite_gas (ite_gas rfl (ite_gas rfl rfl)) ?_
  refine ite_gas (ite_gas rfl rfl) ?_
  refine ite_gas (ite_gas rfl (push_gas { m with stack := m.stack.take (m.stack.length - 1) } g _)) ?_
  refine ite_gas (push_gas m g _) ?_
  refine ite_gas (push_gas m g _) ?_
  refine ite_gas (ite_gas rfl (ite_gas rfl (ite_gas (ite_gas rfl rfl) rfl))) ?_
  rfl
def live (m : Ms) (g : Int) : Ms :=
  if m.code.length < m.at_ then overV (withGas m g) 10
  else if m.at_ = m.code.length ∨ m.code.getD m.at_ 0 = 0 then overV (withGas m g) 0
  else if (doV (withGas { m with at_ := m.at_ + 1 } g) (m.code.getD m.at_ 0)).1 ≠ 0 then overV (withGas m g) (doV (withGas { m with at_ := m.at_ + 1 } g) (m.code.getD m.at_ 0)).1
  else (doV (withGas { m with at_ := m.at_ + 1 } g) (m.code.getD m.at_ 0)).2
theorem stepV_live (m : Ms) (hd : m.done = false) (h1 : 1 ≤ m.gas) : stepV m = live m (m.gas - 1) := by
  unfold stepV
  rw [if_neg (by simp [hd]), if_neg (by omega)]
  rfl
theorem live_gas (m : Ms) (g h : Int) : live m g = withGas (live m h) g := by
  unfold live
  rw [doV_gas, doV_gas]
  by_cases c1 : m.code.length < m.at_
  · rw [if_pos c1, if_pos c1]; rfl
  rw [if_neg c1, if_neg c1]
  by_cases c2 : m.at_ = m.code.length ∨ m.code.getD m.at_ 0 = 0
  · rw [if_pos c2, if_pos c2]; rfl
  rw [if_neg c2, if_neg c2]
  by_cases c3 : (doV { m with at_ := m.at_ + 1 } (m.code.getD m.at_ 0)).1 ≠ 0
  · rw [if_pos c3, if_pos c3]; rfl
  · rw [if_neg c3, if_neg c3]; rfl
theorem stepV_gas (m : Ms) (g : Int) (hd : m.done = false) (h1 : 1 ≤ m.gas) (hg : 1 ≤ g) : stepV (withGas m g) = withGas (stepV m) (g - 1) := by
  rw [stepV_live m hd h1, stepV_live (withGas m g) hd hg]
  exact live_gas m (g - 1) (m.gas - 1)
theorem ite_err {c : Prop} [Decidable c] {x y : Int × Ms} (h : x.1 ≠ 14) (k : y.1 ≠ 14) : (if c then x else y).1 ≠ 14 := by
  by_cases hc : c
  · rw [if_pos hc]; exact h
  · rw [if_neg hc]; exact k
theorem push_err (m : Ms) (l : List Int) : (push_ m l).1 ≠ 14 := ite_err (by simp) (by simp)
theorem two_err (op : Nat) (a b : Int) : (twoV op a b).1 = 0 ∨ (twoV op a b).1 = 11 ∨ (twoV op a b).1 = 1 := by
  unfold twoV
  by_cases h2 : op = 2
  · rw [if_pos h2]; split <;> simp
  rw [if_neg h2]
  by_cases h3 : op = 3
  · rw [if_pos h3]; split <;> simp
  rw [if_neg h3]
  by_cases h4 : op = 4
  · rw [if_pos h4]; split <;> simp
  rw [if_neg h4]
  by_cases h5 : op = 5
  · rw [if_pos h5]; split <;> simp
  rw [if_neg h5]
  by_cases h6 : op = 6
  · rw [if_pos h6]; split <;> simp
  rw [if_neg h6]
  exact .inl rfl
theorem doV_err (m : Ms) (op : Nat) : (doV m op).1 ≠ 14 := by
  unfold doV
  simp only
  refine ite_err (ite_err (by simp) (push_err _ _)) ?_
  refine ite_err (ite_err (by simp) (ite_err ?_ (by simp))) ?_
  · have := two_err op (m.stack.getD (m.stack.length - 2) 0) (m.stack.getD (m.stack.length - 1) 0)
    simp only
    omega
  refine ite_err (ite_err (by simp) (by simp)) ?_
  refine ite_err (ite_err (by simp) (push_err _ _)) ?_
  refine ite_err (push_err _ _) ?_
  refine ite_err (push_err _ _) ?_
  refine ite_err (ite_err (by simp) (ite_err (by simp) (ite_err (ite_err (by simp) (by simp)) (by simp)))) ?_
  simp
theorem live_says (m : Ms) (g : Int) (he : m.err = 0) (hd : m.done = false) : (live m g).gas = g ∧ (((live m g).done = true ∧ (live m g).err ≠ 14) ∨ ((live m g).done = false ∧ (live m g).err = 0)) := by
  unfold live
  by_cases c1 : m.code.length < m.at_
  · rw [if_pos c1]; exact ⟨rfl, .inl ⟨rfl, by simp [overV]⟩⟩
  rw [if_neg c1]
  by_cases c2 : m.at_ = m.code.length ∨ m.code.getD m.at_ 0 = 0
  · rw [if_pos c2]; exact ⟨rfl, .inl ⟨rfl, by simp [overV]⟩⟩
  rw [if_neg c2]
  by_cases c3 : (doV (withGas { m with at_ := m.at_ + 1 } g) (m.code.getD m.at_ 0)).1 ≠ 0
  · rw [if_pos c3]; exact ⟨rfl, .inl ⟨rfl, doV_err _ _⟩⟩
  · rw [if_neg c3]
    obtain ⟨_, _, _, k4, k5, k6⟩ := doV_kin (withGas { m with at_ := m.at_ + 1 } g) (m.code.getD m.at_ 0)
    exact ⟨k4, .inr ⟨k5.trans hd, k6.trans he⟩⟩
theorem runEnd_gas_id {m : Ms} (g : Int) (hs : m.done = true) : runEnd (withGas m g) = withGas m g := runEnd_id (m := withGas m g) hs
theorem runEnd_withGas {m : Ms} (g : Int) (hd : m.done = false) : runEnd (withGas m g) = runEnd (stepV (withGas m g)) := runEnd_step1 (m := withGas m g) hd
theorem run_gas : ∀ (k : Nat) (m : Ms), m.done = false → m.err = 0 → m.gas.toNat ≤ k → 0 ≤ m.gas →
    ((runEnd m).err = 14 ∧ (runEnd m).gas = 0) ∨ ((runEnd m).err ≠ 14 ∧ (runEnd m).gas < m.gas ∧ 0 ≤ (runEnd m).gas ∧ runEnd (withGas m (m.gas - (runEnd m).gas)) = withGas (runEnd m) 0 ∧ (runEnd (withGas m (m.gas - (runEnd m).gas - 1))).err = 14 ∧ (runEnd (withGas m (m.gas - (runEnd m).gas - 1))).gas = 0)
  | k, m, hd, he, hk, h0 => by
    have out : ∀ m : Ms, m.done = false → m.gas = 0 → (runEnd m).err = 14 ∧ (runEnd m).gas = 0 := fun m hd h0 => by
      rw [runEnd_step1 hd]
      have : stepV m = overV m 14 := by unfold stepV; rw [if_neg (by simp [hd]), if_pos (by omega)]
      rw [this, run_over]
      exact ⟨rfl, h0⟩
    by_cases hg : m.gas < 1
    · exact .inl (out m hd (by omega))
    obtain ⟨l1, l2⟩ := live_says m (m.gas - 1) he hd
    rw [← stepV_live m hd (by omega)] at l1 l2
    rw [runEnd_step1 hd]
    rcases l2 with ⟨hs, hge⟩ | ⟨hs, he'⟩
    · rw [runEnd_id hs]
      refine .inr ⟨hge, by omega, by omega, ?_, ?_⟩
      · rw [runEnd_withGas _ hd, stepV_gas m _ hd (by omega) (by omega), runEnd_gas_id _ hs]
        congr 1
        omega
      · exact out _ hd (by show m.gas - (stepV m).gas - 1 = 0; omega)
    · match k with
      | 0 => omega
      | k + 1 =>
        rcases run_gas k (stepV m) hs he' (by omega) (by omega) with h4 | ⟨h4, h5, h6, h7, h8, h9⟩
        · exact .inl h4
        · refine .inr ⟨h4, by omega, h6, ?_, ?_⟩
          · rw [runEnd_withGas _ hd, stepV_gas m _ hd (by omega) (by omega)]
            rw [show m.gas - (runEnd (stepV m)).gas - 1 = (stepV m).gas - (runEnd (stepV m)).gas from by omega]
            exact h7
          · rw [runEnd_withGas _ hd, stepV_gas m _ hd (by omega) (by omega)]
            rw [show m.gas - (runEnd (stepV m)).gas - 1 - 1 = (stepV m).gas - (runEnd (stepV m)).gas - 1 from by omega]
            exact ⟨h8, h9⟩

/-! ### single steps -/
/-- A machine on its way. -/
def mk (c : List Nat) (a d : Int) (at_ : Nat) (s : List Int) (g : Int) : Ms := Ms.mk c a d at_ s g false 0
theorem start_mk (bs : List Nat) (arg data gas : Int) : startV bs arg data gas = mk bs arg data 0 [] gas := rfl
section
variable {c : List Nat} {a d : Int} {k : Nat} {s : List Int} {g : Int}
theorem step_out (hg : g < 1) : stepV (mk c a d k s g) = overV (mk c a d k s g) 14 := by
  unfold stepV
  rw [if_neg (by simp [mk]), if_pos (by simpa [mk] using hg)]
theorem mk_live (hg : 1 ≤ g) : stepV (mk c a d k s g) = if c.length < k then overV (mk c a d k s (g - 1)) 10 else if k = c.length ∨ c.getD k 0 = 0 then overV (mk c a d k s (g - 1)) 0 else if (doV (mk c a d (k + 1) s (g - 1)) (c.getD k 0)).1 ≠ 0 then overV (mk c a d k s (g - 1)) (doV (mk c a d (k + 1) s (g - 1)) (c.getD k 0)).1 else (doV (mk c a d (k + 1) s (g - 1)) (c.getD k 0)).2 := stepV_live (mk c a d k s g) rfl hg
theorem step_end (hg : 1 ≤ g) (hk : k = c.length) : stepV (mk c a d k s g) = overV (mk c a d k s (g - 1)) 0 := by
  rw [mk_live hg, if_neg (by omega), if_pos (.inl hk)]
theorem step_stop (hg : 1 ≤ g) (hk : k < c.length) (h0 : c.getD k 0 = 0) : stepV (mk c a d k s g) = overV (mk c a d k s (g - 1)) 0 := by
  rw [mk_live hg, if_neg (by omega), if_pos (.inr h0)]
theorem step_do (hg : 1 ≤ g) (hk : k < c.length) {op : Nat} (hop : c.getD k 0 = op) (h0 : op ≠ 0) (m' : Ms) (h : doV (mk c a d (k + 1) s (g - 1)) op = (0, m')) : stepV (mk c a d k s g) = m' := by
  rw [mk_live hg, if_neg (by omega), if_neg (by omega), hop, h, if_neg (by simp)]
theorem step_err (hg : 1 ≤ g) (hk : k < c.length) {op : Nat} (hop : c.getD k 0 = op) (h0 : op ≠ 0) (e : Int) (he : e ≠ 0) (h : (doV (mk c a d (k + 1) s (g - 1)) op).1 = e) : stepV (mk c a d k s g) = overV (mk c a d k s (g - 1)) e := by
  rw [mk_live hg, if_neg (by omega), if_neg (by omega), hop, h, if_pos he]
/-- One sign done: the run goes on behind it. -/
theorem run_do (hg : 1 ≤ g) (hk : k < c.length) {op : Nat} (hop : c.getD k 0 = op) (h0 : op ≠ 0) (m' : Ms) (h : doV (mk c a d (k + 1) s (g - 1)) op = (0, m')) : runEnd (mk c a d k s g) = runEnd m' := by
  rw [runEnd_step1 rfl, step_do hg hk hop h0 m' h]
theorem run_err (hg : 1 ≤ g) (hk : k < c.length) {op : Nat} (hop : c.getD k 0 = op) (h0 : op ≠ 0) (e : Int) (he : e ≠ 0) (h : (doV (mk c a d (k + 1) s (g - 1)) op).1 = e) : runEnd (mk c a d k s g) = overV (mk c a d k s (g - 1)) e := by
  rw [runEnd_step1 rfl, step_err hg hk hop h0 e he h, run_over]
theorem run_end (hg : 1 ≤ g) (hk : k = c.length) : runEnd (mk c a d k s g) = overV (mk c a d k s (g - 1)) 0 := by
  rw [runEnd_step1 rfl, step_end hg hk, run_over]
theorem run_stop (hg : 1 ≤ g) (hk : k < c.length) (h0 : c.getD k 0 = 0) : runEnd (mk c a d k s g) = overV (mk c a d k s (g - 1)) 0 := by
  rw [runEnd_step1 rfl, step_stop hg hk h0, run_over]
theorem run_out (hg : g < 1) : runEnd (mk c a d k s g) = overV (mk c a d k s g) 14 := by
  rw [runEnd_step1 rfl, step_out hg, run_over]
/-- What a run answers, once its end is known. -/
theorem vrun_end {bs : List Nat} {arg data gas : Int} (h1 : bs.length ≤ 64) (h2 : 0 ≤ gas) (h3 : gas ≤ 200) (m : Ms) (h : runEnd (mk bs arg data 0 [] gas) = m) : vrun bs arg data gas = (lastV m, gas - m.gas, m.err) := by
  unfold vrun
  rw [if_neg (by omega), start_mk, h]
theorem do_push (h1 : k + 8 ≤ c.length) (h2 : s.length < 16) : doV (mk c a d k s g) 1 = (0, mk c a d (k + 8) (s ++ [num8 ((c.drop k).take 8)]) g) := by
  unfold doV
  simp only
  rw [if_pos (by trivial), if_neg (by simp only [mk]; omega)]
  unfold push_
  rw [if_neg (by simp [mk]; omega)]
  rfl
theorem do_arg (h2 : s.length < 16) : doV (mk c a d k s g) 11 = (0, mk c a d k (s ++ [a]) g) := by
  rw [doV_11]
  unfold push_
  rw [if_neg (by simp [mk]; omega)]
  rfl
theorem do_data (h2 : s.length < 16) : doV (mk c a d k s g) 12 = (0, mk c a d k (s ++ [d]) g) := by
  rw [doV_12]
  unfold push_
  rw [if_neg (by simp [mk]; omega)]
  rfl
end
end Go.Proofs.Ytlahecofjlaojaa
