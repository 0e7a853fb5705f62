/- Plain law of the machine: what a step, a run, keep; how a run ends. -/
import Derived.Test.YtlahecofjlaojaaVm5
import Derived.Laws.Closers25b
namespace Go.Proofs.Ytlahecofjlaojaa
set_option linter.unusedVariables false
open Go.RowKit

/-- A machine on a run's way. -/
structure Ms.Fit (m : Ms) : Prop where
  ok : m.Ok
  deep : m.stack.length ≤ 16
  at_ : m.at_ ≤ m.code.length
  gas : 0 ≤ m.gas ∧ m.gas ≤ 200
/-- What no sign touches. -/
def Ms.Kin (m m' : Ms) : Prop := m'.code = m.code ∧ m'.arg = m.arg ∧ m'.data = m.data ∧ m'.gas = m.gas ∧ m'.done = m.done ∧ m'.err = m.err
theorem Ms.Kin.refl (m : Ms) : m.Kin m := ⟨rfl, rfl, rfl, rfl, rfl, rfl⟩
def I64 (x : Int) : Prop := -9223372036854775808 ≤ x ∧ x ≤ 9223372036854775807
theorem wrap64_I64 (x : Int) : I64 (wrap64 x) := by unfold wrap64 I64; omega
theorem in64_I64 {x : Int} (h : in64 x = true) : I64 x := by
  unfold in64 at h
  simp only [Bool.and_eq_true, decide_eq_true_eq] at h
  unfold I64
  exact h

/-- A machine turned in its place and its stack alone. -/
theorem fit_turn {m : Ms} (h : m.Fit) (a : Nat) (s : List Int) (ha : a ≤ m.code.length) (hs : ∀ x ∈ s, I64 x) (hl : s.length ≤ 16) : ({ m with at_ := a, stack := s } : Ms).Fit :=
  ⟨⟨h.ok.code, h.ok.len, h.ok.arg, h.ok.data, hs, by simp only; omega, by have := h.ok.len; simp only; omega⟩, hl, ha, h.gas⟩
theorem take_I64 {m : Ms} (h : m.Fit) (k : Nat) : ∀ x ∈ m.stack.take k, I64 x := fun x hx => h.ok.stack x (List.mem_of_mem_take hx)
theorem div_I64 {a p : Int} (ha : I64 a) (hp : 0 < p) : I64 (a / p) := by
  unfold I64 at *
  have h1 : a / p < 0 → a ≤ a / p := by
    intro h1
    have h2 := Int.mul_ediv_add_emod a p
    have h3 := Int.emod_nonneg a (show p ≠ 0 by omega)
    have h4 := Int.emod_lt_of_pos a hp
    generalize a / p = q at *
    have h5 : 0 ≤ (p - 1) * (-(q + 1)) := Int.mul_nonneg (by omega) (by omega)
    rw [Int.mul_neg, Int.sub_mul, Int.mul_add] at h5
    omega
  have h2 : 0 ≤ a → a / p ≤ a := fun h1 => Int.ediv_le_self _ h1
  have h3 : a < 0 → a / p < 0 := fun h2 => Int.ediv_neg_of_neg_of_pos h2 hp
  generalize a / p = q at *
  omega
theorem shr_I64 {a b : Int} (ha : I64 a) : I64 (shrV a b) := div_I64 ha (Int.pow_pos (by omega))
theorem if_I64 {c : Bool} {x : Int} {k : Nat} (hc : c = true → I64 x) (h : (if c = true then ((0 : Nat), x) else (k + 1, 0)).1 = 0) : I64 (if c = true then ((0 : Nat), x) else (k + 1, 0)).2 := by
  by_cases hi : c = true
  · rw [if_pos hi]; exact hc hi
  · rw [if_neg hi] at h; simp at h
theorem if_I64' {b x : Int} (hc : I64 x) (h : (if b < 0 then ((1 : Nat), (0 : Int)) else (0, x)).1 = 0) : I64 (if b < 0 then ((1 : Nat), (0 : Int)) else (0, x)).2 := by
  by_cases hi : b < 0
  · rw [if_pos hi] at h; simp at h
  · rw [if_neg hi]; exact hc
theorem bits_I64 (a b : Int) : I64 (bits .and .i64 a b) := ⟨Go.bits_lo_i64 .and a b, Go.bits_hi_i64 .and a b⟩
theorem two_I64 {op : Nat} {a b : Int} (ha : I64 a) (h : (twoV op a b).1 = 0) : I64 (twoV op a b).2 := by
  unfold twoV at *
  by_cases h2 : op = 2
  · rw [if_pos h2] at h ⊢
    exact if_I64 (k := 10) in64_I64 h
  rw [if_neg h2] at h ⊢
  by_cases h3 : op = 3
  · rw [if_pos h3] at h ⊢
    exact if_I64 (k := 10) in64_I64 h
  rw [if_neg h3] at h ⊢
  by_cases h4 : op = 4
  · rw [if_pos h4] at h ⊢
    exact if_I64 (k := 10) in64_I64 h
  rw [if_neg h4] at h ⊢
  by_cases h5 : op = 5
  · rw [if_pos h5] at h ⊢
    exact if_I64' (wrap64_I64 _) h
  rw [if_neg h5] at h ⊢
  by_cases h6 : op = 6
  · rw [if_pos h6] at h ⊢
    exact if_I64' (shr_I64 ha) h
  rw [if_neg h6]
  exact bits_I64 a b
theorem one_I64 {op : Nat} {a : Int} (ha : I64 a) : ∀ x ∈ oneV op a, I64 x := by
  unfold oneV
  split
  · intro x hx; simp at hx; subst hx; exact ha
  · split
    · intro x hx; simp at hx; subst hx; exact wrap64_I64 _
    · split
      · intro x hx; simp at hx; subst hx; unfold u8V I64; omega
      · intro x hx; simp at hx
theorem one_len (op : Nat) (a : Int) : (oneV op a).length ≤ 2 := by
  unfold oneV
  split
  · simp
  · split
    · simp
    · split <;> simp
theorem push_fit {m : Ms} {l : List Int} (h : m.Fit) (hl : ∀ x ∈ l, I64 x) (h0 : (push_ m l).1 = 0) : (push_ m l).2.Fit ∧ m.Kin (push_ m l).2 := by
  unfold push_ at *
  split
  · rename_i h1; rw [if_pos h1] at h0; simp at h0
  · rename_i h1
    refine ⟨fit_turn h m.at_ _ h.at_ ?_ (by rw [List.length_append]; omega), .refl m⟩
    intro x hx
    rcases List.mem_append.1 hx with h2 | h2
    · exact h.ok.stack x h2
    · exact hl x h2
theorem push_fit' {m m1 : Ms} {l : List Int} (h : m1.Fit) (hk : m.Kin m1) (hl : ∀ x ∈ l, I64 x) (h0 : (push_ m1 l).1 = 0) : (push_ m1 l).2.Fit ∧ m.Kin (push_ m1 l).2 := by
  obtain ⟨h1, h2, h3, h4, h5, h6, h7⟩ := push_fit h hl h0
  obtain ⟨k2, k3, k4, k5, k6, k7⟩ := hk
  exact ⟨h1, h2.trans k2, h3.trans k3, h4.trans k4, h5.trans k5, h6.trans k6, h7.trans k7⟩
theorem getD_I64 {m : Ms} (h : m.Fit) (k : Nat) : I64 (m.stack.getD k 0) := i64_getD h.ok.stack k
theorem doV_fit {m : Ms} {op : Nat} (h : m.Fit) (h0 : (doV m op).1 = 0) : (doV m op).2.Fit ∧ m.Kin (doV m op).2 := by
  have hd := h.deep
  unfold doV at *
  simp only at *
  by_cases h1 : op = 1
  · rw [if_pos h1] at h0 ⊢
    by_cases hc : m.code.length < m.at_ + 8
    · rw [if_pos hc] at h0; simp at h0
    · rw [if_neg hc] at h0 ⊢
      exact push_fit' (fit_turn h (m.at_ + 8) m.stack (by omega) h.ok.stack hd) (.refl m) (fun x hx => by simp at hx; subst hx; exact wrap64_I64 _) h0
  rw [if_neg h1] at h0 ⊢
  by_cases h2 : 2 ≤ op ∧ op ≤ 7
  · rw [if_pos h2] at h0 ⊢
    by_cases hc : m.stack.length < 2 ∨ 16 < m.stack.length - 1
    · rw [if_pos hc] at h0; simp at h0
    · rw [if_neg hc] at h0 ⊢
      by_cases hr : (twoV op (m.stack.getD (m.stack.length - 2) 0) (m.stack.getD (m.stack.length - 1) 0)).1 ≠ 0
      · rw [if_pos hr] at h0; exact absurd (Int.ofNat_eq_zero.1 h0) hr
      · rw [if_neg hr]
        refine ⟨fit_turn h m.at_ _ h.at_ ?_ (by rw [List.length_append, List.length_take]; simp; omega), .refl m⟩
        intro x hx
        rcases List.mem_append.1 hx with h3 | h3
        · exact take_I64 h _ x h3
        · rw [List.mem_singleton.1 h3]; exact two_I64 (getD_I64 h _) (Decidable.of_not_not hr)
  rw [if_neg h2] at h0 ⊢
  by_cases h9 : op = 9
  · rw [if_pos h9] at h0 ⊢
    by_cases hc : m.stack.length < 2 ∨ 16 < m.stack.length
    · rw [if_pos hc] at h0; simp at h0
    · rw [if_neg hc]
      refine ⟨fit_turn h m.at_ _ h.at_ ?_ (by rw [List.length_append, List.length_take]; simp; omega), .refl m⟩
      intro x hx
      rcases List.mem_append.1 hx with h3 | h3
      · exact take_I64 h _ x h3
      · simp at h3
        rcases h3 with rfl | rfl
        · exact getD_I64 h _
        · exact getD_I64 h _
  rw [if_neg h9] at h0 ⊢
  by_cases h8 : op = 8 ∨ op = 10 ∨ op = 14 ∨ op = 15
  · rw [if_pos h8] at h0 ⊢
    by_cases hc : m.stack.length < 1
    · rw [if_pos hc] at h0; simp at h0
    · rw [if_neg hc] at h0 ⊢
      exact push_fit' (fit_turn h m.at_ (m.stack.take (m.stack.length - 1)) h.at_ (take_I64 h _) (by rw [List.length_take]; omega)) (.refl m) (one_I64 (getD_I64 h _)) h0
  rw [if_neg h8] at h0 ⊢
  by_cases h11 : op = 11
  · rw [if_pos h11] at h0 ⊢
    exact push_fit h (fun x hx => by simp at hx; subst hx; exact h.ok.arg) h0
  rw [if_neg h11] at h0 ⊢
  by_cases h12 : op = 12
  · rw [if_pos h12] at h0 ⊢
    exact push_fit h (fun x hx => by simp at hx; subst hx; exact h.ok.data) h0
  rw [if_neg h12] at h0 ⊢
  by_cases h13 : op = 13
  · rw [if_pos h13] at h0 ⊢
    by_cases hc : m.code.length ≤ m.at_
    · rw [if_pos hc] at h0; simp at h0
    rw [if_neg hc] at h0 ⊢
    by_cases hs : m.stack.length < 1 ∨ 16 < m.stack.length - 1
    · rw [if_pos hs] at h0; simp at h0
    rw [if_neg hs] at h0 ⊢
    by_cases hz : m.stack.getD (m.stack.length - 1) 0 = 0
    · rw [if_pos hz] at h0 ⊢
      by_cases hk : m.code.length < m.code.getD m.at_ 0
      · rw [if_pos hk] at h0; simp at h0
      · rw [if_neg hk]
        exact ⟨fit_turn h _ _ (by omega) (take_I64 h _) (by rw [List.length_take]; omega), .refl m⟩
    · rw [if_neg hz]
      exact ⟨fit_turn h _ _ (by omega) (take_I64 h _) (by rw [List.length_take]; omega), .refl m⟩
  rw [if_neg h13] at h0
  simp at h0

/-- What a step leaves. -/
theorem stepV_fit {m : Ms} (h : m.Fit) (hd : m.done = false) : (stepV m).Fit ∧ (stepV m).code = m.code ∧ (stepV m).arg = m.arg ∧ (stepV m).data = m.data ∧ ((stepV m).done = true ∨ ((stepV m).done = false ∧ (stepV m).gas = m.gas - 1 ∧ 1 ≤ m.gas ∧ (stepV m).err = m.err)) := by
  have hg := h.gas
  have hov : ∀ (m : Ms) (e : Int), m.Fit → (overV m e).Fit := fun m e k => ⟨⟨k.ok.code, k.ok.len, k.ok.arg, k.ok.data, k.ok.stack, k.ok.deep, k.ok.at_⟩, k.deep, k.at_, k.gas⟩
  unfold stepV
  rw [if_neg (by simp [hd])]
  by_cases h1 : m.gas < 1
  · rw [if_pos h1]
    exact ⟨hov m 14 h, rfl, rfl, rfl, .inl rfl⟩
  rw [if_neg h1]
  simp only
  have hm1 : ({ m with gas := m.gas - 1 } : Ms).Fit := ⟨⟨h.ok.code, h.ok.len, h.ok.arg, h.ok.data, h.ok.stack, h.ok.deep, h.ok.at_⟩, h.deep, h.at_, by simp only; omega⟩
  rw [if_neg (by have := h.at_; omega)]
  by_cases h2 : m.at_ = m.code.length ∨ m.code.getD m.at_ 0 = 0
  · rw [if_pos h2]
    exact ⟨hov _ 0 hm1, rfl, rfl, rfl, .inl rfl⟩
  rw [if_neg h2]
  have hm2 : ({ m with at_ := m.at_ + 1, gas := m.gas - 1 } : Ms).Fit := fit_turn hm1 (m.at_ + 1) m.stack (by have := h.at_; simp only; omega) h.ok.stack h.deep
  by_cases h3 : (doV { m with at_ := m.at_ + 1, gas := m.gas - 1 } (m.code.getD m.at_ 0)).1 ≠ 0
  · rw [if_pos h3]
    exact ⟨hov _ _ hm1, rfl, rfl, rfl, .inl rfl⟩
  · rw [if_neg h3]
    obtain ⟨h4, h5, h6, h7, h8, h9, h10⟩ := doV_fit hm2 (by simpa using h3)
    exact ⟨h4, h5, h6, h7, .inr ⟨h9.trans hd, h8, by omega, h10⟩⟩
theorem runV_id {m : Ms} (h : m.done = true) : ∀ k, runV k m = m
  | 0 => rfl
  | k + 1 => by unfold runV; rw [if_pos h]
theorem runV_succ {m : Ms} (h : m.done = false) (k : Nat) : runV (k + 1) m = runV k (stepV m) := by
  show (if m.done then m else runV k (stepV m)) = _
  rw [if_neg (by simp [h])]
/-- A run's end. -/
def runEnd (m : Ms) : Ms := runV (m.gas.toNat + 1) m
theorem runEnd_id {m : Ms} (h : m.done = true) : runEnd m = m := runV_id h _
theorem runEnd_step {m : Ms} (hf : m.Fit) (h : m.done = false) : runEnd m = runEnd (stepV m) := by
  unfold runEnd
  rw [runV_succ h]
  obtain ⟨_, _, _, _, h1 | ⟨h1, h2, h3, _⟩⟩ := stepV_fit hf h
  · rw [runV_id h1, runV_id h1]
  · rw [h2]
    congr 1
    omega
theorem runEnd_fit : ∀ (k : Nat) {m : Ms}, m.Fit → m.gas.toNat ≤ k → (runEnd m).Fit ∧ (runEnd m).done = true ∧ (runEnd m).code = m.code ∧ (runEnd m).gas ≤ m.gas
  | k, m, hf, hk => by
    cases hd : m.done
    · rw [runEnd_step hf hd]
      obtain ⟨h1, h2, h3, h4, h5 | ⟨h5, h6, h7, h8⟩⟩ := stepV_fit hf hd
      · rw [runEnd_id h5]
        refine ⟨h1, h5, h2, ?_⟩
        unfold stepV
        rw [if_neg (by simp [hd])]
        split
        · exact Int.le_refl _
        · simp only
          split
          · simp [overV]; omega
          · split
            · simp [overV]; omega
            · split
              · simp [overV]; omega
              · rename_i h9
                have hg := hf.gas
                have hm2 : ({ m with at_ := m.at_ + 1, gas := m.gas - 1 } : Ms).Fit := by
                  refine fit_turn (m := { m with gas := m.gas - 1 }) ⟨⟨hf.ok.code, hf.ok.len, hf.ok.arg, hf.ok.data, hf.ok.stack, hf.ok.deep, hf.ok.at_⟩, hf.deep, hf.at_, by simp only; omega⟩ (m.at_ + 1) m.stack ?_ hf.ok.stack hf.deep
                  have := hf.at_; simp only; omega
                have := (doV_fit (op := m.code.getD m.at_ 0) hm2 (by simpa using h9)).2.2.2.2.1
                rw [this]; simp only; omega
      · match k with
        | 0 => omega
        | k + 1 =>
          obtain ⟨a, b, c, d⟩ := runEnd_fit k h1 (by omega)
          exact ⟨a, b, c.trans h2, by omega⟩
    · rw [runEnd_id hd]
      exact ⟨hf, hd, rfl, Int.le_refl _⟩

/-- What Run answers: the result, how many steps were paid for, the error. -/
def lastV (m : Ms) : Int := if m.err = 0 ∧ m.stack ≠ [] then m.stack.getD (m.stack.length - 1) 0 else 0
def startV (bs : List Nat) (arg data gas : Int) : Ms := Ms.mk bs arg data 0 [] gas false 0
def vrun (bs : List Nat) (arg data gas : Int) : Int × Int × Int :=
  if 64 < bs.length ∨ gas < 0 ∨ 200 < gas then (0, 0, 1)
  else (lastV (runEnd (startV bs arg data gas)), gas - (runEnd (startV bs arg data gas)).gas, (runEnd (startV bs arg data gas)).err)
theorem start_fit {bs : List Nat} {arg data gas : Int} (hb : ∀ x ∈ bs, x < 256) (ha : I64 arg) (hd : I64 data) (hl : bs.length ≤ 64) (hg : 0 ≤ gas ∧ gas ≤ 200) : (startV bs arg data gas).Fit :=
  ⟨⟨hb, by simp only [startV]; omega, ha, hd, by simp [startV], by simp [startV], by simp [startV]⟩, by simp [startV], by simp [startV], hg⟩
end Go.Proofs.Ytlahecofjlaojaa
