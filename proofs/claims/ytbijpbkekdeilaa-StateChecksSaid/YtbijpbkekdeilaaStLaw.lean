/- Plain laws of lists of accounts: what putL and getL make of sorted lists. No program in sight. -/
import Derived.Test.YtbijpbkekdeilaaState2
namespace Go.Proofs.Ytbijpbkekdeilaa
set_option linter.unusedVariables false

def nn (a : Acc) : Bool := noneB a.bal a.non a.dat
theorem nn_zero (a : Acc) (h : nn a = true) : a = zeroAcc a.id := by
  cases a; simp [nn, noneB, zeroAcc] at h ⊢; exact ⟨h.1.1, h.1.2, h.2⟩
theorem nn_zeroAcc (i : Int) : nn (zeroAcc i) = true := rfl

def putR (l : List Acc) (a : Acc) : List Acc :=
  match l with
  | [] => if nn a then [] else [a]
  | x :: r => if x.id < a.id then x :: putR r a else if x.id = a.id then (if nn a then r else a :: r) else (if nn a then x :: r else a :: x :: r)
def getR (l : List Acc) (i : Int) : Acc :=
  match l with
  | [] => zeroAcc i
  | x :: r => if x.id < i then getR r i else if x.id = i then x else zeroAcc i

theorem putL_eq (l : List Acc) (a : Acc) : putL l a = putR l a := by
  induction l with
  | nil => unfold putL; cases hb : noneB a.bal a.non a.dat <;> simp [putR, atL, nn, hb]
  | cons x r ih =>
    by_cases h : x.id < a.id
    · have e : atL (x :: r) a.id = atL r a.id + 1 := by simp [atL, h]
      unfold putL at ih ⊢
      rw [e]
      simp only [List.take_succ_cons, List.drop_succ_cons, putR, h, if_true, List.cons_append, ih]
    · have e : atL (x :: r) a.id = 0 := by simp [atL, h]
      unfold putL
      rw [e]
      by_cases h2 : x.id = a.id <;> cases hb : noneB a.bal a.non a.dat <;> simp [putR, h, h2, nn, hb]
theorem getL_eq (l : List Acc) (i : Int) : getL l i = getR l i := by
  induction l with
  | nil => simp [getL, getR]
  | cons x r ih =>
    by_cases h : x.id < i
    · have e : atL (x :: r) i = atL r i + 1 := by simp [atL, h]
      unfold getL at ih ⊢
      rw [e]
      simp only [List.drop_succ_cons, getR, h, if_true]
      exact ih
    · have e : atL (x :: r) i = 0 := by simp [atL, h]
      unfold getL
      rw [e]
      simp [getR, h]

def Sorted (l : List Acc) : Prop := l.Pairwise (fun x y => x.id < y.id)
theorem mem_putR (l : List Acc) (a x : Acc) (h : x ∈ putR l a) : (x ∈ l ∧ x.id ≠ a.id) ∨ (x = a ∧ nn a = false) ∨ x ∈ l := by
  induction l with
  | nil => simp [putR] at h; exact .inr (.inl ⟨h.2, h.1⟩)
  | cons y r ih =>
    simp only [putR] at h
    split at h
    · rcases List.mem_cons.1 h with rfl | h
      · simp
      · rcases ih h with h | h | h <;> simp [h]
    · split at h
      · split at h
        · simp [h]
        · rcases List.mem_cons.1 h with rfl | h <;> simp_all
      · split at h
        · simp [h]
        · rcases List.mem_cons.1 h with rfl | h <;> simp_all
theorem sorted_putR (l : List Acc) (a : Acc) (hs : Sorted l) : Sorted (putR l a) := by
  unfold Sorted at hs ⊢
  induction l with
  | nil => simp only [putR]; split <;> simp
  | cons x r ih =>
    rw [List.pairwise_cons] at hs
    have ih := ih hs.2
    simp only [putR]
    split
    · rename_i hlt
      refine List.pairwise_cons.2 ⟨fun y hy => ?_, ih⟩
      rcases mem_putR r a y hy with h | h | h
      · exact hs.1 y h.1
      · rw [h.1]; exact hlt
      · exact hs.1 y h
    · rename_i hge
      split
      · rename_i heq
        split
        · exact hs.2
        · exact List.pairwise_cons.2 ⟨fun y hy => by have := hs.1 y hy; omega, hs.2⟩
      · rename_i hne
        split
        · exact List.pairwise_cons.2 hs
        · refine List.pairwise_cons.2 ⟨fun y hy => ?_, List.pairwise_cons.2 hs⟩
          rcases List.mem_cons.1 hy with rfl | hy
          · omega
          · have := hs.1 y hy; omega
theorem getR_id (l : List Acc) (i : Int) : (getR l i).id = i := by
  induction l with
  | nil => rfl
  | cons x r ih => simp only [getR]; split; exact ih; split; assumption; rfl
theorem getR_lt (l : List Acc) (i : Int) (h : ∀ x ∈ l, i < x.id) : getR l i = zeroAcc i := by
  cases l with
  | nil => rfl
  | cons x r => have := h x (by simp); simp only [getR]; rw [if_neg (by omega), if_neg (by omega)]
theorem get_put (l : List Acc) (a : Acc) (hs : Sorted l) (k : Int) : getR (putR l a) k = if k = a.id then a else getR l k := by
  unfold Sorted at hs
  induction l with
  | nil =>
    simp only [putR]
    split
    · rename_i h
      simp only [getR]
      split
      · rename_i e; subst e; exact (nn_zero a h).symm
      · rfl
    · simp only [getR]
      by_cases h1 : k = a.id
      · subst h1; simp
      · rw [if_neg h1]; split
        · rfl
        · rw [if_neg (by omega)]
  | cons x r ih =>
    rw [List.pairwise_cons] at hs
    have ih := ih hs.2
    simp only [putR]
    split
    · rename_i hlt
      simp only [getR]
      split
      · rw [ih]
      · by_cases h1 : k = a.id
        · omega
        · rw [if_neg h1]
    · rename_i hge
      split
      · rename_i heq
        by_cases h1 : k = a.id
        · subst h1
          rw [if_pos rfl]
          split
          · rename_i hnn
            rw [getR_lt r a.id (fun y hy => by have := hs.1 y hy; omega)]
            exact (nn_zero a hnn).symm
          · simp [getR]
        · rw [if_neg h1]
          have hx : getR (x :: r) k = if x.id < k then getR r k else zeroAcc k := by
            simp only [getR]; split; rfl; rw [if_neg (by omega)]
          rw [hx]
          split
          · split
            · rfl
            · exact getR_lt r k (fun y hy => by have := hs.1 y hy; omega)
          · simp only [getR]
            rw [heq]
            split
            · rfl
            · rw [if_neg (by omega)]
      · rename_i hne
        split
        · rename_i hnn
          by_cases h1 : k = a.id
          · subst h1
            rw [if_pos rfl, getR_lt (x :: r) a.id (fun y hy => by
              rcases List.mem_cons.1 hy with rfl | hy
              · omega
              · have := hs.1 y hy; omega)]
            exact (nn_zero a hnn).symm
          · rw [if_neg h1]
        · by_cases h1 : k = a.id
          · subst h1; simp [getR]
          · rw [if_neg h1]
            by_cases h2 : a.id < k
            · simp only [getR]; rw [if_pos h2]
            · rw [getR, if_neg h2, if_neg (by omega), getR_lt (x :: r) k (fun y hy => by
                rcases List.mem_cons.1 hy with rfl | hy
                · omega
                · have := hs.1 y hy; omega)]
theorem tot_put (l : List Acc) (a : Acc) (hs : Sorted l) : totL (putR l a) = totL l - (getR l a.id).bal + a.bal := by
  unfold Sorted at hs
  have hz : nn a = true → a.bal = 0 := fun h => by rw [nn_zero a h]; rfl
  induction l with
  | nil =>
    simp only [putR, getR]
    split
    · rename_i h; rw [hz h]; simp [totL, zeroAcc]
    · simp [totL, zeroAcc]
  | cons x r ih =>
    rw [List.pairwise_cons] at hs
    have ih := ih hs.2
    simp only [putR]
    split
    · rename_i hlt
      have e : getR (x :: r) a.id = getR r a.id := by simp only [getR]; rw [if_pos hlt]
      rw [e]
      simp only [totL, List.map_cons, List.sum_cons] at ih ⊢
      omega
    · rename_i hge
      split
      · rename_i heq
        have e : getR (x :: r) a.id = x := by simp only [getR]; rw [if_neg hge, if_pos heq]
        rw [e]
        split
        · rename_i h; rw [hz h]; simp only [totL, List.map_cons, List.sum_cons]; omega
        · simp only [totL, List.map_cons, List.sum_cons]; omega
      · rename_i hne
        have e : getR (x :: r) a.id = zeroAcc a.id := by simp only [getR]; rw [if_neg hge, if_neg hne]
        rw [e]
        split
        · rename_i h; rw [hz h]; simp [totL, zeroAcc]
        · simp only [totL, List.map_cons, List.sum_cons, zeroAcc]; omega
theorem sorted_len (l : List Acc) (hs : Sorted l) (lo : Int) (hi : Int) (h : ∀ a ∈ l, lo ≤ a.id ∧ a.id < hi) (hlh : lo ≤ hi) : (l.length : Int) ≤ hi - lo := by
  unfold Sorted at hs
  induction l generalizing lo with
  | nil => simp; omega
  | cons x r ih =>
    rw [List.pairwise_cons] at hs
    have hx := h x (by simp)
    have := ih hs.2 (x.id + 1) (fun y hy => ⟨by have := hs.1 y hy; omega, (h y (by simp [hy])).2⟩) (by omega)
    simp only [List.length_cons]
    omega

/-- A state as the laws' puts make it: sorted, Ids of accounts, numbers that are mild, none of noughts. -/
structure Fine (l : List Acc) : Prop where
  sorted : Sorted l
  ids : ∀ a ∈ l, 0 ≤ a.id ∧ a.id < 256
  mild : Mild l
  some : ∀ a ∈ l, nn a = false
theorem Fine.nil : Fine [] := ⟨List.Pairwise.nil, by simp, by simp [Mild], by simp⟩
theorem Fine.len {l : List Acc} (h : Fine l) : l.length ≤ 256 := by
  have := sorted_len l h.sorted 0 256 h.ids (by omega); omega
theorem Fine.put {l : List Acc} (h : Fine l) {a : Acc} (h1 : 0 ≤ a.id ∧ a.id < 256) (h2 : -4503599627370496 ≤ a.bal ∧ a.bal ≤ 4503599627370496) : Fine (putR l a) := by
  refine ⟨sorted_putR l a h.sorted, fun x hx => ?_, fun x hx => ?_, fun x hx => ?_⟩ <;>
  · rcases mem_putR l a x hx with g | g | g
    · first | exact h.ids x g.1 | exact h.mild x g.1 | exact h.some x g.1
    · rw [g.1]; first | exact h1 | exact h2 | exact g.2
    · first | exact h.ids x g | exact h.mild x g | exact h.some x g
theorem getR_mem (l : List Acc) (i : Int) : getR l i ∈ l ∨ getR l i = zeroAcc i := by
  induction l with
  | nil => simp [getR]
  | cons x r ih =>
    simp only [getR]
    split
    · rcases ih with h | h <;> simp [h]
    · split <;> simp
theorem Fine.get_bd {l : List Acc} (h : Fine l) (i : Int) : -4503599627370496 ≤ (getR l i).bal ∧ (getR l i).bal ≤ 4503599627370496 := by
  rcases getR_mem l i with g | g
  · exact h.mild _ g
  · rw [g]; simp [zeroAcc]
theorem getR_cons (x : Acc) (r : List Acc) (hs : Sorted (x :: r)) (i : Int) : getR (x :: r) i = if i = x.id then x else getR r i := by
  have h := (List.pairwise_cons.1 hs).1
  simp only [getR]
  by_cases h1 : x.id < i
  · rw [if_pos h1, if_neg (by omega)]
  · rw [if_neg h1]
    by_cases h2 : x.id = i
    · rw [if_pos h2, if_pos h2.symm]
    · rw [if_neg h2, if_neg (fun e => h2 e.symm), getR_lt r i (fun y hy => by have := h y hy; omega)]
/-- States that answer alike are alike. -/
theorem fine_ext (a b : List Acc) (ha : Sorted a) (hb : Sorted b) (na : ∀ x ∈ a, nn x = false) (nb : ∀ x ∈ b, nn x = false) (h : ∀ i, getR a i = getR b i) : a = b := by
  induction a generalizing b with
  | nil =>
    cases b with
    | nil => rfl
    | cons y s =>
      have := h y.id
      rw [getR_cons y s hb, if_pos rfl] at this
      have hn := nb y (by simp)
      rw [← this] at hn
      simp [getR, nn_zeroAcc] at hn
  | cons x r ih =>
    have hx := List.pairwise_cons.1 ha
    cases b with
    | nil =>
      have := h x.id
      rw [getR_cons x r ha, if_pos rfl] at this
      have hn := na x (by simp)
      rw [this] at hn
      simp [getR, nn_zeroAcc] at hn
    | cons y s =>
      have hy := List.pairwise_cons.1 hb
      have hxi : x.id = y.id := by
        rcases Int.lt_trichotomy x.id y.id with hlt | heq | hgt
        · have := h x.id
          rw [getR_cons x r ha, if_pos rfl, getR_lt (y :: s) x.id (fun z hz => by
            rcases List.mem_cons.1 hz with rfl | hz
            · exact hlt
            · have := hy.1 z hz; omega)] at this
          have hn := na x (by simp)
          rw [this, nn_zeroAcc] at hn; cases hn
        · exact heq
        · have := h y.id
          rw [getR_cons y s hb, if_pos rfl, getR_lt (x :: r) y.id (fun z hz => by
            rcases List.mem_cons.1 hz with rfl | hz
            · exact hgt
            · have := hx.1 z hz; omega)] at this
          have hn := nb y (by simp)
          rw [← this, nn_zeroAcc] at hn; cases hn
      have hxy : x = y := by
        have := h x.id
        rw [getR_cons x r ha, if_pos rfl, getR_cons y s hb, if_pos hxi] at this
        exact this
      subst hxy
      congr 1
      refine ih s hx.2 hy.2 (fun z hz => na z (by simp [hz])) (fun z hz => nb z (by simp [hz])) fun i => ?_
      by_cases hi : i = x.id
      · rw [getR_lt r i (fun z hz => by have := hx.1 z hz; omega), getR_lt s i (fun z hz => by have := hy.1 z hz; omega)]
      · have := h i
        rwa [getR_cons x r ha, if_neg hi, getR_cons x s hb, if_neg hi] at this
theorem Fine.get_out {l : List Acc} (h : Fine l) (i : Int) (hi : ¬ (0 ≤ i ∧ i < 256)) : getR l i = zeroAcc i := by
  rcases getR_mem l i with g | g
  · have := h.ids _ g; rw [getR_id] at this; omega
  · exact g
theorem Fine.get_of_mem {l : List Acc} (h : Sorted l) {x : Acc} (hx : x ∈ l) : getR l x.id = x := by
  induction l with
  | nil => simp at hx
  | cons y r ih =>
    rw [getR_cons y r h]
    have hp := List.pairwise_cons.1 h
    rcases List.mem_cons.1 hx with rfl | hx
    · rw [if_pos rfl]
    · have := hp.1 x hx
      rw [if_neg (by omega)]; exact ih hp.2 hx
end Go.Proofs.Ytbijpbkekdeilaa
