/- The law's own helper 'known' of chapter 8; how its laws open their arguments. -/
import Derived.Test.YtbijpbkekdeilaaStLaw
namespace Go.Proofs.Ytbijpbkekdeilaa
set_option linter.unusedVariables false
open Go.RowKit

/-- A slice value that reads as these accounts. -/
def StV (w : World) (v : Value) (l : List Acc) : Prop := ∃ A c, v = .slice A l.length c ∧ l.length ≤ c ∧ c ≤ maxLen ∧ St w A l.length l
theorem StV.ext {w w' : World} {v : Value} {l : List Acc} (h : StV w v l) (he : Ext w w') : StV w' v l := by
  obtain ⟨A, c, h1, h2, h3, h4⟩ := h; exact ⟨A, c, h1, h2, h3, h4.ext he⟩
theorem StV.nil (w : World) : StV w (.slice none 0 0) [] := ⟨none, 0, rfl, Nat.le_refl _, by simp [maxLen], St.nil w none⟩
theorem StV.own {w : World} {B : Nat} {A : Option Addr} {n c : Nat} {l : List Acc} {e : TypeId} (hn : l.length = n) (h : Own w B e 4 A n c (accs l)) : StV w (.slice A n c) l := by
  subst hn; exact ⟨A, c, rfl, h.2.1, h.2.2.1, rfl, h.rs⟩

/-- A slice value of the call's own that reads as these accounts. -/
def OwnV (w : World) (B : Nat) (v : Value) (l : List Acc) : Prop := ∃ A c, v = .slice A l.length c ∧ Own w B 29 4 A l.length c (accs l)
theorem OwnV.st {w : World} {B : Nat} {v : Value} {l : List Acc} (h : OwnV w B v l) : StV w v l := by obtain ⟨A, c, rfl, h⟩ := h; exact StV.own rfl h
theorem OwnV.nil (w : World) (B : Nat) : OwnV w B (.slice none 0 0) [] := ⟨none, 0, rfl, Own.nil _ _ _ _ _⟩
theorem OwnV.ext {w w' : World} {B : Nat} {v : Value} {l : List Acc} (h : OwnV w B v l) (he : Ext w w') : OwnV w' B v l := by obtain ⟨A, c, e, h⟩ := h; exact ⟨A, c, e, h.ext he⟩
theorem OwnV.far {w : World} {B : Nat} {v : Value} {l : List Acc} (h : OwnV w B v l) {p : Addr} (hp : p.block < B) (u : Value) : OwnV (w.setCell p u) B v l := by obtain ⟨A, c, e, h⟩ := h; exact ⟨A, c, e, h.far hp u⟩
theorem OwnV.mono {w : World} {B B' : Nat} {v : Value} {l : List Acc} (h : OwnV w B v l) (hB : B' ≤ B) : OwnV w B' v l := by obtain ⟨A, c, e, h⟩ := h; exact ⟨A, c, e, h.mono hB⟩
theorem put_o (v : Value) (l : List Acc) (a : Acc) (w : World) (hs : StV w v l) (hn : l.length ≤ 999000) :
    Calls Try.prog 16 #[v, .agg #[.int .i64 a.id, .int .i64 a.bal, .int .i64 a.non, .int .i64 a.dat]] w fun e w' => ∃ v', e = .returned v' ∧ OwnV w' w.heap.size v' (putR l a) ∧ Ext w w' := by
  obtain ⟨A, c, rfl, h2, h3, h4⟩ := hs
  refine (put_any A _ c l a.id a.bal a.non a.dat w h4 h2 h3 hn).mono ?_
  rintro e w' ⟨A', c', rfl, ho, he⟩
  have : (⟨a.id, a.bal, a.non, a.dat⟩ : Acc) = a := rfl
  rw [this, putL_eq] at *
  exact ⟨_, rfl, ⟨_, _, rfl, ho⟩, he⟩

/-- Put, in these words. -/
theorem put_v (v : Value) (l : List Acc) (a : Acc) (w : World) (hs : StV w v l) (hn : l.length ≤ 999000) :
    Calls Try.prog 16 #[v, .agg #[.int .i64 a.id, .int .i64 a.bal, .int .i64 a.non, .int .i64 a.dat]] w fun e w' => ∃ v', e = .returned v' ∧ StV w' v' (putR l a) ∧ Ext w w' := by
  obtain ⟨A, c, rfl, h2, h3, h4⟩ := hs
  refine (put_any A _ c l a.id a.bal a.non a.dat w h4 h2 h3 hn).mono ?_
  rintro e w' ⟨A', c', rfl, ho, he⟩
  have : (⟨a.id, a.bal, a.non, a.dat⟩ : Acc) = a := rfl
  rw [this, putL_eq] at *
  exact ⟨_, rfl, StV.own rfl ho, he⟩

theorem field_id (a b c d : Int) (w : World) : (Instr.field 29 (.agg #[.int .i64 a, .int .i64 b, .int .i64 c, .int .i64 d]) 0).run Try.prog w = .ok (.int .i64 a) w := by kernel_rfl
theorem field_bal (a b c d : Int) (w : World) : (Instr.field 29 (.agg #[.int .i64 a, .int .i64 b, .int .i64 c, .int .i64 d]) 1).run Try.prog w = .ok (.int .i64 b) w := by kernel_rfl
theorem field_non (a b c d : Int) (w : World) : (Instr.field 29 (.agg #[.int .i64 a, .int .i64 b, .int .i64 c, .int .i64 d]) 2).run Try.prog w = .ok (.int .i64 c) w := by kernel_rfl
theorem field_dat (a b c d : Int) (w : World) : (Instr.field 29 (.agg #[.int .i64 a, .int .i64 b, .int .i64 c, .int .i64 d]) 3).run Try.prog w = .ok (.int .i64 d) w := by kernel_rfl

theorem get_v (v : Value) (l : List Acc) (i : Int) (w : World) (hs : StV w v l) :
    Calls Try.prog 18 #[v, .int .i64 i] w fun e w' => e = .returned (.agg #[.int .i64 (getR l i).id, .int .i64 (getR l i).bal, .int .i64 (getR l i).non, .int .i64 (getR l i).dat]) ∧ Ext w w' := by
  obtain ⟨A, c, rfl, h2, h3, h4⟩ := hs
  have := get_any A _ c l i w h4 (by omega)
  rw [getL_eq] at this
  exact this
theorem total_v (v : Value) (l : List Acc) (w : World) (hs : StV w v l) (hm : Mild l) (hn : l.length ≤ 1000) :
    Calls Try.prog 19 #[v] w fun e w' => e = .returned (.int .i64 (totL l)) ∧ Ext w w' := by
  obtain ⟨A, c, rfl, h2, h3, h4⟩ := hs
  exact total_any A _ c l w h4 hm hn
theorem same_v (u v : Value) (a b : List Acc) (w : World) (h1 : StV w u a) (h2 : StV w v b) :
    Calls Try.prog 20 #[u, v] w fun e w' => e = .returned (.bool (sameL a b)) ∧ Ext w w' := by
  obtain ⟨A1, c1, rfl, g2, g3, g4⟩ := h1
  obtain ⟨A2, c2, rfl, k2, k3, k4⟩ := h2
  exact same_any A1 A2 _ _ c1 c2 a b w g4 k4 (by omega) (by omega)

theorem known8_any (w : World) : Calls Try.prog 15 #[] w fun e w' => e = .returned (.bool true) ∧ Ext w w' := by
  have p1 : putL [] ⟨3, 5, 0, 0⟩ = [⟨3, 5, 0, 0⟩] := by rw [putL_eq]; rfl
  have p2 : putL [⟨3, 5, 0, 0⟩] ⟨3, 0, 0, 0⟩ = [] := by rw [putL_eq]; rfl
  have p3 : getL [⟨3, 5, 0, 0⟩] 3 = ⟨3, 5, 0, 0⟩ := by rw [getL_eq]; rfl
  have hfb := field_bal
  go_enter Try.func15, Try.ntmps15
  go_wp2_with fail
  refine (put_any none 0 0 [] 3 5 0 0 w (St.nil w none) (Nat.le_refl _) (by simp [maxLen]) (by omega)).mono ?_
  rintro e w1 ⟨A1, c1, rfl, ho1, he1⟩
  rw [p1] at ho1
  simp only [p1, List.length_cons, List.length_nil]
  go_wp2_with fail
  refine (get_any A1 1 c1 _ 3 w1 ⟨rfl, ho1.rs⟩ (by simp [maxLen])).mono ?_
  rintro e w2 ⟨rfl, he2⟩
  simp only [p3, Acc.val]
  go_wp2_with fail
  refine (put_any A1 1 c1 _ 3 0 0 0 w2 ⟨rfl, (ho1.ext he2).rs⟩ ho1.2.1 ho1.2.2.1 (by omega)).mono ?_
  rintro e w3 ⟨A3, c3, rfl, ho3, he3⟩
  simp only [p2, List.length_nil]
  go_wp2_with fail
  go_ret
  exact ⟨rfl, he1.trans (he2.trans he3)⟩
theorem accs_set (l : List Acc) (k : Nat) (h : k < l.length) (x : Acc) :
    accs (l.set k x) = ((((accs l).set (k * 4) (.int .i64 x.id)).set (k * 4 + 1) (.int .i64 x.bal)).set (k * 4 + 2) (.int .i64 x.non)).set (k * 4 + 3) (.int .i64 x.dat) := by
  induction l generalizing k with
  | nil => simp at h
  | cons a l ih =>
    have e : ∀ (y : Acc) (r : List Acc), accs (y :: r) = Acc.cells y ++ accs r := fun _ _ => rfl
    rcases k with _ | k
    · simp [e, Acc.cells]
    · have h' := ih k (by simpa using h)
      have key : ∀ (r : List Value) (j : Nat) (u : Value), (Acc.cells a ++ r).set (j + 4) u = Acc.cells a ++ r.set j u := fun _ _ _ => rfl
      rw [List.set_cons_succ, e, e, h', show (k + 1) * 4 = k * 4 + 4 by omega, show k * 4 + 4 + 1 = (k * 4 + 1) + 4 by omega, show k * 4 + 4 + 2 = (k * 4 + 2) + 4 by omega, show k * 4 + 4 + 3 = (k * 4 + 3) + 4 by omega, key, key, key, key]
theorem accs_set_id (l : List Acc) (k : Nat) (h : k < l.length) (v : Int) : accs (l.set k { l[k] with id := v }) = (accs l).set (k * 4) (.int .i64 v) := by
  induction l generalizing k with
  | nil => simp at h
  | cons a l ih =>
    have e : ∀ (y : Acc) (r : List Acc), accs (y :: r) = Acc.cells y ++ accs r := fun _ _ => rfl
    rcases k with _ | k
    · simp [e, Acc.cells]
    · have h' := ih k (by simpa using h)
      have key : ∀ (r : List Value) (j : Nat) (u : Value), (Acc.cells a ++ r).set (j + 4) u = Acc.cells a ++ r.set j u := fun _ _ _ => rfl
      simp only [List.getElem_cons_succ]
      rw [List.set_cons_succ, e, e, h', show (k + 1) * 4 = k * 4 + 4 by omega, key]
theorem accs_set_bal (l : List Acc) (k : Nat) (h : k < l.length) (v : Int) : accs (l.set k { l[k] with bal := v }) = (accs l).set (k * 4 + 1) (.int .i64 v) := by
  induction l generalizing k with
  | nil => simp at h
  | cons a l ih =>
    have e : ∀ (y : Acc) (r : List Acc), accs (y :: r) = Acc.cells y ++ accs r := fun _ _ => rfl
    rcases k with _ | k
    · simp [e, Acc.cells]
    · have h' := ih k (by simpa using h)
      have key : ∀ (r : List Value) (j : Nat) (u : Value), (Acc.cells a ++ r).set (j + 4) u = Acc.cells a ++ r.set j u := fun _ _ _ => rfl
      simp only [List.getElem_cons_succ]
      rw [List.set_cons_succ, e, e, h', show (k + 1) * 4 + 1 = (k * 4 + 1) + 4 by omega, key]
theorem accs_set_non (l : List Acc) (k : Nat) (h : k < l.length) (v : Int) : accs (l.set k { l[k] with non := v }) = (accs l).set (k * 4 + 2) (.int .i64 v) := by
  induction l generalizing k with
  | nil => simp at h
  | cons a l ih =>
    have e : ∀ (y : Acc) (r : List Acc), accs (y :: r) = Acc.cells y ++ accs r := fun _ _ => rfl
    rcases k with _ | k
    · simp [e, Acc.cells]
    · have h' := ih k (by simpa using h)
      have key : ∀ (r : List Value) (j : Nat) (u : Value), (Acc.cells a ++ r).set (j + 4) u = Acc.cells a ++ r.set j u := fun _ _ _ => rfl
      simp only [List.getElem_cons_succ]
      rw [List.set_cons_succ, e, e, h', show (k + 1) * 4 + 2 = (k * 4 + 2) + 4 by omega, key]
theorem accs_set_dat (l : List Acc) (k : Nat) (h : k < l.length) (v : Int) : accs (l.set k { l[k] with dat := v }) = (accs l).set (k * 4 + 3) (.int .i64 v) := by
  induction l generalizing k with
  | nil => simp at h
  | cons a l ih =>
    have e : ∀ (y : Acc) (r : List Acc), accs (y :: r) = Acc.cells y ++ accs r := fun _ _ => rfl
    rcases k with _ | k
    · simp [e, Acc.cells]
    · have h' := ih k (by simpa using h)
      have key : ∀ (r : List Value) (j : Nat) (u : Value), (Acc.cells a ++ r).set (j + 4) u = Acc.cells a ++ r.set j u := fun _ _ _ => rfl
      simp only [List.getElem_cons_succ]
      rw [List.set_cons_succ, e, e, h', show (k + 1) * 4 + 3 = (k * 4 + 3) + 4 by omega, key]
theorem sameL_ne {a b : List Acc} (h : a ≠ b) : sameL a b = false := by
  cases hs : sameL a b with
  | false => rfl
  | true => exact absurd ((sameL_iff a b).1 hs) h
theorem set_ne {l : List Acc} {k : Nat} (h : k < l.length) {x : Acc} (hx : x ≠ l[k]) : l.set k x ≠ l := by
  intro he
  have : (l.set k x)[k]'(by simpa using h) = l[k] := by simp [he]
  simp at this
  exact hx this
end Go.Proofs.Ytbijpbkekdeilaa
