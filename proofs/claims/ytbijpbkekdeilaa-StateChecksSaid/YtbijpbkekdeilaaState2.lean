/- The functions of package state, more: Get, Total, Same. -/
import Derived.Test.YtbijpbkekdeilaaState
namespace Go.Proofs.Ytbijpbkekdeilaa
set_option linter.unusedVariables false
open Go.RowKit
theorem ret_bool {a b : Bool} (h : a = b) : Ending.returned (.bool a) = .returned (.bool b) := by rw [h]
def zeroAcc (i : Int) : Acc := ⟨i, 0, 0, 0⟩
/-- What Get tells. -/
def getL (l : List Acc) (i : Int) : Acc :=
  match l.drop (atL l i) with
  | [] => zeroAcc i
  | x :: _ => if x.id = i then x else zeroAcc i
def Acc.val (a : Acc) : Value := .agg #[.int .i64 a.id, .int .i64 a.bal, .int .i64 a.non, .int .i64 a.dat]

theorem acc_eq {i : Int} (x : Acc) (h : x.id = i) : x = ⟨i, x.bal, x.non, x.dat⟩ := by subst h; rfl
theorem get_any (A : Option Addr) (n c : Nat) (l : List Acc) (i : Int) (w : World) (hs : St w A n l) (hn : n ≤ maxLen) :
    Calls Try.prog 18 #[.slice A n c, .int .i64 i] w fun e w' => e = .returned (getL l i).val ∧ Ext w w' := by
  have hat := fun w1 (h : Ext w w1) => at_any A n c l i w1 (hs.ext h) hn
  have Hat := Lib.hid hat
  clear hat
  unfold maxLen at hn
  have hk := atL_le l i
  rw [hs.1] at hk
  have ways : (n ≤ atL l i ∧ Hid (getL l i = zeroAcc i)) ∨
      (∃ (b o : Nat) (x : Acc), A = some ⟨b, o, none⟩ ∧ atL l i < n ∧ x.id ≠ i ∧ Hid (w.cell? ⟨b, o + atL l i * 4, none⟩ = some (.int .i64 x.id)) ∧ Hid (getL l i = zeroAcc i)) ∨
      (∃ (b o : Nat) (x y z : Int), A = some ⟨b, o, none⟩ ∧ atL l i < n ∧ Hid (w.cell? ⟨b, o + atL l i * 4, none⟩ = some (.int .i64 i)) ∧ Hid (w.cell? ⟨b, o + atL l i * 4 + 1, none⟩ = some (.int .i64 x)) ∧
        Hid (w.cell? ⟨b, o + atL l i * 4 + 2, none⟩ = some (.int .i64 y)) ∧ Hid (w.cell? ⟨b, o + atL l i * 4 + 3, none⟩ = some (.int .i64 z)) ∧ Hid (getL l i = ⟨i, x, y, z⟩)) := by
    rcases Nat.lt_or_ge (atL l i) n with hlt | hge
    · refine .inr ?_
      have hl : atL l i < l.length := by rw [hs.1]; exact hlt
      obtain ⟨b, o, e, _, c0, c1, c2, c3⟩ := hs.at_ (atL l i) hl
      have hd : getL l i = if (l[atL l i]).id = i then l[atL l i] else zeroAcc i := by
        unfold getL; rw [List.drop_eq_getElem_cons hl]
      by_cases hx : (l[atL l i]).id = i
      · rw [if_pos hx] at hd
        rw [hx] at c0
        exact .inr ⟨b, o, _, _, _, e, hlt, c0, c1, c2, c3, hd.trans (acc_eq _ hx)⟩
      · rw [if_neg hx] at hd
        exact .inl ⟨b, o, _, e, hlt, hx, c0, hd⟩
    · exact .inl ⟨hge, by unfold getL; rw [List.drop_of_length_le (by rw [hs.1]; omega)]; exact rfl⟩
  rcases ways with ⟨h1, hg⟩ | ⟨b, o, x, rfl, h1, hx, c0, hg⟩ | ⟨b, o, x, y, z, rfl, h1, c0, c1, c2, c3, hg⟩
  · have h1' : ¬ (atL l i < n) := by omega
    go_enter Try.func18, Try.ntmps18
    go_wp2_with fail
    refine (Hat.out _ ((Ext.refl w).alloc _)).mono ?_
    rintro e w' ⟨rfl, rfl⟩
    go_wp2_with fail
    exact bodyPost_ret (v := (zeroAcc i).val) (by simp [results, Try.results18, go_sem, zeroAcc, Acc.val]) rfl ⟨by rw [hg.out], (Ext.refl w).alloc _⟩
  · have c0' := fun w1 (h : Ext w w1) => h.cell c0.out
    have hx' : (x.id == i) = false := by simpa using hx
    have e0 := c0' _ ((Ext.refl w).alloc (.cells #[.int .i64 0, .int .i64 0, .int .i64 0, .int .i64 0] 29))
    clear c0' hx
    go_enter Try.func18, Try.ntmps18
    go_wp2_with fail
    refine (Hat.out _ ((Ext.refl w).alloc _)).mono ?_
    rintro e w' ⟨rfl, rfl⟩
    go_wp2_with fail
    exact bodyPost_ret (v := (zeroAcc i).val) (by simp [results, Try.results18, go_sem, zeroAcc, Acc.val]) rfl ⟨by rw [hg.out], (Ext.refl w).alloc _⟩
  · have E := (Ext.refl w).alloc (.cells #[.int .i64 0, .int .i64 0, .int .i64 0, .int .i64 0] 29)
    have e0 := E.cell c0.out
    have e1 := E.cell c1.out
    have e2 := E.cell c2.out
    have e3 := E.cell c3.out
    clear E
    go_enter Try.func18, Try.ntmps18
    go_wp2_with fail
    refine (Hat.out _ ((Ext.refl w).alloc _)).mono ?_
    rintro e w' ⟨rfl, rfl⟩
    go_wp2_with fail
    exact bodyPost_ret (v := (⟨i, x, y, z⟩ : Acc).val) (by simp [results, Try.results18, go_sem, Acc.val]) rfl ⟨by rw [hg.out], (Ext.refl w).alloc _⟩

def totL (l : List Acc) : Int := (l.map Acc.bal).sum
def Mild (l : List Acc) : Prop := ∀ a ∈ l, -4503599627370496 ≤ a.bal ∧ a.bal ≤ 4503599627370496
theorem totL_bd (l : List Acc) (h : Mild l) : -4503599627370496 * (l.length : Int) ≤ totL l ∧ totL l ≤ 4503599627370496 * (l.length : Int) := by
  induction l with
  | nil => simp [totL]
  | cons a l ih =>
    have h1 := h a (by simp)
    have h2 := ih (fun x hx => h x (by simp [hx]))
    simp only [totL, List.map_cons, List.sum_cons, List.length_cons] at h2 ⊢
    omega
theorem totL_snoc (l : List Acc) (k : Nat) (h : k < l.length) : totL (l.take (k + 1)) = totL (l.take k) + (l[k]).bal := by
  rw [List.take_succ_eq_append_getElem h]
  simp only [totL, List.map_append, List.sum_append, List.map_cons, List.map_nil, List.sum_cons, List.sum_nil]; omega
theorem total_any (A : Option Addr) (n c : Nat) (l : List Acc) (w : World) (hs : St w A n l) (hm : Mild l) (hn : n ≤ 1000) :
    Calls Try.prog 19 #[.slice A n c] w fun e w' => e = .returned (.int .i64 (totL l)) ∧ Ext w w' := by
  have hp := hs.at_
  obtain ⟨rfl, -⟩ := hs
  go_enter Try.func19, Try.ntmps19
  go_wp2
  go_loopw [3, 8] (fun t i wr => ∃ k : Nat, k ≤ l.length ∧ i = .int .i64 k ∧ t = .int .i64 (totL (l.take k)) ∧ Ext w wr) (fun _ i _ => l.length - (intOf i).toNat)
  case atStart => exact ⟨0, by omega, rfl, rfl, Ext.refl w⟩
  case round =>
    obtain ⟨k, hk, rfl, rfl, he⟩ := hrel
    by_cases hlt : k < l.length
    · obtain ⟨b, o, rfl, _, d0, d1, d2, d3⟩ := hp k hlt
      have c0 := he.cell d0
      have c1 := he.cell d1
      have c2 := he.cell d2
      have c3 := he.cell d3
      have hsn := Lib.hid (totL_snoc l k hlt)
      have hb1 := totL_bd (l.take k) (fun a ha => hm a (List.mem_of_mem_take ha))
      have hb2 := hm l[k] (List.getElem_mem hlt)
      have hb3 : (l.take k).length ≤ k := List.length_take_le _ _
      obtain ⟨f1, f2⟩ := hb1
      obtain ⟨f3, f4⟩ := hb2
      have f5 : -4503599627370496000 ≤ totL (l.take k) := by omega
      have f6 : totL (l.take k) ≤ 4503599627370496000 := by omega
      clear hp d0 d1 d2 d3 f1 f2 hb3
      go_wp2
      go_roundw
      case rel => exact ⟨k + 1, by omega, by go_num, by rw [hsn.out], he.alloc _⟩
      case measure => simp [intOf]; omega
    · have hk' : k = l.length := by omega
      have hK := Lib.hid hk'
      clear hp hk'
      go_wp2
      go_ret
      exact ⟨ret_int (by rw [hK.out, List.take_length]), he⟩

def Acc.eqB (x y : Acc) : Bool := x.id == y.id && x.bal == y.bal && x.non == y.non && x.dat == y.dat
theorem Acc.eqB_iff (x y : Acc) : x.eqB y = true ↔ x = y := by
  cases x; cases y; simp [Acc.eqB, and_assoc]
theorem run_eq_acc (x y : Acc) (w : World) : (binOp .eql 29 (.agg #[.int .i64 x.id, .int .i64 x.bal, .int .i64 x.non, .int .i64 x.dat]) (.agg #[.int .i64 y.id, .int .i64 y.bal, .int .i64 y.non, .int .i64 y.dat])).run Try.prog w = .ok (.bool (x.eqB y)) w := by
  by_cases h1 : x.id = y.id <;> by_cases h2 : x.bal = y.bal <;> by_cases h3 : x.non = y.non <;> by_cases h4 : x.dat = y.dat <;> simp [go_sem, Acc.eqB, h1, h2, h3, h4]
theorem run_neq_acc (x y : Acc) (w : World) : (binOp .neq 29 (.agg #[.int .i64 x.id, .int .i64 x.bal, .int .i64 x.non, .int .i64 x.dat]) (.agg #[.int .i64 y.id, .int .i64 y.bal, .int .i64 y.non, .int .i64 y.dat])).run Try.prog w = .ok (.bool (!(x.eqB y))) w := by
  by_cases h1 : x.id = y.id <;> by_cases h2 : x.bal = y.bal <;> by_cases h3 : x.non = y.non <;> by_cases h4 : x.dat = y.dat <;> simp [go_sem, Acc.eqB, h1, h2, h3, h4]
def sameL (a b : List Acc) : Bool := a.length == b.length && (a.zip b).all (fun p => p.1.eqB p.2)
theorem sameL_iff (a b : List Acc) : sameL a b = true ↔ a = b := by
  induction a generalizing b with
  | nil => cases b <;> simp [sameL]
  | cons x a ih =>
    cases b with
    | nil => simp [sameL]
    | cons y b =>
      have := ih b
      simp [sameL, Acc.eqB_iff] at this ⊢
      constructor
      · rintro ⟨h1, h2, h3⟩; exact ⟨h2, this.1 ⟨h1, h3⟩⟩
      · rintro ⟨h2, h3⟩; have := this.2 h3; exact ⟨this.1, h2, this.2⟩
theorem sameL_self (a : List Acc) : sameL a a = true := (sameL_iff a a).2 rfl

set_option maxHeartbeats 1000000 in
theorem same_any (A1 A2 : Option Addr) (n1 n2 c1 c2 : Nat) (a b : List Acc) (w : World) (h1 : St w A1 n1 a) (h2 : St w A2 n2 b) (hn1 : n1 ≤ maxLen) (hn2 : n2 ≤ maxLen) :
    Calls Try.prog 20 #[.slice A1 n1 c1, .slice A2 n2 c2] w fun e w' => e = .returned (.bool (sameL a b)) ∧ Ext w w' := by
  unfold maxLen at hn1 hn2
  by_cases hlen : n1 = n2
  · subst hlen
    have hp := h1.at_
    have hq := h2.at_
    obtain ⟨rfl, -⟩ := h1
    have hl2 := h2.1
    clear h2
    have Hl2 := Lib.hid hl2
    clear hl2
    have hd : ((a.length : Int) != (a.length : Int)) = false := by simp
    go_enter Try.func20, Try.ntmps20
    go_wp2
    go_loopw [14] (fun i wr => ∃ k : Nat, k ≤ a.length ∧ i = .int .i64 k ∧ a.take k = b.take k ∧ Ext w wr) (fun i _ => a.length - (intOf i).toNat)
    case atStart => exact ⟨0, by omega, rfl, by simp, Ext.refl w⟩
    case round =>
      obtain ⟨k, hk, rfl, hsam, he⟩ := hrel
      have Hs := Lib.hid hsam
      clear hsam hd
      by_cases hlt : k < a.length
      · have hlb : k < b.length := by rw [Hl2.out]; exact hlt
        obtain ⟨b1, o1, rfl, _, d0, d1, d2, d3⟩ := hp k hlt
        obtain ⟨b2, o2, rfl, hb2, e0, e1, e2, e3⟩ := hq k hlb
        have hb2 := he.lt hb2
        have c0 := he.cell d0
        have c1' := he.cell d1
        have c2' := he.cell d2
        have c3 := he.cell d3
        have g0 := he.cell e0
        have g1 := he.cell e1
        have g2 := he.cell e2
        have g3 := he.cell e3
        clear hp hq d0 d1 d2 d3 e0 e1 e2 e3
        have hneq := fun w => run_neq_acc a[k] b[k] w
        cases hxy : Acc.eqB a[k] b[k]
        · go_wp2
          go_quiet (fail)
          go_wp2
          go_ret
          have hne : sameL a b = false := by
            cases hs : sameL a b with
            | false => rfl
            | true =>
              have := (sameL_iff a b).1 hs
              subst this
              have h1 := (Acc.eqB_iff a[k] a[k]).2 rfl
              rw [hxy] at h1; cases h1
          exact ⟨ret_bool hne.symm, (he.alloc _).drewN _⟩
        · go_wp2
          go_quiet (fail)
          go_wp2
          go_roundw
          case rel => exact ⟨k + 1, by omega, by go_num, by rw [List.take_succ_eq_append_getElem hlt, List.take_succ_eq_append_getElem hlb, Hs.out, (Acc.eqB_iff _ _).1 hxy], (he.alloc _).drewN _⟩
          case measure => simp [intOf]; omega
      · have hk' : k = a.length := by omega
        have hK := Lib.hid hk'
        clear hp hq hk'
        go_wp2
        go_ret
        have : a = b := by
          have := Hs.out
          rw [hK.out, List.take_length, ← Hl2.out, List.take_length] at this
          exact this
        exact ⟨ret_bool (by rw [this, sameL_self]), he⟩
  · have hd : ((n1 : Int) != (n2 : Int)) = true := by simp; omega
    have hne : sameL a b = false := by
      have := h1.1; have := h2.1
      simp [sameL]; intro h; omega
    go_enter Try.func20, Try.ntmps20
    go_wp2
    go_ret
    exact ⟨ret_bool (by rw [hne]), Ext.refl w⟩

end Go.Proofs.Ytbijpbkekdeilaa
