/- The functions of package state and their references: what each call computes, said of lists of accounts. -/
import Derived.Test.YtbijpbkekdeilaaRows
import Derived.Test.YtbijpbkekdeilaaMem
import Derived.BigQuiet
import Derived.Deep.QuietTactic
import Derived.StillTailTactics
namespace Go.Proofs.Ytbijpbkekdeilaa
set_option linter.unusedVariables false
open Go.RowKit

structure Acc where
  id : Int
  bal : Int
  non : Int
  dat : Int
def Acc.cells (a : Acc) : List Value := [.int .i64 a.id, .int .i64 a.bal, .int .i64 a.non, .int .i64 a.dat]
def accs (l : List Acc) : List Value := l.flatMap Acc.cells
theorem accs_length (l : List Acc) : (accs l).length = l.length * 4 := by
  induction l with
  | nil => rfl
  | cons a l ih => simp only [accs, List.flatMap_cons, List.length_append, List.length_cons] at ih ⊢; rw [ih]; simp [Acc.cells]; omega
theorem accs_get (l : List Acc) (k : Nat) (h : k < l.length) : (accs l)[4 * k]? = some (.int .i64 (l[k]).id) ∧ (accs l)[4 * k + 1]? = some (.int .i64 (l[k]).bal) ∧ (accs l)[4 * k + 2]? = some (.int .i64 (l[k]).non) ∧ (accs l)[4 * k + 3]? = some (.int .i64 (l[k]).dat) := by
  induction l generalizing k with
  | nil => simp at h
  | cons a l ih =>
    rcases k with _ | k
    · simp [accs, Acc.cells]
    · have h' := ih k (by simpa using h)
      have e : accs (a :: l) = Acc.cells a ++ accs l := rfl
      have hl : (Acc.cells a).length = 4 := rfl
      rw [e]
      simp only [List.getElem_cons_succ]
      refine ⟨?_, ?_, ?_, ?_⟩ <;> rw [List.getElem?_append_right (by rw [hl]; omega), hl]
      · exact h'.1
      · rw [show 4 * (k + 1) + 1 - 4 = 4 * k + 1 by omega]; exact h'.2.1
      · rw [show 4 * (k + 1) + 2 - 4 = 4 * k + 2 by omega]; exact h'.2.2.1
      · rw [show 4 * (k + 1) + 3 - 4 = 4 * k + 3 by omega]; exact h'.2.2.2

theorem accs_append (l r : List Acc) : accs (l ++ r) = accs l ++ accs r := by simp [accs]
theorem Acc.cells_one (a : Acc) : ∀ u ∈ a.cells, u.oneCell' = true := by
  intro u hu
  simp [Acc.cells] at hu
  rcases hu with rfl | rfl | rfl | rfl <;> rfl
/-- The slice value '.slice A n _' reads as these accounts. -/
def St (w : World) (A : Option Addr) (n : Nat) (l : List Acc) : Prop := l.length = n ∧ RS w 4 A n (accs l)
theorem St.ext {w w' : World} {A : Option Addr} {n : Nat} {l : List Acc} (h : St w A n l) (hb : Ext w w') : St w' A n l := ⟨h.1, RS.ext h.2 hb⟩
theorem St.nil (w : World) (A : Option Addr) : St w A 0 [] := ⟨rfl, RS.nil w 4 A⟩
theorem St.at_ {w : World} {A : Option Addr} {n : Nat} {l : List Acc} (h : St w A n l) : ∀ k (hk : k < l.length), ∃ b o, A = some ⟨b, o, none⟩ ∧ b < w.heap.size ∧
    w.cell? ⟨b, o + k * 4, none⟩ = some (.int .i64 (l[k]).id) ∧ w.cell? ⟨b, o + k * 4 + 1, none⟩ = some (.int .i64 (l[k]).bal) ∧ w.cell? ⟨b, o + k * 4 + 2, none⟩ = some (.int .i64 (l[k]).non) ∧ w.cell? ⟨b, o + k * 4 + 3, none⟩ = some (.int .i64 (l[k]).dat) := by
  intro k hk
  obtain ⟨rfl, h⟩ := h
  obtain ⟨b, o, e, hb, hc⟩ := RS.pos h (by omega)
  refine ⟨b, o, e, hb, ?_⟩
  obtain ⟨g0, g1, g2, g3⟩ := accs_get l k hk
  rw [Nat.mul_comm] at g0 g1 g2 g3
  exact ⟨hc _ _ g0, hc _ _ g1, hc _ _ g2, hc _ _ g3⟩
theorem accs_drop_take (l : List Acc) (lo m : Nat) : ((accs l).drop (lo * 4)).take (m * 4) = accs ((l.drop lo).take m) := by
  induction lo generalizing l with
  | zero =>
    simp only [Nat.zero_mul, List.drop_zero]
    induction m generalizing l with
    | zero => simp [accs]
    | succ m ih =>
      cases l with
      | nil => simp [accs]
      | cons a l =>
        have e : accs (a :: l) = Acc.cells a ++ accs l := rfl
        rw [e, List.take_append, List.take_of_length_le (by simp [Acc.cells]; omega), show (m + 1) * 4 - (Acc.cells a).length = m * 4 by simp [Acc.cells]; omega, ih]
        rfl
  | succ lo ih =>
    cases l with
    | nil => simp [accs]
    | cons a l =>
      have e : accs (a :: l) = Acc.cells a ++ accs l := rfl
      rw [e, List.drop_append, List.drop_of_length_le (by simp [Acc.cells]; omega), show (lo + 1) * 4 - (Acc.cells a).length = lo * 4 by simp [Acc.cells]; omega, List.nil_append, ih]
      rfl
theorem St.cut {w : World} {A : Option Addr} {n lo hi c : Nat} {l : List Acc} (h : St w A n l) (h1 : lo ≤ hi) (h2 : hi ≤ n) (hc : n ≤ c) :
    St w (if c = lo then A else A.map (·.add (lo * 4))) (hi - lo) ((l.drop lo).take (hi - lo)) := by
  refine ⟨by rw [List.length_take, List.length_drop, h.1]; omega, ?_⟩
  rw [← accs_drop_take]
  exact h.2.cut h1 h2 hc
theorem St.take {w : World} {A : Option Addr} {n k : Nat} {l : List Acc} (h : St w A n l) (h2 : k ≤ n) : St w A k (l.take k) := by
  have := h.cut (lo := 0) (hi := k) (c := n + 1) (by omega) h2 (by omega)
  simp only [Nat.zero_mul, List.drop_zero, Nat.sub_zero] at this
  rw [if_neg (by omega)] at this
  cases A with
  | none => simpa using this
  | some a => simpa [Addr.add] using this

theorem ret_int {k : IntKind} {a b : Int} (h : a = b) : Ending.returned (.int k a) = .returned (.int k b) := by rw [h]
def noneB (b n d : Int) : Bool := b == 0 && n == 0 && d == 0
theorem noneB_eq (b n d : Int) : noneB b n d = decide (b = 0 ∧ n = 0 ∧ d = 0) := by
  unfold noneB; rw [Bool.eq_iff_iff]; simp [and_assoc]

theorem none_any (i b n d : Int) (w : World) :
    Calls Try.prog 42 #[.agg #[.int .i64 i, .int .i64 b, .int .i64 n, .int .i64 d]] w fun e w' => e = .returned (.bool (noneB b n d)) ∧ Ext w w' := by
  go_enter Try.func42, Try.ntmps42
  go_wp2
  all_goals (go_ret; exact ⟨by rw [noneB_eq]; simp [*], (Ext.refl w).alloc _⟩)

theorem tmod_bd (a n : Int) (hn : 0 < n) : -n < a.tmod n ∧ a.tmod n < n := by
  have h1 := Int.tmod_lt_of_pos a hn
  have h2 := Int.tmod_lt_of_pos (-a) hn
  rw [Int.neg_tmod] at h2
  omega
theorem tmod_neg (a n : Int) (hn : 0 < n) (h : a.tmod n < 0) : a.tmod n + n = a % n := by
  rw [Int.emod_eq_tmod]
  have h1 : ¬ 0 ≤ a := fun h0 => by have := Int.tmod_nonneg n h0; omega
  have h2 : ¬ n ∣ a := fun h0 => by have := Int.tmod_eq_zero_of_dvd h0; omega
  simp [h1, h2]
  omega
theorem tmod_pos (a n : Int) (hn : 0 < n) (h : 0 ≤ a.tmod n) : a.tmod n = a % n := by
  rw [Int.emod_eq_tmod]
  by_cases h1 : 0 ≤ a
  · simp [h1]
  · by_cases h2 : n ∣ a
    · simp [h2]
    · exfalso
      have h3 : a.tmod n ≠ 0 := fun h0 => h2 (Int.dvd_of_tmod_eq_zero h0)
      have h4 := Int.tmod_nonneg n (a := -a) (by omega)
      rw [Int.neg_tmod] at h4
      omega

theorem within_any (a n : Int) (hn : 0 < n) (hn2 : n < 4611686018427387904) (w : World) :
    Calls Try.prog 17 #[.int .i64 a, .int .i64 n] w fun e w' => e = .returned (.int .i64 (a % n)) ∧ w = w' := by
  have hb := tmod_bd a n hn
  obtain ⟨hb1, hb2⟩ := hb
  go_enter Try.func17, Try.ntmps17
  go_wp2
  · have h : a.tmod n < 0 := by assumption
    go_ret
    exact ⟨ret_int (tmod_neg a n hn h), rfl⟩
  · have h : 0 ≤ a.tmod n := by assumption
    go_ret
    exact ⟨ret_int (tmod_pos a n hn h), rfl⟩

def atL (l : List Acc) (id : Int) : Nat := (l.takeWhile (fun a => a.id < id)).length
theorem atL_le (l : List Acc) (id : Int) : atL l id ≤ l.length := (List.takeWhile_sublist _).length_le
theorem takeWhile_at {α : Type} (p : α → Bool) (l : List α) (k : Nat) (h1 : ∀ j (hj : j < l.length), j < k → p l[j] = true) (h2 : k ≤ l.length) (h3 : (h : k < l.length) → p l[k] = false) : (l.takeWhile p).length = k := by
  induction l generalizing k with
  | nil => simp at h2 ⊢; omega
  | cons a l ih =>
    rcases k with _ | k
    · have := h3 (by simp); simp at this; simp [this]
    · have h0 := h1 0 (by simp) (by omega)
      simp at h0
      simp only [List.takeWhile_cons, h0, if_true, List.length_cons]
      rw [ih k (fun j hj hk => by have := h1 (j + 1) (by simpa using hj) (by omega); simpa using this) (by simpa using h2) (fun h => by have := h3 (by simpa using h); simpa using this)]
theorem at_any (A : Option Addr) (n c : Nat) (l : List Acc) (id : Int) (w : World) (hs : St w A n l) (hn : n ≤ maxLen) :
    Calls Try.prog 40 #[.slice A n c, .int .i64 id] w fun e w' => e = .returned (.int .i64 (atL l id)) ∧ w = w' := by
  unfold maxLen at hn
  have hp := hs.at_
  obtain ⟨rfl, -⟩ := hs
  go_enter Try.func40, Try.ntmps40
  go_wp2
  go_loop [5] (fun i => ∃ k : Nat, k ≤ l.length ∧ i = .int .i64 k ∧ ∀ j (hj : j < l.length), j < k → (l[j]).id < id) (fun i => l.length - (intOf i).toNat)
  case atStart => exact ⟨0, by omega, rfl, fun _ _ h => absurd h (by omega)⟩
  case round =>
    obtain ⟨k, hk, rfl, hat⟩ := hrel
    have Hat := Lib.hid hat
    clear hat
    by_cases hlt : k < l.length
    · obtain ⟨b, o, rfl, _, hc, _, _, _⟩ := hp k hlt
      clear hp
      go_wp2
      · have h : l[k].id < id := by assumption
        go_round
        case rel => exact ⟨k + 1, by omega, by go_num, fun j hj hk' => by
          rcases Nat.lt_succ_iff_lt_or_eq.1 hk' with h' | rfl
          · exact Hat.out j hj h'
          · exact h⟩
        case measure => simp [intOf]; omega
      · have h : id ≤ l[k].id := by assumption
        go_ret
        exact ⟨ret_int (by unfold atL; rw [takeWhile_at _ l k (fun j hj hk' => by simpa using Hat.out j hj hk') hk (fun _ => by simpa using h)]), rfl⟩
    · clear hp
      go_wp2
      go_ret
      exact ⟨ret_int (by unfold atL; rw [takeWhile_at _ l k (fun j hj hk' => by simpa using Hat.out j hj hk') hk (fun h => absurd h hlt)]), rfl⟩

theorem acc_elem : ElemFacts Try.prog 25 29 4 32 := elem_mk Try.underlying25 (by kernel_rfl) (by omega)
theorem accs_one (l : List Acc) : ∀ u ∈ accs l, u.oneCell' = true := by
  intro u hu
  obtain ⟨a, _, h⟩ := List.mem_flatMap.1 hu
  simp [Acc.cells] at h
  rcases h with rfl | rfl | rfl | rfl <;> rfl

theorem own_any (A : Option Addr) (n c : Nat) (l : List Acc) (w : World) (hs : St w A n l) (hc : n ≤ c) (hc2 : c ≤ maxLen) (hn : n ≤ 1000000) :
    Calls Try.prog 41 #[.slice A n c] w fun e w' => ∃ A' c', e = .returned (.slice A' n c') ∧ Own w' w.heap.size 29 4 A' n c' (accs l) ∧ Ext w w' := by
  unfold maxLen at hc2
  go_enter Try.func41, Try.ntmps41
  go_wp2
  go_still_tail 6, (by kernel_rfl)
  refine wpList_append_Own rfl (.tmp 7) (.tmp 11) _ rfl w.heap.size acc_elem (A := A) (n := 0) (c := 0) (xs := []) rfl (Own.nil _ _ _ _ _) (A2 := A) (m := n) (c2 := n) rfl hs.2 (accs_one l) (by simp only [maxLen]; omega) (by omega) (Nat.le_refl _) ?_
  intro A' c' w' h1 h2
  go_wp2
  go_ret
  exact ⟨A', c', rfl, by simpa using h1, ext_drew_grown h2⟩

/-- What Put puts. -/
def putL (l : List Acc) (a : Acc) : List Acc :=
  l.take (atL l a.id) ++ (if noneB a.bal a.non a.dat then [] else [a]) ++
    (match l.drop (atL l a.id) with
     | [] => []
     | x :: r => if x.id = a.id then r else x :: r)

theorem St.rest {w : World} {A : Option Addr} {n c k : Nat} {l : List Acc} (h : St w A n l) (hk : k ≤ n) (hc : n ≤ c) :
    ∃ A3, (∀ w, (Instr.slice 25 (.slice A n c) (some (.int .i64 (k : Int))) none none).run Try.prog w = .ok (.slice A3 (n - k) (c - k)) w) ∧ St w A3 (n - k) (l.drop k) := by
  refine ⟨cutA A c k 4, acc_elem.cut_lo A n c k .i64 hk, ?_⟩
  have := h.cut hk (Nat.le_refl _) hc
  rw [List.take_of_length_le (by rw [List.length_drop, h.1]; omega)] at this
  exact this

set_option maxHeartbeats 1000000 in
theorem put_any (A : Option Addr) (n c : Nat) (l : List Acc) (i b m d : Int) (w : World) (hs : St w A n l) (hc : n ≤ c) (hc2 : c ≤ maxLen) (hn : n ≤ 999000) :
    Calls Try.prog 16 #[.slice A n c, .agg #[.int .i64 i, .int .i64 b, .int .i64 m, .int .i64 d]] w fun e w' =>
      ∃ A' c', e = .returned (.slice A' (putL l ⟨i, b, m, d⟩).length c') ∧ Own w' w.heap.size 29 4 A' (putL l ⟨i, b, m, d⟩).length c' (accs (putL l ⟨i, b, m, d⟩)) ∧ Ext w w' := by
  unfold maxLen at hc2
  have hk := atL_le l i
  rw [hs.1] at hk
  obtain ⟨A0, hcut, hrest0⟩ := hs.rest hk hc
  generalize hq : n - atL l i = q0 at *
  generalize hp : c - atL l i = p0 at *
  have hqp : q0 ≤ p0 := by omega
  have hqn : atL l i + q0 ≤ n := by omega
  have hpm : p0 ≤ 2 ^ 63 - 1 := by omega
  clear hq hp
  have hat := fun w1 (h : Ext w w1) => at_any A n c l i w1 (hs.ext h) (by unfold maxLen; omega)
  have hown := fun w1 (h : Ext w w1) => own_any A (atL l i) (atL l i) (l.take (atL l i)) w1 ((hs.ext h).take hk) (Nat.le_refl _) (by unfold maxLen; omega) (by omega)
  have Hat := Lib.hid hat
  have Hown := Lib.hid hown
  have Hput : Hid (putL l ⟨i, b, m, d⟩ = l.take (atL l i) ++ (if noneB b m d then [] else [⟨i, b, m, d⟩]) ++ (match l.drop (atL l i) with
     | [] => []
     | x :: r => if x.id = i then r else x :: r)) := Lib.hid rfl
  have htk : (l.take (atL l i)).length = atL l i := by rw [List.length_take, hs.1]; omega
  have Htk := Lib.hid htk
  clear hat hown htk
  generalize putL l ⟨i, b, m, d⟩ = out at *
  generalize l.drop (atL l i) = rl0 at *
  generalize l.take (atL l i) = tk at *
  have tails : (q0 = 0 ∧ Hid (out = tk ++ (if noneB b m d then [] else [⟨i, b, m, d⟩]) ++ rl0)) ∨
      (∃ b3 o3 x, A0 = some ⟨b3, o3, none⟩ ∧ 0 < q0 ∧ w.cell? ⟨b3, o3, none⟩ = some (.int .i64 x) ∧ x ≠ i ∧ Hid (out = tk ++ (if noneB b m d then [] else [⟨i, b, m, d⟩]) ++ rl0)) ∨
      (∃ b3 o3 r, A0 = some ⟨b3, o3, none⟩ ∧ 0 < q0 ∧ w.cell? ⟨b3, o3, none⟩ = some (.int .i64 i) ∧ Hid (out = tk ++ (if noneB b m d then [] else [⟨i, b, m, d⟩]) ++ r) ∧
        ∃ A3, (∀ w, (Instr.slice 25 (.slice A0 q0 p0) (some (.int .i64 1)) none none).run Try.prog w = .ok (.slice A3 (q0 - 1) (p0 - 1)) w) ∧ St w A3 (q0 - 1) r) := by
    cases rl0 with
    | nil => exact .inl ⟨by simpa using hrest0.1.symm, Lib.hid Hput.out⟩
    | cons x r =>
      obtain ⟨b3, o3, e3, hb3, hx0, -⟩ := hrest0.at_ 0 (by simp)
      have hl0 := hrest0.1
      simp only [List.length_cons] at hl0
      refine .inr ?_
      have hH := Hput.out
      simp only at hH
      simp only [Nat.zero_mul, Nat.add_zero, List.getElem_cons_zero] at hx0
      by_cases hx : x.id = i
      · rw [if_pos hx] at hH
        refine .inr ⟨b3, o3, r, e3, by omega, by rw [← hx]; exact hx0, Lib.hid hH, ?_⟩
        obtain ⟨A3, h1, h2⟩ := hrest0.rest (k := 1) (by omega) hqp
        exact ⟨A3, h1, by simpa using h2⟩
      · rw [if_neg hx] at hH
        exact .inl ⟨b3, o3, x.id, e3, by omega, hx0, hx, Lib.hid hH⟩
  clear Hput
  rcases tails with ⟨hq0, Hput⟩ | ⟨b3, o3, x, rfl, hq0, hx0, hx, Hput⟩ | ⟨b3, o3, r, rfl, hq0, hx0, Hput, A3, hcut1, hrest⟩
  · have hd : decide (0 < q0) = false := by simp; omega
    have Hq0 := Lib.hid hq0
    have hrest := hrest0
    clear hq0 hrest0
    go_enter Try.func16, Try.ntmps16
    go_wp2_with fail
    refine (Hat.out _ ((Ext.refl w).alloc _)).mono ?_
    rintro e w' ⟨rfl, rfl⟩
    go_wp2_with fail
    refine (Hown.out _ ((Ext.refl w).alloc _)).mono ?_
    rintro e w1 ⟨A1, c1, rfl, ho1, he1⟩
    have k0 : w1.cell? ⟨w.heap.size, 0, none⟩ = some (.int .i64 i) := he1.cell (box_cell w _ _ 0 _ rfl)
    have k1 : w1.cell? ⟨w.heap.size, 1, none⟩ = some (.int .i64 b) := he1.cell (box_cell w _ _ 1 _ rfl)
    have k2 : w1.cell? ⟨w.heap.size, 2, none⟩ = some (.int .i64 m) := he1.cell (box_cell w _ _ 2 _ rfl)
    have k3 : w1.cell? ⟨w.heap.size, 3, none⟩ = some (.int .i64 d) := he1.cell (box_cell w _ _ 3 _ rfl)
    go_wp2_with fail
    go_quiet (fail)
    clear hd
    go_wp2_with fail
    refine (none_any i b m d _).mono ?_
    rintro e w2 ⟨rfl, he2⟩
    have he3 : Ext w1 w2 := (Ext.refl w1).drewN _ |>.trans he2
    have ho2 := (ho1.ext he3).mono (B' := w.heap.size) (by simp)
    have hw2 : Ext w w2 := ((Ext.refl w).alloc _).trans (he1.trans he3)
    have hr2 := (hrest.ext hw2).2
    have j0 := he3.cell k0
    have j1 := he3.cell k1
    have j2 := he3.cell k2
    have j3 := he3.cell k3
    have hz2 := hw2.le
    have m1 : atL l i + q0 ≤ maxLen := by unfold maxLen; omega
    have m2 : (atL l i + q0) * 32 ≤ 140737488355328 := by omega
    have m3 : atL l i + 1 ≤ maxLen := by unfold maxLen; omega
    have m4 : (atL l i + 1) * 32 ≤ 140737488355328 := by omega
    have m5 : atL l i + 1 + q0 ≤ maxLen := by unfold maxLen; omega
    have m6 : (atL l i + 1 + q0) * 32 ≤ 140737488355328 := by omega
    clear he2 k0 k1 k2 k3
    by_cases hnb : noneB b m d = true
    · have hout : Hid (out = tk ++ rl0) := by have := Hput.out; rw [if_pos hnb, List.append_nil] at this; exact Lib.hid this
      have hlen : Hid (out.length = atL l i + q0) := by rw [hout.out, List.length_append, Htk.out, hrest.1]; exact Lib.hid rfl
      go_wp2_with (at_builtin; refine wpList_append_Own rfl (.tmp 41) (.tmp 42) _ rfl _ acc_elem rfl ho2 rfl hr2 (accs_one _) m1 m2 hz2 ?_)
      intro A4 c4 w4 ho4 hg4
      have he4 := hw2.grown hg4 (fun k hk => (ho2.row k hk).1)
      have ho4' : St w4 A4 (atL l i + q0) out := ⟨hlen.out, by rw [hout.out, accs_append]; exact ho4.rs⟩
      go_wp2_with fail
      refine (own_any A4 _ c4 _ w4 ho4' ho4.2.1 ho4.2.2.1 (by omega)).mono ?_
      rintro e w5 ⟨A5, c5, rfl, ho5, he5⟩
      go_wp2_with fail
      go_ret
      exact ⟨A5, c5, by rw [hlen.out]; rfl, by rw [hlen.out]; exact ho5.mono he4.le, he4.trans he5⟩
    · have hout : Hid (out = tk ++ [⟨i, b, m, d⟩] ++ rl0) := by have := Hput.out; rw [if_neg hnb] at this; exact Lib.hid this
      have hlen : Hid (out.length = atL l i + 1 + q0) := by rw [hout.out, List.length_append, List.length_append, Htk.out, hrest.1]; exact Lib.hid rfl
      simp only [Bool.not_eq_true] at hnb
      have hbox := box_rs w2 29 4 (Acc.cells ⟨i, b, m, d⟩) 1 rfl
      go_wp2_with (at_builtin; refine wpList_append_Own rfl (.tmp 37) (.tmp 39) _ rfl _ acc_elem rfl (ho2.ext ((Ext.refl w2).alloc _)) rfl hbox (Acc.cells_one _) m3 m4 (hw2.alloc _).le ?_)
      intro A4 c4 w4 ho4 hg4
      have he4 := (hw2.alloc _).grown hg4 (fun k hk => (ho2.row k hk).1)
      have hr4 := (hrest.ext he4).2
      have hz4 := he4.le
      go_wp2_with (at_builtin; refine wpList_append_Own rfl (.tmp 41) (.tmp 42) _ rfl _ acc_elem rfl ho4 rfl hr4 (accs_one _) m5 m6 hz4 ?_)
      intro A6 c6 w6 ho6 hg6
      have he6 := he4.grown hg6 (fun k hk => (ho4.row k hk).1)
      have ho6' : St w6 A6 (atL l i + 1 + q0) out := ⟨hlen.out, by rw [hout.out, accs_append, accs_append]; have := ho6.rs; rw [← List.append_assoc] at this; exact this⟩
      go_wp2_with fail
      refine (own_any A6 _ c6 _ w6 ho6' ho6.2.1 ho6.2.2.1 (by omega)).mono ?_
      rintro e w5 ⟨A5, c5, rfl, ho5, he5⟩
      go_wp2_with fail
      go_ret
      exact ⟨A5, c5, by rw [hlen.out]; rfl, by rw [hlen.out]; exact ho5.mono he6.le, he6.trans he5⟩
  · have hd : decide (0 < q0) = true := by simp; omega
    have he : (x == i) = false := by simpa using hx
    have hx1 : ∀ w1, Ext w w1 → w1.cell? ⟨b3, o3, none⟩ = some (.int .i64 x) := fun w1 h => h.cell hx0
    have Hx1 := Lib.hid hx1
    have hrest := hrest0
    clear hx hx1 hx0 hrest0
    go_enter Try.func16, Try.ntmps16
    go_wp2_with fail
    refine (Hat.out _ ((Ext.refl w).alloc _)).mono ?_
    rintro e w' ⟨rfl, rfl⟩
    go_wp2_with fail
    refine (Hown.out _ ((Ext.refl w).alloc _)).mono ?_
    rintro e w1 ⟨A1, c1, rfl, ho1, he1⟩
    have k0 : w1.cell? ⟨w.heap.size, 0, none⟩ = some (.int .i64 i) := he1.cell (box_cell w _ _ 0 _ rfl)
    have k1 : w1.cell? ⟨w.heap.size, 1, none⟩ = some (.int .i64 b) := he1.cell (box_cell w _ _ 1 _ rfl)
    have k2 : w1.cell? ⟨w.heap.size, 2, none⟩ = some (.int .i64 m) := he1.cell (box_cell w _ _ 2 _ rfl)
    have k3 : w1.cell? ⟨w.heap.size, 3, none⟩ = some (.int .i64 d) := he1.cell (box_cell w _ _ 3 _ rfl)
    have hx2 := Hx1.out w1 (((Ext.refl w).alloc _).trans he1)
    go_wp2_with fail
    go_quiet (fail)
    clear hd he hx2
    go_wp2_with fail
    refine (none_any i b m d _).mono ?_
    rintro e w2 ⟨rfl, he2⟩
    have he3 : Ext w1 w2 := (Ext.refl w1).drewN _ |>.trans he2
    have ho2 := (ho1.ext he3).mono (B' := w.heap.size) (by simp)
    have hw2 : Ext w w2 := ((Ext.refl w).alloc _).trans (he1.trans he3)
    have hr2 := (hrest.ext hw2).2
    have j0 := he3.cell k0
    have j1 := he3.cell k1
    have j2 := he3.cell k2
    have j3 := he3.cell k3
    have hz2 := hw2.le
    have m1 : atL l i + q0 ≤ maxLen := by unfold maxLen; omega
    have m2 : (atL l i + q0) * 32 ≤ 140737488355328 := by omega
    have m3 : atL l i + 1 ≤ maxLen := by unfold maxLen; omega
    have m4 : (atL l i + 1) * 32 ≤ 140737488355328 := by omega
    have m5 : atL l i + 1 + q0 ≤ maxLen := by unfold maxLen; omega
    have m6 : (atL l i + 1 + q0) * 32 ≤ 140737488355328 := by omega
    clear he2 k0 k1 k2 k3
    by_cases hnb : noneB b m d = true
    · have hout : Hid (out = tk ++ rl0) := by have := Hput.out; rw [if_pos hnb, List.append_nil] at this; exact Lib.hid this
      have hlen : Hid (out.length = atL l i + q0) := by rw [hout.out, List.length_append, Htk.out, hrest.1]; exact Lib.hid rfl
      go_wp2_with (at_builtin; refine wpList_append_Own rfl (.tmp 41) (.tmp 42) _ rfl _ acc_elem rfl ho2 rfl hr2 (accs_one _) m1 m2 hz2 ?_)
      intro A4 c4 w4 ho4 hg4
      have he4 := hw2.grown hg4 (fun k hk => (ho2.row k hk).1)
      have ho4' : St w4 A4 (atL l i + q0) out := ⟨hlen.out, by rw [hout.out, accs_append]; exact ho4.rs⟩
      go_wp2_with fail
      refine (own_any A4 _ c4 _ w4 ho4' ho4.2.1 ho4.2.2.1 (by omega)).mono ?_
      rintro e w5 ⟨A5, c5, rfl, ho5, he5⟩
      go_wp2_with fail
      go_ret
      exact ⟨A5, c5, by rw [hlen.out]; rfl, by rw [hlen.out]; exact ho5.mono he4.le, he4.trans he5⟩
    · have hout : Hid (out = tk ++ [⟨i, b, m, d⟩] ++ rl0) := by have := Hput.out; rw [if_neg hnb] at this; exact Lib.hid this
      have hlen : Hid (out.length = atL l i + 1 + q0) := by rw [hout.out, List.length_append, List.length_append, Htk.out, hrest.1]; exact Lib.hid rfl
      simp only [Bool.not_eq_true] at hnb
      have hbox := box_rs w2 29 4 (Acc.cells ⟨i, b, m, d⟩) 1 rfl
      go_wp2_with (at_builtin; refine wpList_append_Own rfl (.tmp 37) (.tmp 39) _ rfl _ acc_elem rfl (ho2.ext ((Ext.refl w2).alloc _)) rfl hbox (Acc.cells_one _) m3 m4 (hw2.alloc _).le ?_)
      intro A4 c4 w4 ho4 hg4
      have he4 := (hw2.alloc _).grown hg4 (fun k hk => (ho2.row k hk).1)
      have hr4 := (hrest.ext he4).2
      have hz4 := he4.le
      go_wp2_with (at_builtin; refine wpList_append_Own rfl (.tmp 41) (.tmp 42) _ rfl _ acc_elem rfl ho4 rfl hr4 (accs_one _) m5 m6 hz4 ?_)
      intro A6 c6 w6 ho6 hg6
      have he6 := he4.grown hg6 (fun k hk => (ho4.row k hk).1)
      have ho6' : St w6 A6 (atL l i + 1 + q0) out := ⟨hlen.out, by rw [hout.out, accs_append, accs_append]; have := ho6.rs; rw [← List.append_assoc] at this; exact this⟩
      go_wp2_with fail
      refine (own_any A6 _ c6 _ w6 ho6' ho6.2.1 ho6.2.2.1 (by omega)).mono ?_
      rintro e w5 ⟨A5, c5, rfl, ho5, he5⟩
      go_wp2_with fail
      go_ret
      exact ⟨A5, c5, by rw [hlen.out]; rfl, by rw [hlen.out]; exact ho5.mono he6.le, he6.trans he5⟩
  · have hd : decide (0 < q0) = true := by simp; omega
    have he : (i == i) = true := by simp
    have hx1 : ∀ w1, Ext w w1 → w1.cell? ⟨b3, o3, none⟩ = some (.int .i64 i) := fun w1 h => h.cell hx0
    have Hx1 := Lib.hid hx1
    clear hx1 hx0
    go_enter Try.func16, Try.ntmps16
    go_wp2_with fail
    refine (Hat.out _ ((Ext.refl w).alloc _)).mono ?_
    rintro e w' ⟨rfl, rfl⟩
    go_wp2_with fail
    refine (Hown.out _ ((Ext.refl w).alloc _)).mono ?_
    rintro e w1 ⟨A1, c1, rfl, ho1, he1⟩
    have k0 : w1.cell? ⟨w.heap.size, 0, none⟩ = some (.int .i64 i) := he1.cell (box_cell w _ _ 0 _ rfl)
    have k1 : w1.cell? ⟨w.heap.size, 1, none⟩ = some (.int .i64 b) := he1.cell (box_cell w _ _ 1 _ rfl)
    have k2 : w1.cell? ⟨w.heap.size, 2, none⟩ = some (.int .i64 m) := he1.cell (box_cell w _ _ 2 _ rfl)
    have k3 : w1.cell? ⟨w.heap.size, 3, none⟩ = some (.int .i64 d) := he1.cell (box_cell w _ _ 3 _ rfl)
    have hx2 := Hx1.out w1 (((Ext.refl w).alloc _).trans he1)
    go_wp2_with fail
    go_quiet (fail)
    clear hd he hx2
    go_wp2_with fail
    refine (none_any i b m d _).mono ?_
    rintro e w2 ⟨rfl, he2⟩
    have he3 : Ext w1 w2 := (Ext.refl w1).drewN _ |>.trans he2
    have ho2 := (ho1.ext he3).mono (B' := w.heap.size) (by simp)
    have hw2 : Ext w w2 := ((Ext.refl w).alloc _).trans (he1.trans he3)
    have hr2 := (hrest.ext hw2).2
    have j0 := he3.cell k0
    have j1 := he3.cell k1
    have j2 := he3.cell k2
    have j3 := he3.cell k3
    have hz2 := hw2.le
    have m1 : atL l i + (q0 - 1) ≤ maxLen := by unfold maxLen; omega
    have m2 : (atL l i + (q0 - 1)) * 32 ≤ 140737488355328 := by omega
    have m3 : atL l i + 1 ≤ maxLen := by unfold maxLen; omega
    have m4 : (atL l i + 1) * 32 ≤ 140737488355328 := by omega
    have m5 : atL l i + 1 + (q0 - 1) ≤ maxLen := by unfold maxLen; omega
    have m6 : (atL l i + 1 + (q0 - 1)) * 32 ≤ 140737488355328 := by omega
    clear he2 k0 k1 k2 k3
    by_cases hnb : noneB b m d = true
    · have hout : Hid (out = tk ++ r) := by have := Hput.out; rw [if_pos hnb, List.append_nil] at this; exact Lib.hid this
      have hlen : Hid (out.length = atL l i + (q0 - 1)) := by rw [hout.out, List.length_append, Htk.out, hrest.1]; exact Lib.hid rfl
      go_wp2_with (at_builtin; refine wpList_append_Own rfl (.tmp 41) (.tmp 42) _ rfl _ acc_elem rfl ho2 rfl hr2 (accs_one _) m1 m2 hz2 ?_)
      intro A4 c4 w4 ho4 hg4
      have he4 := hw2.grown hg4 (fun k hk => (ho2.row k hk).1)
      have ho4' : St w4 A4 (atL l i + (q0 - 1)) out := ⟨hlen.out, by rw [hout.out, accs_append]; exact ho4.rs⟩
      go_wp2_with fail
      refine (own_any A4 _ c4 _ w4 ho4' ho4.2.1 ho4.2.2.1 (by omega)).mono ?_
      rintro e w5 ⟨A5, c5, rfl, ho5, he5⟩
      go_wp2_with fail
      go_ret
      exact ⟨A5, c5, by rw [hlen.out]; rfl, by rw [hlen.out]; exact ho5.mono he4.le, he4.trans he5⟩
    · have hout : Hid (out = tk ++ [⟨i, b, m, d⟩] ++ r) := by have := Hput.out; rw [if_neg hnb] at this; exact Lib.hid this
      have hlen : Hid (out.length = atL l i + 1 + (q0 - 1)) := by rw [hout.out, List.length_append, List.length_append, Htk.out, hrest.1]; exact Lib.hid rfl
      simp only [Bool.not_eq_true] at hnb
      have hbox := box_rs w2 29 4 (Acc.cells ⟨i, b, m, d⟩) 1 rfl
      go_wp2_with (at_builtin; refine wpList_append_Own rfl (.tmp 37) (.tmp 39) _ rfl _ acc_elem rfl (ho2.ext ((Ext.refl w2).alloc _)) rfl hbox (Acc.cells_one _) m3 m4 (hw2.alloc _).le ?_)
      intro A4 c4 w4 ho4 hg4
      have he4 := (hw2.alloc _).grown hg4 (fun k hk => (ho2.row k hk).1)
      have hr4 := (hrest.ext he4).2
      have hz4 := he4.le
      go_wp2_with (at_builtin; refine wpList_append_Own rfl (.tmp 41) (.tmp 42) _ rfl _ acc_elem rfl ho4 rfl hr4 (accs_one _) m5 m6 hz4 ?_)
      intro A6 c6 w6 ho6 hg6
      have he6 := he4.grown hg6 (fun k hk => (ho4.row k hk).1)
      have ho6' : St w6 A6 (atL l i + 1 + (q0 - 1)) out := ⟨hlen.out, by rw [hout.out, accs_append, accs_append]; have := ho6.rs; rw [← List.append_assoc] at this; exact this⟩
      go_wp2_with fail
      refine (own_any A6 _ c6 _ w6 ho6' ho6.2.1 ho6.2.2.1 (by omega)).mono ?_
      rintro e w5 ⟨A5, c5, rfl, ho5, he5⟩
      go_wp2_with fail
      go_ret
      exact ⟨A5, c5, by rw [hlen.out]; rfl, by rw [hlen.out]; exact ho5.mono he6.le, he6.trans he5⟩
end Go.Proofs.Ytbijpbkekdeilaa
