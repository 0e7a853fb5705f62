/- The document's Put of chapter 8. Printed by wip/gen/stput.py. -/
import Derived.Test.YtbijpbkekdeilaaStRef
import Derived.Deep.DeepCutAuto
import Derived.Deep.CutBlock
namespace Go.Proofs.Ytbijpbkekdeilaa
set_option linter.unusedVariables false
open Go.RowKit
theorem own_cast {w : World} {B n n' c sz : Nat} {e : TypeId} {A : Option Addr} {xs : List Value} (h : n = n') (ho : Own w B e sz A n c xs) : Own w B e sz A n' c xs := by subst h; exact ho
theorem ret_slice {A : Option Addr} {a b c : Nat} (h : a = b) : Ending.returned (.slice A a c) = .returned (.slice A b c) := by rw [h]

set_option maxHeartbeats 2000000 in
theorem rput_any (A : Option Addr) (n c : Nat) (l : List Acc) (i b m d : Int) (w : World) (hs : St w A n l) (hc : n ≤ c) (hc2 : c ≤ maxLen) (hn : n ≤ 999000) :
    Calls Try.prog 31 #[.slice A n c, .agg #[.int .i64 i, .int .i64 b, .int .i64 m, .int .i64 d]] w fun e w' =>
      ∃ A' c', e = .returned (.slice A' (putL l ⟨i, b, m, d⟩).length c') ∧ Own w' w.heap.size 29 4 A' (putL l ⟨i, b, m, d⟩).length c' (accs (putL l ⟨i, b, m, d⟩)) ∧ Ext w w' := by
  unfold maxLen at hc2
  have hp := hs.at_
  have hl := hs.1
  have hk := atL_le l i
  rw [hl] at hk
  have hEb : Ext w (w.alloc (.cells #[.int .i64 i, .int .i64 b, .int .i64 m, .int .i64 d] 29)) := (Ext.refl w).alloc _
  have hcell : ∀ w', Ext (w.alloc (.cells #[.int .i64 i, .int .i64 b, .int .i64 m, .int .i64 d] 29)) w' → w'.cell? ⟨w.heap.size, 0, none⟩ = some (.int .i64 i) ∧ w'.cell? ⟨w.heap.size, 1, none⟩ = some (.int .i64 b) ∧ w'.cell? ⟨w.heap.size, 2, none⟩ = some (.int .i64 m) ∧ w'.cell? ⟨w.heap.size, 3, none⟩ = some (.int .i64 d) :=
    fun w' h => ⟨h.cell (box_cell w _ _ 0 _ rfl), h.cell (box_cell w _ _ 1 _ rfl), h.cell (box_cell w _ _ 2 _ rfl), h.cell (box_cell w _ _ 3 _ rfl)⟩
  have Hcell := Lib.hid hcell
  clear hcell
  go_enter Try.func31, Try.ntmps31
  go_upto_block 0 with fail
  go_cut [5] (fun k wr => k = .int .i64 (atL l i) ∧ Ext (w.alloc (.cells #[.int .i64 i, .int .i64 b, .int .i64 m, .int .i64 d] 29)) wr)
  case first =>
    go_wp2_with fail
    go_loopw [5] (fun j wr => ∃ k : Nat, k ≤ l.length ∧ j = .int .i64 k ∧ Hid (∀ m (hm : m < l.length), m < k → (l[m]).id < i) ∧ Ext (w.alloc (.cells #[.int .i64 i, .int .i64 b, .int .i64 m, .int .i64 d] 29)) wr) (fun j _ => l.length - (intOf j).toNat)
    case atStart => exact ⟨0, by omega, rfl, Lib.hid (fun _ _ h => absurd h (by omega)), Ext.refl _⟩
    case round =>
      obtain ⟨k, hkl, rfl, Hat, he⟩ := hrel
      obtain ⟨k0, -, -, -⟩ := Hcell.out wr he
      by_cases hlt : k < l.length
      · obtain ⟨b1, o1, rfl, hb1, d0, -, -, -⟩ := hp k hlt
        have c0 := (hEb.trans he).cell d0
        have hd : decide (k < n) = true := by simp; omega
        have hki : (0 : Int) ≤ (k : Int) := by omega
        have hkn : k < n := by omega
        clear hp d0 hEb
        by_cases hx : l[k].id < i
        · have hdx : decide (l[k].id < i) = true := by simpa using hx
          have Hx := Lib.hid hx
          clear hx
          go_wp2_with fail
          go_quiet (fail)
          go_wp2_with fail
          go_roundw
          case rel => exact ⟨k + 1, by omega, by go_num, Lib.hid fun j hj hk' => by
            rcases Nat.lt_succ_iff_lt_or_eq.1 hk' with h' | rfl
            · exact Hat.out j hj h'
            · exact Hx.out, he.drewN _⟩
          case measure => simp [intOf]; omega
        · have hdx : decide (l[k].id < i) = false := by simpa using hx
          have ha : Hid (atL l i = k) := Lib.hid (by unfold atL; exact takeWhile_at _ l k (fun j hj hk' => by simpa using Hat.out j hj hk') hkl (fun _ => by simpa using hx))
          clear hx
          go_wp2_with fail
          go_quiet (fail)
          go_wp2_with fail
          go_meet
          exact ⟨by rw [ha.out], he.drewN _⟩
      · have hd : decide (k < n) = false := by simp; omega
        have ha : Hid (atL l i = k) := Lib.hid (by unfold atL; exact takeWhile_at _ l k (fun j hj hk' => by simpa using Hat.out j hj hk') hkl (fun h => absurd h hlt))
        clear hp
        go_wp2_with fail
        go_quiet (fail)
        go_wp2_with fail
        go_meet
        exact ⟨by rw [ha.out], he.drewN _⟩
  case rest =>
    obtain ⟨hk5, heb⟩ := hcut
    rw [hk5]
    have hE : Ext w wc := hEb.trans heb
    obtain ⟨k0, k1, k2, k3⟩ := Hcell.out wc heb
    clear hEb
    obtain ⟨A0, hcut, hrest0⟩ := hs.rest hk hc
    have htk := hs.take hk
    have Hput : Hid (putL l ⟨i, b, m, d⟩ = l.take (atL l i) ++ (if noneB b m d then [] else [⟨i, b, m, d⟩]) ++ (match l.drop (atL l i) with
     | [] => []
     | x :: r => if x.id = i then r else x :: r)) := Lib.hid rfl
    have htl : (l.take (atL l i)).length = atL l i := htk.1
    have Htl := Lib.hid htl
    have tails : (decide (atL l i < n) = false ∧ Hid (putL l ⟨i, b, m, d⟩ = l.take (atL l i) ++ (if noneB b m d then [] else [⟨i, b, m, d⟩]) ++ l.drop (atL l i))) ∨
      (∃ b3 o3 x, A = some ⟨b3, o3, none⟩ ∧ b3 < w.heap.size ∧ atL l i < n ∧ w.cell? ⟨b3, o3 + atL l i * 4, none⟩ = some (.int .i64 x) ∧ (x == i) = false ∧ Hid (putL l ⟨i, b, m, d⟩ = l.take (atL l i) ++ (if noneB b m d then [] else [⟨i, b, m, d⟩]) ++ l.drop (atL l i))) ∨
      (∃ b3 o3, A = some ⟨b3, o3, none⟩ ∧ b3 < w.heap.size ∧ atL l i < n ∧ w.cell? ⟨b3, o3 + atL l i * 4, none⟩ = some (.int .i64 i) ∧ Hid (putL l ⟨i, b, m, d⟩ = l.take (atL l i) ++ (if noneB b m d then [] else [⟨i, b, m, d⟩]) ++ l.drop (atL l i + 1))) := by
      rcases Nat.lt_or_ge (atL l i) n with hlt | hge
      · have hll : atL l i < l.length := by omega
        obtain ⟨b3, o3, e3, hb3, hx0, -⟩ := hp (atL l i) hll
        have hH := Hput.out
        rw [List.drop_eq_getElem_cons hll] at hH
        simp only at hH
        refine .inr ?_
        by_cases hx : (l[atL l i]).id = i
        · rw [if_pos hx] at hH
          exact .inr ⟨b3, o3, e3, hb3, hlt, by rw [hx0, hx], Lib.hid hH⟩
        · rw [if_neg hx] at hH
          exact .inl ⟨b3, o3, _, e3, hb3, hlt, hx0, by simpa using hx, Lib.hid (by rw [hH, ← List.drop_eq_getElem_cons hll])⟩
      · have hdr : l.drop (atL l i) = [] := List.drop_of_length_le (by omega)
        have hH := Hput.out
        rw [hdr] at hH
        exact .inl ⟨by simp; omega, Lib.hid (by rw [hH, hdr])⟩
    have hkn := hk
    have m1 : 0 + atL l i ≤ maxLen := by unfold maxLen; omega
    have m2 : (0 + atL l i) * 32 ≤ 140737488355328 := by omega
    have m3 : atL l i + 1 ≤ maxLen := by unfold maxLen; omega
    have m4 : (atL l i + 1) * 32 ≤ 140737488355328 := by omega
    have htk1 := (htk.ext (hE.alloc (.cells #[] 29))).2
    clear hp Hput htl htk
    generalize l.take (atL l i) = tk at *
    rcases tails with ⟨hd, Hput⟩ | ⟨b3, o3, x, rfl, hb3, hlt, hx0, hx, Hput⟩ | ⟨b3, o3, rfl, hb3, hlt, hx0, Hput⟩
    · have hrest := hrest0
      clear hrest0
      have Hrl := Lib.hid hrest.1
      have m5 : atL l i + (n - atL l i) ≤ maxLen := by unfold maxLen; omega
      have m6 : (atL l i + (n - atL l i)) * 32 ≤ 140737488355328 := by omega
      have m7 : atL l i + 1 + (n - atL l i) ≤ maxLen := by unfold maxLen; omega
      have m8 : (atL l i + 1 + (n - atL l i)) * 32 ≤ 140737488355328 := by omega
      go_wp2_with (at_builtin; refine wpList_append_Own rfl (.tmp 23) (.tmp 26) _ rfl wc.heap.size acc_elem rfl (Own.nil _ _ _ _ _) rfl htk1 (accs_one _) m1 m2 ?_ ?_)
      · simp
      intro A4 c4 w4 ho4 hg4
      have hc4 : Ext wc w4 := ((Ext.refl wc).alloc (.cells #[] 29)).grown hg4 (fun k h => by simp [rowOf] at h)
      have j0 := hc4.cell k0
      have j1 := hc4.cell k1
      have j2 := hc4.cell k2
      have j3 := hc4.cell k3
      go_wp2_with fail
      refine (rnone_any i b m d _).mono ?_
      rintro e w5 ⟨rfl, he5⟩
      have ho5 := ho4.ext he5
      have hc5 := hc4.trans he5
      have hw5 := hE.trans hc5
      have p0 := hc5.cell k0
      have p1 := hc5.cell k1
      have p2 := hc5.cell k2
      have p3 := hc5.cell k3
      have hr5 := (hrest.ext hw5).2
      clear j0 j1 j2 j3
      cases hnb : noneB b m d
      · have hout : Hid (putL l ⟨i, b, m, d⟩ = tk ++ [⟨i, b, m, d⟩] ++ (l.drop (atL l i))) := by have := Hput.out; rw [hnb] at this; exact Lib.hid this
        have hlen : Hid ((putL l ⟨i, b, m, d⟩).length = atL l i + 1 + (n - atL l i)) := by rw [hout.out, List.length_append, List.length_append, Htl.out, Hrl.out]; exact Lib.hid rfl
        have hbox := box_rs w5 29 4 (Acc.cells ⟨i, b, m, d⟩) 1 rfl
        clear hnb
        go_wp2_with (at_builtin; refine wpList_append_Own rfl (.tmp 31) (.tmp 33) _ rfl wc.heap.size acc_elem rfl (ho5.ext ((Ext.refl w5).alloc _)) rfl hbox (Acc.cells_one _) m3 m4 ?_ ?_)
        · exact (hc5.alloc _).le
        intro A6 c6 w6 ho6 hg6
        have hc6 : Ext wc w6 := (hc5.alloc _).grown hg6 (fun k hk => (ho5.row k hk).1)
        have q0 := hc6.cell k0
        have hr6 := (hrest.ext (hE.trans hc6)).2
        have hz6 := hc6.le
        clear p0 p1 p2 p3
        go_wp2_with fail
        go_quiet (fail)
        go_wp2_with (at_builtin; refine wpList_append_Own rfl (.tmp 51) (.tmp 54) _ rfl wc.heap.size acc_elem rfl (ho6.ext ((Ext.refl w6).drewN _)) rfl (hr6.ext ((Ext.refl w6).drewN _)) (accs_one _) m7 m8 ?_ ?_)
        · exact hz6
        intro A7 c7 w7 ho7 hg7
        have hc7 : Ext wc w7 := (hc6.drewN _).grown hg7 (fun k hk => (ho6.row k hk).1)
        go_wp2_with fail
        go_ret
        exact ⟨A7, c7, ret_slice (by have := hlen.out; omega), by
          have h1 := ho7.mono hE.le
          have h2 := hlen.out
          rw [hout.out, accs_append, accs_append, ← hout.out]
          refine own_cast (n := atL l i + 1 + (n - atL l i)) (by omega) ?_
          simpa [accs, List.append_assoc] using h1, hE.trans hc7⟩
      · have hout : Hid (putL l ⟨i, b, m, d⟩ = tk ++ (l.drop (atL l i))) := by have := Hput.out; rw [hnb] at this; simp only [if_true, List.append_nil] at this; exact Lib.hid this
        have hlen : Hid ((putL l ⟨i, b, m, d⟩).length = atL l i + (n - atL l i)) := by rw [hout.out, List.length_append, Htl.out, Hrl.out]; exact Lib.hid rfl
        have hz5 := hc5.le
        clear hnb
        go_wp2_with fail
        go_quiet (fail)
        go_wp2_with (at_builtin; refine wpList_append_Own rfl (.tmp 51) (.tmp 54) _ rfl wc.heap.size acc_elem rfl (ho5.ext ((Ext.refl w5).drewN _)) rfl (hr5.ext ((Ext.refl w5).drewN _)) (accs_one _) m5 m6 ?_ ?_)
        · exact hz5
        intro A7 c7 w7 ho7 hg7
        have hc7 : Ext wc w7 := (hc5.drewN _).grown hg7 (fun k hk => (ho5.row k hk).1)
        go_wp2_with fail
        go_ret
        exact ⟨A7, c7, ret_slice (by have := hlen.out; omega), by
          have h1 := ho7.mono hE.le
          have h2 := hlen.out
          rw [hout.out, accs_append, ← hout.out]
          exact own_cast (by omega) h1, hE.trans hc7⟩
    · have hrest := hrest0
      have hd : decide (atL l i < n) = true := by simpa using hlt
      have hki : (0 : Int) ≤ (atL l i : Int) := by omega
      have hx1 : ∀ w1, Ext w w1 → w1.cell? ⟨b3, o3 + atL l i * 4, none⟩ = some (.int .i64 x) := fun w1 h => h.cell hx0
      have Hx1 := Lib.hid hx1
      clear hx1 hx0
      clear hrest0
      have Hrl := Lib.hid hrest.1
      have m5 : atL l i + (n - atL l i) ≤ maxLen := by unfold maxLen; omega
      have m6 : (atL l i + (n - atL l i)) * 32 ≤ 140737488355328 := by omega
      have m7 : atL l i + 1 + (n - atL l i) ≤ maxLen := by unfold maxLen; omega
      have m8 : (atL l i + 1 + (n - atL l i)) * 32 ≤ 140737488355328 := by omega
      go_wp2_with (at_builtin; refine wpList_append_Own rfl (.tmp 23) (.tmp 26) _ rfl wc.heap.size acc_elem rfl (Own.nil _ _ _ _ _) rfl htk1 (accs_one _) m1 m2 ?_ ?_)
      · simp
      intro A4 c4 w4 ho4 hg4
      have hc4 : Ext wc w4 := ((Ext.refl wc).alloc (.cells #[] 29)).grown hg4 (fun k h => by simp [rowOf] at h)
      have j0 := hc4.cell k0
      have j1 := hc4.cell k1
      have j2 := hc4.cell k2
      have j3 := hc4.cell k3
      go_wp2_with fail
      refine (rnone_any i b m d _).mono ?_
      rintro e w5 ⟨rfl, he5⟩
      have ho5 := ho4.ext he5
      have hc5 := hc4.trans he5
      have hw5 := hE.trans hc5
      have p0 := hc5.cell k0
      have p1 := hc5.cell k1
      have p2 := hc5.cell k2
      have p3 := hc5.cell k3
      have hr5 := (hrest.ext hw5).2
      clear j0 j1 j2 j3
      have hx5 := Hx1.out w5 hw5
      cases hnb : noneB b m d
      · have hout : Hid (putL l ⟨i, b, m, d⟩ = tk ++ [⟨i, b, m, d⟩] ++ (l.drop (atL l i))) := by have := Hput.out; rw [hnb] at this; exact Lib.hid this
        have hlen : Hid ((putL l ⟨i, b, m, d⟩).length = atL l i + 1 + (n - atL l i)) := by rw [hout.out, List.length_append, List.length_append, Htl.out, Hrl.out]; exact Lib.hid rfl
        have hbox := box_rs w5 29 4 (Acc.cells ⟨i, b, m, d⟩) 1 rfl
        clear hnb
        go_wp2_with (at_builtin; refine wpList_append_Own rfl (.tmp 31) (.tmp 33) _ rfl wc.heap.size acc_elem rfl (ho5.ext ((Ext.refl w5).alloc _)) rfl hbox (Acc.cells_one _) m3 m4 ?_ ?_)
        · exact (hc5.alloc _).le
        intro A6 c6 w6 ho6 hg6
        have hc6 : Ext wc w6 := (hc5.alloc _).grown hg6 (fun k hk => (ho5.row k hk).1)
        have q0 := hc6.cell k0
        have hr6 := (hrest.ext (hE.trans hc6)).2
        have hz6 := hc6.le
        clear p0 p1 p2 p3
        have hx6 := Hx1.out w6 (hE.trans hc6)
        go_wp2_with fail
        go_quiet (fail)
        go_wp2_with (at_builtin; refine wpList_append_Own rfl (.tmp 51) (.tmp 54) _ rfl wc.heap.size acc_elem rfl (ho6.ext ((Ext.refl w6).drewN _)) rfl (hr6.ext ((Ext.refl w6).drewN _)) (accs_one _) m7 m8 ?_ ?_)
        · exact hz6
        intro A7 c7 w7 ho7 hg7
        have hc7 : Ext wc w7 := (hc6.drewN _).grown hg7 (fun k hk => (ho6.row k hk).1)
        go_wp2_with fail
        go_ret
        exact ⟨A7, c7, ret_slice (by have := hlen.out; omega), by
          have h1 := ho7.mono hE.le
          have h2 := hlen.out
          rw [hout.out, accs_append, accs_append, ← hout.out]
          refine own_cast (n := atL l i + 1 + (n - atL l i)) (by omega) ?_
          simpa [accs, List.append_assoc] using h1, hE.trans hc7⟩
      · have hout : Hid (putL l ⟨i, b, m, d⟩ = tk ++ (l.drop (atL l i))) := by have := Hput.out; rw [hnb] at this; simp only [if_true, List.append_nil] at this; exact Lib.hid this
        have hlen : Hid ((putL l ⟨i, b, m, d⟩).length = atL l i + (n - atL l i)) := by rw [hout.out, List.length_append, Htl.out, Hrl.out]; exact Lib.hid rfl
        have hz5 := hc5.le
        clear hnb
        go_wp2_with fail
        go_quiet (fail)
        go_wp2_with (at_builtin; refine wpList_append_Own rfl (.tmp 51) (.tmp 54) _ rfl wc.heap.size acc_elem rfl (ho5.ext ((Ext.refl w5).drewN _)) rfl (hr5.ext ((Ext.refl w5).drewN _)) (accs_one _) m5 m6 ?_ ?_)
        · exact hz5
        intro A7 c7 w7 ho7 hg7
        have hc7 : Ext wc w7 := (hc5.drewN _).grown hg7 (fun k hk => (ho5.row k hk).1)
        go_wp2_with fail
        go_ret
        exact ⟨A7, c7, ret_slice (by have := hlen.out; omega), by
          have h1 := ho7.mono hE.le
          have h2 := hlen.out
          rw [hout.out, accs_append, ← hout.out]
          exact own_cast (by omega) h1, hE.trans hc7⟩
    · obtain ⟨A9, hcut9, hrest⟩ := hs.rest (k := atL l i + 1) (by omega) hc
      have hd : decide (atL l i < n) = true := by simpa using hlt
      have hxx : (i == i) = true := by simp
      have hki : (0 : Int) ≤ (atL l i : Int) := by omega
      have ec : ((atL l i + 1 : Nat) : Int) = (atL l i : Int) + 1 := by omega
      rw [ec] at hcut9
      have hx1 : ∀ w1, Ext w w1 → w1.cell? ⟨b3, o3 + atL l i * 4, none⟩ = some (.int .i64 i) := fun w1 h => h.cell hx0
      have Hx1 := Lib.hid hx1
      clear hx1 hx0 ec
      clear hrest0
      have Hrl := Lib.hid hrest.1
      have m5 : atL l i + (n - (atL l i + 1)) ≤ maxLen := by unfold maxLen; omega
      have m6 : (atL l i + (n - (atL l i + 1))) * 32 ≤ 140737488355328 := by omega
      have m7 : atL l i + 1 + (n - (atL l i + 1)) ≤ maxLen := by unfold maxLen; omega
      have m8 : (atL l i + 1 + (n - (atL l i + 1))) * 32 ≤ 140737488355328 := by omega
      go_wp2_with (at_builtin; refine wpList_append_Own rfl (.tmp 23) (.tmp 26) _ rfl wc.heap.size acc_elem rfl (Own.nil _ _ _ _ _) rfl htk1 (accs_one _) m1 m2 ?_ ?_)
      · simp
      intro A4 c4 w4 ho4 hg4
      have hc4 : Ext wc w4 := ((Ext.refl wc).alloc (.cells #[] 29)).grown hg4 (fun k h => by simp [rowOf] at h)
      have j0 := hc4.cell k0
      have j1 := hc4.cell k1
      have j2 := hc4.cell k2
      have j3 := hc4.cell k3
      go_wp2_with fail
      refine (rnone_any i b m d _).mono ?_
      rintro e w5 ⟨rfl, he5⟩
      have ho5 := ho4.ext he5
      have hc5 := hc4.trans he5
      have hw5 := hE.trans hc5
      have p0 := hc5.cell k0
      have p1 := hc5.cell k1
      have p2 := hc5.cell k2
      have p3 := hc5.cell k3
      have hr5 := (hrest.ext hw5).2
      clear j0 j1 j2 j3
      have hx5 := Hx1.out w5 hw5
      cases hnb : noneB b m d
      · have hout : Hid (putL l ⟨i, b, m, d⟩ = tk ++ [⟨i, b, m, d⟩] ++ (l.drop (atL l i + 1))) := by have := Hput.out; rw [hnb] at this; exact Lib.hid this
        have hlen : Hid ((putL l ⟨i, b, m, d⟩).length = atL l i + 1 + (n - (atL l i + 1))) := by rw [hout.out, List.length_append, List.length_append, Htl.out, Hrl.out]; exact Lib.hid rfl
        have hbox := box_rs w5 29 4 (Acc.cells ⟨i, b, m, d⟩) 1 rfl
        clear hnb
        go_wp2_with (at_builtin; refine wpList_append_Own rfl (.tmp 31) (.tmp 33) _ rfl wc.heap.size acc_elem rfl (ho5.ext ((Ext.refl w5).alloc _)) rfl hbox (Acc.cells_one _) m3 m4 ?_ ?_)
        · exact (hc5.alloc _).le
        intro A6 c6 w6 ho6 hg6
        have hc6 : Ext wc w6 := (hc5.alloc _).grown hg6 (fun k hk => (ho5.row k hk).1)
        have q0 := hc6.cell k0
        have hr6 := (hrest.ext (hE.trans hc6)).2
        have hz6 := hc6.le
        clear p0 p1 p2 p3
        have hx6 := Hx1.out w6 (hE.trans hc6)
        go_wp2_with fail
        go_quiet (fail)
        go_wp2_with (at_builtin; refine wpList_append_Own rfl (.tmp 51) (.tmp 54) _ rfl wc.heap.size acc_elem rfl (ho6.ext ((Ext.refl w6).drewN _)) rfl (hr6.ext ((Ext.refl w6).drewN _)) (accs_one _) m7 m8 ?_ ?_)
        · exact hz6
        intro A7 c7 w7 ho7 hg7
        have hc7 : Ext wc w7 := (hc6.drewN _).grown hg7 (fun k hk => (ho6.row k hk).1)
        go_wp2_with fail
        go_ret
        exact ⟨A7, c7, ret_slice (by have := hlen.out; omega), by
          have h1 := ho7.mono hE.le
          have h2 := hlen.out
          rw [hout.out, accs_append, accs_append, ← hout.out]
          refine own_cast (n := atL l i + 1 + (n - (atL l i + 1))) (by omega) ?_
          simpa [accs, List.append_assoc] using h1, hE.trans hc7⟩
      · have hout : Hid (putL l ⟨i, b, m, d⟩ = tk ++ (l.drop (atL l i + 1))) := by have := Hput.out; rw [hnb] at this; simp only [if_true, List.append_nil] at this; exact Lib.hid this
        have hlen : Hid ((putL l ⟨i, b, m, d⟩).length = atL l i + (n - (atL l i + 1))) := by rw [hout.out, List.length_append, Htl.out, Hrl.out]; exact Lib.hid rfl
        have hz5 := hc5.le
        clear hnb
        go_wp2_with fail
        go_quiet (fail)
        go_wp2_with (at_builtin; refine wpList_append_Own rfl (.tmp 51) (.tmp 54) _ rfl wc.heap.size acc_elem rfl (ho5.ext ((Ext.refl w5).drewN _)) rfl (hr5.ext ((Ext.refl w5).drewN _)) (accs_one _) m5 m6 ?_ ?_)
        · exact hz5
        intro A7 c7 w7 ho7 hg7
        have hc7 : Ext wc w7 := (hc5.drewN _).grown hg7 (fun k hk => (ho5.row k hk).1)
        go_wp2_with fail
        go_ret
        exact ⟨A7, c7, ret_slice (by have := hlen.out; omega), by
          have h1 := ho7.mono hE.le
          have h2 := hlen.out
          rw [hout.out, accs_append, ← hout.out]
          exact own_cast (by omega) h1, hE.trans hc7⟩
end Go.Proofs.Ytbijpbkekdeilaa
