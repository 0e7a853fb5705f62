/- The document's functions of chapter 8: what each call computes, said of lists of accounts. Printed by wip/gen/stref.py. -/
import Derived.Test.YtbijpbkekdeilaaStCheck
namespace Go.Proofs.Ytbijpbkekdeilaa
set_option linter.unusedVariables false
open Go.RowKit

theorem rnone_any (i b n d : Int) (w : World) :
    Calls Try.prog 47 #[.agg #[.int .i64 i, .int .i64 b, .int .i64 n, .int .i64 d]] w fun e w' => e = .returned (.bool (noneB b n d)) ∧ Ext w w' := by
  go_enter Try.func47, Try.ntmps47
  go_wp2
  all_goals (go_ret; exact ⟨ret_bool (by unfold noneB; simp_all <;> rfl), (Ext.refl w).alloc _⟩)
def fineB (b n : Int) : Bool := decide (0 ≤ b ∧ b ≤ 1125899906842624 ∧ 0 ≤ n ∧ n ≤ 1073741824)
theorem rfine_any (i b n d : Int) (w : World) :
    Calls Try.prog 46 #[.agg #[.int .i64 i, .int .i64 b, .int .i64 n, .int .i64 d]] w fun e w' => e = .returned (.bool (fineB b n)) ∧ Ext w w' := by
  go_enter Try.func46, Try.ntmps46
  go_wp2
  all_goals (go_ret; exact ⟨ret_bool (by unfold fineB; simp_all <;> omega), (Ext.refl w).alloc _⟩)

theorem rtotal_any (A : Option Addr) (n c : Nat) (l : List Acc) (w : World) (hs : St w A n l) (hm : Mild l) (hn : n ≤ 1000) :
    Calls Try.prog 34 #[.slice A n c] w fun e w' => e = .returned (.int .i64 (totL l)) ∧ Ext w w' := by
  have hp := hs.at_
  obtain ⟨rfl, -⟩ := hs
  go_enter Try.func34, Try.ntmps34
  go_wp2
  go_loop [3, 4] (fun t i => ∃ k : Nat, k ≤ l.length ∧ i = .int .i64 k ∧ t = .int .i64 (totL (l.take k))) (fun _ i => l.length - (intOf i).toNat)
  case atStart => exact ⟨0, by omega, rfl, rfl⟩
  case round =>
    obtain ⟨k, hk, rfl, rfl⟩ := hrel
    by_cases hlt : k < l.length
    · obtain ⟨b, o, rfl, _, d0, d1, d2, d3⟩ := hp k hlt
      have hsn := Lib.hid (totL_snoc l k hlt)
      have hb1 := totL_bd (l.take k) (fun a ha => hm a (List.mem_of_mem_take ha))
      have hb2 := hm l[k] (List.getElem_mem hlt)
      have hb3 : (l.take k).length ≤ k := List.length_take_le _ _
      obtain ⟨f1, f2⟩ := hb1
      obtain ⟨f3, f4⟩ := hb2
      have f5 : -4503599627370496000 ≤ totL (l.take k) := by omega
      have f6 : totL (l.take k) ≤ 4503599627370496000 := by omega
      clear hp f1 f2 hb3
      go_wp2
      go_round
      case rel => exact ⟨k + 1, by omega, by go_num, by rw [hsn.out]⟩
      case measure => simp [intOf]; omega
    · have hk' : k = l.length := by omega
      have hK := Lib.hid hk'
      clear hp hk'
      go_wp2
      go_ret
      exact ⟨ret_int (by rw [hK.out, List.take_length]), Ext.refl w⟩

theorem rget_any (A : Option Addr) (n c : Nat) (l : List Acc) (i : Int) (w : World) (hs : St w A n l) (hn : n ≤ maxLen) (hsrt : Sorted l) :
    Calls Try.prog 33 #[.slice A n c, .int .i64 i] w fun e w' => e = .returned (.agg #[.int .i64 (getR l i).id, .int .i64 (getR l i).bal, .int .i64 (getR l i).non, .int .i64 (getR l i).dat]) ∧ Ext w w' := by
  unfold maxLen at hn
  have hp := hs.at_
  obtain ⟨rfl, -⟩ := hs
  have Hs := Lib.hid hsrt
  clear hsrt
  go_enter Try.func33, Try.ntmps33
  go_wp2
  go_loop [5] (fun j => ∃ k : Nat, k ≤ l.length ∧ j = .int .i64 k ∧ Hid (∀ m (hm : m < l.length), m < k → (l[m]).id ≠ i)) (fun j => l.length - (intOf j).toNat)
  case atStart => exact ⟨0, by omega, rfl, Lib.hid (fun _ _ h => absurd h (by omega))⟩
  case round =>
    obtain ⟨k, hk, rfl, Hno⟩ := hrel
    by_cases hlt : k < l.length
    · obtain ⟨b, o, rfl, hb, d0, d1, d2, d3⟩ := hp k hlt
      have E := (Ext.refl w).alloc (.cells #[.int .i64 0, .int .i64 0, .int .i64 0, .int .i64 0] 29)
      have e0 := E.cell d0
      have e1 := E.cell d1
      have e2 := E.cell d2
      have e3 := E.cell d3
      clear E hp
      by_cases hx : l[k].id = i
      · have hg := Fine.get_of_mem Hs.out (List.getElem_mem hlt)
        rw [hx] at hg
        have Hg := Lib.hid hg
        clear hg
        generalize l[k] = a at *
        obtain ⟨ai, ab, an, ad⟩ := a
        simp only at hx d0 d1 d2 d3 e0 e1 e2 e3
        subst hx
        have hxx : (ai == ai) = true := by simp
        go_wp2
        exact bodyPost_ret (v := (⟨ai, ab, an, ad⟩ : Acc).val) (by simp [results, Try.results33, go_sem, Acc.val]) rfl ⟨by rw [Hg.out]; rfl, (Ext.refl w).alloc _⟩
      · have hx' : (l[k].id == i) = false := by simpa using hx
        have Hx := Lib.hid hx
        clear hx
        go_wp2
        go_round
        case rel => exact ⟨k + 1, by omega, by go_num, Lib.hid fun m hm hmk => by
          rcases Nat.lt_succ_iff_lt_or_eq.1 hmk with h | rfl
          · exact Hno.out m hm h
          · exact Hx.out⟩
        case measure => simp [intOf]; omega
    · have hz : getR l i = zeroAcc i := by
        rcases getR_mem l i with h | h
        · obtain ⟨m, hm, hm2⟩ := List.getElem_of_mem h
          exact absurd (by rw [hm2, getR_id]) (Hno.out m hm (by omega))
        · exact h
      have Hz := Lib.hid hz
      clear hp hz
      go_wp2
      exact bodyPost_ret (v := (zeroAcc i).val) (by simp [results, Try.results33, go_sem, zeroAcc, Acc.val]) rfl ⟨by rw [Hz.out]; rfl, (Ext.refl w).alloc _⟩

set_option maxHeartbeats 1000000 in
theorem rsame_any (A1 A2 : Option Addr) (n1 n2 c1 c2 : Nat) (a b : List Acc) (w : World) (h1 : St w A1 n1 a) (h2 : St w A2 n2 b) (hn1 : n1 ≤ maxLen) (hn2 : n2 ≤ maxLen) :
    Calls Try.prog 32 #[.slice A1 n1 c1, .slice A2 n2 c2] w fun e w' => e = .returned (.bool (sameL a b)) ∧ Ext w w' := by
  unfold maxLen at hn1 hn2
  by_cases hlen : n1 = n2
  · subst hlen
    have hp := h1.at_
    have hq := h2.at_
    obtain ⟨rfl, -⟩ := h1
    have hl2 := h2.1
    clear h2
    have Hl2 := Lib.hid hl2
    clear hl2
    have hd : ((a.length : Int) != (a.length : Int)) = false := by simp
    go_enter Try.func32, Try.ntmps32
    go_wp2
    go_loopw [5] (fun i wr => ∃ k : Nat, k ≤ a.length ∧ i = .int .i64 k ∧ Hid (a.take k = b.take k) ∧ Ext w wr) (fun i _ => a.length - (intOf i).toNat)
    case atStart => exact ⟨0, by omega, rfl, Lib.hid (by simp), Ext.refl w⟩
    case round =>
      obtain ⟨k, hk, rfl, Hs, he⟩ := hrel
      clear hd
      by_cases hlt : k < a.length
      · have hlb : k < b.length := by rw [Hl2.out]; exact hlt
        obtain ⟨b1, o1, rfl, _, d0, d1, d2, d3⟩ := hp k hlt
        obtain ⟨b2, o2, rfl, hb2, e0, e1, e2, e3⟩ := hq k hlb
        have hb2 := he.lt hb2
        have c0 := he.cell d0
        have c1' := he.cell d1
        have c2' := he.cell d2
        have c3 := he.cell d3
        have g0 := he.cell e0
        have g1 := he.cell e1
        have g2 := he.cell e2
        have g3 := he.cell e3
        clear hp hq d0 d1 d2 d3 e0 e1 e2 e3
        have hneq := fun w => run_neq_acc a[k] b[k] w
        cases hxy : Acc.eqB a[k] b[k]
        · go_wp2
          go_quiet (fail)
          go_wp2
          go_ret
          have hne : sameL a b = false := by
            cases hs : sameL a b with
            | false => rfl
            | true =>
              have := (sameL_iff a b).1 hs
              subst this
              have h1 := (Acc.eqB_iff a[k] a[k]).2 rfl
              rw [hxy] at h1; cases h1
          exact ⟨ret_bool hne.symm, he.drewN _⟩
        · go_wp2
          go_quiet (fail)
          go_wp2
          go_roundw
          case rel => exact ⟨k + 1, by omega, by go_num, Lib.hid (by rw [List.take_succ_eq_append_getElem hlt, List.take_succ_eq_append_getElem hlb, Hs.out, (Acc.eqB_iff _ _).1 hxy]), he.drewN _⟩
          case measure => simp [intOf]; omega
      · have hk' : k = a.length := by omega
        have hK := Lib.hid hk'
        clear hp hq hk'
        go_wp2
        go_ret
        have : a = b := by
          have := Hs.out
          rw [hK.out, List.take_length, ← Hl2.out, List.take_length] at this
          exact this
        exact ⟨ret_bool (by rw [this, sameL_self]), he⟩
  · have hd : ((n1 : Int) != (n2 : Int)) = true := by simp; omega
    have hne : sameL a b = false := by
      have := h1.1; have := h2.1
      simp [sameL]; intro h; omega
    go_enter Try.func32, Try.ntmps32
    go_wp2
    go_ret
    exact ⟨ret_bool (by rw [hne]), Ext.refl w⟩

set_option maxRecDepth 100000 in
set_option maxHeartbeats 4000000 in
theorem rcheck_any (A : Option Addr) (n c : Nat) (l : List Acc) (w : World) (hs : St w A n l) (hn : n ≤ 1000000) :
    Calls Try.prog 29 #[.slice A n c] w fun e w' => e = .returned (.int .i64 (chk none 0 l)) ∧ Ext w w' := by
  have hp := hs.at_
  obtain ⟨rfl, -⟩ := hs
  go_enter Try.func29, Try.ntmps29
  go_wp2_with fail
  go_loopw [3, 4] (fun s i wr => ∃ (k : Nat) (sum : Int), i = .int .i64 k ∧ s = .int .i64 sum ∧ At8 l k sum ∧ Ext w wr) (fun _ i _ => l.length - (intOf i).toNat)
  case atStart => exact ⟨0, 0, rfl, rfl, At8.start l, Ext.refl w⟩
  case round =>
    obtain ⟨k, sum, rfl, rfl, hA, he⟩ := hrel
    have hle := hA.le
    have hs0 := hA.lo
    have hs1 := hA.hi
    by_cases hlt : k < l.length
    · obtain ⟨bb, oo, rfl, hbb, c0, c1, c2, c3⟩ := hp k hlt
      have hSay := hA.say hlt
      have hprev : Hid (∀ j, k = j + 1 → ∃ (hj : j < l.length), prevOf l k = some (l[j]).id) := Lib.hid fun j hj => ⟨by omega, by subst hj; exact prevOf_succ l j (by omega)⟩
      have d0 := he.cell c0
      have d1 := he.cell c1
      have d2 := he.cell c2
      have d3 := he.cell c3
      have hbr := he.lt hbb
      have Hp := Lib.hid hp
      clear hp c0 c1 c2 c3 hA
      generalize l[k] = a at *
      obtain ⟨ai, ab, an, ad⟩ := a
      simp only at d0 d1 d2 d3 hSay
      have e1 := box_cell wr #[.int .i64 ai, .int .i64 ab, .int .i64 an, .int .i64 ad] 29 1 _ rfl
      have e0 := box_cell wr #[.int .i64 ai, .int .i64 ab, .int .i64 an, .int .i64 ad] 29 0 _ rfl
      have e2 := box_cell wr #[.int .i64 ai, .int .i64 ab, .int .i64 an, .int .i64 ad] 29 2 _ rfl
      have e3 := box_cell wr #[.int .i64 ai, .int .i64 ab, .int .i64 an, .int .i64 ad] 29 3 _ rfl
      have he2 := he.alloc (.cells #[.int .i64 ai, .int .i64 ab, .int .i64 an, .int .i64 ad] 29)
      by_cases harg : ai < 0 ∨ 256 ≤ ai
      · rcases harg with harg | harg
        · go_wp2_with fail
          go_ret
          exact ⟨ret_int (hSay.arg (.inl harg)).symm, he2⟩
        · have h0 : ¬ ai < 0 := by omega
          go_wp2_with fail
          go_ret
          exact ⟨ret_int (hSay.arg (.inr harg)).symm, he2⟩
      have h1 : 0 ≤ ai := by omega
      have h2 : ai < 256 := by omega
      clear harg
      rcases Nat.eq_zero_or_pos k with hk0 | hk0
      · subst hk0
        have hq : Hid (∀ q, prevOf l 0 = some q → q < ai) := Lib.hid (fun q h => by cases h)
        have hd8 : decide ((0 : Int) > 0) = false := rfl
        simp only [Nat.zero_mul, Nat.add_zero] at d0 d1 d2 d3
        clear hprev
        go_wp2_with fail
        go_quiet (fail)
        have hnn := fun w' => rnone_any ai ab an ad w'
        have hff := fun w' => rfine_any ai ab an ad w'
        have hsp : Hid ((fineB ab an = false → chk none 0 l = 11) ∧ (noneB ab an ad = true → chk none 0 l = 11) ∧ (fineB ab an = true → noneB ab an ad = false → 1125899906842624 < sum + ab → chk none 0 l = 13) ∧ (fineB ab an = true → noneB ab an ad = false → sum + ab ≤ 1125899906842624 → At8 l (0 + 1) (sum + ab))) := by
          refine Lib.hid ⟨fun h => hSay.over h1 h2 hq.out ?_, hSay.no h1 h2 hq.out, fun h hb hc => ?_, fun h hb hc => ?_⟩
          · simp only [fineB, decide_eq_false_iff_not] at h; show ab < 0 ∨ 1125899906842624 < ab ∨ an < 0 ∨ 1073741824 < an; omega
          · simp only [fineB, decide_eq_true_eq] at h; exact hSay.funds h1 h2 hq.out h.1 h.2.1 h.2.2.1 h.2.2.2 hb hc
          · simp only [fineB, decide_eq_true_eq] at h; exact hSay.on h1 h2 hq.out h.1 h.2.1 h.2.2.1 h.2.2.2 hb hc
        have hbd : fineB ab an = true → 0 ≤ ab ∧ ab ≤ 1125899906842624 := fun h => by simp only [fineB, decide_eq_true_eq] at h; omega
        cases hfb : fineB ab an
        · rw [hfb] at hff hsp
          clear hfb hbd hnn hSay
          go_wp2_with (go_at_call 46; refine (hff _).mono ?_; rintro e w5 ⟨rfl, he5⟩)
          go_ret
          exact ⟨ret_int (hsp.out.1 (by first | rfl | trivial)).symm, (he2.drewN _).trans he5⟩
        · obtain ⟨n1, n2⟩ := hbd hfb
          rw [hfb] at hff hsp
          clear hfb hbd hSay
          cases hnb : noneB ab an ad
          · rw [hnb] at hnn hsp
            clear hnb
            by_cases hsum : 1125899906842624 < sum + ab
            · go_wp2_with (first | (go_at_call 46; refine (hff _).mono ?_; rintro e w5 ⟨rfl, he5⟩; have j0 := Ext.cell he5 e0; have j1 := Ext.cell he5 e1; have j2 := Ext.cell he5 e2; have j3 := Ext.cell he5 e3) | (go_at_call 47; refine (hnn _).mono ?_; rintro e w6 ⟨rfl, he6⟩; have i1 := Ext.cell he6 j1))
              go_ret
              exact ⟨ret_int (hsp.out.2.2.1 (by first | rfl | trivial) (by first | rfl | trivial) hsum).symm, ((he2.drewN _).trans he5).trans he6⟩
            · have hsum' : sum + ab ≤ 1125899906842624 := by omega
              go_wp2_with (first | (go_at_call 46; refine (hff _).mono ?_; rintro e w5 ⟨rfl, he5⟩; have j0 := Ext.cell he5 e0; have j1 := Ext.cell he5 e1; have j2 := Ext.cell he5 e2; have j3 := Ext.cell he5 e3) | (go_at_call 47; refine (hnn _).mono ?_; rintro e w6 ⟨rfl, he6⟩; have i1 := Ext.cell he6 j1))
              go_roundw
              case rel => exact ⟨0 + 1, _, by go_num, rfl, hsp.out.2.2.2 (by first | rfl | trivial) (by first | rfl | trivial) hsum', ((he2.drewN _).trans he5).trans he6⟩
              case measure => simp [intOf]; omega
          · rw [hnb] at hnn hsp
            clear hnb
            go_wp2_with (first | (go_at_call 46; refine (hff _).mono ?_; rintro e w5 ⟨rfl, he5⟩; have j0 := Ext.cell he5 e0; have j1 := Ext.cell he5 e1; have j2 := Ext.cell he5 e2; have j3 := Ext.cell he5 e3) | (go_at_call 47; refine (hnn _).mono ?_; rintro e w6 ⟨rfl, he6⟩))
            go_ret
            exact ⟨ret_int (hsp.out.2.1 (by first | rfl | trivial)).symm, ((he2.drewN _).trans he5).trans he6⟩
      · obtain ⟨j, rfl⟩ : ∃ j, k = j + 1 := ⟨k - 1, by omega⟩
        obtain ⟨hj, hpv⟩ := hprev.out j rfl
        obtain ⟨b2, o2, hA2, _, f0, _, _, _⟩ := Hp.out j hj
        simp only [Option.some.injEq, Addr.mk.injEq, and_true] at hA2
        obtain ⟨rfl, rfl⟩ := hA2
        have g0 := he2.cell f0
        have hd1 : IntKind.i64.wrap ((j : Int) + 1 - 1) = (j : Int) := by rw [IntWalk.i64_in _ (by omega)]; omega
        clear f0 hprev hk0
        by_cases hle2 : ai ≤ l[j].id
        · have h7 := hSay.is h1 h2 _ hpv hle2
          have H7 := Lib.hid h7
          have hge : decide (l[j].id ≥ ai) = true := by simpa using hle2
          have hd : decide ((0 : Int) < ((j : Int) + 1)) = true := by simp only [decide_eq_true_eq]; omega
          clear h7 hpv
          go_wp2_with fail
          go_quiet (fail)
          go_wp2_with fail
          go_ret
          exact ⟨ret_int H7.out.symm, he2.drewN _⟩
        · have hq : Hid (∀ q, prevOf l (j + 1) = some q → q < ai) := Lib.hid (fun q h => by rw [hpv] at h; injection h with h; omega)
          have hge : decide (l[j].id ≥ ai) = false := by simp; omega
          have hd : decide ((0 : Int) < ((j : Int) + 1)) = true := by simp only [decide_eq_true_eq]; omega
          clear hpv
          go_wp2_with fail
          go_quiet (fail)
          have hnn := fun w' => rnone_any ai ab an ad w'
          have hff := fun w' => rfine_any ai ab an ad w'
          have hsp : Hid ((fineB ab an = false → chk none 0 l = 11) ∧ (noneB ab an ad = true → chk none 0 l = 11) ∧ (fineB ab an = true → noneB ab an ad = false → 1125899906842624 < sum + ab → chk none 0 l = 13) ∧ (fineB ab an = true → noneB ab an ad = false → sum + ab ≤ 1125899906842624 → At8 l (j + 1 + 1) (sum + ab))) := by
            refine Lib.hid ⟨fun h => hSay.over h1 h2 hq.out ?_, hSay.no h1 h2 hq.out, fun h hb hc => ?_, fun h hb hc => ?_⟩
            · simp only [fineB, decide_eq_false_iff_not] at h; show ab < 0 ∨ 1125899906842624 < ab ∨ an < 0 ∨ 1073741824 < an; omega
            · simp only [fineB, decide_eq_true_eq] at h; exact hSay.funds h1 h2 hq.out h.1 h.2.1 h.2.2.1 h.2.2.2 hb hc
            · simp only [fineB, decide_eq_true_eq] at h; exact hSay.on h1 h2 hq.out h.1 h.2.1 h.2.2.1 h.2.2.2 hb hc
          have hbd : fineB ab an = true → 0 ≤ ab ∧ ab ≤ 1125899906842624 := fun h => by simp only [fineB, decide_eq_true_eq] at h; omega
          cases hfb : fineB ab an
          · rw [hfb] at hff hsp
            clear hfb hbd hnn hSay
            go_wp2_with (go_at_call 46; refine (hff _).mono ?_; rintro e w5 ⟨rfl, he5⟩)
            go_ret
            exact ⟨ret_int (hsp.out.1 (by first | rfl | trivial)).symm, (he2.drewN _).trans he5⟩
          · obtain ⟨n1, n2⟩ := hbd hfb
            rw [hfb] at hff hsp
            clear hfb hbd hSay
            cases hnb : noneB ab an ad
            · rw [hnb] at hnn hsp
              clear hnb
              by_cases hsum : 1125899906842624 < sum + ab
              · go_wp2_with (first | (go_at_call 46; refine (hff _).mono ?_; rintro e w5 ⟨rfl, he5⟩; have j0 := Ext.cell he5 e0; have j1 := Ext.cell he5 e1; have j2 := Ext.cell he5 e2; have j3 := Ext.cell he5 e3) | (go_at_call 47; refine (hnn _).mono ?_; rintro e w6 ⟨rfl, he6⟩; have i1 := Ext.cell he6 j1))
                go_ret
                exact ⟨ret_int (hsp.out.2.2.1 (by first | rfl | trivial) (by first | rfl | trivial) hsum).symm, ((he2.drewN _).trans he5).trans he6⟩
              · have hsum' : sum + ab ≤ 1125899906842624 := by omega
                go_wp2_with (first | (go_at_call 46; refine (hff _).mono ?_; rintro e w5 ⟨rfl, he5⟩; have j0 := Ext.cell he5 e0; have j1 := Ext.cell he5 e1; have j2 := Ext.cell he5 e2; have j3 := Ext.cell he5 e3) | (go_at_call 47; refine (hnn _).mono ?_; rintro e w6 ⟨rfl, he6⟩; have i1 := Ext.cell he6 j1))
                go_roundw
                case rel => exact ⟨j + 1 + 1, _, by go_num, rfl, hsp.out.2.2.2 (by first | rfl | trivial) (by first | rfl | trivial) hsum', ((he2.drewN _).trans he5).trans he6⟩
                case measure => simp [intOf]; omega
            · rw [hnb] at hnn hsp
              clear hnb
              go_wp2_with (first | (go_at_call 46; refine (hff _).mono ?_; rintro e w5 ⟨rfl, he5⟩; have j0 := Ext.cell he5 e0; have j1 := Ext.cell he5 e1; have j2 := Ext.cell he5 e2; have j3 := Ext.cell he5 e3) | (go_at_call 47; refine (hnn _).mono ?_; rintro e w6 ⟨rfl, he6⟩))
              go_ret
              exact ⟨ret_int (hsp.out.2.1 (by first | rfl | trivial)).symm, ((he2.drewN _).trans he5).trans he6⟩
    · clear hp
      have hk : k = l.length := by omega
      have heq := hA.eq.out
      rw [hk, List.drop_length] at heq
      have Heq := Lib.hid heq
      clear hk heq
      go_wp2_with fail
      go_ret
      exact ⟨ret_int Heq.out.symm, he⟩
end Go.Proofs.Ytbijpbkekdeilaa
