/- The machine: do, the signs that take. -/
import Derived.Test.YtlahecofjlaojaaVm5
namespace Go.Proofs.Ytlahecofjlaojaa
set_option linter.unusedVariables false
open Go.RowKit

theorem doV_deep (m : Ms) (op : Nat) (h : 2 ≤ op ∧ op ≤ 7) (hs : 16 < m.stack.length - 1) : (doV m op).1 = 15 := by
  unfold doV
  simp only
  rw [if_neg (by omega), if_pos h, if_pos (by omega)]
theorem doV_two (m : Ms) (op : Nat) (h : 2 ≤ op ∧ op ≤ 7) (hs : 2 ≤ m.stack.length) (h1 : ¬ 16 < m.stack.length - 1) (r : Nat × Int) (hr : twoV op (m.stack.getD (m.stack.length - 2) 0) (m.stack.getD (m.stack.length - 1) 0) = r) : doV m op = if r.1 ≠ 0 then ((r.1 : Int), m) else (0, { m with stack := m.stack.take (m.stack.length - 2) ++ [r.2] }) := by
  unfold doV
  simp only
  rw [if_neg (by omega), if_pos h, if_neg (by omega), hr]
theorem drop_at {l : List Int} {k n j : Nat} (h : k + j = n) : (l.drop k).getD j 0 = l.getD n 0 := by subst h; simp [List.getD_eq_getElem?_getD]
theorem Calls.same_quiet {P : Program} {f : FuncId} {args : Array Value} {w : World} {v : Value} (h : Calls P f args w fun e w' => e = .returned v ∧ w' = w) : Calls P f args w fun e w' => e = .returned v ∧ w' = w := h

set_option maxRecDepth 100000 in
set_option maxHeartbeats 2000000 in
theorem vdo_two (w0 : World) (g : Nat) (m : Ms) (op : Nat) (w : World) (hN : NextAt w0 w g m) (hk : m.Ok) (h : 2 ≤ op ∧ op ≤ 7) (hs : 2 ≤ m.stack.length) :
    Calls Try.prog 28 #[.pointer (some ⟨g, 0, none⟩), .int .u8 (op : Int)] w fun e w' => DoSays w0 g (doV m op) e w' := by
  have h1 := vpop_yes w0 g m 2 w hN (by omega) hk.deep hs
  have hdp := doV_deep m op h
  have htw := doV_two m op h hs
  have ha := i64_getD hk.stack (m.stack.length - 2)
  have hb := i64_getD hk.stack (m.stack.length - 1)
  have hq := fun w => vtwo_any op h (m.stack.getD (m.stack.length - 2) 0) (m.stack.getD (m.stack.length - 1) 0) w ha hb
  have hdeep := hk.deep
  have d0 : (m.stack.drop (m.stack.length - 2)).getD 0 0 = m.stack.getD (m.stack.length - 2) 0 := drop_at (by omega)
  have d1 : (m.stack.drop (m.stack.length - 2)).getD 1 0 = m.stack.getD (m.stack.length - 1) 0 := drop_at (by omega)
  have htl : (m.stack.take (m.stack.length - 2)).length = m.stack.length - 2 := by rw [List.length_take]; omega
  obtain ⟨r, hr⟩ : ∃ r, r = doV m op := ⟨_, rfl⟩
  rw [← hr] at hdp ⊢
  have Hr := Lib.hid hr
  have Hdp := Lib.hid hdp
  have Htw := Lib.hid htw
  have Htl := Lib.hid htl
  clear hN hr hdp htw htl ha hb
  generalize m.stack.getD (m.stack.length - 2) 0 = x at *
  generalize m.stack.getD (m.stack.length - 1) 0 = y at *
  generalize htv : twoV op x y = tv at *
  have Htv := Lib.hid htv
  clear htv
  generalize hns : m.stack.length = ns at *
  have Hns := Lib.hid hns
  clear hns
  have e1 : ((op : Int) == 1) = false := by simp; omega
  have hc : op = 2 ∨ op = 3 ∨ op = 4 ∨ op = 5 ∨ op = 6 ∨ op = 7 := by omega
  rcases hc with hc | hc | hc | hc | hc | hc
  · have hop : (op : Int) = 2 := by omega
    rw [hop] at hq
    clear hop
    have e2 : ((op : Int) == 2) = true := by simp; omega
    go_enter Try.func28, Try.ntmps28
    go_upto_region 18 with fail
    go_wp2_with fail
    refine h1.mono ?_
    rintro e w4 ⟨A4, rfl, hg4, hN4⟩
    have hb4 := hN4.base
    obtain ⟨_, _, _, _, -, -, -, -, q4, -⟩ := hN4.cells
    simp only [Htl.out] at q4
    have HN4 := Lib.hid hN4
    obtain ⟨b4, o4, rfl, -, hl0⟩ := hg4.nums.at_ 0 (by omega)
    obtain ⟨b5, o5, hbo, -, hl1⟩ := hg4.nums.at_ 1 (by omega)
    obtain ⟨rfl, rfl⟩ : b4 = b5 ∧ o4 = o5 := by simpa using hbo
    rw [d0, Nat.add_zero] at hl0
    rw [d1] at hl1
    clear hN4 hg4 hbo h1 d0 d1
    by_cases hdp : 16 < ns - 1
    · have hdi : (16 : Int) < ((ns - 2 : Nat) : Int) + 1 := by omega
      have Hhdp := Lib.hid hdp
      clear hdp
      have hkk : ns - 2 ≤ 1000 := by omega
      generalize ns - 2 = k at *
      go_wp2_with fail
      go_ret
      exact ⟨by rw [Hdp.out Hhdp.out]; rfl, hb4, fun h => absurd h (by rw [Hdp.out Hhdp.out]; simp)⟩
    · have hdi : ((ns - 2 : Nat) : Int) + 1 ≤ 16 := by omega
      have Htw2 := Lib.hid (Htw.out hdp tv rfl)
      clear hdp
      have hkk : ns - 2 ≤ 1000 := by omega
      generalize ns - 2 = k at *
      go_wp2_with fail
      have ql0 : ∀ w', Ext w4 w' → w'.cell? ⟨b4, o4, none⟩ = some (.int .i64 x) := fun w' h => h.cell hl0
      have ql1 : ∀ w', Ext w4 w' → w'.cell? ⟨b4, o4 + 1, none⟩ = some (.int .i64 y) := fun w' h => h.cell hl1
      clear hl0 hl1 q4
      go_region_held3 (fun w' => Ext w4 w')
        (first | assumption | (repeat (first | assumption | exact Ext.refl _ | refine Ext.drew ?_ | refine Ext.alloc ?_ _)))
        (first
          | (go_at_call 38; refine (hq _).mono ?_; rintro e w5 ⟨rfl, rfl⟩))
      have hxq : Ext w4 w4.drew := (Ext.refl w4).drew
      have HN5 := Lib.hid (HN4.out.ext hxq)
      have hb5 := hb4.trans hxq
      generalize w4.drew = w5 at *
      obtain ⟨tc, tn⟩ := tv
      simp only at Htw2
      by_cases h0 : tc = 0
      · subst h0
        have hx6 := (Ext.refl w5).alloc (.cells #[.int .i64 tn] 3)
        have hp := vpush_any w0 g { m with stack := m.stack.take k } (some ⟨w5.heap.size, 0, none⟩) 1 1 [tn] _ (HN5.out.ext hx6) (one_num w5 tn) (by omega) (by rw [Htl.out]; omega)
        have hpe : push_ { m with stack := m.stack.take k } [tn] = (0, { m with stack := m.stack.take k ++ [tn] }) := by unfold push_; rw [if_neg (by simp only [Htl.out, List.length_singleton]; omega)]
        rw [hpe] at hp
        have hd := Htw2.out
        rw [if_neg (by simp)] at hd
        have Hd := Lib.hid hd
        clear hpe hd
        go_wp2_with fail
        refine hp.mono ?_
        rintro e w7 ⟨rfl, hN7⟩
        go_wp2_with fail
        go_ret
        rw [Hr.out, Hd.out]
        exact ⟨rfl, hN7.base, fun _ => hN7⟩
      · have hd := Htw2.out
        rw [if_pos h0] at hd
        have Hd := Lib.hid hd
        have h0i : ((tc : Int) == 0) = false := by simp; omega
        clear hd
        go_wp2_with fail
        go_ret
        rw [Hr.out, Hd.out]
        exact ⟨rfl, hb5, fun h => absurd h (by simp; omega)⟩
  · have hop : (op : Int) = 3 := by omega
    rw [hop] at hq
    clear hop
    have e2 : ((op : Int) == 2) = false := by simp; omega
    have e3 : ((op : Int) == 3) = true := by simp; omega
    go_enter Try.func28, Try.ntmps28
    go_upto_region 18 with fail
    go_wp2_with fail
    refine h1.mono ?_
    rintro e w4 ⟨A4, rfl, hg4, hN4⟩
    have hb4 := hN4.base
    obtain ⟨_, _, _, _, -, -, -, -, q4, -⟩ := hN4.cells
    simp only [Htl.out] at q4
    have HN4 := Lib.hid hN4
    obtain ⟨b4, o4, rfl, -, hl0⟩ := hg4.nums.at_ 0 (by omega)
    obtain ⟨b5, o5, hbo, -, hl1⟩ := hg4.nums.at_ 1 (by omega)
    obtain ⟨rfl, rfl⟩ : b4 = b5 ∧ o4 = o5 := by simpa using hbo
    rw [d0, Nat.add_zero] at hl0
    rw [d1] at hl1
    clear hN4 hg4 hbo h1 d0 d1
    by_cases hdp : 16 < ns - 1
    · have hdi : (16 : Int) < ((ns - 2 : Nat) : Int) + 1 := by omega
      have Hhdp := Lib.hid hdp
      clear hdp
      have hkk : ns - 2 ≤ 1000 := by omega
      generalize ns - 2 = k at *
      go_wp2_with fail
      go_ret
      exact ⟨by rw [Hdp.out Hhdp.out]; rfl, hb4, fun h => absurd h (by rw [Hdp.out Hhdp.out]; simp)⟩
    · have hdi : ((ns - 2 : Nat) : Int) + 1 ≤ 16 := by omega
      have Htw2 := Lib.hid (Htw.out hdp tv rfl)
      clear hdp
      have hkk : ns - 2 ≤ 1000 := by omega
      generalize ns - 2 = k at *
      go_wp2_with fail
      have ql0 : ∀ w', Ext w4 w' → w'.cell? ⟨b4, o4, none⟩ = some (.int .i64 x) := fun w' h => h.cell hl0
      have ql1 : ∀ w', Ext w4 w' → w'.cell? ⟨b4, o4 + 1, none⟩ = some (.int .i64 y) := fun w' h => h.cell hl1
      clear hl0 hl1 q4
      go_region_held3 (fun w' => Ext w4 w')
        (first | assumption | (repeat (first | assumption | exact Ext.refl _ | refine Ext.drew ?_ | refine Ext.alloc ?_ _)))
        (first
          | (go_at_call 38; refine (hq _).mono ?_; rintro e w5 ⟨rfl, rfl⟩))
      have hxq : Ext w4 w4.drew := (Ext.refl w4).drew
      have HN5 := Lib.hid (HN4.out.ext hxq)
      have hb5 := hb4.trans hxq
      generalize w4.drew = w5 at *
      obtain ⟨tc, tn⟩ := tv
      simp only at Htw2
      by_cases h0 : tc = 0
      · subst h0
        have hx6 := (Ext.refl w5).alloc (.cells #[.int .i64 tn] 3)
        have hp := vpush_any w0 g { m with stack := m.stack.take k } (some ⟨w5.heap.size, 0, none⟩) 1 1 [tn] _ (HN5.out.ext hx6) (one_num w5 tn) (by omega) (by rw [Htl.out]; omega)
        have hpe : push_ { m with stack := m.stack.take k } [tn] = (0, { m with stack := m.stack.take k ++ [tn] }) := by unfold push_; rw [if_neg (by simp only [Htl.out, List.length_singleton]; omega)]
        rw [hpe] at hp
        have hd := Htw2.out
        rw [if_neg (by simp)] at hd
        have Hd := Lib.hid hd
        clear hpe hd
        go_wp2_with fail
        refine hp.mono ?_
        rintro e w7 ⟨rfl, hN7⟩
        go_wp2_with fail
        go_ret
        rw [Hr.out, Hd.out]
        exact ⟨rfl, hN7.base, fun _ => hN7⟩
      · have hd := Htw2.out
        rw [if_pos h0] at hd
        have Hd := Lib.hid hd
        have h0i : ((tc : Int) == 0) = false := by simp; omega
        clear hd
        go_wp2_with fail
        go_ret
        rw [Hr.out, Hd.out]
        exact ⟨rfl, hb5, fun h => absurd h (by simp; omega)⟩
  · have hop : (op : Int) = 4 := by omega
    rw [hop] at hq
    clear hop
    have e2 : ((op : Int) == 2) = false := by simp; omega
    have e3 : ((op : Int) == 3) = false := by simp; omega
    have e4 : ((op : Int) == 4) = true := by simp; omega
    go_enter Try.func28, Try.ntmps28
    go_upto_region 18 with fail
    go_wp2_with fail
    refine h1.mono ?_
    rintro e w4 ⟨A4, rfl, hg4, hN4⟩
    have hb4 := hN4.base
    obtain ⟨_, _, _, _, -, -, -, -, q4, -⟩ := hN4.cells
    simp only [Htl.out] at q4
    have HN4 := Lib.hid hN4
    obtain ⟨b4, o4, rfl, -, hl0⟩ := hg4.nums.at_ 0 (by omega)
    obtain ⟨b5, o5, hbo, -, hl1⟩ := hg4.nums.at_ 1 (by omega)
    obtain ⟨rfl, rfl⟩ : b4 = b5 ∧ o4 = o5 := by simpa using hbo
    rw [d0, Nat.add_zero] at hl0
    rw [d1] at hl1
    clear hN4 hg4 hbo h1 d0 d1
    by_cases hdp : 16 < ns - 1
    · have hdi : (16 : Int) < ((ns - 2 : Nat) : Int) + 1 := by omega
      have Hhdp := Lib.hid hdp
      clear hdp
      have hkk : ns - 2 ≤ 1000 := by omega
      generalize ns - 2 = k at *
      go_wp2_with fail
      go_ret
      exact ⟨by rw [Hdp.out Hhdp.out]; rfl, hb4, fun h => absurd h (by rw [Hdp.out Hhdp.out]; simp)⟩
    · have hdi : ((ns - 2 : Nat) : Int) + 1 ≤ 16 := by omega
      have Htw2 := Lib.hid (Htw.out hdp tv rfl)
      clear hdp
      have hkk : ns - 2 ≤ 1000 := by omega
      generalize ns - 2 = k at *
      go_wp2_with fail
      have ql0 : ∀ w', Ext w4 w' → w'.cell? ⟨b4, o4, none⟩ = some (.int .i64 x) := fun w' h => h.cell hl0
      have ql1 : ∀ w', Ext w4 w' → w'.cell? ⟨b4, o4 + 1, none⟩ = some (.int .i64 y) := fun w' h => h.cell hl1
      clear hl0 hl1 q4
      go_region_held3 (fun w' => Ext w4 w')
        (first | assumption | (repeat (first | assumption | exact Ext.refl _ | refine Ext.drew ?_ | refine Ext.alloc ?_ _)))
        (first
          | (go_at_call 38; refine (hq _).mono ?_; rintro e w5 ⟨rfl, rfl⟩))
      have hxq : Ext w4 w4.drew := (Ext.refl w4).drew
      have HN5 := Lib.hid (HN4.out.ext hxq)
      have hb5 := hb4.trans hxq
      generalize w4.drew = w5 at *
      obtain ⟨tc, tn⟩ := tv
      simp only at Htw2
      by_cases h0 : tc = 0
      · subst h0
        have hx6 := (Ext.refl w5).alloc (.cells #[.int .i64 tn] 3)
        have hp := vpush_any w0 g { m with stack := m.stack.take k } (some ⟨w5.heap.size, 0, none⟩) 1 1 [tn] _ (HN5.out.ext hx6) (one_num w5 tn) (by omega) (by rw [Htl.out]; omega)
        have hpe : push_ { m with stack := m.stack.take k } [tn] = (0, { m with stack := m.stack.take k ++ [tn] }) := by unfold push_; rw [if_neg (by simp only [Htl.out, List.length_singleton]; omega)]
        rw [hpe] at hp
        have hd := Htw2.out
        rw [if_neg (by simp)] at hd
        have Hd := Lib.hid hd
        clear hpe hd
        go_wp2_with fail
        refine hp.mono ?_
        rintro e w7 ⟨rfl, hN7⟩
        go_wp2_with fail
        go_ret
        rw [Hr.out, Hd.out]
        exact ⟨rfl, hN7.base, fun _ => hN7⟩
      · have hd := Htw2.out
        rw [if_pos h0] at hd
        have Hd := Lib.hid hd
        have h0i : ((tc : Int) == 0) = false := by simp; omega
        clear hd
        go_wp2_with fail
        go_ret
        rw [Hr.out, Hd.out]
        exact ⟨rfl, hb5, fun h => absurd h (by simp; omega)⟩
  · have hop : (op : Int) = 5 := by omega
    rw [hop] at hq
    clear hop
    have e2 : ((op : Int) == 2) = false := by simp; omega
    have e3 : ((op : Int) == 3) = false := by simp; omega
    have e4 : ((op : Int) == 4) = false := by simp; omega
    have e5 : ((op : Int) == 5) = true := by simp; omega
    go_enter Try.func28, Try.ntmps28
    go_upto_region 18 with fail
    go_wp2_with fail
    refine h1.mono ?_
    rintro e w4 ⟨A4, rfl, hg4, hN4⟩
    have hb4 := hN4.base
    obtain ⟨_, _, _, _, -, -, -, -, q4, -⟩ := hN4.cells
    simp only [Htl.out] at q4
    have HN4 := Lib.hid hN4
    obtain ⟨b4, o4, rfl, -, hl0⟩ := hg4.nums.at_ 0 (by omega)
    obtain ⟨b5, o5, hbo, -, hl1⟩ := hg4.nums.at_ 1 (by omega)
    obtain ⟨rfl, rfl⟩ : b4 = b5 ∧ o4 = o5 := by simpa using hbo
    rw [d0, Nat.add_zero] at hl0
    rw [d1] at hl1
    clear hN4 hg4 hbo h1 d0 d1
    by_cases hdp : 16 < ns - 1
    · have hdi : (16 : Int) < ((ns - 2 : Nat) : Int) + 1 := by omega
      have Hhdp := Lib.hid hdp
      clear hdp
      have hkk : ns - 2 ≤ 1000 := by omega
      generalize ns - 2 = k at *
      go_wp2_with fail
      go_ret
      exact ⟨by rw [Hdp.out Hhdp.out]; rfl, hb4, fun h => absurd h (by rw [Hdp.out Hhdp.out]; simp)⟩
    · have hdi : ((ns - 2 : Nat) : Int) + 1 ≤ 16 := by omega
      have Htw2 := Lib.hid (Htw.out hdp tv rfl)
      clear hdp
      have hkk : ns - 2 ≤ 1000 := by omega
      generalize ns - 2 = k at *
      go_wp2_with fail
      have ql0 : ∀ w', Ext w4 w' → w'.cell? ⟨b4, o4, none⟩ = some (.int .i64 x) := fun w' h => h.cell hl0
      have ql1 : ∀ w', Ext w4 w' → w'.cell? ⟨b4, o4 + 1, none⟩ = some (.int .i64 y) := fun w' h => h.cell hl1
      clear hl0 hl1 q4
      go_region_held3 (fun w' => Ext w4 w')
        (first | assumption | (repeat (first | assumption | exact Ext.refl _ | refine Ext.drew ?_ | refine Ext.alloc ?_ _)))
        (first
          | (go_at_call 38; refine (hq _).mono ?_; rintro e w5 ⟨rfl, rfl⟩))
      have hxq : Ext w4 w4.drew := (Ext.refl w4).drew
      have HN5 := Lib.hid (HN4.out.ext hxq)
      have hb5 := hb4.trans hxq
      generalize w4.drew = w5 at *
      obtain ⟨tc, tn⟩ := tv
      simp only at Htw2
      by_cases h0 : tc = 0
      · subst h0
        have hx6 := (Ext.refl w5).alloc (.cells #[.int .i64 tn] 3)
        have hp := vpush_any w0 g { m with stack := m.stack.take k } (some ⟨w5.heap.size, 0, none⟩) 1 1 [tn] _ (HN5.out.ext hx6) (one_num w5 tn) (by omega) (by rw [Htl.out]; omega)
        have hpe : push_ { m with stack := m.stack.take k } [tn] = (0, { m with stack := m.stack.take k ++ [tn] }) := by unfold push_; rw [if_neg (by simp only [Htl.out, List.length_singleton]; omega)]
        rw [hpe] at hp
        have hd := Htw2.out
        rw [if_neg (by simp)] at hd
        have Hd := Lib.hid hd
        clear hpe hd
        go_wp2_with fail
        refine hp.mono ?_
        rintro e w7 ⟨rfl, hN7⟩
        go_wp2_with fail
        go_ret
        rw [Hr.out, Hd.out]
        exact ⟨rfl, hN7.base, fun _ => hN7⟩
      · have hd := Htw2.out
        rw [if_pos h0] at hd
        have Hd := Lib.hid hd
        have h0i : ((tc : Int) == 0) = false := by simp; omega
        clear hd
        go_wp2_with fail
        go_ret
        rw [Hr.out, Hd.out]
        exact ⟨rfl, hb5, fun h => absurd h (by simp; omega)⟩
  · have hop : (op : Int) = 6 := by omega
    rw [hop] at hq
    clear hop
    have e2 : ((op : Int) == 2) = false := by simp; omega
    have e3 : ((op : Int) == 3) = false := by simp; omega
    have e4 : ((op : Int) == 4) = false := by simp; omega
    have e5 : ((op : Int) == 5) = false := by simp; omega
    have e6 : ((op : Int) == 6) = true := by simp; omega
    go_enter Try.func28, Try.ntmps28
    go_upto_region 18 with fail
    go_wp2_with fail
    refine h1.mono ?_
    rintro e w4 ⟨A4, rfl, hg4, hN4⟩
    have hb4 := hN4.base
    obtain ⟨_, _, _, _, -, -, -, -, q4, -⟩ := hN4.cells
    simp only [Htl.out] at q4
    have HN4 := Lib.hid hN4
    obtain ⟨b4, o4, rfl, -, hl0⟩ := hg4.nums.at_ 0 (by omega)
    obtain ⟨b5, o5, hbo, -, hl1⟩ := hg4.nums.at_ 1 (by omega)
    obtain ⟨rfl, rfl⟩ : b4 = b5 ∧ o4 = o5 := by simpa using hbo
    rw [d0, Nat.add_zero] at hl0
    rw [d1] at hl1
    clear hN4 hg4 hbo h1 d0 d1
    by_cases hdp : 16 < ns - 1
    · have hdi : (16 : Int) < ((ns - 2 : Nat) : Int) + 1 := by omega
      have Hhdp := Lib.hid hdp
      clear hdp
      have hkk : ns - 2 ≤ 1000 := by omega
      generalize ns - 2 = k at *
      go_wp2_with fail
      go_ret
      exact ⟨by rw [Hdp.out Hhdp.out]; rfl, hb4, fun h => absurd h (by rw [Hdp.out Hhdp.out]; simp)⟩
    · have hdi : ((ns - 2 : Nat) : Int) + 1 ≤ 16 := by omega
      have Htw2 := Lib.hid (Htw.out hdp tv rfl)
      clear hdp
      have hkk : ns - 2 ≤ 1000 := by omega
      generalize ns - 2 = k at *
      go_wp2_with fail
      have ql0 : ∀ w', Ext w4 w' → w'.cell? ⟨b4, o4, none⟩ = some (.int .i64 x) := fun w' h => h.cell hl0
      have ql1 : ∀ w', Ext w4 w' → w'.cell? ⟨b4, o4 + 1, none⟩ = some (.int .i64 y) := fun w' h => h.cell hl1
      clear hl0 hl1 q4
      go_region_held3 (fun w' => Ext w4 w')
        (first | assumption | (repeat (first | assumption | exact Ext.refl _ | refine Ext.drew ?_ | refine Ext.alloc ?_ _)))
        (first
          | (go_at_call 38; refine (hq _).mono ?_; rintro e w5 ⟨rfl, rfl⟩))
      have hxq : Ext w4 w4.drew := (Ext.refl w4).drew
      have HN5 := Lib.hid (HN4.out.ext hxq)
      have hb5 := hb4.trans hxq
      generalize w4.drew = w5 at *
      obtain ⟨tc, tn⟩ := tv
      simp only at Htw2
      by_cases h0 : tc = 0
      · subst h0
        have hx6 := (Ext.refl w5).alloc (.cells #[.int .i64 tn] 3)
        have hp := vpush_any w0 g { m with stack := m.stack.take k } (some ⟨w5.heap.size, 0, none⟩) 1 1 [tn] _ (HN5.out.ext hx6) (one_num w5 tn) (by omega) (by rw [Htl.out]; omega)
        have hpe : push_ { m with stack := m.stack.take k } [tn] = (0, { m with stack := m.stack.take k ++ [tn] }) := by unfold push_; rw [if_neg (by simp only [Htl.out, List.length_singleton]; omega)]
        rw [hpe] at hp
        have hd := Htw2.out
        rw [if_neg (by simp)] at hd
        have Hd := Lib.hid hd
        clear hpe hd
        go_wp2_with fail
        refine hp.mono ?_
        rintro e w7 ⟨rfl, hN7⟩
        go_wp2_with fail
        go_ret
        rw [Hr.out, Hd.out]
        exact ⟨rfl, hN7.base, fun _ => hN7⟩
      · have hd := Htw2.out
        rw [if_pos h0] at hd
        have Hd := Lib.hid hd
        have h0i : ((tc : Int) == 0) = false := by simp; omega
        clear hd
        go_wp2_with fail
        go_ret
        rw [Hr.out, Hd.out]
        exact ⟨rfl, hb5, fun h => absurd h (by simp; omega)⟩
  · have hop : (op : Int) = 7 := by omega
    rw [hop] at hq
    clear hop
    have e2 : ((op : Int) == 2) = false := by simp; omega
    have e3 : ((op : Int) == 3) = false := by simp; omega
    have e4 : ((op : Int) == 4) = false := by simp; omega
    have e5 : ((op : Int) == 5) = false := by simp; omega
    have e6 : ((op : Int) == 6) = false := by simp; omega
    have e7 : ((op : Int) == 7) = true := by simp; omega
    go_enter Try.func28, Try.ntmps28
    go_upto_region 18 with fail
    go_wp2_with fail
    refine h1.mono ?_
    rintro e w4 ⟨A4, rfl, hg4, hN4⟩
    have hb4 := hN4.base
    obtain ⟨_, _, _, _, -, -, -, -, q4, -⟩ := hN4.cells
    simp only [Htl.out] at q4
    have HN4 := Lib.hid hN4
    obtain ⟨b4, o4, rfl, -, hl0⟩ := hg4.nums.at_ 0 (by omega)
    obtain ⟨b5, o5, hbo, -, hl1⟩ := hg4.nums.at_ 1 (by omega)
    obtain ⟨rfl, rfl⟩ : b4 = b5 ∧ o4 = o5 := by simpa using hbo
    rw [d0, Nat.add_zero] at hl0
    rw [d1] at hl1
    clear hN4 hg4 hbo h1 d0 d1
    by_cases hdp : 16 < ns - 1
    · have hdi : (16 : Int) < ((ns - 2 : Nat) : Int) + 1 := by omega
      have Hhdp := Lib.hid hdp
      clear hdp
      have hkk : ns - 2 ≤ 1000 := by omega
      generalize ns - 2 = k at *
      go_wp2_with fail
      go_ret
      exact ⟨by rw [Hdp.out Hhdp.out]; rfl, hb4, fun h => absurd h (by rw [Hdp.out Hhdp.out]; simp)⟩
    · have hdi : ((ns - 2 : Nat) : Int) + 1 ≤ 16 := by omega
      have Htw2 := Lib.hid (Htw.out hdp tv rfl)
      clear hdp
      have hkk : ns - 2 ≤ 1000 := by omega
      generalize ns - 2 = k at *
      go_wp2_with fail
      have ql0 : ∀ w', Ext w4 w' → w'.cell? ⟨b4, o4, none⟩ = some (.int .i64 x) := fun w' h => h.cell hl0
      have ql1 : ∀ w', Ext w4 w' → w'.cell? ⟨b4, o4 + 1, none⟩ = some (.int .i64 y) := fun w' h => h.cell hl1
      clear hl0 hl1 q4
      go_region_held3 (fun w' => Ext w4 w')
        (first | assumption | (repeat (first | assumption | exact Ext.refl _ | refine Ext.drew ?_ | refine Ext.alloc ?_ _)))
        (first
          | (go_at_call 38; refine (hq _).mono ?_; rintro e w5 ⟨rfl, rfl⟩))
      have hxq : Ext w4 w4.drew := (Ext.refl w4).drew
      have HN5 := Lib.hid (HN4.out.ext hxq)
      have hb5 := hb4.trans hxq
      generalize w4.drew = w5 at *
      obtain ⟨tc, tn⟩ := tv
      simp only at Htw2
      by_cases h0 : tc = 0
      · subst h0
        have hx6 := (Ext.refl w5).alloc (.cells #[.int .i64 tn] 3)
        have hp := vpush_any w0 g { m with stack := m.stack.take k } (some ⟨w5.heap.size, 0, none⟩) 1 1 [tn] _ (HN5.out.ext hx6) (one_num w5 tn) (by omega) (by rw [Htl.out]; omega)
        have hpe : push_ { m with stack := m.stack.take k } [tn] = (0, { m with stack := m.stack.take k ++ [tn] }) := by unfold push_; rw [if_neg (by simp only [Htl.out, List.length_singleton]; omega)]
        rw [hpe] at hp
        have hd := Htw2.out
        rw [if_neg (by simp)] at hd
        have Hd := Lib.hid hd
        clear hpe hd
        go_wp2_with fail
        refine hp.mono ?_
        rintro e w7 ⟨rfl, hN7⟩
        go_wp2_with fail
        go_ret
        rw [Hr.out, Hd.out]
        exact ⟨rfl, hN7.base, fun _ => hN7⟩
      · have hd := Htw2.out
        rw [if_pos h0] at hd
        have Hd := Lib.hid hd
        have h0i : ((tc : Int) == 0) = false := by simp; omega
        clear hd
        go_wp2_with fail
        go_ret
        rw [Hr.out, Hd.out]
        exact ⟨rfl, hb5, fun h => absurd h (by simp; omega)⟩
end Go.Proofs.Ytlahecofjlaojaa
