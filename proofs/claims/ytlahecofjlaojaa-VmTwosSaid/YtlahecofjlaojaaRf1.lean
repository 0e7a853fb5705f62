/- The document's machine: needs, puts, shift, times, two, number, fail, New. -/
import Derived.Test.YtlahecofjlaojaaVm10
import Derived.IntWalk
namespace Go.Proofs.Ytlahecofjlaojaa
set_option linter.unusedVariables false
open Go.RowKit

def needsV (op : Nat) : Nat := if 2 ≤ op ∧ op ≤ 7 ∨ op = 9 then 2 else if op = 8 ∨ op = 10 ∨ op = 13 ∨ op = 14 ∨ op = 15 then 1 else 0
def putsV (op : Nat) : Nat := if op = 8 ∨ op = 9 then 2 else if op = 10 ∨ op = 13 ∨ op = 0 then 0 else 1
theorem op_cases {op : Nat} (h : op < 16) : op = 0 ∨ op = 1 ∨ op = 2 ∨ op = 3 ∨ op = 4 ∨ op = 5 ∨ op = 6 ∨ op = 7 ∨ op = 8 ∨ op = 9 ∨ op = 10 ∨ op = 11 ∨ op = 12 ∨ op = 13 ∨ op = 14 ∨ op = 15 := by omega
set_option maxHeartbeats 4000000 in
theorem needs_any (op : Nat) (h : op < 16) (w : World) :
    Calls Try.prog 31 #[.int .u8 (op : Int)] w fun e w' => e = .returned (.int .i64 (needsV op : Int)) ∧ w' = w := by
  rcases op_cases h with rfl | rfl | rfl | rfl | rfl | rfl | rfl | rfl | rfl | rfl | rfl | rfl | rfl | rfl | rfl | rfl <;>
  · clear h
    go_enter Try.func31, Try.ntmps31
    go_wp2_with fail
    go_ret
    exact ⟨rfl, rfl⟩
set_option maxHeartbeats 4000000 in
theorem puts_any (op : Nat) (h : op < 16) (w : World) :
    Calls Try.prog 32 #[.int .u8 (op : Int)] w fun e w' => e = .returned (.int .i64 (putsV op : Int)) ∧ w' = w := by
  rcases op_cases h with rfl | rfl | rfl | rfl | rfl | rfl | rfl | rfl | rfl | rfl | rfl | rfl | rfl | rfl | rfl | rfl <;>
  · clear h
    go_enter Try.func32, Try.ntmps32
    go_wp2_with fail
    go_ret
    exact ⟨rfl, rfl⟩
theorem shl_far {a b : Int} (h : 63 < b) : shlV a b = 0 := by
  unfold shlV
  rw [show min b.toNat 64 = 64 by omega]
  unfold wrap64
  omega
theorem shr_far {a b : Int} (ha : -9223372036854775808 ≤ a ∧ a ≤ 9223372036854775807) (h : 63 < b) : shrV a b = if a < 0 then -1 else 0 := by
  unfold shrV
  rw [show min b.toNat 64 = 64 by omega]
  split <;> omega
theorem shl_near {a b : Int} (h : b ≤ 63) : shlV a b = wrap64 (a * 2 ^ b.toNat) := by
  unfold shlV
  rw [show min b.toNat 64 = b.toNat by omega]
theorem shr_near {a b : Int} (h : b ≤ 63) : shrV a b = a / 2 ^ b.toNat := by
  unfold shrV
  rw [show min b.toNat 64 = b.toNat by omega]
set_option maxHeartbeats 1000000 in
theorem rshl_any (a b : Int) (w : World) (ha : -9223372036854775808 ≤ a ∧ a ≤ 9223372036854775807) (hb : 0 ≤ b ∧ b ≤ 9223372036854775807) :
    Calls Try.prog 43 #[.int .i64 a, .int .i64 b, .bool true] w fun e w' => e = .returned (.int .i64 (shlV a b)) ∧ w' = w := by
  obtain ⟨a1, a2⟩ := ha
  obtain ⟨b1, b2⟩ := hb
  by_cases h : 63 < b
  · rw [shl_far h]
    go_enter Try.func43, Try.ntmps43
    go_wp2_with fail
    go_ret
    exact ⟨rfl, rfl⟩
  · rw [shl_near (by omega)]
    go_enter Try.func43, Try.ntmps43
    go_wp2_with fail
    go_ret
    exact ⟨rfl, rfl⟩
set_option maxHeartbeats 1000000 in
theorem rshr_any (a b : Int) (w : World) (ha : -9223372036854775808 ≤ a ∧ a ≤ 9223372036854775807) (hb : 0 ≤ b ∧ b ≤ 9223372036854775807) :
    Calls Try.prog 43 #[.int .i64 a, .int .i64 b, .bool false] w fun e w' => e = .returned (.int .i64 (shrV a b)) ∧ w' = w := by
  obtain ⟨a1, a2⟩ := ha
  obtain ⟨b1, b2⟩ := hb
  by_cases h : 63 < b
  · rw [shr_far ⟨a1, a2⟩ h]
    by_cases hn : a < 0
    · rw [if_pos hn]
      go_enter Try.func43, Try.ntmps43
      go_wp2_with fail
      go_ret
      exact ⟨rfl, rfl⟩
    · rw [if_neg hn]
      go_enter Try.func43, Try.ntmps43
      go_wp2_with fail
      go_ret
      exact ⟨rfl, rfl⟩
  · rw [shr_near (by omega)]
    go_enter Try.func43, Try.ntmps43
    go_wp2_with fail
    go_ret
    exact ⟨rfl, rfl⟩
/-- When a product divided gives the one number back. -/
theorem times_law {a b : Int} (ha : -9223372036854775808 ≤ a ∧ a ≤ 9223372036854775807) (hb : -9223372036854775808 ≤ b ∧ b ≤ 9223372036854775807) (hb0 : b ≠ 0) (hx : ¬ (b = -1 ∧ a = -9223372036854775808)) :
    (decide (wrap64 ((wrap64 (a * b)).tdiv b) = a)) = in64 (a * b) ∧ (in64 (a * b) = true → wrap64 (a * b) = a * b) := by
  have hw : ∀ x : Int, -9223372036854775808 ≤ x → x ≤ 9223372036854775807 → wrap64 x = x := by intro x h1 h2; unfold wrap64; omega
  have hin : in64 (a * b) = true → wrap64 (a * b) = a * b := by
    intro h
    unfold in64 at h
    simp at h
    exact hw _ h.1 h.2
  refine ⟨?_, hin⟩
  cases h : in64 (a * b)
  · have hne : wrap64 (a * b) ≠ a * b := by
      intro h1
      have : in64 (a * b) = true := by
        rw [← h1]
        unfold in64 wrap64
        simp
        omega
      rw [h] at this
      exact absurd this (by simp)
    have hc : -9223372036854775808 ≤ wrap64 (a * b) ∧ wrap64 (a * b) ≤ 9223372036854775807 := by unfold wrap64; omega
    have hmod : ∃ k : Int, wrap64 (a * b) = a * b + 18446744073709551616 * k := by
      refine ⟨-((a * b + 9223372036854775808) / 18446744073709551616), ?_⟩
      unfold wrap64
      generalize a * b = p
      omega
    obtain ⟨k, hk⟩ := hmod
    generalize wrap64 (a * b) = c at *
    simp only [decide_eq_false_iff_not]
    intro hq
    have hd := Int.tdiv_mul_add_tmod c b
    have hr1 : (c.tmod b).natAbs < b.natAbs := by
      have := Int.natAbs_tmod c b
      rw [this]
      exact Nat.mod_lt _ (by omega)
    by_cases hq2 : c.tdiv b ≤ 9223372036854775807 ∧ -9223372036854775808 ≤ c.tdiv b
    · rw [hw _ hq2.2 hq2.1] at hq
      rw [hq] at hd
      have : k = 0 := by
        generalize a * b = p at *
        omega
      subst this
      apply hne
      generalize a * b = p at *
      omega
    · -- only the least number divided by -1
      have hle : (c.tdiv b).natAbs ≤ c.natAbs := by
        rw [Int.natAbs_tdiv]
        exact Nat.div_le_self _ _
      have hc2 : c.tdiv b = 9223372036854775808 := by omega
      rw [hc2] at hq
      have ha2 : a = -9223372036854775808 := by rw [← hq]; unfold wrap64; omega
      rw [hc2] at hd
      have : b = -1 := by omega
      exact hx ⟨this, ha2⟩
  · simp only [decide_eq_true_eq]
    rw [hin h, Int.mul_tdiv_cancel _ hb0]
    exact hw _ ha.1 ha.2
theorem times_zero {a b : Int} (h : a = 0 ∨ b = 0) : a * b = 0 := by
  rcases h with rfl | rfl
  · exact Int.zero_mul _
  · exact Int.mul_zero _
/-- What times says. -/
def TimesSays (a b : Int) (w : World) (e : Ending) (w' : World) : Prop := ∃ x, e = .returned (.tuple #[.int .i64 x, .bool (in64 (a * b))]) ∧ (in64 (a * b) = true → x = a * b) ∧ Ext w w'
theorem TimesSays.mk {a b x : Int} {c : Bool} {w : World} (h : c = in64 (a * b)) (k : in64 (a * b) = true → x = a * b) : TimesSays a b w (.returned (.tuple #[.int .i64 x, .bool c])) w := ⟨x, by rw [h], k, Ext.refl w⟩
theorem TimesSays.ext {a b : Int} {w w' : World} {e : Ending} (h : TimesSays a b w e w) (he : Ext w w') : TimesSays a b w e w' := by
  obtain ⟨x, h1, h2, _⟩ := h
  exact ⟨x, h1, h2, he⟩
set_option maxHeartbeats 1000000 in
theorem times_any (a b : Int) (w : World) (ha : -9223372036854775808 ≤ a ∧ a ≤ 9223372036854775807) (hb : -9223372036854775808 ≤ b ∧ b ≤ 9223372036854775807) :
    Calls Try.prog 42 #[.int .i64 a, .int .i64 b] w fun e w' => TimesSays a b w e w' := by
  by_cases h0 : a = 0
  · subst h0
    have T := TimesSays.mk (a := 0) (b := b) (x := 0) (c := true) (w := w) (by rw [Int.zero_mul]; rfl) (fun _ => (Int.zero_mul b).symm)
    have HT := Lib.hid T
    clear T
    go_enter Try.func42, Try.ntmps42
    go_wp2_with fail
    go_ret2
    exact HT.out
  by_cases h1 : b = 0
  · subst h1
    have T := TimesSays.mk (a := a) (b := 0) (x := 0) (c := true) (w := w) (by rw [Int.mul_zero]; rfl) (fun _ => (Int.mul_zero a).symm)
    have HT := Lib.hid T
    clear T
    go_enter Try.func42, Try.ntmps42
    go_wp2_with fail
    go_ret2
    exact HT.out
  by_cases h2 : a = -1 ∧ b = -9223372036854775808
  · obtain ⟨rfl, rfl⟩ := h2
    have T := TimesSays.mk (a := -1) (b := -9223372036854775808) (x := 0) (c := false) (w := w) (by decide) (by decide)
    have HT := Lib.hid T
    clear T
    go_enter Try.func42, Try.ntmps42
    go_wp2_with fail
    go_ret2
    exact HT.out
  by_cases h3 : b = -1 ∧ a = -9223372036854775808
  · obtain ⟨rfl, rfl⟩ := h3
    have T := TimesSays.mk (a := -9223372036854775808) (b := -1) (x := 0) (c := false) (w := w) (by decide) (by decide)
    have HT := Lib.hid T
    clear T
    go_enter Try.func42, Try.ntmps42
    go_wp2_with fail
    go_ret2
    exact HT.out
  obtain ⟨t1, t2⟩ := times_law ha hb h1 h3
  have T := TimesSays.mk (a := a) (b := b) (x := wrap64 (a * b)) (c := decide (wrap64 ((wrap64 (a * b)).tdiv b) = a)) (w := w) t1 t2
  have HT := Lib.hid T
  have e0 : ((a : Int) == 0) = false := by simpa using h0
  have e1 : ((b : Int) == 0) = false := by simpa using h1
  have H2 := Lib.hid h2
  have H3 := Lib.hid h3
  obtain ⟨a1, a2⟩ := ha
  obtain ⟨b1, b2⟩ := hb
  clear T t1 t2 h2 h3
  have hne : b ≠ 0 := h1
  clear h0 h1
  cases e2 : ((a : Int) == -1)
  · cases e3 : ((b : Int) == -1)
    · go_enter Try.func42, Try.ntmps42
      go_wp2_with fail
      go_quiet (fail)
      go_wp2_with fail
      go_ret2
      exact HT.out.ext ((Ext.refl w).drewN _)
    · have e4 : ((a : Int) == -9223372036854775808) = false := by simpa using fun k => H3.out ⟨by simpa using e3, k⟩
      go_enter Try.func42, Try.ntmps42
      go_wp2_with fail
      go_quiet (fail)
      go_wp2_with fail
      go_ret2
      exact HT.out.ext ((Ext.refl w).drewN _)
  · have e5 : ((b : Int) == -9223372036854775808) = false := by simpa using fun k => H2.out ⟨by simpa using e2, k⟩
    have e4 : ((a : Int) == -9223372036854775808) = false := by
      have : a = -1 := by simpa using e2
      rw [this]; rfl
    cases e3 : ((b : Int) == -1)
    · go_enter Try.func42, Try.ntmps42
      go_wp2_with fail
      go_quiet (fail)
      go_wp2_with fail
      go_ret2
      exact HT.out.ext ((Ext.refl w).drewN _)
    · go_enter Try.func42, Try.ntmps42
      go_wp2_with fail
      go_quiet (fail)
      go_wp2_with fail
      go_ret2
      exact HT.out.ext ((Ext.refl w).drewN _)
/-- What two says: the number, the error. -/
def TwoSays (op : Nat) (a b : Int) (w : World) (e : Ending) (w' : World) : Prop := e = .returned (.tuple #[.int .i64 (twoV op a b).2, .int .i64 ((twoV op a b).1 : Int)]) ∧ Ext w w'
theorem TwoSays.mk {op : Nat} {a b x y : Int} {w w' : World} (h : x = (twoV op a b).2) (k : y = ((twoV op a b).1 : Int)) (he : Ext w w') : TwoSays op a b w (.returned (.tuple #[.int .i64 x, .int .i64 y])) w' := ⟨by rw [h, k], he⟩
theorem radd_test {a b : Int} (a1 : -9223372036854775808 ≤ a) (a2 : a ≤ 9223372036854775807) (b1 : -9223372036854775808 ≤ b) (b2 : b ≤ 9223372036854775807) :
    (decide (a < wrap64 (a + b)) != decide (0 < b) && b != 0) = !in64 (a + b) := by
  unfold in64 wrap64
  by_cases h1 : -9223372036854775808 ≤ a + b <;> by_cases h2 : a + b ≤ 9223372036854775807 <;> by_cases h3 : 0 < b <;> by_cases h4 : b = 0 <;> simp [h1, h2, h3, h4] <;> omega
theorem rsub_test {a b : Int} (a1 : -9223372036854775808 ≤ a) (a2 : a ≤ 9223372036854775807) (b1 : -9223372036854775808 ≤ b) (b2 : b ≤ 9223372036854775807) :
    (decide (wrap64 (a - b) < a) != decide (0 < b) && b != 0) = !in64 (a - b) := by
  unfold in64 wrap64
  by_cases h1 : -9223372036854775808 ≤ a - b <;> by_cases h2 : a - b ≤ 9223372036854775807 <;> by_cases h3 : 0 < b <;> by_cases h4 : b = 0 <;> simp [h1, h2, h3, h4] <;> omega
theorem two_in {op : Nat} {a b : Int} (h : op = 2) (i : in64 (a + b) = true) : twoV op a b = (0, a + b) := by subst h; show (if in64 (a + b) then _ else _) = _; rw [if_pos i]
theorem two_out {op : Nat} {a b : Int} (h : op = 2) (i : in64 (a + b) = false) : twoV op a b = (11, 0) := by subst h; show (if in64 (a + b) then _ else _) = _; rw [if_neg (by simp [i])]
theorem two_in3 {op : Nat} {a b : Int} (h : op = 3) (i : in64 (a - b) = true) : twoV op a b = (0, a - b) := by subst h; show (if in64 (a - b) then _ else _) = _; rw [if_pos i]
theorem two_out3 {op : Nat} {a b : Int} (h : op = 3) (i : in64 (a - b) = false) : twoV op a b = (11, 0) := by subst h; show (if in64 (a - b) then _ else _) = _; rw [if_neg (by simp [i])]
theorem two_in4 {op : Nat} {a b : Int} (h : op = 4) (i : in64 (a * b) = true) : twoV op a b = (0, a * b) := by subst h; show (if in64 (a * b) then _ else _) = _; rw [if_pos i]
theorem two_out4 {op : Nat} {a b : Int} (h : op = 4) (i : in64 (a * b) = false) : twoV op a b = (11, 0) := by subst h; show (if in64 (a * b) then _ else _) = _; rw [if_neg (by simp [i])]
set_option maxHeartbeats 1000000 in
theorem rtwo_mul (a b : Int) (w : World) (ha : -9223372036854775808 ≤ a ∧ a ≤ 9223372036854775807) (hb : -9223372036854775808 ≤ b ∧ b ≤ 9223372036854775807) :
    Calls Try.prog 33 #[.int .u8 4, .int .i64 a, .int .i64 b] w fun e w' => TwoSays 4 a b w e w' := by
  have ht := times_any a b w ha hb
  cases hi : in64 (a * b)
  · have HT := Lib.hid (two_out4 (a := a) (b := b) rfl hi)
    have Hi := Lib.hid hi
    unfold TimesSays at ht
    rw [hi] at ht
    clear hi ha hb
    go_enter Try.func33, Try.ntmps33
    go_wp2_with fail
    refine ht.mono ?_
    rintro e w1 ⟨x, rfl, hx, he⟩
    clear ht
    go_wp2_with fail
    go_ret2
    exact .mk (by rw [HT.out]) (by rw [HT.out]; rfl) he
  · have HT := Lib.hid (two_in4 (a := a) (b := b) rfl hi)
    have Hi := Lib.hid hi
    unfold TimesSays at ht
    rw [hi] at ht
    clear hi ha hb
    go_enter Try.func33, Try.ntmps33
    go_wp2_with fail
    refine ht.mono ?_
    rintro e w1 ⟨x, rfl, hx, he⟩
    have hx' := hx trivial
    subst hx'
    clear ht hx
    go_wp2_with fail
    go_ret2
    exact .mk (by rw [HT.out]) (by rw [HT.out]; rfl) he
theorem add_case {a b : Int} (ha : -9223372036854775808 ≤ a ∧ a ≤ 9223372036854775807) (hb : -9223372036854775808 ≤ b ∧ b ≤ 9223372036854775807) :
    twoV 2 a b = if (decide (a < wrap64 (a + b)) != decide (0 < b) && !(b == 0)) = true then (11, 0) else (0, wrap64 (a + b)) := by
  have t1 := radd_test ha.1 ha.2 hb.1 hb.2
  have t2 := (add_test ha.1 ha.2 hb.1 hb.2).2
  show (if in64 (a + b) then (0, a + b) else (11, 0)) = _
  change (decide (a < wrap64 (a + b)) != decide (0 < b) && !(b == 0)) = !in64 (a + b) at t1
  rw [t1]
  cases hi : in64 (a + b)
  · rfl
  · rw [t2 hi]; rfl
set_option maxHeartbeats 2000000 in
theorem rtwo_add (a b : Int) (w : World) (ha : -9223372036854775808 ≤ a ∧ a ≤ 9223372036854775807) (hb : -9223372036854775808 ≤ b ∧ b ≤ 9223372036854775807) :
    Calls Try.prog 33 #[.int .u8 2, .int .i64 a, .int .i64 b] w fun e w' => TwoSays 2 a b w e w' := by
  have t1 := add_case ha hb
  obtain ⟨a1, a2⟩ := ha
  obtain ⟨b1, b2⟩ := hb
  cases h0 : (b == 0) <;> cases p : decide (a < wrap64 (a + b)) <;> cases q : decide (0 < b) <;>
  · rw [h0, p, q] at t1
    have HT := Lib.hid t1
    clear t1
    go_enter Try.func33, Try.ntmps33
    go_wp2_with fail
    all_goals
      go_ret2
      exact .mk (by rw [HT.out]; rfl) (by rw [HT.out]; rfl) (Ext.refl w)
theorem sub_case {a b : Int} (ha : -9223372036854775808 ≤ a ∧ a ≤ 9223372036854775807) (hb : -9223372036854775808 ≤ b ∧ b ≤ 9223372036854775807) :
    twoV 3 a b = if (decide (wrap64 (a - b) < a) != decide (0 < b) && !(b == 0)) = true then (11, 0) else (0, wrap64 (a - b)) := by
  have t1 := rsub_test ha.1 ha.2 hb.1 hb.2
  have t2 := (sub_test ha.1 ha.2 hb.1 hb.2).2
  show (if in64 (a - b) then (0, a - b) else (11, 0)) = _
  change (decide (wrap64 (a - b) < a) != decide (0 < b) && !(b == 0)) = !in64 (a - b) at t1
  rw [t1]
  cases hi : in64 (a - b)
  · rfl
  · rw [t2 hi]; rfl
set_option maxHeartbeats 2000000 in
theorem rtwo_sub (a b : Int) (w : World) (ha : -9223372036854775808 ≤ a ∧ a ≤ 9223372036854775807) (hb : -9223372036854775808 ≤ b ∧ b ≤ 9223372036854775807) :
    Calls Try.prog 33 #[.int .u8 3, .int .i64 a, .int .i64 b] w fun e w' => TwoSays 3 a b w e w' := by
  have t1 := sub_case ha hb
  obtain ⟨a1, a2⟩ := ha
  obtain ⟨b1, b2⟩ := hb
  cases h0 : (b == 0) <;> cases p : decide (wrap64 (a - b) < a) <;> cases q : decide (0 < b) <;>
  · rw [h0, p, q] at t1
    have HT := Lib.hid t1
    clear t1
    go_enter Try.func33, Try.ntmps33
    go_wp2_with fail
    all_goals
      go_ret2
      exact .mk (by rw [HT.out]; rfl) (by rw [HT.out]; rfl) (Ext.refl w)
set_option maxHeartbeats 1000000 in
theorem rtwo_and (a b : Int) (w : World) (ha : -9223372036854775808 ≤ a ∧ a ≤ 9223372036854775807) (hb : -9223372036854775808 ≤ b ∧ b ≤ 9223372036854775807) :
    Calls Try.prog 33 #[.int .u8 7, .int .i64 a, .int .i64 b] w fun e w' => TwoSays 7 a b w e w' := by
  have HT := Lib.hid (show twoV 7 a b = (0, bits .and .i64 a b) from rfl)
  obtain ⟨a1, a2⟩ := ha
  obtain ⟨b1, b2⟩ := hb
  go_enter Try.func33, Try.ntmps33
  go_wp2_with fail
  go_ret2
  exact .mk (by rw [HT.out]) (by rw [HT.out]; rfl) (Ext.refl w)
set_option maxHeartbeats 1000000 in
theorem rtwo_shl (a b : Int) (w : World) (ha : -9223372036854775808 ≤ a ∧ a ≤ 9223372036854775807) (hb : -9223372036854775808 ≤ b ∧ b ≤ 9223372036854775807) :
    Calls Try.prog 33 #[.int .u8 5, .int .i64 a, .int .i64 b] w fun e w' => TwoSays 5 a b w e w' := by
  by_cases hn : b < 0
  · have HT := Lib.hid (show twoV 5 a b = (1, 0) by unfold twoV; rw [if_neg (by decide), if_neg (by decide), if_neg (by decide), if_pos rfl, if_pos hn])
    go_enter Try.func33, Try.ntmps33
    go_wp2_with fail
    go_ret2
    exact .mk (by rw [HT.out]) (by rw [HT.out]; rfl) (Ext.refl w)
  · have hs := rshl_any a b w ha ⟨by omega, hb.2⟩
    have HT := Lib.hid (show twoV 5 a b = (0, shlV a b) by unfold twoV; rw [if_neg (by decide), if_neg (by decide), if_neg (by decide), if_pos rfl, if_neg hn])
    clear ha hb
    generalize shlV a b = x at *
    go_enter Try.func33, Try.ntmps33
    go_wp2_with fail
    refine hs.mono ?_
    rintro e w1 ⟨rfl, rfl⟩
    go_wp2_with fail
    go_ret2
    exact .mk (by rw [HT.out]) (by rw [HT.out]; rfl) (Ext.refl _)
set_option maxHeartbeats 1000000 in
theorem rtwo_shr (a b : Int) (w : World) (ha : -9223372036854775808 ≤ a ∧ a ≤ 9223372036854775807) (hb : -9223372036854775808 ≤ b ∧ b ≤ 9223372036854775807) :
    Calls Try.prog 33 #[.int .u8 6, .int .i64 a, .int .i64 b] w fun e w' => TwoSays 6 a b w e w' := by
  by_cases hn : b < 0
  · have HT := Lib.hid (show twoV 6 a b = (1, 0) by unfold twoV; rw [if_neg (by decide), if_neg (by decide), if_neg (by decide), if_neg (by decide), if_pos rfl, if_pos hn])
    go_enter Try.func33, Try.ntmps33
    go_wp2_with fail
    go_ret2
    exact .mk (by rw [HT.out]) (by rw [HT.out]; rfl) (Ext.refl w)
  · have hs := rshr_any a b w ha ⟨by omega, hb.2⟩
    have HT := Lib.hid (show twoV 6 a b = (0, shrV a b) by unfold twoV; rw [if_neg (by decide), if_neg (by decide), if_neg (by decide), if_neg (by decide), if_pos rfl, if_neg hn])
    clear ha hb
    generalize shrV a b = x at *
    go_enter Try.func33, Try.ntmps33
    go_wp2_with fail
    refine hs.mono ?_
    rintro e w1 ⟨rfl, rfl⟩
    go_wp2_with fail
    go_ret2
    exact .mk (by rw [HT.out]) (by rw [HT.out]; rfl) (Ext.refl _)
theorem rtwo_any (op : Nat) (hop : 2 ≤ op ∧ op ≤ 7) (a b : Int) (w : World) (ha : -9223372036854775808 ≤ a ∧ a ≤ 9223372036854775807) (hb : -9223372036854775808 ≤ b ∧ b ≤ 9223372036854775807) :
    Calls Try.prog 33 #[.int .u8 (op : Int), .int .i64 a, .int .i64 b] w fun e w' => TwoSays op a b w e w' := by
  have h : op = 2 ∨ op = 3 ∨ op = 4 ∨ op = 5 ∨ op = 6 ∨ op = 7 := by omega
  rcases h with rfl | rfl | rfl | rfl | rfl | rfl
  · exact rtwo_add a b w ha hb
  · exact rtwo_sub a b w ha hb
  · exact rtwo_mul a b w ha hb
  · exact rtwo_shl a b w ha hb
  · exact rtwo_shr a b w ha hb
  · exact rtwo_and a b w ha hb
end Go.Proofs.Ytlahecofjlaojaa
