/- The machine: do, swap, the signs of one. -/
import Derived.Test.YtlahecofjlaojaaVm6
import Derived.StillTailTactics
namespace Go.Proofs.Ytlahecofjlaojaa
set_option linter.unusedVariables false
open Go.RowKit

theorem doV_swap (m : Ms) (hs : 2 ≤ m.stack.length) (r : Int × Ms) (hr : push_ { m with stack := m.stack.take (m.stack.length - 2) } [m.stack.getD (m.stack.length - 1) 0, m.stack.getD (m.stack.length - 2) 0] = r) : (doV m 9).1 = r.1 ∧ (r.1 = 0 → doV m 9 = r) := by
  subst hr
  unfold doV push_
  simp only
  rw [if_neg (by decide), if_neg (by decide), if_pos (by trivial)]
  by_cases h1 : 16 < m.stack.length
  · rw [if_pos (by omega), if_pos (by simp; omega)]
    exact ⟨rfl, fun h => absurd h (by simp)⟩
  · rw [if_neg (by omega), if_neg (by simp; omega)]
    exact ⟨rfl, fun _ => rfl⟩

set_option maxRecDepth 100000 in
set_option maxHeartbeats 2000000 in
theorem vdo_swap (w0 : World) (g : Nat) (m : Ms) (w : World) (hN : NextAt w0 w g m) (hk : m.Ok) (hs : 2 ≤ m.stack.length) :
    Calls Try.prog 28 #[.pointer (some ⟨g, 0, none⟩), .int .u8 9] w fun e w' => DoSays w0 g (doV m 9) e w' := by
  have h1 := vpop_yes w0 g m 2 w hN (by omega) hk.deep hs
  have hdeep := hk.deep
  have d0 : (m.stack.drop (m.stack.length - 2)).getD 0 0 = m.stack.getD (m.stack.length - 2) 0 := drop_at (by omega)
  have d1 : (m.stack.drop (m.stack.length - 2)).getD 1 0 = m.stack.getD (m.stack.length - 1) 0 := drop_at (by omega)
  have htl : (m.stack.take (m.stack.length - 2)).length = m.stack.length - 2 := by rw [List.length_take]; omega
  obtain ⟨q, hq⟩ : ∃ q, push_ { m with stack := m.stack.take (m.stack.length - 2) } [m.stack.getD (m.stack.length - 1) 0, m.stack.getD (m.stack.length - 2) 0] = q := ⟨_, rfl⟩
  have hsw := doV_swap m hs q hq
  obtain ⟨r, hr⟩ : ∃ r, r = doV m 9 := ⟨_, rfl⟩
  rw [← hr] at hsw ⊢
  have Hsw := Lib.hid hsw
  have Htl := Lib.hid htl
  have Hq := Lib.hid hq
  clear hN hr hsw htl hq
  generalize m.stack.getD (m.stack.length - 2) 0 = x at *
  generalize m.stack.getD (m.stack.length - 1) 0 = y at *
  generalize hns : m.stack.length = ns at *
  have Hns := Lib.hid hns
  clear hns
  go_enter Try.func28, Try.ntmps28
  go_upto_region 25 with fail
  go_wp2_with fail
  refine h1.mono ?_
  rintro e w4 ⟨A4, rfl, hg4, hN4⟩
  have HN4 := Lib.hid hN4
  obtain ⟨b4, o4, rfl, -, hl0⟩ := hg4.nums.at_ 0 (by omega)
  obtain ⟨b5, o5, hbo, -, hl1⟩ := hg4.nums.at_ 1 (by omega)
  obtain ⟨rfl, rfl⟩ : b4 = b5 ∧ o4 = o5 := by simpa using hbo
  rw [d0, Nat.add_zero] at hl0
  rw [d1] at hl1
  clear hN4 hg4 hbo h1 d0 d1
  have hkk : ns - 2 ≤ 1000 := by omega
  generalize ns - 2 = k at *
  go_wp2_with fail
  have jl0 := (Ext.refl w4).drew.cell hl0
  have jl1 := (Ext.refl w4).drew.cell hl1
  have hx4 : Ext w4 (w4.drew.alloc (.cells #[.int .i64 y, .int .i64 x] 3)) := ((Ext.refl w4).drew).alloc _
  have hp := vpush_any w0 g { m with stack := m.stack.take k } (some ⟨w4.drew.heap.size, 0, none⟩) 2 2 [y, x] _ (HN4.out.ext hx4) (two_num w4.drew y x) (by omega) (by rw [Htl.out]; omega)
  rw [Hq.out] at hp
  go_region_with (first
    | (go_at_call 39; refine hp.mono ?_; rintro e w7 ⟨rfl, hN7⟩))
  all_goals
    go_wp2_with fail
    go_ret
    exact ⟨by rw [Hsw.out.1]; rfl, hN7.base, fun h => by rw [Hsw.out.1] at h; rw [Hsw.out.2 h]; exact hN7⟩

theorem doV_one (m : Ms) (op : Nat) (h : op = 8 ∨ op = 10 ∨ op = 14 ∨ op = 15) (hs : 1 ≤ m.stack.length) : doV m op = push_ { m with stack := m.stack.take (m.stack.length - 1) } (oneV op (m.stack.getD (m.stack.length - 1) 0)) := by
  unfold doV
  simp only
  rw [if_neg (by omega), if_neg (by omega), if_neg (by omega), if_pos h, if_neg (by omega)]
theorem oneV_len (op : Nat) (a : Int) : (oneV op a).length ≤ 2 := by
  unfold oneV
  split
  · simp
  · split
    · simp
    · split <;> simp

set_option maxRecDepth 100000 in
set_option maxHeartbeats 2000000 in
theorem vdo_one (w0 : World) (g : Nat) (m : Ms) (op : Nat) (w : World) (hN : NextAt w0 w g m) (hk : m.Ok) (h : op = 8 ∨ op = 10 ∨ op = 14 ∨ op = 15) (hs : 1 ≤ m.stack.length) :
    Calls Try.prog 28 #[.pointer (some ⟨g, 0, none⟩), .int .u8 (op : Int)] w fun e w' => DoSays w0 g (doV m op) e w' := by
  have h1 := vpop_yes w0 g m 1 w hN (by omega) hk.deep hs
  have hdeep := hk.deep
  have d0 : (m.stack.drop (m.stack.length - 1)).getD 0 0 = m.stack.getD (m.stack.length - 1) 0 := drop_at (by omega)
  have htl : (m.stack.take (m.stack.length - 1)).length = m.stack.length - 1 := by rw [List.length_take]; omega
  have hd := doV_one m op h hs
  have hq := fun w => vone_any op (m.stack.getD (m.stack.length - 1) 0) w h
  have hol := oneV_len op (m.stack.getD (m.stack.length - 1) 0)
  rw [hd]
  have Htl := Lib.hid htl
  clear hN htl hd
  generalize m.stack.getD (m.stack.length - 1) 0 = x at *
  generalize oneV op x = zs at *
  generalize hns : m.stack.length = ns at *
  have Hns := Lib.hid hns
  clear hns
  have hkk : ns - 1 ≤ 1000 := by omega
  rcases h with rfl | rfl | rfl | rfl
  all_goals
    go_enter Try.func28, Try.ntmps28
    go_upto_region 29 with fail
    go_wp2_with fail
    refine h1.mono ?_
    rintro e w4 ⟨A4, rfl, hg4, hN4⟩
    have HN4 := Lib.hid hN4
    obtain ⟨b4, o4, rfl, -, hl0⟩ := hg4.nums.at_ 0 (by omega)
    rw [d0, Nat.add_zero] at hl0
    clear hN4 hg4 h1 d0
    generalize hke : ns - 1 = k at *
    have Hke := Lib.hid hke
    clear hke
    go_wp2_with fail
    refine (hq w4).mono ?_
    rintro e w5 ⟨A5, rfl, hz5, hx5⟩
    have HN5 := Lib.hid (HN4.out.ext hx5)
    clear hl0 HN4
    go_wp2_with fail
    refine (vpush_any w0 g { m with stack := m.stack.take k } A5 zs.length zs.length zs w5 HN5.out hz5 (by omega) (by rw [Htl.out]; omega)).mono ?_
    rintro e w7 ⟨rfl, hN7⟩
    go_wp2_with fail
    go_ret
    have e := Hke.out
    subst e
    exact ⟨rfl, hN7.base, fun _ => hN7⟩

/-- Every sign. -/
theorem vdo_any (w0 : World) (g : Nat) (m : Ms) (op : Nat) (w : World) (hN : NextAt w0 w g m) (hk : m.Ok) (h : op < 256) (hat : m.at_ ≤ m.code.length) :
    Calls Try.prog 28 #[.pointer (some ⟨g, 0, none⟩), .int .u8 (op : Int)] w fun e w' => DoSays w0 g (doV m op) e w' := by
  by_cases h0 : op = 0 ∨ 16 ≤ op
  · exact vdo_bad w0 g m op w hN h0 h
  by_cases h1 : op = 1
  · subst h1; exact vdo_push w0 g m w hN hk hat
  by_cases h13 : op = 13
  · subst h13; exact vdo_jz w0 g m w hN hk
  by_cases h11 : op = 11
  · subst h11; exact vdo_arg w0 g m w hN hk
  by_cases h12 : op = 12
  · subst h12; exact vdo_data w0 g m w hN hk
  by_cases h9 : op = 9
  · subst h9
    by_cases hs : 2 ≤ m.stack.length
    · exact vdo_swap w0 g m w hN hk hs
    · exact vdo_no w0 g m 9 2 w hN hk (by omega) (by omega)
  by_cases h2 : 2 ≤ op ∧ op ≤ 7
  · by_cases hs : 2 ≤ m.stack.length
    · exact vdo_two w0 g m op w hN hk h2 hs
    · exact vdo_no w0 g m op 2 w hN hk (by omega) (by omega)
  · by_cases hs : 1 ≤ m.stack.length
    · exact vdo_one w0 g m op w hN hk (by omega) hs
    · exact vdo_no w0 g m op 1 w hN hk (by omega) (by omega)
end Go.Proofs.Ytlahecofjlaojaa
