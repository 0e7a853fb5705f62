/- DiskTurns: the plain law, the walk. (printed by wip/gen/dkturn.py) -/
import Derived.Test.YtpgndejmhegklaaDkStop
namespace Go.Proofs.Ytpgndejmhegklaa
set_option linter.unusedVariables false
open Go.RowKit

/-- The disk ahead of its last operation: i of k are done. -/
def dT (a : List Nat) (k i : Nat) : Dsk := ⟨k + 1 - i, (k + 1) % 2, false, a, a.length, [], 100000⟩
theorem dT_start (a : List Nat) (h : a.length ≤ 300) : (Dsk.mk0 100000).append a = (0, ⟨0, 0, false, a, 0, [], 100000⟩) := by
  unfold Dsk.append Dsk.mk0
  rw [if_neg (by simp), if_neg (by simp; omega)]
  rfl
theorem dT_sync (a : List Nat) : (Dsk.mk 0 0 false a 0 [] 100000).sync = (0, ⟨0, 0, false, a, a.length, [], 100000⟩) := rfl
theorem dT_stop (a : List Nat) (k : Nat) : (Dsk.mk 0 0 false a a.length [] 100000).stop ((k : Int) + 1) = dT a k 0 := by
  unfold Dsk.stop dT
  simp only
  rw [show ((k : Int) + 1).toNat = k + 1 from by omega]
  rfl
theorem dT_next (a : List Nat) (k i : Nat) (h : i < k) (ha : a.length ≤ 300) : (dT a k i).append [] = (0, dT a k (i + 1)) := by
  have hs : (dT a k i).spend = dT a k (i + 1) := by
    unfold Dsk.spend
    rw [if_pos (by show 0 < k + 1 - i; omega)]
    show Dsk.mk (k + 1 - i - 1) _ (decide (k + 1 - i = 1)) _ _ _ _ = Dsk.mk (k + 1 - (i + 1)) _ false _ _ _ _
    rw [show k + 1 - i - 1 = k + 1 - (i + 1) from by omega, show decide (k + 1 - i = 1) = false from by simp; omega]
    rfl
  unfold Dsk.append
  rw [if_neg (by simp [dT]), if_neg (by simp [dT]; omega), hs]
  show ((dT a k (i + 1)).code, Dsk.mk (k + 1 - (i + 1)) ((k + 1) % 2) false (a ++ []) a.length [] 100000) = _
  rw [List.append_nil]
  rfl
theorem nil_str : strOf [] = ⟨#[]⟩ := rfl
def dS (a b : List Nat) (k : Nat) : Dsk := if k = 1 then ⟨0, 0, true, [], 0, b, 100000⟩ else ⟨0, 1, true, a, a.length, [], 100000⟩
theorem dead_val2 {g : Nat} {d : Dsk} {w : World} {b : Bool} (hD : DiskAt w g d) (h : d.dead = b) :
    Calls Try.prog 23 #[.pointer (some ⟨g, 0, none⟩)] w fun e w' => e = .returned (.bool b) ∧ w = w' := by
  subst h; exact (dead_any g d w hD).mono fun e w' h => ⟨h.1, h.2.symm⟩
theorem swap_1 (a b : List Nat) (h : b.length ≤ 300) : (dT a 1 1).swap b = (20, ⟨0, 0, true, [], 0, b, 100000⟩) := by
  rw [swap_at _ b rfl (by show b.length ≤ 100000; omega)]; rfl
theorem swap_0 (a b : List Nat) (h : b.length ≤ 300) : (dT a 0 0).swap b = (20, ⟨0, 1, true, a, a.length, [], 100000⟩) := by
  rw [swap_at _ b rfl (by show b.length ≤ 100000; omega)]; rfl
theorem swap_2 (a b : List Nat) (h : b.length ≤ 300) : (dT a 2 2).swap b = (20, ⟨0, 1, true, a, a.length, [], 100000⟩) := by
  rw [swap_at _ b rfl (by show b.length ≤ 100000; omega)]; rfl
theorem cut_1 (a : List Nat) (q : Nat) (h : q ≤ a.length) : (dT a 1 1).cut (q : Int) = (20, ⟨0, 0, true, a.take q, q, [], 100000⟩) := by
  rw [cut_at _ q rfl h]; rfl
theorem cut_0 (a : List Nat) (q : Nat) (h : q ≤ a.length) : (dT a 0 0).cut (q : Int) = (20, ⟨0, 1, true, a, a.length, [], 100000⟩) := by
  rw [cut_at _ q rfl h]; rfl
theorem cut_2 (a : List Nat) (q : Nat) (h : q ≤ a.length) : (dT a 2 2).cut (q : Int) = (20, ⟨0, 1, true, a, a.length, [], 100000⟩) := by
  rw [cut_at _ q rfl h]; rfl

set_option maxRecDepth 100000 in
set_option maxHeartbeats 8000000 in
theorem turns_walk (A : Option Addr) (n c : Nat) (ua : List Nat) (A1 : Option Addr) (n1 c1 : Nat) (ub : List Nat) (m : Int) (swap : Bool) (first : Int) (w : World)
    (hz : Bytes w A n ua) (hnc : n ≤ c) (hm : c ≤ maxLen) (hb : ∀ x ∈ ua, x < 256) (hz1 : Bytes w A1 n1 ub) (hnc1 : n1 ≤ c1) (hm1 : c1 ≤ maxLen) (hb1 : ∀ x ∈ ub, x < 256) :
    Calls Try.prog 7 #[.slice A n c, .slice A1 n1 c1, .int .i64 m, .bool swap, .int .i64 first] w fun e w' => e = .returned (.bool true) ∧ Ext w w' := by
  have hl := Lib.hid hz.len
  have hl1 := Lib.hid hz1.len
  have hcm := hm
  unfold maxLen at hm hm1
  go_enter Try.func7, Try.ntmps7
  go_wp2_with fail
  refine (known4 w).mono ?_
  rintro e w1 ⟨rfl, hx1⟩
  by_cases hb0 : (300 : Int) < (n : Int)
  · go_wp2_with fail
    go_ret
    exact ⟨rfl, hx1⟩
  have hb0' : (n : Int) ≤ 300 := by omega
  by_cases hb2 : (300 : Int) < (n1 : Int)
  · go_wp2_with fail
    go_ret
    exact ⟨rfl, hx1⟩
  have hb2' : (n1 : Int) ≤ 300 := by omega
  clear hb0 hb2
  have hwf := fun w => within4 first 3 (by omega) (by omega) w
  obtain ⟨k, hk, hk3⟩ := emod_natW first 3 3 rfl (by omega)
  rw [hk] at hwf
  have hwn := fun w => within4 m ((n : Int) + 1) (by omega) (by omega) w
  obtain ⟨q, hq, hqn⟩ := emod_natW m ((n : Int) + 1) (n + 1) (by omega) (by omega)
  rw [hq] at hwn
  clear hk hq
  have hki : (k : Int) < 3 := by omega
  go_wp2_with fail
  refine (new_any 100000 w1 (by omega) (by omega)).mono ?_
  rintro e w2 ⟨rfl, hD2, hx2⟩
  have h2 := append_any w1.heap.size _ A n c ua w2 hD2 ((hz.ext hx1).ext hx2) hb hnc hcm
  rw [dT_start ua (by rw [hl.out]; omega)] at h2
  go_wp2_with fail
  refine h2.mono ?_
  rintro e w3 ⟨rfl, hD3, hM3⟩
  have hx3 : Ext w1 w3 := hx2.mut hM3 (Nat.le_refl _)
  have h3 := sync_any w1.heap.size _ w3 hD3
  rw [dT_sync] at h3
  clear h2 hD2 hM3 hx2
  go_wp2_with fail
  refine h3.mono ?_
  rintro e w4 ⟨rfl, hD4, hM4⟩
  have hx4 : Ext w1 w4 := hx3.mut hM4 (Nat.le_refl _)
  clear h3 hD3 hM4 hx3
  go_wp2_with fail
  refine (hwf _).mono ?_
  rintro e w5 ⟨rfl, rfl⟩
  have h5 := stop_any w1.heap.size _ ((k : Int) + 1) w5 hD4 (by omega)
  rw [dT_stop] at h5
  clear hwf
  go_wp2_with fail
  refine h5.mono ?_
  rintro e w6 ⟨rfl, hD6, hM6⟩
  have hx6 : Ext w1 w6 := hx4.mut hM6 (Nat.le_refl _)
  clear h5 hD4 hM6 hx4
  go_wp2_with fail
  go_loopw [14] (fun i wr => ∃ j : Nat, j ≤ k ∧ i = .int .i64 (j : Int) ∧ DiskAt wr w1.heap.size (dT ua k j) ∧ Ext w1 wr) (fun i _ => k - (intOf i).toNat)
  case atStart => exact ⟨0, Nat.zero_le _, rfl, hD6, hx6⟩
  case round =>
    clear hD6 hx6
    obtain ⟨j, hj, rfl, hD, her⟩ := hrel
    by_cases hlt : j < k
    · have h7 := append_any w1.heap.size _ none 0 0 [] wr hD (.of (RS.nil _ _ _) rfl) (by simp) (Nat.le_refl _) (by unfold maxLen; omega)
      rw [dT_next ua k j hlt (by rw [hl.out]; omega)] at h7
      go_wp2_with fail
      refine h7.mono ?_
      rintro e w7 ⟨rfl, hD7, hM7⟩
      go_wp2_with fail
      go_roundw
      case rel => exact ⟨j + 1, by omega, by go_num, hD7, her.mut hM7 (Nat.le_refl _)⟩
      case measure => simp [intOf]; omega
    · obtain rfl : j = k := by omega
      have hzr := hz.ext (hx1.trans her)
      have hz1r := hz1.ext (hx1.trans her)
      have hla := hl.out
      have hlb := hl1.out
      have hq2 : q ≤ ua.length := by omega
      have sA : ∀ w', Ext wr w' → (convert 22 9 (.slice A n c)).run Try.prog w' = .ok (.string (strOf ua)) w' := fun w' h => run_string A n c ua w' (hzr.ext h)
      have sB : ∀ w', Ext wr w' → (convert 22 9 (.slice A1 n1 c1)).run Try.prog w' = .ok (.string (strOf ub)) w' := fun w' h => run_string A1 n1 c1 ub w' (hz1r.ext h)
      have sQ : ∀ w', Ext wr w' → (convert 22 9 (.slice A q c)).run Try.prog w' = .ok (.string (strOf (ua.take q))) w' := fun w' h => run_string A q c _ w' ((hzr.front (hi := q) (by omega)).ext h)
      have eQ : ∀ w, (Instr.slice 22 (.slice A n c) none (some (.int .i64 (q : Int))) none).run Try.prog w = .ok (.slice A q c) w := fun w => byte_elem.cut_hi A n c q .i64 (q : Int) rfl (by omega) w
      have hkk : j = 0 ∨ j = 1 ∨ j = 2 := by omega
      have hqi : (q : Int) ≤ (n : Int) := by omega
      have hq0 : (0 : Int) ≤ (q : Int) := by omega
      have Hla := Lib.hid hla
      have Hlb := Lib.hid hlb
      clear hlt hla hlb
      cases swap
      · rcases hkk with rfl | rfl | rfl
        · have h8 := cut_any w1.heap.size _ (q : Int) wr hD
          rw [cut_0 ua q hq2] at h8
          go_wp2_with fail
          refine (hwn _).mono ?_
          rintro e w8 ⟨rfl, rfl⟩
          go_wp2_with fail
          refine h8.mono ?_
          rintro e w9 ⟨rfl, hD9, hM9⟩
          have hz9 := hz.ext (hx1.trans (her.mut hM9 (Nat.le_refl _)))
          have hz19 := hz1.ext (hx1.trans (her.mut hM9 (Nat.le_refl _)))
          have hx19 : Ext w1 w9 := her.mut hM9 (Nat.le_refl _)
          clear her hM9 sA sB sQ hzr hz1r h8 hD
          have sA : ∀ w', Ext w9 w' → (convert 22 9 (.slice A n c)).run Try.prog w' = .ok (.string (strOf ua)) w' := fun w' h => run_string A n c ua w' (hz9.ext h)
          have sB : ∀ w', Ext w9 w' → (convert 22 9 (.slice A1 n1 c1)).run Try.prog w' = .ok (.string (strOf ub)) w' := fun w' h => run_string A1 n1 c1 ub w' (hz19.ext h)
          have sQ : ∀ w', Ext w9 w' → (convert 22 9 (.slice A q c)).run Try.prog w' = .ok (.string (strOf (ua.take q))) w' := fun w' h => run_string A q c _ w' ((hz9.front (hi := q) (by omega)).ext h)
          have sA9 := sA w9 (Ext.refl w9)
          have sB9 := sB w9 (Ext.refl w9)
          have sQ9 := sQ w9 (Ext.refl w9)
          have her := hx19
          go_wp2_with fail
          refine (dead_val2 hD9 rfl).mono ?_
          rintro e w10 ⟨rfl, rfl⟩
          go_wp2_with fail
          refine (logN_any w1.heap.size _ (n) (Hla.out) _ hD9).mono ?_
          rintro e w11 ⟨A11, c11, rfl, hg11, hx11⟩
          have hD11 := hD9.ext hx11
          have s11 := run_string A11 (n) c11 (ua) w11 hg11.bytes
          go_wp2_with fail
          refine (snapN_any w1.heap.size _ (0) (rfl) _ hD11).mono ?_
          rintro e w12 ⟨A12, c12, rfl, hg12, hx12⟩
          have hD12 := hD11.ext hx12
          have s12 := run_string A12 (0) c12 ([]) w12 hg12.bytes
          rw [nil_str] at s12
          have h13 := sync_any w1.heap.size _ w12 hD12
          rw [dead_sync rfl] at h13
          clear s11
          go_wp2_with fail
          refine h13.mono ?_
          rintro e w13 ⟨rfl, hD13, hM13⟩
          have h14 := cut_any w1.heap.size _ 0 w13 hD13
          rw [dead_cut rfl] at h14
          clear s12 h13
          go_wp2_with fail
          refine h14.mono ?_
          rintro e w14 ⟨rfl, hD14, hM14⟩
          go_wp2_with fail
          go_ret
          exact ⟨rfl, hx1.trans (((her.trans hx11).trans hx12).mut hM13 (Nat.le_refl _) |>.mut hM14 (Nat.le_refl _))⟩
        · have h8 := cut_any w1.heap.size _ (q : Int) wr hD
          rw [cut_1 ua q hq2] at h8
          go_wp2_with fail
          refine (hwn _).mono ?_
          rintro e w8 ⟨rfl, rfl⟩
          go_wp2_with fail
          refine h8.mono ?_
          rintro e w9 ⟨rfl, hD9, hM9⟩
          have hz9 := hz.ext (hx1.trans (her.mut hM9 (Nat.le_refl _)))
          have hz19 := hz1.ext (hx1.trans (her.mut hM9 (Nat.le_refl _)))
          have hx19 : Ext w1 w9 := her.mut hM9 (Nat.le_refl _)
          clear her hM9 sA sB sQ hzr hz1r h8 hD
          have sA : ∀ w', Ext w9 w' → (convert 22 9 (.slice A n c)).run Try.prog w' = .ok (.string (strOf ua)) w' := fun w' h => run_string A n c ua w' (hz9.ext h)
          have sB : ∀ w', Ext w9 w' → (convert 22 9 (.slice A1 n1 c1)).run Try.prog w' = .ok (.string (strOf ub)) w' := fun w' h => run_string A1 n1 c1 ub w' (hz19.ext h)
          have sQ : ∀ w', Ext w9 w' → (convert 22 9 (.slice A q c)).run Try.prog w' = .ok (.string (strOf (ua.take q))) w' := fun w' h => run_string A q c _ w' ((hz9.front (hi := q) (by omega)).ext h)
          have sA9 := sA w9 (Ext.refl w9)
          have sB9 := sB w9 (Ext.refl w9)
          have sQ9 := sQ w9 (Ext.refl w9)
          have her := hx19
          go_wp2_with fail
          refine (dead_val2 hD9 rfl).mono ?_
          rintro e w10 ⟨rfl, rfl⟩
          go_wp2_with fail
          refine (logN_any w1.heap.size _ (q) (by simp; omega) _ hD9).mono ?_
          rintro e w11 ⟨A11, c11, rfl, hg11, hx11⟩
          have hD11 := hD9.ext hx11
          have s11 := run_string A11 (q) c11 (ua.take q) w11 hg11.bytes
          go_wp2_with fail
          refine (snapN_any w1.heap.size _ (0) (rfl) _ hD11).mono ?_
          rintro e w12 ⟨A12, c12, rfl, hg12, hx12⟩
          have hD12 := hD11.ext hx12
          have s12 := run_string A12 (0) c12 ([]) w12 hg12.bytes
          rw [nil_str] at s12
          have h13 := sync_any w1.heap.size _ w12 hD12
          rw [dead_sync rfl] at h13
          clear s11
          go_wp2_with fail
          refine h13.mono ?_
          rintro e w13 ⟨rfl, hD13, hM13⟩
          have h14 := cut_any w1.heap.size _ 0 w13 hD13
          rw [dead_cut rfl] at h14
          clear s12 h13
          go_wp2_with fail
          refine h14.mono ?_
          rintro e w14 ⟨rfl, hD14, hM14⟩
          go_wp2_with fail
          go_ret
          exact ⟨rfl, hx1.trans (((her.trans hx11).trans hx12).mut hM13 (Nat.le_refl _) |>.mut hM14 (Nat.le_refl _))⟩
        · have h8 := cut_any w1.heap.size _ (q : Int) wr hD
          rw [cut_2 ua q hq2] at h8
          go_wp2_with fail
          refine (hwn _).mono ?_
          rintro e w8 ⟨rfl, rfl⟩
          go_wp2_with fail
          refine h8.mono ?_
          rintro e w9 ⟨rfl, hD9, hM9⟩
          have hz9 := hz.ext (hx1.trans (her.mut hM9 (Nat.le_refl _)))
          have hz19 := hz1.ext (hx1.trans (her.mut hM9 (Nat.le_refl _)))
          have hx19 : Ext w1 w9 := her.mut hM9 (Nat.le_refl _)
          clear her hM9 sA sB sQ hzr hz1r h8 hD
          have sA : ∀ w', Ext w9 w' → (convert 22 9 (.slice A n c)).run Try.prog w' = .ok (.string (strOf ua)) w' := fun w' h => run_string A n c ua w' (hz9.ext h)
          have sB : ∀ w', Ext w9 w' → (convert 22 9 (.slice A1 n1 c1)).run Try.prog w' = .ok (.string (strOf ub)) w' := fun w' h => run_string A1 n1 c1 ub w' (hz19.ext h)
          have sQ : ∀ w', Ext w9 w' → (convert 22 9 (.slice A q c)).run Try.prog w' = .ok (.string (strOf (ua.take q))) w' := fun w' h => run_string A q c _ w' ((hz9.front (hi := q) (by omega)).ext h)
          have sA9 := sA w9 (Ext.refl w9)
          have sB9 := sB w9 (Ext.refl w9)
          have sQ9 := sQ w9 (Ext.refl w9)
          have her := hx19
          go_wp2_with fail
          refine (dead_val2 hD9 rfl).mono ?_
          rintro e w10 ⟨rfl, rfl⟩
          go_wp2_with fail
          refine (logN_any w1.heap.size _ (n) (Hla.out) _ hD9).mono ?_
          rintro e w11 ⟨A11, c11, rfl, hg11, hx11⟩
          have hD11 := hD9.ext hx11
          have s11 := run_string A11 (n) c11 (ua) w11 hg11.bytes
          go_wp2_with fail
          refine (snapN_any w1.heap.size _ (0) (rfl) _ hD11).mono ?_
          rintro e w12 ⟨A12, c12, rfl, hg12, hx12⟩
          have hD12 := hD11.ext hx12
          have s12 := run_string A12 (0) c12 ([]) w12 hg12.bytes
          rw [nil_str] at s12
          have h13 := sync_any w1.heap.size _ w12 hD12
          rw [dead_sync rfl] at h13
          clear s11
          go_wp2_with fail
          refine h13.mono ?_
          rintro e w13 ⟨rfl, hD13, hM13⟩
          have h14 := cut_any w1.heap.size _ 0 w13 hD13
          rw [dead_cut rfl] at h14
          clear s12 h13
          go_wp2_with fail
          refine h14.mono ?_
          rintro e w14 ⟨rfl, hD14, hM14⟩
          go_wp2_with fail
          go_ret
          exact ⟨rfl, hx1.trans (((her.trans hx11).trans hx12).mut hM13 (Nat.le_refl _) |>.mut hM14 (Nat.le_refl _))⟩
      · rcases hkk with rfl | rfl | rfl
        · have h8 := swap_any w1.heap.size _ A1 n1 c1 ub wr hD hz1r hb1
          rw [swap_0 ua ub (by rw [Hlb.out]; omega)] at h8
          go_wp2_with fail
          refine (hwn _).mono ?_
          rintro e w8 ⟨rfl, rfl⟩
          go_wp2_with fail
          refine h8.mono ?_
          rintro e w9 ⟨rfl, hD9, hM9⟩
          have hz9 := hz.ext (hx1.trans (her.mut hM9 (Nat.le_refl _)))
          have hz19 := hz1.ext (hx1.trans (her.mut hM9 (Nat.le_refl _)))
          have hx19 : Ext w1 w9 := her.mut hM9 (Nat.le_refl _)
          clear her hM9 sA sB sQ hzr hz1r h8 hD
          have sA : ∀ w', Ext w9 w' → (convert 22 9 (.slice A n c)).run Try.prog w' = .ok (.string (strOf ua)) w' := fun w' h => run_string A n c ua w' (hz9.ext h)
          have sB : ∀ w', Ext w9 w' → (convert 22 9 (.slice A1 n1 c1)).run Try.prog w' = .ok (.string (strOf ub)) w' := fun w' h => run_string A1 n1 c1 ub w' (hz19.ext h)
          have sQ : ∀ w', Ext w9 w' → (convert 22 9 (.slice A q c)).run Try.prog w' = .ok (.string (strOf (ua.take q))) w' := fun w' h => run_string A q c _ w' ((hz9.front (hi := q) (by omega)).ext h)
          have sA9 := sA w9 (Ext.refl w9)
          have sB9 := sB w9 (Ext.refl w9)
          have sQ9 := sQ w9 (Ext.refl w9)
          have her := hx19
          go_wp2_with fail
          refine (dead_val2 hD9 rfl).mono ?_
          rintro e w10 ⟨rfl, rfl⟩
          go_wp2_with fail
          refine (logN_any w1.heap.size _ (n) (Hla.out) _ hD9).mono ?_
          rintro e w11 ⟨A11, c11, rfl, hg11, hx11⟩
          have hD11 := hD9.ext hx11
          have s11 := run_string A11 (n) c11 (ua) w11 hg11.bytes
          go_wp2_with fail
          refine (snapN_any w1.heap.size _ (0) (rfl) _ hD11).mono ?_
          rintro e w12 ⟨A12, c12, rfl, hg12, hx12⟩
          have hD12 := hD11.ext hx12
          have s12 := run_string A12 (0) c12 ([]) w12 hg12.bytes
          rw [nil_str] at s12
          have h13 := sync_any w1.heap.size _ w12 hD12
          rw [dead_sync rfl] at h13
          clear s11
          go_wp2_with fail
          refine h13.mono ?_
          rintro e w13 ⟨rfl, hD13, hM13⟩
          have h14 := cut_any w1.heap.size _ 0 w13 hD13
          rw [dead_cut rfl] at h14
          clear s12 h13
          go_wp2_with fail
          refine h14.mono ?_
          rintro e w14 ⟨rfl, hD14, hM14⟩
          go_wp2_with fail
          go_ret
          exact ⟨rfl, hx1.trans (((her.trans hx11).trans hx12).mut hM13 (Nat.le_refl _) |>.mut hM14 (Nat.le_refl _))⟩
        · have h8 := swap_any w1.heap.size _ A1 n1 c1 ub wr hD hz1r hb1
          rw [swap_1 ua ub (by rw [Hlb.out]; omega)] at h8
          go_wp2_with fail
          refine (hwn _).mono ?_
          rintro e w8 ⟨rfl, rfl⟩
          go_wp2_with fail
          refine h8.mono ?_
          rintro e w9 ⟨rfl, hD9, hM9⟩
          have hz9 := hz.ext (hx1.trans (her.mut hM9 (Nat.le_refl _)))
          have hz19 := hz1.ext (hx1.trans (her.mut hM9 (Nat.le_refl _)))
          have hx19 : Ext w1 w9 := her.mut hM9 (Nat.le_refl _)
          clear her hM9 sA sB sQ hzr hz1r h8 hD
          have sA : ∀ w', Ext w9 w' → (convert 22 9 (.slice A n c)).run Try.prog w' = .ok (.string (strOf ua)) w' := fun w' h => run_string A n c ua w' (hz9.ext h)
          have sB : ∀ w', Ext w9 w' → (convert 22 9 (.slice A1 n1 c1)).run Try.prog w' = .ok (.string (strOf ub)) w' := fun w' h => run_string A1 n1 c1 ub w' (hz19.ext h)
          have sQ : ∀ w', Ext w9 w' → (convert 22 9 (.slice A q c)).run Try.prog w' = .ok (.string (strOf (ua.take q))) w' := fun w' h => run_string A q c _ w' ((hz9.front (hi := q) (by omega)).ext h)
          have sA9 := sA w9 (Ext.refl w9)
          have sB9 := sB w9 (Ext.refl w9)
          have sQ9 := sQ w9 (Ext.refl w9)
          go_wp2_with fail
          go_region_held3 (fun w' => Ext w9 w') (first | assumption | (repeat (first | assumption | exact Ext.refl _ | refine Ext.drew ?_ | refine Ext.alloc ?_ _))) (fail)
          have hD9 := hD9.ext (Ext.refl w9).drew
          have her := hx19.drew
          go_wp2_with fail
          refine (dead_val2 hD9 rfl).mono ?_
          rintro e w10 ⟨rfl, rfl⟩
          go_wp2_with fail
          refine (logN_any w1.heap.size _ (0) (rfl) _ hD9).mono ?_
          rintro e w11 ⟨A11, c11, rfl, hg11, hx11⟩
          have hD11 := hD9.ext hx11
          have s11 := run_string A11 (0) c11 ([]) w11 hg11.bytes
          rw [nil_str] at s11
          go_wp2_with fail
          refine (snapN_any w1.heap.size _ (n1) (Hlb.out) _ hD11).mono ?_
          rintro e w12 ⟨A12, c12, rfl, hg12, hx12⟩
          have hD12 := hD11.ext hx12
          have s12 := run_string A12 (n1) c12 (ub) w12 hg12.bytes
          have h13 := sync_any w1.heap.size _ w12 hD12
          rw [dead_sync rfl] at h13
          clear s11
          go_wp2_with fail
          refine h13.mono ?_
          rintro e w13 ⟨rfl, hD13, hM13⟩
          have h14 := cut_any w1.heap.size _ 0 w13 hD13
          rw [dead_cut rfl] at h14
          clear s12 h13
          go_wp2_with fail
          refine h14.mono ?_
          rintro e w14 ⟨rfl, hD14, hM14⟩
          go_wp2_with fail
          go_ret
          exact ⟨rfl, hx1.trans (((her.trans hx11).trans hx12).mut hM13 (Nat.le_refl _) |>.mut hM14 (Nat.le_refl _))⟩
        · have h8 := swap_any w1.heap.size _ A1 n1 c1 ub wr hD hz1r hb1
          rw [swap_2 ua ub (by rw [Hlb.out]; omega)] at h8
          go_wp2_with fail
          refine (hwn _).mono ?_
          rintro e w8 ⟨rfl, rfl⟩
          go_wp2_with fail
          refine h8.mono ?_
          rintro e w9 ⟨rfl, hD9, hM9⟩
          have hz9 := hz.ext (hx1.trans (her.mut hM9 (Nat.le_refl _)))
          have hz19 := hz1.ext (hx1.trans (her.mut hM9 (Nat.le_refl _)))
          have hx19 : Ext w1 w9 := her.mut hM9 (Nat.le_refl _)
          clear her hM9 sA sB sQ hzr hz1r h8 hD
          have sA : ∀ w', Ext w9 w' → (convert 22 9 (.slice A n c)).run Try.prog w' = .ok (.string (strOf ua)) w' := fun w' h => run_string A n c ua w' (hz9.ext h)
          have sB : ∀ w', Ext w9 w' → (convert 22 9 (.slice A1 n1 c1)).run Try.prog w' = .ok (.string (strOf ub)) w' := fun w' h => run_string A1 n1 c1 ub w' (hz19.ext h)
          have sQ : ∀ w', Ext w9 w' → (convert 22 9 (.slice A q c)).run Try.prog w' = .ok (.string (strOf (ua.take q))) w' := fun w' h => run_string A q c _ w' ((hz9.front (hi := q) (by omega)).ext h)
          have sA9 := sA w9 (Ext.refl w9)
          have sB9 := sB w9 (Ext.refl w9)
          have sQ9 := sQ w9 (Ext.refl w9)
          have her := hx19
          go_wp2_with fail
          refine (dead_val2 hD9 rfl).mono ?_
          rintro e w10 ⟨rfl, rfl⟩
          go_wp2_with fail
          refine (logN_any w1.heap.size _ (n) (Hla.out) _ hD9).mono ?_
          rintro e w11 ⟨A11, c11, rfl, hg11, hx11⟩
          have hD11 := hD9.ext hx11
          have s11 := run_string A11 (n) c11 (ua) w11 hg11.bytes
          go_wp2_with fail
          refine (snapN_any w1.heap.size _ (0) (rfl) _ hD11).mono ?_
          rintro e w12 ⟨A12, c12, rfl, hg12, hx12⟩
          have hD12 := hD11.ext hx12
          have s12 := run_string A12 (0) c12 ([]) w12 hg12.bytes
          rw [nil_str] at s12
          have h13 := sync_any w1.heap.size _ w12 hD12
          rw [dead_sync rfl] at h13
          clear s11
          go_wp2_with fail
          refine h13.mono ?_
          rintro e w13 ⟨rfl, hD13, hM13⟩
          have h14 := cut_any w1.heap.size _ 0 w13 hD13
          rw [dead_cut rfl] at h14
          clear s12 h13
          go_wp2_with fail
          refine h14.mono ?_
          rintro e w14 ⟨rfl, hD14, hM14⟩
          go_wp2_with fail
          go_ret
          exact ⟨rfl, hx1.trans (((her.trans hx11).trans hx12).mut hM13 (Nat.le_refl _) |>.mut hM14 (Nat.le_refl _))⟩
end Go.Proofs.Ytpgndejmhegklaa
