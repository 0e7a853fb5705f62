/- VmJumps: the plain law, the walk. -/
import Derived.Test.YtlahecofjlaojaaVmPush
namespace Go.Proofs.Ytlahecofjlaojaa
set_option linter.unusedVariables false
open Go.RowKit

def cJ (n : Int) : List Nat := ([] ++ [1] ++ bytes8 n) ++ [13, 13, 11, 0, 12]
theorem cJ_lt (n : Int) : ∀ x ∈ cJ n, x < 256 := by
  intro x hx
  unfold cJ at hx
  rcases List.mem_append.1 hx with h | h
  · simp only [List.nil_append, List.mem_append, List.mem_singleton] at h
    rcases h with rfl | h
    · decide
    · exact bytes8_lt _ x h
  · have : ∀ y ∈ [13, 13, 11, 0, 12], y < 256 := by decide
    exact this x h
theorem cJ_at (n : Int) (k : Nat) (h : 9 ≤ k) : (cJ n).getD k 0 = [13, 13, 11, 0, 12].getD (k - 9) 0 := getD_app h
theorem jump_law (n a : Int) (hn : I64 n) : ∃ u, vrun (cJ n) a (a + 1) 20 = (if n = 0 then a + 1 else a, u, 0) := by
  have h1 := push_run (c := cJ n) (pre := []) (post := [13, 13, 11, 0, 12]) (A := a) (D := a + 1) (s := []) (g := 20) (q := n) (by unfold cJ; simp) hn (by omega) (by decide)
  have hl : (cJ n).length = 14 := rfl
  by_cases h0 : n = 0
  · rw [if_pos h0]
    refine ⟨4, ?_⟩
    rw [vrun_end (by omega) (by omega) (by omega) (overV (mk (cJ n) a (a + 1) 14 [a + 1] 16) 0)]
    · rfl
    refine h1.trans ?_
    show runEnd (mk (cJ n) a (a + 1) 9 ([] ++ [n]) 19) = _
    rw [run_do (by omega) (by omega) (op := 13) (cJ_at n 9 (by omega)) (by decide) (mk (cJ n) a (a + 1) 13 [] 18) (by
      rw [do_jz (by omega) (by decide), if_pos h0, if_neg (by rw [cJ_at n (9 + 1) (by omega)]; simp [hl]), cJ_at n (9 + 1) (by omega)]; rfl)]
    rw [run_do (by omega) (by omega) (op := 12) (cJ_at n 13 (by omega)) (by decide) _ (do_data (by decide))]
    exact run_end (by omega) hl.symm
  · rw [if_neg h0]
    refine ⟨4, ?_⟩
    rw [vrun_end (by omega) (by omega) (by omega) (overV (mk (cJ n) a (a + 1) 12 [a] 16) 0)]
    · rfl
    refine h1.trans ?_
    show runEnd (mk (cJ n) a (a + 1) 9 ([] ++ [n]) 19) = _
    rw [run_do (by omega) (by omega) (op := 13) (cJ_at n 9 (by omega)) (by decide) (mk (cJ n) a (a + 1) 11 [] 18) (by
      rw [do_jz (by omega) (by decide), if_neg h0]; rfl)]
    rw [run_do (by omega) (by omega) (op := 11) (cJ_at n 11 (by omega)) (by decide) _ (do_arg (by decide))]
    exact run_stop (by omega) (by omega) (cJ_at n 12 (by omega))
def cT (t : Nat) : List Nat := ([] ++ [1] ++ bytes8 0) ++ [13, t]
theorem to_law : ∀ t < 30, (11 < t → (vrun (cT t) 0 0 100).2.2 = 10) ∧ (t = 11 → (vrun (cT t) 0 0 100).2.2 = 0) ∧ (t = 0 → (vrun (cT t) 0 0 100).2.2 ≠ 0) := by decide +kernel
theorem cT_lt : ∀ t < 30, ∀ x ∈ cT t, x < 256 := by decide +kernel

set_option maxRecDepth 100000 in
set_option maxHeartbeats 2000000 in
theorem jumps_walk (n tt a : Int) (w : World) (hn : I64 n) (ht : I64 tt) (ha : I64 a) :
    Calls Try.prog 9 #[.int .i64 n, .int .i64 tt, .int .i64 a] w fun e w' => e = .returned (.bool true) ∧ Ext w w' := by
  have hwa := fun w => within6 a 1099511627776 (by omega) (by omega) w
  obtain ⟨g1, g2⟩ : 0 ≤ a % 1099511627776 ∧ a % 1099511627776 < 1099511627776 := by omega
  generalize a % 1099511627776 = g at *
  have hwt := fun w => within6 tt 30 (by omega) (by omega) w
  obtain ⟨k, hk, hk30⟩ := emod_natW tt 30 30 rfl (by omega)
  rw [hk] at hwt
  clear hk ht ha
  obtain ⟨u, hu⟩ := jump_law n g hn
  have Hu := Lib.hid hu
  clear hu
  obtain ⟨t1, t2, t3⟩ := to_law k hk30
  have hct := cT_lt k hk30
  obtain ⟨F, hF⟩ : ∃ F, F = vrun (cT k) 0 0 100 := ⟨_, rfl⟩
  rw [← hF] at t1 t2 t3
  have HF := Lib.hid hF
  clear hF
  obtain ⟨f1, f2, f3⟩ := F
  simp only at t1 t2 t3
  go_enter Try.func9, Try.ntmps9
  go_wp2_with fail
  refine (known6 w).mono ?_
  rintro e w1 ⟨rfl, hx1⟩
  go_wp2_with fail
  refine (hwa _).mono ?_
  rintro e w1' ⟨rfl, rfl⟩
  go_wp2_with fail
  refine (push6 w1' none 0 0 [] n w1' (Ext.refl w1') (Own.nil _ _ _ _ _) (by omega) hn).mono ?_
  rintro e w2 ⟨A2, c2, rfl, ho2, hx2⟩
  have hb2 := hx2.le
  go_wp2_with (at_builtin; refine wpList_append_Own rfl (.tmp 22) (.tmp 23) _ rfl w1'.heap.size byte_elem rfl (ho2.ext ((Ext.refl _).alloc _)) rfl (lit_rs _ _ [13, 13, 11, 0, 12] (by rfl)) (bvals_one _) (by decide) (by decide) (by simpa using Nat.le_succ_of_le hb2) ?_)
  intro A4 c4 w4 ho4 hg4
  have hx4 : Ext w1' w4 := (hx2.alloc _).grown hg4 (fun k h => (ho2.row k h).1)
  rw [← bvals_append] at ho4
  have hgb : GB w4 A4 14 c4 (cJ n) := GB.own ho4
  have h5 := run_gb hgb hx4 (cJ_lt n) g (g + 1) 20 (by unfold I64; omega) (by unfold I64; omega)
  rw [Hu.out] at h5
  clear hg4 ho4 ho2 hgb hx2 hb2
  have hwt2 := hwt
  go_wp2_with fail
  refine h5.mono ?_
  rintro e w5 ⟨rfl, hx5⟩
  clear h5 hwa
  have hx05 : Ext w w5 := hx1.trans hx5
  have hcase : (n = 0 ∧ (if n = 0 then g + 1 else g) = g + 1) ∨ (n ≠ 0 ∧ (if n = 0 then g + 1 else g) = g) := by
    by_cases h : n = 0
    · exact .inl ⟨h, if_pos h⟩
    · exact .inr ⟨h, if_neg h⟩
  generalize (if n = 0 then g + 1 else g) = v at *
  have hb5 := hx5.le
  have hkd : (k : Int) < 30 := by omega
  rcases hcase with ⟨hn0, rfl⟩ | ⟨hn0, rfl⟩
  all_goals
    first
    | (have hnb : (n == 0) = true := by simp [hn0])
    | (have hnb : (n == 0) = false := by simp [hn0])
    clear hn0 hn Hu
    go_wp2_with fail
    refine (hwt _).mono ?_
    rintro e w5' ⟨rfl, rfl⟩
    clear hwt hwt2 hnb
    go_wp2_with fail
    refine (push6 w1' none 0 0 [] 0 _ hx5 (Own.nil _ _ _ _ _) (by omega) (by unfold I64; omega)).mono ?_
    rintro e w6 ⟨A6, c6, rfl, ho6, hx6⟩
    have hb6 := hx6.le
    go_wp2_with (at_builtin; refine wpList_append_Own rfl (.tmp 48) (.tmp 51) _ rfl w1'.heap.size byte_elem rfl (ho6.ext ((Ext.refl _).alloc _)) rfl (lit_rs _ _ [13, k] (by rfl)) (bvals_one _) (by decide) (by decide) (by simpa using Nat.le_succ_of_le hb6) ?_)
    intro A7 c7 w7 ho7 hg7
    have hx7 : Ext w1' w7 := (hx6.alloc _).grown hg7 (fun k h => (ho6.row k h).1)
    rw [← bvals_append] at ho7
    have hgb : GB w7 A7 11 c7 (cT k) := GB.own ho7
    have h8 := run_gb hgb hx7 hct 0 0 100 (by unfold I64; omega) (by unfold I64; omega)
    rw [← HF.out] at h8
    clear hg7 ho7 ho6 hgb hx6 hb6
    go_wp2_with fail
    refine h8.mono ?_
    rintro e w8 ⟨rfl, hx8⟩
    have hxf := hx1.trans hx8
    clear h8 HF hct
    by_cases h11 : 11 < k
    · have e1 := t1 h11
      subst e1
      have i1 : (11 : Int) < (k : Int) := by omega
      clear t1 t2 t3
      go_wp2_with fail
      go_ret
      exact ⟨rfl, hxf⟩
    · by_cases h12 : k = 11
      · have e2 := t2 h12
        subst h12
        subst e2
        clear t1 t2 t3
        go_wp2_with fail
        go_ret
        exact ⟨rfl, hxf⟩
      · have i1 : ¬ (11 : Int) < (k : Int) := by omega
        have i2 : ((k : Int) == 11) = false := by rw [beq_eq_false_iff_ne]; omega
        by_cases h0 : k = 0
        · have e3 := t3 h0
          subst h0
          have e4 : (f3 != 0) = true := by simp [e3]
          clear t1 t2 t3 e3
          go_wp2_with fail
          go_ret
          exact ⟨rfl, hxf⟩
        · have i3 : (0 : Int) < (k : Int) := by omega
          clear t1 t2 t3
          go_wp2_with fail
          all_goals
            go_ret
            exact ⟨by first | rfl | (simp; omega), hxf⟩
end Go.Proofs.Ytlahecofjlaojaa
