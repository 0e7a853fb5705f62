/- VmStacks: the plain law, the walk. -/
import Derived.Test.YtlahecofjlaojaaVmJump
namespace Go.Proofs.Ytlahecofjlaojaa
set_option linter.unusedVariables false
open Go.RowKit

theorem stacks_law : ∀ n < 20, (16 < n → vrun (List.replicate n 11) 7 0 100 = (0, 17, 15)) ∧ (n = 0 → vrun (List.replicate n 11) 7 0 100 = (0, 1, 0)) ∧ (0 < n → n ≤ 16 → vrun (List.replicate n 11) 7 0 100 = (7, (n : Int) + 1, 0)) := by decide +kernel
theorem stacks_ops : ∀ n < 17, ∀ op < 10, 2 ≤ op → op ≠ 8 → ((vrun (List.replicate n 11 ++ [op]) 1 0 100).2.2 == 15) = decide (n < 2) := by decide +kernel
theorem lit_at {w : World} {b : Nat} (hb : w.heap.size = b) (cs : Array Value) (l : List Nat) (h : cs.toList = bvals l) : RS (w.alloc (.cells cs 5)) 1 (some ⟨b, 0, none⟩) l.length (bvals l) := by
  subst hb
  exact lit_rs w cs l h
theorem repl_lt (n k : Nat) (hk : k < 256) : ∀ x ∈ List.replicate n k, x < 256 := fun x hx => by rw [(List.mem_replicate.1 hx).2]; exact hk
theorem repl_snoc (n k : Nat) : List.replicate (n + 1) k = List.replicate n k ++ [k] := by rw [List.replicate_succ']
set_option maxRecDepth 100000 in
set_option maxHeartbeats 2000000 in
theorem stacks_walk (a op : Int) (w : World) (ha : I64 a) (hop : I64 op) :
    Calls Try.prog 10 #[.int .i64 a, .int .i64 op] w fun e w' => e = .returned (.bool true) ∧ Ext w w' := by
  have hwi := fun w => within6 a 20 (by omega) (by omega) w
  obtain ⟨n, hn, hn20⟩ := emod_natW a 20 20 rfl (by omega)
  rw [hn] at hwi
  have hwo := fun w => within6 op 7 (by omega) (by omega) w
  obtain ⟨j, hj, hj7⟩ := emod_natW op 7 7 rfl (by omega)
  rw [hj] at hwo
  clear hn hj ha hop
  have hL := Lib.hid (stacks_law n hn20)
  go_enter Try.func10, Try.ntmps10
  go_wp2_with fail
  refine (known6 w).mono ?_
  rintro e w1 ⟨rfl, hx1⟩
  go_wp2_with fail
  refine (hwi _).mono ?_
  rintro e w1' ⟨rfl, rfl⟩
  clear hwi
  have hni : (n : Int) < 20 := by omega
  go_wp2_with fail
  go_loopw [5, 6] (fun s i wr => ∃ (k : Nat) (A' : Option Addr) (c' : Nat), k ≤ n ∧ s = .slice A' k c' ∧ i = .int .i64 (k : Int) ∧ Own wr w1'.heap.size 5 1 A' k c' (bvals (List.replicate k 11)) ∧ Ext w1' wr) (fun _ i _ => n - (intOf i).toNat)
  case atStart => exact ⟨0, none, 0, Nat.zero_le _, rfl, rfl, Own.nil _ _ _ _ _, Ext.refl _⟩
  case round =>
    obtain ⟨k, A2, c2, hk, rfl, rfl, ho, her⟩ := hrel
    by_cases hlt : k < n
    · have hb := her.le
      have m1 : k + 1 ≤ maxLen := by unfold maxLen; omega
      have m2 : (k + 1) * 1 ≤ 140737488355328 := by omega
      go_wp2_with (at_builtin; refine wpList_append_Own rfl (.tmp 23) (.tmp 24) _ rfl w1'.heap.size byte_elem rfl (ho.ext ((Ext.refl _).alloc _)) rfl (lit_rs _ _ [11] (by rfl)) (bvals_one _) m1 m2 (by simpa using Nat.le_succ_of_le hb) ?_)
      intro A3 c3 w3 ho3 hg3
      have hx3 : Ext w1' w3 := (her.alloc _).grown hg3 (fun k h => (ho.row k h).1)
      have ho3' : Own w3 w1'.heap.size 5 1 A3 (k + 1) c3 (bvals (List.replicate (k + 1) 11)) := by rw [repl_snoc, bvals_append]; exact ho3
      clear hg3 ho3 ho
      go_wp2_with fail
      go_roundw
      case rel => exact ⟨k + 1, A3, c3, by omega, rfl, by go_num, ho3', hx3⟩
      case measure => simp [intOf]; omega
    · obtain rfl : k = n := by omega
      obtain ⟨l1, l2, l3⟩ := hL.out
      have hb := her.le
      by_cases h16 : 16 < k
      · have hrun := run_gb (GB.own ho) her (repl_lt k 11 (by decide)) 7 0 100 (by unfold I64; omega) (by unfold I64; omega)
        rw [l1 h16] at hrun
        have i16 : (16 : Int) < (k : Int) := by omega
        clear l1 l2 l3 ho hlt
        go_wp2_with fail
        refine hrun.mono ?_
        rintro e w5 ⟨rfl, hx5⟩
        clear hrun
        go_wp2_with fail
        go_ret
        exact ⟨rfl, hx1.trans hx5⟩
      · have d16 : (k : Int) ≤ 16 := by omega
        have hops := stacks_ops k (by omega)
        obtain ⟨r, hr⟩ : ∃ r : Int, r = (if k = 0 then 0 else 7) := ⟨_, rfl⟩
        have hz : vrun (List.replicate k 11) 7 0 100 = (r, (k : Int) + 1, 0) := by
          by_cases h0 : k = 0
          · rw [l2 h0, hr, if_pos h0, h0]; rfl
          · rw [l3 (by omega) (by omega), hr, if_neg h0]
        have hrun := run_gb (GB.own ho) (Ext.refl wr) (repl_lt k 11 (by decide)) 7 0 100 (by unfold I64; omega) (by unfold I64; omega)
        rw [hz] at hrun
        have Hr := Lib.hid hr
        have Hops := Lib.hid hops
        clear l1 l2 l3 hops hz hr hlt h16
        have m1 : k + 1 ≤ maxLen := by unfold maxLen; omega
        have m2 : (k + 1) * 1 ≤ 140737488355328 := by omega
        go_wp2_with fail
        refine hrun.mono ?_
        rintro e w5 ⟨rfl, hx5⟩
        have ho5 := ho.ext hx5
        have hx15 := her.trans hx5
        have hb5 := hx15.le
        clear hrun ho
        go_upto_region 13 with fail
        go_upto_if 45 with fail
        go_cut [10] (fun v wc => v = .int .i64 r ∧ wc = w5)
        case first =>
          by_cases h0 : k = 0
          · have hr := Lib.hid (show r = 0 by rw [Hr.out, if_pos h0])
            have i0 : ((k : Int) == 0) = true := by rw [beq_iff_eq]; omega
            go_wp2_with fail
            go_meet
            exact ⟨by rw [hr.out], rfl⟩
          · have hr := Lib.hid (show r = 7 by rw [Hr.out, if_neg h0])
            have i0 : ((k : Int) == 0) = false := by rw [beq_eq_false_iff_ne]; omega
            go_wp2_with fail
            go_meet
            exact ⟨by rw [hr.out], rfl⟩
        case rest =>
          obtain ⟨rfl, rfl⟩ := hcut
          have hjj : (j = 0 ∨ j = 1 ∨ j = 2 ∨ j = 3) ∨ j = 4 ∨ j = 5 ∨ j = 6 := by omega
          have hend : ∀ (op : Nat), op < 10 → 2 ≤ op → op ≠ 8 → ∀ (w6 : World) (A6 : Option Addr) (c6 : Nat), Own w6 w1'.heap.size 5 1 A6 (k + 1) c6 (bvals (List.replicate k 11) ++ bvals [op]) → Ext w1' w6 →
              Calls Try.prog 16 #[.slice A6 (k + 1) c6, .int .i64 1, .int .i64 0, .int .i64 100] w6 fun e w' => ∃ x y z : Int, e = .returned (.tuple #[.int .i64 x, .int .i64 y, .int .i64 z]) ∧ (z == 15) = decide (k < 2) ∧ Ext w w' := fun op h1 h2 h3 w6 A6 c6 h4 h5 => by
            rw [← bvals_append] at h4
            refine (run_gb (GB.own h4) h5 ?_ 1 0 100 (by unfold I64; omega) (by unfold I64; omega)).mono ?_
            · intro x hx
              rcases List.mem_append.1 hx with h | h
              · exact repl_lt k 11 (by decide) x h
              · rw [List.mem_singleton.1 h]; omega
            · rintro e w' ⟨he, hx⟩
              exact ⟨_, _, _, he, Hops.out op h1 h2 h3, hx1.trans hx⟩
          have Hend := Lib.hid hend
          clear hend Hr Hops hx5
          go_wp2_with fail
          refine (hwo _).mono ?_
          rintro e w6 ⟨rfl, rfl⟩
          rcases hjj with (rfl | rfl | rfl | rfl) | rfl | rfl | rfl
          · go_upto_region 18 with fail
            go_wp2_with (at_builtin; refine wpList_append_Own rfl (.tmp 65) (.tmp 68) _ rfl w1'.heap.size byte_elem rfl ((ho5.ext ((Ext.refl _).alloc _)).ext ((Ext.refl _).alloc _)) rfl (lit_at (by simp) _ [2] (by rfl)) (bvals_one _) m1 m2 (by simp; omega) ?_)
            intro A7 c7 w7 ho7 hg7
            have hx7 : Ext w1' w7 := ((hx15.alloc _).alloc _).grown hg7 (fun k h => (ho5.row k h).1)
            clear hg7
            go_wp2_with fail
            refine (Hend.out 2 (by decide) (by decide) (by decide) _ _ _ ho7 hx7).mono ?_
            rintro e w8 ⟨x, y, z, rfl, hzd, hx8⟩
            have Hzd := Lib.hid hzd
            clear hzd
            go_wp2_with fail
            go_ret
            exact ⟨by rw [Hzd.out]; simp; omega, hx8⟩
          · go_upto_region 18 with fail
            go_wp2_with (at_builtin; refine wpList_append_Own rfl (.tmp 65) (.tmp 68) _ rfl w1'.heap.size byte_elem rfl ((ho5.ext ((Ext.refl _).alloc _)).ext ((Ext.refl _).alloc _)) rfl (lit_at (by simp) _ [3] (by rfl)) (bvals_one _) m1 m2 (by simp; omega) ?_)
            intro A7 c7 w7 ho7 hg7
            have hx7 : Ext w1' w7 := ((hx15.alloc _).alloc _).grown hg7 (fun k h => (ho5.row k h).1)
            clear hg7
            go_wp2_with fail
            refine (Hend.out 3 (by decide) (by decide) (by decide) _ _ _ ho7 hx7).mono ?_
            rintro e w8 ⟨x, y, z, rfl, hzd, hx8⟩
            have Hzd := Lib.hid hzd
            clear hzd
            go_wp2_with fail
            go_ret
            exact ⟨by rw [Hzd.out]; simp; omega, hx8⟩
          · go_upto_region 18 with fail
            go_wp2_with (at_builtin; refine wpList_append_Own rfl (.tmp 65) (.tmp 68) _ rfl w1'.heap.size byte_elem rfl ((ho5.ext ((Ext.refl _).alloc _)).ext ((Ext.refl _).alloc _)) rfl (lit_at (by simp) _ [4] (by rfl)) (bvals_one _) m1 m2 (by simp; omega) ?_)
            intro A7 c7 w7 ho7 hg7
            have hx7 : Ext w1' w7 := ((hx15.alloc _).alloc _).grown hg7 (fun k h => (ho5.row k h).1)
            clear hg7
            go_wp2_with fail
            refine (Hend.out 4 (by decide) (by decide) (by decide) _ _ _ ho7 hx7).mono ?_
            rintro e w8 ⟨x, y, z, rfl, hzd, hx8⟩
            have Hzd := Lib.hid hzd
            clear hzd
            go_wp2_with fail
            go_ret
            exact ⟨by rw [Hzd.out]; simp; omega, hx8⟩
          · go_upto_region 18 with fail
            go_wp2_with (at_builtin; refine wpList_append_Own rfl (.tmp 65) (.tmp 68) _ rfl w1'.heap.size byte_elem rfl ((ho5.ext ((Ext.refl _).alloc _)).ext ((Ext.refl _).alloc _)) rfl (lit_at (by simp) _ [5] (by rfl)) (bvals_one _) m1 m2 (by simp; omega) ?_)
            intro A7 c7 w7 ho7 hg7
            have hx7 : Ext w1' w7 := ((hx15.alloc _).alloc _).grown hg7 (fun k h => (ho5.row k h).1)
            clear hg7
            go_wp2_with fail
            refine (Hend.out 5 (by decide) (by decide) (by decide) _ _ _ ho7 hx7).mono ?_
            rintro e w8 ⟨x, y, z, rfl, hzd, hx8⟩
            have Hzd := Lib.hid hzd
            clear hzd
            go_wp2_with fail
            go_ret
            exact ⟨by rw [Hzd.out]; simp; omega, hx8⟩
          · go_upto_region 18 with fail
            go_wp2_with (at_builtin; refine wpList_append_Own rfl (.tmp 65) (.tmp 68) _ rfl w1'.heap.size byte_elem rfl ((ho5.ext ((Ext.refl _).alloc _)).ext ((Ext.refl _).alloc _)) rfl (lit_at (by simp) _ [6] (by rfl)) (bvals_one _) m1 m2 (by simp; omega) ?_)
            intro A7 c7 w7 ho7 hg7
            have hx7 : Ext w1' w7 := ((hx15.alloc _).alloc _).grown hg7 (fun k h => (ho5.row k h).1)
            clear hg7
            go_wp2_with fail
            refine (Hend.out 6 (by decide) (by decide) (by decide) _ _ _ ho7 hx7).mono ?_
            rintro e w8 ⟨x, y, z, rfl, hzd, hx8⟩
            have Hzd := Lib.hid hzd
            clear hzd
            go_wp2_with fail
            go_ret
            exact ⟨by rw [Hzd.out]; simp; omega, hx8⟩
          · go_upto_region 18 with fail
            go_wp2_with (at_builtin; refine wpList_append_Own rfl (.tmp 65) (.tmp 68) _ rfl w1'.heap.size byte_elem rfl ((ho5.ext ((Ext.refl _).alloc _)).ext ((Ext.refl _).alloc _)) rfl (lit_at (by simp) _ [7] (by rfl)) (bvals_one _) m1 m2 (by simp; omega) ?_)
            intro A7 c7 w7 ho7 hg7
            have hx7 : Ext w1' w7 := ((hx15.alloc _).alloc _).grown hg7 (fun k h => (ho5.row k h).1)
            clear hg7
            go_wp2_with fail
            refine (Hend.out 7 (by decide) (by decide) (by decide) _ _ _ ho7 hx7).mono ?_
            rintro e w8 ⟨x, y, z, rfl, hzd, hx8⟩
            have Hzd := Lib.hid hzd
            clear hzd
            go_wp2_with fail
            go_ret
            exact ⟨by rw [Hzd.out]; simp; omega, hx8⟩
          · go_upto_region 18 with fail
            go_wp2_with (at_builtin; refine wpList_append_Own rfl (.tmp 65) (.tmp 68) _ rfl w1'.heap.size byte_elem rfl ((ho5.ext ((Ext.refl _).alloc _)).ext ((Ext.refl _).alloc _)) rfl (lit_at (by simp) _ [9] (by rfl)) (bvals_one _) m1 m2 (by simp; omega) ?_)
            intro A7 c7 w7 ho7 hg7
            have hx7 : Ext w1' w7 := ((hx15.alloc _).alloc _).grown hg7 (fun k h => (ho5.row k h).1)
            clear hg7
            go_wp2_with fail
            refine (Hend.out 9 (by decide) (by decide) (by decide) _ _ _ ho7 hx7).mono ?_
            rintro e w8 ⟨x, y, z, rfl, hzd, hx8⟩
            have Hzd := Lib.hid hzd
            clear hzd
            go_wp2_with fail
            go_ret
            exact ⟨by rw [Hzd.out]; simp; omega, hx8⟩
end Go.Proofs.Ytlahecofjlaojaa
