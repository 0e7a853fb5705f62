/- DiskCuts: the walk. -/
import Derived.Test.YtpgndejmhegklaaDkHelp
import Derived.Test.YtpgndejmhegklaaReg
namespace Go.Proofs.Ytpgndejmhegklaa
set_option linter.unusedVariables false
open Go.RowKit

theorem cuts_1 (a : List Nat) (h : a.length ≤ 300) : (Dsk.mk0 1000).append a = (0, ⟨0, 0, false, a, 0, [], 1000⟩) := by
  unfold Dsk.append Dsk.mk0
  rw [if_neg (by simp), if_neg (by simp; omega)]
  rfl
theorem cuts_2 (a : List Nat) (p : Nat) (h : p ≤ a.length) : (Dsk.mk 0 0 false a 0 [] 1000).cut (p : Int) = (0, ⟨0, 0, false, a.take p, p, [], 1000⟩) := by
  rw [cut_at _ p rfl h]
  rfl
theorem cuts_3 (a b : List Nat) (p : Nat) (h : a.length + b.length ≤ 300) : (Dsk.mk 0 0 false (a.take p) p [] 1000).append b = (0, ⟨0, 0, false, a.take p ++ b, p, [], 1000⟩) := by
  unfold Dsk.append
  rw [if_neg (by simp), if_neg (by simp; omega)]
  rfl
theorem cuts_4 (a b : List Nat) (p : Nat) (h : p ≤ a.length) (pick : Int) : ∃ k : Nat, k ≤ b.length ∧ (Dsk.mk 0 0 false (a.take p ++ b) p [] 1000).pickN pick = k ∧ (Dsk.mk 0 0 false (a.take p ++ b) p [] 1000).crash pick = ⟨0, 0, false, a.take p ++ b.take k, p + k, [], 1000⟩ := by
  have hl : (a.take p).length = p := by rw [List.length_take]; omega
  have h1 := Dsk.pick_lt (d := Dsk.mk 0 0 false (a.take p ++ b) p [] 1000) (by simp; omega) pick
  refine ⟨(Dsk.mk 0 0 false (a.take p ++ b) p [] 1000).pickN pick, ?_, rfl, ?_⟩
  · simp only [List.length_append, hl] at h1; omega
  · unfold Dsk.crash
    simp only
    congr 1
    rw [List.take_append, hl, List.take_of_length_le (by omega)]
    congr 2
    omega

theorem logn_any (g : Nat) (d : Dsk) (n : Nat) (hn : d.log.length = n) (w : World) (hD : DiskAt w g d) :
    Calls Try.prog 17 #[.pointer (some ⟨g, 0, none⟩)] w fun e w' => ∃ A' c', e = .returned (.slice A' n c') ∧ GB w' A' n c' d.log ∧ Ext w w' := by
  subst hn
  exact log_any g d w hD
set_option maxRecDepth 100000 in
set_option maxHeartbeats 1000000 in
theorem cuts_walk (A : Option Addr) (n c : Nat) (ua : List Nat) (A1 : Option Addr) (n1 c1 : Nat) (bs : List Nat) (cut pick : Int) (w : World)
    (hz : Bytes w A n ua) (hnc : n ≤ c) (hm : c ≤ maxLen) (hb : ∀ x ∈ ua, x < 256)
    (hz1 : Bytes w A1 n1 bs) (hnc1 : n1 ≤ c1) (hm1 : c1 ≤ maxLen) (hb1 : ∀ x ∈ bs, x < 256) (hr : c ≤ 140737488351232) (hr1 : c1 ≤ 140737488351232) :
    Calls Try.prog 4 #[.slice A n c, .slice A1 n1 c1, .int .i64 cut, .int .i64 pick] w fun e w' => e = .returned (.bool true) ∧ Ext w w' := by
  have hl := Lib.hid hz.len
  have hl1 := Lib.hid hz1.len
  have hcm := hm
  have hcm1 := hm1
  unfold maxLen at hm hm1
  go_enter Try.func4, Try.ntmps4
  go_wp2_with fail
  refine (known4 w).mono ?_
  rintro e w1 ⟨rfl, hx1⟩
  by_cases hbig : (300 : Int) < (n : Int) + (n1 : Int)
  · go_wp2_with fail
    go_ret
    exact ⟨rfl, hx1⟩
  go_wp2_with fail
  refine (new_any 1000 w1 (by omega) (by omega)).mono ?_
  rintro e w2 ⟨rfl, hD2, hx2⟩
  have h2 := append_any w1.heap.size _ A n c ua w2 hD2 ((hz.ext hx1).ext hx2) hb hnc hcm
  rw [cuts_1 ua (by rw [hl.out]; omega)] at h2
  go_wp2_with fail
  refine h2.mono ?_
  rintro e w3 ⟨rfl, hD3, hM3⟩
  clear h2 hD2
  have hx3 : Ext w1 w3 := hx2.mut hM3 (Nat.le_refl _)
  have s3 := run_string A n c ua w3 (hz.ext (hx1.trans hx3))
  have hss := strOf_size ua
  rw [hl.out] at hss
  obtain ⟨p, hp, hpn⟩ := emod_natW cut ((n : Int) + 1) (n + 1) (by omega) (by omega)
  have hwi := fun w => within4 cut ((n : Int) + 1) (by omega) (by omega) w
  rw [hp] at hwi
  have Hp := Lib.hid hp
  clear hp
  go_wp2_with fail
  refine (hwi _).mono ?_
  rintro e w3 ⟨rfl, rfl⟩
  clear hwi s3
  have hcut := fun w => cuts_2 ua p (by rw [hl.out]; omega)
  have hk1 := cut_any w1.heap.size _ (p : Int) w3 hD3
  rw [cuts_2 ua p (by rw [hl.out]; omega)] at hk1
  have estr : ∀ w, (Instr.slice 9 (.string (strOf ua)) none (some (.int .i64 (p : Int))) none).run Try.prog w = .ok (.string (strOf (ua.take p))) w := fun w => run_str_hi ua p .i64 p rfl (by rw [hl.out]; omega) w
  have hpl : (ua.take p).length = p := by rw [List.length_take, hl.out]; omega
  have Hpl := Lib.hid hpl
  clear hpl hcut
  go_wp2_with fail
  go_region_with (first
    | (go_at_call 19; refine (cut_any w1.heap.size _ (p : Int) _ (hD3.ext (Ext.refl _).drew)).mono ?_; rw [cuts_2 ua p (by rw [hl.out]; omega)]; rintro e w4 ⟨rfl, hD4, hM4⟩; have hx4 : Ext w1 w4 := (hx3.trans (Ext.refl _).drew).mut hM4 (Nat.le_refl _))
    | (go_at_call 17; refine (logn_any w1.heap.size _ p Hpl.out _ hD4).mono ?_; rintro e w5 ⟨A5, c5, rfl, hg5, hx5⟩; have hD5 := hD4.ext hx5; have s5 := run_string A5 p c5 (ua.take p) w5 hg5.bytes; have hss5 := strOf_size (ua.take p)))
  clear s5 hg5 hD4 hD3 hM4 hk1
  have hx15 : Ext w1 w5 := hx4.trans hx5
  have h6 := append_any w1.heap.size _ A1 n1 c1 bs w5 hD5 (hz1.ext (hx1.trans hx15)) hb1 hnc1 hcm1
  rw [cuts_3 ua bs p (by rw [hl.out, hl1.out]; omega)] at h6
  go_wp2_with fail
  refine h6.mono ?_
  rintro e w6 ⟨rfl, hD6, hM6⟩
  have hx6 : Ext w1 w6 := hx15.mut hM6 (Nat.le_refl _)
  clear h6
  obtain ⟨k, hk, ek, ec⟩ := cuts_4 ua bs p (by rw [hl.out]; omega) pick
  have h7 := crash_any w1.heap.size _ pick w6 hD6
  rw [ek, ec] at h7
  rw [hl1.out] at hk
  clear ek ec hD6 hD5
  go_wp2_with fail
  refine h7.mono ?_
  rintro e w7 ⟨rfl, hD7, hM7⟩
  have hx7 : Ext w1 w7 := hx6.mut hM7 (Nat.le_refl _)
  clear h7
  have hkl : (ua.take p ++ bs.take k).length = p + k := by rw [List.length_append, Hpl.out, List.length_take, hl1.out]; omega
  have Hkl := Lib.hid hkl
  clear hkl
  have ecut : ∀ w, (Instr.slice 22 (.slice A1 n1 c1) none (some (.int .i64 (k : Int))) none).run Try.prog w = .ok (.slice A1 k c1) w := fun w => byte_elem.cut_hi A1 n1 c1 k .i64 (k : Int) rfl (by omega) w
  have eadd : ∀ w, (Op.stringOp .add (strOf (ua.take p)) (strOf (bs.take k))).run Try.prog w = .ok (.string (strOf (ua.take p ++ bs.take k))) w := fun w => run_str_add _ _ 9 (by rw [Hpl.out, List.length_take]; omega) w
  have hz7 := (hz1.ext (hx1.trans hx7)).front (hi := k) (by omega)
  have t9 : ∀ w', Ext w7 w' → (convert 22 9 (.slice A1 k c1)).run Try.prog w' = .ok (.string (strOf (bs.take k))) w' := fun w' h => run_string A1 k c1 _ w' (hz7.ext h)
  have hkd : decide (k ≤ n1) = true := by simp; omega
  have hki : (k : Int) ≤ (n1 : Int) := by omega
  have hk0 : (0 : Int) ≤ (k : Int) := by omega
  have hpi : (p : Int) ≤ (n : Int) := by omega
  clear hss5 hss hM3 hM6 hM7 hk hz7 hz hz1 hpn
  go_wp2_with fail
  refine wp_region_held_drew (S := fun w' => Ext w7 w') (by kernel_rfl) (Ext.refl w7).drew (fun hHeld => ?_)
  repeat (first
    | (refine held_take 0 (v := ?_) (oi := ?_) ?_ ?_ ?_ ?_ ?_ (Or.inl ⟨?_, ?_⟩) hHeld ?_; rotate_left 2; (focus decide +kernel); (focus rfl); (focus kernel_rfl); (focus decide +kernel); (focus exact fun _ _ _ h => h); (focus rfl); (focus intro w hSw; (try dsimp only at hSw); go_simp; (try with_reducible rfl); done); try simp only [Act.put, List.setIfInBounds_toArray, List.set_cons_zero, List.set_cons_succ])
    | (refine held_take 1 (v := ?_) (oi := ?_) ?_ ?_ ?_ ?_ ?_ (Or.inl ⟨?_, ?_⟩) hHeld ?_; rotate_left 2; (focus decide +kernel); (focus rfl); (focus kernel_rfl); (focus decide +kernel); (focus exact fun _ _ _ h => h); (focus rfl); (focus intro w hSw; (try dsimp only at hSw); go_simp; (try with_reducible rfl); done); try simp only [Act.put, List.setIfInBounds_toArray, List.set_cons_zero, List.set_cons_succ])
    | (refine held_take 2 (v := ?_) (oi := ?_) ?_ ?_ ?_ ?_ ?_ (Or.inl ⟨?_, ?_⟩) hHeld ?_; rotate_left 2; (focus decide +kernel); (focus rfl); (focus kernel_rfl); (focus decide +kernel); (focus exact fun _ _ _ h => h); (focus rfl); (focus intro w hSw; (try dsimp only at hSw); go_simp; (try with_reducible rfl); done); try simp only [Act.put, List.setIfInBounds_toArray, List.set_cons_zero, List.set_cons_succ])
    | (refine held_take 3 (v := ?_) (oi := ?_) ?_ ?_ ?_ ?_ ?_ (Or.inl ⟨?_, ?_⟩) hHeld ?_; rotate_left 2; (focus decide +kernel); (focus rfl); (focus kernel_rfl); (focus decide +kernel); (focus exact fun _ _ _ h => h); (focus rfl); (focus intro w hSw; (try dsimp only at hSw); go_simp; (try with_reducible rfl); done); try simp only [Act.put, List.setIfInBounds_toArray, List.set_cons_zero, List.set_cons_succ])
    | (refine held_take 4 (v := ?_) (oi := ?_) ?_ ?_ ?_ ?_ ?_ (Or.inl ⟨?_, ?_⟩) hHeld ?_; rotate_left 2; (focus decide +kernel); (focus rfl); (focus kernel_rfl); (focus decide +kernel); (focus exact fun _ _ _ h => h); (focus rfl); (focus intro w hSw; (try dsimp only at hSw); go_simp; (try with_reducible rfl); done); try simp only [Act.put, List.setIfInBounds_toArray, List.set_cons_zero, List.set_cons_succ])
    | (refine held_take 5 (v := ?_) (oi := ?_) ?_ ?_ ?_ ?_ ?_ (Or.inl ⟨?_, ?_⟩) hHeld ?_; rotate_left 2; (focus decide +kernel); (focus rfl); (focus kernel_rfl); (focus decide +kernel); (focus exact fun _ _ _ h => h); (focus rfl); (focus intro w hSw; (try dsimp only at hSw); go_simp; (try with_reducible rfl); done); try simp only [Act.put, List.setIfInBounds_toArray, List.set_cons_zero, List.set_cons_succ])
    | (refine held_take 6 (v := ?_) (oi := ?_) ?_ ?_ ?_ ?_ ?_ (Or.inl ⟨?_, ?_⟩) hHeld ?_; rotate_left 2; (focus decide +kernel); (focus rfl); (focus kernel_rfl); (focus decide +kernel); (focus exact fun _ _ _ h => h); (focus rfl); (focus intro w hSw; (try dsimp only at hSw); go_simp; (try with_reducible rfl); done); try simp only [Act.put, List.setIfInBounds_toArray, List.set_cons_zero, List.set_cons_succ])
    | (refine held_take 7 (v := ?_) (oi := ?_) ?_ ?_ ?_ ?_ ?_ (Or.inl ⟨?_, ?_⟩) hHeld ?_; rotate_left 2; (focus decide +kernel); (focus rfl); (focus kernel_rfl); (focus decide +kernel); (focus exact fun _ _ _ h => h); (focus rfl); (focus intro w hSw; (try dsimp only at hSw); go_simp; (try with_reducible rfl); done); try simp only [Act.put, List.setIfInBounds_toArray, List.set_cons_zero, List.set_cons_succ])
    | (refine held_take 8 (v := ?_) (oi := ?_) ?_ ?_ ?_ ?_ ?_ (Or.inl ⟨?_, ?_⟩) hHeld ?_; rotate_left 2; (focus decide +kernel); (focus rfl); (focus kernel_rfl); (focus decide +kernel); (focus exact fun _ _ _ h => h); (focus rfl); (focus intro w hSw; (try dsimp only at hSw); go_simp; (try with_reducible rfl); done); try simp only [Act.put, List.setIfInBounds_toArray, List.set_cons_zero, List.set_cons_succ])
    | (refine held_take 9 (v := ?_) (oi := ?_) ?_ ?_ ?_ ?_ ?_ (Or.inl ⟨?_, ?_⟩) hHeld ?_; rotate_left 2; (focus decide +kernel); (focus rfl); (focus kernel_rfl); (focus decide +kernel); (focus exact fun _ _ _ h => h); (focus rfl); (focus intro w hSw; (try dsimp only at hSw); go_simp; (try with_reducible rfl); done); try simp only [Act.put, List.setIfInBounds_toArray, List.set_cons_zero, List.set_cons_succ])
    | (refine held_take 10 (v := ?_) (oi := ?_) ?_ ?_ ?_ ?_ ?_ (Or.inl ⟨?_, ?_⟩) hHeld ?_; rotate_left 2; (focus decide +kernel); (focus rfl); (focus kernel_rfl); (focus decide +kernel); (focus exact fun _ _ _ h => h); (focus rfl); (focus intro w hSw; (try dsimp only at hSw); go_simp; (try with_reducible rfl); done); try simp only [Act.put, List.setIfInBounds_toArray, List.set_cons_zero, List.set_cons_succ])
    | (refine held_take 11 (v := ?_) (oi := ?_) ?_ ?_ ?_ ?_ ?_ (Or.inl ⟨?_, ?_⟩) hHeld ?_; rotate_left 2; (focus decide +kernel); (focus rfl); (focus kernel_rfl); (focus decide +kernel); (focus exact fun _ _ _ h => h); (focus rfl); (focus intro w hSw; (try dsimp only at hSw); go_simp; (try with_reducible rfl); done); try simp only [Act.put, List.setIfInBounds_toArray, List.set_cons_zero, List.set_cons_succ])
    | (refine held_take 12 (v := ?_) (oi := ?_) ?_ ?_ ?_ ?_ ?_ (Or.inl ⟨?_, ?_⟩) hHeld ?_; rotate_left 2; (focus decide +kernel); (focus rfl); (focus kernel_rfl); (focus decide +kernel); (focus exact fun _ _ _ h => h); (focus rfl); (focus intro w hSw; (try dsimp only at hSw); go_simp; (try with_reducible rfl); done); try simp only [Act.put, List.setIfInBounds_toArray, List.set_cons_zero, List.set_cons_succ])
    | (refine held_take 13 (v := ?_) (oi := ?_) ?_ ?_ ?_ ?_ ?_ (Or.inl ⟨?_, ?_⟩) hHeld ?_; rotate_left 2; (focus decide +kernel); (focus rfl); (focus kernel_rfl); (focus decide +kernel); (focus exact fun _ _ _ h => h); (focus rfl); (focus intro w hSw; (try dsimp only at hSw); go_simp; (try with_reducible rfl); done); try simp only [Act.put, List.setIfInBounds_toArray, List.set_cons_zero, List.set_cons_succ])
    | (refine held_take 14 (v := ?_) (oi := ?_) ?_ ?_ ?_ ?_ ?_ (Or.inl ⟨?_, ?_⟩) hHeld ?_; rotate_left 2; (focus decide +kernel); (focus rfl); (focus kernel_rfl); (focus decide +kernel); (focus exact fun _ _ _ h => h); (focus rfl); (focus intro w hSw; (try dsimp only at hSw); go_simp; (try with_reducible rfl); done); try simp only [Act.put, List.setIfInBounds_toArray, List.set_cons_zero, List.set_cons_succ])
    | (refine held_take 15 (v := ?_) (oi := ?_) ?_ ?_ ?_ ?_ ?_ (Or.inl ⟨?_, ?_⟩) hHeld ?_; rotate_left 2; (focus decide +kernel); (focus rfl); (focus kernel_rfl); (focus decide +kernel); (focus exact fun _ _ _ h => h); (focus rfl); (focus intro w hSw; (try dsimp only at hSw); go_simp; (try with_reducible rfl); done); try simp only [Act.put, List.setIfInBounds_toArray, List.set_cons_zero, List.set_cons_succ])
    | (refine held_take 16 (v := ?_) (oi := ?_) ?_ ?_ ?_ ?_ ?_ (Or.inl ⟨?_, ?_⟩) hHeld ?_; rotate_left 2; (focus decide +kernel); (focus rfl); (focus kernel_rfl); (focus decide +kernel); (focus exact fun _ _ _ h => h); (focus rfl); (focus intro w hSw; (try dsimp only at hSw); go_simp; (try with_reducible rfl); done); try simp only [Act.put, List.setIfInBounds_toArray, List.set_cons_zero, List.set_cons_succ])
    | (refine held_take 17 (v := ?_) (oi := ?_) ?_ ?_ ?_ ?_ ?_ (Or.inl ⟨?_, ?_⟩) hHeld ?_; rotate_left 2; (focus decide +kernel); (focus rfl); (focus kernel_rfl); (focus decide +kernel); (focus exact fun _ _ _ h => h); (focus rfl); (focus intro w hSw; (try dsimp only at hSw); go_simp; (try with_reducible rfl); done); try simp only [Act.put, List.setIfInBounds_toArray, List.set_cons_zero, List.set_cons_succ])
    | (refine held_take 18 (v := ?_) (oi := ?_) ?_ ?_ ?_ ?_ ?_ (Or.inl ⟨?_, ?_⟩) hHeld ?_; rotate_left 2; (focus decide +kernel); (focus rfl); (focus kernel_rfl); (focus decide +kernel); (focus exact fun _ _ _ h => h); (focus rfl); (focus intro w hSw; (try dsimp only at hSw); go_simp; (try with_reducible rfl); done); try simp only [Act.put, List.setIfInBounds_toArray, List.set_cons_zero, List.set_cons_succ])
    | (refine held_take 19 (v := ?_) (oi := ?_) ?_ ?_ ?_ ?_ ?_ (Or.inl ⟨?_, ?_⟩) hHeld ?_; rotate_left 2; (focus decide +kernel); (focus rfl); (focus kernel_rfl); (focus decide +kernel); (focus exact fun _ _ _ h => h); (focus rfl); (focus intro w hSw; (try dsimp only at hSw); go_simp; (try with_reducible rfl); done); try simp only [Act.put, List.setIfInBounds_toArray, List.set_cons_zero, List.set_cons_succ])
    | (refine held_take 20 (v := ?_) (oi := ?_) ?_ ?_ ?_ ?_ ?_ (Or.inl ⟨?_, ?_⟩) hHeld ?_; rotate_left 2; (focus decide +kernel); (focus rfl); (focus kernel_rfl); (focus decide +kernel); (focus exact fun _ _ _ h => h); (focus rfl); (focus intro w hSw; (try dsimp only at hSw); go_simp; (try with_reducible rfl); done); try simp only [Act.put, List.setIfInBounds_toArray, List.set_cons_zero, List.set_cons_succ])
    | (refine held_take 21 (v := ?_) (oi := ?_) ?_ ?_ ?_ ?_ ?_ (Or.inl ⟨?_, ?_⟩) hHeld ?_; rotate_left 2; (focus decide +kernel); (focus rfl); (focus kernel_rfl); (focus decide +kernel); (focus exact fun _ _ _ h => h); (focus rfl); (focus intro w hSw; (try dsimp only at hSw); go_simp; (try with_reducible rfl); done); try simp only [Act.put, List.setIfInBounds_toArray, List.set_cons_zero, List.set_cons_succ])
    | (refine held_take 22 (v := ?_) (oi := ?_) ?_ ?_ ?_ ?_ ?_ (Or.inl ⟨?_, ?_⟩) hHeld ?_; rotate_left 2; (focus decide +kernel); (focus rfl); (focus kernel_rfl); (focus decide +kernel); (focus exact fun _ _ _ h => h); (focus rfl); (focus intro w hSw; (try dsimp only at hSw); go_simp; (try with_reducible rfl); done); try simp only [Act.put, List.setIfInBounds_toArray, List.set_cons_zero, List.set_cons_succ]))
  refine held_one 10 (o := ?_) ?_ ?_ (fun K hK => ?_)
  rotate_left 1
  focus (decide +kernel)
  focus rfl
  go_simp
  refine (logn_any w1.heap.size _ (p + k) Hkl.out _ (hD7.ext hHeld)).mono ?_
  rintro e w9 ⟨A9, c9, rfl, hg9, hx9'⟩
  have hx9 : Ext w7 w9 := Ext.trans hHeld hx9'
  have s9 : ∀ w', Ext w9 w' → (convert 22 9 (.slice A9 (p + k) c9)).run Try.prog w' = .ok (.string (strOf (ua.take p ++ bs.take k))) w' := fun w' h => run_string A9 (p + k) c9 _ w' (hg9.bytes.ext h)
  go_wp2_with fail
  refine hK.out _ _ hx9 (fun hHeld => ?_)
  clear hK K
  try simp only [Act.put, List.setIfInBounds_toArray, List.set_cons_zero, List.set_cons_succ]
  refine held_more (fun w' => Ext w9 w') hHeld (Ext.refl w9) (fun hHeld => ?_)
  repeat (first
    | (refine held_take 0 (v := ?_) (oi := ?_) ?_ ?_ ?_ ?_ ?_ (Or.inl ⟨?_, ?_⟩) hHeld ?_; rotate_left 2; (focus decide +kernel); (focus rfl); (focus kernel_rfl); (focus decide +kernel); (focus exact fun _ _ _ h => h); (focus rfl); (focus intro w hSw; (try dsimp only at hSw); go_simp; (try with_reducible rfl); done); try simp only [Act.put, List.setIfInBounds_toArray, List.set_cons_zero, List.set_cons_succ])
    | (refine held_take 1 (v := ?_) (oi := ?_) ?_ ?_ ?_ ?_ ?_ (Or.inl ⟨?_, ?_⟩) hHeld ?_; rotate_left 2; (focus decide +kernel); (focus rfl); (focus kernel_rfl); (focus decide +kernel); (focus exact fun _ _ _ h => h); (focus rfl); (focus intro w hSw; (try dsimp only at hSw); go_simp; (try with_reducible rfl); done); try simp only [Act.put, List.setIfInBounds_toArray, List.set_cons_zero, List.set_cons_succ])
    | (refine held_take 2 (v := ?_) (oi := ?_) ?_ ?_ ?_ ?_ ?_ (Or.inl ⟨?_, ?_⟩) hHeld ?_; rotate_left 2; (focus decide +kernel); (focus rfl); (focus kernel_rfl); (focus decide +kernel); (focus exact fun _ _ _ h => h); (focus rfl); (focus intro w hSw; (try dsimp only at hSw); go_simp; (try with_reducible rfl); done); try simp only [Act.put, List.setIfInBounds_toArray, List.set_cons_zero, List.set_cons_succ])
    | (refine held_take 3 (v := ?_) (oi := ?_) ?_ ?_ ?_ ?_ ?_ (Or.inl ⟨?_, ?_⟩) hHeld ?_; rotate_left 2; (focus decide +kernel); (focus rfl); (focus kernel_rfl); (focus decide +kernel); (focus exact fun _ _ _ h => h); (focus rfl); (focus intro w hSw; (try dsimp only at hSw); go_simp; (try with_reducible rfl); done); try simp only [Act.put, List.setIfInBounds_toArray, List.set_cons_zero, List.set_cons_succ])
    | (refine held_take 4 (v := ?_) (oi := ?_) ?_ ?_ ?_ ?_ ?_ (Or.inl ⟨?_, ?_⟩) hHeld ?_; rotate_left 2; (focus decide +kernel); (focus rfl); (focus kernel_rfl); (focus decide +kernel); (focus exact fun _ _ _ h => h); (focus rfl); (focus intro w hSw; (try dsimp only at hSw); go_simp; (try with_reducible rfl); done); try simp only [Act.put, List.setIfInBounds_toArray, List.set_cons_zero, List.set_cons_succ])
    | (refine held_take 5 (v := ?_) (oi := ?_) ?_ ?_ ?_ ?_ ?_ (Or.inl ⟨?_, ?_⟩) hHeld ?_; rotate_left 2; (focus decide +kernel); (focus rfl); (focus kernel_rfl); (focus decide +kernel); (focus exact fun _ _ _ h => h); (focus rfl); (focus intro w hSw; (try dsimp only at hSw); go_simp; (try with_reducible rfl); done); try simp only [Act.put, List.setIfInBounds_toArray, List.set_cons_zero, List.set_cons_succ])
    | (refine held_take 6 (v := ?_) (oi := ?_) ?_ ?_ ?_ ?_ ?_ (Or.inl ⟨?_, ?_⟩) hHeld ?_; rotate_left 2; (focus decide +kernel); (focus rfl); (focus kernel_rfl); (focus decide +kernel); (focus exact fun _ _ _ h => h); (focus rfl); (focus intro w hSw; (try dsimp only at hSw); go_simp; (try with_reducible rfl); done); try simp only [Act.put, List.setIfInBounds_toArray, List.set_cons_zero, List.set_cons_succ])
    | (refine held_take 7 (v := ?_) (oi := ?_) ?_ ?_ ?_ ?_ ?_ (Or.inl ⟨?_, ?_⟩) hHeld ?_; rotate_left 2; (focus decide +kernel); (focus rfl); (focus kernel_rfl); (focus decide +kernel); (focus exact fun _ _ _ h => h); (focus rfl); (focus intro w hSw; (try dsimp only at hSw); go_simp; (try with_reducible rfl); done); try simp only [Act.put, List.setIfInBounds_toArray, List.set_cons_zero, List.set_cons_succ])
    | (refine held_take 8 (v := ?_) (oi := ?_) ?_ ?_ ?_ ?_ ?_ (Or.inl ⟨?_, ?_⟩) hHeld ?_; rotate_left 2; (focus decide +kernel); (focus rfl); (focus kernel_rfl); (focus decide +kernel); (focus exact fun _ _ _ h => h); (focus rfl); (focus intro w hSw; (try dsimp only at hSw); go_simp; (try with_reducible rfl); done); try simp only [Act.put, List.setIfInBounds_toArray, List.set_cons_zero, List.set_cons_succ])
    | (refine held_take 9 (v := ?_) (oi := ?_) ?_ ?_ ?_ ?_ ?_ (Or.inl ⟨?_, ?_⟩) hHeld ?_; rotate_left 2; (focus decide +kernel); (focus rfl); (focus kernel_rfl); (focus decide +kernel); (focus exact fun _ _ _ h => h); (focus rfl); (focus intro w hSw; (try dsimp only at hSw); go_simp; (try with_reducible rfl); done); try simp only [Act.put, List.setIfInBounds_toArray, List.set_cons_zero, List.set_cons_succ])
    | (refine held_take 10 (v := ?_) (oi := ?_) ?_ ?_ ?_ ?_ ?_ (Or.inl ⟨?_, ?_⟩) hHeld ?_; rotate_left 2; (focus decide +kernel); (focus rfl); (focus kernel_rfl); (focus decide +kernel); (focus exact fun _ _ _ h => h); (focus rfl); (focus intro w hSw; (try dsimp only at hSw); go_simp; (try with_reducible rfl); done); try simp only [Act.put, List.setIfInBounds_toArray, List.set_cons_zero, List.set_cons_succ])
    | (refine held_take 11 (v := ?_) (oi := ?_) ?_ ?_ ?_ ?_ ?_ (Or.inl ⟨?_, ?_⟩) hHeld ?_; rotate_left 2; (focus decide +kernel); (focus rfl); (focus kernel_rfl); (focus decide +kernel); (focus exact fun _ _ _ h => h); (focus rfl); (focus intro w hSw; (try dsimp only at hSw); go_simp; (try with_reducible rfl); done); try simp only [Act.put, List.setIfInBounds_toArray, List.set_cons_zero, List.set_cons_succ])
    | (refine held_take 12 (v := ?_) (oi := ?_) ?_ ?_ ?_ ?_ ?_ (Or.inl ⟨?_, ?_⟩) hHeld ?_; rotate_left 2; (focus decide +kernel); (focus rfl); (focus kernel_rfl); (focus decide +kernel); (focus exact fun _ _ _ h => h); (focus rfl); (focus intro w hSw; (try dsimp only at hSw); go_simp; (try with_reducible rfl); done); try simp only [Act.put, List.setIfInBounds_toArray, List.set_cons_zero, List.set_cons_succ])
    | (refine held_take 13 (v := ?_) (oi := ?_) ?_ ?_ ?_ ?_ ?_ (Or.inl ⟨?_, ?_⟩) hHeld ?_; rotate_left 2; (focus decide +kernel); (focus rfl); (focus kernel_rfl); (focus decide +kernel); (focus exact fun _ _ _ h => h); (focus rfl); (focus intro w hSw; (try dsimp only at hSw); go_simp; (try with_reducible rfl); done); try simp only [Act.put, List.setIfInBounds_toArray, List.set_cons_zero, List.set_cons_succ])
    | (refine held_take 14 (v := ?_) (oi := ?_) ?_ ?_ ?_ ?_ ?_ (Or.inl ⟨?_, ?_⟩) hHeld ?_; rotate_left 2; (focus decide +kernel); (focus rfl); (focus kernel_rfl); (focus decide +kernel); (focus exact fun _ _ _ h => h); (focus rfl); (focus intro w hSw; (try dsimp only at hSw); go_simp; (try with_reducible rfl); done); try simp only [Act.put, List.setIfInBounds_toArray, List.set_cons_zero, List.set_cons_succ])
    | (refine held_take 15 (v := ?_) (oi := ?_) ?_ ?_ ?_ ?_ ?_ (Or.inl ⟨?_, ?_⟩) hHeld ?_; rotate_left 2; (focus decide +kernel); (focus rfl); (focus kernel_rfl); (focus decide +kernel); (focus exact fun _ _ _ h => h); (focus rfl); (focus intro w hSw; (try dsimp only at hSw); go_simp; (try with_reducible rfl); done); try simp only [Act.put, List.setIfInBounds_toArray, List.set_cons_zero, List.set_cons_succ])
    | (refine held_take 16 (v := ?_) (oi := ?_) ?_ ?_ ?_ ?_ ?_ (Or.inl ⟨?_, ?_⟩) hHeld ?_; rotate_left 2; (focus decide +kernel); (focus rfl); (focus kernel_rfl); (focus decide +kernel); (focus exact fun _ _ _ h => h); (focus rfl); (focus intro w hSw; (try dsimp only at hSw); go_simp; (try with_reducible rfl); done); try simp only [Act.put, List.setIfInBounds_toArray, List.set_cons_zero, List.set_cons_succ])
    | (refine held_take 17 (v := ?_) (oi := ?_) ?_ ?_ ?_ ?_ ?_ (Or.inl ⟨?_, ?_⟩) hHeld ?_; rotate_left 2; (focus decide +kernel); (focus rfl); (focus kernel_rfl); (focus decide +kernel); (focus exact fun _ _ _ h => h); (focus rfl); (focus intro w hSw; (try dsimp only at hSw); go_simp; (try with_reducible rfl); done); try simp only [Act.put, List.setIfInBounds_toArray, List.set_cons_zero, List.set_cons_succ])
    | (refine held_take 18 (v := ?_) (oi := ?_) ?_ ?_ ?_ ?_ ?_ (Or.inl ⟨?_, ?_⟩) hHeld ?_; rotate_left 2; (focus decide +kernel); (focus rfl); (focus kernel_rfl); (focus decide +kernel); (focus exact fun _ _ _ h => h); (focus rfl); (focus intro w hSw; (try dsimp only at hSw); go_simp; (try with_reducible rfl); done); try simp only [Act.put, List.setIfInBounds_toArray, List.set_cons_zero, List.set_cons_succ])
    | (refine held_take 19 (v := ?_) (oi := ?_) ?_ ?_ ?_ ?_ ?_ (Or.inl ⟨?_, ?_⟩) hHeld ?_; rotate_left 2; (focus decide +kernel); (focus rfl); (focus kernel_rfl); (focus decide +kernel); (focus exact fun _ _ _ h => h); (focus rfl); (focus intro w hSw; (try dsimp only at hSw); go_simp; (try with_reducible rfl); done); try simp only [Act.put, List.setIfInBounds_toArray, List.set_cons_zero, List.set_cons_succ])
    | (refine held_take 20 (v := ?_) (oi := ?_) ?_ ?_ ?_ ?_ ?_ (Or.inl ⟨?_, ?_⟩) hHeld ?_; rotate_left 2; (focus decide +kernel); (focus rfl); (focus kernel_rfl); (focus decide +kernel); (focus exact fun _ _ _ h => h); (focus rfl); (focus intro w hSw; (try dsimp only at hSw); go_simp; (try with_reducible rfl); done); try simp only [Act.put, List.setIfInBounds_toArray, List.set_cons_zero, List.set_cons_succ])
    | (refine held_take 21 (v := ?_) (oi := ?_) ?_ ?_ ?_ ?_ ?_ (Or.inl ⟨?_, ?_⟩) hHeld ?_; rotate_left 2; (focus decide +kernel); (focus rfl); (focus kernel_rfl); (focus decide +kernel); (focus exact fun _ _ _ h => h); (focus rfl); (focus intro w hSw; (try dsimp only at hSw); go_simp; (try with_reducible rfl); done); try simp only [Act.put, List.setIfInBounds_toArray, List.set_cons_zero, List.set_cons_succ])
    | (refine held_take 22 (v := ?_) (oi := ?_) ?_ ?_ ?_ ?_ ?_ (Or.inl ⟨?_, ?_⟩) hHeld ?_; rotate_left 2; (focus decide +kernel); (focus rfl); (focus kernel_rfl); (focus decide +kernel); (focus exact fun _ _ _ h => h); (focus rfl); (focus intro w hSw; (try dsimp only at hSw); go_simp; (try with_reducible rfl); done); try simp only [Act.put, List.setIfInBounds_toArray, List.set_cons_zero, List.set_cons_succ]))
  refine wpAnyH_done (by kernel_rfl) ?_ _
  go_wp2_with fail
  go_ret
  exact ⟨rfl, (hx1.trans hx7).trans hx9⟩
end Go.Proofs.Ytpgndejmhegklaa
