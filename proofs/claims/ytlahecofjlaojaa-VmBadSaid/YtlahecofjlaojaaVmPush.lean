/- VmPushes, VmJumps: the plain laws, the walks. -/
import Derived.Test.YtlahecofjlaojaaVmOnes
namespace Go.Proofs.Ytlahecofjlaojaa
set_option linter.unusedVariables false
open Go.RowKit

theorem bytes8_len (q : Int) : (bytes8 q).length = 8 := rfl
theorem push_run {c pre post : List Nat} {A D : Int} {s : List Int} {g q : Int} (h : c = pre ++ (1 :: (bytes8 q ++ post))) (hq : I64 q) (hg : 1 ≤ g) (hs : s.length < 16) :
    runEnd (mk c A D pre.length s g) = runEnd (mk c A D (pre.length + 9) (s ++ [q]) (g - 1)) := by
  have hl : c.length = pre.length + 9 + post.length := by rw [h]; simp [bytes8_len]; omega
  have e1 : c.getD pre.length 0 = 1 := by rw [h]; simp [List.getD_eq_getElem?_getD]
  have e2 : (c.drop (pre.length + 1)).take 8 = bytes8 q := by
    rw [h, List.drop_append]
    simp only [List.drop_of_length_le (Nat.le_succ pre.length), List.nil_append]
    rw [show pre.length + 1 - pre.length = 1 from by omega, List.drop_succ_cons, List.drop_zero, List.take_append, bytes8_len]
    simp [bytes8_len]
    rw [List.take_of_length_le (by simp [bytes8_len])]
  rw [run_do hg (by omega) e1 (by decide) _ (do_push (by omega) hs), e2, num8_bytes8 q hq]
def cP (a b : Int) : List Nat := ([] ++ [1] ++ bytes8 a) ++ [1] ++ bytes8 b
theorem cP_len (a b : Int) : (cP a b).length = 18 := rfl
theorem push_two (a b : Int) (t : List Nat) (ha : I64 a) (hb : I64 b) : runEnd (mk (cP a b ++ t) 0 0 0 [] 20) = runEnd (mk (cP a b ++ t) 0 0 18 [a, b] 18) := by
  have h1 := push_run (c := cP a b ++ t) (pre := []) (post := [1] ++ bytes8 b ++ t) (A := 0) (D := 0) (s := []) (g := 20) (q := a) (by unfold cP; simp) ha (by omega) (by decide)
  have h2 := push_run (c := cP a b ++ t) (pre := [1] ++ bytes8 a) (post := t) (A := 0) (D := 0) (s := [a]) (g := 19) (q := b) (by unfold cP; simp) hb (by omega) (by simp)
  exact h1.trans h2
theorem cP_lt (a b : Int) (t : List Nat) (ht : ∀ x ∈ t, x < 256) : ∀ x ∈ cP a b ++ t, x < 256 := by
  intro x hx
  unfold cP at hx
  simp only [List.nil_append, List.mem_append, List.mem_singleton] at hx
  rcases hx with ((((rfl | h) | rfl) | h) | h)
  · decide
  · exact bytes8_lt _ x h
  · decide
  · exact bytes8_lt _ x h
  · exact ht x h
theorem getD_app {l t : List Nat} {k : Nat} (h : l.length ≤ k) : (l ++ t).getD k 0 = t.getD (k - l.length) 0 := by
  simp [List.getD_eq_getElem?_getD, List.getElem?_append_right h]
theorem pushes_0 (a b : Int) (ha : I64 a) (hb : I64 b) : vrun (cP a b ++ []) 0 0 20 = (b, 3, 0) := by
  rw [vrun_end (by simp [cP_len]) (by omega) (by omega) _ (by rw [push_two a b [] ha hb, run_end (by omega) (by simp [cP_len])])]
  rfl
theorem pushes_1 (a b : Int) (ha : I64 a) (hb : I64 b) : vrun (cP a b ++ [10]) 0 0 20 = (a, 4, 0) := by
  rw [vrun_end (by simp [cP_len]) (by omega) (by omega) _ (by
    rw [push_two a b [10] ha hb, run_do (by omega) (by simp [cP_len]) (op := 10) (getD_app (by simp [cP_len])) (by decide) (mk (cP a b ++ [10]) 0 0 19 [a] 17) rfl, run_end (by omega) (by simp [cP_len])])]
  rfl
theorem pushes_2 (a b : Int) (ha : I64 a) (hb : I64 b) : vrun (cP a b ++ [9]) 0 0 20 = (a, 4, 0) := by
  rw [vrun_end (by simp [cP_len]) (by omega) (by omega) _ (by
    rw [push_two a b [9] ha hb, run_do (by omega) (by simp [cP_len]) (op := 9) (getD_app (by simp [cP_len])) (by decide) (mk (cP a b ++ [9]) 0 0 19 [b, a] 17) rfl, run_end (by omega) (by simp [cP_len])])]
  rfl
theorem pushes_3 (a b : Int) (ha : I64 a) (hb : I64 b) : vrun (cP a b ++ [8, 10]) 0 0 20 = (b, 5, 0) := by
  rw [vrun_end (by simp [cP_len]) (by omega) (by omega) _ (by
    rw [push_two a b [8, 10] ha hb, run_do (by omega) (by simp [cP_len]) (op := 8) (getD_app (by simp [cP_len])) (by decide) (mk (cP a b ++ [8, 10]) 0 0 19 [a, b, b] 17) rfl,
      run_do (by omega) (by simp [cP_len]) (op := 10) (getD_app (by simp [cP_len])) (by decide) (mk (cP a b ++ [8, 10]) 0 0 20 [a, b] 16) rfl, run_end (by omega) (by simp [cP_len])])]
  rfl
theorem pushes_4 (a b : Int) (ha : I64 a) (hb : I64 b) : vrun (cP a b ++ [9, 10]) 0 0 20 = (b, 5, 0) := by
  rw [vrun_end (by simp [cP_len]) (by omega) (by omega) _ (by
    rw [push_two a b [9, 10] ha hb, run_do (by omega) (by simp [cP_len]) (op := 9) (getD_app (by simp [cP_len])) (by decide) (mk (cP a b ++ [9, 10]) 0 0 19 [b, a] 17) rfl,
      run_do (by omega) (by simp [cP_len]) (op := 10) (getD_app (by simp [cP_len])) (by decide) (mk (cP a b ++ [9, 10]) 0 0 20 [b] 16) rfl, run_end (by omega) (by simp [cP_len])])]
  rfl

set_option maxRecDepth 100000 in
set_option maxHeartbeats 2000000 in
theorem pushes_walk (a b which : Int) (w : World) (ha : I64 a) (hb : I64 b) (hw : I64 which) :
    Calls Try.prog 8 #[.int .i64 a, .int .i64 b, .int .i64 which] w fun e w' => e = .returned (.bool true) ∧ Ext w w' := by
  have hwi := fun w => within6 which 5 (by omega) (by omega) w
  obtain ⟨k, hk, hk5⟩ := emod_natW which 5 5 rfl (by omega)
  rw [hk] at hwi
  clear hk
  have p0 := Lib.hid (pushes_0 a b ha hb)
  have p1 := Lib.hid (pushes_1 a b ha hb)
  have p2 := Lib.hid (pushes_2 a b ha hb)
  have p3 := Lib.hid (pushes_3 a b ha hb)
  have p4 := Lib.hid (pushes_4 a b ha hb)
  go_enter Try.func8, Try.ntmps8
  go_wp2_with fail
  refine (known6 w).mono ?_
  rintro e w1 ⟨rfl, hx1⟩
  go_wp2_with fail
  refine (push6 w1 none 0 0 [] a w1 (Ext.refl w1) (Own.nil _ _ _ _ _) (by omega) ha).mono ?_
  rintro e w2 ⟨A2, c2, rfl, ho2, hx2⟩
  go_wp2_with fail
  refine (push6 w1 A2 9 c2 ([] ++ [1] ++ bytes8 a) b w2 hx2 ho2 (by omega) hb).mono ?_
  rintro e w3 ⟨A3, c3, rfl, ho3, hx3⟩
  have ho3' : Own w3 w1.heap.size 5 1 A3 18 c3 (bvals (cP a b)) := ho3
  have hb3 := hx3.le
  clear ho2 ho3 hx2
  go_wp2_with fail
  refine (hwi _).mono ?_
  rintro e w3' ⟨rfl, rfl⟩
  have happ : ∀ (cs : Array Value) (t : List Nat) (w4 : World) (A4 : Option Addr) (n4 c4 : Nat), Own w4 w1.heap.size 5 1 A4 n4 c4 (bvals (cP a b) ++ bvals t) → (∀ x ∈ t, x < 256) → Ext w1 w4 → ∀ (r : Int × Int × Int), vrun (cP a b ++ t) 0 0 20 = r → Calls Try.prog 16 #[.slice A4 n4 c4, .int .i64 0, .int .i64 0, .int .i64 20] w4 fun e w' => e = .returned (.tuple #[.int .i64 r.1, .int .i64 r.2.1, .int .i64 r.2.2]) ∧ Ext w1 w' := fun cs t w4 A4 n4 c4 h1 h2 h3 r h4 => by
    rw [← bvals_append] at h1
    have := run_gb (GB.own h1) h3 (cP_lt a b t h2) 0 0 20 (by unfold I64; omega) (by unfold I64; omega)
    rw [h4] at this
    exact this
  have Happ := Lib.hid happ
  clear happ
  have hkk : k = 0 ∨ k = 1 ∨ k = 2 ∨ k = 3 ∨ k = 4 := by omega
  clear hwi
  rcases hkk with rfl | rfl | rfl | rfl | rfl
  · go_wp2_with fail
    refine (Happ.out #[] [] _ _ _ _ (by simpa [bvals] using ho3') (by simp) hx3 _ p0.out).mono ?_
    rintro e w5 ⟨rfl, hx5⟩
    go_wp2_with fail
    go_ret
    exact ⟨rfl, hx1.trans hx5⟩
  · go_wp2_with (at_builtin; refine wpList_append_Own rfl (.tmp 23) (.tmp 24) _ rfl w1.heap.size byte_elem rfl (ho3'.ext ((Ext.refl _).alloc _)) rfl (lit_rs _ _ [10] (by rfl)) (bvals_one _) (by decide) (by decide) (by simpa using Nat.le_succ_of_le hb3) ?_)
    intro A4 c4 w4 ho4 hg4
    have hx4 : Ext w1 w4 := (hx3.alloc _).grown hg4 (fun k h => (ho3'.row k h).1)
    clear hg4
    go_wp2_with fail
    refine (Happ.out #[] [10] _ _ _ _ ho4 (by decide) hx4 _ p1.out).mono ?_
    rintro e w5 ⟨rfl, hx5⟩
    go_wp2_with fail
    go_ret
    exact ⟨rfl, hx1.trans hx5⟩
  · go_wp2_with (at_builtin; refine wpList_append_Own rfl (.tmp 29) (.tmp 30) _ rfl w1.heap.size byte_elem rfl (ho3'.ext ((Ext.refl _).alloc _)) rfl (lit_rs _ _ [9] (by rfl)) (bvals_one _) (by decide) (by decide) (by simpa using Nat.le_succ_of_le hb3) ?_)
    intro A4 c4 w4 ho4 hg4
    have hx4 : Ext w1 w4 := (hx3.alloc _).grown hg4 (fun k h => (ho3'.row k h).1)
    clear hg4
    go_wp2_with fail
    refine (Happ.out #[] [9] _ _ _ _ ho4 (by decide) hx4 _ p2.out).mono ?_
    rintro e w5 ⟨rfl, hx5⟩
    go_wp2_with fail
    go_ret
    exact ⟨rfl, hx1.trans hx5⟩
  · go_wp2_with (at_builtin; refine wpList_append_Own rfl (.tmp 35) (.tmp 36) _ rfl w1.heap.size byte_elem rfl (ho3'.ext ((Ext.refl _).alloc _)) rfl (lit_rs _ _ [8, 10] (by rfl)) (bvals_one _) (by decide) (by decide) (by simpa using Nat.le_succ_of_le hb3) ?_)
    intro A4 c4 w4 ho4 hg4
    have hx4 : Ext w1 w4 := (hx3.alloc _).grown hg4 (fun k h => (ho3'.row k h).1)
    clear hg4
    go_wp2_with fail
    refine (Happ.out #[] [8, 10] _ _ _ _ ho4 (by decide) hx4 _ p3.out).mono ?_
    rintro e w5 ⟨rfl, hx5⟩
    go_wp2_with fail
    go_ret
    exact ⟨rfl, hx1.trans hx5⟩
  · go_wp2_with (at_builtin; refine wpList_append_Own rfl (.tmp 40) (.tmp 41) _ rfl w1.heap.size byte_elem rfl (ho3'.ext ((Ext.refl _).alloc _)) rfl (lit_rs _ _ [9, 10] (by rfl)) (bvals_one _) (by decide) (by decide) (by simpa using Nat.le_succ_of_le hb3) ?_)
    intro A4 c4 w4 ho4 hg4
    have hx4 : Ext w1 w4 := (hx3.alloc _).grown hg4 (fun k h => (ho3'.row k h).1)
    clear hg4
    go_wp2_with fail
    refine (Happ.out #[] [9, 10] _ _ _ _ ho4 (by decide) hx4 _ p4.out).mono ?_
    rintro e w5 ⟨rfl, hx5⟩
    go_wp2_with fail
    go_ret
    exact ⟨rfl, hx1.trans hx5⟩
end Go.Proofs.Ytlahecofjlaojaa
