/- VmCounts: the plain law, the walk. -/
import Derived.Test.YtlahecofjlaojaaVmStack
namespace Go.Proofs.Ytlahecofjlaojaa
set_option linter.unusedVariables false
open Go.RowKit

def item (k : Nat) : List Nat := [1, 0, 0, 0, 0, 0, 0, 0, k, 2]
def cC : Nat → List Nat
  | 0 => [12]
  | k + 1 => cC k ++ item (k + 1)
def tri : Nat → Int
  | 0 => 0
  | k + 1 => tri k + ((k : Int) + 1)
theorem cC_len : ∀ k, (cC k).length = 1 + 10 * k
  | 0 => rfl
  | k + 1 => by
    show (cC k ++ item (k + 1)).length = _
    rw [List.length_append, cC_len k]
    show 1 + 10 * k + 10 = _
    omega
theorem cC_split : ∀ (K j : Nat), j < K → ∃ post, cC K = cC j ++ (item (j + 1) ++ post)
  | 0, j, h => absurd h (by omega)
  | K + 1, j, h => by
    by_cases hj : j = K
    · subst hj
      exact ⟨[], by show cC j ++ item (j + 1) = _; simp⟩
    · obtain ⟨post, hp⟩ := cC_split K j (by omega)
      exact ⟨post ++ item (K + 1), by show cC K ++ item (K + 1) = _; rw [hp]; simp⟩
theorem bytes8_small (k : Nat) (h : k < 256) : bytes8 (k : Int) = [0, 0, 0, 0, 0, 0, 0, k] := by
  unfold bytes8 byteAt
  have e : ((k : Int) % 18446744073709551616).toNat = k := by omega
  rw [e]
  simp only [Nat.reducePow]
  congr 1
  · omega
  congr 1
  · omega
  congr 1
  · omega
  congr 1
  · omega
  congr 1
  · omega
  congr 1
  · omega
  congr 1
  · omega
  congr 1
  omega
theorem tri_bd : ∀ k, 0 ≤ tri k ∧ tri k ≤ (k : Int) * 100 ∨ 100 < k
  | 0 => .inl ⟨by simp [tri], by simp [tri]⟩
  | k + 1 => by
    rcases tri_bd k with ⟨h1, h2⟩ | h
    · by_cases hk : 100 < k + 1
      · exact .inr hk
      · left
        show 0 ≤ tri k + ((k : Int) + 1) ∧ tri k + ((k : Int) + 1) ≤ ((k + 1 : Nat) : Int) * 100
        omega
    · exact .inr (by omega)
theorem do_add {c : List Nat} {A D : Int} {k : Nat} {x y g : Int} (h : in64 (x + y) = true) : doV (mk c A D k [x, y] g) 2 = (0, mk c A D k [x + y] g) := by
  have e : twoV 2 x y = (0, x + y) := by unfold twoV; rw [if_pos rfl, if_pos h]
  rw [doV_two (mk c A D k [x, y] g) 2 (by decide) (by simp [mk]) (by simp [mk]) (0, x + y) e, if_neg (by simp)]
  rfl
theorem count_run (K : Nat) (hK : K ≤ 6) (q : Int) (h0 : 0 ≤ q) (h1 : q < 1000) : ∀ j, j ≤ K → runEnd (mk (cC K) 0 q 1 [q] 199) = runEnd (mk (cC K) 0 q (1 + 10 * j) [q + tri j] (199 - 2 * (j : Int)))
  | 0, _ => by simp [tri]
  | j + 1, hj => by
    rw [count_run K hK q h0 h1 j (by omega)]
    obtain ⟨post, hp⟩ := cC_split K j (by omega)
    have hb := bytes8_small (j + 1) (by omega)
    have hp' : cC K = cC j ++ (1 :: (bytes8 ((j + 1 : Nat) : Int) ++ (2 :: post))) := by rw [hp, hb]; rfl
    have ht := tri_bd j
    have hlen := cC_len K
    have h := push_run (A := 0) (D := q) (s := [q + tri j]) (g := 199 - 2 * (j : Int)) (q := ((j + 1 : Nat) : Int)) hp' (by unfold I64; omega) (by omega) (by simp)
    rw [cC_len j] at h
    rw [h]
    have hg : (cC K).getD (1 + 10 * j + 9) 0 = 2 := by
      rw [hp', getD_app (by rw [cC_len j]; omega), cC_len j, show 1 + 10 * j + 9 - (1 + 10 * j) = 9 from by omega, hb]
      rfl
    have hin : in64 (q + tri j + ((j + 1 : Nat) : Int)) = true := by
      unfold in64
      simp only [Bool.and_eq_true, decide_eq_true_eq]
      omega
    rw [show ([q + tri j] ++ [((j + 1 : Nat) : Int)]) = [q + tri j, ((j + 1 : Nat) : Int)] from rfl]
    rw [run_do (by omega) (by rw [hlen]; omega) hg (by decide) _ (do_add hin)]
    congr 1
    show mk _ _ _ _ _ _ = mk _ _ _ _ [q + (tri j + ((j : Int) + 1))] _
    rw [show 1 + 10 * j + 9 + 1 = 1 + 10 * (j + 1) from by omega, show 199 - 2 * (j : Int) - 1 - 1 = 199 - 2 * ((j + 1 : Nat) : Int) from by omega, show q + tri j + ((j + 1 : Nat) : Int) = q + (tri j + ((j : Int) + 1)) from by omega]
theorem count_law (K : Nat) (hK : K ≤ 6) (q : Int) (h0 : 0 ≤ q) (h1 : q < 1000) : vrun (cC K) 0 q 200 = (q + tri K, 2 * (K : Int) + 2, 0) := by
  have hl := cC_len K
  have hfirst : ∀ K, (cC K).getD 0 0 = 12 := fun K => by
    cases K with
    | zero => rfl
    | succ K =>
      obtain ⟨post, hp⟩ := cC_split (K + 1) 0 (by omega)
      rw [hp]; rfl
  rw [vrun_end (by omega) (by omega) (by omega) (overV (mk (cC K) 0 q (1 + 10 * K) [q + tri K] (199 - 2 * (K : Int) - 1)) 0)]
  · show (q + tri K, 200 - (199 - 2 * (K : Int) - 1), 0) = _
    rw [show 200 - (199 - 2 * (K : Int) - 1) = 2 * (K : Int) + 2 from by omega]
  · rw [run_do (by omega) (by omega) (hfirst K) (by decide) _ (do_data (by decide))]
    exact (count_run K hK q h0 h1 K (Nat.le_refl _)).trans (run_end (by omega) hl.symm)
theorem ret_bool {b : Bool} (h : b = true) : Ending.returned (.bool b) = .returned (.bool true) := by rw [h]
theorem cC_lt : ∀ K, K ≤ 6 → ∀ x ∈ cC K, x < 256 := by decide

set_option maxRecDepth 100000 in
set_option maxHeartbeats 2000000 in
theorem counts_walk (a d : Int) (w : World) (ha : I64 a) (hd : I64 d) :
    Calls Try.prog 7 #[.int .i64 a, .int .i64 d] w fun e w' => e = .returned (.bool true) ∧ Ext w w' := by
  have hw8 := fun w => within6 a 8 (by omega) (by omega) w
  obtain ⟨p, hp, hp8⟩ := emod_natW a 8 8 rfl (by omega)
  rw [hp] at hw8
  have hw1k := fun w => within6 d 1000 (by omega) (by omega) w
  obtain ⟨q0, q1⟩ : 0 ≤ d % 1000 ∧ d % 1000 < 1000 := by omega
  generalize d % 1000 = q at *
  clear hp ha hd
  have hpi : (p : Int) < 8 := by omega
  go_enter Try.func7, Try.ntmps7
  go_wp2_with fail
  refine (known6 w).mono ?_
  rintro e w1 ⟨rfl, hx1⟩
  go_wp2_with fail
  refine (hw8 _).mono ?_
  rintro e w2 ⟨rfl, rfl⟩
  go_wp2_with fail
  refine (hw1k _).mono ?_
  rintro e w3 ⟨rfl, rfl⟩
  go_upto_region 5 with fail
  generalize hv : (Value.slice none 0 0) = v5
  have Hv := Lib.hid hv
  clear hv hw8 hw1k
  go_wp2_with (at_builtin; refine wpList_append_new rfl (.tmp 17) (.tmp 18) _ rfl w3.heap.size byte_elem (A := none) Hv.out.symm rfl (lit_rs _ _ [12] (by rfl)) (bvals_one _) (by decide) (by decide) (by simp) ?_)
  intro A4 c4 w4 ho4 hx4'
  have hx4 : Ext w3 w4 := ((Ext.refl w3).alloc _).trans hx4'
  clear hx4'
  go_wp2_with fail
  go_loopw [5, 6, 7] (fun s v i wr => ∃ (j : Nat) (A' : Option Addr) (c' : Nat), j ≤ p ∧ j ≤ 6 ∧ s = .slice A' (1 + 10 * j) c' ∧ v = .int .i64 (q + tri j) ∧ i = .int .i64 ((j : Int) + 1) ∧ Own wr w3.heap.size 5 1 A' (1 + 10 * j) c' (bvals (cC j)) ∧ Ext w3 wr) (fun _ _ i _ => (8 - intOf i).toNat)
  case atStart => exact ⟨0, A4, c4, Nat.zero_le _, Nat.zero_le _, rfl, by simp [tri], rfl, ho4, hx4⟩
  case round =>
    obtain ⟨j, A5, c5, hjp, hj6, rfl, rfl, rfl, ho, her⟩ := hrel
    have ht := tri_bd j
    have hb := her.le
    by_cases hlt : j < p ∧ j < 6
    · obtain ⟨g1, g2⟩ := hlt
      have m1 : 1 + 10 * j + 10 ≤ maxLen := by unfold maxLen; omega
      have m2 : (1 + 10 * j + 10) * 1 ≤ 140737488355328 := by omega
      have ht1 : 0 ≤ tri j ∧ tri j ≤ 600 := by omega
      obtain ⟨t1, t2⟩ := ht1
      have htri := Lib.hid (show q + tri (j + 1) = q + tri j + ((j : Int) + 1) by show q + (tri j + ((j : Int) + 1)) = _; omega)
      clear ht
      generalize tri j = T at *
      have hjp' : (j : Int) + 1 ≤ (p : Int) := by omega
      have hj6' : (j : Int) < 6 := by omega
      go_wp2_with (at_builtin; refine wpList_append_Own rfl (.tmp 32) (.tmp 35) _ rfl w3.heap.size byte_elem rfl (ho.ext ((Ext.refl _).alloc _)) rfl (lit_at rfl _ (item (j + 1)) (by simp [bvals, item])) (bvals_one _) m1 m2 (by simpa using Nat.le_succ_of_le hb) ?_)
      intro A6 c6 w6 ho6 hg6
      have hx6 : Ext w3 w6 := (her.alloc _).grown hg6 (fun k h => (ho.row k h).1)
      have ho6' : Own w6 w3.heap.size 5 1 A6 (1 + 10 * (j + 1)) c6 (bvals (cC (j + 1))) := by
        rw [← bvals_append] at ho6
        exact ho6
      clear hg6 ho6 ho
      go_wp2_with fail
      go_roundw
      case rel => exact ⟨j + 1, A6, c6, by omega, by omega, rfl, by rw [htri.out], by go_num, ho6', hx6⟩
      case measure => simp [intOf]; omega
    · have hK := Lib.hid (count_law j hj6 q q0 q1)
      have hrun := run_gb (GB.own ho) her (cC_lt j hj6) 0 q 200 (by unfold I64; omega) (by unfold I64; omega)
      rw [hK.out] at hrun
      clear ho
      by_cases g1 : j < p
      · have g2 : j = 6 := by omega
        subst g2
        have hjp' : (6 : Int) + 1 ≤ (p : Int) := by omega
        clear hlt
        go_wp2_with fail
        refine hrun.mono ?_
        rintro e w7 ⟨rfl, hx7⟩
        go_wp2_with fail
        go_ret
        exact ⟨rfl, hx1.trans hx7⟩
      · have hjp' : ¬ ((j : Int) + 1 ≤ (p : Int)) := by omega
        clear hlt
        go_wp2_with fail
        refine hrun.mono ?_
        rintro e w7 ⟨rfl, hx7⟩
        go_wp2_with fail
        go_ret
        exact ⟨ret_bool (by rw [beq_iff_eq]; omega), hx1.trans hx7⟩
end Go.Proofs.Ytlahecofjlaojaa
