/- VmRuns: the walk. -/
import Derived.Test.YtlahecofjlaojaaRf6
import Derived.Test.YtlahecofjlaojaaVmTwins
import Derived.Test.YtlahecofjlaojaaWithin
namespace Go.Proofs.Ytlahecofjlaojaa
set_option linter.unusedVariables false
open Go.RowKit

set_option maxRecDepth 100000 in
set_option maxHeartbeats 4000000 in
theorem runs_walk (A : Option Addr) (n c : Nat) (raw : List Nat) (A1 : Option Addr) (n1 c1 : Nat) (zs : List Int) (arg data gas : Int) (w : World)
    (hz : Bytes w A n raw) (hc : n ≤ c) (hm : c ≤ maxLen) (hb : ∀ x ∈ raw, x < 256) (hz1 : Nums .i64 w A1 n1 zs) (hc1 : n1 ≤ c1) (hm1 : c1 ≤ maxLen) (hw1 : ∀ x ∈ zs, I64 x) (ha : I64 arg) (hd : I64 data) :
    Calls Try.prog 3 #[.slice A n c, .slice A1 n1 c1, .int .i64 arg, .int .i64 data, .int .i64 gas] w fun e w' => e = .returned (.bool true) ∧ Ext w w' := by
  have hok := codeV_ok zs
  go_enter Try.func3, Try.ntmps3
  go_wp2_with fail
  refine (known6 w).mono ?_
  rintro e w1 ⟨rfl, hx1⟩
  by_cases hbig : (100 : Int) < (n : Int)
  · go_wp2_with fail
    go_ret
    exact ⟨rfl, hx1⟩
  go_wp2_with fail
  go_loopw [4, 11, 12, 13, 14, 15, 16, 17, 18, 19] (fun g i _ _ _ _ _ _ _ _ wr => ∃ (k : Nat) (gv : Int), k ≤ 2 ∧ i = .int .i64 k ∧ g = .int .i64 gv ∧ Ext w1 wr) (fun _ i _ _ _ _ _ _ _ _ _ => 2 - (intOf i).toNat)
  case atStart => exact ⟨0, gas, by omega, rfl, rfl, Ext.refl _⟩
  case round =>
    obtain ⟨k, gv, hk, rfl, rfl, her⟩ := hrel
    by_cases hlt : k < 2
    · have hki : (k : Int) < 2 := by omega
      go_upto_if 31 with fail
      go_cut [12] (fun cv wr => ∃ (A' : Option Addr) (n' c' : Nat) (bs : List Nat), cv = .slice A' n' c' ∧ Bytes wr A' n' bs ∧ (∀ x ∈ bs, x < 256) ∧ Ext w1 wr)
      case first =>
        have hk2 : k = 0 ∨ k = 1 := by omega
        rcases hk2 with rfl | rfl
        · go_wp2_with fail
          go_meet
          exact ⟨A, n, c, raw, rfl, hz.ext (hx1.trans her), hb, her⟩
        · go_wp2_with fail
          refine (code6 A1 n1 c1 zs _ (hz1.ext (hx1.trans her)) hc1 hm1 hw1).mono ?_
          rintro e w2 ⟨A2, n2, c2, rfl, hg2, hx2⟩
          go_wp2_with fail
          go_meet
          exact ⟨A2, n2, c2, _, rfl, hg2.bytes, hok.2, her.trans hx2⟩
      case rest =>
        obtain ⟨A', n', c', bs, rfl, hzb, hbb, her2⟩ := hcut
        go_wp2_with fail
        go_loopw [4, 13, 14, 15, 16, 17, 18, 19] (fun g i _ _ _ _ _ _ wr => ∃ (j : Nat) (gv : Int), j ≤ 2 ∧ i = .int .i64 j ∧ g = .int .i64 gv ∧ Ext wc wr) (fun _ i _ _ _ _ _ _ _ => 2 - (intOf i).toNat)
        case atStart => exact ⟨0, gv, by omega, rfl, rfl, Ext.refl _⟩
        case round =>
          obtain ⟨j, gj, hj, rfl, rfl, hej⟩ := hrel
          by_cases hlj : j < 2
          · have hji : (j : Int) < 2 := by omega
            have h3 := vrun_any A' n' c' bs arg data gj wr (hzb.ext hej) hbb ha hd
            have h4 := fun w' h => rrun_any A' n' c' bs arg data gj w' ((hzb.ext hej).ext h) hbb ha hd
            have hwi := fun w => within6 gj 201 (by omega) (by omega) w
            obtain ⟨⟨r1, r2, r3⟩, hr⟩ : ∃ r, r = vrun bs arg data gj := ⟨_, rfl⟩
            rw [← hr] at h3 h4
            unfold RunSays at h3 h4
            clear hr
            go_wp2_with fail
            refine h3.mono ?_
            rintro e w3 ⟨rfl, hx3⟩
            have h4' := h4 w3 hx3
            clear h3 h4
            go_wp2_with fail
            refine h4'.mono ?_
            rintro e w4 ⟨rfl, hx4⟩
            clear h4'
            go_wp2_with fail
            refine (hwi w4).mono ?_
            rintro e w5 ⟨rfl, rfl⟩
            go_wp2_with fail
            go_roundw
            case rel => exact ⟨j + 1, _, by omega, by go_num, rfl, (hej.trans hx3).trans hx4⟩
            case measure => simp [intOf]; omega
          · go_wp2_with fail
            go_roundw
            case rel => exact ⟨k + 1, gj, by omega, by go_num, rfl, her2.trans hej⟩
            case measure => simp [intOf]; omega
    · go_wp2_with fail
      go_ret
      exact ⟨rfl, hx1.trans her⟩
end Go.Proofs.Ytlahecofjlaojaa
