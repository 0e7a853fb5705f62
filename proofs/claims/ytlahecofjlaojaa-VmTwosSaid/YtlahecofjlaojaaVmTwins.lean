/- VmTwins, VmGas: the walks. -/
import Derived.Test.YtlahecofjlaojaaCode6
import Derived.Test.YtlahecofjlaojaaVmPl
namespace Go.Proofs.Ytlahecofjlaojaa
set_option linter.unusedVariables false
open Go.RowKit

theorem codeV_ok (zs : List Int) : (codeV [] zs).length ≤ 58 ∧ ∀ y ∈ codeV [] zs, y < 256 := ⟨codeV_len zs [] (by simp), codeV_lt zs [] (by simp)⟩
/-- A run of a program of numbers, behind a base world. -/
theorem run_gb {w0 : World} {w : World} {A : Option Addr} {n c : Nat} {bs : List Nat} (hz : GB w A n c bs) (hx : Ext w0 w) (hb : ∀ x ∈ bs, x < 256) (arg data gas : Int) (ha : I64 arg) (hd : I64 data) :
    Calls Try.prog 16 #[.slice A n c, .int .i64 arg, .int .i64 data, .int .i64 gas] w fun e w' => e = .returned (.tuple #[.int .i64 (vrun bs arg data gas).1, .int .i64 (vrun bs arg data gas).2.1, .int .i64 (vrun bs arg data gas).2.2]) ∧ Ext w0 w' :=
  (vrun_any A n c bs arg data gas w hz.bytes hb ha hd).mono fun e w' h => ⟨h.1, hx.trans h.2⟩
set_option maxRecDepth 100000 in
set_option maxHeartbeats 1000000 in
theorem twins_walk (A : Option Addr) (n c : Nat) (as_ : List Int) (A1 : Option Addr) (n1 c1 : Nat) (bs : List Int) (arg data : Int) (w : World)
    (hz : Nums .i64 w A n as_) (hc : n ≤ c) (hm : c ≤ maxLen) (hw : ∀ x ∈ as_, I64 x) (hz1 : Nums .i64 w A1 n1 bs) (hc1 : n1 ≤ c1) (hm1 : c1 ≤ maxLen) (hw1 : ∀ x ∈ bs, I64 x) (ha : I64 arg) (hd : I64 data) :
    Calls Try.prog 13 #[.slice A n c, .slice A1 n1 c1, .int .i64 arg, .int .i64 data] w fun e w' => e = .returned (.bool true) ∧ Ext w w' := by
  have hok := codeV_ok as_
  have hok1 := codeV_ok bs
  generalize hca : codeV [] as_ = ca at *
  generalize hcb : codeV [] bs = cb at *
  have Hca := Lib.hid hca
  have Hcb := Lib.hid hcb
  clear hca hcb
  obtain ⟨r, hr⟩ : ∃ r, r = vrun ca arg data 150 := ⟨_, rfl⟩
  have Hr := Lib.hid hr
  clear hr
  go_enter Try.func13, Try.ntmps13
  go_wp2_with fail
  refine (known6 w).mono ?_
  rintro e w1 ⟨rfl, hx1⟩
  go_wp2_with fail
  refine (code6 A n c as_ w1 (hz.ext hx1) hc hm hw).mono ?_
  rw [Hca.out]
  rintro e w2 ⟨A2, n2, c2, rfl, hg2, hx2⟩
  go_wp2_with fail
  have h3 := run_gb hg2 (hx1.trans hx2) hok.2 arg data 150 ha hd
  rw [← Hr.out] at h3
  refine h3.mono ?_
  rintro e w3 ⟨rfl, hx3⟩
  clear h3 hg2 hx1 hx2
  go_wp2_with fail
  refine (code6 A1 n1 c1 bs w3 (hz1.ext hx3) hc1 hm1 hw1).mono ?_
  rw [Hcb.out]
  rintro e w4 ⟨A4, n4, c4, rfl, hg4, hx4⟩
  go_wp2_with fail
  have h5 := run_gb hg4 (hx3.trans hx4) hok1.2 data arg 150 hd ha
  refine h5.mono ?_
  rintro e w5 ⟨rfl, hx5⟩
  clear h5 hg4 hx4 hx3
  go_wp2_with fail
  refine (code6 A n c as_ w5 (hz.ext hx5) hc hm hw).mono ?_
  rw [Hca.out]
  rintro e w6 ⟨A6, n6, c6, rfl, hg6, hx6⟩
  go_wp2_with fail
  have h7 := run_gb hg6 (hx5.trans hx6) hok.2 arg data 150 ha hd
  rw [← Hr.out] at h7
  refine h7.mono ?_
  rintro e w7 ⟨rfl, hx7⟩
  clear h7 hg6 hx5 hx6
  go_wp2_with fail
  go_ret
  exact ⟨rfl, hx7⟩
end Go.Proofs.Ytlahecofjlaojaa
