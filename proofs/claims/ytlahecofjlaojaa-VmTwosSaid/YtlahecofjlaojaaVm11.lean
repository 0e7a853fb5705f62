/- The machine: a run. -/
import Derived.Test.YtlahecofjlaojaaVm10
import Derived.Deep.LoopGhost
import Derived.IntWalk
namespace Go.Proofs.Ytlahecofjlaojaa
set_option linter.unusedVariables false
open Go.RowKit

/-- What Run must say. -/
def RunSays (w : World) (r : Int × Int × Int) (e : Ending) (w' : World) : Prop :=
  e = .returned (.tuple #[.int .i64 r.1, .int .i64 r.2.1, .int .i64 r.2.2]) ∧ Ext w w'
theorem RunSays.mk {w w' : World} {r : Int × Int × Int} {x y z : Int} (h1 : x = r.1) (h2 : y = r.2.1) (h3 : z = r.2.2) (he : Ext w w') : RunSays w r (.returned (.tuple #[.int .i64 x, .int .i64 y, .int .i64 z])) w' := ⟨by rw [h1, h2, h3], he⟩
/-- Block g is a machine that stands between two steps. -/
def MachAt (w : World) (g : Nat) (m : Ms) : Prop := ∃ Ac cc As cs, Blk w g 34 (m.cells Ac m.code.length cc As m.stack.length cs) ∧ GB w Ac m.code.length cc m.code ∧ GI w As m.stack.length cs m.stack
theorem MachAt.ext {w w' : World} {g : Nat} {m : Ms} (h : MachAt w g m) (he : Ext w w') : MachAt w' g m := by
  obtain ⟨Ac, cc, As, cs, h1, h2, h3⟩ := h
  exact ⟨Ac, cc, As, cs, h1.ext he, h2.ext he, h3.ext he⟩
/-- So many rounds at most. -/
def left_ (m : Ms) : Nat := if m.done then 0 else m.gas.toNat + 1
theorem left_step {m : Ms} (hf : m.Fit) (hd : m.done = false) : left_ (stepV m) < left_ m := by
  unfold left_
  rw [hd]
  obtain ⟨_, _, _, _, h1 | ⟨h1, h2, h3, _⟩⟩ := stepV_fit hf hd
  · rw [h1]; simp
  · rw [h1, h2]; simp; omega

set_option maxRecDepth 100000 in
set_option maxHeartbeats 2000000 in
theorem vrun_bad (A : Option Addr) (n c : Nat) (arg data gas : Int) (w : World) (hbad : 64 < n ∨ gas < 0 ∨ 200 < gas) :
    Calls Try.prog 16 #[.slice A n c, .int .i64 arg, .int .i64 data, .int .i64 gas] w fun e w' => RunSays w (0, 0, 1) e w' := by
  by_cases h1 : 64 < n
  · have i1 : (64 : Int) < (n : Int) := by omega
    go_enter Try.func16, Try.ntmps16
    go_wp2_with fail
    go_ret3
    exact ⟨rfl, Ext.refl w⟩
  · have d1 : decide (64 < n) = false := by simp; omega
    by_cases h2 : gas < 0
    · go_enter Try.func16, Try.ntmps16
      go_wp2_with fail
      go_ret3
      exact ⟨rfl, Ext.refl w⟩
    · have h3 : 200 < gas := by omega
      go_enter Try.func16, Try.ntmps16
      go_wp2_with fail
      go_ret3
      exact ⟨rfl, Ext.refl w⟩

set_option maxRecDepth 100000 in
set_option maxHeartbeats 2000000 in
theorem vrun_good (A : Option Addr) (n c : Nat) (bs : List Nat) (arg data gas : Int) (w : World) (hz : Bytes w A n bs) (hb : ∀ x ∈ bs, x < 256) (ha : I64 arg) (hd : I64 data) (hn : n ≤ 64) (hg : 0 ≤ gas ∧ gas ≤ 200) :
    Calls Try.prog 16 #[.slice A n c, .int .i64 arg, .int .i64 data, .int .i64 gas] w fun e w' => RunSays w (lastV (runEnd (startV bs arg data gas)), gas - (runEnd (startV bs arg data gas)).gas, (runEnd (startV bs arg data gas)).err) e w' := by
  have hl := hz.len
  have hsf := start_fit hb ha hd (by omega) hg
  have hnew := vnew_any A n c bs arg data gas w hz (by omega)
  obtain ⟨r, hr⟩ : ∃ r, r = runEnd (startV bs arg data gas) := ⟨_, rfl⟩
  rw [← hr]
  have Hr := Lib.hid hr
  have Hl := Lib.hid hl
  have Hsf := Lib.hid hsf
  unfold Ms.cells at hnew
  simp only at hnew
  have d1 : decide (64 < n) = false := by simp; omega
  obtain ⟨g0, g2⟩ := hg
  clear hr hl hsf ha hd hb
  go_enter Try.func16, Try.ntmps16
  go_upto_region 3 with fail
  go_wp2_with fail
  refine hnew.mono ?_
  rintro e w1 ⟨A1, c1, rfl, hg1, hx1⟩
  have hBn := Blk.new w1 34 #[.slice none 0 0, .int .i64 0, .int .i64 0, .int .i64 0, .slice none 0 0, .int .i64 0, .bool false, .int .i64 0]
  clear hnew
  go_wp2_with ((refine wpList_store_blk rfl 34 (.tmp 11) (.tmp 27) rfl hBn rfl rfl rfl mach_size rfl ?_; intro w5 hB5 hM5))
  have hx5 : Ext w w5 := (hx1.trans ((Ext.refl w1).alloc _)).mut hM5 hx1.le
  have hM0 : MachAt w5 w1.heap.size (startV bs arg data gas) := by
    refine ⟨A1, c1, none, 0, ?_, ?_, GI.nil w5⟩
    · unfold Ms.cells startV
      simp only [Hl.out]
      exact hB5
    · simp only [startV, Hl.out]
      exact (hg1.ext ((Ext.refl w1).alloc _)).mut hBn mach_ne8 hM5
  have hs0 := Hsf.out
  have he0 := Hr.out
  generalize startV bs arg data gas = m0 at *
  have hgw : w.heap.size ≤ w1.heap.size := hx1.le
  clear hB5 hM5 hg1 hBn hx1 Hr Hsf Hl hz
  generalize w1.heap.size = g at *
  simp only [Act.put]
  go_loopg [] (left_ m0) (fun q wr => ∃ m : Ms, q = left_ m ∧ MachAt wr g m ∧ m.Fit ∧ Hid (r = runEnd m) ∧ Ext w wr)
  case atStart => exact ⟨m0, rfl, hM0, hs0, Lib.hid he0, hx5⟩
  case round =>
    clear hM0 hs0 he0 hx5
    obtain ⟨m, rfl, hM, hf, hre, her⟩ := hrel
    obtain ⟨Ac, cc, As, cs, hB, hc, hs⟩ := hM
    cases hd : m.done
    · have hst := vstep_any m Ac m.code.length cc As m.stack.length cs wr hc.2.2.1 hs.nums hf
      have hre2 : Hid (r = runEnd (stepV m)) := Lib.hid (by rw [hre.out, runEnd_step hf hd])
      have hlt := left_step hf hd
      have hf2 := (stepV_fit hf hd).1
      have hB' := hB
      unfold Ms.cells at hB hst
      obtain ⟨k0, k1, k2, k3, k4, k5, k6, k7⟩ := hB.cells8
      rw [hd] at k6
      have Hd := Lib.hid hd
      rw [hd] at hst hB
      clear hre hf hd hB' hc hs
      generalize stepV m = m2 at *
      go_wp2_with fail
      refine hst.mono ?_
      intro e w3 h3
      obtain ⟨A3, c3, S3, d3, rfl, hg3, ho3, hx3⟩ : ∃ Ac cc As cs, e = .returned (.agg (m2.cells Ac m2.code.length cc As m2.stack.length cs)) ∧ GB w3 Ac m2.code.length cc m2.code ∧ Own w3 wr.heap.size 3 1 As m2.stack.length cs (ivals m2.stack) ∧ Ext wr w3 := h3
      have hB3 := hB.ext hx3
      unfold Ms.cells
      clear hst k0 k1 k2 k3 k4 k5 k6 k7 hB
      go_wp2_with ((refine wpList_store_blk rfl 34 (.tmp 11) (.tmp 32) rfl hB3 rfl rfl rfl mach_size rfl ?_; intro w5 hB6 hM6))
      go_roundg (left_ m2)
      case measure => exact hlt
      case rel => exact ⟨m2, rfl, ⟨A3, c3, S3, d3, hB6, hg3.mut hB3 mach_ne8 hM6, (GI.own ho3).mut hB3 mach_neI hM6⟩, hf2, hre2, (her.trans hx3).mut hM6 hgw⟩
    · have hrm : r = m := by rw [hre.out, runEnd_id hd]
      subst hrm
      unfold Ms.cells at hB
      rw [hd] at hB
      have hgas := hf.gas
      have hdp := hf.deep
      obtain ⟨k0, k1, k2, k3, k4, k5, k6, k7⟩ := hB.cells8
      clear hre hf hB hc k0 k1 k2 k3
      have hw1 : IntKind.i64.wrap (gas - r.gas) = gas - r.gas := IntWalk.i64_in _ (by omega)
      by_cases he : r.err = 0
      · by_cases hn : r.stack = []
        · have Hlv := Lib.hid (show lastV r = 0 by unfold lastV; rw [if_neg (by simp [hn])])
          have hl0 : r.stack.length = 0 := by simp [hn]
          rw [hl0] at k4
          rw [he] at k7
          have He := Lib.hid he
          clear hn hl0 hs he
          go_wp2_with fail
          go_quiet (fail)
          go_wp2_with fail
          go_ret3
          exact .mk Hlv.out.symm rfl He.out.symm (her.drewN _)
        · have hpos : 0 < r.stack.length := List.length_pos_iff.2 hn
          have Hlv := Lib.hid (show lastV r = r.stack.getD (r.stack.length - 1) 0 by unfold lastV; rw [if_pos ⟨he, hn⟩])
          obtain ⟨b, o, rfl, hb, hcell⟩ := hs.nums.at_ (r.stack.length - 1) (by omega)
          rw [he] at k7
          have He := Lib.hid he
          clear hn hs he
          generalize r.stack.getD (r.stack.length - 1) 0 = v at *
          obtain ⟨q, hq⟩ : ∃ q, r.stack.length = q + 1 := ⟨r.stack.length - 1, by omega⟩
          rw [hq] at k4 hcell hdp
          have Hq := Lib.hid hq
          clear hq hpos
          simp only [Nat.add_sub_cancel] at hcell
          go_wp2_with fail
          go_quiet (fail)
          go_wp2_with fail
          go_ret3
          exact .mk Hlv.out.symm rfl He.out.symm (her.drewN _)
      · have Hlv := Lib.hid (show lastV r = 0 by unfold lastV; rw [if_neg (by simp [he])])
        have hen : (r.err == 0) = false := by simp [he]
        clear he hs
        go_wp2_with fail
        go_quiet (fail)
        go_wp2_with fail
        go_ret3
        exact .mk Hlv.out.symm rfl rfl (her.drewN _)
end Go.Proofs.Ytlahecofjlaojaa
