/- The document's machine: any step, a run. -/
import Derived.Test.YtlahecofjlaojaaRf4a
import Derived.Test.YtlahecofjlaojaaRf4b
import Derived.Test.YtlahecofjlaojaaRf4c
import Derived.Test.YtlahecofjlaojaaRf8a
import Derived.Test.YtlahecofjlaojaaRf8b
import Derived.Test.YtlahecofjlaojaaRf8c
import Derived.Test.YtlahecofjlaojaaRf8d
import Derived.Test.YtlahecofjlaojaaRf8e
import Derived.Test.YtlahecofjlaojaaRf8f
import Derived.Test.YtlahecofjlaojaaRf8g
import Derived.Test.YtlahecofjlaojaaRf8h
import Derived.Test.YtlahecofjlaojaaRf8i
import Derived.Test.YtlahecofjlaojaaRf8j
import Derived.Test.YtlahecofjlaojaaRf8k
import Derived.Test.YtlahecofjlaojaaVm11
namespace Go.Proofs.Ytlahecofjlaojaa
set_option linter.unusedVariables false
open Go.RowKit

theorem rstep_any (m : Ms) (Ac : Option Addr) (nc cc : Nat) (As : Option Addr) (ns cs : Nat) (w : World) (hc : Bytes w Ac nc m.code) (hs : Nums .i64 w As ns m.stack) (hf : m.Fit) (hd : m.done = false) (herr : m.err = 0) :
    Calls Try.prog 20 #[.agg (m.cells Ac nc cc As ns cs)] w fun e w' => Gives w (stepV m) e w' := by
  by_cases hg : m.gas < 1
  · exact rstep_gas m Ac nc cc As ns cs w hc hs hf hd herr hg
  have ha := hf.at_
  by_cases h1 : m.at_ = m.code.length
  · exact rstep_end m Ac nc cc As ns cs w hc hs hf hd herr (by omega) h1
  by_cases h2 : m.code.getD m.at_ 0 = 0
  · exact rstep_stop m Ac nc cc As ns cs w hc hs hf hd herr (by omega) (by omega) h2
  by_cases h3 : 15 < m.code.getD m.at_ 0
  · exact rstep_bad m Ac nc cc As ns cs w hc hs hf hd herr (by omega) (by omega) ⟨h2, h3⟩
  have hg1 : 1 ≤ m.gas := by omega
  have hat : m.at_ < m.code.length := by omega
  by_cases hst : needsV (m.code.getD m.at_ 0) ≤ m.stack.length ∧ m.stack.length + putsV (m.code.getD m.at_ 0) ≤ 16 + needsV (m.code.getD m.at_ 0)
  · have h15 : m.code.getD m.at_ 0 = 8 ∨ m.code.getD m.at_ 0 = 10 ∨ m.code.getD m.at_ 0 = 14 ∨ m.code.getD m.at_ 0 = 15 ∨ m.code.getD m.at_ 0 = 11 ∨ m.code.getD m.at_ 0 = 12 ∨ m.code.getD m.at_ 0 = 9 ∨ m.code.getD m.at_ 0 = 2 ∨ m.code.getD m.at_ 0 = 3 ∨ m.code.getD m.at_ 0 = 4 ∨ m.code.getD m.at_ 0 = 5 ∨ m.code.getD m.at_ 0 = 6 ∨ m.code.getD m.at_ 0 = 7 ∨ m.code.getD m.at_ 0 = 1 ∨ m.code.getD m.at_ 0 = 13 := by omega
    rcases h15 with h | h | h | h | h | h | h | h | h | h | h | h | h | h | h
    · exact rstep_sa m Ac nc cc As ns cs w hc hs hf hd herr hg1 hat ⟨h2, .inl h⟩ hst
    · exact rstep_sa m Ac nc cc As ns cs w hc hs hf hd herr hg1 hat ⟨h2, .inr h⟩ hst
    · exact rstep_sb m Ac nc cc As ns cs w hc hs hf hd herr hg1 hat ⟨h2, .inl h⟩ hst
    · exact rstep_sb m Ac nc cc As ns cs w hc hs hf hd herr hg1 hat ⟨h2, .inr h⟩ hst
    · exact rstep_sc m Ac nc cc As ns cs w hc hs hf hd herr hg1 hat ⟨h2, .inl h⟩ hst
    · exact rstep_sc m Ac nc cc As ns cs w hc hs hf hd herr hg1 hat ⟨h2, .inr h⟩ hst
    · exact rstep_sd m Ac nc cc As ns cs w hc hs hf hd herr hg1 hat ⟨h2, h⟩ hst
    · exact rstep_se m Ac nc cc As ns cs w hc hs hf hd herr hg1 hat ⟨h2, .inl h⟩ hst
    · exact rstep_se m Ac nc cc As ns cs w hc hs hf hd herr hg1 hat ⟨h2, .inr h⟩ hst
    · exact rstep_sf m Ac nc cc As ns cs w hc hs hf hd herr hg1 hat ⟨h2, .inl h⟩ hst
    · exact rstep_sf m Ac nc cc As ns cs w hc hs hf hd herr hg1 hat ⟨h2, .inr h⟩ hst
    · exact rstep_sg m Ac nc cc As ns cs w hc hs hf hd herr hg1 hat ⟨h2, .inl h⟩ hst
    · exact rstep_sg m Ac nc cc As ns cs w hc hs hf hd herr hg1 hat ⟨h2, .inr h⟩ hst
    · exact rstep_sh m Ac nc cc As ns cs w hc hs hf hd herr hg1 hat ⟨h2, h⟩ hst
    · exact rstep_si m Ac nc cc As ns cs w hc hs hf hd herr hg1 hat ⟨h2, h⟩ hst
  · by_cases h1' : m.code.getD m.at_ 0 = 1
    · exact rstep_sj m Ac nc cc As ns cs w hc hs hf hd herr hg1 hat ⟨h2, h1'⟩ hst
    by_cases h13 : m.code.getD m.at_ 0 = 13
    · exact rstep_sk m Ac nc cc As ns cs w hc hs hf hd herr hg1 hat ⟨h2, h13⟩ hst
    · exact rstep_stack m Ac nc cc As ns cs w hc hs hf hd herr hg1 hat ⟨h2, ⟨by omega, h1', h13⟩, by omega⟩
/-- Block g is a machine of the document's that stands between two steps. -/
def RMachAt (w : World) (g : Nat) (m : Ms) : Prop := ∃ Ac cc As cs, Blk w g 37 (m.cells Ac m.code.length cc As m.stack.length cs) ∧ GB w Ac m.code.length cc m.code ∧ GI w As m.stack.length cs m.stack
set_option maxRecDepth 100000 in
set_option maxHeartbeats 2000000 in
theorem rrun_bad (A : Option Addr) (n c : Nat) (arg data gas : Int) (w : World) (hbad : 64 < n ∨ gas < 0 ∨ 200 < gas) :
    Calls Try.prog 17 #[.slice A n c, .int .i64 arg, .int .i64 data, .int .i64 gas] w fun e w' => RunSays w (0, 0, 1) e w' := by
  by_cases h1 : 64 < n
  · have i1 : (64 : Int) < (n : Int) := by omega
    go_enter Try.func17, Try.ntmps17
    go_wp2_with fail
    go_ret3
    exact ⟨rfl, Ext.refl w⟩
  · have d1 : decide (64 < n) = false := by simp; omega
    by_cases h2 : gas < 0
    · go_enter Try.func17, Try.ntmps17
      go_wp2_with fail
      go_ret3
      exact ⟨rfl, Ext.refl w⟩
    · have h3 : 200 < gas := by omega
      go_enter Try.func17, Try.ntmps17
      go_wp2_with fail
      go_ret3
      exact ⟨rfl, Ext.refl w⟩

set_option maxRecDepth 100000 in
set_option maxHeartbeats 2000000 in
theorem rrun_good (A : Option Addr) (n c : Nat) (bs : List Nat) (arg data gas : Int) (w : World) (hz : Bytes w A n bs) (hb : ∀ x ∈ bs, x < 256) (ha : I64 arg) (hd : I64 data) (hn : n ≤ 64) (hg : 0 ≤ gas ∧ gas ≤ 200) :
    Calls Try.prog 17 #[.slice A n c, .int .i64 arg, .int .i64 data, .int .i64 gas] w fun e w' => RunSays w (lastV (runEnd (startV bs arg data gas)), gas - (runEnd (startV bs arg data gas)).gas, (runEnd (startV bs arg data gas)).err) e w' := by
  have hl := hz.len
  have hsf := start_fit hb ha hd (by omega) hg
  have hnew := rnew_any A n c bs arg data gas w hz (by omega)
  have hleft : left_ (startV bs arg data gas) ≤ 201 := by simp only [left_, startV]; simp; omega
  have herr0 : (startV bs arg data gas).err = 0 := rfl
  obtain ⟨r, hr⟩ : ∃ r, r = runEnd (startV bs arg data gas) := ⟨_, rfl⟩
  rw [← hr]
  have Hr := Lib.hid hr
  have Hl := Lib.hid hl
  have Hsf := Lib.hid hsf
  unfold Ms.cells at hnew
  simp only at hnew
  have d1 : decide (64 < n) = false := by simp; omega
  obtain ⟨g0, g2⟩ := hg
  clear hr hl hsf ha hd hb
  go_enter Try.func17, Try.ntmps17
  go_upto_region 3 with fail
  go_wp2_with fail
  refine hnew.mono ?_
  rintro e w1 ⟨A1, c1, rfl, hg1, hx1⟩
  have hBn := Blk.new w1 37 #[.slice none 0 0, .int .i64 0, .int .i64 0, .int .i64 0, .slice none 0 0, .int .i64 0, .bool false, .int .i64 0]
  clear hnew
  go_wp2_with ((refine wpList_store_blk rfl 37 (.tmp 11) (.tmp 28) rfl hBn rfl rfl rfl rmach_size rfl ?_; intro w5 hB5 hM5))
  have hx5 : Ext w w5 := (hx1.trans ((Ext.refl w1).alloc _)).mut hM5 hx1.le
  have hM0 : RMachAt w5 w1.heap.size (startV bs arg data gas) := by
    refine ⟨A1, c1, none, 0, ?_, ?_, GI.nil w5⟩
    · unfold Ms.cells startV
      simp only [Hl.out]
      exact hB5
    · simp only [startV, Hl.out]
      exact (hg1.ext ((Ext.refl w1).alloc _)).mut hBn rmach_ne8 hM5
  have hs0 := Hsf.out
  have he0 := Hr.out
  generalize startV bs arg data gas = m0 at *
  have hgw : w.heap.size ≤ w1.heap.size := hx1.le
  clear hB5 hM5 hg1 hBn hx1 Hr Hsf Hl hz
  generalize w1.heap.size = g at *
  go_loopw [12] (fun i wr => ∃ (k : Nat) (m : Ms), k + left_ m ≤ 201 ∧ i = .int .i64 k ∧ RMachAt wr g m ∧ m.Fit ∧ Hid (m.done = false → m.err = 0) ∧ Hid (r = runEnd m) ∧ Ext w wr) (fun i _ => 202 - (intOf i).toNat)
  case atStart => exact ⟨0, m0, by omega, rfl, hM0, hs0, Lib.hid (fun _ => herr0), Lib.hid he0, hx5⟩
  case round =>
    clear hM0 hs0 he0 hx5 hleft herr0
    obtain ⟨k, m, hkl, rfl, hM, hf, her0, hre, her⟩ := hrel
    obtain ⟨Ac, cc, As, cs, hB, hc, hs⟩ := hM
    have hk202 : (k : Int) < 202 := by omega
    cases hd : m.done
    · have hst := rstep_any m Ac m.code.length cc As m.stack.length cs wr hc.2.2.1 hs.nums hf hd (her0.out hd)
      have hre2 : Hid (r = runEnd (stepV m)) := Lib.hid (by rw [hre.out, runEnd_step hf hd])
      have hlt := left_step hf hd
      have hf2 := (stepV_fit hf hd).1
      have her2 : Hid ((stepV m).done = false → (stepV m).err = 0) := Lib.hid (fun h => by
        rcases (stepV_fit hf hd).2.2.2.2 with h1 | ⟨_, _, _, h1⟩
        · rw [h] at h1; simp at h1
        · rw [h1]; exact her0.out hd)
      have hB' := hB
      unfold Ms.cells at hB hst
      obtain ⟨k0, k1, k2, k3, k4, k5, k6, k7⟩ := hB.cells8
      rw [hd] at k6
      have Hd := Lib.hid hd
      rw [hd] at hst hB
      have hkk : k + 1 + left_ (stepV m) ≤ 201 := by omega
      clear hre hf hd hB' hc hs her0 hlt hkl
      generalize stepV m = m2 at *
      go_wp2_with (refine wpList_load_blk rfl 37 (.tmp 11) rfl hB rfl _ Try.underlying37 rfl rmach_size ?_)
      refine hst.mono ?_
      intro e w3 h3
      obtain ⟨A3, c3, S3, d3, rfl, hg3, ho3, hx3⟩ : ∃ Ac cc As cs, e = .returned (.agg (m2.cells Ac m2.code.length cc As m2.stack.length cs)) ∧ GB w3 Ac m2.code.length cc m2.code ∧ Own w3 wr.heap.size 3 1 As m2.stack.length cs (ivals m2.stack) ∧ Ext wr w3 := h3
      have hB3 := hB.ext hx3
      unfold Ms.cells
      clear hst k0 k1 k2 k3 k4 k5 k6 k7 hB
      go_wp2_with ((refine wpList_store_blk rfl 37 (.tmp 11) (.tmp 39) rfl hB3 rfl rfl rfl rmach_size rfl ?_; intro w5 hB6 hM6))
      go_roundw
      case rel => exact ⟨k + 1, m2, hkk, by go_num, ⟨A3, c3, S3, d3, hB6, hg3.mut hB3 rmach_ne8 hM6, (GI.own ho3).mut hB3 rmach_neI hM6⟩, hf2, her2, hre2, (her.trans hx3).mut hM6 hgw⟩
      case measure => simp [intOf]; omega
    · have hrm : r = m := by rw [hre.out, runEnd_id hd]
      subst hrm
      unfold Ms.cells at hB
      rw [hd] at hB
      have hgas := hf.gas
      have hdp := hf.deep
      obtain ⟨k0, k1, k2, k3, k4, k5, k6, k7⟩ := hB.cells8
      clear hre hf hB hc k0 k1 k2 k3 her0 hkl
      have hw1 : IntKind.i64.wrap (gas - r.gas) = gas - r.gas := IntWalk.i64_in _ (by omega)
      by_cases he : r.err = 0
      · by_cases hn : r.stack = []
        · have Hlv := Lib.hid (show lastV r = 0 by unfold lastV; rw [if_neg (by simp [hn])])
          have hl0 : r.stack.length = 0 := by simp [hn]
          rw [hl0] at k4
          rw [he] at k7
          have He := Lib.hid he
          clear hn hl0 hs he
          go_wp2_with fail
          go_quiet (fail)
          go_wp2_with fail
          go_ret3
          exact .mk Hlv.out.symm rfl He.out.symm (her.drewN _)
        · have hpos : 0 < r.stack.length := List.length_pos_iff.2 hn
          have Hlv := Lib.hid (show lastV r = r.stack.getD (r.stack.length - 1) 0 by unfold lastV; rw [if_pos ⟨he, hn⟩])
          obtain ⟨b, o, rfl, hb, hcell⟩ := hs.nums.at_ (r.stack.length - 1) (by omega)
          rw [he] at k7
          have He := Lib.hid he
          clear hn hs he
          generalize r.stack.getD (r.stack.length - 1) 0 = v at *
          obtain ⟨q, hq⟩ : ∃ q, r.stack.length = q + 1 := ⟨r.stack.length - 1, by omega⟩
          rw [hq] at k4 hcell hdp
          have Hq := Lib.hid hq
          clear hq hpos
          simp only [Nat.add_sub_cancel] at hcell
          go_wp2_with fail
          go_quiet (fail)
          go_wp2_with fail
          go_ret3
          exact .mk Hlv.out.symm rfl He.out.symm (her.drewN _)
      · have Hlv := Lib.hid (show lastV r = 0 by unfold lastV; rw [if_neg (by simp [he])])
        have hen : (r.err == 0) = false := by simp [he]
        clear he hs
        go_wp2_with fail
        go_quiet (fail)
        go_wp2_with fail
        go_ret3
        exact .mk Hlv.out.symm rfl rfl (her.drewN _)
theorem rrun_any (A : Option Addr) (n c : Nat) (bs : List Nat) (arg data gas : Int) (w : World) (hz : Bytes w A n bs) (hb : ∀ x ∈ bs, x < 256) (ha : I64 arg) (hd : I64 data) :
    Calls Try.prog 17 #[.slice A n c, .int .i64 arg, .int .i64 data, .int .i64 gas] w fun e w' => RunSays w (vrun bs arg data gas) e w' := by
  unfold vrun
  by_cases hbad : 64 < bs.length ∨ gas < 0 ∨ 200 < gas
  · rw [if_pos hbad]
    exact rrun_bad A n c arg data gas w (by rw [hz.len] at hbad; exact hbad)
  · rw [if_neg hbad]
    rw [hz.len] at hbad
    exact rrun_good A n c bs arg data gas w hz hb ha hd (by omega) (by omega)
end Go.Proofs.Ytlahecofjlaojaa
