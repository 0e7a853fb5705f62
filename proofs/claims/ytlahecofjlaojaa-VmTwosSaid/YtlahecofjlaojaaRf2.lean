/- The document's machine: number, fail, New. -/
import Derived.Test.YtlahecofjlaojaaRf1
import Derived.IntWalk
namespace Go.Proofs.Ytlahecofjlaojaa
set_option linter.unusedVariables false
open Go.RowKit

theorem rmach_size : (Try.prog.info? 37).map (·.size) = some 8 := by kernel_rfl
theorem rmach_ne8 : 37 ≠ 5 := by decide
theorem rmach_neI : 37 ≠ 3 := by decide
set_option maxHeartbeats 1000000 in
theorem rnumber_any (A : Option Addr) (n c : Nat) (bs : List Nat) (w : World) (hz : Bytes w A n bs) (h8 : 8 ≤ n) (hn : n ≤ 1000000) (hb : ∀ x ∈ bs, x < 256) :
    Calls Try.prog 30 #[.slice A n c] w fun e w' => e = .returned (.int .i64 (num8 (bs.take 8))) ∧ w' = w := by
  have hlen := hz.len
  have hfl : ∀ k, k ≤ 8 → foldN (bs.take k) < 256 ^ k := fun k hk => foldN_lt bs hb k (by omega)
  have hfs : ∀ k, k < 8 → foldN (bs.take (k + 1)) = foldN (bs.take k) * 256 + bs.getD k 0 := fun k hk => foldN_succ bs k (by omega)
  have hnum : num8 (bs.take 8) = wrap64 ((foldN (bs.take 8) : Nat) : Int) := rfl
  rw [hnum]
  have Hl := Lib.hid hlen
  clear hlen
  go_enter Try.func30, Try.ntmps30
  go_wp2_with fail
  go_loopw [3, 4] (fun s i wr => ∃ k : Nat, k ≤ 8 ∧ i = .int .i64 k ∧ s = .int .u64 (foldN (bs.take k) : Int) ∧ w = wr) (fun _ i _ => 8 - (intOf i).toNat)
  case atStart => exact ⟨0, by omega, rfl, rfl, rfl⟩
  case round =>
    obtain ⟨k, hk, rfl, rfl, rfl⟩ := hrel
    by_cases hk8 : k < 8
    · obtain ⟨b, o, rfl, hbl, hck⟩ := hz.at_ k (by omega)
      have hxk := getD_lt hb k
      have h1 := hfl k (by omega)
      have h2 := hfs k hk8
      have h3 : foldN (bs.take k) < 72057594037927936 := Nat.lt_of_lt_of_le h1 (by
        have : 256 ^ k ≤ 256 ^ 7 := Nat.pow_le_pow_right (by omega) (by omega)
        simpa using this)
      generalize foldN (bs.take k) = u at *
      generalize bs.getD k 0 = x at *
      have hkn : k < n := by omega
      go_wp2_with fail
      rw [or64_num u x h3 hxk]
      go_round
      case rel => exact ⟨k + 1, by omega, by go_num, by rw [h2], trivial⟩
      case measure => simp [intOf]; omega
    · have : k = 8 := by omega
      subst this
      clear hfs hfl hk hk8
      generalize hu : foldN (bs.take 8) = u at *
      have Hu := Lib.hid hu
      clear hu
      go_wp2_with fail
      go_ret
      exact ⟨by rw [Hu.out]; rfl, rfl⟩
/-- What a call that gives back a machine as it was handed in, but for some fields, says. -/
def GivesM (w : World) (cs : Array Value) (e : Ending) (w' : World) : Prop := e = .returned (.agg cs) ∧ Ext w w'
set_option maxHeartbeats 1000000 in
theorem rfail_any (m : Ms) (k : Int) (Ac : Option Addr) (nc cc : Nat) (As : Option Addr) (ns cs : Nat) (w : World) (hg : -9223372036854775807 ≤ m.gas ∧ m.gas ≤ 9223372036854775807) :
    Calls Try.prog 29 #[.agg (m.cells Ac nc cc As ns cs), .int .i64 k] w fun e w' => GivesM w ({ m with done := true, err := k, gas := m.gas - 1 }.cells Ac nc cc As ns cs) e w' := by
  obtain ⟨code, arg, data, at_, stack, gas, done, err⟩ := m
  obtain ⟨g1, g2⟩ := hg
  simp only at g1 g2
  unfold Ms.cells
  simp only
  go_enter Try.func29, Try.ntmps29
  have hB2 : ∀ o t, Blk ((w.alloc o).alloc (.cells #[.slice none 0 0, .int .i64 0, .int .i64 0, .int .i64 0, .slice none 0 0, .int .i64 0, .bool false, .int .i64 0] t)) (w.heap.size + 1) t #[.slice none 0 0, .int .i64 0, .int .i64 0, .int .i64 0, .slice none 0 0, .int .i64 0, .bool false, .int .i64 0] := by
    intro o t
    have := Blk.new (w.alloc o) t #[.slice none 0 0, .int .i64 0, .int .i64 0, .int .i64 0, .slice none 0 0, .int .i64 0, .bool false, .int .i64 0]
    simpa using this
  have hB := hB2 (.cells #[.slice Ac nc cc, .int .i64 arg, .int .i64 data, .int .i64 (at_ : Int), .slice As ns cs, .int .i64 (gas - 1), .bool true, .int .i64 k] 37) 37
  have hx : Ext w ((w.alloc (.cells #[.slice Ac nc cc, .int .i64 arg, .int .i64 data, .int .i64 (at_ : Int), .slice As ns cs, .int .i64 (gas - 1), .bool true, .int .i64 k] 37)).alloc (.cells #[.slice none 0 0, .int .i64 0, .int .i64 0, .int .i64 0, .slice none 0 0, .int .i64 0, .bool false, .int .i64 0] 37)) := ((Ext.refl w).alloc _).alloc _
  clear hB2
  go_wp2_with ((refine wpList_store_blk rfl 37 (.tmp 4) (.tmp 12) rfl hB rfl rfl rfl rmach_size rfl ?_; intro w5 hB6 hM6))
  obtain ⟨k0, k1, k2, k3, k4, k5, k6, k7⟩ := hB6.cells8
  have hx6 : Ext w w5 := hx.mut hM6 (by omega)
  exact bodyPost_ret (v := .agg #[.slice Ac nc cc, .int .i64 arg, .int .i64 data, .int .i64 (at_ : Int), .slice As ns cs, .int .i64 (gas - 1), .bool true, .int .i64 k]) (by simp [results, Try.results29, go_sem, k0, k1, k2, k3, k4, k5, k6, k7]) rfl ⟨rfl, hx6⟩

set_option maxHeartbeats 1000000 in
theorem rnew_any (A : Option Addr) (n c : Nat) (bs : List Nat) (arg data gas : Int) (w : World) (hz : Bytes w A n bs) (hn : n ≤ 1000000) :
    Calls Try.prog 25 #[.slice A n c, .int .i64 arg, .int .i64 data, .int .i64 gas] w fun e w' => ∃ Ac' cc', e = .returned (.agg ((Ms.mk bs arg data 0 [] gas false 0).cells Ac' n cc' none 0 0)) ∧ GB w' Ac' n cc' bs ∧ Ext w w' := by
  unfold Ms.cells
  simp only
  obtain ⟨v, hv⟩ : ∃ v, v = Value.slice A n c := ⟨_, rfl⟩
  rw [← hv]
  have HV := Lib.hid hv
  clear hv
  go_enter Try.func25, Try.ntmps25
  have m1 : n ≤ maxLen := by unfold maxLen; omega
  have m2 : n * 1 ≤ 140737488355328 := by omega
  have hz1 := hz.ext ((Ext.refl w).alloc (.cells #[.slice none 0 0, .int .i64 0, .int .i64 0, .int .i64 0, .slice none 0 0, .int .i64 0, .bool false, .int .i64 0] 37))
  have hBn := Blk.new w 37 #[.slice none 0 0, .int .i64 0, .int .i64 0, .int .i64 0, .slice none 0 0, .int .i64 0, .bool false, .int .i64 0]
  go_wp2_with (refine wpList_append_new rfl (.tmp 9) (.tmp 10) _ rfl w.heap.size byte_elem rfl HV.out (hz1.ext ((Ext.refl _).alloc _)).rs (bvals_one _) m1 m2 ?_ ?_)
  · simp
    omega
  intro A2 c2 w2 ho2 hx2
  replace hx2 := ((Ext.refl _).alloc _).trans hx2
  have hB2 := hBn.ext hx2
  have hg2 := GB.own ho2
  clear hBn
  go_wp2_with ((refine wpList_store_blk rfl 37 (.tmp 8) (.tmp 15) rfl hB2 rfl rfl rfl rmach_size rfl ?_; intro w5 hB6 hM6))
  have hg6 := hg2.mut hB2 rmach_ne8 hM6
  obtain ⟨k0, k1, k2, k3, k4, k5, k6, k7⟩ := hB6.cells8
  have hx6 : Ext w w5 := (((Ext.refl w).alloc _).trans hx2).mut hM6 (Nat.le_refl _)
  exact bodyPost_ret (v := .agg #[.slice A2 n c2, .int .i64 arg, .int .i64 data, .int .i64 0, .slice none 0 0, .int .i64 gas, .bool false, .int .i64 0]) (by simp [results, Try.results25, go_sem, k0, k1, k2, k3, k4, k5, k6, k7]) rfl ⟨A2, c2, rfl, hg6, hx6⟩
end Go.Proofs.Ytlahecofjlaojaa
