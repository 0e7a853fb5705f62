/- Machines as the document's; are two the same? -/
import Derived.Test.YtlahecofjlaojaaRf2
import Derived.Test.YtlahecofjlaojaaStrs
namespace Go.Proofs.Ytlahecofjlaojaa
set_option linter.unusedVariables false
open Go.RowKit

set_option maxHeartbeats 1000000 in
theorem toref_any (m : Ms) (Ac : Option Addr) (nc cc : Nat) (As : Option Addr) (ns cs : Nat) (w : World) :
    Calls Try.prog 22 #[.agg (m.cells Ac nc cc As ns cs)] w fun e w' => GivesM w (m.cells Ac nc cc As ns cs) e w' := by
  obtain ⟨code, arg, data, at_, stack, gas, done, err⟩ := m
  unfold Ms.cells
  simp only
  go_enter Try.func22, Try.ntmps22
  go_upto_region 1 with fail
  have hB1 := (Blk.new w 34 #[.slice Ac nc cc, .int .i64 arg, .int .i64 data, .int .i64 (at_ : Int), .slice As ns cs, .int .i64 gas, .bool done, .int .i64 err]).ext ((Ext.refl _).alloc (.cells #[.slice none 0 0, .int .i64 0, .int .i64 0, .int .i64 0, .slice none 0 0, .int .i64 0, .bool false, .int .i64 0] 37))
  have hB2 : Blk ((w.alloc (.cells #[.slice Ac nc cc, .int .i64 arg, .int .i64 data, .int .i64 (at_ : Int), .slice As ns cs, .int .i64 gas, .bool done, .int .i64 err] 34)).alloc (.cells #[.slice none 0 0, .int .i64 0, .int .i64 0, .int .i64 0, .slice none 0 0, .int .i64 0, .bool false, .int .i64 0] 37)) (w.heap.size + 1) 37 #[.slice none 0 0, .int .i64 0, .int .i64 0, .int .i64 0, .slice none 0 0, .int .i64 0, .bool false, .int .i64 0] := by
    have := Blk.new (w.alloc (.cells #[.slice Ac nc cc, .int .i64 arg, .int .i64 data, .int .i64 (at_ : Int), .slice As ns cs, .int .i64 gas, .bool done, .int .i64 err] 34)) 37 #[.slice none 0 0, .int .i64 0, .int .i64 0, .int .i64 0, .slice none 0 0, .int .i64 0, .bool false, .int .i64 0]
    simpa using this
  have hx : Ext w ((w.alloc (.cells #[.slice Ac nc cc, .int .i64 arg, .int .i64 data, .int .i64 (at_ : Int), .slice As ns cs, .int .i64 gas, .bool done, .int .i64 err] 34)).alloc (.cells #[.slice none 0 0, .int .i64 0, .int .i64 0, .int .i64 0, .slice none 0 0, .int .i64 0, .bool false, .int .i64 0] 37)) := ((Ext.refl w).alloc _).alloc _
  generalize (w.alloc (.cells #[.slice Ac nc cc, .int .i64 arg, .int .i64 data, .int .i64 (at_ : Int), .slice As ns cs, .int .i64 gas, .bool done, .int .i64 err] 34)).alloc (.cells #[.slice none 0 0, .int .i64 0, .int .i64 0, .int .i64 0, .slice none 0 0, .int .i64 0, .bool false, .int .i64 0] 37) = w1 at *
  obtain ⟨k0, k1, k2, k3, k4, k5, k6, k7⟩ := hB1.cells8
  go_wp2_with ((refine wpList_store_blk rfl 37 (.tmp 2) (.tmp 19) rfl hB2 rfl rfl rfl rmach_size rfl ?_; intro w5 hB6 hM6))
  obtain ⟨j0, j1, j2, j3, j4, j5, j6, j7⟩ := hB6.cells8
  have hx6 : Ext w w5 := hx.mut hM6 (by omega)
  exact bodyPost_ret (v := .agg #[.slice Ac nc cc, .int .i64 arg, .int .i64 data, .int .i64 (at_ : Int), .slice As ns cs, .int .i64 gas, .bool done, .int .i64 err]) (by simp [results, Try.results22, go_sem, j0, j1, j2, j3, j4, j5, j6, j7]) rfl ⟨rfl, hx6⟩

set_option maxRecDepth 100000 in
set_option maxHeartbeats 2000000 in
theorem same_any (m : Ms) (A1 : Option Addr) (nc c1 : Nat) (S1 : Option Addr) (ns d1 : Nat) (A2 : Option Addr) (c2 : Nat) (S2 : Option Addr) (d2 : Nat) (w : World)
    (hc1 : Bytes w A1 nc m.code) (hc2 : Bytes w A2 nc m.code) (hs1 : Nums .i64 w S1 ns m.stack) (hs2 : Nums .i64 w S2 ns m.stack) (hb : ∀ x ∈ m.code, x < 256) (hn : ns ≤ 1000000) :
    Calls Try.prog 21 #[.agg (m.cells A1 nc c1 S1 ns d1), .agg (m.cells A2 nc c2 S2 ns d2)] w fun e w' => e = .returned (.bool true) ∧ Ext w w' := by
  obtain ⟨code, arg, data, at_, stack, gas, done, err⟩ := m
  unfold Ms.cells
  simp only at hc1 hc2 hs1 hs2 hb ⊢
  go_enter Try.func21, Try.ntmps21
  go_upto_region 1 with fail
  have hB1 := (Blk.new w 37 #[.slice A1 nc c1, .int .i64 arg, .int .i64 data, .int .i64 (at_ : Int), .slice S1 ns d1, .int .i64 gas, .bool done, .int .i64 err]).ext ((Ext.refl _).alloc (.cells #[.slice A2 nc c2, .int .i64 arg, .int .i64 data, .int .i64 (at_ : Int), .slice S2 ns d2, .int .i64 gas, .bool done, .int .i64 err] 37))
  have hB2 : Blk ((w.alloc (.cells #[.slice A1 nc c1, .int .i64 arg, .int .i64 data, .int .i64 (at_ : Int), .slice S1 ns d1, .int .i64 gas, .bool done, .int .i64 err] 37)).alloc (.cells #[.slice A2 nc c2, .int .i64 arg, .int .i64 data, .int .i64 (at_ : Int), .slice S2 ns d2, .int .i64 gas, .bool done, .int .i64 err] 37)) (w.heap.size + 1) 37 #[.slice A2 nc c2, .int .i64 arg, .int .i64 data, .int .i64 (at_ : Int), .slice S2 ns d2, .int .i64 gas, .bool done, .int .i64 err] := by
    have := Blk.new (w.alloc (.cells #[.slice A1 nc c1, .int .i64 arg, .int .i64 data, .int .i64 (at_ : Int), .slice S1 ns d1, .int .i64 gas, .bool done, .int .i64 err] 37)) 37 #[.slice A2 nc c2, .int .i64 arg, .int .i64 data, .int .i64 (at_ : Int), .slice S2 ns d2, .int .i64 gas, .bool done, .int .i64 err]
    simpa using this
  have hx : Ext w ((w.alloc (.cells #[.slice A1 nc c1, .int .i64 arg, .int .i64 data, .int .i64 (at_ : Int), .slice S1 ns d1, .int .i64 gas, .bool done, .int .i64 err] 37)).alloc (.cells #[.slice A2 nc c2, .int .i64 arg, .int .i64 data, .int .i64 (at_ : Int), .slice S2 ns d2, .int .i64 gas, .bool done, .int .i64 err] 37)) := ((Ext.refl w).alloc _).alloc _
  generalize (w.alloc (.cells #[.slice A1 nc c1, .int .i64 arg, .int .i64 data, .int .i64 (at_ : Int), .slice S1 ns d1, .int .i64 gas, .bool done, .int .i64 err] 37)).alloc (.cells #[.slice A2 nc c2, .int .i64 arg, .int .i64 data, .int .i64 (at_ : Int), .slice S2 ns d2, .int .i64 gas, .bool done, .int .i64 err] 37) = w1 at *
  obtain ⟨k0, k1, k2, k3, k4, k5, k6, k7⟩ := hB1.cells8
  obtain ⟨j0, j1, j2, j3, j4, j5, j6, j7⟩ := hB2.cells8
  have s1 := run_string A1 nc c1 code w1 (hc1.ext hx)
  have s2 := run_string A2 nc c2 code w1 (hc2.ext hx)
  have heq := strOf_lbeq hb hb
  rw [sameB_self] at heq
  go_wp2_with fail
  clear s1 s2 heq
  go_loopw [5] (fun i wr => ∃ k : Nat, k ≤ ns ∧ i = .int .i64 k ∧ Ext w1 wr) (fun i _ => ns - (intOf i).toNat)
  case atStart => exact ⟨0, by omega, rfl, Ext.refl _⟩
  case round =>
    obtain ⟨k, hk, rfl, her⟩ := hrel
    replace k4 := her.cell k4
    replace j4 := her.cell j4
    clear k0 k1 k2 k3 k5 k6 k7 j0 j1 j2 j3 j5 j6 j7
    by_cases hlt : k < ns
    · obtain ⟨b, o, rfl, hbb, hcell⟩ := (hs1.ext (hx.trans her)).at_ k hlt
      obtain ⟨b', o', rfl, hbb', hcell'⟩ := (hs2.ext (hx.trans her)).at_ k hlt
      have hki : (k : Int) < (ns : Int) := by omega
      generalize stack.getD k 0 = v at *
      go_wp2_with fail
      go_quiet (fail)
      rename_i nq
      have her2 := her.drewN nq
      go_wp2_with fail
      go_roundw
      case rel => exact ⟨k + 1, by omega, by go_num, her2⟩
      case measure => simp [intOf]; omega
    · have hkn : k = ns := by omega
      subst hkn
      go_wp2_with fail
      go_ret
      exact ⟨rfl, hx.trans her⟩
end Go.Proofs.Ytlahecofjlaojaa
