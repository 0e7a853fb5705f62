/- The machine: a step. -/
import Derived.Test.YtlahecofjlaojaaVm7
namespace Go.Proofs.Ytlahecofjlaojaa
set_option linter.unusedVariables false
open Go.RowKit

/-- What a call that gives a machine must say. -/
def Gives (w : World) (m : Ms) (e : Ending) (w' : World) : Prop :=
  ∃ Ac cc As cs, e = .returned (.agg (m.cells Ac m.code.length cc As m.stack.length cs)) ∧ GB w' Ac m.code.length cc m.code ∧ Own w' w.heap.size 3 1 As m.stack.length cs (ivals m.stack) ∧ Ext w w'

set_option maxRecDepth 100000 in
set_option maxHeartbeats 1000000 in
theorem vstep_done (m : Ms) (Ac : Option Addr) (nc cc : Nat) (As : Option Addr) (ns cs : Nat) (w : World) (hc : Bytes w Ac nc m.code) (hs : Nums .i64 w As ns m.stack) (hk : m.Ok) (hd : m.done = true) :
    Calls Try.prog 19 #[.agg (m.cells Ac nc cc As ns cs)] w fun e w' => Gives w (stepV m) e w' := by
  have hlc := hc.len
  have hls := hs.1
  have he : stepV m = m := by unfold stepV; rw [if_pos hd]
  rw [he]
  obtain ⟨code, arg, data, at_, stack, gas, done, err⟩ := m
  simp only at hd hlc hls hc hs
  subst hd
  have hown := fun w h1 h2 => vown_any ⟨code, arg, data, at_, stack, gas, true, err⟩ Ac nc cc As ns cs w h1 h2 (by have := hk.len; simp only at this; omega) (by have := hk.deep; simp only at this; omega)
  unfold Gives
  unfold Ms.cells at hown ⊢
  simp only at hown ⊢
  go_enter Try.func19, Try.ntmps19
  go_wp2_with fail
  have hx1 : Ext w ((w.alloc (.cells #[.slice Ac nc cc, .int .i64 arg, .int .i64 data, .int .i64 (at_ : Int), .slice As ns cs, .int .i64 gas, .bool true, .int .i64 err] 34)).alloc (.cells #[.slice none 0 0, .int .i64 0, .int .i64 0, .int .i64 0, .slice none 0 0, .int .i64 0, .bool false, .int .i64 0] 34)) := ((Ext.refl w).alloc _).alloc _
  have hB2 : Blk ((w.alloc (.cells #[.slice Ac nc cc, .int .i64 arg, .int .i64 data, .int .i64 (at_ : Int), .slice As ns cs, .int .i64 gas, .bool true, .int .i64 err] 34)).alloc (.cells #[.slice none 0 0, .int .i64 0, .int .i64 0, .int .i64 0, .slice none 0 0, .int .i64 0, .bool false, .int .i64 0] 34)) (w.heap.size + 1) 34 #[.slice none 0 0, .int .i64 0, .int .i64 0, .int .i64 0, .slice none 0 0, .int .i64 0, .bool false, .int .i64 0] := by
    have := Blk.new (w.alloc (.cells #[.slice Ac nc cc, .int .i64 arg, .int .i64 data, .int .i64 (at_ : Int), .slice As ns cs, .int .i64 gas, .bool true, .int .i64 err] 34)) 34 #[.slice none 0 0, .int .i64 0, .int .i64 0, .int .i64 0, .slice none 0 0, .int .i64 0, .bool false, .int .i64 0]
    simpa using this
  refine (hown _ (hc.ext hx1) (hs.ext hx1)).mono ?_
  rintro e3 w3 ⟨A3, c3, S3, rfl, hg3, ho3, hx3⟩
  have hB3 := hB2.ext hx3
  have ho3' := ho3.mono (B' := w.heap.size) hx1.le
  have hx13 := hx1.trans hx3
  clear hown hB2 ho3
  go_wp2_with ((refine wpList_store_blk rfl 34 (.tmp 2) (.tmp 8) rfl hB3 rfl rfl rfl mach_size rfl ?_; intro w5 hB6 hM6))
  have hg6 := hg3.mut hB3 mach_ne8 hM6
  have ho6 := ho3'.mut hB3 mach_neI hM6
  obtain ⟨k0, k1, k2, k3, k4, k5, k6, k7⟩ := hB6.cells8
  have hx6 : Ext w w5 := hx13.mut hM6 (by omega)
  subst hlc
  subst hls
  exact bodyPost_ret (v := .agg #[.slice A3 code.length c3, .int .i64 arg, .int .i64 data, .int .i64 (at_ : Int), .slice S3 stack.length stack.length, .int .i64 gas, .bool true, .int .i64 err]) (by simp [results, Try.results19, go_sem, k0, k1, k2, k3, k4, k5, k6, k7]) rfl ⟨A3, c3, S3, _, rfl, hg6, ho6, hx6⟩
set_option maxRecDepth 100000 in
set_option maxHeartbeats 1000000 in
theorem vstep_gas (m : Ms) (Ac : Option Addr) (nc cc : Nat) (As : Option Addr) (ns cs : Nat) (w : World) (hc : Bytes w Ac nc m.code) (hs : Nums .i64 w As ns m.stack) (hk : m.Ok) (hd : m.done = false) (hg : m.gas < 1) :
    Calls Try.prog 19 #[.agg (m.cells Ac nc cc As ns cs)] w fun e w' => Gives w (stepV m) e w' := by
  have hlc := hc.len
  have hls := hs.1
  have he : stepV m = overV m 14 := by unfold stepV; rw [if_neg (by simp [hd]), if_pos hg]
  rw [he]
  obtain ⟨code, arg, data, at_, stack, gas, done, err⟩ := m
  simp only at hd hg hlc hls hc hs
  subst hd
  have hown := fun w h1 h2 => vover_any ⟨code, arg, data, at_, stack, gas, false, err⟩ 14 Ac nc cc As ns cs w h1 h2 (by have := hk.len; simp only at this; omega) (by have := hk.deep; simp only at this; omega)
  unfold Gives overV
  unfold Ms.cells at hown ⊢
  simp only at hown ⊢
  go_enter Try.func19, Try.ntmps19
  go_wp2_with fail
  have hx1 : Ext w ((w.alloc (.cells #[.slice Ac nc cc, .int .i64 arg, .int .i64 data, .int .i64 (at_ : Int), .slice As ns cs, .int .i64 gas, .bool false, .int .i64 err] 34)).alloc (.cells #[.slice none 0 0, .int .i64 0, .int .i64 0, .int .i64 0, .slice none 0 0, .int .i64 0, .bool false, .int .i64 0] 34)) := ((Ext.refl w).alloc _).alloc _
  have hB2 : Blk ((w.alloc (.cells #[.slice Ac nc cc, .int .i64 arg, .int .i64 data, .int .i64 (at_ : Int), .slice As ns cs, .int .i64 gas, .bool false, .int .i64 err] 34)).alloc (.cells #[.slice none 0 0, .int .i64 0, .int .i64 0, .int .i64 0, .slice none 0 0, .int .i64 0, .bool false, .int .i64 0] 34)) (w.heap.size + 1) 34 #[.slice none 0 0, .int .i64 0, .int .i64 0, .int .i64 0, .slice none 0 0, .int .i64 0, .bool false, .int .i64 0] := by
    have := Blk.new (w.alloc (.cells #[.slice Ac nc cc, .int .i64 arg, .int .i64 data, .int .i64 (at_ : Int), .slice As ns cs, .int .i64 gas, .bool false, .int .i64 err] 34)) 34 #[.slice none 0 0, .int .i64 0, .int .i64 0, .int .i64 0, .slice none 0 0, .int .i64 0, .bool false, .int .i64 0]
    simpa using this
  refine (hown _ (hc.ext hx1) (hs.ext hx1)).mono ?_
  rintro e3 w3 ⟨A3, c3, S3, rfl, hg3, ho3, hx3⟩
  have hB3 := hB2.ext hx3
  have ho3' := ho3.mono (B' := w.heap.size) hx1.le
  have hx13 := hx1.trans hx3
  clear hown hB2 ho3
  go_wp2_with ((refine wpList_store_blk rfl 34 (.tmp 2) (.tmp 13) rfl hB3 rfl rfl rfl mach_size rfl ?_; intro w5 hB6 hM6))
  have hg6 := hg3.mut hB3 mach_ne8 hM6
  have ho6 := ho3'.mut hB3 mach_neI hM6
  obtain ⟨k0, k1, k2, k3, k4, k5, k6, k7⟩ := hB6.cells8
  have hx6 : Ext w w5 := hx13.mut hM6 (by omega)
  subst hlc
  subst hls
  exact bodyPost_ret (v := .agg #[.slice A3 code.length c3, .int .i64 arg, .int .i64 data, .int .i64 (at_ : Int), .slice S3 stack.length stack.length, .int .i64 gas, .bool true, .int .i64 14]) (by simp [results, Try.results19, go_sem, k0, k1, k2, k3, k4, k5, k6, k7]) rfl ⟨A3, c3, S3, _, rfl, hg6, ho6, hx6⟩
set_option maxRecDepth 100000 in
set_option maxHeartbeats 1000000 in
theorem vstep_past (m : Ms) (Ac : Option Addr) (nc cc : Nat) (As : Option Addr) (ns cs : Nat) (w : World) (hc : Bytes w Ac nc m.code) (hs : Nums .i64 w As ns m.stack) (hk : m.Ok) (hd : m.done = false) (hg : ¬ m.gas < 1) (hgm : m.gas ≤ 9223372036854775807) (hat : m.code.length < m.at_) :
    Calls Try.prog 19 #[.agg (m.cells Ac nc cc As ns cs)] w fun e w' => Gives w (stepV m) e w' := by
  have hlc := hc.len
  have hls := hs.1
  have he : stepV m = overV { m with gas := m.gas - 1 } 10 := by unfold stepV; rw [if_neg (by simp [hd]), if_neg hg]; simp only; rw [if_pos hat]
  rw [he]
  obtain ⟨code, arg, data, at_, stack, gas, done, err⟩ := m
  simp only at hd hg hgm hat hlc hls hc hs
  subst hd
  have hover := fun w h1 h2 => vover_any ⟨code, arg, data, at_, stack, gas - 1, false, err⟩ 10 Ac nc cc As ns cs w h1 h2 (by have := hk.len; simp only at this; omega) (by have := hk.deep; simp only at this; omega)
  have hati : (nc : Int) < (at_ : Int) := by omega
  have hatd : decide (nc < at_) = true := by simp; omega
  unfold Gives overV
  unfold Ms.cells at hover ⊢
  simp only at hover ⊢
  go_enter Try.func19, Try.ntmps19
  go_wp2_with fail
  have hx1 : Ext w ((w.alloc (.cells #[.slice Ac nc cc, .int .i64 arg, .int .i64 data, .int .i64 (at_ : Int), .slice As ns cs, .int .i64 (gas - 1), .bool false, .int .i64 err] 34)).alloc (.cells #[.slice none 0 0, .int .i64 0, .int .i64 0, .int .i64 0, .slice none 0 0, .int .i64 0, .bool false, .int .i64 0] 34)) := ((Ext.refl w).alloc _).alloc _
  have hB2 : Blk ((w.alloc (.cells #[.slice Ac nc cc, .int .i64 arg, .int .i64 data, .int .i64 (at_ : Int), .slice As ns cs, .int .i64 (gas - 1), .bool false, .int .i64 err] 34)).alloc (.cells #[.slice none 0 0, .int .i64 0, .int .i64 0, .int .i64 0, .slice none 0 0, .int .i64 0, .bool false, .int .i64 0] 34)) (w.heap.size + 1) 34 #[.slice none 0 0, .int .i64 0, .int .i64 0, .int .i64 0, .slice none 0 0, .int .i64 0, .bool false, .int .i64 0] := by
    have := Blk.new (w.alloc (.cells #[.slice Ac nc cc, .int .i64 arg, .int .i64 data, .int .i64 (at_ : Int), .slice As ns cs, .int .i64 (gas - 1), .bool false, .int .i64 err] 34)) 34 #[.slice none 0 0, .int .i64 0, .int .i64 0, .int .i64 0, .slice none 0 0, .int .i64 0, .bool false, .int .i64 0]
    simpa using this
  refine (hover _ (hc.ext hx1) (hs.ext hx1)).mono ?_
  rintro e3 w3 ⟨A3, c3, S3, rfl, hg3, ho3, hx3⟩
  have hB3 := hB2.ext hx3
  have ho3' := ho3.mono (B' := w.heap.size) hx1.le
  have hx13 := hx1.trans hx3
  clear hover hB2 ho3
  go_wp2_with ((refine wpList_store_blk rfl 34 (.tmp 2) (.tmp 31) rfl hB3 rfl rfl rfl mach_size rfl ?_; intro w5 hB6 hM6))
  have hg6 := hg3.mut hB3 mach_ne8 hM6
  have ho6 := ho3'.mut hB3 mach_neI hM6
  obtain ⟨k0, k1, k2, k3, k4, k5, k6, k7⟩ := hB6.cells8
  have hx6 : Ext w w5 := hx13.mut hM6 (by omega)
  subst hlc
  subst hls
  exact bodyPost_ret (v := .agg #[.slice A3 code.length c3, .int .i64 arg, .int .i64 data, .int .i64 (at_ : Int), .slice S3 stack.length stack.length, .int .i64 (gas - 1), .bool true, .int .i64 10]) (by simp [results, Try.results19, go_sem, k0, k1, k2, k3, k4, k5, k6, k7]) rfl ⟨A3, c3, S3, _, rfl, hg6, ho6, hx6⟩
end Go.Proofs.Ytlahecofjlaojaa
