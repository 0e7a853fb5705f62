/- The machine: a step at the code's end, or at a stop. -/
import Derived.Test.YtlahecofjlaojaaVm8
namespace Go.Proofs.Ytlahecofjlaojaa
set_option linter.unusedVariables false
open Go.RowKit

set_option maxRecDepth 100000 in
set_option maxHeartbeats 1000000 in
theorem vstep_end (m : Ms) (Ac : Option Addr) (nc cc : Nat) (As : Option Addr) (ns cs : Nat) (w : World) (hc : Bytes w Ac nc m.code) (hs : Nums .i64 w As ns m.stack) (hk : m.Ok) (hd : m.done = false) (hg : ¬ m.gas < 1) (hgm : m.gas ≤ 9223372036854775807) (hat : m.at_ = m.code.length) :
    Calls Try.prog 19 #[.agg (m.cells Ac nc cc As ns cs)] w fun e w' => Gives w (stepV m) e w' := by
  have hlc := hc.len
  have hls := hs.1
  have he : stepV m = overV { m with gas := m.gas - 1 } 0 := by unfold stepV; rw [if_neg (by simp [hd]), if_neg hg]; simp only; rw [if_neg (by omega), if_pos (.inl hat)]
  rw [he]
  obtain ⟨code, arg, data, at_, stack, gas, done, err⟩ := m
  simp only at hd hg hgm hat hlc hls hc hs
  subst hd
  have hover := fun w h1 h2 => vover_any ⟨code, arg, data, at_, stack, gas - 1, false, err⟩ 0 Ac nc cc As ns cs w h1 h2 (by have := hk.len; simp only at this; omega) (by have := hk.deep; simp only at this; omega)
  obtain rfl : nc = at_ := by omega
  clear hat he
  unfold Gives overV
  unfold Ms.cells at hover ⊢
  simp only at hover ⊢
  go_enter Try.func19, Try.ntmps19
  go_upto_region 6 with fail
  go_upto_region 8 with fail
  go_wp2_with fail
  have hx1 : Ext w ((w.alloc (.cells #[.slice Ac nc cc, .int .i64 arg, .int .i64 data, .int .i64 (nc : Int), .slice As ns cs, .int .i64 (gas - 1), .bool false, .int .i64 err] 34)).alloc (.cells #[.slice none 0 0, .int .i64 0, .int .i64 0, .int .i64 0, .slice none 0 0, .int .i64 0, .bool false, .int .i64 0] 34)) := ((Ext.refl w).alloc _).alloc _
  have hB2 : Blk ((w.alloc (.cells #[.slice Ac nc cc, .int .i64 arg, .int .i64 data, .int .i64 (nc : Int), .slice As ns cs, .int .i64 (gas - 1), .bool false, .int .i64 err] 34)).alloc (.cells #[.slice none 0 0, .int .i64 0, .int .i64 0, .int .i64 0, .slice none 0 0, .int .i64 0, .bool false, .int .i64 0] 34)) (w.heap.size + 1) 34 #[.slice none 0 0, .int .i64 0, .int .i64 0, .int .i64 0, .slice none 0 0, .int .i64 0, .bool false, .int .i64 0] := by
    have := Blk.new (w.alloc (.cells #[.slice Ac nc cc, .int .i64 arg, .int .i64 data, .int .i64 (nc : Int), .slice As ns cs, .int .i64 (gas - 1), .bool false, .int .i64 err] 34)) 34 #[.slice none 0 0, .int .i64 0, .int .i64 0, .int .i64 0, .slice none 0 0, .int .i64 0, .bool false, .int .i64 0]
    simpa using this
  refine (hover _ (hc.ext hx1) (hs.ext hx1)).mono ?_
  rintro e3 w3 ⟨A3, c3, S3, rfl, hg3, ho3, hx3⟩
  have hB3 := hB2.ext hx3
  have ho3' := ho3.mono (B' := w.heap.size) hx1.le
  have hx13 := hx1.trans hx3
  clear hover hB2 ho3
  go_wp2_with ((refine wpList_store_blk rfl 34 (.tmp 2) (.tmp 49) rfl hB3 rfl rfl rfl mach_size rfl ?_; intro w5 hB6 hM6))
  have hg6 := hg3.mut hB3 mach_ne8 hM6
  have ho6 := ho3'.mut hB3 mach_neI hM6
  obtain ⟨k0, k1, k2, k3, k4, k5, k6, k7⟩ := hB6.cells8
  have hx6 : Ext w w5 := hx13.mut hM6 (by omega)
  subst hlc
  subst hls
  exact bodyPost_ret (v := .agg #[.slice A3 code.length c3, .int .i64 arg, .int .i64 data, .int .i64 (code.length : Int), .slice S3 stack.length stack.length, .int .i64 (gas - 1), .bool true, .int .i64 0]) (by simp [results, Try.results19, go_sem, k0, k1, k2, k3, k4, k5, k6, k7]) rfl ⟨A3, c3, S3, _, rfl, hg6, ho6, hx6⟩
set_option maxRecDepth 100000 in
set_option maxHeartbeats 1000000 in
theorem vstep_zero (m : Ms) (Ac : Option Addr) (nc cc : Nat) (As : Option Addr) (ns cs : Nat) (w : World) (hc : Bytes w Ac nc m.code) (hs : Nums .i64 w As ns m.stack) (hk : m.Ok) (hd : m.done = false) (hg : ¬ m.gas < 1) (hgm : m.gas ≤ 9223372036854775807) (hat : m.at_ < m.code.length) (hz : m.code.getD m.at_ 0 = 0) :
    Calls Try.prog 19 #[.agg (m.cells Ac nc cc As ns cs)] w fun e w' => Gives w (stepV m) e w' := by
  have hlc := hc.len
  have hls := hs.1
  have he : stepV m = overV { m with gas := m.gas - 1 } 0 := by unfold stepV; rw [if_neg (by simp [hd]), if_neg hg]; simp only; rw [if_neg (by omega), if_pos (.inr hz)]
  rw [he]
  obtain ⟨code, arg, data, at_, stack, gas, done, err⟩ := m
  simp only at hd hg hgm hat hz hlc hls hc hs
  subst hd
  have hover := fun w h1 h2 => vover_any ⟨code, arg, data, at_, stack, gas - 1, false, err⟩ 0 Ac nc cc As ns cs w h1 h2 (by have := hk.len; simp only at this; omega) (by have := hk.deep; simp only at this; omega)
  obtain ⟨b, o, rfl, hb, hcell⟩ := hc.at_ at_ (by omega)
  rw [hz] at hcell
  have hati : (at_ : Int) < (nc : Int) := by omega
  have hatd : decide (nc < at_) = false := by simp; omega
  have hat0 : (0 : Int) ≤ (at_ : Int) := by omega
  have hate : ((at_ : Int) == (nc : Int)) = false := by simp; omega
  clear hat he hz
  unfold Gives overV
  unfold Ms.cells at hover ⊢
  simp only at hover ⊢
  go_enter Try.func19, Try.ntmps19
  go_upto_region 6 with fail
  go_upto_region 8 with fail
  go_wp2_with fail
  have hx1 : Ext w ((w.alloc (.cells #[.slice (some ⟨b, o, none⟩) nc cc, .int .i64 arg, .int .i64 data, .int .i64 (at_ : Int), .slice As ns cs, .int .i64 (gas - 1), .bool false, .int .i64 err] 34)).alloc (.cells #[.slice none 0 0, .int .i64 0, .int .i64 0, .int .i64 0, .slice none 0 0, .int .i64 0, .bool false, .int .i64 0] 34)) := ((Ext.refl w).alloc _).alloc _
  have hB2 : Blk ((w.alloc (.cells #[.slice (some ⟨b, o, none⟩) nc cc, .int .i64 arg, .int .i64 data, .int .i64 (at_ : Int), .slice As ns cs, .int .i64 (gas - 1), .bool false, .int .i64 err] 34)).alloc (.cells #[.slice none 0 0, .int .i64 0, .int .i64 0, .int .i64 0, .slice none 0 0, .int .i64 0, .bool false, .int .i64 0] 34)) (w.heap.size + 1) 34 #[.slice none 0 0, .int .i64 0, .int .i64 0, .int .i64 0, .slice none 0 0, .int .i64 0, .bool false, .int .i64 0] := by
    have := Blk.new (w.alloc (.cells #[.slice (some ⟨b, o, none⟩) nc cc, .int .i64 arg, .int .i64 data, .int .i64 (at_ : Int), .slice As ns cs, .int .i64 (gas - 1), .bool false, .int .i64 err] 34)) 34 #[.slice none 0 0, .int .i64 0, .int .i64 0, .int .i64 0, .slice none 0 0, .int .i64 0, .bool false, .int .i64 0]
    simpa using this
  refine (hover _ (hc.ext hx1) (hs.ext hx1)).mono ?_
  rintro e3 w3 ⟨A3, c3, S3, rfl, hg3, ho3, hx3⟩
  have hB3 := hB2.ext hx3
  have ho3' := ho3.mono (B' := w.heap.size) hx1.le
  have hx13 := hx1.trans hx3
  clear hover hB2 ho3
  go_wp2_with ((refine wpList_store_blk rfl 34 (.tmp 2) (.tmp 49) rfl hB3 rfl rfl rfl mach_size rfl ?_; intro w5 hB6 hM6))
  have hg6 := hg3.mut hB3 mach_ne8 hM6
  have ho6 := ho3'.mut hB3 mach_neI hM6
  obtain ⟨k0, k1, k2, k3, k4, k5, k6, k7⟩ := hB6.cells8
  have hx6 : Ext w w5 := hx13.mut hM6 (by omega)
  subst hlc
  subst hls
  exact bodyPost_ret (v := .agg #[.slice A3 code.length c3, .int .i64 arg, .int .i64 data, .int .i64 (at_ : Int), .slice S3 stack.length stack.length, .int .i64 (gas - 1), .bool true, .int .i64 0]) (by simp [results, Try.results19, go_sem, k0, k1, k2, k3, k4, k5, k6, k7]) rfl ⟨A3, c3, S3, _, rfl, hg6, ho6, hx6⟩

end Go.Proofs.Ytlahecofjlaojaa
