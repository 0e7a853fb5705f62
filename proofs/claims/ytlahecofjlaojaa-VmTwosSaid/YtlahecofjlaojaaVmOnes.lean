/- VmOnes: the walk. -/
import Derived.Test.YtlahecofjlaojaaVmGas
namespace Go.Proofs.Ytlahecofjlaojaa
set_option linter.unusedVariables false
open Go.RowKit

theorem one_fit (op : Nat) (hop : op < 256) (a : Int) (ha : I64 a) : (mk [op] 0 0 0 [a] 1).Fit :=
  ⟨⟨by intro x hx; simp [mk] at hx; omega, by simp [mk], by simp [mk], by simp [mk], by intro x hx; simp [mk] at hx; subst hx; exact ha, by simp [mk], by simp [mk]⟩, by simp [mk], by simp [mk], by simp [mk]⟩
theorem step_14 (a : Int) : stepV (mk [14] 0 0 0 [a] 1) = mk [14] 0 0 1 [i32V a] 0 := step_do (by omega) (by decide) rfl (by decide) _ rfl
theorem step_15 (a : Int) : stepV (mk [15] 0 0 0 [a] 1) = mk [15] 0 0 1 [u8V a] 0 := step_do (by omega) (by decide) rfl (by decide) _ rfl
theorem lit_bytes (w : World) (cs : Array Value) (l : List Nat) (h : cs.toList = bvals l) {n : Nat} (hn : l.length = n) : Bytes (w.alloc (.cells cs 5)) (some ⟨w.heap.size, 0, none⟩) n l := by
  subst hn
  exact .of (lit_rs w cs l h) rfl
theorem and255 (a : Int) : bits .and .i64 a 255 = a % 256 := by
  unfold bits
  simp only [BitVec.toNat_and, BitVec.toNat_ofInt]
  have e : ((255 : Int) % ((2 ^ IntKind.i64.bits : Nat) : Int)).toNat = 255 := by decide
  rw [e, nat_mask8, IntKind.wrap_i64]
  have e2 : ((2 ^ IntKind.i64.bits : Nat) : Int) = 18446744073709551616 := by decide
  rw [e2]
  omega
set_option maxRecDepth 100000 in
set_option maxHeartbeats 1000000 in
theorem ones_walk (a : Int) (w : World) (ha : I64 a) :
    Calls Try.prog 5 #[.int .i64 a] w fun e w' => e = .returned (.bool true) ∧ Ext w w' := by
  have hs := fun (W : World) => vstep_any (mk [14] 0 0 0 [a] 1) (some ⟨W.heap.size, 0, none⟩) 1 1 (some ⟨W.heap.size + 1, 0, none⟩) 1 1 ((W.alloc (.cells #[.int .u8 14] 5)).alloc (.cells #[.int .i64 a] 3))
    ((lit_bytes W _ [14] rfl rfl).ext ((Ext.refl _).alloc _)) (show Nums .i64 _ (some ⟨W.heap.size + 1, 0, none⟩) 1 [a] by have := one_num (W.alloc (.cells #[.int .u8 14] 5)) a; simpa using this) (one_fit 14 (by omega) a ha)
  rw [step_14] at hs
  have hs5 := fun (W : World) => vstep_any (mk [15] 0 0 0 [a] 1) (some ⟨W.heap.size, 0, none⟩) 1 1 (some ⟨W.heap.size + 1, 0, none⟩) 1 1 ((W.alloc (.cells #[.int .u8 15] 5)).alloc (.cells #[.int .i64 a] 3))
    ((lit_bytes W _ [15] rfl rfl).ext ((Ext.refl _).alloc _)) (show Nums .i64 _ (some ⟨W.heap.size + 1, 0, none⟩) 1 [a] by have := one_num (W.alloc (.cells #[.int .u8 15] 5)) a; simpa using this) (one_fit 15 (by omega) a ha)
  rw [step_15] at hs5
  unfold mk Ms.cells at hs hs5
  simp only at hs hs5
  go_enter Try.func5, Try.ntmps5
  go_wp2_with fail
  refine (known6 w).mono ?_
  rintro e w1 ⟨rfl, hx1⟩
  go_wp2_with fail
  refine (hs w1).mono ?_
  intro e w2 h2
  obtain ⟨A2, c2, S2, d2, rfl, hg2, ho2, hx2⟩ := h2
  have hx12 : Ext w w2 := hx1.trans ((((Ext.refl w1).alloc _).alloc _).trans hx2)
  unfold Ms.cells
  simp only
  have hBn := Blk.new w2 34 #[.slice none 0 0, .int .i64 0, .int .i64 0, .int .i64 0, .slice none 0 0, .int .i64 0, .bool false, .int .i64 0]
  clear hs
  go_wp2_with ((refine wpList_store_blk rfl 34 (.tmp 3) (.tmp 11) rfl hBn rfl rfl rfl mach_size rfl ?_; intro w3 hB3 hM3))
  have hgi3 : GI w3 S2 1 d2 [i32V a] := ((GI.own ho2).ext ((Ext.refl w2).alloc _)).mut hBn mach_neI hM3
  have hx3 : Ext w w3 := (hx12.trans ((Ext.refl w2).alloc _)).mut hM3 hx12.le
  clear hg2 ho2 hBn hM3 hx12 hx2 hx1
  go_wp2_with fail
  refine (hs5 w3).mono ?_
  intro e w4 h4
  obtain ⟨A4, c4, S4, d4, rfl, hg4, ho4, hx4⟩ := h4
  have hx34 : Ext w3 w4 := (((Ext.refl w3).alloc _).alloc _).trans hx4
  unfold Ms.cells
  simp only
  have hBn := Blk.new w4 34 #[.slice none 0 0, .int .i64 0, .int .i64 0, .int .i64 0, .slice none 0 0, .int .i64 0, .bool false, .int .i64 0]
  clear hs5
  go_upto_region 5 with ((refine wpList_store_blk rfl 34 (.tmp 4) (.tmp 16) rfl hBn rfl rfl rfl mach_size rfl ?_; intro w5 hB5 hM5))
  have hgi5 : GI w5 S4 1 d4 [u8V a] := ((GI.own ho4).ext ((Ext.refl w4).alloc _)).mut hBn mach_neI hM5
  have hx35 : Ext w3 w5 := (hx34.trans ((Ext.refl w4).alloc _)).mut hM5 hx34.le
  have hB3' := hB3.ext hx35
  have hgi3' := hgi3.ext hx35
  obtain ⟨b, o, rfl, hb, hcell⟩ := hgi3'.nums.at_ 0 (by decide)
  obtain ⟨b2, o2, rfl, hb2, hcell2⟩ := hgi5.nums.at_ 0 (by decide)
  have k4 : w5.cell? ⟨w2.heap.size, 4, none⟩ = some (.slice (some ⟨b, o, none⟩) 1 d2) := hB3'.cell 4
  have j4 : w5.cell? ⟨w4.heap.size, 4, none⟩ = some (.slice (some ⟨b2, o2, none⟩) 1 d4) := hB5.cell 4
  have c1 : w5.cell? ⟨b, o, none⟩ = some (.int .i64 (i32V a)) := hcell
  have c2 : w5.cell? ⟨b2, o2, none⟩ = some (.int .i64 (u8V a)) := hcell2
  have H255 := Lib.hid (and255 a)
  have hxf : Ext w w5 := hx3.trans hx35
  clear hcell hcell2 hgi3 hgi3' hgi5 hB3 hB3' hB5 ho4 hg4 hM5 hBn hx4
  go_wp2_with fail
  go_ret
  exact ⟨by rw [H255.out]; simp [u8V], hxf⟩
end Go.Proofs.Ytlahecofjlaojaa
