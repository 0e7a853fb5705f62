/- The machine: a step that does a sign. -/
import Derived.Test.YtlahecofjlaojaaVm9
import Derived.Test.YtlahecofjlaojaaVmRun
namespace Go.Proofs.Ytlahecofjlaojaa
set_option linter.unusedVariables false
open Go.RowKit

theorem Gives.mk {w : World} {m : Ms} {w' : World} {Ac : Option Addr} {cc : Nat} {As : Option Addr} {cs : Nat} {v : Value} (hv : v = .agg (m.cells Ac m.code.length cc As m.stack.length cs)) (h1 : GB w' Ac m.code.length cc m.code)
    (h2 : Own w' w.heap.size 3 1 As m.stack.length cs (ivals m.stack)) (h3 : Ext w w') : Gives w m (.returned v) w' := ⟨Ac, cc, As, cs, by rw [hv], h1, h2, h3⟩
set_option maxRecDepth 100000 in
set_option maxHeartbeats 2000000 in
theorem vstep_do (m : Ms) (Ac : Option Addr) (nc cc : Nat) (As : Option Addr) (ns cs : Nat) (w : World) (hc : Bytes w Ac nc m.code) (hs : Nums .i64 w As ns m.stack) (hf : m.Fit) (hd : m.done = false) (hg : ¬ m.gas < 1) (hat : m.at_ < m.code.length) (hz : m.code.getD m.at_ 0 ≠ 0) :
    Calls Try.prog 19 #[.agg (m.cells Ac nc cc As ns cs)] w fun e w' => Gives w (stepV m) e w' := by
  have hk := hf.ok
  have hgm : m.gas ≤ 9223372036854775807 := by have := hf.gas; omega
  have hlc := hc.len
  have hls := hs.1
  have hft : (doV { m with at_ := m.at_ + 1, gas := m.gas - 1 } (m.code.getD m.at_ 0)).1 = 0 → (doV { m with at_ := m.at_ + 1, gas := m.gas - 1 } (m.code.getD m.at_ 0)).2.Fit := fun h0 =>
    (doV_fit (fit_turn (m := { m with gas := m.gas - 1 }) ⟨⟨hk.code, hk.len, hk.arg, hk.data, hk.stack, hk.deep, hk.at_⟩, hf.deep, hf.at_, by have := hf.gas; simp only; omega⟩ (m.at_ + 1) m.stack (by simp only; omega) hk.stack hf.deep) h0).1
  have hnc : m.code.length ≤ 1000 := hk.len
  have he : stepV m = (if (doV { m with at_ := m.at_ + 1, gas := m.gas - 1 } (m.code.getD m.at_ 0)).1 ≠ 0 then overV { m with gas := m.gas - 1 } (doV { m with at_ := m.at_ + 1, gas := m.gas - 1 } (m.code.getD m.at_ 0)).1 else (doV { m with at_ := m.at_ + 1, gas := m.gas - 1 } (m.code.getD m.at_ 0)).2) := by
    conv => lhs; unfold stepV
    rw [if_neg (by simp [hd]), if_neg hg]; simp only; rw [if_neg (by omega), if_neg (by omega)]
  rw [he]
  have h256 : m.code.getD m.at_ 0 < 256 := getD_lt hk.code _
  have hdo := fun w0 w g h => vdo_any w0 g { m with at_ := m.at_ + 1, gas := m.gas - 1 } (m.code.getD m.at_ 0) w h ⟨hk.code, hk.len, hk.arg, hk.data, hk.stack, hk.deep, by have := hk.len; simp only; omega⟩ h256 (by simp only; omega)
  obtain ⟨code, arg, data, at_, stack, gas, done, err⟩ := m
  simp only at hd hg hgm hat hz hlc hls hc hs hdo h256 he hft hnc ⊢
  subst hd
  obtain ⟨b, o, rfl, hb, hcell⟩ := hc.at_ at_ (by omega)
  have hati : (at_ : Int) < (nc : Int) := by omega
  have hatd : decide (nc < at_) = false := by simp; omega
  have hat0 : (0 : Int) ≤ (at_ : Int) := by omega
  have hate : ((at_ : Int) == (nc : Int)) = false := by simp; omega
  have hbz : (((code.getD at_ 0 : Nat) : Int) == 0) = false := by rw [beq_eq_false_iff_ne]; omega
  generalize code.getD at_ 0 = op at *
  have hown := fun w h1 h2 => vown_any ⟨code, arg, data, at_, stack, gas - 1, false, err⟩ (some ⟨b, o, none⟩) nc cc As ns cs w h1 h2 (by have := hk.len; simp only at this; omega) (by have := hk.deep; simp only at this; omega)
  have hover := fun e w h1 h2 => vover_any ⟨code, arg, data, at_, stack, gas - 1, false, err⟩ e (some ⟨b, o, none⟩) nc cc As ns cs w h1 h2 (by have := hk.len; simp only at this; omega) (by have := hk.deep; simp only at this; omega)
  obtain ⟨r, hr⟩ : ∃ r, r = doV ⟨code, arg, data, at_ + 1, stack, gas - 1, false, err⟩ op := ⟨_, rfl⟩
  rw [← hr] at hdo hft ⊢
  rw [hlc] at hnc
  have Hr := Lib.hid hr
  have Hft := Lib.hid hft
  obtain ⟨mr, hmr⟩ : ∃ mr, mr = (if r.1 ≠ 0 then overV ⟨code, arg, data, at_, stack, gas - 1, false, err⟩ r.1 else r.2) := ⟨_, rfl⟩
  rw [← hmr]
  have Hmr := Lib.hid hmr
  clear hmr
  clear hat he hr hz hft hf
  unfold Ms.cells at hown hover ⊢
  simp only at hown hover ⊢
  go_enter Try.func19, Try.ntmps19
  go_upto_region 6 with fail
  go_upto_region 8 with fail
  go_upto_region 10 with fail
  have hx1 : Ext w ((w.alloc (.cells #[.slice (some ⟨b, o, none⟩) nc cc, .int .i64 arg, .int .i64 data, .int .i64 (at_ : Int), .slice As ns cs, .int .i64 (gas - 1), .bool false, .int .i64 err] 34)).alloc (.cells #[.slice none 0 0, .int .i64 0, .int .i64 0, .int .i64 0, .slice none 0 0, .int .i64 0, .bool false, .int .i64 0] 34)) := ((Ext.refl w).alloc _).alloc _
  have hB1 : Blk ((w.alloc (.cells #[.slice (some ⟨b, o, none⟩) nc cc, .int .i64 arg, .int .i64 data, .int .i64 (at_ : Int), .slice As ns cs, .int .i64 (gas - 1), .bool false, .int .i64 err] 34)).alloc (.cells #[.slice none 0 0, .int .i64 0, .int .i64 0, .int .i64 0, .slice none 0 0, .int .i64 0, .bool false, .int .i64 0] 34)) w.heap.size 34 #[.slice (some ⟨b, o, none⟩) nc cc, .int .i64 arg, .int .i64 data, .int .i64 (at_ : Int), .slice As ns cs, .int .i64 (gas - 1), .bool false, .int .i64 err] := (Blk.new w _ _).ext ((Ext.refl _).alloc _)
  have hB2 : Blk ((w.alloc (.cells #[.slice (some ⟨b, o, none⟩) nc cc, .int .i64 arg, .int .i64 data, .int .i64 (at_ : Int), .slice As ns cs, .int .i64 (gas - 1), .bool false, .int .i64 err] 34)).alloc (.cells #[.slice none 0 0, .int .i64 0, .int .i64 0, .int .i64 0, .slice none 0 0, .int .i64 0, .bool false, .int .i64 0] 34)) (w.heap.size + 1) 34 #[.slice none 0 0, .int .i64 0, .int .i64 0, .int .i64 0, .slice none 0 0, .int .i64 0, .bool false, .int .i64 0] := by
    have := Blk.new (w.alloc (.cells #[.slice (some ⟨b, o, none⟩) nc cc, .int .i64 arg, .int .i64 data, .int .i64 (at_ : Int), .slice As ns cs, .int .i64 (gas - 1), .bool false, .int .i64 err] 34)) 34 #[.slice none 0 0, .int .i64 0, .int .i64 0, .int .i64 0, .slice none 0 0, .int .i64 0, .bool false, .int .i64 0]
    simpa using this
  generalize ((w.alloc (.cells #[.slice (some ⟨b, o, none⟩) nc cc, .int .i64 arg, .int .i64 data, .int .i64 (at_ : Int), .slice As ns cs, .int .i64 (gas - 1), .bool false, .int .i64 err] 34)).alloc (.cells #[.slice none 0 0, .int .i64 0, .int .i64 0, .int .i64 0, .slice none 0 0, .int .i64 0, .bool false, .int .i64 0] 34)) = w1 at *
  obtain ⟨k0, k1, k2, k3, k4, k5, k6, k7⟩ := hB1.cells8
  have hc1 := hc.ext hx1
  have hs1 := hs.ext hx1
  go_wp2_with fail
  refine (hown _ hc1 hs1).mono ?_
  rintro e3 w3 ⟨A3, c3, S3, rfl, hg3, ho3, hx3⟩
  have hBn := Blk.new w3 34 #[.slice none 0 0, .int .i64 0, .int .i64 0, .int .i64 0, .slice none 0 0, .int .i64 0, .bool false, .int .i64 0]
  clear k0 k1 k2 k3 k4 k5 k6 k7 hown
  go_upto_region 11 with ((refine wpList_store_blk rfl 34 (.tmp 3) (.tmp 51) rfl hBn rfl rfl rfl mach_size rfl ?_; intro w5 hB5 hM5))
  have k3 : w5.cell? ⟨w3.heap.size, 3, none⟩ = some (.int .i64 (at_ : Int)) := hB5.cell 3
  have f3 := hB5.frozen 3
  have hn : w1.heap.size ≤ w3.heap.size := hx3.le
  have hx5 : Ext w1 w5 := (hx3.trans ((Ext.refl w3).alloc _)).mut hM5 hn
  have hx6 : Ext w1 (w5.setCell ⟨w3.heap.size, 3, none⟩ (.int .i64 ((at_ : Int) + 1))) := hx5.mut ((Mut.refl w5 w3.heap.size).setCell 3 _) hn
  have hB6 := hB5.set_ 3 (.int .i64 ((at_ : Int) + 1))
  rw [set8_3] at hB6
  have hM56 : Mut w5 w3.heap.size (w5.setCell ⟨w3.heap.size, 3, none⟩ (.int .i64 ((at_ : Int) + 1))) := (Mut.refl w5 w3.heap.size).setCell 3 _
  have hg6 := ((hg3.ext ((Ext.refl w3).alloc _)).mut hBn mach_ne8 hM5).mut hB5 mach_ne8 hM56
  have ho6 := ((ho3.ext ((Ext.refl w3).alloc _)).mut hBn mach_neI hM5).mut hB5 mach_neI hM56
  have hN6 : NextAt w1 (w5.setCell ⟨w3.heap.size, 3, none⟩ (.int .i64 ((at_ : Int) + 1))) w3.heap.size ⟨code, arg, data, at_ + 1, stack, gas - 1, false, err⟩ :=
    ⟨hx6, hn, ⟨A3, c3, S3, ns, by unfold Ms.cells; simp only [hlc, hls]; exact hB6, by simp only [hlc]; exact hg6, by simp only [hls]; exact ho6⟩⟩
  clear hB6 hM56 hg6 ho6 hx5 hg3 ho3 hBn
  go_upto_region 12 with fail
  generalize w5.setCell ⟨w3.heap.size, 3, none⟩ (.int .i64 ((at_ : Int) + 1)) = w6 at *
  clear hB5 hM5 k3 f3
  have hB16 := hB1.ext hx6
  have j0 : w6.cell? ⟨w.heap.size, 0, none⟩ = some (.slice (some ⟨b, o, none⟩) nc cc) := hB16.cell 0
  have j3 : w6.cell? ⟨w.heap.size, 3, none⟩ = some (.int .i64 (at_ : Int)) := hB16.cell 3
  have jc := (hx1.trans hx6).cell hcell
  have hd6 := hdo w1 w6 w3.heap.size hN6
  clear hdo hN6 hB16
  go_wp2_with fail
  refine hd6.mono ?_
  intro e w7 h7
  obtain ⟨rfl, hx7, hN7⟩ : e = .returned (.int .i64 r.1) ∧ Ext w1 w7 ∧ (r.1 = 0 → NextAt w1 w7 w3.heap.size r.2) := h7
  go_upto_region 13 with fail
  have hx17 := hx7
  have hB17 := hB1.ext hx17
  have hB27 := hB2.ext hx17
  have hc7 := hc1.ext hx17
  have hs7 := hs1.ext hx17
  have hwx := hx1.trans hx17
  have Hx17 := Lib.hid hx17
  clear hB1 hB2 hc1 hs1 j0 j3 jc hcell hc hs hx3 hx6 hx1 hate hatd hbz hd6
  by_cases hr0 : r.1 = 0
  · have hN := hN7 hr0
    have hrf := Hft.out hr0
    have hmr : mr = r.2 := by rw [Hmr.out, if_neg (by simp [hr0])]
    subst hmr
    have hrn : (r.1 != 0) = false := by simp [hr0]
    obtain ⟨A8, c8, S8, d8, hB8, hg8, ho8⟩ := hN.raw
    have hgi := hN.hg
    have hown2 := vown_any r.2 A8 r.2.code.length c8 S8 r.2.stack.length d8 w7 hg8.2.2.1 ⟨rfl, ho8.rs⟩ (by have := hrf.ok.len; omega) (by have := hrf.deep; omega)
    unfold Ms.cells at hown2 hB8
    obtain ⟨k0, k1, k2, k3, k4, k5, k6, k7⟩ := hB8.cells8
    clear hN7 hrf hN hover hg8 ho8 hB8
    clear hr0 Hmr Hr Hft
    obtain ⟨e1, m2⟩ := r
    simp only at *
    go_upto_region 15 with fail
    go_wp2_with fail
    refine hown2.mono ?_
    rintro e ws ⟨A9, c9, S9, rfl, hg9, ho9, hx9⟩
    have hB29 := hB27.ext hx9
    clear hown2 k0 k1 k2 k3 k4 k5 k6 k7
    go_wp2_with ((refine wpList_store_blk rfl 34 (.tmp 2) (.tmp 69) rfl hB29 rfl rfl rfl mach_size rfl ?_; intro wz hBz hMz))
    have hgz := hg9.mut hB29 mach_ne8 hMz
    have hoz := (ho9.mut hB29 mach_neI hMz).mono (B' := w.heap.size) hwx.le
    have hxz : Ext w wz := (hwx.trans hx9).mut hMz (by omega)
    obtain ⟨k0, k1, k2, k3, k4, k5, k6, k7⟩ := hBz.cells8
    exact bodyPost_ret (v := .agg #[.slice A9 m2.code.length c9, .int .i64 m2.arg, .int .i64 m2.data, .int .i64 (m2.at_ : Int), .slice S9 m2.stack.length m2.stack.length, .int .i64 m2.gas, .bool m2.done, .int .i64 m2.err]) (by simp [results, Try.results19, go_sem, k0, k1, k2, k3, k4, k5, k6, k7]) rfl (Gives.mk rfl hgz hoz hxz)
  · have hmr : mr = overV ⟨code, arg, data, at_, stack, gas - 1, false, err⟩ r.1 := by rw [Hmr.out, if_pos hr0]
    subst hmr
    have hrn : (r.1 != 0) = true := by simp [hr0]
    have hov := hover r.1 w7 hc7 hs7
    obtain ⟨k0, k1, k2, k3, k4, k5, k6, k7⟩ := hB17.cells8
    clear hN7 hover hr0 Hmr Hr Hft
    obtain ⟨e1, m2⟩ := r
    simp only at *
    go_upto_region 14 with fail
    go_wp2_with fail
    refine hov.mono ?_
    rintro e ws ⟨A9, c9, S9, rfl, hg9, ho9, hx9⟩
    have hB29 := hB27.ext hx9
    clear hov k0 k1 k2 k3 k4 k5 k6 k7
    go_wp2_with ((refine wpList_store_blk rfl 34 (.tmp 2) (.tmp 67) rfl hB29 rfl rfl rfl mach_size rfl ?_; intro wz hBz hMz))
    have hgz := hg9.mut hB29 mach_ne8 hMz
    have hoz := (ho9.mut hB29 mach_neI hMz).mono (B' := w.heap.size) hwx.le
    have hxz : Ext w wz := (hwx.trans hx9).mut hMz (by omega)
    obtain ⟨k0, k1, k2, k3, k4, k5, k6, k7⟩ := hBz.cells8
    subst hlc
    subst hls
    exact bodyPost_ret (v := .agg #[.slice A9 code.length c9, .int .i64 arg, .int .i64 data, .int .i64 (at_ : Int), .slice S9 stack.length stack.length, .int .i64 (gas - 1), .bool true, .int .i64 e1]) (by simp [results, Try.results19, go_sem, k0, k1, k2, k3, k4, k5, k6, k7]) rfl (Gives.mk (m := overV ⟨code, arg, data, at_, stack, gas - 1, false, err⟩ e1) rfl hgz hoz hxz)

/-- A step of a machine on a run's way. -/
theorem vstep_any (m : Ms) (Ac : Option Addr) (nc cc : Nat) (As : Option Addr) (ns cs : Nat) (w : World) (hc : Bytes w Ac nc m.code) (hs : Nums .i64 w As ns m.stack) (hf : m.Fit) :
    Calls Try.prog 19 #[.agg (m.cells Ac nc cc As ns cs)] w fun e w' => Gives w (stepV m) e w' := by
  cases hd : m.done
  · have hgm : m.gas ≤ 9223372036854775807 := by have := hf.gas; omega
    by_cases hg : m.gas < 1
    · exact vstep_gas m Ac nc cc As ns cs w hc hs hf.ok hd hg
    have ha := hf.at_
    by_cases h1 : m.at_ = m.code.length
    · exact vstep_end m Ac nc cc As ns cs w hc hs hf.ok hd hg hgm h1
    by_cases h2 : m.code.getD m.at_ 0 = 0
    · exact vstep_zero m Ac nc cc As ns cs w hc hs hf.ok hd hg hgm (by omega) h2
    · exact vstep_do m Ac nc cc As ns cs w hc hs hf hd hg (by omega) h2
  · exact vstep_done m Ac nc cc As ns cs w hc hs hf.ok hd
end Go.Proofs.Ytlahecofjlaojaa
