/- The machine: bytes, ints, own, over, New. -/
import Derived.Test.YtlahecofjlaojaaInts
import Derived.Test.YtlahecofjlaojaaBlk
import Derived.Test.YtlahecofjlaojaaCuts
import Derived.BigQuiet
import Derived.Deep.QuietTactic
import Derived.Deep.RegionHeld3
import Derived.Deep.DeepCutAuto
import Derived.Deep.CutBlock
namespace Go.Proofs.Ytlahecofjlaojaa
set_option linter.unusedVariables false
open Go.RowKit

set_option maxHeartbeats 400000 in
theorem vbytes_any (A : Option Addr) (n c : Nat) (bs : List Nat) (w : World) (hz : Bytes w A n bs) (hn : n ≤ 1000000) :
    Calls Try.prog 34 #[.slice A n c] w fun e w' => ∃ A' c', e = .returned (.slice A' n c') ∧ GB w' A' n c' bs ∧ Ext w w' := by
  have hmk := run_make8 n (n : Int) rfl (by omega)
  have hl := Lib.hid hz.len
  go_enter Try.func34, Try.ntmps34
  have hz1 := hz.ext ((Ext.refl w).alloc (.cells (madeB n) 5))
  have ho1 := made_own w w.heap.size n (Nat.le_refl _) (by omega)
  go_wp2_with (refine wpList_copy_Own rfl (.tmp 7) (.tmp 8) _ rfl byte_elem ho1 0 rfl ?_ ?_ rfl hz1.rs (bvals_one _) ?_ ?_)
  · rintro - g hg
    simpa using hg
  · omega
  · exact Nat.le_refl _
  intro w2 ho2 hg2
  have hx2 : Ext w w2 := ((Ext.refl w).alloc _).grown hg2 (fun k h => (ho1.row k h).1)
  rw [List.drop_of_length_le (by simp [bvals, zeros8]), List.append_nil] at ho2
  go_wp2_with fail
  go_ret
  exact ⟨_, _, rfl, .own ho2, hx2⟩

set_option maxHeartbeats 400000 in
theorem vints_any (A : Option Addr) (n c : Nat) (zs : List Int) (w : World) (hz : Nums .i64 w A n zs) (hn : n ≤ 1000000) :
    Calls Try.prog 35 #[.slice A n c] w fun e w' => ∃ A', e = .returned (.slice A' n n) ∧ Own w' w.heap.size 3 1 A' n n (ivals zs) ∧ Ext w w' := by
  have hmk := run_makeI n (n : Int) rfl (by omega)
  have hl := Lib.hid hz.1
  go_enter Try.func35, Try.ntmps35
  have hz1 := hz.ext ((Ext.refl w).alloc (.cells (madeI n) 3))
  have ho1 := made_ownI w w.heap.size n (Nat.le_refl _) (by omega)
  go_wp2_with (refine wpList_copy_Own rfl (.tmp 7) (.tmp 8) _ rfl int_elem ho1 0 rfl ?_ ?_ rfl hz1.2 (Nums.one _) ?_ ?_)
  · rintro - g hg
    simpa using hg
  · omega
  · exact Nat.le_refl _
  intro w2 ho2 hg2
  have hx2 : Ext w w2 := ((Ext.refl w).alloc _).grown hg2 (fun k h => (ho1.row k h).1)
  rw [List.drop_of_length_le (by simp [ivals, zerosI]), List.append_nil] at ho2
  go_wp2_with fail
  go_ret
  exact ⟨_, rfl, ho2, hx2⟩

theorem set8_0 (a b c d e f g h u : Value) : (#[a, b, c, d, e, f, g, h] : Array Value).setIfInBounds 0 u = #[u, b, c, d, e, f, g, h] := rfl
theorem set8_1 (a b c d e f g h u : Value) : (#[a, b, c, d, e, f, g, h] : Array Value).setIfInBounds 1 u = #[a, u, c, d, e, f, g, h] := rfl
theorem set8_2 (a b c d e f g h u : Value) : (#[a, b, c, d, e, f, g, h] : Array Value).setIfInBounds 2 u = #[a, b, u, d, e, f, g, h] := rfl
theorem set8_3 (a b c d e f g h u : Value) : (#[a, b, c, d, e, f, g, h] : Array Value).setIfInBounds 3 u = #[a, b, c, u, e, f, g, h] := rfl
theorem set8_4 (a b c d e f g h u : Value) : (#[a, b, c, d, e, f, g, h] : Array Value).setIfInBounds 4 u = #[a, b, c, d, u, f, g, h] := rfl
theorem set8_5 (a b c d e f g h u : Value) : (#[a, b, c, d, e, f, g, h] : Array Value).setIfInBounds 5 u = #[a, b, c, d, e, u, g, h] := rfl
theorem set8_6 (a b c d e f g h u : Value) : (#[a, b, c, d, e, f, g, h] : Array Value).setIfInBounds 6 u = #[a, b, c, d, e, f, u, h] := rfl
theorem set8_7 (a b c d e f g h u : Value) : (#[a, b, c, d, e, f, g, h] : Array Value).setIfInBounds 7 u = #[a, b, c, d, e, f, g, u] := rfl
/-- The eight cells of a machine's block. -/
theorem Blk.cells8 {w : World} {g : Nat} {t : TypeId} {a b c d e f x y : Value} (h : Blk w g t #[a, b, c, d, e, f, x, y]) :
    w.cell? ⟨g, 0, none⟩ = some a ∧ w.cell? ⟨g, 1, none⟩ = some b ∧ w.cell? ⟨g, 2, none⟩ = some c ∧ w.cell? ⟨g, 3, none⟩ = some d ∧ w.cell? ⟨g, 4, none⟩ = some e ∧ w.cell? ⟨g, 5, none⟩ = some f ∧ w.cell? ⟨g, 6, none⟩ = some x ∧ w.cell? ⟨g, 7, none⟩ = some y :=
  ⟨h.cell 0, h.cell 1, h.cell 2, h.cell 3, h.cell 4, h.cell 5, h.cell 6, h.cell 7⟩
theorem Blk.free8 {w : World} {g : Nat} {t : TypeId} {cs : Array Value} (h : Blk w g t cs) :
    w.frozen? ⟨g, 0, none⟩ = false ∧ w.frozen? ⟨g, 1, none⟩ = false ∧ w.frozen? ⟨g, 2, none⟩ = false ∧ w.frozen? ⟨g, 3, none⟩ = false ∧ w.frozen? ⟨g, 4, none⟩ = false ∧ w.frozen? ⟨g, 5, none⟩ = false ∧ w.frozen? ⟨g, 6, none⟩ = false ∧ w.frozen? ⟨g, 7, none⟩ = false :=
  ⟨h.frozen 0, h.frozen 1, h.frozen 2, h.frozen 3, h.frozen 4, h.frozen 5, h.frozen 6, h.frozen 7⟩
theorem mach_size : (Try.prog.info? 34).map (·.size) = some 8 := by kernel_rfl
theorem mach_ne8 : 34 ≠ 5 := by decide
theorem mach_neI : 34 ≠ 3 := by decide
/-- A machine's parts. -/
structure Ms where
  code : List Nat
  arg : Int
  data : Int
  at_ : Nat
  stack : List Int
  gas : Int
  done : Bool
  err : Int
/-- The cells of a machine. -/
def Ms.cells (m : Ms) (Ac : Option Addr) (nc cc : Nat) (As : Option Addr) (ns cs : Nat) : Array Value :=
  #[.slice Ac nc cc, .int .i64 m.arg, .int .i64 m.data, .int .i64 (m.at_ : Int), .slice As ns cs, .int .i64 m.gas, .bool m.done, .int .i64 m.err]

set_option maxHeartbeats 1000000 in
theorem vown_any (m : Ms) (Ac : Option Addr) (nc cc : Nat) (As : Option Addr) (ns cs : Nat) (w : World) (hc : Bytes w Ac nc m.code) (hs : Nums .i64 w As ns m.stack) (hnc : nc ≤ 1000000) (hns : ns ≤ 1000000) :
    Calls Try.prog 26 #[.agg (m.cells Ac nc cc As ns cs)] w fun e w' => ∃ Ac' cc' As', e = .returned (.agg (m.cells Ac' nc cc' As' ns ns)) ∧ GB w' Ac' nc cc' m.code ∧ Own w' w.heap.size 3 1 As' ns ns (ivals m.stack) ∧ Ext w w' := by
  obtain ⟨code, arg, data, at_, stack, gas, done, err⟩ := m
  unfold Ms.cells
  simp only at hc hs ⊢
  go_enter Try.func26, Try.ntmps26
  go_upto_region 1 with fail
  have hx0 : Ext w ((w.alloc (.cells #[.slice Ac nc cc, .int .i64 arg, .int .i64 data, .int .i64 (at_ : Int), .slice As ns cs, .int .i64 gas, .bool done, .int .i64 err] 34)).alloc (.cells #[.slice none 0 0, .int .i64 0, .int .i64 0, .int .i64 0, .slice none 0 0, .int .i64 0, .bool false, .int .i64 0] 34)) := ((Ext.refl w).alloc _).alloc _
  have hB1 := (Blk.new w 34 #[.slice Ac nc cc, .int .i64 arg, .int .i64 data, .int .i64 (at_ : Int), .slice As ns cs, .int .i64 gas, .bool done, .int .i64 err]).ext ((Ext.refl _).alloc (.cells #[.slice none 0 0, .int .i64 0, .int .i64 0, .int .i64 0, .slice none 0 0, .int .i64 0, .bool false, .int .i64 0] 34))
  have hB2 : Blk ((w.alloc (.cells #[.slice Ac nc cc, .int .i64 arg, .int .i64 data, .int .i64 (at_ : Int), .slice As ns cs, .int .i64 gas, .bool done, .int .i64 err] 34)).alloc (.cells #[.slice none 0 0, .int .i64 0, .int .i64 0, .int .i64 0, .slice none 0 0, .int .i64 0, .bool false, .int .i64 0] 34)) (w.heap.size + 1) 34 #[.slice none 0 0, .int .i64 0, .int .i64 0, .int .i64 0, .slice none 0 0, .int .i64 0, .bool false, .int .i64 0] := by
    have := Blk.new (w.alloc (.cells #[.slice Ac nc cc, .int .i64 arg, .int .i64 data, .int .i64 (at_ : Int), .slice As ns cs, .int .i64 gas, .bool done, .int .i64 err] 34)) 34 #[.slice none 0 0, .int .i64 0, .int .i64 0, .int .i64 0, .slice none 0 0, .int .i64 0, .bool false, .int .i64 0]
    simpa using this
  generalize (w.alloc (.cells #[.slice Ac nc cc, .int .i64 arg, .int .i64 data, .int .i64 (at_ : Int), .slice As ns cs, .int .i64 gas, .bool done, .int .i64 err] 34)).alloc (.cells #[.slice none 0 0, .int .i64 0, .int .i64 0, .int .i64 0, .slice none 0 0, .int .i64 0, .bool false, .int .i64 0] 34) = w1 at *
  have k0 : w1.cell? ⟨w.heap.size, 0, none⟩ = some (.slice Ac nc cc) := hB1.cell 0
  have k4 : w1.cell? ⟨w.heap.size, 4, none⟩ = some (.slice As ns cs) := hB1.cell 4
  go_cut [] (fun wr => ∃ Ac' cc' As', Blk wr w.heap.size 34 #[.slice Ac' nc cc', .int .i64 arg, .int .i64 data, .int .i64 (at_ : Int), .slice As' ns ns, .int .i64 gas, .bool done, .int .i64 err] ∧ Blk wr (w.heap.size + 1) 34 #[.slice none 0 0, .int .i64 0, .int .i64 0, .int .i64 0, .slice none 0 0, .int .i64 0, .bool false, .int .i64 0] ∧ GB wr Ac' nc cc' code ∧ Own wr w.heap.size 3 1 As' ns ns (ivals stack) ∧ Ext w wr)
  case first =>
    go_region_with (first
      | (go_at_call 34; refine (vbytes_any Ac nc cc code _ (hc.ext (hx0.trans (Ext.refl _).drew)) hnc).mono ?_; rintro e w2 ⟨A2, c2, rfl, hg2, hx2⟩; have k4 : w2.cell? ⟨w.heap.size, 4, none⟩ = some (.slice As ns cs) := hx2.cell (show w1.drew.cell? _ = _ from k4))
      | (go_at_call 35; refine (vints_any As ns cs stack _ (hs.ext ((hx0.trans (Ext.refl _).drew).trans hx2)) hns).mono ?_; rintro e w3 ⟨A3, rfl, ho3, hx3⟩; have hx13 : Ext w1 w3 := ((Ext.refl w1).drew.trans hx2).trans hx3; have hB3 := hB1.ext hx13; have j0 : w3.cell? ⟨w.heap.size, 0, none⟩ = some (.slice Ac nc cc) := hB3.cell 0; have f0 := hB3.frozen 0; have j4 : w3.cell? ⟨w.heap.size, 4, none⟩ = some (.slice As ns cs) := hB3.cell 4; have f4 := hB3.frozen 4))
    all_goals
      have hM := ((Mut.refl w3 w.heap.size).setCell 0 (.slice A2 nc c2)).setCell 4 (.slice A3 ns ns)
      have hB4 := (hB3.set_ 0 (.slice A2 nc c2)).set_ 4 (.slice A3 ns ns)
      rw [set8_0, set8_4] at hB4
      have hB5 := (hB2.ext hx13).mut hM (by omega)
      have hg4 := (hg2.ext hx3).mut hB3 mach_ne8 hM
      have ho4 := (ho3.mut hB3 mach_neI hM).mono (B' := w.heap.size) (by have := (hx0.trans ((Ext.refl w1).drew.trans hx2)).le; exact this)
      have hx4 : Ext w ((w3.setCell ⟨w.heap.size, 0, none⟩ (.slice A2 nc c2)).setCell ⟨w.heap.size, 4, none⟩ (.slice A3 ns ns)) := (hx0.trans hx13).mut hM (Nat.le_refl _)
      clear j0 f0 j4 f4 hB3 hg2 ho3 hM
      go_wp2_with fail
      go_meet
      exact ⟨A2, c2, A3, hB4, hB5, hg4, ho4, hx4⟩
  case rest =>
    obtain ⟨A2, c2, A3, hB4, hB5, hg4, ho4, hx4⟩ := hcut
    clear hB1 hB2
    go_wp2_with (first
      | (refine wpList_load_blk rfl 34 (.tmp 1) rfl hB4 rfl _ Try.underlying34 rfl mach_size ?_)
      | (refine wpList_store_blk rfl 34 (.tmp 2) (.tmp 11) rfl hB5 rfl rfl rfl mach_size rfl ?_; intro w5 hB6 hM6))
    have hg6 := hg4.mut hB5 mach_ne8 hM6
    have ho6 := ho4.mut hB5 mach_neI hM6
    obtain ⟨k0, k1, k2, k3, k4, k5, k6, k7⟩ := hB6.cells8
    have hx6 : Ext w w5 := hx4.mut hM6 (by omega)
    clear hB4 hB5 hB6 hM6
    exact bodyPost_ret (v := .agg #[.slice A2 nc c2, .int .i64 arg, .int .i64 data, .int .i64 (at_ : Int), .slice A3 ns ns, .int .i64 gas, .bool done, .int .i64 err]) (by simp [results, Try.results26, go_sem, k0, k1, k2, k3, k4, k5, k6, k7]) rfl ⟨A2, c2, A3, rfl, hg6, ho6, hx6⟩

set_option maxHeartbeats 1000000 in
theorem vover_any (m : Ms) (e : Int) (Ac : Option Addr) (nc cc : Nat) (As : Option Addr) (ns cs : Nat) (w : World) (hc : Bytes w Ac nc m.code) (hs : Nums .i64 w As ns m.stack) (hnc : nc ≤ 1000000) (hns : ns ≤ 1000000) :
    Calls Try.prog 27 #[.agg (m.cells Ac nc cc As ns cs), .int .i64 e] w fun e' w' => ∃ Ac' cc' As', e' = .returned (.agg ({ m with done := true, err := e }.cells Ac' nc cc' As' ns ns)) ∧ GB w' Ac' nc cc' m.code ∧ Own w' w.heap.size 3 1 As' ns ns (ivals m.stack) ∧ Ext w w' := by
  obtain ⟨code, arg, data, at_, stack, gas, done, err⟩ := m
  have hown := fun A c A2 c2 w h1 h2 => vown_any ⟨code, arg, data, at_, stack, gas, true, e⟩ A nc c A2 ns c2 w h1 h2 hnc hns
  unfold Ms.cells at hown ⊢
  simp only at hc hs hown ⊢
  go_enter Try.func27, Try.ntmps27
  go_wp2_with fail
  have hx1 : Ext w ((w.alloc (.cells #[.slice Ac nc cc, .int .i64 arg, .int .i64 data, .int .i64 (at_ : Int), .slice As ns cs, .int .i64 gas, .bool true, .int .i64 e] 34)).alloc (.cells #[.slice none 0 0, .int .i64 0, .int .i64 0, .int .i64 0, .slice none 0 0, .int .i64 0, .bool false, .int .i64 0] 34)) := ((Ext.refl w).alloc _).alloc _
  have hB2 : Blk ((w.alloc (.cells #[.slice Ac nc cc, .int .i64 arg, .int .i64 data, .int .i64 (at_ : Int), .slice As ns cs, .int .i64 gas, .bool true, .int .i64 e] 34)).alloc (.cells #[.slice none 0 0, .int .i64 0, .int .i64 0, .int .i64 0, .slice none 0 0, .int .i64 0, .bool false, .int .i64 0] 34)) (w.heap.size + 1) 34 #[.slice none 0 0, .int .i64 0, .int .i64 0, .int .i64 0, .slice none 0 0, .int .i64 0, .bool false, .int .i64 0] := by
    have := Blk.new (w.alloc (.cells #[.slice Ac nc cc, .int .i64 arg, .int .i64 data, .int .i64 (at_ : Int), .slice As ns cs, .int .i64 gas, .bool true, .int .i64 e] 34)) 34 #[.slice none 0 0, .int .i64 0, .int .i64 0, .int .i64 0, .slice none 0 0, .int .i64 0, .bool false, .int .i64 0]
    simpa using this
  refine (hown Ac cc As cs _ (hc.ext hx1) (hs.ext hx1)).mono ?_
  rintro e3 w3 ⟨A3, c3, S3, rfl, hg3, ho3, hx3⟩
  have hB3 := hB2.ext hx3
  have ho3' := ho3.mono (B' := w.heap.size) hx1.le
  have hx13 := hx1.trans hx3
  clear hown hB2 ho3
  go_wp2_with ((refine wpList_store_blk rfl 34 (.tmp 4) (.tmp 9) rfl hB3 rfl rfl rfl mach_size rfl ?_; intro w5 hB6 hM6))
  have hg6 := hg3.mut hB3 mach_ne8 hM6
  have ho6 := ho3'.mut hB3 mach_neI hM6
  obtain ⟨k0, k1, k2, k3, k4, k5, k6, k7⟩ := hB6.cells8
  have hx6 : Ext w w5 := hx13.mut hM6 (by omega)
  exact bodyPost_ret (v := .agg #[.slice A3 nc c3, .int .i64 arg, .int .i64 data, .int .i64 (at_ : Int), .slice S3 ns ns, .int .i64 gas, .bool true, .int .i64 e]) (by simp [results, Try.results27, go_sem, k0, k1, k2, k3, k4, k5, k6, k7]) rfl ⟨A3, c3, S3, rfl, hg6, ho6, hx6⟩

set_option maxHeartbeats 1000000 in
theorem vnew_any (A : Option Addr) (n c : Nat) (bs : List Nat) (arg data gas : Int) (w : World) (hz : Bytes w A n bs) (hn : n ≤ 1000000) :
    Calls Try.prog 24 #[.slice A n c, .int .i64 arg, .int .i64 data, .int .i64 gas] w fun e w' => ∃ Ac' cc', e = .returned (.agg ((Ms.mk bs arg data 0 [] gas false 0).cells Ac' n cc' none 0 0)) ∧ GB w' Ac' n cc' bs ∧ Ext w w' := by
  unfold Ms.cells
  simp only
  go_enter Try.func24, Try.ntmps24
  go_wp2_with fail
  refine (vbytes_any A n c bs _ (hz.ext ((Ext.refl w).alloc _)) hn).mono ?_
  rintro e w2 ⟨A2, c2, rfl, hg2, hx2⟩
  have hB2 := (Blk.new w 34 #[.slice none 0 0, .int .i64 0, .int .i64 0, .int .i64 0, .slice none 0 0, .int .i64 0, .bool false, .int .i64 0]).ext hx2
  go_wp2_with ((refine wpList_store_blk rfl 34 (.tmp 8) (.tmp 14) rfl hB2 rfl rfl rfl mach_size rfl ?_; intro w5 hB6 hM6))
  have hg6 := hg2.mut hB2 mach_ne8 hM6
  obtain ⟨k0, k1, k2, k3, k4, k5, k6, k7⟩ := hB6.cells8
  have hx6 : Ext w w5 := (((Ext.refl w).alloc _).trans hx2).mut hM6 (Nat.le_refl _)
  exact bodyPost_ret (v := .agg #[.slice A2 n c2, .int .i64 arg, .int .i64 data, .int .i64 0, .slice none 0 0, .int .i64 gas, .bool false, .int .i64 0]) (by simp [results, Try.results24, go_sem, k0, k1, k2, k3, k4, k5, k6, k7]) rfl ⟨A2, c2, rfl, hg6, hx6⟩
end Go.Proofs.Ytlahecofjlaojaa
