/- VmBad: the plain law, the walk. -/
import Derived.Test.YtlahecofjlaojaaVmStack
import Derived.Test.YtlahecofjlaojaaAppZ
namespace Go.Proofs.Ytlahecofjlaojaa
set_option linter.unusedVariables false
open Go.RowKit

theorem bad_sign : ∀ n < 9, ∀ k < 240, vrun (List.replicate n 12 ++ [16 + k]) 1 2 50 = (0, (n : Int) + 1, 10) := by decide +kernel
theorem bad_push : ∀ n < 9, ∀ l < 8, (vrun (List.replicate n 12 ++ [1] ++ List.replicate l 0) 1 2 50).2.2 = 8 := by decide +kernel
theorem bad_jz : ∀ n < 9, (vrun (List.replicate n 12 ++ [13]) 1 2 50).2.2 = 8 := by decide +kernel
theorem rep_bvals (l : Nat) : List.replicate l (Value.int .u8 0) = bvals (List.replicate l 0) := by simp [bvals]
theorem app_lt {l t : List Nat} (h : ∀ x ∈ l, x < 256) (k : ∀ x ∈ t, x < 256) : ∀ x ∈ l ++ t, x < 256 := fun x hx => by
  rcases List.mem_append.1 hx with h1 | h1
  · exact h x h1
  · exact k x h1
/-- A run's error, behind a base world. -/
theorem run_err_gb {w0 : World} {w : World} {A : Option Addr} {n c : Nat} {bs : List Nat} (hz : Bytes w A n bs) (hx : Ext w0 w) (hb : ∀ x ∈ bs, x < 256) (arg data gas : Int) (ha : I64 arg) (hd : I64 data) (r : Int) (hr : (vrun bs arg data gas).2.2 = r) :
    Calls Try.prog 16 #[.slice A n c, .int .i64 arg, .int .i64 data, .int .i64 gas] w fun e w' => ∃ x y : Int, e = .returned (.tuple #[.int .i64 x, .int .i64 y, .int .i64 r]) ∧ Ext w0 w' :=
  (vrun_any A n c bs arg data gas w hz hb ha hd).mono fun e w' h => ⟨(vrun bs arg data gas).1, (vrun bs arg data gas).2.1, by rw [← hr]; exact h.1, hx.trans h.2⟩
set_option maxRecDepth 100000 in
set_option maxHeartbeats 4000000 in
theorem bad_walk (a op lack : Int) (w : World) (ha : I64 a) (hop : I64 op) (hla : I64 lack) :
    Calls Try.prog 12 #[.int .i64 a, .int .i64 op, .int .i64 lack] w fun e w' => e = .returned (.bool true) ∧ Ext w w' := by
  have hwi := fun w => within6 a 9 (by omega) (by omega) w
  obtain ⟨n, hn, hn9⟩ := emod_natW a 9 9 rfl (by omega)
  rw [hn] at hwi
  have hw240 := fun w => within6 op 240 (by omega) (by omega) w
  obtain ⟨j, hj, hj240⟩ := emod_natW op 240 240 rfl (by omega)
  rw [hj] at hw240
  have hw8 := fun w => within6 lack 8 (by omega) (by omega) w
  obtain ⟨l, hl, hl8⟩ := emod_natW lack 8 8 rfl (by omega)
  rw [hl] at hw8
  have hw9 := fun w => within6 lack 9 (by omega) (by omega) w
  obtain ⟨p, hp, hp9⟩ := emod_natW lack 9 9 rfl (by omega)
  rw [hp] at hw9
  have hwo9 := fun w => within6 op 9 (by omega) (by omega) w
  obtain ⟨q, hq, hq9⟩ := emod_natW op 9 9 rfl (by omega)
  rw [hq] at hwo9
  clear hn hj hl hp hq ha hop hla
  have hni : (n : Int) < 9 := by omega
  go_enter Try.func12, Try.ntmps12
  go_wp2_with fail
  refine (known6 w).mono ?_
  rintro e w1 ⟨rfl, hx1⟩
  go_wp2_with fail
  refine (hwi _).mono ?_
  rintro e w1' ⟨rfl, rfl⟩
  clear hwi
  go_wp2_with fail
  go_loopw [7, 8] (fun s i wr => ∃ (k : Nat) (A' : Option Addr) (c' : Nat), k ≤ n ∧ s = .slice A' k c' ∧ i = .int .i64 (k : Int) ∧ Own wr w1'.heap.size 5 1 A' k c' (bvals (List.replicate k 12)) ∧ Ext w1' wr) (fun _ i _ => n - (intOf i).toNat)
  case atStart => exact ⟨0, none, 0, Nat.zero_le _, rfl, rfl, Own.nil _ _ _ _ _, Ext.refl _⟩
  case round =>
    obtain ⟨k, A2, c2, hk, rfl, rfl, ho, her⟩ := hrel
    by_cases hlt : k < n
    · have hb := her.le
      have m1 : k + 1 ≤ maxLen := by unfold maxLen; omega
      have m2 : (k + 1) * 1 ≤ 140737488355328 := by omega
      go_wp2_with (at_builtin; refine wpList_append_Own rfl (.tmp 33) (.tmp 34) _ rfl w1'.heap.size byte_elem rfl (ho.ext ((Ext.refl _).alloc _)) rfl (lit_rs _ _ [12] (by rfl)) (bvals_one _) m1 m2 (by simpa using Nat.le_succ_of_le hb) ?_)
      intro A3 c3 w3 ho3 hg3
      have hx3 : Ext w1' w3 := (her.alloc _).grown hg3 (fun k h => (ho.row k h).1)
      have ho3' : Own w3 w1'.heap.size 5 1 A3 (k + 1) c3 (bvals (List.replicate (k + 1) 12)) := by rw [repl_snoc, bvals_append]; exact ho3
      clear hg3 ho3 ho
      go_wp2_with fail
      go_roundw
      case rel => exact ⟨k + 1, A3, c3, by omega, rfl, by go_num, ho3', hx3⟩
      case measure => simp [intOf]; omega
    · obtain rfl : k = n := by omega
      have l1 := Lib.hid (bad_sign k hn9 j hj240)
      have l2 := Lib.hid (bad_push k hn9 l hl8)
      have l3 := Lib.hid (bad_jz k hn9)
      have hzr : RS wr 1 A2 k (bvals (List.replicate k 12)) := ho.rs
      have hz : Bytes wr A2 k (List.replicate k 12) := .of ho.rs (by simp)
      have hnc := ho.2.1
      have m0 : k ≤ maxLen := by unfold maxLen; omega
      have m0' : k * 1 ≤ 140737488355328 := by omega
      have m1 : k + 1 ≤ maxLen := by unfold maxLen; omega
      have m2 : (k + 1) * 1 ≤ 140737488355328 := by omega
      clear hlt hk ho
      go_wp2_with (at_builtin; refine wpList_append_new rfl (.tmp 37) (.tmp 38) _ rfl wr.heap.size byte_elem rfl rfl (hzr.ext ((Ext.refl _).alloc _)) (bvals_one _) m0 m0' (by simp) ?_)
      intro A3 c3 w3 ho3 hx3
      have hx03 : Ext wr w3 := ((Ext.refl wr).alloc _).trans hx3
      have hb3 := hx03.le
      have hji : (j : Int) < 240 := by omega
      clear hx3
      go_wp2_with fail
      refine (hw240 _).mono ?_
      rintro e w4 ⟨rfl, rfl⟩
      go_wp2_with (at_builtin; refine wpList_append_Own rfl (.tmp 39) (.tmp 44) _ rfl wr.heap.size byte_elem rfl (ho3.ext ((Ext.refl _).alloc _)) rfl (lit_at rfl _ [16 + j] (by simp [bvals])) (bvals_one _) m1 m2 (by simpa using Nat.le_succ_of_le hb3) ?_)
      intro A5 c5 w5 ho5 hg5
      have hx5 : Ext wr w5 := (hx03.alloc _).grown hg5 (fun k h => (ho3.row k h).1)
      rw [← bvals_append] at ho5
      have h6 := run_gb (GB.own ho5) hx5 (app_lt (repl_lt k 12 (by decide)) (by intro x hx; rw [List.mem_singleton.1 hx]; omega)) 1 2 50 (by unfold I64; omega) (by unfold I64; omega)
      rw [l1.out] at h6
      clear hg5 ho5 ho3 hx03 hb3 hw240 l1
      go_wp2_with fail
      refine h6.mono ?_
      rintro e w6 ⟨rfl, hx6⟩
      clear h6 hx5
      have m3 : k + 1 ≤ 1000 := by omega
      have hrw : RS w6 1 A2 k (bvals (List.replicate k 12)) := hzr.ext hx6
      go_wp2_with (at_builtin; refine wpList_append_new rfl (.tmp 51) (.tmp 52) _ rfl w6.heap.size byte_elem rfl rfl (hrw.ext ((Ext.refl _).alloc _)) (bvals_one _) m0 m0' (by simp) ?_)
      intro A7 c7 w7 ho7 hx7'
      have hx7 : Ext w6 w7 := ((Ext.refl w6).alloc _).trans hx7'
      have hb7 := hx7.le
      clear hx7'
      go_wp2_with (at_builtin; refine wpList_append_Own rfl (.tmp 53) (.tmp 54) _ rfl w6.heap.size byte_elem rfl (ho7.ext ((Ext.refl _).alloc _)) rfl (lit_at rfl _ [1] (by rfl)) (bvals_one _) m1 m2 (by simpa using Nat.le_succ_of_le hb7) ?_)
      intro A8 c8 w8 ho8 hg8
      have hx8 : Ext w6 w8 := (hx7.alloc _).grown hg8 (fun k h => (ho7.row k h).1)
      rw [← bvals_append] at ho8
      have hb8 := hx8.le
      clear hg8 ho7 hx7 hb7
      have hli : (l : Int) < 8 := by omega
      go_wp2_with fail
      refine (hw8 _).mono ?_
      rintro e w9 ⟨rfl, rfl⟩
      go_wp2_with (at_builtin; refine wpList_append_zero rfl (.tmp 55) (.tmp 57) rfl w6.heap.size rfl ho8 (by omega) l rfl m3 (by omega) hb8 ?_)
      intro A10 c10 w10 ho10 hg10
      have hx10 : Ext w6 w10 := hx8.grown hg10 (fun k h => (ho8.row k h).1)
      rw [rep_bvals, ← bvals_append] at ho10
      have h11 := run_err_gb (c := c10) (GB.own ho10).bytes (hx6.trans hx10) (app_lt (app_lt (repl_lt k 12 (by decide)) (by decide)) (repl_lt l 0 (by decide))) 1 2 50 (by unfold I64; omega) (by unfold I64; omega) 8 l2.out
      clear hg10 ho10 ho8 hx8 hb8 hw8 l2 hx10 hrw
      go_wp2_with fail
      refine h11.mono ?_
      rintro e w11 ⟨x1, y1, rfl, hx11⟩
      clear h11 hx6
      have hrw : RS w11 1 A2 k (bvals (List.replicate k 12)) := hzr.ext hx11
      go_wp2_with (at_builtin; refine wpList_append_new rfl (.tmp 64) (.tmp 65) _ rfl w11.heap.size byte_elem rfl rfl (hrw.ext ((Ext.refl _).alloc _)) (bvals_one _) m0 m0' (by simp) ?_)
      intro A12 c12 w12 ho12 hx12'
      have hx12 : Ext w11 w12 := ((Ext.refl w11).alloc _).trans hx12'
      have hb12 := hx12.le
      clear hx12'
      go_wp2_with (at_builtin; refine wpList_append_Own rfl (.tmp 66) (.tmp 67) _ rfl w11.heap.size byte_elem rfl (ho12.ext ((Ext.refl _).alloc _)) rfl (lit_at rfl _ [13] (by rfl)) (bvals_one _) m1 m2 (by simpa using Nat.le_succ_of_le hb12) ?_)
      intro A13 c13 w13 ho13 hg13
      have hx13 : Ext w11 w13 := (hx12.alloc _).grown hg13 (fun k h => (ho12.row k h).1)
      rw [← bvals_append] at ho13
      have h14 := run_err_gb (c := c13) (GB.own ho13).bytes (hx11.trans hx13) (app_lt (repl_lt k 12 (by decide)) (by decide)) 1 2 50 (by unfold I64; omega) (by unfold I64; omega) 8 l3.out
      clear hg13 ho13 ho12 hx12 hb12 l3 hx13 hrw
      go_wp2_with fail
      refine h14.mono ?_
      rintro e w14 ⟨x2, y2, rfl, hx14⟩
      clear h14 hx11
      have hpi : (p : Int) < 9 := by omega
      have hmk := run_make8 (65 + p) (65 + (p : Int)) (by simp) (by omega)
      have hqi : (q : Int) < 9 := by omega
      go_wp2_with fail
      refine (hw9 _).mono ?_
      rintro e w15 ⟨rfl, rfl⟩
      clear hw9
      go_wp2_with fail
      refine (vrun_bad _ (65 + p) _ 1 2 50 _ (by omega)).mono ?_
      rintro e w16 ⟨rfl, hx16⟩
      have hx16' : Ext wr w16 := (hx14.alloc _).trans hx16
      clear hx16 hmk
      go_wp2_with fail
      refine (hwo9 _).mono ?_
      rintro e w17 ⟨rfl, rfl⟩
      go_wp2_with fail
      refine (vrun_bad A2 k c2 1 2 (201 + (q : Int)) _ (by omega)).mono ?_
      rintro e w18 ⟨rfl, hx18⟩
      have hxf := (hx1.trans her).trans (hx16'.trans hx18)
      clear hx18 hx16' hwo9 hx14
      go_wp2_with fail
      go_ret
      exact ⟨rfl, hxf⟩
end Go.Proofs.Ytlahecofjlaojaa
