/- The walk of StateBounds: numbers at their bounds may be, beyond them they may not; every input comes to one of fifteen. Printed by wip/gen/bounds.py. -/
import Derived.Test.YtbijpbkekdeilaaStCheck
namespace Go.Proofs.Ytbijpbkekdeilaa
set_option linter.unusedVariables false
open Go.RowKit

theorem sthook {w : World} (l : List Acc) (cs : Array Value) (h : cs = (accs l).toArray) : St (w.alloc (.cells cs 29)) (some ⟨w.heap.size, 0, none⟩) l.length l :=
  ⟨rfl, by subst h; exact box_rs w _ 4 (accs l) _ (accs_length l)⟩
theorem sthook2 {w : World} {o : Obj} (l : List Acc) (cs : Array Value) (h : cs = (accs l).toArray) : St ((w.alloc o).alloc (.cells cs 29)) (some ⟨w.heap.size + 1, 0, none⟩) l.length l := by
  have := sthook (w := w.alloc o) l cs h
  rw [show (w.alloc o).heap.size = w.heap.size + 1 by simp] at this
  exact this
theorem bl00 : chk none 0 [⟨5, 3, 0, 0⟩, ⟨254, 0, 1, 0⟩] = 0 := by simp [chk, lateB, noneB]
set_option maxHeartbeats 1000000 in
theorem bw00 (which n : Int) (hj : which % 5 = 0) (hk : n % 3 = 0) (w : World) :
    Calls Try.prog 7 #[.int .i64 which, .int .i64 n] w fun e w' => e = .returned (.bool true) ∧ Ext w w' := by
  have g1 := fun w => within_any n 3 (by omega) (by omega) w
  have g2 := fun w => within_any which 5 (by omega) (by omega) w
  rw [hk] at g1
  rw [hj] at g2
  clear hj hk
  have G1 := Lib.hid g1
  have G2 := Lib.hid g2
  clear g1 g2
  go_enter Try.func7, Try.ntmps7
  go_wp2_with fail
  refine (known8_any _).mono ?_
  rintro e w1 ⟨rfl, he1⟩
  go_wp2_with fail
  refine (G1.out _).mono ?_
  rintro e w2 ⟨rfl, rfl⟩
  go_wp2_with fail
  refine (G2.out _).mono ?_
  rintro e w2 ⟨rfl, rfl⟩
  go_wp2_with fail
  have hc := fun c (h : 2 ≤ c) => check_any _ 2 c [⟨5, 3, 0, 0⟩, ⟨254, 0, 1, 0⟩] _ (sthook (w := w1) [⟨5, 3, 0, 0⟩, ⟨254, 0, 1, 0⟩] #[.int .i64 5, .int .i64 3, .int .i64 0, .int .i64 0, .int .i64 254, .int .i64 0, .int .i64 1, .int .i64 0] rfl) (by omega) (by intro a ha; simp at ha; rcases ha with rfl | rfl <;> rfl)
  rw [bl00] at hc
  refine (hc 2 (by omega)).mono ?_
  rintro e w3 ⟨rfl, he3⟩
  clear hc
  go_wp2_with fail
  go_ret
  exact ⟨rfl, he1.trans (Ext.trans (by repeat (first | exact Ext.refl _ | refine Ext.alloc ?_ _)) he3)⟩
theorem bl01 : chk none 0 [⟨5, 3, 0, 0⟩, ⟨255, 0, 1, 0⟩] = 0 := by simp [chk, lateB, noneB]
set_option maxHeartbeats 1000000 in
theorem bw01 (which n : Int) (hj : which % 5 = 0) (hk : n % 3 = 1) (w : World) :
    Calls Try.prog 7 #[.int .i64 which, .int .i64 n] w fun e w' => e = .returned (.bool true) ∧ Ext w w' := by
  have g1 := fun w => within_any n 3 (by omega) (by omega) w
  have g2 := fun w => within_any which 5 (by omega) (by omega) w
  rw [hk] at g1
  rw [hj] at g2
  clear hj hk
  have G1 := Lib.hid g1
  have G2 := Lib.hid g2
  clear g1 g2
  go_enter Try.func7, Try.ntmps7
  go_wp2_with fail
  refine (known8_any _).mono ?_
  rintro e w1 ⟨rfl, he1⟩
  go_wp2_with fail
  refine (G1.out _).mono ?_
  rintro e w2 ⟨rfl, rfl⟩
  go_wp2_with fail
  refine (G2.out _).mono ?_
  rintro e w2 ⟨rfl, rfl⟩
  go_wp2_with fail
  have hc := fun c (h : 2 ≤ c) => check_any _ 2 c [⟨5, 3, 0, 0⟩, ⟨255, 0, 1, 0⟩] _ (sthook (w := w1) [⟨5, 3, 0, 0⟩, ⟨255, 0, 1, 0⟩] #[.int .i64 5, .int .i64 3, .int .i64 0, .int .i64 0, .int .i64 255, .int .i64 0, .int .i64 1, .int .i64 0] rfl) (by omega) (by intro a ha; simp at ha; rcases ha with rfl | rfl <;> rfl)
  rw [bl01] at hc
  refine (hc 2 (by omega)).mono ?_
  rintro e w3 ⟨rfl, he3⟩
  clear hc
  go_wp2_with fail
  go_ret
  exact ⟨rfl, he1.trans (Ext.trans (by repeat (first | exact Ext.refl _ | refine Ext.alloc ?_ _)) he3)⟩
theorem bl02 : chk none 0 [⟨5, 3, 0, 0⟩, ⟨256, 0, 1, 0⟩] = 1 := by simp [chk, lateB, noneB]
set_option maxHeartbeats 1000000 in
theorem bw02 (which n : Int) (hj : which % 5 = 0) (hk : n % 3 = 2) (w : World) :
    Calls Try.prog 7 #[.int .i64 which, .int .i64 n] w fun e w' => e = .returned (.bool true) ∧ Ext w w' := by
  have g1 := fun w => within_any n 3 (by omega) (by omega) w
  have g2 := fun w => within_any which 5 (by omega) (by omega) w
  rw [hk] at g1
  rw [hj] at g2
  clear hj hk
  have G1 := Lib.hid g1
  have G2 := Lib.hid g2
  clear g1 g2
  go_enter Try.func7, Try.ntmps7
  go_wp2_with fail
  refine (known8_any _).mono ?_
  rintro e w1 ⟨rfl, he1⟩
  go_wp2_with fail
  refine (G1.out _).mono ?_
  rintro e w2 ⟨rfl, rfl⟩
  go_wp2_with fail
  refine (G2.out _).mono ?_
  rintro e w2 ⟨rfl, rfl⟩
  go_wp2_with fail
  have hc := fun c (h : 2 ≤ c) => check_any _ 2 c [⟨5, 3, 0, 0⟩, ⟨256, 0, 1, 0⟩] _ (sthook (w := w1) [⟨5, 3, 0, 0⟩, ⟨256, 0, 1, 0⟩] #[.int .i64 5, .int .i64 3, .int .i64 0, .int .i64 0, .int .i64 256, .int .i64 0, .int .i64 1, .int .i64 0] rfl) (by omega) (by intro a ha; simp at ha; rcases ha with rfl | rfl <;> rfl)
  rw [bl02] at hc
  refine (hc 2 (by omega)).mono ?_
  rintro e w3 ⟨rfl, he3⟩
  clear hc
  go_wp2_with fail
  go_ret
  exact ⟨rfl, he1.trans (Ext.trans (by repeat (first | exact Ext.refl _ | refine Ext.alloc ?_ _)) he3)⟩
theorem bl10 : chk none 0 [⟨5, 1125899906842623, 0, 0⟩] = 0 := by simp [chk, lateB, noneB]
set_option maxHeartbeats 1000000 in
theorem bw10 (which n : Int) (hj : which % 5 = 1) (hk : n % 3 = 0) (w : World) :
    Calls Try.prog 7 #[.int .i64 which, .int .i64 n] w fun e w' => e = .returned (.bool true) ∧ Ext w w' := by
  have g1 := fun w => within_any n 3 (by omega) (by omega) w
  have g2 := fun w => within_any which 5 (by omega) (by omega) w
  rw [hk] at g1
  rw [hj] at g2
  clear hj hk
  have G1 := Lib.hid g1
  have G2 := Lib.hid g2
  clear g1 g2
  go_enter Try.func7, Try.ntmps7
  go_wp2_with fail
  refine (known8_any _).mono ?_
  rintro e w1 ⟨rfl, he1⟩
  go_wp2_with fail
  refine (G1.out _).mono ?_
  rintro e w2 ⟨rfl, rfl⟩
  go_wp2_with fail
  refine (G2.out _).mono ?_
  rintro e w2 ⟨rfl, rfl⟩
  go_wp2_with fail
  have hc := fun c (h : 1 ≤ c) => check_any _ 1 c [⟨5, 1125899906842623, 0, 0⟩] _ (sthook2 (w := w1) (o := .cells #[.int .i64 5, .int .i64 3, .int .i64 0, .int .i64 0, .int .i64 9, .int .i64 0, .int .i64 1, .int .i64 0] 29) [⟨5, 1125899906842623, 0, 0⟩] #[.int .i64 5, .int .i64 1125899906842623, .int .i64 0, .int .i64 0] rfl) (by omega) (by intro a ha; simp at ha; subst ha; rfl)
  rw [bl10] at hc
  refine (hc 1 (by omega)).mono ?_
  rintro e w3 ⟨rfl, he3⟩
  clear hc
  go_wp2_with fail
  go_ret
  exact ⟨rfl, he1.trans (Ext.trans (by repeat (first | exact Ext.refl _ | refine Ext.alloc ?_ _)) he3)⟩
theorem bl11 : chk none 0 [⟨5, 1125899906842624, 0, 0⟩] = 0 := by simp [chk, lateB, noneB]
set_option maxHeartbeats 1000000 in
theorem bw11 (which n : Int) (hj : which % 5 = 1) (hk : n % 3 = 1) (w : World) :
    Calls Try.prog 7 #[.int .i64 which, .int .i64 n] w fun e w' => e = .returned (.bool true) ∧ Ext w w' := by
  have g1 := fun w => within_any n 3 (by omega) (by omega) w
  have g2 := fun w => within_any which 5 (by omega) (by omega) w
  rw [hk] at g1
  rw [hj] at g2
  clear hj hk
  have G1 := Lib.hid g1
  have G2 := Lib.hid g2
  clear g1 g2
  go_enter Try.func7, Try.ntmps7
  go_wp2_with fail
  refine (known8_any _).mono ?_
  rintro e w1 ⟨rfl, he1⟩
  go_wp2_with fail
  refine (G1.out _).mono ?_
  rintro e w2 ⟨rfl, rfl⟩
  go_wp2_with fail
  refine (G2.out _).mono ?_
  rintro e w2 ⟨rfl, rfl⟩
  go_wp2_with fail
  have hc := fun c (h : 1 ≤ c) => check_any _ 1 c [⟨5, 1125899906842624, 0, 0⟩] _ (sthook2 (w := w1) (o := .cells #[.int .i64 5, .int .i64 3, .int .i64 0, .int .i64 0, .int .i64 9, .int .i64 0, .int .i64 1, .int .i64 0] 29) [⟨5, 1125899906842624, 0, 0⟩] #[.int .i64 5, .int .i64 1125899906842624, .int .i64 0, .int .i64 0] rfl) (by omega) (by intro a ha; simp at ha; subst ha; rfl)
  rw [bl11] at hc
  refine (hc 1 (by omega)).mono ?_
  rintro e w3 ⟨rfl, he3⟩
  clear hc
  go_wp2_with fail
  go_ret
  exact ⟨rfl, he1.trans (Ext.trans (by repeat (first | exact Ext.refl _ | refine Ext.alloc ?_ _)) he3)⟩
theorem bl12 : chk none 0 [⟨5, 1125899906842625, 0, 0⟩] = 11 := by simp [chk, lateB, noneB]
set_option maxHeartbeats 1000000 in
theorem bw12 (which n : Int) (hj : which % 5 = 1) (hk : n % 3 = 2) (w : World) :
    Calls Try.prog 7 #[.int .i64 which, .int .i64 n] w fun e w' => e = .returned (.bool true) ∧ Ext w w' := by
  have g1 := fun w => within_any n 3 (by omega) (by omega) w
  have g2 := fun w => within_any which 5 (by omega) (by omega) w
  rw [hk] at g1
  rw [hj] at g2
  clear hj hk
  have G1 := Lib.hid g1
  have G2 := Lib.hid g2
  clear g1 g2
  go_enter Try.func7, Try.ntmps7
  go_wp2_with fail
  refine (known8_any _).mono ?_
  rintro e w1 ⟨rfl, he1⟩
  go_wp2_with fail
  refine (G1.out _).mono ?_
  rintro e w2 ⟨rfl, rfl⟩
  go_wp2_with fail
  refine (G2.out _).mono ?_
  rintro e w2 ⟨rfl, rfl⟩
  go_wp2_with fail
  have hc := fun c (h : 1 ≤ c) => check_any _ 1 c [⟨5, 1125899906842625, 0, 0⟩] _ (sthook2 (w := w1) (o := .cells #[.int .i64 5, .int .i64 3, .int .i64 0, .int .i64 0, .int .i64 9, .int .i64 0, .int .i64 1, .int .i64 0] 29) [⟨5, 1125899906842625, 0, 0⟩] #[.int .i64 5, .int .i64 1125899906842625, .int .i64 0, .int .i64 0] rfl) (by omega) (by intro a ha; simp at ha; subst ha; rfl)
  rw [bl12] at hc
  refine (hc 1 (by omega)).mono ?_
  rintro e w3 ⟨rfl, he3⟩
  clear hc
  go_wp2_with fail
  go_ret
  exact ⟨rfl, he1.trans (Ext.trans (by repeat (first | exact Ext.refl _ | refine Ext.alloc ?_ _)) he3)⟩
theorem bl20 : chk none 0 [⟨5, 3, 0, 0⟩, ⟨9, 0, 1073741823, 0⟩] = 0 := by simp [chk, lateB, noneB]
set_option maxHeartbeats 1000000 in
theorem bw20 (which n : Int) (hj : which % 5 = 2) (hk : n % 3 = 0) (w : World) :
    Calls Try.prog 7 #[.int .i64 which, .int .i64 n] w fun e w' => e = .returned (.bool true) ∧ Ext w w' := by
  have g1 := fun w => within_any n 3 (by omega) (by omega) w
  have g2 := fun w => within_any which 5 (by omega) (by omega) w
  rw [hk] at g1
  rw [hj] at g2
  clear hj hk
  have G1 := Lib.hid g1
  have G2 := Lib.hid g2
  clear g1 g2
  go_enter Try.func7, Try.ntmps7
  go_wp2_with fail
  refine (known8_any _).mono ?_
  rintro e w1 ⟨rfl, he1⟩
  go_wp2_with fail
  refine (G1.out _).mono ?_
  rintro e w2 ⟨rfl, rfl⟩
  go_wp2_with fail
  refine (G2.out _).mono ?_
  rintro e w2 ⟨rfl, rfl⟩
  go_wp2_with fail
  have hc := fun c (h : 2 ≤ c) => check_any _ 2 c [⟨5, 3, 0, 0⟩, ⟨9, 0, 1073741823, 0⟩] _ (sthook (w := w1) [⟨5, 3, 0, 0⟩, ⟨9, 0, 1073741823, 0⟩] #[.int .i64 5, .int .i64 3, .int .i64 0, .int .i64 0, .int .i64 9, .int .i64 0, .int .i64 1073741823, .int .i64 0] rfl) (by omega) (by intro a ha; simp at ha; rcases ha with rfl | rfl <;> rfl)
  rw [bl20] at hc
  refine (hc 2 (by omega)).mono ?_
  rintro e w3 ⟨rfl, he3⟩
  clear hc
  go_wp2_with fail
  go_ret
  exact ⟨rfl, he1.trans (Ext.trans (by repeat (first | exact Ext.refl _ | refine Ext.alloc ?_ _)) he3)⟩
theorem bl21 : chk none 0 [⟨5, 3, 0, 0⟩, ⟨9, 0, 1073741824, 0⟩] = 0 := by simp [chk, lateB, noneB]
set_option maxHeartbeats 1000000 in
theorem bw21 (which n : Int) (hj : which % 5 = 2) (hk : n % 3 = 1) (w : World) :
    Calls Try.prog 7 #[.int .i64 which, .int .i64 n] w fun e w' => e = .returned (.bool true) ∧ Ext w w' := by
  have g1 := fun w => within_any n 3 (by omega) (by omega) w
  have g2 := fun w => within_any which 5 (by omega) (by omega) w
  rw [hk] at g1
  rw [hj] at g2
  clear hj hk
  have G1 := Lib.hid g1
  have G2 := Lib.hid g2
  clear g1 g2
  go_enter Try.func7, Try.ntmps7
  go_wp2_with fail
  refine (known8_any _).mono ?_
  rintro e w1 ⟨rfl, he1⟩
  go_wp2_with fail
  refine (G1.out _).mono ?_
  rintro e w2 ⟨rfl, rfl⟩
  go_wp2_with fail
  refine (G2.out _).mono ?_
  rintro e w2 ⟨rfl, rfl⟩
  go_wp2_with fail
  have hc := fun c (h : 2 ≤ c) => check_any _ 2 c [⟨5, 3, 0, 0⟩, ⟨9, 0, 1073741824, 0⟩] _ (sthook (w := w1) [⟨5, 3, 0, 0⟩, ⟨9, 0, 1073741824, 0⟩] #[.int .i64 5, .int .i64 3, .int .i64 0, .int .i64 0, .int .i64 9, .int .i64 0, .int .i64 1073741824, .int .i64 0] rfl) (by omega) (by intro a ha; simp at ha; rcases ha with rfl | rfl <;> rfl)
  rw [bl21] at hc
  refine (hc 2 (by omega)).mono ?_
  rintro e w3 ⟨rfl, he3⟩
  clear hc
  go_wp2_with fail
  go_ret
  exact ⟨rfl, he1.trans (Ext.trans (by repeat (first | exact Ext.refl _ | refine Ext.alloc ?_ _)) he3)⟩
theorem bl22 : chk none 0 [⟨5, 3, 0, 0⟩, ⟨9, 0, 1073741825, 0⟩] = 11 := by simp [chk, lateB, noneB]
set_option maxHeartbeats 1000000 in
theorem bw22 (which n : Int) (hj : which % 5 = 2) (hk : n % 3 = 2) (w : World) :
    Calls Try.prog 7 #[.int .i64 which, .int .i64 n] w fun e w' => e = .returned (.bool true) ∧ Ext w w' := by
  have g1 := fun w => within_any n 3 (by omega) (by omega) w
  have g2 := fun w => within_any which 5 (by omega) (by omega) w
  rw [hk] at g1
  rw [hj] at g2
  clear hj hk
  have G1 := Lib.hid g1
  have G2 := Lib.hid g2
  clear g1 g2
  go_enter Try.func7, Try.ntmps7
  go_wp2_with fail
  refine (known8_any _).mono ?_
  rintro e w1 ⟨rfl, he1⟩
  go_wp2_with fail
  refine (G1.out _).mono ?_
  rintro e w2 ⟨rfl, rfl⟩
  go_wp2_with fail
  refine (G2.out _).mono ?_
  rintro e w2 ⟨rfl, rfl⟩
  go_wp2_with fail
  have hc := fun c (h : 2 ≤ c) => check_any _ 2 c [⟨5, 3, 0, 0⟩, ⟨9, 0, 1073741825, 0⟩] _ (sthook (w := w1) [⟨5, 3, 0, 0⟩, ⟨9, 0, 1073741825, 0⟩] #[.int .i64 5, .int .i64 3, .int .i64 0, .int .i64 0, .int .i64 9, .int .i64 0, .int .i64 1073741825, .int .i64 0] rfl) (by omega) (by intro a ha; simp at ha; rcases ha with rfl | rfl <;> rfl)
  rw [bl22] at hc
  refine (hc 2 (by omega)).mono ?_
  rintro e w3 ⟨rfl, he3⟩
  clear hc
  go_wp2_with fail
  go_ret
  exact ⟨rfl, he1.trans (Ext.trans (by repeat (first | exact Ext.refl _ | refine Ext.alloc ?_ _)) he3)⟩
theorem bl30 : chk none 0 [⟨5, 3, 0, 0⟩, ⟨9, 1125899906842620, 1, 0⟩] = 0 := by simp [chk, lateB, noneB]
set_option maxHeartbeats 1000000 in
theorem bw30 (which n : Int) (hj : which % 5 = 3) (hk : n % 3 = 0) (w : World) :
    Calls Try.prog 7 #[.int .i64 which, .int .i64 n] w fun e w' => e = .returned (.bool true) ∧ Ext w w' := by
  have g1 := fun w => within_any n 3 (by omega) (by omega) w
  have g2 := fun w => within_any which 5 (by omega) (by omega) w
  rw [hk] at g1
  rw [hj] at g2
  clear hj hk
  have G1 := Lib.hid g1
  have G2 := Lib.hid g2
  clear g1 g2
  go_enter Try.func7, Try.ntmps7
  go_wp2_with fail
  refine (known8_any _).mono ?_
  rintro e w1 ⟨rfl, he1⟩
  go_wp2_with fail
  refine (G1.out _).mono ?_
  rintro e w2 ⟨rfl, rfl⟩
  go_wp2_with fail
  refine (G2.out _).mono ?_
  rintro e w2 ⟨rfl, rfl⟩
  go_wp2_with fail
  have hc := fun c (h : 2 ≤ c) => check_any _ 2 c [⟨5, 3, 0, 0⟩, ⟨9, 1125899906842620, 1, 0⟩] _ (sthook (w := w1) [⟨5, 3, 0, 0⟩, ⟨9, 1125899906842620, 1, 0⟩] #[.int .i64 5, .int .i64 3, .int .i64 0, .int .i64 0, .int .i64 9, .int .i64 1125899906842620, .int .i64 1, .int .i64 0] rfl) (by omega) (by intro a ha; simp at ha; rcases ha with rfl | rfl <;> rfl)
  rw [bl30] at hc
  refine (hc 2 (by omega)).mono ?_
  rintro e w3 ⟨rfl, he3⟩
  clear hc
  go_wp2_with fail
  go_ret
  exact ⟨rfl, he1.trans (Ext.trans (by repeat (first | exact Ext.refl _ | refine Ext.alloc ?_ _)) he3)⟩
theorem bl31 : chk none 0 [⟨5, 3, 0, 0⟩, ⟨9, 1125899906842621, 1, 0⟩] = 0 := by simp [chk, lateB, noneB]
set_option maxHeartbeats 1000000 in
theorem bw31 (which n : Int) (hj : which % 5 = 3) (hk : n % 3 = 1) (w : World) :
    Calls Try.prog 7 #[.int .i64 which, .int .i64 n] w fun e w' => e = .returned (.bool true) ∧ Ext w w' := by
  have g1 := fun w => within_any n 3 (by omega) (by omega) w
  have g2 := fun w => within_any which 5 (by omega) (by omega) w
  rw [hk] at g1
  rw [hj] at g2
  clear hj hk
  have G1 := Lib.hid g1
  have G2 := Lib.hid g2
  clear g1 g2
  go_enter Try.func7, Try.ntmps7
  go_wp2_with fail
  refine (known8_any _).mono ?_
  rintro e w1 ⟨rfl, he1⟩
  go_wp2_with fail
  refine (G1.out _).mono ?_
  rintro e w2 ⟨rfl, rfl⟩
  go_wp2_with fail
  refine (G2.out _).mono ?_
  rintro e w2 ⟨rfl, rfl⟩
  go_wp2_with fail
  have hc := fun c (h : 2 ≤ c) => check_any _ 2 c [⟨5, 3, 0, 0⟩, ⟨9, 1125899906842621, 1, 0⟩] _ (sthook (w := w1) [⟨5, 3, 0, 0⟩, ⟨9, 1125899906842621, 1, 0⟩] #[.int .i64 5, .int .i64 3, .int .i64 0, .int .i64 0, .int .i64 9, .int .i64 1125899906842621, .int .i64 1, .int .i64 0] rfl) (by omega) (by intro a ha; simp at ha; rcases ha with rfl | rfl <;> rfl)
  rw [bl31] at hc
  refine (hc 2 (by omega)).mono ?_
  rintro e w3 ⟨rfl, he3⟩
  clear hc
  go_wp2_with fail
  go_ret
  exact ⟨rfl, he1.trans (Ext.trans (by repeat (first | exact Ext.refl _ | refine Ext.alloc ?_ _)) he3)⟩
theorem bl32 : chk none 0 [⟨5, 3, 0, 0⟩, ⟨9, 1125899906842622, 1, 0⟩] = 13 := by simp [chk, lateB, noneB]
set_option maxHeartbeats 1000000 in
theorem bw32 (which n : Int) (hj : which % 5 = 3) (hk : n % 3 = 2) (w : World) :
    Calls Try.prog 7 #[.int .i64 which, .int .i64 n] w fun e w' => e = .returned (.bool true) ∧ Ext w w' := by
  have g1 := fun w => within_any n 3 (by omega) (by omega) w
  have g2 := fun w => within_any which 5 (by omega) (by omega) w
  rw [hk] at g1
  rw [hj] at g2
  clear hj hk
  have G1 := Lib.hid g1
  have G2 := Lib.hid g2
  clear g1 g2
  go_enter Try.func7, Try.ntmps7
  go_wp2_with fail
  refine (known8_any _).mono ?_
  rintro e w1 ⟨rfl, he1⟩
  go_wp2_with fail
  refine (G1.out _).mono ?_
  rintro e w2 ⟨rfl, rfl⟩
  go_wp2_with fail
  refine (G2.out _).mono ?_
  rintro e w2 ⟨rfl, rfl⟩
  go_wp2_with fail
  have hc := fun c (h : 2 ≤ c) => check_any _ 2 c [⟨5, 3, 0, 0⟩, ⟨9, 1125899906842622, 1, 0⟩] _ (sthook (w := w1) [⟨5, 3, 0, 0⟩, ⟨9, 1125899906842622, 1, 0⟩] #[.int .i64 5, .int .i64 3, .int .i64 0, .int .i64 0, .int .i64 9, .int .i64 1125899906842622, .int .i64 1, .int .i64 0] rfl) (by omega) (by intro a ha; simp at ha; rcases ha with rfl | rfl <;> rfl)
  rw [bl32] at hc
  refine (hc 2 (by omega)).mono ?_
  rintro e w3 ⟨rfl, he3⟩
  clear hc
  go_wp2_with fail
  go_ret
  exact ⟨rfl, he1.trans (Ext.trans (by repeat (first | exact Ext.refl _ | refine Ext.alloc ?_ _)) he3)⟩
theorem bl40 : chk none 0 [⟨5, 3, 0, 0⟩, ⟨9, -2, 1, 0⟩] = 11 := by simp [chk, lateB, noneB]
set_option maxHeartbeats 1000000 in
theorem bw40 (which n : Int) (hj : which % 5 = 4) (hk : n % 3 = 0) (w : World) :
    Calls Try.prog 7 #[.int .i64 which, .int .i64 n] w fun e w' => e = .returned (.bool true) ∧ Ext w w' := by
  have g1 := fun w => within_any n 3 (by omega) (by omega) w
  have g2 := fun w => within_any which 5 (by omega) (by omega) w
  rw [hk] at g1
  rw [hj] at g2
  clear hj hk
  have G1 := Lib.hid g1
  have G2 := Lib.hid g2
  clear g1 g2
  go_enter Try.func7, Try.ntmps7
  go_wp2_with fail
  refine (known8_any _).mono ?_
  rintro e w1 ⟨rfl, he1⟩
  go_wp2_with fail
  refine (G1.out _).mono ?_
  rintro e w2 ⟨rfl, rfl⟩
  go_wp2_with fail
  refine (G2.out _).mono ?_
  rintro e w2 ⟨rfl, rfl⟩
  go_wp2_with fail
  have hc := fun c (h : 2 ≤ c) => check_any _ 2 c [⟨5, 3, 0, 0⟩, ⟨9, -2, 1, 0⟩] _ (sthook (w := w1) [⟨5, 3, 0, 0⟩, ⟨9, -2, 1, 0⟩] #[.int .i64 5, .int .i64 3, .int .i64 0, .int .i64 0, .int .i64 9, .int .i64 (-2), .int .i64 1, .int .i64 0] rfl) (by omega) (by intro a ha; simp at ha; rcases ha with rfl | rfl <;> rfl)
  rw [bl40] at hc
  refine (hc 2 (by omega)).mono ?_
  rintro e w3 ⟨rfl, he3⟩
  clear hc
  go_wp2_with fail
  go_ret
  exact ⟨rfl, he1.trans (Ext.trans (by repeat (first | exact Ext.refl _ | refine Ext.alloc ?_ _)) he3)⟩
theorem bl41 : chk none 0 [⟨5, 3, 0, 0⟩, ⟨9, -1, 1, 0⟩] = 11 := by simp [chk, lateB, noneB]
set_option maxHeartbeats 1000000 in
theorem bw41 (which n : Int) (hj : which % 5 = 4) (hk : n % 3 = 1) (w : World) :
    Calls Try.prog 7 #[.int .i64 which, .int .i64 n] w fun e w' => e = .returned (.bool true) ∧ Ext w w' := by
  have g1 := fun w => within_any n 3 (by omega) (by omega) w
  have g2 := fun w => within_any which 5 (by omega) (by omega) w
  rw [hk] at g1
  rw [hj] at g2
  clear hj hk
  have G1 := Lib.hid g1
  have G2 := Lib.hid g2
  clear g1 g2
  go_enter Try.func7, Try.ntmps7
  go_wp2_with fail
  refine (known8_any _).mono ?_
  rintro e w1 ⟨rfl, he1⟩
  go_wp2_with fail
  refine (G1.out _).mono ?_
  rintro e w2 ⟨rfl, rfl⟩
  go_wp2_with fail
  refine (G2.out _).mono ?_
  rintro e w2 ⟨rfl, rfl⟩
  go_wp2_with fail
  have hc := fun c (h : 2 ≤ c) => check_any _ 2 c [⟨5, 3, 0, 0⟩, ⟨9, -1, 1, 0⟩] _ (sthook (w := w1) [⟨5, 3, 0, 0⟩, ⟨9, -1, 1, 0⟩] #[.int .i64 5, .int .i64 3, .int .i64 0, .int .i64 0, .int .i64 9, .int .i64 (-1), .int .i64 1, .int .i64 0] rfl) (by omega) (by intro a ha; simp at ha; rcases ha with rfl | rfl <;> rfl)
  rw [bl41] at hc
  refine (hc 2 (by omega)).mono ?_
  rintro e w3 ⟨rfl, he3⟩
  clear hc
  go_wp2_with fail
  go_ret
  exact ⟨rfl, he1.trans (Ext.trans (by repeat (first | exact Ext.refl _ | refine Ext.alloc ?_ _)) he3)⟩
theorem bl42 : chk none 0 [⟨5, 3, 0, 0⟩, ⟨9, 0, 1, 0⟩] = 0 := by simp [chk, lateB, noneB]
set_option maxHeartbeats 1000000 in
theorem bw42 (which n : Int) (hj : which % 5 = 4) (hk : n % 3 = 2) (w : World) :
    Calls Try.prog 7 #[.int .i64 which, .int .i64 n] w fun e w' => e = .returned (.bool true) ∧ Ext w w' := by
  have g1 := fun w => within_any n 3 (by omega) (by omega) w
  have g2 := fun w => within_any which 5 (by omega) (by omega) w
  rw [hk] at g1
  rw [hj] at g2
  clear hj hk
  have G1 := Lib.hid g1
  have G2 := Lib.hid g2
  clear g1 g2
  go_enter Try.func7, Try.ntmps7
  go_wp2_with fail
  refine (known8_any _).mono ?_
  rintro e w1 ⟨rfl, he1⟩
  go_wp2_with fail
  refine (G1.out _).mono ?_
  rintro e w2 ⟨rfl, rfl⟩
  go_wp2_with fail
  refine (G2.out _).mono ?_
  rintro e w2 ⟨rfl, rfl⟩
  go_wp2_with fail
  have hc := fun c (h : 2 ≤ c) => check_any _ 2 c [⟨5, 3, 0, 0⟩, ⟨9, 0, 1, 0⟩] _ (sthook (w := w1) [⟨5, 3, 0, 0⟩, ⟨9, 0, 1, 0⟩] #[.int .i64 5, .int .i64 3, .int .i64 0, .int .i64 0, .int .i64 9, .int .i64 0, .int .i64 1, .int .i64 0] rfl) (by omega) (by intro a ha; simp at ha; rcases ha with rfl | rfl <;> rfl)
  rw [bl42] at hc
  refine (hc 2 (by omega)).mono ?_
  rintro e w3 ⟨rfl, he3⟩
  clear hc
  go_wp2_with fail
  go_ret
  exact ⟨rfl, he1.trans (Ext.trans (by repeat (first | exact Ext.refl _ | refine Ext.alloc ?_ _)) he3)⟩

theorem bounds_walk (which n : Int) (w : World) :
    Calls Try.prog 7 #[.int .i64 which, .int .i64 n] w fun e w' => e = .returned (.bool true) ∧ Ext w w' := by
  have hk : n % 3 = 0 ∨ n % 3 = 1 ∨ n % 3 = 2 := by omega
  have hj : which % 5 = 0 ∨ which % 5 = 1 ∨ which % 5 = 2 ∨ which % 5 = 3 ∨ which % 5 = 4 := by omega
  rcases hj with hj | hj | hj | hj | hj <;> rcases hk with hk | hk | hk
  · exact bw00 which n hj hk w
  · exact bw01 which n hj hk w
  · exact bw02 which n hj hk w
  · exact bw10 which n hj hk w
  · exact bw11 which n hj hk w
  · exact bw12 which n hj hk w
  · exact bw20 which n hj hk w
  · exact bw21 which n hj hk w
  · exact bw22 which n hj hk w
  · exact bw30 which n hj hk w
  · exact bw31 which n hj hk w
  · exact bw32 which n hj hk w
  · exact bw40 which n hj hk w
  · exact bw41 which n hj hk w
  · exact bw42 which n hj hk w
end Go.Proofs.Ytbijpbkekdeilaa
