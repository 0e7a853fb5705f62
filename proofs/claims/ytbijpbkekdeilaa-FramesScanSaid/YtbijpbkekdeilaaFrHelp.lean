/- Helpers of chapter 3's laws. -/
import Derived.Test.YtbijpbkekdeilaaROne
import Derived.Test.YtbijpbkekdeilaaScanLaw
import Derived.Lib.SlBytesConst
namespace Go.Proofs.Ytbijpbkekdeilaa
set_option linter.unusedVariables false
open Go.RowKit

theorem crc_known : crcN [49, 50, 51, 52, 53, 54, 55, 56, 57] = 3421780262 := by kernel_rfl

theorem tmod_bd3 (a n : Int) (hn : 0 < n) : -n < a.tmod n ∧ a.tmod n < n := by
  have h1 := Int.tmod_lt_of_pos a hn
  have h2 := Int.tmod_lt_of_pos (-a) hn
  rw [Int.neg_tmod] at h2
  omega
theorem tmod_neg3 (a n : Int) (hn : 0 < n) (h : a.tmod n < 0) : a.tmod n + n = a % n := by
  rw [Int.emod_eq_tmod]
  have h1 : ¬ 0 ≤ a := fun h0 => by have := Int.tmod_nonneg n h0; omega
  have h2 : ¬ n ∣ a := fun h0 => by have := Int.tmod_eq_zero_of_dvd h0; omega
  simp [h1, h2]
  omega
theorem tmod_pos3 (a n : Int) (hn : 0 < n) (h : 0 ≤ a.tmod n) : a.tmod n = a % n := by
  rw [Int.emod_eq_tmod]
  by_cases h1 : 0 ≤ a
  · simp [h1]
  · by_cases h2 : n ∣ a
    · simp [h2]
    · exfalso
      have h3 : a.tmod n ≠ 0 := fun h0 => h2 (Int.dvd_of_tmod_eq_zero h0)
      have h4 := Int.tmod_nonneg n (a := -a) (by omega)
      rw [Int.neg_tmod] at h4
      omega

theorem within3 (a n : Int) (hn : 0 < n) (hn2 : n < 4611686018427387904) (w : World) :
    Calls Try.prog 24 #[.int .i64 a, .int .i64 n] w fun e w' => e = .returned (.int .i64 (a % n)) ∧ w = w' := by
  have hb := tmod_bd3 a n hn
  obtain ⟨hb1, hb2⟩ := hb
  go_enter Try.func24, Try.ntmps24
  go_wp2
  · have h : a.tmod n < 0 := by assumption
    go_ret
    exact ⟨ret_int1 (tmod_neg3 a n hn h), rfl⟩
  · have h : 0 ≤ a.tmod n := by assumption
    go_ret
    exact ⟨ret_int1 (tmod_pos3 a n hn h), rfl⟩

theorem box_marked (w : World) (t : TypeId) (l : List Value) (r : Nat × Nat) : RS (w.alloc (.cells l.toArray t r)) 1 (some ⟨w.heap.size, 0, none⟩) l.length l := by
  refine ⟨by simp, .inr ⟨w.heap.size, 0, rfl, by show _ < (w.heap.push _).size; rw [Array.size_push]; omega, fun j u hu => ?_⟩⟩
  rw [Nat.zero_add, cell_of_row _ w.heap.size j l.toArray t r (heap_alloc_new w _)]
  simpa using hu

set_option maxHeartbeats 400000 in
theorem known3 (w : World) : Calls Try.prog 21 #[] w fun e w' => e = .returned (.bool true) ∧ Ext w w' := by
  have hcv := Lib.run_convert_bytes_const (P := Try.prog) w 35 5 #[.int .u8 49, .int .u8 50, .int .u8 51, .int .u8 52, .int .u8 53, .int .u8 54, .int .u8 55, .int .u8 56, .int .u8 57] 9 9 Try.underlying35 Try.underlying5
  have hb : Bytes (w.alloc (.cells #[.int .u8 49, .int .u8 50, .int .u8 51, .int .u8 52, .int .u8 53, .int .u8 54, .int .u8 55, .int .u8 56, .int .u8 57] 5 (9, 10))) (some ⟨w.heap.size, 0, none⟩) 9 [49, 50, 51, 52, 53, 54, 55, 56, 57] :=
    .of (box_marked w 5 [.int .u8 49, .int .u8 50, .int .u8 51, .int .u8 52, .int .u8 53, .int .u8 54, .int .u8 55, .int .u8 56, .int .u8 57] (9, 10)) rfl
  go_enter Try.func21, Try.ntmps21
  go_wp2_with fail
  refine (crc_any _ 9 9 _ _ hb (by simp [maxLen]) (by decide)).mono ?_
  rw [crc_known]
  rintro e w1 ⟨rfl, he1⟩
  go_wp2_with fail
  go_ret
  exact ⟨rfl, ((Ext.refl w).alloc _).trans he1⟩
end Go.Proofs.Ytbijpbkekdeilaa
