/- The laws' helper within, for each chapter that has one. -/
import Derived.Test.YtlahecofjlaojaaRows
import Derived.Test.YtlahecofjlaojaaMem2
namespace Go.Proofs.Ytlahecofjlaojaa
set_option linter.unusedVariables false
open Go.RowKit

theorem tmod_bdW (a n : Int) (hn : 0 < n) : -n < a.tmod n ∧ a.tmod n < n := by
  have h1 := Int.tmod_lt_of_pos a hn
  have h2 := Int.tmod_lt_of_pos (-a) hn
  rw [Int.neg_tmod] at h2
  omega
theorem tmod_negW (a n : Int) (hn : 0 < n) (h : a.tmod n < 0) : a.tmod n + n = a % n := by
  rw [Int.emod_eq_tmod]
  have h1 : ¬ 0 ≤ a := fun h0 => by have := Int.tmod_nonneg n h0; omega
  have h2 : ¬ n ∣ a := fun h0 => by have := Int.tmod_eq_zero_of_dvd h0; omega
  simp [h1, h2]
  omega
theorem tmod_posW (a n : Int) (hn : 0 < n) (h : 0 ≤ a.tmod n) : a.tmod n = a % n := by
  rw [Int.emod_eq_tmod]
  by_cases h1 : 0 ≤ a
  · simp [h1]
  · by_cases h2 : n ∣ a
    · simp [h2]
    · exfalso
      have h3 : a.tmod n ≠ 0 := fun h0 => h2 (Int.dvd_of_tmod_eq_zero h0)
      have h4 := Int.tmod_nonneg n (a := -a) (by omega)
      rw [Int.neg_tmod] at h4
      omega
theorem ret_intW {k : IntKind} {a b : Int} (h : a = b) : Ending.returned (.int k a) = .returned (.int k b) := by rw [h]
theorem emod_natW (a : Int) (n : Int) (m : Nat) (hn : n = m) (h : 0 < m) : ∃ p : Nat, a % n = p ∧ p < m := by
  subst hn
  have h1 := Int.emod_nonneg a (show ((m : Nat) : Int) ≠ 0 by omega)
  have h2 := Int.emod_lt_of_pos a (show (0 : Int) < (m : Nat) by omega)
  exact ⟨(a % m).toNat, by omega, by omega⟩

theorem within6 (a n : Int) (hn : 0 < n) (hn2 : n < 4611686018427387904) (w : World) :
    Calls Try.prog 18 #[.int .i64 a, .int .i64 n] w fun e w' => e = .returned (.int .i64 (a % n)) ∧ w' = w := by
  obtain ⟨hb1, hb2⟩ := tmod_bdW a n hn
  go_enter Try.func18, Try.ntmps18
  go_wp2
  · have h : a.tmod n < 0 := by assumption
    go_ret
    exact ⟨ret_intW (tmod_negW a n hn h), rfl⟩
  · have h : 0 ≤ a.tmod n := by assumption
    go_ret
    exact ⟨ret_intW (tmod_posW a n hn h), rfl⟩
end Go.Proofs.Ytlahecofjlaojaa
