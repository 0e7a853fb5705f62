/- Plain law of the statements' programs: signs out of numbers. -/
import Derived.Test.YtlahecofjlaojaaVmRun
namespace Go.Proofs.Ytlahecofjlaojaa
set_option linter.unusedVariables false
open Go.RowKit

/-- The j-th byte of a number of 64 bits. -/
def byteAt (k : Int) (j : Nat) : Nat := ((k % 18446744073709551616).toNat / 256 ^ j) % 256
def bytes8 (k : Int) : List Nat := [byteAt k 7, byteAt k 6, byteAt k 5, byteAt k 4, byteAt k 3, byteAt k 2, byteAt k 1, byteAt k 0]
theorem byteAt_lt (k : Int) (j : Nat) : byteAt k j < 256 := by unfold byteAt; omega
theorem bytes8_lt (k : Int) : ∀ x ∈ bytes8 k, x < 256 := by
  intro x hx
  simp only [bytes8, List.mem_cons, List.not_mem_nil, or_false] at hx
  rcases hx with rfl | rfl | rfl | rfl | rfl | rfl | rfl | rfl <;> exact byteAt_lt _ _
theorem fold8 (u : Nat) (h : u < 18446744073709551616) :
    (((((((((0 * 256 + u / 72057594037927936 % 256) * 256 + u / 281474976710656 % 256) * 256 + u / 1099511627776 % 256) * 256 + u / 4294967296 % 256) * 256 + u / 16777216 % 256) * 256 + u / 65536 % 256) * 256 + u / 256 % 256) * 256 + u / 1 % 256)) = u := by omega
theorem num8_bytes8 (k : Int) (h : I64 k) : num8 (bytes8 k) = k := by
  unfold num8 bytes8 byteAt
  simp only [List.foldl_cons, List.foldl_nil, Nat.reducePow]
  have h0 : (k % 18446744073709551616).toNat < 18446744073709551616 := by omega
  rw [fold8 _ h0]
  unfold I64 at h
  unfold wrap64
  omega
/-- One number's signs behind what is there. -/
def opOf (x : Int) : Nat := (x % 17).toNat
def argOf (x : Int) : Int := if 0 < x.tdiv 17 % 3 then (x.tdiv 17).tdiv 3 % 70 - 4 else x.tdiv 17
def codeStep (b : List Nat) (x : Int) : List Nat :=
  if opOf x = 1 then b ++ [1] ++ bytes8 (argOf x)
  else if opOf x = 13 then b ++ [13] ++ [(x.tdiv 17 % 40).toNat]
  else b ++ [opOf x]
def codeV (b : List Nat) : List Int → List Nat
  | [] => b
  | x :: xs => if b.length < 50 then codeV (codeStep b x) xs else b
theorem codeStep_len (b : List Nat) (x : Int) : (codeStep b x).length ≤ b.length + 9 := by
  unfold codeStep
  split
  · simp [bytes8]
  · split <;> simp
theorem codeV_len : ∀ (l : List Int) (b : List Nat), b.length ≤ 58 → (codeV b l).length ≤ 58
  | [], b, h => h
  | x :: xs, b, h => by
    unfold codeV
    split
    · exact codeV_len xs _ (by have := codeStep_len b x; omega)
    · exact h
theorem opOf_lt (x : Int) : opOf x < 17 := by unfold opOf; omega
theorem codeStep_lt (b : List Nat) (x : Int) (h : ∀ y ∈ b, y < 256) : ∀ y ∈ codeStep b x, y < 256 := by
  have h17 := opOf_lt x
  intro y hy
  unfold codeStep at hy
  split at hy
  · simp only [List.mem_append, List.mem_singleton] at hy
    rcases hy with (hy | rfl) | hy
    · exact h y hy
    · decide
    · exact bytes8_lt _ y hy
  · split at hy
    · simp only [List.mem_append, List.mem_singleton] at hy
      rcases hy with (hy | rfl) | rfl
      · exact h y hy
      · decide
      · omega
    · simp only [List.mem_append, List.mem_singleton] at hy
      rcases hy with hy | rfl
      · exact h y hy
      · omega
theorem codeV_lt : ∀ (l : List Int) (b : List Nat), (∀ y ∈ b, y < 256) → ∀ y ∈ codeV b l, y < 256
  | [], b, h => h
  | x :: xs, b, h => by
    unfold codeV
    split
    · exact codeV_lt xs _ (codeStep_lt b x h)
    · exact h
theorem codeV_go (b : List Nat) (l : List Int) (i : Nat) (hi : i < l.length) (hb : b.length < 50) : codeV b (l.drop i) = codeV (codeStep b (l.getD i 0)) (l.drop (i + 1)) := by
  rw [List.drop_eq_getElem_cons hi]
  show (if b.length < 50 then codeV (codeStep b l[i]) (l.drop (i + 1)) else b) = _
  rw [if_pos hb]
  simp [hi]
theorem codeV_end (b : List Nat) (l : List Int) (i : Nat) (h : l.length ≤ i ∨ 50 ≤ b.length) : codeV b (l.drop i) = b := by
  by_cases hi : i < l.length
  · rw [List.drop_eq_getElem_cons hi]
    show (if b.length < 50 then codeV (codeStep b l[i]) (l.drop (i + 1)) else b) = _
    rw [if_neg (by omega)]
  · rw [List.drop_of_length_le (by omega)]; rfl
end Go.Proofs.Ytlahecofjlaojaa
