/- The machine: one, two, product. -/
import Derived.Test.YtlahecofjlaojaaVm2
import Derived.Shelf.Bits.Mul64
namespace Go.Proofs.Ytlahecofjlaojaa
set_option linter.unusedVariables false
open Go.RowKit

set_option maxHeartbeats 400000 in
theorem vone_any (op : Nat) (a : Int) (w : World) (h : op = 8 ∨ op = 10 ∨ op = 14 ∨ op = 15) :
    Calls Try.prog 40 #[.int .u8 (op : Int), .int .i64 a] w fun e w' => ∃ A, e = .returned (.slice A (oneV op a).length (oneV op a).length) ∧ Nums .i64 w' A (oneV op a).length (oneV op a) ∧ Ext w w' := by
  rcases h with rfl | rfl | rfl | rfl
  · have he : oneV 8 a = [a, a] := rfl
    rw [he]
    go_enter Try.func40, Try.ntmps40
    go_wp2_with fail
    go_ret
    exact ⟨_, rfl, ⟨rfl, box_rs w 3 1 [.int .i64 a, .int .i64 a] 2 rfl⟩, (Ext.refl w).alloc _⟩
  · have he : oneV 10 a = [] := rfl
    rw [he]
    go_enter Try.func40, Try.ntmps40
    go_wp2_with fail
    go_ret
    exact ⟨none, rfl, ⟨rfl, RS.nil _ _ _⟩, Ext.refl w⟩
  · have he : oneV 14 a = [i32V a] := rfl
    rw [he]
    go_enter Try.func40, Try.ntmps40
    go_wp2_with fail
    go_ret
    exact ⟨_, rfl, ⟨rfl, box_rs w 3 1 [.int .i64 (i32V a)] 1 rfl⟩, (Ext.refl w).alloc _⟩
  · have he : oneV 15 a = [u8V a] := rfl
    rw [he]
    go_enter Try.func40, Try.ntmps40
    go_wp2_with fail
    go_ret
    exact ⟨_, rfl, ⟨rfl, box_rs w 3 1 [.int .i64 (u8V a)] 1 rfl⟩, (Ext.refl w).alloc _⟩

theorem ret_two {x y x' y' : Int} (h : x = x') (k : y = y') : Ending.returned (.tuple #[.int .i64 x, .int .i64 y]) = .returned (.tuple #[.int .i64 x', .int .i64 y']) := by rw [h, k]
theorem add_test {a b : Int} (a1 : -9223372036854775808 ≤ a) (a2 : a ≤ 9223372036854775807) (b1 : -9223372036854775808 ≤ b) (b2 : b ≤ 9223372036854775807) :
    (decide (a < wrap64 (a + b)) == decide (0 < b)) = in64 (a + b) ∧ (in64 (a + b) = true → wrap64 (a + b) = a + b) := by
  refine ⟨?_, fun h => ?_⟩
  · unfold in64 wrap64
    by_cases h1 : -9223372036854775808 ≤ a + b <;> by_cases h2 : a + b ≤ 9223372036854775807 <;> by_cases h3 : 0 < b <;> simp [h1, h2, h3] <;> omega
  · unfold in64 at h
    simp at h
    unfold wrap64
    omega
theorem sub_test {a b : Int} (a1 : -9223372036854775808 ≤ a) (a2 : a ≤ 9223372036854775807) (b1 : -9223372036854775808 ≤ b) (b2 : b ≤ 9223372036854775807) :
    (decide (wrap64 (a - b) < a) == decide (0 < b)) = in64 (a - b) ∧ (in64 (a - b) = true → wrap64 (a - b) = a - b) := by
  refine ⟨?_, fun h => ?_⟩
  · unfold in64 wrap64
    by_cases h1 : -9223372036854775808 ≤ a - b <;> by_cases h2 : a - b ≤ 9223372036854775807 <;> by_cases h3 : 0 < b <;> simp [h1, h2, h3] <;> omega
  · unfold in64 at h
    simp at h
    unfold wrap64
    omega

set_option maxHeartbeats 400000 in
theorem vtwo_add (a b : Int) (w : World) (ha : -9223372036854775808 ≤ a ∧ a ≤ 9223372036854775807) (hb : -9223372036854775808 ≤ b ∧ b ≤ 9223372036854775807) :
    Calls Try.prog 38 #[.int .u8 2, .int .i64 a, .int .i64 b] w fun e w' => e = .returned (.tuple #[.int .i64 (twoV 2 a b).2, .int .i64 ((twoV 2 a b).1 : Int)]) ∧ w' = w := by
  obtain ⟨a1, a2⟩ := ha
  obtain ⟨b1, b2⟩ := hb
  obtain ⟨t1, t2⟩ := add_test a1 a2 b1 b2
  have he : twoV 2 a b = if in64 (a + b) then (0, a + b) else (11, 0) := rfl
  have He := Lib.hid he
  have T1 := Lib.hid t1
  have T2 := Lib.hid t2
  clear t1 t2 he
  go_enter Try.func38, Try.ntmps38
  go_wp2_with fail
  · have h : (decide (a < wrap64 (a + b)) == decide (0 < b)) = true := by assumption
    rw [T1.out] at h
    go_ret2
    exact ⟨ret_two (by rw [He.out, if_pos h, T2.out h]) (by rw [He.out, if_pos h]; rfl), rfl⟩
  · have h : (decide (a < wrap64 (a + b)) == decide (0 < b)) = false := by assumption
    rw [T1.out] at h
    go_ret2
    exact ⟨ret_two (by rw [He.out, if_neg (by simp [h])]) (by rw [He.out, if_neg (by simp [h])]; rfl), rfl⟩
set_option maxHeartbeats 400000 in
theorem vtwo_sub (a b : Int) (w : World) (ha : -9223372036854775808 ≤ a ∧ a ≤ 9223372036854775807) (hb : -9223372036854775808 ≤ b ∧ b ≤ 9223372036854775807) :
    Calls Try.prog 38 #[.int .u8 3, .int .i64 a, .int .i64 b] w fun e w' => e = .returned (.tuple #[.int .i64 (twoV 3 a b).2, .int .i64 ((twoV 3 a b).1 : Int)]) ∧ w' = w := by
  obtain ⟨a1, a2⟩ := ha
  obtain ⟨b1, b2⟩ := hb
  obtain ⟨t1, t2⟩ := sub_test a1 a2 b1 b2
  have he : twoV 3 a b = if in64 (a - b) then (0, a - b) else (11, 0) := rfl
  have He := Lib.hid he
  have T1 := Lib.hid t1
  have T2 := Lib.hid t2
  clear t1 t2 he
  go_enter Try.func38, Try.ntmps38
  go_wp2_with fail
  · have h : (decide (wrap64 (a - b) < a) == decide (0 < b)) = true := by assumption
    rw [T1.out] at h
    go_ret2
    exact ⟨ret_two (by rw [He.out, if_pos h, T2.out h]) (by rw [He.out, if_pos h]; rfl), rfl⟩
  · have h : (decide (wrap64 (a - b) < a) == decide (0 < b)) = false := by assumption
    rw [T1.out] at h
    go_ret2
    exact ⟨ret_two (by rw [He.out, if_neg (by simp [h])]) (by rw [He.out, if_neg (by simp [h])]; rfl), rfl⟩
set_option maxHeartbeats 400000 in
theorem vtwo_shift (op : Nat) (hop : op = 5 ∨ op = 6) (a b : Int) (w : World) (ha : -9223372036854775808 ≤ a ∧ a ≤ 9223372036854775807) (hb : -9223372036854775808 ≤ b ∧ b ≤ 9223372036854775807) :
    Calls Try.prog 38 #[.int .u8 (op : Int), .int .i64 a, .int .i64 b] w fun e w' => e = .returned (.tuple #[.int .i64 (twoV op a b).2, .int .i64 ((twoV op a b).1 : Int)]) ∧ w' = w := by
  obtain ⟨a1, a2⟩ := ha
  obtain ⟨b1, b2⟩ := hb
  rcases hop with rfl | rfl
  · by_cases hneg : b < 0
    · have he : twoV 5 a b = (1, 0) := by unfold twoV; rw [if_neg (by decide), if_neg (by decide), if_neg (by decide), if_pos rfl, if_pos hneg]
      rw [he]
      go_enter Try.func38, Try.ntmps38
      go_wp2_with fail
      go_ret2
      exact ⟨rfl, rfl⟩
    · have he : twoV 5 a b = (0, shlV a b) := by unfold twoV; rw [if_neg (by decide), if_neg (by decide), if_neg (by decide), if_pos rfl, if_neg hneg]
      rw [he]
      go_enter Try.func38, Try.ntmps38
      go_wp2_with fail
      go_ret2
      first | exact ⟨rfl, rfl⟩ | exact ⟨ret_two (by unfold shlV wrap64; exact IntKind.wrap_i64 _) rfl, rfl⟩
  · by_cases hneg : b < 0
    · have he : twoV 6 a b = (1, 0) := by unfold twoV; rw [if_neg (by decide), if_neg (by decide), if_neg (by decide), if_neg (by decide), if_pos rfl, if_pos hneg]
      rw [he]
      go_enter Try.func38, Try.ntmps38
      go_wp2_with fail
      go_ret2
      exact ⟨rfl, rfl⟩
    · have he : twoV 6 a b = (0, shrV a b) := by unfold twoV; rw [if_neg (by decide), if_neg (by decide), if_neg (by decide), if_neg (by decide), if_pos rfl, if_neg hneg]
      rw [he]
      go_enter Try.func38, Try.ntmps38
      go_wp2_with fail
      go_ret2
      exact ⟨rfl, rfl⟩
set_option maxHeartbeats 400000 in
theorem vtwo_and (a b : Int) (w : World) (ha : -9223372036854775808 ≤ a ∧ a ≤ 9223372036854775807) (hb : -9223372036854775808 ≤ b ∧ b ≤ 9223372036854775807) :
    Calls Try.prog 38 #[.int .u8 7, .int .i64 a, .int .i64 b] w fun e w' => e = .returned (.tuple #[.int .i64 (twoV 7 a b).2, .int .i64 ((twoV 7 a b).1 : Int)]) ∧ w' = w := by
  have he : twoV 7 a b = (0, bits .and .i64 a b) := rfl
  rw [he]
  obtain ⟨a1, a2⟩ := ha
  obtain ⟨b1, b2⟩ := hb
  go_enter Try.func38, Try.ntmps38
  go_wp2_with fail
  go_ret2
  exact ⟨rfl, rfl⟩

set_option maxHeartbeats 1000000 in
theorem mul64_any (x y : Nat) (hx : x < 18446744073709551616) (hy : y < 18446744073709551616) (w : World) :
    Calls Try.prog 45 #[.int .u64 x, .int .u64 y] w fun e w' => e = .returned (.tuple #[.int .u64 ((x * y / 18446744073709551616 : Nat) : Int), .int .u64 ((x * y % 18446744073709551616 : Nat) : Int)]) ∧ w' = w := by
  obtain ⟨bd, bt, bw, hhi⟩ := Lib.mul64_hi x y hx hy
  have ba := Lib.half_mul_le (a := x / 4294967296) (b := y / 4294967296) (by omega) (by omega)
  have bb := Lib.half_mul_le (a := x / 4294967296) (b := y % 4294967296) (by omega) (by omega)
  have bc := Lib.half_mul_le (a := x % 4294967296) (b := y / 4294967296) (by omega) (by omega)
  have ba' : x / 4294967296 * (y / 4294967296) < 18446744073709551616 := by omega
  have bb' : x / 4294967296 * (y % 4294967296) < 18446744073709551616 := by omega
  have bc' : x % 4294967296 * (y / 4294967296) < 18446744073709551616 := by omega
  have bh1 : x / 4294967296 * (y / 4294967296) + (x / 4294967296 * (y % 4294967296) + x % 4294967296 * (y % 4294967296) / 4294967296) / 4294967296 < 18446744073709551616 := by omega
  have bh : x / 4294967296 * (y / 4294967296) + (x / 4294967296 * (y % 4294967296) + x % 4294967296 * (y % 4294967296) / 4294967296) / 4294967296 + ((x / 4294967296 * (y % 4294967296) + x % 4294967296 * (y % 4294967296) / 4294967296) % 4294967296 + x % 4294967296 * (y / 4294967296)) / 4294967296 < 18446744073709551616 := by omega
  go_enter Try.func45, Try.ntmps45
  go_wp2
  simp only [Mul64.maskN x hx, Mul64.maskN y hy, Mul64.divN, Mul64.mulN, Mul64.addN, Mul64.wrapN _ bd, Mul64.wrapN _ bb', Mul64.wrapN _ bt, Mul64.maskN _ bt, Mul64.wrapN _ bc', Mul64.wrapN _ bw, Mul64.wrapN _ ba', Mul64.wrapN _ bh1, Mul64.wrapN _ bh, Mul64.wrapM (x * y)]
  rw [hhi]
  go_ret2
  exact ⟨rfl, rfl⟩

def prodN (a b : Int) : Int := if in64 (a * b) then a * b else 0
theorem neg_u64 {a : Int} (h1 : -9223372036854775808 ≤ a) (h2 : a < 0) : IntKind.u64.wrap (-IntKind.u64.wrap a) = (a.natAbs : Int) := by
  rw [IntKind.wrap_u64, IntKind.wrap_u64]
  omega
theorem ret_prod {x y : Int} {b c : Bool} (h : x = y) (k : b = c) : Ending.returned (.tuple #[.int .i64 x, .bool b]) = .returned (.tuple #[.int .i64 y, .bool c]) := by rw [h, k]
theorem prod_in {P x : Int} (h : x = P) (i : in64 P = true) (a b : Int) (hab : a * b = P) : x = prodN a b ∧ true = in64 (a * b) := by
  unfold prodN
  rw [hab, if_pos i]
  exact ⟨h, i.symm⟩
theorem prod_out {P : Int} (i : in64 P = false) (a b : Int) (hab : a * b = P) : 0 = prodN a b ∧ false = in64 (a * b) := by
  unfold prodN
  rw [hab, if_neg (by simp [i])]
  exact ⟨rfl, i.symm⟩
set_option maxHeartbeats 1000000 in
theorem prod_nn (a b : Int) (w : World) (ha : -9223372036854775808 ≤ a ∧ a ≤ 9223372036854775807) (hb : -9223372036854775808 ≤ b ∧ b ≤ 9223372036854775807) (ha0 : a < 0) (hb0 : b < 0) :
    Calls Try.prog 44 #[.int .i64 a, .int .i64 b] w fun e w' => e = .returned (.tuple #[.int .i64 (prodN a b), .bool (in64 (a * b))]) ∧ w' = w := by
  obtain ⟨a1, a2⟩ := ha
  obtain ⟨b1, b2⟩ := hb
  have na := neg_u64 a1 ha0
  obtain ⟨n, hn⟩ : ∃ n, n = a.natAbs := ⟨_, rfl⟩
  rw [← hn] at na
  have nb := neg_u64 b1 hb0
  obtain ⟨m, hm⟩ : ∃ m, m = b.natAbs := ⟨_, rfl⟩
  rw [← hm] at nb
  have ea : a = -(n : Int) := by omega
  have eb : b = -(m : Int) := by omega
  have ha0b : a * b = ((n * m : Nat) : Int) := by rw [Int.natCast_mul, ea, eb, Int.neg_mul_neg]
  have hA := Lib.hid ea
  have Hn := Lib.hid hn
  have hB := Lib.hid eb
  have Hm := Lib.hid hm
  have hmul := mul64_any n m (by omega) (by omega) w
  clear ea hn eb hm
  have hdm := Nat.div_add_mod (n * m) 18446744073709551616
  have hlt := Nat.mod_lt (n * m) (show 0 < 18446744073709551616 by decide)
  generalize n * m = P at *
  generalize P / 18446744073709551616 = hi at *
  generalize P % 18446744073709551616 = lo at *
  have Hab := Lib.hid ha0b
  have Hdm := Lib.hid hdm
  clear ha0b hdm
  go_enter Try.func44, Try.ntmps44
  go_wp2_with fail
  refine hmul.mono ?_
  rintro e w' ⟨rfl, rfl⟩
  clear hmul a1 a2 b1 b2
  by_cases hh : hi = 0 ∧ lo ≤ 9223372036854775807
  · obtain ⟨rfl, hlo⟩ := hh
    have hP : lo = P := by have := Hdm.out; omega
    subst hP
    have K := prod_in (P := ((lo : Nat) : Int)) (x := ((lo : Nat) : Int)) rfl (by unfold in64; simp; omega) a b (Hab.out)
    replace K := Lib.hid K
    clear hlt
    go_wp2_with fail
    go_ret2
    exact ⟨ret_prod K.out.1 K.out.2, rfl⟩
  · have hin : in64 (((P : Nat) : Int)) = false := by have := Hdm.out; unfold in64; simp; omega
    have K := prod_out hin a b Hab.out
    replace K := Lib.hid K
    by_cases h0 : hi = 0
    · have hlo : 9223372036854775807 < lo := by omega
      subst h0
      clear hin hh hlt
      go_wp2_with fail
      go_ret2
      exact ⟨ret_prod K.out.1 K.out.2, rfl⟩
    · have hpos : 0 < hi := by omega
      clear hin hh hlt h0
      go_wp2_with fail
      go_ret2
      exact ⟨ret_prod K.out.1 K.out.2, rfl⟩
set_option maxHeartbeats 1000000 in
theorem prod_pp (a b : Int) (w : World) (ha : -9223372036854775808 ≤ a ∧ a ≤ 9223372036854775807) (hb : -9223372036854775808 ≤ b ∧ b ≤ 9223372036854775807) (ha0 : 0 ≤ a) (hb0 : 0 ≤ b) :
    Calls Try.prog 44 #[.int .i64 a, .int .i64 b] w fun e w' => e = .returned (.tuple #[.int .i64 (prodN a b), .bool (in64 (a * b))]) ∧ w' = w := by
  obtain ⟨a1, a2⟩ := ha
  obtain ⟨b1, b2⟩ := hb
  obtain ⟨n, rfl⟩ := Int.eq_ofNat_of_zero_le ha0
  obtain ⟨m, rfl⟩ := Int.eq_ofNat_of_zero_le hb0
  have hab : (n : Int) * (m : Int) = ((n * m : Nat) : Int) := by rw [Int.natCast_mul]
  have hmul := mul64_any n m (by omega) (by omega) w
  have hdm := Nat.div_add_mod (n * m) 18446744073709551616
  have hlt := Nat.mod_lt (n * m) (show 0 < 18446744073709551616 by decide)
  generalize n * m = P at *
  generalize P / 18446744073709551616 = hi at *
  generalize P % 18446744073709551616 = lo at *
  have Hab := Lib.hid hab
  have Hdm := Lib.hid hdm
  clear hab hdm
  go_enter Try.func44, Try.ntmps44
  go_wp2_with fail
  refine hmul.mono ?_
  rintro e w' ⟨rfl, rfl⟩
  clear hmul a1 a2 b1 b2
  by_cases hh : hi = 0 ∧ lo ≤ 9223372036854775807
  · obtain ⟨rfl, hlo⟩ := hh
    have hP : lo = P := by have := Hdm.out; omega
    subst hP
    have K := prod_in (P := ((lo : Nat) : Int)) (x := ((lo : Nat) : Int)) rfl (by unfold in64; simp; omega) (n : Int) (m : Int) (Hab.out)
    replace K := Lib.hid K
    clear hlt
    go_wp2_with fail
    go_ret2
    exact ⟨ret_prod K.out.1 K.out.2, rfl⟩
  · have hin : in64 (((P : Nat) : Int)) = false := by have := Hdm.out; unfold in64; simp; omega
    have K := prod_out hin (n : Int) (m : Int) Hab.out
    replace K := Lib.hid K
    by_cases h0 : hi = 0
    · have hlo : 9223372036854775807 < lo := by omega
      subst h0
      clear hin hh hlt
      go_wp2_with fail
      go_ret2
      exact ⟨ret_prod K.out.1 K.out.2, rfl⟩
    · have hpos : 0 < hi := by omega
      clear hin hh hlt h0
      go_wp2_with fail
      go_ret2
      exact ⟨ret_prod K.out.1 K.out.2, rfl⟩
set_option maxHeartbeats 1000000 in
theorem prod_np (a b : Int) (w : World) (ha : -9223372036854775808 ≤ a ∧ a ≤ 9223372036854775807) (hb : -9223372036854775808 ≤ b ∧ b ≤ 9223372036854775807) (ha0 : a < 0) (hb0 : 0 ≤ b) :
    Calls Try.prog 44 #[.int .i64 a, .int .i64 b] w fun e w' => e = .returned (.tuple #[.int .i64 (prodN a b), .bool (in64 (a * b))]) ∧ w' = w := by
  obtain ⟨a1, a2⟩ := ha
  obtain ⟨b1, b2⟩ := hb
  have na := neg_u64 a1 ha0
  obtain ⟨n, hn⟩ : ∃ n, n = a.natAbs := ⟨_, rfl⟩
  rw [← hn] at na
  obtain ⟨m, rfl⟩ := Int.eq_ofNat_of_zero_le hb0
  have ea : a = -(n : Int) := by omega
  have ha0b : a * (m : Int) = -((n * m : Nat) : Int) := by rw [Int.natCast_mul, ea, Int.neg_mul]
  have hA := Lib.hid ea
  have Hn := Lib.hid hn
  have hmul := mul64_any n m (by omega) (by omega) w
  clear ea hn
  have hdm := Nat.div_add_mod (n * m) 18446744073709551616
  have hlt := Nat.mod_lt (n * m) (show 0 < 18446744073709551616 by decide)
  generalize n * m = P at *
  generalize P / 18446744073709551616 = hi at *
  generalize P % 18446744073709551616 = lo at *
  have Hab := Lib.hid ha0b
  have Hdm := Lib.hid hdm
  clear ha0b hdm
  go_enter Try.func44, Try.ntmps44
  go_wp2_with fail
  refine hmul.mono ?_
  rintro e w' ⟨rfl, rfl⟩
  clear hmul a1 a2 b1 b2
  by_cases hh : hi = 0 ∧ lo ≤ 9223372036854775808
  · obtain ⟨rfl, hlo⟩ := hh
    have hP : lo = P := by have := Hdm.out; omega
    subst hP
    have K := prod_in (P := -((lo : Nat) : Int)) (x := -((lo : Nat) : Int)) rfl (by unfold in64; simp; omega) a (m : Int) (Hab.out)
    replace K := Lib.hid K
    have hw1 : wrap64 (IntKind.u64.wrap (-(lo : Int))) = -(lo : Int) := by unfold wrap64; rw [IntKind.wrap_u64]; omega
    have hw2 : IntKind.i64.wrap (IntKind.u64.wrap (-(lo : Int))) = -(lo : Int) := by rw [IntKind.wrap_i64, IntKind.wrap_u64]; omega
    clear hlt
    go_wp2_with fail
    go_ret2
    exact ⟨ret_prod K.out.1 K.out.2, rfl⟩
  · have hin : in64 (-((P : Nat) : Int)) = false := by have := Hdm.out; unfold in64; simp; omega
    have K := prod_out hin a (m : Int) Hab.out
    replace K := Lib.hid K
    by_cases h0 : hi = 0
    · have hlo : 9223372036854775808 < lo := by omega
      subst h0
      clear hin hh hlt
      go_wp2_with fail
      go_ret2
      exact ⟨ret_prod K.out.1 K.out.2, rfl⟩
    · have hpos : 0 < hi := by omega
      clear hin hh hlt h0
      go_wp2_with fail
      go_ret2
      exact ⟨ret_prod K.out.1 K.out.2, rfl⟩
set_option maxHeartbeats 1000000 in
theorem prod_pn (a b : Int) (w : World) (ha : -9223372036854775808 ≤ a ∧ a ≤ 9223372036854775807) (hb : -9223372036854775808 ≤ b ∧ b ≤ 9223372036854775807) (ha0 : 0 ≤ a) (hb0 : b < 0) :
    Calls Try.prog 44 #[.int .i64 a, .int .i64 b] w fun e w' => e = .returned (.tuple #[.int .i64 (prodN a b), .bool (in64 (a * b))]) ∧ w' = w := by
  obtain ⟨a1, a2⟩ := ha
  obtain ⟨b1, b2⟩ := hb
  obtain ⟨n, rfl⟩ := Int.eq_ofNat_of_zero_le ha0
  have nb := neg_u64 b1 hb0
  obtain ⟨m, hm⟩ : ∃ m, m = b.natAbs := ⟨_, rfl⟩
  rw [← hm] at nb
  have eb : b = -(m : Int) := by omega
  have hab : (n : Int) * b = -((n * m : Nat) : Int) := by rw [Int.natCast_mul, eb, Int.mul_neg]
  have hB := Lib.hid eb
  have Hm := Lib.hid hm
  have hmul := mul64_any n m (by omega) (by omega) w
  clear eb hm
  have hdm := Nat.div_add_mod (n * m) 18446744073709551616
  have hlt := Nat.mod_lt (n * m) (show 0 < 18446744073709551616 by decide)
  generalize n * m = P at *
  generalize P / 18446744073709551616 = hi at *
  generalize P % 18446744073709551616 = lo at *
  have Hab := Lib.hid hab
  have Hdm := Lib.hid hdm
  clear hab hdm
  go_enter Try.func44, Try.ntmps44
  go_wp2_with fail
  refine hmul.mono ?_
  rintro e w' ⟨rfl, rfl⟩
  clear hmul a1 a2 b1 b2
  by_cases hh : hi = 0 ∧ lo ≤ 9223372036854775808
  · obtain ⟨rfl, hlo⟩ := hh
    have hP : lo = P := by have := Hdm.out; omega
    subst hP
    have K := prod_in (P := -((lo : Nat) : Int)) (x := -((lo : Nat) : Int)) rfl (by unfold in64; simp; omega) (n : Int) b (Hab.out)
    replace K := Lib.hid K
    have hw1 : wrap64 (IntKind.u64.wrap (-(lo : Int))) = -(lo : Int) := by unfold wrap64; rw [IntKind.wrap_u64]; omega
    have hw2 : IntKind.i64.wrap (IntKind.u64.wrap (-(lo : Int))) = -(lo : Int) := by rw [IntKind.wrap_i64, IntKind.wrap_u64]; omega
    clear hlt
    go_wp2_with fail
    go_ret2
    exact ⟨ret_prod K.out.1 K.out.2, rfl⟩
  · have hin : in64 (-((P : Nat) : Int)) = false := by have := Hdm.out; unfold in64; simp; omega
    have K := prod_out hin (n : Int) b Hab.out
    replace K := Lib.hid K
    by_cases h0 : hi = 0
    · have hlo : 9223372036854775808 < lo := by omega
      subst h0
      clear hin hh hlt
      go_wp2_with fail
      go_ret2
      exact ⟨ret_prod K.out.1 K.out.2, rfl⟩
    · have hpos : 0 < hi := by omega
      clear hin hh hlt h0
      go_wp2_with fail
      go_ret2
      exact ⟨ret_prod K.out.1 K.out.2, rfl⟩
theorem product_any (a b : Int) (w : World) (ha : -9223372036854775808 ≤ a ∧ a ≤ 9223372036854775807) (hb : -9223372036854775808 ≤ b ∧ b ≤ 9223372036854775807) :
    Calls Try.prog 44 #[.int .i64 a, .int .i64 b] w fun e w' => e = .returned (.tuple #[.int .i64 (prodN a b), .bool (in64 (a * b))]) ∧ w' = w := by
  by_cases ha0 : a < 0 <;> by_cases hb0 : b < 0
  · exact prod_nn a b w ha hb ha0 hb0
  · exact prod_np a b w ha hb ha0 (by omega)
  · exact prod_pn a b w ha hb (by omega) hb0
  · exact prod_pp a b w ha hb (by omega) (by omega)
set_option maxHeartbeats 400000 in
theorem vtwo_mul (a b : Int) (w : World) (ha : -9223372036854775808 ≤ a ∧ a ≤ 9223372036854775807) (hb : -9223372036854775808 ≤ b ∧ b ≤ 9223372036854775807) :
    Calls Try.prog 38 #[.int .u8 4, .int .i64 a, .int .i64 b] w fun e w' => e = .returned (.tuple #[.int .i64 (twoV 4 a b).2, .int .i64 ((twoV 4 a b).1 : Int)]) ∧ w' = w := by
  have he : twoV 4 a b = if in64 (a * b) then (0, a * b) else (11, 0) := rfl
  have hp := product_any a b w ha hb
  have hpn : prodN a b = if in64 (a * b) then a * b else 0 := rfl
  obtain ⟨a1, a2⟩ := ha
  obtain ⟨b1, b2⟩ := hb
  cases hin : in64 (a * b)
  · rw [hin, if_neg (by simp)] at he
    rw [hin] at hp
    rw [he]
    clear hpn hin he
    go_enter Try.func38, Try.ntmps38
    go_wp2_with fail
    refine hp.mono ?_
    rintro e w' ⟨rfl, rfl⟩
    go_wp2_with fail
    go_ret2
    exact ⟨rfl, rfl⟩
  · rw [hin, if_pos rfl] at he
    rw [hin, if_pos rfl] at hpn
    rw [hin, hpn] at hp
    rw [he]
    generalize a * b = ab at *
    clear hpn hin he
    go_enter Try.func38, Try.ntmps38
    go_wp2_with fail
    refine hp.mono ?_
    rintro e w' ⟨rfl, rfl⟩
    go_wp2_with fail
    go_ret2
    exact ⟨rfl, rfl⟩
/-- A sign of two numbers, each one. -/
theorem vtwo_any (op : Nat) (hop : 2 ≤ op ∧ op ≤ 7) (a b : Int) (w : World) (ha : -9223372036854775808 ≤ a ∧ a ≤ 9223372036854775807) (hb : -9223372036854775808 ≤ b ∧ b ≤ 9223372036854775807) :
    Calls Try.prog 38 #[.int .u8 (op : Int), .int .i64 a, .int .i64 b] w fun e w' => e = .returned (.tuple #[.int .i64 (twoV op a b).2, .int .i64 ((twoV op a b).1 : Int)]) ∧ w' = w := by
  obtain rfl | rfl | rfl | rfl | rfl | rfl : op = 2 ∨ op = 3 ∨ op = 4 ∨ op = 5 ∨ op = 6 ∨ op = 7 := by omega
  · exact vtwo_add a b w ha hb
  · exact vtwo_sub a b w ha hb
  · exact vtwo_mul a b w ha hb
  · exact vtwo_shift 5 (.inl rfl) a b w ha hb
  · exact vtwo_shift 6 (.inr rfl) a b w ha hb
  · exact vtwo_and a b w ha hb
end Go.Proofs.Ytlahecofjlaojaa
