/- The checksum of package frames and the document's: what each call computes. -/
import Derived.Test.YtpgndejmhegklaaRows
import Derived.Test.YtpgndejmhegklaaBytes
import Derived.Test.YtpgndejmhegklaaCrcLaw
import Derived.BigQuiet
import Derived.Laws.BitsAllLaws
import Derived.Deep.QuietTactic
import Derived.StillTailTactics
import Derived.Deep.DeepCutAuto
import Derived.Deep.CutBlock
namespace Go.Proofs.Ytpgndejmhegklaa
set_option linter.unusedVariables false
open Go.RowKit

/-- Block g is a sum's variable. -/
def Sum32 (w : World) (g : Nat) (c : Nat) : Prop := w.heap[g]? = some (.cells #[.int .u32 (c : Int)] 70 (0, 0))
theorem Sum32.cell {w : World} {g c : Nat} (h : Sum32 w g c) : w.cell? ⟨g, 0, none⟩ = some (.int .u32 (c : Int)) := cell_of_row w g 0 _ _ _ h
theorem Sum32.frozen {w : World} {g c : Nat} (h : Sum32 w g c) : w.frozen? ⟨g, 0, none⟩ = false := by unfold Sum32 at h; simp [World.frozen?, h]
theorem Sum32.set_ {w : World} {g c : Nat} (h : Sum32 w g c) (d : Nat) : Sum32 (w.setCell ⟨g, 0, none⟩ (.int .u32 (d : Int))) g d := by
  unfold Sum32 at h ⊢; simp [World.setCell, Array.getElem?_modify, h]
theorem Sum32.lt {w : World} {g c : Nat} (h : Sum32 w g c) : g < w.heap.size := (Array.getElem?_eq_some_iff.1 h).1

theorem Sum32.ext' {w w' : World} {g c : Nat} (h : Sum32 w g c) (he : Ext w w') : Sum32 w' g c := (he.block g h.lt).trans h
theorem turns_succ (k c : Nat) : turns (k + 1) c = half (turns k c) := by
  induction k generalizing c with
  | zero => rfl
  | succ k ih => exact ih (half c)
theorem half_u32 (d : Nat) (h : d < 4294967296) : bits .xor .u32 ((d : Int) / 2) (3988292384 * bits .and .u32 (d : Int) 1 % 4294967296) = (half d : Int) := by
  have e1 : bits .and .u32 (d : Int) 1 = ((d % 2 : Nat) : Int) := by
    have := u32_and_nat d 1 h (by omega)
    rw [Nat.and_one_is_mod] at this
    exact this
  have e2 : ((d : Int) / 2) = ((d / 2 : Nat) : Int) := by omega
  rw [e1, e2]
  unfold half
  rcases Nat.mod_two_eq_zero_or_one d with h0 | h0
  · rw [h0, if_neg (by omega)]
    have := u32_xor_nat (d / 2) 0 (by omega) (by omega)
    rw [Nat.xor_zero] at this
    exact this
  · rw [h0, if_pos rfl]
    exact u32_xor_nat (d / 2) 3988292384 (by omega) (by omega)

set_option maxHeartbeats 400000 in
theorem add_any (w0 : World) (g c x : Nat) (hc : c < 4294967296) (hx : x < 256) (w : World) (hs : Sum32 w g c) (hg : w0.heap.size ≤ g) (he : Ext w0 w) :
    Calls Try.prog 46 #[.pointer (some ⟨g, 0, none⟩), .int .u8 (x : Int)] w fun e w' => e = .returned (.tuple #[]) ∧ Sum32 w' g (crcStep c x) ∧ Ext w0 w' := by
  have k0 := hs.cell
  have f0 := hs.frozen
  go_enter Try.func46, Try.ntmps46
  go_wp2_with fail
  have hcx : c ^^^ x < 4294967296 := Nat.xor_lt_two_pow (n := 32) hc (by omega)
  rw [u32_xor_nat c x hc (by omega)]
  have hs1 : Sum32 (w.setCell ⟨g, 0, none⟩ (.int .u32 ((c ^^^ x : Nat) : Int))) g (c ^^^ x) := hs.set_ _
  have he1 : Ext w0 (w.setCell ⟨g, 0, none⟩ (.int .u32 ((c ^^^ x : Nat) : Int))) := he.setCell hg _
  generalize hw1 : w.setCell ⟨g, 0, none⟩ (.int .u32 ((c ^^^ x : Nat) : Int)) = w1 at hs1 he1 ⊢
  go_loopw [11] (fun i wr => ∃ k : Nat, k ≤ 8 ∧ i = .int .i64 k ∧ Sum32 wr g (turns k (c ^^^ x)) ∧ Ext w0 wr) (fun i _ => 8 - (intOf i).toNat)
  case atStart => exact ⟨0, by omega, rfl, hs1, he1⟩
  case round =>
    obtain ⟨k, hk, rfl, hsr, her⟩ := hrel
    have hlt := turns_lt k hcx
    have kr := hsr.cell
    have fr := hsr.frozen
    generalize hd : turns k (c ^^^ x) = d at *
    by_cases hk8 : k < 8
    · go_wp2
      go_still_tail 12, (by kernel_rfl)
      go_wp2_with fail
      rw [half_u32 d hlt]
      go_round
      case rel => exact ⟨k + 1, by omega, by go_num, by rw [turns_succ, hd]; exact (hsr.set_ _).ext' (Ext.refl _).drew, (her.setCell hg _).drew⟩
      case measure => simp [intOf]; omega
    · go_wp2
      go_end0
      have : k = 8 := by omega
      subst this
      exact ⟨rfl, by rw [crcStep, hd]; exact hsr, her⟩

/-- A number's four bytes. -/
def num4 (bs : List Nat) : Nat := bs.getD 0 0 + 256 * bs.getD 1 0 + 65536 * bs.getD 2 0 + 16777216 * bs.getD 3 0
def bytes4 (n : Nat) : List Nat := [n % 256, n / 256 % 256, n / 65536 % 256, n / 16777216]
theorem or_hi (a b i : Nat) (h : a < 2 ^ i) : a ||| (b * 2 ^ i) = a + b * 2 ^ i := by
  have := Nat.two_pow_add_eq_or_of_lt h b
  rw [Nat.or_comm, Nat.mul_comm b, ← this, Nat.add_comm]
theorem or_num (x0 x1 x2 x3 : Nat) (h0 : x0 < 256) (h1 : x1 < 256) (h2 : x2 < 256) (h3 : x3 < 256) :
    bits .or .u32 (bits .or .u32 (bits .or .u32 (x0 : Int) ((x1 : Int) * 256)) ((x2 : Int) * 65536)) ((x3 : Int) * 16777216) = ((x0 + 256 * x1 + 65536 * x2 + 16777216 * x3 : Nat) : Int) := by
  have e1 : ((x1 : Int) * 256) = ((x1 * 2 ^ 8 : Nat) : Int) := by simp
  have e2 : ((x2 : Int) * 65536) = ((x2 * 2 ^ 16 : Nat) : Int) := by simp
  have e3 : ((x3 : Int) * 16777216) = ((x3 * 2 ^ 24 : Nat) : Int) := by simp
  rw [e1, e2, e3, u32_or_nat _ _ (by omega) (by omega), or_hi _ _ 8 (by omega), u32_or_nat _ _ (by omega) (by omega), or_hi _ _ 16 (by omega), u32_or_nat _ _ (by omega) (by omega), or_hi _ _ 24 (by omega)]
  congr 1
  omega
theorem or_num' (x0 x1 x2 x3 : Nat) (h0 : x0 < 256) (h1 : x1 < 256) (h2 : x2 < 256) (h3 : x3 < 256) :
    bits .or .u32 (bits .or .u32 (bits .or .u32 ((x3 : Int) * 16777216) ((x2 : Int) * 65536)) ((x1 : Int) * 256)) (x0 : Int) = ((x0 + 256 * x1 + 65536 * x2 + 16777216 * x3 : Nat) : Int) := by
  have e1 : ((x1 : Int) * 256) = ((x1 * 2 ^ 8 : Nat) : Int) := by simp
  have e2 : ((x2 : Int) * 65536) = ((x2 * 2 ^ 16 : Nat) : Int) := by simp
  have e3 : ((x3 : Int) * 16777216) = ((x3 * 2 ^ 24 : Nat) : Int) := by simp
  have a1 : x3 * 2 ^ 24 ||| x2 * 2 ^ 16 = x2 * 2 ^ 16 + x3 * 2 ^ 24 := by rw [Nat.or_comm]; exact or_hi _ _ 24 (by omega)
  have a2 : (x2 * 2 ^ 16 + x3 * 2 ^ 24) ||| x1 * 2 ^ 8 = x1 * 2 ^ 8 + (x2 + x3 * 2 ^ 8) * 2 ^ 16 := by
    rw [Nat.or_comm, show x2 * 2 ^ 16 + x3 * 2 ^ 24 = (x2 + x3 * 2 ^ 8) * 2 ^ 16 from by omega]; exact or_hi _ _ 16 (by omega)
  have a3 : (x1 * 2 ^ 8 + (x2 + x3 * 2 ^ 8) * 2 ^ 16) ||| x0 = x0 + (x1 + (x2 + x3 * 2 ^ 8) * 2 ^ 8) * 2 ^ 8 := by
    rw [Nat.or_comm, show x1 * 2 ^ 8 + (x2 + x3 * 2 ^ 8) * 2 ^ 16 = (x1 + (x2 + x3 * 2 ^ 8) * 2 ^ 8) * 2 ^ 8 from by omega]; exact or_hi _ _ 8 (by omega)
  rw [e1, e2, e3, u32_or_nat _ _ (by omega) (by omega), a1, u32_or_nat _ _ (by omega) (by omega), a2, u32_or_nat _ _ (by omega) (by omega), a3]
  congr 1
  omega

set_option maxHeartbeats 400000 in
theorem number_any (A : Option Addr) (n c : Nat) (bs : List Nat) (w : World) (hz : Bytes w A n bs) (hn : 4 ≤ n) (hm : n ≤ maxLen) (hb : ∀ x ∈ bs, x < 256) :
    Calls Try.prog 41 #[.slice A n c] w fun e w' => e = .returned (.int .u32 (num4 bs : Int)) ∧ Ext w w' := by
  unfold maxLen at hm
  obtain ⟨b, o, rfl, hbl, c0⟩ := hz.at_ 0 (by omega)
  obtain ⟨b1, o1, e1, _, c1⟩ := hz.at_ 1 (by omega)
  obtain ⟨b2, o2, e2, _, c2⟩ := hz.at_ 2 (by omega)
  obtain ⟨b3, o3, e3, _, c3⟩ := hz.at_ 3 (by omega)
  simp only [Option.some.injEq, Addr.mk.injEq, and_true] at e1 e2 e3
  obtain ⟨rfl, rfl⟩ := e1
  obtain ⟨rfl, rfl⟩ := e2
  obtain ⟨rfl, rfl⟩ := e3
  have b0 := getD_lt hb 0
  have b1 := getD_lt hb 1
  have b2 := getD_lt hb 2
  have b3 := getD_lt hb 3
  unfold num4
  generalize bs.getD 0 0 = x0 at *
  generalize bs.getD 1 0 = x1 at *
  generalize bs.getD 2 0 = x2 at *
  generalize bs.getD 3 0 = x3 at *
  simp only [Nat.add_zero] at c0
  clear hz hb
  go_enter Try.func41, Try.ntmps41
  go_wp2_with fail
  go_quiet (fail)
  go_wp2_with fail
  rw [or_num _ _ _ _ b0 b1 b2 b3]
  go_ret
  exact ⟨rfl, (Ext.refl _).drewN _⟩

set_option maxHeartbeats 400000 in
theorem get_any (A : Option Addr) (n c : Nat) (bs : List Nat) (w : World) (hz : Bytes w A n bs) (hn : 4 ≤ n) (hm : n ≤ maxLen) (hb : ∀ x ∈ bs, x < 256) :
    Calls Try.prog 35 #[.slice A n c] w fun e w' => e = .returned (.int .u32 (num4 bs : Int)) ∧ Ext w w' := by
  unfold maxLen at hm
  obtain ⟨b, o, rfl, hbl, c0⟩ := hz.at_ 0 (by omega)
  obtain ⟨b1, o1, e1, _, c1⟩ := hz.at_ 1 (by omega)
  obtain ⟨b2, o2, e2, _, c2⟩ := hz.at_ 2 (by omega)
  obtain ⟨b3, o3, e3, _, c3⟩ := hz.at_ 3 (by omega)
  simp only [Option.some.injEq, Addr.mk.injEq, and_true] at e1 e2 e3
  obtain ⟨rfl, rfl⟩ := e1
  obtain ⟨rfl, rfl⟩ := e2
  obtain ⟨rfl, rfl⟩ := e3
  have b0 := getD_lt hb 0
  have b1 := getD_lt hb 1
  have b2 := getD_lt hb 2
  have b3 := getD_lt hb 3
  unfold num4
  generalize bs.getD 0 0 = x0 at *
  generalize bs.getD 1 0 = x1 at *
  generalize bs.getD 2 0 = x2 at *
  generalize bs.getD 3 0 = x3 at *
  simp only [Nat.add_zero] at c0
  clear hz hb
  go_enter Try.func35, Try.ntmps35
  go_wp2_with fail
  go_quiet (fail)
  go_wp2_with fail
  rw [or_num' _ _ _ _ b0 b1 b2 b3]
  go_ret
  exact ⟨rfl, (Ext.refl _).drewN _⟩

theorem bits_not32 (a : Nat) (h : a < 4294967296) : bits .xor .u32 IntKind.u32.max (a : Int) = ((4294967295 - a : Nat) : Int) := by
  have e := u32_xor_nat 4294967295 a (by omega) h
  have : 4294967295 ^^^ a = 4294967295 - a := by
    have := BitVec.toNat_not (x := BitVec.ofNat 32 a)
    rw [← BitVec.allOnes_xor, BitVec.toNat_xor] at this
    simpa [Nat.mod_eq_of_lt h] using this
  rw [this] at e
  exact e

set_option maxHeartbeats 400000 in
theorem crc_any (A : Option Addr) (n c : Nat) (bs : List Nat) (w : World) (hz : Bytes w A n bs) (hm : n ≤ maxLen) (hb : ∀ x ∈ bs, x < 256) :
    Calls Try.prog 42 #[.slice A n c] w fun e w' => e = .returned (.int .u32 (crcN bs : Int)) ∧ Ext w w' := by
  unfold maxLen at hm
  go_enter Try.func42, Try.ntmps42
  go_wp2_with fail
  have hs1 : Sum32 (w.alloc (.cells #[.int .u32 4294967295] 70)) w.heap.size 4294967295 := heap_alloc_new w _
  have he1 : Ext w (w.alloc (.cells #[.int .u32 4294967295] 70)) := (Ext.refl w).alloc _
  generalize hw1 : w.alloc (.cells #[.int .u32 4294967295] 70) = w1 at hs1 he1 ⊢
  have hlen := hz.len
  go_loopw [10] (fun i wr => ∃ k : Nat, k ≤ n ∧ i = .int .i64 k ∧ Sum32 wr w.heap.size (crcGo 4294967295 (bs.take k)) ∧ Ext w wr) (fun i _ => n - (intOf i).toNat)
  case atStart => exact ⟨0, by omega, rfl, hs1, he1⟩
  case round =>
    obtain ⟨k, hk, rfl, hsr, her⟩ := hrel
    have hlt := crcGo_lt (c := 4294967295) (by omega) (bs.take k) (fun x hx => hb x (List.mem_of_mem_take hx))
    have kr := hsr.cell
    by_cases hkn : k < n
    · obtain ⟨b, o, rfl, hbl, hck⟩ := (hz.ext her).at_ k hkn
      have hxk := hb bs[k] (List.getElem_mem (by omega))
      have hck : wr.cell? ⟨b, o + k, none⟩ = some (.int .u8 (bs[k] : Int)) := by simpa [hlen, hkn] using hck
      go_wp2_with fail
      refine (add_any w w.heap.size _ bs[k] hlt hxk wr hsr (Nat.le_refl _) her).mono ?_
      rintro e w' ⟨rfl, hs', he'⟩
      go_wp2_with fail
      go_round
      case rel => exact ⟨k + 1, by omega, by go_num, by
        rw [show bs.take (k + 1) = bs.take k ++ [bs[k]] from List.take_succ_eq_append_getElem (by omega), crcGo, List.foldl_append]
        exact hs', he'⟩
      case measure => simp [intOf]; omega
    · have : k = n := by omega
      subst this
      rw [List.take_of_length_le (by omega)] at *
      go_wp2_with fail
      go_ret
      exact ⟨ret_int1 (bits_not32 _ hlt), her⟩

set_option maxHeartbeats 400000 in
theorem rcrc_any (A : Option Addr) (n c : Nat) (bs : List Nat) (w : World) (hz : Bytes w A n bs) (hm : n ≤ maxLen) (hb : ∀ x ∈ bs, x < 256) :
    Calls Try.prog 36 #[.slice A n c] w fun e w' => e = .returned (.int .u32 (crcN bs : Int)) ∧ Ext w w' := by
  unfold maxLen at hm
  go_enter Try.func36, Try.ntmps36
  go_wp2_with fail
  have hlen := hz.len
  go_loopw [3, 4] (fun s i wr => ∃ k : Nat, k ≤ n ∧ i = .int .i64 k ∧ s = .int .u32 (crcGo 4294967295 (bs.take k) : Int) ∧ w = wr) (fun _ i _ => n - (intOf i).toNat)
  case atStart => exact ⟨0, by omega, rfl, rfl, rfl⟩
  case round =>
    obtain ⟨k, hk, rfl, rfl, rfl⟩ := hrel
    have hlt := crcGo_lt (c := 4294967295) (by omega) (bs.take k) (fun x hx => hb x (List.mem_of_mem_take hx))
    by_cases hkn : k < n
    · obtain ⟨b, o, rfl, hbl, hck⟩ := hz.at_ k hkn
      have hxk := getD_lt hb k
      have hstep : crcGo 4294967295 (bs.take (k + 1)) = crcStep (crcGo 4294967295 (bs.take k)) (bs.getD k 0) := by
        rw [show bs.take (k + 1) = bs.take k ++ [bs[k]] from List.take_succ_eq_append_getElem (by omega), crcGo, List.foldl_append, show bs.getD k 0 = bs[k] from by simp [hlen, hkn]]
        rfl
      generalize crcGo 4294967295 (bs.take k) = d at *
      generalize bs.getD k 0 = x at *
      go_wp2_with fail
      rw [u32_xor_nat d x hlt (by omega)]
      have hdx : d ^^^ x < 4294967296 := Nat.xor_lt_two_pow (n := 32) hlt (by omega)
      go_loopw [3, 5] (fun s j wr => ∃ m : Nat, m ≤ 8 ∧ j = .int .i64 m ∧ s = .int .u32 (turns m (d ^^^ x) : Int) ∧ w = wr) (fun _ j _ => 8 - (intOf j).toNat)
      case atStart => exact ⟨0, by omega, rfl, rfl, rfl⟩
      case round =>
        obtain ⟨m, hm8, rfl, rfl, rfl⟩ := hrel
        have hdm := turns_lt m hdx
        have htr := turns_succ m (d ^^^ x)
        generalize hy : turns m (d ^^^ x) = y at *
        by_cases h8 : m < 8
        · have hand : bits .and .u32 (y : Int) 1 = ((y % 2 : Nat) : Int) := by
            have := u32_and_nat y 1 hdm (by omega)
            rw [Nat.and_one_is_mod] at this
            exact this
          go_wp2_with fail
          · have h0 : ((y : Int) % 2 == 1) = true := by assumption
            have h1 : (y : Int) % 2 = 1 := by simpa using h0
            rw [show bits .xor .u32 ((y : Int) / 2) 3988292384 = (((y / 2) ^^^ 3988292384 : Nat) : Int) from u32_xor_nat (y / 2) 3988292384 (by omega) (by omega)]
            go_round
            case rel => exact ⟨m + 1, by omega, by go_num, by rw [htr, half, if_pos (by omega)], trivial⟩
            case measure => simp [intOf]; omega
          · have h0 : ((y : Int) % 2 == 1) = false := by assumption
            have h1 : ¬ (y : Int) % 2 = 1 := by simpa using h0
            go_round
            case rel => exact ⟨m + 1, by omega, by go_num, by rw [htr, half, if_neg (by omega)]; go_num, trivial⟩
            case measure => simp [intOf]; omega
        · have : m = 8 := by omega
          subst this
          go_wp2_with fail
          go_round
          case rel => exact ⟨k + 1, by omega, by go_num, by rw [hstep, crcStep]; simp only [*], trivial⟩
          case measure => simp [intOf]; omega
    · have : k = n := by omega
      subst this
      rw [List.take_of_length_le (by omega)] at *
      go_wp2_with fail
      go_ret
      exact ⟨ret_int1 (bits_not32 _ hlt), Ext.refl _⟩

set_option maxHeartbeats 400000 in
theorem four_any (n : Nat) (w : World) (hn : n < 4294967296) :
    Calls Try.prog 45 #[.int .u32 (n : Int)] w fun e w' => ∃ A, e = .returned (.slice A 4 4) ∧ Bytes w' A 4 (bytes4 n) ∧ Ext w w' := by
  go_enter Try.func45, Try.ntmps45
  go_wp2_with fail
  go_ret
  refine ⟨_, rfl, ⟨rfl, ?_⟩, (Ext.refl _).alloc _⟩
  exact box_rs w 5 1 [.int .u8 ((n : Int) % 256), .int .u8 ((n : Int) / 256 % 256), .int .u8 ((n : Int) / 65536 % 256), .int .u8 ((n : Int) / 16777216)] 4 rfl

theorem bytes4_rs (w : World) (n : Nat) : RS (w.alloc (.cells #[.int .u8 ((n : Int) % 256), .int .u8 ((n : Int) / 256 % 256), .int .u8 ((n : Int) / 65536 % 256), .int .u8 ((n : Int) / 16777216)] 5)) 1 (some ⟨w.heap.size, 0, none⟩) 4 (bvals (bytes4 n)) :=
  box_rs w 5 1 [.int .u8 ((n : Int) % 256), .int .u8 ((n : Int) / 256 % 256), .int .u8 ((n : Int) / 65536 % 256), .int .u8 ((n : Int) / 16777216)] 4 rfl

end Go.Proofs.Ytpgndejmhegklaa
