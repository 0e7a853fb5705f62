/- Plain laws of chapter 3's checksum: no program in sight. Bytes and sums are natural numbers. -/
namespace Go.Proofs.Ytpgndejmhegklaa

/-- One of the eight turns of a sum. -/
def half (c : Nat) : Nat := if c % 2 = 1 then (c / 2) ^^^ 3988292384 else c / 2
def turns (n c : Nat) : Nat := match n with | 0 => c | n + 1 => turns n (half c)
def crcStep (c x : Nat) : Nat := turns 8 (c ^^^ x)
def crcGo (c : Nat) (bs : List Nat) : Nat := bs.foldl crcStep c
def crcN (bs : List Nat) : Nat := 4294967295 - crcGo 4294967295 bs

theorem xor_rc {a b c : Nat} (h : a ^^^ c = b ^^^ c) : a = b := by
  have := congrArg (· ^^^ c) h
  simpa [Nat.xor_assoc] using this
theorem xor_lc {a b c : Nat} (h : c ^^^ a = c ^^^ b) : a = b := xor_rc (c := c) (by rw [Nat.xor_comm a, Nat.xor_comm b]; exact h)
theorem half_lt {c : Nat} (h : c < 4294967296) : half c < 4294967296 := by
  unfold half
  split
  · exact Nat.xor_lt_two_pow (n := 32) (by omega) (by omega)
  · omega
theorem turns_lt (n : Nat) {c : Nat} (h : c < 4294967296) : turns n c < 4294967296 := by
  induction n generalizing c with
  | zero => exact h
  | succ n ih => exact ih (half_lt h)
theorem crcStep_lt {c x : Nat} (h : c < 4294967296) (hx : x < 256) : crcStep c x < 4294967296 := turns_lt 8 (Nat.xor_lt_two_pow (n := 32) h (by omega))
theorem crcGo_lt {c : Nat} (h : c < 4294967296) (bs : List Nat) (hb : ∀ x ∈ bs, x < 256) : crcGo c bs < 4294967296 := by
  induction bs generalizing c with
  | nil => exact h
  | cons x r ih => exact ih (crcStep_lt h (hb x (by simp))) (fun y hy => hb y (by simp [hy]))

theorem bit31_lt {x : Nat} (h : x < 2147483648) : x.testBit 31 = false := Nat.testBit_lt_two_pow (by omega)
theorem half_inj {a b : Nat} (ha : a < 4294967296) (hb : b < 4294967296) (h : half a = half b) : a = b := by
  have pa : (a / 2).testBit 31 = false := bit31_lt (by omega)
  have pb : (b / 2).testBit 31 = false := bit31_lt (by omega)
  have pp : (3988292384 : Nat).testBit 31 = true := by decide
  unfold half at h
  by_cases h1 : a % 2 = 1 <;> by_cases h2 : b % 2 = 1
  · rw [if_pos h1, if_pos h2] at h
    have : a / 2 = b / 2 := xor_rc h
    omega
  · rw [if_pos h1, if_neg h2] at h
    have := congrArg (fun x => x.testBit 31) h
    simp [Nat.testBit_xor, pa, pb, pp] at this
  · rw [if_neg h1, if_pos h2] at h
    have := congrArg (fun x => x.testBit 31) h
    simp [Nat.testBit_xor, pa, pb, pp] at this
  · rw [if_neg h1, if_neg h2] at h
    omega
theorem turns_inj (n : Nat) {a b : Nat} (ha : a < 4294967296) (hb : b < 4294967296) (h : turns n a = turns n b) : a = b := by
  induction n generalizing a b with
  | zero => exact h
  | succ n ih => exact half_inj ha hb (ih (half_lt ha) (half_lt hb) h)
theorem crcStep_inj {a b x : Nat} (ha : a < 4294967296) (hb : b < 4294967296) (hx : x < 256) (h : crcStep a x = crcStep b x) : a = b := by
  have := turns_inj 8 (Nat.xor_lt_two_pow (n := 32) ha (by omega)) (Nat.xor_lt_two_pow (n := 32) hb (by omega)) h
  exact xor_rc this
theorem crcStep_byte {a x y : Nat} (ha : a < 4294967296) (hx : x < 256) (hy : y < 256) (h : crcStep a x = crcStep a y) : x = y := by
  have := turns_inj 8 (Nat.xor_lt_two_pow (n := 32) ha (by omega)) (Nat.xor_lt_two_pow (n := 32) ha (by omega)) h
  exact xor_lc this
theorem crcGo_inj {a b : Nat} (ha : a < 4294967296) (hb : b < 4294967296) (bs : List Nat) (hx : ∀ x ∈ bs, x < 256) (h : crcGo a bs = crcGo b bs) : a = b := by
  induction bs generalizing a b with
  | nil => exact h
  | cons x r ih => exact crcStep_inj ha hb (hx x (by simp)) (ih (crcStep_lt ha (hx x (by simp))) (crcStep_lt hb (hx x (by simp))) (fun y hy => hx y (by simp [hy])) h)
/-- Bytes that differ in one place have unlike sums. -/
theorem crcN_one (l : List Nat) (x y : Nat) (r : List Nat) (hl : ∀ z ∈ l, z < 256) (hx : x < 256) (hy : y < 256) (hr : ∀ z ∈ r, z < 256) (hxy : x ≠ y) : crcN (l ++ x :: r) ≠ crcN (l ++ y :: r) := by
  intro h
  unfold crcN at h
  have e : ∀ z, crcGo 4294967295 (l ++ z :: r) = crcGo (crcStep (crcGo 4294967295 l) z) r := fun z => by simp [crcGo, List.foldl_append]
  rw [e, e] at h
  have hc := crcGo_lt (by omega : 4294967295 < 4294967296) l hl
  have h1 := crcGo_lt (crcStep_lt hc hx) r hr
  have h2 := crcGo_lt (crcStep_lt hc hy) r hr
  have h3 : crcGo (crcStep (crcGo 4294967295 l) x) r = crcGo (crcStep (crcGo 4294967295 l) y) r := by omega
  exact hxy (crcStep_byte hc hx hy (crcGo_inj (crcStep_lt hc hx) (crcStep_lt hc hy) r hr h3))
end Go.Proofs.Ytpgndejmhegklaa
