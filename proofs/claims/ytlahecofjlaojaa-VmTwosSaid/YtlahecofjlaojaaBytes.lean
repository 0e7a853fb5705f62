/- Slices of bytes. -/
import Derived.Test.YtlahecofjlaojaaRows
import Derived.Test.YtlahecofjlaojaaMem2
namespace Go.Proofs.Ytlahecofjlaojaa
set_option linter.unusedVariables false
open Go.RowKit

theorem ret_int1 {k : IntKind} {a b : Int} (h : a = b) : Ending.returned (.int k a) = .returned (.int k b) := by rw [h]
/-- A slice of bytes reads as these numbers. -/
def Bytes (w : World) (A : Option Addr) (n : Nat) (bs : List Nat) : Prop := Nums .u8 w A n (bs.map Int.ofNat)
theorem Bytes.len {w : World} {A : Option Addr} {n : Nat} {bs : List Nat} (h : Bytes w A n bs) : bs.length = n := by simpa using h.1
theorem Bytes.ext {w w' : World} {A : Option Addr} {n : Nat} {bs : List Nat} (h : Bytes w A n bs) (he : Ext w w') : Bytes w' A n bs := Nums.ext h he
theorem Bytes.at_ {w : World} {A : Option Addr} {n : Nat} {bs : List Nat} (h : Bytes w A n bs) (j : Nat) (hj : j < n) :
    ∃ b o, A = some ⟨b, o, none⟩ ∧ b < w.heap.size ∧ w.cell? ⟨b, o + j, none⟩ = some (.int .u8 ((bs.getD j 0 : Nat) : Int)) := by
  obtain ⟨b, o, e, hb, hc⟩ := Nums.at_ h j hj
  refine ⟨b, o, e, hb, ?_⟩
  have hl := h.len
  simpa [hl, hj] using hc
theorem getD_lt {bs : List Nat} (hb : ∀ x ∈ bs, x < 256) (j : Nat) : bs.getD j 0 < 256 := by
  by_cases h : j < bs.length
  · simp [h]; exact hb _ (List.getElem_mem h)
  · simp [h]

theorem byte_elem : ElemFacts Try.prog 22 5 1 1 := elem_mk Try.underlying22 (by kernel_rfl) (by omega)

def bvals (bs : List Nat) : List Value := bs.map fun (b : Nat) => Value.int .u8 (b : Int)
theorem bvals_eq (bs : List Nat) : (bs.map Int.ofNat).map (Value.int .u8) = bvals bs := by simp [bvals]
theorem Bytes.rs {w : World} {A : Option Addr} {n : Nat} {bs : List Nat} (h : Bytes w A n bs) : RS w 1 A n (bvals bs) := by rw [← bvals_eq]; exact h.2
theorem Bytes.of {w : World} {A : Option Addr} {n : Nat} {bs : List Nat} (h : RS w 1 A n (bvals bs)) (hl : bs.length = n) : Bytes w A n bs := ⟨by simpa using hl, by rw [bvals_eq]; exact h⟩
theorem bvals_one (bs : List Nat) : ∀ u ∈ bvals bs, u.oneCell' = true := by
  intro u hu
  obtain ⟨b, -, rfl⟩ := List.mem_map.1 hu
  rfl
theorem bvals_append (a b : List Nat) : bvals (a ++ b) = bvals a ++ bvals b := by simp [bvals]
theorem Bytes.rest {w : World} {A : Option Addr} {n c k : Nat} {bs : List Nat} (h : Bytes w A n bs) (hk : k ≤ n) (hc : n ≤ c) :
    ∃ A3, (∀ w, (Instr.slice 22 (.slice A n c) (some (.int .i64 (k : Int))) none none).run Try.prog w = .ok (.slice A3 (n - k) (c - k)) w) ∧ Bytes w A3 (n - k) (bs.drop k) := by
  refine ⟨cutA A c k 1, byte_elem.cut_lo A n c k .i64 hk, ?_⟩
  have := RS.cutA h.rs hk (Nat.le_refl _) hc
  have hl := h.len
  refine Bytes.of ?_ (by simp [hl])
  have e : (bvals bs).drop k = bvals (bs.drop k) := by simp [bvals, List.map_drop]
  simp only [Nat.mul_one] at this
  rw [List.take_of_length_le (by simp [bvals, hl]), e] at this
  exact this

end Go.Proofs.Ytlahecofjlaojaa
