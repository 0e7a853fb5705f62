/- Cuts of slices. -/
import Derived.Test.YtlahecofjlaojaaBytes
namespace Go.Proofs.Ytlahecofjlaojaa
set_option linter.unusedVariables false
open Go.RowKit

/-! ### cuts -/
theorem run_cut_both {P : Program} {t e : TypeId} {i : TypeInfo} {sz : Nat} (ht : P.underlying t = some (.slice e)) (hi : P.info? e = some i) (hsz : i.size = sz) (A : Option Addr) (n c lo hi2 : Nat) (k k2 : IntKind) (x y : Int) (hx : x = (lo : Int)) (hy : y = (hi2 : Int)) (h : lo ≤ hi2) (h2 : hi2 ≤ c) (w : World) :
    (Instr.slice t (.slice A n c) (some (.int k x)) (some (.int k2 y)) none).run P w = .ok (.slice (cutA A c lo sz) (hi2 - lo) (c - lo)) w := by
  subst hx hy
  have h1 : (lo : Int) ≤ (hi2 : Int) := by omega
  have h3 : (hi2 : Int) ≤ (c : Int) := by omega
  simp [Instr.slice, run_underlying ht, Instr.sliceBounds, run_sliceBound, sizeOf, typeInfo, hi, hsz, h1, h3, Go.Proofs.Ytlahecofjlaojaa.cutA]
theorem run_cut_hi {P : Program} {t e : TypeId} {i : TypeInfo} (ht : P.underlying t = some (.slice e)) (hi : P.info? e = some i) (A : Option Addr) (n c hi2 : Nat) (k2 : IntKind) (y : Int) (hy : y = (hi2 : Int)) (h2 : hi2 ≤ c) (w : World) :
    (Instr.slice t (.slice A n c) none (some (.int k2 y)) none).run P w = .ok (.slice A hi2 c) w := by
  subst hy
  have h3 : (hi2 : Int) ≤ (c : Int) := by omega
  have e : A.map (·.add 0) = A := by cases A <;> simp [Addr.add]
  simp [Instr.slice, run_underlying ht, Instr.sliceBounds, run_sliceBound, sizeOf, typeInfo, hi, h3, e]
theorem ElemFacts.cut_both {P : Program} {t e : TypeId} {sz bytes : Nat} (h : ElemFacts P t e sz bytes) (A : Option Addr) (n c lo hi2 : Nat) (k k2 : IntKind) (x y : Int) (hx : x = (lo : Int)) (hy : y = (hi2 : Int)) (h1 : lo ≤ hi2) (h2 : hi2 ≤ c) (w : World) :
    (Instr.slice t (.slice A n c) (some (.int k x)) (some (.int k2 y)) none).run P w = .ok (.slice (cutA A c lo sz) (hi2 - lo) (c - lo)) w := by
  obtain ⟨i, z, hi, _, h3, _⟩ := h.info
  exact run_cut_both h.under hi h3 A n c lo hi2 k k2 x y hx hy h1 h2 w
theorem ElemFacts.cut_hi {P : Program} {t e : TypeId} {sz bytes : Nat} (h : ElemFacts P t e sz bytes) (A : Option Addr) (n c hi2 : Nat) (k2 : IntKind) (y : Int) (hy : y = (hi2 : Int)) (h2 : hi2 ≤ c) (w : World) :
    (Instr.slice t (.slice A n c) none (some (.int k2 y)) none).run P w = .ok (.slice A hi2 c) w := by
  obtain ⟨i, z, hi, _, h3, _⟩ := h.info
  exact run_cut_hi h.under hi A n c hi2 k2 y hy h2 w
theorem ElemFacts.cut_lo' {P : Program} {t e : TypeId} {sz bytes : Nat} (h : ElemFacts P t e sz bytes) (A : Option Addr) (n c lo : Nat) (k : IntKind) (x : Int) (hx : x = (lo : Int)) (hl : lo ≤ n) (w : World) :
    (Instr.slice t (.slice A n c) (some (.int k x)) none none).run P w = .ok (.slice (cutA A c lo sz) (n - lo) (c - lo)) w := by
  subst hx; exact h.cut_lo A n c lo k hl w
theorem Bytes.cut {w : World} {A : Option Addr} {n c lo hi : Nat} {bs : List Nat} (h : Bytes w A n bs) (h1 : lo ≤ hi) (h2 : hi ≤ n) (hc : n ≤ c) : Bytes w (cutA A c lo 1) (hi - lo) ((bs.drop lo).take (hi - lo)) := by
  have hl := h.len
  refine Bytes.of ?_ (by simp [hl]; omega)
  have := RS.cutA h.rs h1 h2 hc
  simpa [bvals, List.map_drop, List.map_take] using this
theorem Bytes.front {w : World} {A : Option Addr} {n hi : Nat} {bs : List Nat} (h : Bytes w A n bs) (h2 : hi ≤ n) : Bytes w A hi (bs.take hi) := by
  have hl := h.len
  have := RS.cut h.rs (Nat.zero_le hi) h2 (Nat.le_succ n)
  refine Bytes.of ?_ (by simp [hl]; omega)
  have e : A.map (·.add 0) = A := by cases A <;> simp [Addr.add]
  simpa [bvals, List.map_take, e] using this

end Go.Proofs.Ytlahecofjlaojaa
