/- Bytes that a call gives. -/
import Derived.Test.YtlahecofjlaojaaBytes
import Derived.Test.YtlahecofjlaojaaBlk0
namespace Go.Proofs.Ytlahecofjlaojaa
set_option linter.unusedVariables false
open Go.RowKit

/-- A slice of bytes such as a call gives. -/
def GB (w : World) (A : Option Addr) (n c : Nat) (bs : List Nat) : Prop := n ≤ c ∧ c ≤ maxLen ∧ Bytes w A n bs ∧ Typ w 5 A n
theorem GB.ext {w w' : World} {A : Option Addr} {n c : Nat} {bs : List Nat} (h : GB w A n c bs) (he : Ext w w') : GB w' A n c bs := ⟨h.1, h.2.1, h.2.2.1.ext he, h.2.2.2.ext he⟩
theorem GB.nil (w : World) : GB w none 0 0 [] := ⟨Nat.le_refl _, by simp [maxLen], .of (RS.nil _ _ _) rfl, .inl rfl⟩
theorem GB.own {w : World} {B n c : Nat} {A : Option Addr} {bs : List Nat} (h : Own w B 5 1 A n c (bvals bs)) : GB w A n c bs :=
  ⟨h.2.1, h.2.2.1, .of h.rs (by have := h.1; simpa [bvals] using this), h.typ⟩
theorem GB.bytes {w : World} {A : Option Addr} {n c : Nat} {bs : List Nat} (h : GB w A n c bs) : Bytes w A n bs := h.2.2.1
theorem GB.le {w : World} {A : Option Addr} {n c : Nat} {bs : List Nat} (h : GB w A n c bs) : n ≤ c := h.1
end Go.Proofs.Ytlahecofjlaojaa
