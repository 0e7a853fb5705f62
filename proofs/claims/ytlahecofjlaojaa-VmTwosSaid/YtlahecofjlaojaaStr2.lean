/- Strings of bytes held against one another. -/
import Derived.Test.YtlahecofjlaojaaStr
import Derived.Laws.StructEq
namespace Go.Proofs.Ytlahecofjlaojaa
set_option linter.unusedVariables false
open Go.RowKit

/-! ### strings of bytes -/
theorem fold_push (l : List Int) (r : ByteArray) : (l.foldl (fun r n => r.push (UInt8.ofNat n.toNat)) r).data.toList = r.data.toList ++ l.map fun n => UInt8.ofNat n.toNat := by
  induction l generalizing r with
  | nil => simp
  | cons x l ih => simp only [List.foldl_cons, ih, List.map_cons]; simp [ByteArray.push]
theorem strOf_data (bs : List Nat) : (strOf bs).data.toList = bs.map UInt8.ofNat := by
  unfold strOf
  rw [fold_push, List.map_map]
  show [] ++ _ = _
  rw [List.nil_append]
  refine List.map_congr_left fun x _ => ?_
  rfl
theorem strOf_inj {a b : List Nat} (ha : ∀ x ∈ a, x < 256) (hb : ∀ x ∈ b, x < 256) (h : strOf a = strOf b) : a = b := by
  have h1 : a.map UInt8.ofNat = b.map UInt8.ofNat := by rw [← strOf_data, ← strOf_data, h]
  have h2 := congrArg (List.map UInt8.toNat) h1
  rw [List.map_map, List.map_map] at h2
  have e : ∀ l : List Nat, (∀ x ∈ l, x < 256) → l.map (UInt8.toNat ∘ UInt8.ofNat) = l := by
    intro l hl
    conv => rhs; rw [← List.map_id l]
    refine List.map_congr_left fun x hx => ?_
    have := hl x hx
    simp only [Function.comp, id, UInt8.toNat_ofNat']
    omega
  rwa [e a ha, e b hb] at h2
theorem strOf_size (bs : List Nat) : (strOf bs).size = bs.length := by
  have := congrArg List.length (strOf_data bs)
  rw [List.length_map, Array.length_toList] at this
  exact this
theorem bytes_beq (a b : ByteArray) : (a == b) = decide (a = b) := by
  rcases a with ⟨a⟩; rcases b with ⟨b⟩
  show (a == b) = _
  by_cases h : a = b
  · subst h; simp
  · have h2 : ¬ (ByteArray.mk a = ByteArray.mk b) := fun h3 => h (by injection h3)
    simp [h, h2]
/-- What '==' and '!=' say of two strings of bytes. -/
def sameB (a b : List Nat) : Bool := decide (a = b)
theorem strOf_beq {a b : List Nat} (ha : ∀ x ∈ a, x < 256) (hb : ∀ x ∈ b, x < 256) : (strOf a == strOf b) = sameB a b := by
  unfold sameB
  rw [bytes_beq]
  by_cases h : a = b
  · subst h; simp
  · have : ¬ strOf a = strOf b := fun h2 => h (strOf_inj ha hb h2)
    simp [h, this]
/-- The same, as a walk spells it. -/
theorem strOf_lbeq {a b : List Nat} (ha : ∀ x ∈ a, x < 256) (hb : ∀ x ∈ b, x < 256) : ((strOf a).toList == (strOf b).toList) = sameB a b := by
  rw [← strOf_beq ha hb, beq_toListBytes]
theorem sameB_self (a : List Nat) : sameB a a = true := by simp [sameB]
theorem strOf_bne {a b : List Nat} (ha : ∀ x ∈ a, x < 256) (hb : ∀ x ∈ b, x < 256) : (strOf a != strOf b) = !sameB a b := by
  rw [bne, strOf_beq ha hb]
end Go.Proofs.Ytlahecofjlaojaa
