/- Strings of bytes: cuts, sums, constants. -/
import Derived.Test.YtlahecofjlaojaaStr2
import Derived.Laws.Concat
import Derived.WalkSpells
namespace Go.Proofs.Ytlahecofjlaojaa
set_option linter.unusedVariables false
open Go.RowKit

theorem str_ext {a b : ByteArray} (h : a.data.toList = b.data.toList) : a = b := by
  rcases a with ⟨a⟩; rcases b with ⟨b⟩
  have : a = b := by cases a; cases b; simpa using h
  rw [this]
theorem strOf_append (a b : List Nat) : strOf a ++ strOf b = strOf (a ++ b) := by
  apply str_ext
  rw [strOf_data, List.map_append, ← strOf_data, ← strOf_data]
  simp
theorem strOf_take (a : List Nat) (n : Nat) : (strOf a).extract 0 n = strOf (a.take n) := by
  apply str_ext
  rw [strOf_data, List.map_take, ← strOf_data]
  simp [ByteArray.data_extract]
theorem run_str_hi (a : List Nat) (n : Nat) (k : IntKind) (x : Int) (hx : x = (n : Int)) (h : n ≤ a.length) (w : World) :
    (Instr.slice 9 (.string (strOf a)) none (some (.int k x)) none).run Try.prog w = .ok (.string (strOf (a.take n))) w := by
  subst hx
  have h3 : (n : Int) ≤ ((strOf a).size : Int) := by rw [strOf_size]; omega
  rw [← strOf_take]
  simp [Instr.slice, run_underlying Try.underlying9, Instr.sliceBounds, run_sliceBound, h3]
theorem run_str_add (a b : List Nat) (t : TypeId) (h : a.length + b.length ≤ 1000000000) (w : World) : (Op.stringOp .add (strOf a) (strOf b)).run Try.prog w = .ok (.string (strOf (a ++ b))) w := by
  rw [← strOf_append]
  exact run_string_add_sum w _ _ (by rw [strOf_size, strOf_size]; omega)
theorem strOf_nil : strOf [] = ⟨#[]⟩ := rfl
end Go.Proofs.Ytlahecofjlaojaa
