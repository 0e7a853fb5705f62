/- The machine: do. -/
import Derived.Test.YtlahecofjlaojaaVm4
namespace Go.Proofs.Ytlahecofjlaojaa
set_option linter.unusedVariables false
open Go.RowKit

/-- What a machine must be for its signs to be what they are: its numbers are of 64 bits, its code is bytes. -/
structure Ms.Ok (m : Ms) : Prop where
  code : ∀ x ∈ m.code, x < 256
  len : m.code.length ≤ 1000
  arg : -9223372036854775808 ≤ m.arg ∧ m.arg ≤ 9223372036854775807
  data : -9223372036854775808 ≤ m.data ∧ m.data ≤ 9223372036854775807
  stack : ∀ x ∈ m.stack, -9223372036854775808 ≤ x ∧ x ≤ 9223372036854775807
  deep : m.stack.length ≤ 1000
  at_ : m.at_ ≤ 1001
theorem i64_getD {l : List Int} (h : ∀ x ∈ l, -9223372036854775808 ≤ x ∧ x ≤ 9223372036854775807) (k : Nat) : -9223372036854775808 ≤ l.getD k 0 ∧ l.getD k 0 ≤ 9223372036854775807 := by
  rw [List.getD_eq_getElem?_getD]
  cases hk : l[k]? with
  | none => simp
  | some x => exact h x (List.mem_of_getElem? hk)

/-- What do must answer. -/
def DoSays (w0 : World) (g : Nat) (r : Int × Ms) (e : Ending) (w' : World) : Prop :=
  e = .returned (.int .i64 r.1) ∧ Ext w0 w' ∧ (r.1 = 0 → NextAt w0 w' g r.2)

set_option maxRecDepth 100000 in
set_option maxHeartbeats 1000000 in
theorem vdo_bad (w0 : World) (g : Nat) (m : Ms) (op : Nat) (w : World) (hN : NextAt w0 w g m) (h : op = 0 ∨ 16 ≤ op) (h2 : op < 256) :
    Calls Try.prog 28 #[.pointer (some ⟨g, 0, none⟩), .int .u8 (op : Int)] w fun e w' => DoSays w0 g (doV m op) e w' := by
  have hb := hN.base
  have he : doV m op = (10, m) := by
    unfold doV
    simp only
    rw [if_neg (by omega), if_neg (by omega), if_neg (by omega), if_neg (by omega), if_neg (by omega), if_neg (by omega), if_neg (by omega)]
  rw [he]
  clear he hN
  rcases h with rfl | h
  · go_enter Try.func28, Try.ntmps28
    go_wp2_with fail
    go_ret
    exact ⟨rfl, hb, fun h => absurd h (by simp)⟩
  · have e1 : ((op : Int) == 1) = false := by simp; omega
    have e2 : ((op : Int) == 2) = false := by simp; omega
    have e3 : ((op : Int) == 3) = false := by simp; omega
    have e4 : ((op : Int) == 4) = false := by simp; omega
    have e5 : ((op : Int) == 5) = false := by simp; omega
    have e6 : ((op : Int) == 6) = false := by simp; omega
    have e7 : ((op : Int) == 7) = false := by simp; omega
    have e8 : ((op : Int) == 8) = false := by simp; omega
    have e9 : ((op : Int) == 9) = false := by simp; omega
    have e10 : ((op : Int) == 10) = false := by simp; omega
    have e11 : ((op : Int) == 11) = false := by simp; omega
    have e12 : ((op : Int) == 12) = false := by simp; omega
    have e13 : ((op : Int) == 13) = false := by simp; omega
    have e14 : ((op : Int) == 14) = false := by simp; omega
    have e15 : ((op : Int) == 15) = false := by simp; omega
    go_enter Try.func28, Try.ntmps28
    go_wp2_with fail
    go_ret
    exact ⟨rfl, hb, fun h => absurd h (by simp)⟩

set_option maxRecDepth 100000 in
set_option maxHeartbeats 1000000 in
theorem vdo_push (w0 : World) (g : Nat) (m : Ms) (w : World) (hN : NextAt w0 w g m) (hk : m.Ok) (hat : m.at_ ≤ m.code.length) :
    Calls Try.prog 28 #[.pointer (some ⟨g, 0, none⟩), .int .u8 1] w fun e w' => DoSays w0 g (doV m 1) e w' := by
  have h1 := vlit_any w0 g m w hN hk.deep hk.code (by have := hk.len; omega) hat
  clear hN
  go_enter Try.func28, Try.ntmps28
  go_wp2_with fail
  refine h1.mono ?_
  rintro e w9 ⟨rfl, hN9⟩
  go_wp2_with fail
  go_ret
  exact ⟨rfl, hN9.base, fun _ => hN9⟩
set_option maxRecDepth 100000 in
set_option maxHeartbeats 1000000 in
theorem vdo_jz (w0 : World) (g : Nat) (m : Ms) (w : World) (hN : NextAt w0 w g m) (hk : m.Ok) :
    Calls Try.prog 28 #[.pointer (some ⟨g, 0, none⟩), .int .u8 13] w fun e w' => DoSays w0 g (doV m 13) e w' := by
  have hl := hk.len
  by_cases hcut : m.code.length ≤ m.at_
  · have h1 := vjump_cut w0 g m w hN hk.deep hk.code (by omega) hcut (by have := hk.at_; omega)
    have he : (doV m 13).1 = 8 := by
      unfold doV
      simp only
      rw [if_neg (by decide), if_neg (by decide), if_neg (by decide), if_neg (by decide), if_neg (by decide), if_neg (by decide), if_pos (by trivial), if_pos hcut]
    have He := Lib.hid he
    clear hN he
    go_enter Try.func28, Try.ntmps28
    go_wp2_with fail
    refine h1.mono ?_
    rintro e w9 ⟨rfl, hx9⟩
    go_wp2_with fail
    go_ret
    exact ⟨by rw [He.out]; rfl, hx9, fun h => absurd h (by rw [He.out]; simp)⟩
  · have h1 := vjump_any w0 g m w hN hk.deep hk.code (by omega) hcut _ rfl
    clear hN
    generalize doV m 13 = r at *
    go_enter Try.func28, Try.ntmps28
    go_wp2_with fail
    refine h1.mono ?_
    rintro e w9 ⟨rfl, h9⟩
    go_wp2_with fail
    go_ret
    exact ⟨rfl, h9⟩

theorem one_num (w : World) (x : Int) : Nums .i64 (w.alloc (.cells #[.int .i64 x] 3)) (some ⟨w.heap.size, 0, none⟩) 1 [x] :=
  ⟨rfl, by
    have := box_rs w 3 1 [.int .i64 x] 1 rfl
    simpa using this⟩
theorem two_num (w : World) (x y : Int) : Nums .i64 (w.alloc (.cells #[.int .i64 x, .int .i64 y] 3)) (some ⟨w.heap.size, 0, none⟩) 2 [x, y] :=
  ⟨rfl, by
    have := box_rs w 3 1 [.int .i64 x, .int .i64 y] 2 rfl
    simpa using this⟩
theorem doV_11 (m : Ms) : doV m 11 = push_ m [m.arg] := by
  unfold doV
  simp only
  rw [if_neg (by decide), if_neg (by decide), if_neg (by decide), if_neg (by decide), if_pos (by trivial)]
theorem doV_12 (m : Ms) : doV m 12 = push_ m [m.data] := by
  unfold doV
  simp only
  rw [if_neg (by decide), if_neg (by decide), if_neg (by decide), if_neg (by decide), if_neg (by decide), if_pos (by trivial)]
set_option maxRecDepth 100000 in
set_option maxHeartbeats 1000000 in
theorem vdo_arg (w0 : World) (g : Nat) (m : Ms) (w : World) (hN : NextAt w0 w g m) (hk : m.Ok) :
    Calls Try.prog 28 #[.pointer (some ⟨g, 0, none⟩), .int .u8 11] w fun e w' => DoSays w0 g (doV m 11) e w' := by
  rw [doV_11]
  obtain ⟨_, _, _, _, -, k1, k2, -, -, -⟩ := hN.cells
  have h1 := vpush_any w0 g m (some ⟨w.heap.size, 0, none⟩) 1 1 [m.arg] _ (hN.ext ((Ext.refl w).alloc (.cells #[.int .i64 m.arg] 3))) (one_num w m.arg) (by omega) hk.deep
  clear hN
  generalize push_ m [m.arg] = r at *
  go_enter Try.func28, Try.ntmps28
  go_wp2_with fail
  refine h1.mono ?_
  rintro e w9 ⟨rfl, h9⟩
  go_wp2_with fail
  go_ret
  exact ⟨rfl, h9.base, fun _ => h9⟩
set_option maxRecDepth 100000 in
set_option maxHeartbeats 1000000 in
theorem vdo_data (w0 : World) (g : Nat) (m : Ms) (w : World) (hN : NextAt w0 w g m) (hk : m.Ok) :
    Calls Try.prog 28 #[.pointer (some ⟨g, 0, none⟩), .int .u8 12] w fun e w' => DoSays w0 g (doV m 12) e w' := by
  rw [doV_12]
  obtain ⟨_, _, _, _, -, k1, k2, -, -, -⟩ := hN.cells
  have h1 := vpush_any w0 g m (some ⟨w.heap.size, 0, none⟩) 1 1 [m.data] _ (hN.ext ((Ext.refl w).alloc (.cells #[.int .i64 m.data] 3))) (one_num w m.data) (by omega) hk.deep
  clear hN
  generalize push_ m [m.data] = r at *
  go_enter Try.func28, Try.ntmps28
  go_wp2_with fail
  refine h1.mono ?_
  rintro e w9 ⟨rfl, h9⟩
  go_wp2_with fail
  go_ret
  exact ⟨rfl, h9.base, fun _ => h9⟩
theorem doV_no (m : Ms) (op k : Nat) (h : (k = 2 ∧ ((2 ≤ op ∧ op ≤ 7) ∨ op = 9)) ∨ (k = 1 ∧ (op = 8 ∨ op = 10 ∨ op = 14 ∨ op = 15))) (hs : m.stack.length < k) : (doV m op).1 = 15 := by
  rcases h with ⟨rfl, h | rfl⟩ | ⟨rfl, h⟩
  · unfold doV
    simp only
    rw [if_neg (by omega), if_pos h, if_pos (by omega)]
  · unfold doV
    simp only
    rw [if_neg (by decide), if_neg (by decide), if_pos (by trivial), if_pos (by omega)]
  · unfold doV
    simp only
    rw [if_neg (by omega), if_neg (by omega), if_neg (by omega), if_pos h, if_pos (by omega)]
set_option maxRecDepth 100000 in
set_option maxHeartbeats 1000000 in
theorem vdo_no (w0 : World) (g : Nat) (m : Ms) (op k : Nat) (w : World) (hN : NextAt w0 w g m) (hk : m.Ok) (h : (k = 2 ∧ ((2 ≤ op ∧ op ≤ 7) ∨ op = 9)) ∨ (k = 1 ∧ (op = 8 ∨ op = 10 ∨ op = 14 ∨ op = 15))) (hs : m.stack.length < k) :
    Calls Try.prog 28 #[.pointer (some ⟨g, 0, none⟩), .int .u8 (op : Int)] w fun e w' => DoSays w0 g (doV m op) e w' := by
  have he := Lib.hid (doV_no m op k h hs)
  have h1 := vpop_no w0 g m k w hN (by omega) hk.deep hs
  clear hN hs
  have hop : (k = 2 ∧ op = 2) ∨ (k = 2 ∧ op = 3) ∨ (k = 2 ∧ op = 4) ∨ (k = 2 ∧ op = 5) ∨ (k = 2 ∧ op = 6) ∨ (k = 2 ∧ op = 7) ∨ (k = 2 ∧ op = 9) ∨ (k = 1 ∧ op = 8) ∨ (k = 1 ∧ op = 10) ∨ (k = 1 ∧ op = 14) ∨ (k = 1 ∧ op = 15) := by omega
  clear h
  rcases hop with ⟨rfl, rfl⟩ | ⟨rfl, rfl⟩ | ⟨rfl, rfl⟩ | ⟨rfl, rfl⟩ | ⟨rfl, rfl⟩ | ⟨rfl, rfl⟩ | ⟨rfl, rfl⟩ | ⟨rfl, rfl⟩ | ⟨rfl, rfl⟩ | ⟨rfl, rfl⟩ | ⟨rfl, rfl⟩
  all_goals
    go_enter Try.func28, Try.ntmps28
    go_wp2_with fail
    refine h1.mono ?_
    rintro e w9 ⟨rfl, h9⟩
    have hb := h9.base
    clear h9
    go_wp2_with fail
    go_ret
    exact ⟨by rw [he.out]; rfl, hb, fun h => absurd h (by rw [he.out]; simp)⟩
end Go.Proofs.Ytlahecofjlaojaa
