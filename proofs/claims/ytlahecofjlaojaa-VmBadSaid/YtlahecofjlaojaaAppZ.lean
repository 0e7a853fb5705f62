/- append(s, make([]byte, m)...). -/
import Derived.Test.YtlahecofjlaojaaBytes
namespace Go.Proofs.Ytlahecofjlaojaa
set_option linter.unusedVariables false
open Go.RowKit

theorem zeroCells_u8 (m : Nat) : Builtin.zeroCells #[Value.int .u8 0] m = (List.replicate m (Value.int .u8 0)).toArray := by
  apply Array.ext
  · simp [Builtin.zeroCells]
  · intro j h1 h2
    simp [Builtin.zeroCells, Nat.mod_one]
theorem zeros_one (m : Nat) : ∀ u ∈ List.replicate m (Value.int .u8 0), u.oneCell' = true := by
  intro u hu
  rw [(List.mem_replicate.1 hu).2]; rfl
theorem run_append_zero (w : World) (ty : TypeId) (B : Nat) (A : Option Addr) (n c : Nat) (xs : List Value) (hown : Own w B 5 1 A n c xs) (hn0 : 0 < n) (m : Nat) (hn : n ≤ 1000) (hm : m ≤ 1000) (hB : B ≤ w.heap.size) :
    ∃ A' c' w', (Builtin.append_ #[22, 3] ty #[.slice A n c, .int .i64 (m : Int)]).run Try.prog w = .ok (.slice A' (n + m) c') w' ∧ Own w' B 5 1 A' (n + m) c' (xs ++ List.replicate m (.int .u8 0)) ∧ w.grownBy w' (rowOf A c) := by
  obtain ⟨i, z, hi, hz, h1, h2, h3⟩ := byte_elem.info
  have hzz : z = .int .u8 0 := by
    have : (Try.prog.info? 5).bind (·.zero) = some (.int .u8 0) := by kernel_rfl
    rw [hi] at this
    simp [hz] at this
    exact this
  have ht := byte_elem.under
  have hc : 0 < c := by have := hown.2.1; omega
  have hu : Try.prog.underlying 3 = some (.int .i64) := Try.underlying3
  obtain ⟨g, cur, rfl, hBg, hl, hg, hcs, ht'⟩ := hown.2.2.2.resolve_left (by omega)
  have hrow : rowOf (some ⟨g, 0, none⟩) c = some g := by simp [rowOf]; omega
  have hxl := hown.1
  have hcm := hown.2.2.1
  have hnc := hown.2.1
  have hnl : ¬ (9223372036854775807 < (n : Int) + (m : Int)) := by omega
  have hfit : c < n + m → ¬ (281474976710656 < Builtin.nextslicecap (n + m) c) := fun h => by
    have := growslice_fits (bytes := 1) h (show (n + m) * 1 ≤ 140737488355328 by omega)
    omega
  have hwr : IntKind.i64.wrap (m : Int) = (m : Int) := by rw [IntKind.wrap_i64]; omega
  have hneg : ¬ ((m : Int) < 0) := by omega
  have hbig : ¬ (281474976710656 < (m : Int)) := by omega
  rw [hrow]
  have hzc : z.cells = #[.int .u8 0] := by rw [hzz]; rfl
  by_cases hroom : n + m ≤ c
  · have hst := run_storeCells_at Try.prog g (n * 1) 5 (List.replicate m (Value.int .u8 0)) 0 cur w hg (by simp; omega) (zeros_one m)
    simp only [Nat.add_zero, Nat.mul_one] at hst
    refine ⟨some ⟨g, 0, none⟩, c, w.setRow g (cur.toList.take n ++ List.replicate m (Value.int .u8 0) ++ cur.toList.drop (n + (List.replicate m (Value.int .u8 0)).length)).toArray, ?_, ?_, ?_⟩
    · by_cases h0 : m = 0
      · subst h0
        have hw0 : IntKind.i64.wrap 0 = 0 := by decide
        simp at hst
        simp at hroom
        simp [Builtin.append_, run_underlying ht, run_underlying hu, sizeOf, typeInfo, hi, h1, h2, hroom, zeroValue, hz, hzc, asInt, asIntOf, add_lit, hw0, hst]
      · simp [Builtin.append_, run_underlying ht, run_underlying hu, sizeOf, typeInfo, hi, h1, h2, hwr, hneg, hbig, hroom, h0, zeroValue, hz, hzc, zeroCells_u8, asInt, asIntOf, add_lit, hst]
    · refine ⟨by simp [hxl], hroom, hcm, .inr ⟨g, _, rfl, hBg, by simpa [World.setRow] using hl, setRow_heap w g cur _ 5 _ hg, ?_, ?_⟩⟩
      · simp only [List.size_toArray, List.length_append, List.length_take, List.length_drop, Array.length_toList, List.length_replicate]
        omega
      · have hx : cur.toList.take n = xs := by rw [← ht', Nat.mul_one]
        rw [hx]
        simp only [List.append_assoc, Nat.mul_one]
        rw [← List.append_assoc]
        have hxm : n + m = (xs ++ List.replicate m (Value.int .u8 0)).length := by simp [hxl]
        rw [hxm]
        exact List.take_left
    · exact ⟨rfl, rfl, rfl, by simp, fun k hk hne => setRow_other w g k _ (fun e => hne (by rw [e]))⟩
  · have hm0 : m ≠ 0 := by omega
    have hfit := hfit (by omega)
    have h63 : n + m ≤ maxLen := by unfold maxLen; omega
    have hge := grownCap_ge w (n + m) c 5
    have hcm2 : grownCap w (n + m) c 5 ≤ maxLen := grownCap_le_maxLen w (n + m) c 5 h63
    have hholds : ∀ j u, xs[j]? = some u → w.drew.cell? ((⟨g, 0, none⟩ : Addr).add j) = some u := by
      obtain ⟨g2, e2, _, _, hcell, _⟩ := hown.pos (by omega)
      simp at e2
      subst e2
      intro j u hu
      rw [add_lit, Nat.zero_add]
      exact hcell j u hu
    have hfo := run_firstCells_some (P := Try.prog) w.drew 1 n ⟨g, 0, none⟩ n c xs hxl hholds
    refine ⟨some ⟨w.heap.size, 0, none⟩, grownCap w (n + m) c 5, w.drew.alloc (.cells (xs.toArray ++ (List.replicate m (Value.int .u8 0)).toArray ++ Builtin.zeroCells z.cells (grownCap w (n + m) c 5 - (n + m))) 5), ?_, ?_, ?_⟩
    · simp [Builtin.append_, run_underlying ht, run_underlying hu, sizeOf, typeInfo, hi, h1, h2, hwr, hneg, hbig, hroom, hm0, hnl, hfit, zeroValue, hz, hzc, zeroCells_u8, asInt, asIntOf, add_lit, Question.forced, hfo, newRow, grownCap]
    · refine Own.lit w.drew _ hB hge hcm2 ?_ ?_
      · simp only [Array.size_append, List.size_toArray, size_zeroCells, h3, hxl, List.length_replicate]
        omega
      · have hxm : (n + m) * 1 = (xs ++ List.replicate m (Value.int .u8 0)).length := by simp [hxl]
        simp only [Array.toList_append]
        rw [hxm]
        exact List.take_left
    · exact ⟨rfl, rfl, rfl, by simp, fun k hk _ => Below.heap_alloc w.drew _ k hk⟩
theorem wpList_append_zero {w : World} {ops : Array Oper} {rest : List Oper} {o : Oper} {a : Act} {Q : Exit → Act → World → Prop} (hgd : o.guard = none) (s x : Operand)
    (ho : o.op = .call { callee := .builtin .append, args := #[s, x], argTypes := #[22, 3] })
    (B : Nat) {A : Option Addr} {n c : Nat} {xs : List Value} (hs : a.eval s = .slice A n c) (hown : Own w B 5 1 A n c xs) (hn0 : 0 < n)
    (m : Nat) (hx : a.eval x = .int .i64 (m : Int)) (hn : n ≤ 1000) (hm : m ≤ 1000) (hB : B ≤ w.heap.size)
    (h : ∀ A' c' w', Own w' B 5 1 A' (n + m) c' (xs ++ List.replicate m (.int .u8 0)) → w.grownBy w' (rowOf A c) → wpList Try.prog ops Q rest (a.put o.dst (.slice A' (n + m) c')) w') : wpList Try.prog ops Q (o :: rest) a w := by
  obtain ⟨A', c', w', hrun, h2, h3⟩ := run_append_zero w o.type B A n c xs hown hn0 m hn hm hB
  refine wpList_plain hgd fun _ hK => ?_
  unfold Oper.wp execOp
  simp only [ho, resolve, invoke, builtin, Sem.run_bind, Sem.run_pure, Result.andThen_ok, List.map_toArray, List.map_cons, List.map_nil, hs, hx, hrun]
  exact hK _ _ (h A' c' w' h2 h3)
end Go.Proofs.Ytlahecofjlaojaa
