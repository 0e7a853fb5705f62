/- Slices of ints: made, copied, appended to. -/
import Derived.Test.YtlahecofjlaojaaRows
import Derived.Test.YtlahecofjlaojaaBlk0
namespace Go.Proofs.Ytlahecofjlaojaa
set_option linter.unusedVariables false
open Go.RowKit

theorem int_elem : ElemFacts Try.prog 23 3 1 8 := elem_mk Try.underlying23 (by kernel_rfl) (by omega)
def ivals (zs : List Int) : List Value := zs.map (Value.int .i64)
theorem ivals_append (a b : List Int) : ivals (a ++ b) = ivals a ++ ivals b := by simp [ivals]
theorem ivals_len (a : List Int) : (ivals a).length = a.length := by simp [ivals]
theorem ivals_one (zs : List Int) : ∀ u ∈ ivals zs, u.oneCell' = true := Nums.one zs
/-- A slice of ints such as a call gives. -/
def GI (w : World) (A : Option Addr) (n c : Nat) (zs : List Int) : Prop := n ≤ c ∧ c ≤ maxLen ∧ Nums .i64 w A n zs ∧ Typ w 3 A n
theorem GI.ext {w w' : World} {A : Option Addr} {n c : Nat} {zs : List Int} (h : GI w A n c zs) (he : Ext w w') : GI w' A n c zs := ⟨h.1, h.2.1, h.2.2.1.ext he, h.2.2.2.ext he⟩
theorem GI.nil (w : World) : GI w Option.none 0 0 [] := ⟨Nat.le_refl _, by simp [maxLen], ⟨rfl, RS.nil _ _ _⟩, .inl rfl⟩
theorem GI.own {w : World} {B n c : Nat} {A : Option Addr} {zs : List Int} (h : Own w B 3 1 A n c (ivals zs)) : GI w A n c zs :=
  ⟨h.2.1, h.2.2.1, ⟨by have := h.1; simpa [ivals] using this, h.rs⟩, h.typ⟩
theorem GI.nums {w : World} {A : Option Addr} {n c : Nat} {zs : List Int} (h : GI w A n c zs) : Nums .i64 w A n zs := h.2.2.1
theorem GI.le {w : World} {A : Option Addr} {n c : Nat} {zs : List Int} (h : GI w A n c zs) : n ≤ c := h.1

theorem GI.mut {w w' : World} {A : Option Addr} {n c g : Nat} {zs : List Int} {t : TypeId} {cs : Array Value} (h : GI w A n c zs) (hb : Blk w g t cs) (hne : t ≠ 3) (k : Mut w g w') : GI w' A n c zs := by
  have hno : ∀ b o, A = some ⟨b, o, Option.none⟩ → n = 0 ∨ some g ≠ some b := by
    intro b o hA
    rcases h.2.2.2 with h0 | ⟨b1, o1, cur, m, e1, hb1⟩
    · exact .inl h0
    · right
      intro e
      injection e with e
      subst e
      rw [hA] at e1
      simp at e1
      obtain ⟨rfl, rfl⟩ := e1
      unfold Blk at hb
      rw [hb] at hb1
      injection hb1 with hb1
      injection hb1 with _ h3
      exact hne h3
  refine ⟨h.1, h.2.1, ⟨h.2.2.1.1, h.2.2.1.2.grown k hno⟩, ?_⟩
  rcases h.2.2.2 with h0 | ⟨b1, o1, cur, m, e1, hb1⟩
  · exact .inl h0
  · rcases hno b1 o1 e1 with h0 | h0
    · exact .inl h0
    · exact .inr ⟨b1, o1, cur, m, e1, (World.grownBy.block k b1 (Array.getElem?_eq_some_iff.1 hb1).1 (fun e => h0 e.symm)).trans hb1⟩
def zerosI (n : Nat) : List Int := List.replicate n 0
theorem zerosI_len (n : Nat) : (zerosI n).length = n := by simp [zerosI]
def madeI (n : Nat) : Array Value := madeCells #[.int .i64 0] (n * 1)
theorem madeI_list (n : Nat) : (madeI n).toList = ivals (zerosI n) := by
  apply List.ext_getElem
  · simp [madeI, madeCells, ivals, zerosI]
  · intro j h1 h2
    simp [madeI, madeCells, ivals, zerosI, Nat.mod_one] at h1 ⊢
theorem run_makeI (n : Nat) (x : Int) (hx : x = (n : Int)) (hn : n ≤ 10000000) (w : World) :
    (Instr.makeSlice 23 (.int .i64 x) (.int .i64 x)).run Try.prog w = .ok (.slice (some ⟨w.heap.size, 0, none⟩) n n) (w.alloc (.cells (madeI n) 3)) := by
  subst hx
  obtain ⟨i, z, hi, hz, h1, h2, h3⟩ := int_elem.info
  have hzz : z = .int .i64 0 := by
    have : (Try.prog.info? 3).bind (·.zero) = some (.int .i64 0) := by kernel_rfl
    rw [hi] at this
    simp [hz] at this
    exact this
  have := run_make (P := Try.prog) w 23 3 i z int_elem.under hi hz .i64 .i64 (n : Int) (n : Int) (by omega) (by omega) (by rw [h2]; omega) (by omega)
  simp only [Int.toNat_natCast, h1] at this
  rw [this, hzz]
  rfl
theorem made_ownI (w : World) (B n : Nat) (hB : B ≤ w.heap.size) (hn : n ≤ 10000000) : Own (w.alloc (.cells (madeI n) 3)) B 3 1 (some ⟨w.heap.size, 0, none⟩) n n (ivals (zerosI n)) := by
  refine Own.lit w (madeI n) hB (Nat.le_refl _) (by unfold maxLen; omega) ?_ ?_
  · rw [← Array.length_toList, madeI_list]
    simp [ivals, zerosI]
  · rw [madeI_list, List.take_of_length_le (by simp [ivals, zerosI])]
theorem Nums.front {k : IntKind} {w : World} {A : Option Addr} {n hi : Nat} {zs : List Int} (h : Nums k w A n zs) (h2 : hi ≤ n) : Nums k w A hi (zs.take hi) := by
  have hl := h.1
  have := RS.cut h.2 (Nat.zero_le hi) h2 (Nat.le_succ n)
  refine ⟨by simp [hl]; omega, ?_⟩
  have e : A.map (·.add 0) = A := by cases A <;> simp [Addr.add]
  simpa [List.map_take, e] using this
theorem Nums.rest {w : World} {A : Option Addr} {n c k : Nat} {zs : List Int} (h : Nums .i64 w A n zs) (hk : k ≤ n) (hc : n ≤ c) :
    ∃ A3, (∀ w x, x = (k : Int) → (Instr.slice 23 (.slice A n c) (some (.int .i64 x)) none none).run Try.prog w = .ok (.slice A3 (n - k) (c - k)) w) ∧ Nums .i64 w A3 (n - k) (zs.drop k) := by
  refine ⟨cutA A c k 1, fun w x hx => by subst hx; exact int_elem.cut_lo A n c k .i64 hk w, ?_⟩
  have := RS.cutA h.2 hk (Nat.le_refl _) hc
  have hl := h.1
  refine ⟨by simp [hl], ?_⟩
  simp only [Nat.mul_one] at this
  rw [List.take_of_length_le (by simp [hl]), ← List.map_drop] at this
  exact this
end Go.Proofs.Ytlahecofjlaojaa
