/- Bytes beside a block that is written; make of bytes. -/
import Derived.Test.YtlahecofjlaojaaTyp
namespace Go.Proofs.Ytlahecofjlaojaa
set_option linter.unusedVariables false
open Go.RowKit

/-- What lies in a block of another type stays. -/
theorem GB.mut {w w' : World} {A : Option Addr} {n c g : Nat} {bs : List Nat} {t : TypeId} {cs : Array Value} (h : GB w A n c bs) (hb : Blk w g t cs) (hne : t ≠ 5) (k : Mut w g w') : GB w' A n c bs := by
  have hno : ∀ b o, A = some ⟨b, o, none⟩ → n = 0 ∨ some g ≠ some b := by
    intro b o hA
    rcases h.2.2.2 with h0 | ⟨b1, o1, cur, m, e1, hb1⟩
    · exact .inl h0
    · right
      intro e
      injection e with e
      subst e
      rw [hA] at e1
      simp at e1
      obtain ⟨rfl, rfl⟩ := e1
      unfold Blk at hb
      rw [hb] at hb1
      injection hb1 with hb1
      injection hb1 with _ h3
      exact hne h3
  refine ⟨h.1, h.2.1, .of (h.2.2.1.rs.grown k hno) h.2.2.1.len, ?_⟩
  rcases h.2.2.2 with h0 | ⟨b1, o1, cur, m, e1, hb1⟩
  · exact .inl h0
  · rcases hno b1 o1 e1 with h0 | h0
    · exact .inl h0
    · exact .inr ⟨b1, o1, cur, m, e1, (World.grownBy.block k b1 (Array.getElem?_eq_some_iff.1 hb1).1 (fun e => h0 e.symm)).trans hb1⟩

/-! ### make -/
def zeros8 (n : Nat) : List Nat := List.replicate n 0
theorem zeros8_len (n : Nat) : (zeros8 n).length = n := by simp [zeros8]
def zeroRow (P : Program) (e : TypeId) (z : Value) (i : TypeInfo) (n : Nat) : Array Value := madeCells z.cells (n * i.size)
/-- The cells that a make of n bytes lays. -/
def madeB (n : Nat) : Array Value := madeCells #[.int .u8 0] (n * 1)
theorem madeB_list (n : Nat) : (madeB n).toList = bvals (zeros8 n) := by
  apply List.ext_getElem
  · simp [madeB, madeCells, bvals, zeros8]
  · intro j h1 h2
    simp [madeB, madeCells, bvals, zeros8, Nat.mod_one] at h1 ⊢
theorem run_make8 (n : Nat) (x : Int) (hx : x = (n : Int)) (hn : n ≤ 100000000) (w : World) :
    (Instr.makeSlice 22 (.int .i64 x) (.int .i64 x)).run Try.prog w = .ok (.slice (some ⟨w.heap.size, 0, none⟩) n n) (w.alloc (.cells (madeB n) 5)) := by
  subst hx
  obtain ⟨i, z, hi, hz, h1, h2, h3⟩ := byte_elem.info
  have hzz : z = .int .u8 0 := by
    have : (Try.prog.info? 5).bind (·.zero) = some (.int .u8 0) := by kernel_rfl
    rw [hi] at this
    simp [hz] at this
    exact this
  have := run_make (P := Try.prog) w 22 5 i z byte_elem.under hi hz .i64 .i64 (n : Int) (n : Int) (by omega) (by omega) (by rw [h2]; omega) (by omega)
  simp only [Int.toNat_natCast, h1] at this
  rw [this, hzz]
  rfl
theorem made_own (w : World) (B n : Nat) (hB : B ≤ w.heap.size) (hn : n ≤ 100000000) : Own (w.alloc (.cells (madeB n) 5)) B 5 1 (some ⟨w.heap.size, 0, none⟩) n n (bvals (zeros8 n)) := by
  refine Own.lit w (madeB n) hB (Nat.le_refl _) (by unfold maxLen; omega) ?_ ?_
  · rw [← Array.length_toList, madeB_list]
    simp [bvals, zeros8]
  · rw [madeB_list, List.take_of_length_le (by simp [bvals, zeros8])]

end Go.Proofs.Ytlahecofjlaojaa
