/- A block that is known whole; what writes to one block alone; make and copy upon slices of the call's own. -/
import Derived.Test.YtpgndejmhegklaaRows3
import Derived.Laws.MakeOwn
import Derived.Laws.CopyOwn
namespace Go.Proofs.Ytpgndejmhegklaa
set_option linter.unusedVariables false
open Go.RowKit

/-- Block g is just these cells. -/
def Blk (w : World) (g : Nat) (t : TypeId) (cs : Array Value) : Prop := w.heap[g]? = some (.cells cs t (0, 0))
section
variable {w w' : World} {g : Nat} {t : TypeId} {cs : Array Value}
theorem Blk.lt (h : Blk w g t cs) : g < w.heap.size := (Array.getElem?_eq_some_iff.1 h).1
theorem Blk.cell (h : Blk w g t cs) (i : Nat) : w.cell? ⟨g, i, none⟩ = cs[i]? := cell_of_row w g i cs t (0, 0) h
theorem Blk.frozen (h : Blk w g t cs) (i : Nat) : w.frozen? ⟨g, i, none⟩ = false := by
  unfold Blk at h
  simp [World.frozen?, h]
theorem Blk.new (w : World) (t : TypeId) (cs : Array Value) : Blk (w.alloc (.cells cs t)) w.heap.size t cs := heap_alloc_new w _
theorem Blk.drew (h : Blk w g t cs) : Blk w.drew g t cs := h
theorem Blk.ext (h : Blk w g t cs) (he : Ext w w') : Blk w' g t cs := (he.block g h.lt).trans h
theorem Blk.set_ (h : Blk w g t cs) (i : Nat) (u : Value) : Blk (w.setCell ⟨g, i, none⟩ u) g t (cs.setIfInBounds i u) := by
  unfold Blk at h ⊢
  simp [World.setCell, Array.getElem?_modify, h]
theorem Blk.far (h : Blk w g t cs) {p : Addr} (hp : g ≠ p.block) (u : Value) : Blk (w.setCell p u) g t cs := (Below.heap_setCell w p u g hp).trans h
theorem Blk.grown {row : Option Nat} (h : Blk w g t cs) (hb : w.grownBy w' row) (hg : some g ≠ row) : Blk w' g t cs := (hb.block g h.lt hg).trans h
end

/-- All but block g stays as it was. -/
def Mut (w : World) (g : Nat) (w' : World) : Prop := w.grownBy w' (some g)
theorem Mut.refl (w : World) (g : Nat) : Mut w g w := World.grownBy.refl w _
theorem Mut.trans {a b c : World} {g : Nat} (h : Mut a g b) (k : Mut b g c) : Mut a g c :=
  ⟨k.os.trans h.os, k.tape.trans h.tape, k.output.trans h.output, Nat.le_trans h.size k.size, fun j hj hne => (k.block j (Nat.lt_of_lt_of_le hj h.size) hne).trans (h.block j hj hne)⟩
theorem Mut.of_ext {a b : World} {g : Nat} (h : Ext a b) : Mut a g b := ⟨h.os, h.tape, h.output, h.size, fun j hj _ => h.block j hj⟩
theorem Mut.setCell {a b : World} {g : Nat} (h : Mut a g b) (i : Nat) (u : Value) : Mut a g (b.setCell ⟨g, i, none⟩ u) :=
  ⟨h.os, h.tape, h.output, by simpa [World.setCell] using h.size, fun j hj hne => (Below.heap_setCell b _ u j (fun e => hne (by rw [e]))).trans (h.block j hj hne)⟩
theorem Mut.ext {a b c : World} {g : Nat} (h : Mut a g b) (k : Ext b c) : Mut a g c := h.trans (.of_ext k)
theorem Mut.alloc {a b : World} {g : Nat} (h : Mut a g b) (o : Obj) : Mut a g (b.alloc o) := h.ext ((Ext.refl b).alloc o)
theorem Mut.drew {a b : World} {g : Nat} (h : Mut a g b) : Mut a g b.drew := h.ext (Ext.refl b).drew
/-- Seen from a world in which block g was not there yet, all of that world stays. -/
theorem Ext.mut {w0 a b : World} {g : Nat} (h : Ext w0 a) (k : Mut a g b) (hg : w0.heap.size ≤ g) : Ext w0 b := h.grown k (fun j e => by injection e with e; omega)
theorem Mut.grown {a b c : World} {g : Nat} {row : Option Nat} (h : Mut a g b) (hg : b.grownBy c row) (hr : ∀ k, row = some k → k = g ∨ a.heap.size ≤ k) : Mut a g c :=
  ⟨hg.os.trans h.os, hg.tape.trans h.tape, hg.output.trans h.output, Nat.le_trans h.size hg.size, fun j hj hne => by
    refine (hg.block j (Nat.lt_of_lt_of_le hj h.size) ?_).trans (h.block j hj hne)
    intro e
    rcases hr j e.symm with h1 | h1
    · subst h1; exact hne rfl
    · omega⟩
theorem Mut.size {a b : World} {g : Nat} (h : Mut a g b) : a.heap.size ≤ b.heap.size := World.grownBy.size h
theorem Blk.mut {w w' : World} {g h : Nat} {t : TypeId} {cs : Array Value} (hb : Blk w h t cs) (k : Mut w g w') (hne : h ≠ g) : Blk w' h t cs := hb.grown k (fun e => hne (by injection e))
/-- What lies in a block of another type stays. -/
theorem GB.mut {w w' : World} {A : Option Addr} {n c g : Nat} {bs : List Nat} {t : TypeId} {cs : Array Value} (h : GB w A n c bs) (hb : Blk w g t cs) (hne : t ≠ 5) (k : Mut w g w') : GB w' A n c bs := by
  have hno : ∀ b o, A = some ⟨b, o, none⟩ → n = 0 ∨ some g ≠ some b := by
    intro b o hA
    rcases h.2.2.2 with h0 | ⟨b1, o1, cur, m, e1, hb1⟩
    · exact .inl h0
    · right
      intro e
      injection e with e
      subst e
      rw [hA] at e1
      simp at e1
      obtain ⟨rfl, rfl⟩ := e1
      unfold Blk at hb
      rw [hb] at hb1
      injection hb1 with hb1
      injection hb1 with _ h3
      exact hne h3
  refine ⟨h.1, h.2.1, .of (h.2.2.1.rs.grown k hno) h.2.2.1.len, ?_⟩
  rcases h.2.2.2 with h0 | ⟨b1, o1, cur, m, e1, hb1⟩
  · exact .inl h0
  · rcases hno b1 o1 e1 with h0 | h0
    · exact .inl h0
    · exact .inr ⟨b1, o1, cur, m, e1, (World.grownBy.block k b1 (Array.getElem?_eq_some_iff.1 hb1).1 (fun e => h0 e.symm)).trans hb1⟩

/-! ### make -/
def zeros8 (n : Nat) : List Nat := List.replicate n 0
theorem zeros8_len (n : Nat) : (zeros8 n).length = n := by simp [zeros8]
def zeroRow (P : Program) (e : TypeId) (z : Value) (i : TypeInfo) (n : Nat) : Array Value := madeCells z.cells (n * i.size)
/-- The cells that a make of n bytes lays. -/
def madeB (n : Nat) : Array Value := madeCells #[.int .u8 0] (n * 1)
theorem madeB_list (n : Nat) : (madeB n).toList = bvals (zeros8 n) := by
  apply List.ext_getElem
  · simp [madeB, madeCells, bvals, zeros8]
  · intro j h1 h2
    simp [madeB, madeCells, bvals, zeros8, Nat.mod_one] at h1 ⊢
theorem run_make8 (n : Nat) (x : Int) (hx : x = (n : Int)) (hn : n ≤ 100000000) (w : World) :
    (Instr.makeSlice 22 (.int .i64 x) (.int .i64 x)).run Try.prog w = .ok (.slice (some ⟨w.heap.size, 0, none⟩) n n) (w.alloc (.cells (madeB n) 5)) := by
  subst hx
  obtain ⟨i, z, hi, hz, h1, h2, h3⟩ := byte_elem.info
  have hzz : z = .int .u8 0 := by
    have : (Try.prog.info? 5).bind (·.zero) = some (.int .u8 0) := by kernel_rfl
    rw [hi] at this
    simp [hz] at this
    exact this
  have := run_make (P := Try.prog) w 22 5 i z byte_elem.under hi hz .i64 .i64 (n : Int) (n : Int) (by omega) (by omega) (by rw [h2]; omega) (by omega)
  simp only [Int.toNat_natCast, h1] at this
  rw [this, hzz]
  rfl
theorem made_own (w : World) (B n : Nat) (hB : B ≤ w.heap.size) (hn : n ≤ 100000000) : Own (w.alloc (.cells (madeB n) 5)) B 5 1 (some ⟨w.heap.size, 0, none⟩) n n (bvals (zeros8 n)) := by
  refine Own.lit w (madeB n) hB (Nat.le_refl _) (by unfold maxLen; omega) ?_ ?_
  · rw [← Array.length_toList, madeB_list]
    simp [bvals, zeros8]
  · rw [madeB_list, List.take_of_length_le (by simp [bvals, zeros8])]

/-! ### copy -/
section
variable {P : Program} {w : World}
/-- copy(dst, src): dst lies from off on in a slice of the call's own. -/
theorem wpList_copy_Own {ops : Array Oper} {rest : List Oper} {o : Oper} {a : Act} {Q : Exit → Act → World → Prop} (hgd : o.guard = none) (d s : Operand) (t : TypeId)
    (ho : o.op = .call { callee := .builtin .copy, args := #[d, s], argTypes := #[t, t] }) {e : TypeId} {bytes : Nat} (hE : ElemFacts P t e 1 bytes)
    {B : Nat} {A : Option Addr} {n c : Nat} {xs : List Value} (hown : Own w B e 1 A n c xs) (off : Nat)
    {D : Option Addr} {dn dc : Nat} (hd : a.eval d = .slice D dn dc) (hD : 0 < dn → ∀ g, A = some ⟨g, 0, none⟩ → D = some ⟨g, off, none⟩) (hdn : off + dn ≤ n)
    {S : Option Addr} {m sc : Nat} (hs : a.eval s = .slice S m sc) {ys : List Value} (hr : RS w 1 S m ys) (h1 : ∀ u ∈ ys, u.oneCell' = true) (hm : m ≤ dn)
    (h : ∀ w', Own w' B e 1 A n c (xs.take off ++ (ys ++ xs.drop (off + m))) → w.grownBy w' (rowOf A c) → wpList P ops Q rest (a.put o.dst (goInt m)) w') : wpList P ops Q (o :: rest) a w := by
  obtain ⟨i, z, hi, hz, h2, h3, h4⟩ := hE.info
  have hsz : (P.info? e).map (·.size) = some 1 := by rw [hi]; simp [h2]
  have hyl : ys.length = m := by simpa using hr.1
  by_cases h0 : m = 0
  · subst h0
    have hy : ys = [] := List.eq_nil_of_length_eq_zero hyl
    subst hy
    refine wpList_copy_nothing hgd d s t t ho e hE.under hsz D S dn dc 0 sc hd hs (by simp) ?_
    exact h w (by simpa using hown) (World.grownBy.refl w _)
  · have hn0 : 0 < n := by omega
    have hc : c ≠ 0 := by have := hown.2.1; omega
    obtain ⟨g, cur, rfl, hB, hl, hg, hcs, ht⟩ := hown.2.2.2.resolve_left hc
    obtain ⟨b, o', rfl, hb, hcell⟩ := hr.pos (by omega)
    have hDg := hD (by omega) g rfl
    subst hDg
    have hcur : cur.size = c := by simpa using hcs
    have hnc := hown.2.1
    refine wpList_copy_own hgd d s t t ho e hE.under hsz g off dn dc ⟨b, o', none⟩ m sc hd hs cur e hg ys (by rw [hyl]; exact (Nat.min_eq_left hm).symm) (fun j v hv => by rw [add_lit]; exact hcell j v hv) (by omega) h1 ?_
    rw [hyl]
    have hrow : rowOf (some ⟨g, 0, none⟩) c = some g := by simp [rowOf, hc]
    rw [hrow] at h
    refine h _ ⟨?_, hnc, hown.2.2.1, .inr ⟨g, _, rfl, hB, ?_, setRow_heap w g _ _ e _ hg, ?_, ?_⟩⟩ ⟨rfl, rfl, rfl, by simp [World.setRow], fun k hk hne => setRow_other w g k _ (fun e => hne (by rw [e]))⟩
    · have hxl := hown.1
      simp only [Nat.mul_one] at hxl
      simp only [List.length_append, List.length_take, List.length_drop, hxl, hyl, Nat.mul_one]
      omega
    · simpa [World.setRow] using hl
    · simp only [List.size_toArray, List.length_append, List.length_take, List.length_drop, Array.length_toList, hcur, hyl]
      omega
    · simp only [Nat.mul_one] at ht ⊢
      rw [← ht]
      rw [List.take_append, List.take_append, List.take_take, List.take_take, List.drop_take, List.length_take, Array.length_toList, hcur, hyl]
      rw [show min n off = off from by omega, show min off n = off from by omega, show min off c = off from by omega, show n - off - m = n - (off + m) from by omega, List.take_of_length_le (l := ys) (by omega)]
end
end Go.Proofs.Ytpgndejmhegklaa
