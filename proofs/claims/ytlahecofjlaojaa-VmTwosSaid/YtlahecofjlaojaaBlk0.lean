/- A block that is known whole; what writes to one block alone; which block a slice lies in. -/
import Derived.Test.YtlahecofjlaojaaMem2
import Derived.Laws.MakeOwn
import Derived.Laws.CopyOwn
import Derived.Deep.MidRow
namespace Go.Proofs.Ytlahecofjlaojaa
set_option linter.unusedVariables false
open Go.RowKit

/-! ### which block a slice lies in -/
def Typ (w : World) (t : TypeId) (A : Option Addr) (n : Nat) : Prop := n = 0 ∨ ∃ b o cur m, A = some ⟨b, o, none⟩ ∧ w.heap[b]? = some (.cells cur t m)
theorem Typ.ext {w w' : World} {t : TypeId} {A : Option Addr} {n : Nat} (h : Typ w t A n) (he : Ext w w') : Typ w' t A n := by
  rcases h with h | ⟨b, o, cur, m, e, hb⟩
  · exact .inl h
  · exact .inr ⟨b, o, cur, m, e, (he.block b (Array.getElem?_eq_some_iff.1 hb).1).trans hb⟩
theorem Own.typ {w : World} {B : Nat} {e : TypeId} {sz n c : Nat} {A : Option Addr} {xs : List Value} (h : Own w B e sz A n c xs) : Typ w e A n := by
  rcases h.2.2.2 with h0 | ⟨g, cur, hA, _, _, hg, _⟩
  · exact .inl (by have := h.2.1; omega)
  · exact .inr ⟨g, 0, cur, _, hA, hg⟩
/-- Blocks of unlike elements are not the same. -/
theorem Typ.grown {w w' : World} {t e : TypeId} {A A1 : Option Addr} {n c n1 B sz : Nat} {xs : List Value} (h : Typ w t A n) (ho : Own w B e sz A1 n1 c xs) (hne : e ≠ t) (hg : w.grownBy w' (rowOf A1 c)) : Typ w' t A n := by
  rcases h with h | ⟨b, o, cur, m, e1, hb⟩
  · exact .inl h
  · refine .inr ⟨b, o, cur, m, e1, (hg.block b (Array.getElem?_eq_some_iff.1 hb).1 ?_).trans hb⟩
    intro h2
    rcases ho.2.2.2 with h0 | ⟨g, cur2, hA, _, _, hgg, _⟩
    · simp [rowOf, h0] at h2
    · by_cases hc : c = 0
      · simp [rowOf, hc] at h2
      · simp [rowOf, hc, hA] at h2
        subst h2
        rw [hb] at hgg
        injection hgg with hgg
        injection hgg with _ h3
        exact hne h3.symm
theorem RS.typ_grown {w w' : World} {t e : TypeId} {A A1 : Option Addr} {n c n1 B sz sz2 : Nat} {xs ys : List Value} (hr : RS w sz2 A n ys) (h : Typ w t A n) (ho : Own w B e sz A1 n1 c xs) (hne : e ≠ t) (hg : w.grownBy w' (rowOf A1 c)) : RS w' sz2 A n ys := by
  refine hr.grown hg ?_
  intro b o hA
  rcases h with h | ⟨b1, o1, cur, m, e1, hb⟩
  · exact .inl h
  · right
    intro h2
    rw [hA] at e1
    simp at e1
    obtain ⟨rfl, rfl⟩ := e1
    rcases ho.2.2.2 with h0 | ⟨g, cur2, hA2, _, _, hgg, _⟩
    · simp [rowOf, h0] at h2
    · by_cases hc : c = 0
      · simp [rowOf, hc] at h2
      · simp [rowOf, hc, hA2] at h2
        subst h2
        rw [hb] at hgg
        injection hgg with hgg
        injection hgg with _ h3
        exact hne h3.symm


/-! ### append to what has no capacity: a slice of its own -/
theorem step_append_new {P : Program} {w : World} {ops : Array Oper} {o : Oper} {a : Act} {K : Act → World → Prop} {Q : Exit → Act → World → Prop} {E : Prop} (hgd : o.guard = Option.none) (s x : Operand) (t : TypeId)
    (ho : o.op = .call { callee := .builtin .append, args := #[s, x], argTypes := #[t, t] })
    (B : Nat) {e : TypeId} {sz bytes : Nat} (hE : ElemFacts P t e sz bytes) {A : Option Addr} (hs : a.eval s = .slice A 0 0)
    {A2 : Option Addr} {m c2 : Nat} {news : List Value} (hx : a.eval x = .slice A2 m c2) (hr : RS w sz A2 m news) (h1 : ∀ u ∈ news, u.oneCell' = true)
    (h63 : m ≤ maxLen) (hbytes : m * bytes ≤ 140737488355328) (hB : B ≤ w.heap.size)
    (h : ∀ A' c' w', Own w' B e sz A' m c' news → Ext w w' → K (a.put o.dst (.slice A' m c')) w') :
    if Region.wanted o (yielded ops a.tmps) = true then Oper.wp P o a w K Q else E := by
  refine step_append_Own hgd s x t ho B hE hs (Own.nil w B e sz A) hx hr h1 (by rw [Nat.zero_add]; exact h63) (by rw [Nat.zero_add]; exact hbytes) hB ?_
  intro A' c' w' h2 h3
  rw [Nat.zero_add] at h2 ⊢
  exact h A' c' w' h2 ((Ext.refl w).grown h3 (fun k hk => by simp [rowOf] at hk))
theorem wpList_append_new {P : Program} {w : World} {ops : Array Oper} {rest : List Oper} {o : Oper} {a : Act} {Q : Exit → Act → World → Prop} (hgd : o.guard = Option.none) (s x : Operand) (t : TypeId)
    (ho : o.op = .call { callee := .builtin .append, args := #[s, x], argTypes := #[t, t] })
    (B : Nat) {e : TypeId} {sz bytes : Nat} (hE : ElemFacts P t e sz bytes) {A : Option Addr} (hs : a.eval s = .slice A 0 0)
    {A2 : Option Addr} {m c2 : Nat} {news : List Value} (hx : a.eval x = .slice A2 m c2) (hr : RS w sz A2 m news) (h1 : ∀ u ∈ news, u.oneCell' = true)
    (h63 : m ≤ maxLen) (hbytes : m * bytes ≤ 140737488355328) (hB : B ≤ w.heap.size)
    (h : ∀ A' c' w', Own w' B e sz A' m c' news → Ext w w' → wpList P ops Q rest (a.put o.dst (.slice A' m c')) w') : wpList P ops Q (o :: rest) a w := by
  refine wpList_append_Own hgd s x t ho B hE hs (Own.nil w B e sz A) hx hr h1 (by rw [Nat.zero_add]; exact h63) (by rw [Nat.zero_add]; exact hbytes) hB ?_
  intro A' c' w' h2 h3
  rw [Nat.zero_add] at h2 ⊢
  exact h A' c' w' h2 ((Ext.refl w).grown h3 (fun k hk => by simp [rowOf] at hk))
/-- A block laid some time ago, read as a slice. -/
theorem box_at {w0 w : World} {b t sz n : Nat} {l : List Value} (hb : w0.heap.size = b) (h : l.length = n * sz) (he : Ext (w0.alloc (.cells l.toArray t)) w) : RS w sz (some ⟨b, 0, Option.none⟩) n l := by
  subst hb
  exact (box_rs w0 t sz l n h).ext he

theorem Own.cut_ {w : World} {B : Nat} {e : TypeId} {sz n m c : Nat} {A : Option Addr} {xs : List Value} (h : Own w B e sz A n c xs) (hm : m ≤ n) : Own w B e sz A m c (xs.take (m * sz)) := by
  obtain ⟨h1, h2, h3, h4⟩ := h
  have hms : m * sz ≤ n * sz := Nat.mul_le_mul_right _ hm
  refine ⟨by rw [List.length_take, h1]; omega, by omega, h3, ?_⟩
  rcases h4 with h0 | ⟨g, cur, hA, hB, hl, hg, hs, ht⟩
  · exact .inl h0
  · exact .inr ⟨g, cur, hA, hB, hl, hg, hs, by rw [← ht, List.take_take]; congr 1; omega⟩

/-- Block g is just these cells. -/
def Blk (w : World) (g : Nat) (t : TypeId) (cs : Array Value) : Prop := w.heap[g]? = some (.cells cs t (0, 0))
section
variable {w w' : World} {g : Nat} {t : TypeId} {cs : Array Value}
theorem Blk.lt (h : Blk w g t cs) : g < w.heap.size := (Array.getElem?_eq_some_iff.1 h).1
theorem Blk.cell (h : Blk w g t cs) (i : Nat) : w.cell? ⟨g, i, none⟩ = cs[i]? := cell_of_row w g i cs t (0, 0) h
theorem Blk.frozen (h : Blk w g t cs) (i : Nat) : w.frozen? ⟨g, i, none⟩ = false := by
  unfold Blk at h
  simp [World.frozen?, h]
theorem Blk.new (w : World) (t : TypeId) (cs : Array Value) : Blk (w.alloc (.cells cs t)) w.heap.size t cs := heap_alloc_new w _
theorem Blk.drew (h : Blk w g t cs) : Blk w.drew g t cs := h
theorem Blk.ext (h : Blk w g t cs) (he : Ext w w') : Blk w' g t cs := (he.block g h.lt).trans h
theorem Blk.set_ (h : Blk w g t cs) (i : Nat) (u : Value) : Blk (w.setCell ⟨g, i, none⟩ u) g t (cs.setIfInBounds i u) := by
  unfold Blk at h ⊢
  simp [World.setCell, Array.getElem?_modify, h]
theorem Blk.far (h : Blk w g t cs) {p : Addr} (hp : g ≠ p.block) (u : Value) : Blk (w.setCell p u) g t cs := (Below.heap_setCell w p u g hp).trans h
theorem Blk.grown {row : Option Nat} (h : Blk w g t cs) (hb : w.grownBy w' row) (hg : some g ≠ row) : Blk w' g t cs := (hb.block g h.lt hg).trans h
end

/-- All but block g stays as it was. -/
def Mut (w : World) (g : Nat) (w' : World) : Prop := w.grownBy w' (some g)
theorem Mut.refl (w : World) (g : Nat) : Mut w g w := World.grownBy.refl w _
theorem Mut.trans {a b c : World} {g : Nat} (h : Mut a g b) (k : Mut b g c) : Mut a g c :=
  ⟨k.os.trans h.os, k.tape.trans h.tape, k.output.trans h.output, Nat.le_trans h.size k.size, fun j hj hne => (k.block j (Nat.lt_of_lt_of_le hj h.size) hne).trans (h.block j hj hne)⟩
theorem Mut.of_ext {a b : World} {g : Nat} (h : Ext a b) : Mut a g b := ⟨h.os, h.tape, h.output, h.size, fun j hj _ => h.block j hj⟩
theorem Mut.setCell {a b : World} {g : Nat} (h : Mut a g b) (i : Nat) (u : Value) : Mut a g (b.setCell ⟨g, i, none⟩ u) :=
  ⟨h.os, h.tape, h.output, by simpa [World.setCell] using h.size, fun j hj hne => (Below.heap_setCell b _ u j (fun e => hne (by rw [e]))).trans (h.block j hj hne)⟩
theorem Mut.ext {a b c : World} {g : Nat} (h : Mut a g b) (k : Ext b c) : Mut a g c := h.trans (.of_ext k)
theorem Mut.alloc {a b : World} {g : Nat} (h : Mut a g b) (o : Obj) : Mut a g (b.alloc o) := h.ext ((Ext.refl b).alloc o)
theorem Mut.drew {a b : World} {g : Nat} (h : Mut a g b) : Mut a g b.drew := h.ext (Ext.refl b).drew
/-- Seen from a world in which block g was not there yet, all of that world stays. -/
theorem Ext.mut {w0 a b : World} {g : Nat} (h : Ext w0 a) (k : Mut a g b) (hg : w0.heap.size ≤ g) : Ext w0 b := h.grown k (fun j e => by injection e with e; omega)
theorem Mut.grown {a b c : World} {g : Nat} {row : Option Nat} (h : Mut a g b) (hg : b.grownBy c row) (hr : ∀ k, row = some k → k = g ∨ a.heap.size ≤ k) : Mut a g c :=
  ⟨hg.os.trans h.os, hg.tape.trans h.tape, hg.output.trans h.output, Nat.le_trans h.size hg.size, fun j hj hne => by
    refine (hg.block j (Nat.lt_of_lt_of_le hj h.size) ?_).trans (h.block j hj hne)
    intro e
    rcases hr j e.symm with h1 | h1
    · subst h1; exact hne rfl
    · omega⟩
theorem Mut.size {a b : World} {g : Nat} (h : Mut a g b) : a.heap.size ≤ b.heap.size := World.grownBy.size h
theorem Blk.mut {w w' : World} {g h : Nat} {t : TypeId} {cs : Array Value} (hb : Blk w h t cs) (k : Mut w g w') (hne : h ≠ g) : Blk w' h t cs := hb.grown k (fun e => hne (by injection e))
/-- A slice of the call's own stays beside a block of another type that is written. -/
theorem Own.mut {w w' : World} {B : Nat} {e t : TypeId} {sz n c g : Nat} {A : Option Addr} {xs : List Value} {cs : Array Value} (h : Own w B e sz A n c xs) (hb : Blk w g t cs) (hne : t ≠ e) (k : Mut w g w') : Own w' B e sz A n c xs := by
  refine h.grown k ?_
  intro j hj he
  injection he with he
  subst he
  rcases h.2.2.2 with h0 | ⟨g1, cur, hA, _, _, hgg, _⟩
  · simp [rowOf, h0] at hj
  · by_cases hc : c = 0
    · simp [rowOf, hc] at hj
    · simp [rowOf, hc, hA] at hj
      subst hj
      unfold Blk at hb
      rw [hgg] at hb
      injection hb with hb
      injection hb with _ h3
      exact hne h3.symm
/-- A block known whole stays beside an append to a slice of another type. -/
theorem Blk.own {w w' : World} {B : Nat} {e t : TypeId} {sz n c g : Nat} {A : Option Addr} {xs : List Value} {cs : Array Value} (hb : Blk w g t cs) (h : Own w B e sz A n c xs) (hne : t ≠ e) (k : w.grownBy w' (rowOf A c)) : Blk w' g t cs := by
  refine hb.grown k ?_
  intro he
  rcases h.2.2.2 with h0 | ⟨g1, cur, hA, _, _, hgg, _⟩
  · simp [rowOf, h0] at he
  · by_cases hc : c = 0
    · simp [rowOf, hc] at he
    · simp [rowOf, hc, hA] at he
      subst he
      unfold Blk at hb
      rw [hgg] at hb
      injection hb with hb
      injection hb with _ h3
      exact hne h3.symm
/-! ### whole structs in a block of their own -/
theorem blk_setCells {t : TypeId} {g : Nat} : ∀ (vs : List Value) (o : Nat) (w : World) (cs : Array Value), Blk w g t cs → o + vs.length ≤ cs.size →
    ∃ cs2, Blk (w.setCells g o vs) g t cs2 ∧ cs2.size = cs.size ∧ Mut w g (w.setCells g o vs) ∧ ∀ j, cs2[j]? = if o ≤ j ∧ j < o + vs.length then vs[j - o]? else cs[j]?
  | [], o, w, cs, h, hl => ⟨cs, h, rfl, Mut.refl w g, fun j => by rw [if_neg (by intro h; simp only [List.length_nil] at h; omega)]⟩
  | v :: vs, o, w, cs, h, hl => by
    simp only [List.length_cons] at hl
    obtain ⟨cs2, h1, h2, h3, h4⟩ := blk_setCells vs (o + 1) (w.setCell ⟨g, o, none⟩ v) (cs.setIfInBounds o v) (h.set_ o v) (by simp; omega)
    refine ⟨cs2, h1, by simpa using h2, ((Mut.refl w g).setCell o v).trans h3, fun j => ?_⟩
    rw [h4 j]
    simp only [List.length_cons]
    by_cases hj : j = o
    · subst hj
      rw [if_neg (by omega), if_pos (by omega), Nat.sub_self, Array.getElem?_setIfInBounds_self_of_lt (by omega)]
      rfl
    · by_cases h5 : o + 1 ≤ j ∧ j < o + 1 + vs.length
      · rw [if_pos h5, if_pos (by omega)]
        have : j - o = (j - (o + 1)) + 1 := by omega
        rw [this, List.getElem?_cons_succ]
      · rw [if_neg h5, if_neg (by omega), Array.getElem?_setIfInBounds_ne (by omega)]
theorem blk_store {t : TypeId} {g : Nat} {w : World} {cs cs' : Array Value} (h : Blk w g t cs) (hs : cs'.size = cs.size) : Blk (w.setCells g 0 cs'.toList) g t cs' ∧ Mut w g (w.setCells g 0 cs'.toList) := by
  obtain ⟨cs2, h1, h2, h3, h4⟩ := blk_setCells cs'.toList 0 w cs h (by simp; omega)
  refine ⟨?_, h3⟩
  have : cs2 = cs' := by
    apply Array.ext_getElem?
    intro j
    rw [h4 j]
    by_cases hj : j < cs'.size
    · rw [if_pos (by simp; omega)]
      simp
    · rw [if_neg (by simp; omega), Array.getElem?_eq_none (by omega), Array.getElem?_eq_none (by omega)]
  rwa [this] at h1
section
variable {P : Program} {w : World}
theorem wpList_store_blk {ops : Array Oper} {rest : List Oper} {op : Oper} {a : Act} {Q : Exit → Act → World → Prop} (hgd : op.guard = none) (ty : TypeId) (x y : Operand) (ho : op.op = .store ty x y)
    {g : Nat} {t : TypeId} {cs cs' : Array Value} (hB : Blk w g t cs) (hx : a.eval x = .pointer (some ⟨g, 0, none⟩)) (hy : a.eval y = .agg cs') (hs : cs'.size = cs.size)
    (hi : (P.info? ty).map (·.size) = some cs'.size) (h1 : cs'.toList.all (·.oneCell') = true)
    (h : ∀ w', Blk w' g t cs' → Mut w g w' → wpList P ops Q rest (a.put op.dst undef) w') : wpList P ops Q (op :: rest) a w := by
  obtain ⟨h2, h3⟩ := blk_store hB hs
  refine wpList_store_mid hgd ty x y ho g 0 cs' hx hy ?_ hi (by rw [← Array.all_toList]; exact h1) (h _ h2 h3)
  intro j hj
  refine ⟨?_, hB.frozen _⟩
  rw [Nat.zero_add, hB.cell, Array.getElem?_eq_getElem (by omega)]
  rfl
theorem wpList_load_blk {ops : Array Oper} {rest : List Oper} {op : Oper} {a : Act} {Q : Exit → Act → World → Prop} (hgd : op.guard = none) (ty : TypeId) (x : Operand) (ho : op.op = .load ty x)
    {g : Nat} {t : TypeId} {cs : Array Value} (hB : Blk w g t cs) (hx : a.eval x = .pointer (some ⟨g, 0, none⟩)) (d : TypeDesc)
    (hu : P.underlying ty = some d) (hd : d.isRow = true) (hi : (P.info? ty).map (·.size) = some cs.size)
    (h : wpList P ops Q rest (a.put op.dst (.agg cs)) w) : wpList P ops Q (op :: rest) a w := by
  refine wpList_load_mid hgd ty x ho g 0 hx cs.toList d ?_ hu hd (by rw [hi]; simp) (by simpa using h)
  intro j v hv
  rw [Nat.zero_add, hB.cell]
  simpa using hv
end
/-! ### copy -/
section
variable {P : Program} {w : World}
/-- copy(dst, src): dst lies from off on in a slice of the call's own. -/
theorem wpList_copy_Own {ops : Array Oper} {rest : List Oper} {o : Oper} {a : Act} {Q : Exit → Act → World → Prop} (hgd : o.guard = none) (d s : Operand) (t : TypeId)
    (ho : o.op = .call { callee := .builtin .copy, args := #[d, s], argTypes := #[t, t] }) {e : TypeId} {bytes : Nat} (hE : ElemFacts P t e 1 bytes)
    {B : Nat} {A : Option Addr} {n c : Nat} {xs : List Value} (hown : Own w B e 1 A n c xs) (off : Nat)
    {D : Option Addr} {dn dc : Nat} (hd : a.eval d = .slice D dn dc) (hD : 0 < dn → ∀ g, A = some ⟨g, 0, none⟩ → D = some ⟨g, off, none⟩) (hdn : off + dn ≤ n)
    {S : Option Addr} {m sc : Nat} (hs : a.eval s = .slice S m sc) {ys : List Value} (hr : RS w 1 S m ys) (h1 : ∀ u ∈ ys, u.oneCell' = true) (hm : m ≤ dn)
    (h : ∀ w', Own w' B e 1 A n c (xs.take off ++ (ys ++ xs.drop (off + m))) → w.grownBy w' (rowOf A c) → wpList P ops Q rest (a.put o.dst (goInt m)) w') : wpList P ops Q (o :: rest) a w := by
  obtain ⟨i, z, hi, hz, h2, h3, h4⟩ := hE.info
  have hsz : (P.info? e).map (·.size) = some 1 := by rw [hi]; simp [h2]
  have hyl : ys.length = m := by simpa using hr.1
  by_cases h0 : m = 0
  · subst h0
    have hy : ys = [] := List.eq_nil_of_length_eq_zero hyl
    subst hy
    refine wpList_copy_nothing hgd d s t t ho e hE.under hsz D S dn dc 0 sc hd hs (by simp) ?_
    exact h w (by simpa using hown) (World.grownBy.refl w _)
  · have hn0 : 0 < n := by omega
    have hc : c ≠ 0 := by have := hown.2.1; omega
    obtain ⟨g, cur, rfl, hB, hl, hg, hcs, ht⟩ := hown.2.2.2.resolve_left hc
    obtain ⟨b, o', rfl, hb, hcell⟩ := hr.pos (by omega)
    have hDg := hD (by omega) g rfl
    subst hDg
    have hcur : cur.size = c := by simpa using hcs
    have hnc := hown.2.1
    refine wpList_copy_own hgd d s t t ho e hE.under hsz g off dn dc ⟨b, o', none⟩ m sc hd hs cur e hg ys (by rw [hyl]; exact (Nat.min_eq_left hm).symm) (fun j v hv => by rw [add_lit]; exact hcell j v hv) (by omega) h1 ?_
    rw [hyl]
    have hrow : rowOf (some ⟨g, 0, none⟩) c = some g := by simp [rowOf, hc]
    rw [hrow] at h
    refine h _ ⟨?_, hnc, hown.2.2.1, .inr ⟨g, _, rfl, hB, ?_, setRow_heap w g _ _ e _ hg, ?_, ?_⟩⟩ ⟨rfl, rfl, rfl, by simp [World.setRow], fun k hk hne => setRow_other w g k _ (fun e => hne (by rw [e]))⟩
    · have hxl := hown.1
      simp only [Nat.mul_one] at hxl
      simp only [List.length_append, List.length_take, List.length_drop, hxl, hyl, Nat.mul_one]
      omega
    · simpa [World.setRow] using hl
    · simp only [List.size_toArray, List.length_append, List.length_take, List.length_drop, Array.length_toList, hcur, hyl]
      omega
    · simp only [Nat.mul_one] at ht ⊢
      rw [← ht]
      rw [List.take_append, List.take_append, List.take_take, List.take_take, List.drop_take, List.length_take, Array.length_toList, hcur, hyl]
      rw [show min n off = off from by omega, show min off n = off from by omega, show min off c = off from by omega, show n - off - m = n - (off + m) from by omega, List.take_of_length_le (l := ys) (by omega)]
end
end Go.Proofs.Ytlahecofjlaojaa
