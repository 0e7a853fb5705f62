/- Words for memory that know no program: a slice that reads as a row of cells, a slice of the call's own that may be appended to, and append's law over both. -/
import Derived.WalkKit
import Derived.WalkSpells
import Derived.WalkLawsBesides
import Derived.Maps.AppendAt
import Derived.Deep.AppendLies
import Derived.Deep.Draws
import Derived.Lib.Hide
namespace Go.Proofs.Ytlahecofjlaojaa
set_option linter.unusedVariables false
open Go.RowKit

/-! ### a world that holds all that another one held -/
def Ext (w w' : World) : Prop := Below w.heap.size w w'
theorem Ext.refl (w : World) : Ext w w := Below.refl _ _
theorem Ext.trans {a b c : World} (h : Ext a b) (k : Ext b c) : Ext a c := Below.trans h (Below.mono k h.size)
theorem Ext.le {a b : World} (h : Ext a b) : a.heap.size ≤ b.heap.size := h.size
theorem Ext.drew {a w : World} (h : Ext a w) : Ext a w.drew := Below.drew h
theorem Ext.drewN {a w : World} (h : Ext a w) (n : Nat) : Ext a (w.drewN n) := ⟨h.os, h.tape, h.output, h.size, h.block⟩
theorem Ext.alloc {a w : World} (h : Ext a w) (o : Obj) : Ext a (w.alloc o) := Below.alloc h h.size o
theorem Ext.setCell {a w : World} (h : Ext a w) {p : Addr} (hp : a.heap.size ≤ p.block) (u : Value) : Ext a (w.setCell p u) := Below.setCell h hp u
theorem Ext.below {a b : World} (h : Below a.heap.size a b) : Ext a b := h
theorem Ext.cell {w w' : World} (h : Ext w w') {p : Addr} {v : Value} (hc : w.cell? p = some v) : w'.cell? p = some v :=
  (Below.cell h (World.block_lt_of_cell? w p hc)).trans hc
theorem Ext.lt {w w' : World} (h : Ext w w') {k : Nat} (hk : k < w.heap.size) : k < w'.heap.size := Nat.lt_of_lt_of_le hk h.le

/-- A cell of a block just laid. -/
theorem box_cell (w : World) (cs : Array Value) (t : TypeId) (j : Nat) (v : Value) (h : cs[j]? = some v) : (w.alloc (.cells cs t)).cell? ⟨w.heap.size, j, none⟩ = some v := by
  rw [cell_of_row _ w.heap.size j cs t (0, 0) (heap_alloc_new w _)]; exact h

/-! ### a slice that reads as a row of cells -/
/-- The slice value '.slice A n _' reads, at sz cells an element, as the cells xs. -/
def RS (w : World) (sz : Nat) (A : Option Addr) (n : Nat) (xs : List Value) : Prop :=
  xs.length = n * sz ∧ (n = 0 ∨ ∃ b o, A = some ⟨b, o, none⟩ ∧ b < w.heap.size ∧ ∀ j u, xs[j]? = some u → w.cell? ⟨b, o + j, none⟩ = some u)

theorem RS.nil (w : World) (sz : Nat) (A : Option Addr) : RS w sz A 0 [] := ⟨by simp, .inl rfl⟩
theorem RS.ext {w w' : World} {sz n : Nat} {A : Option Addr} {xs : List Value} (h : RS w sz A n xs) (hb : Ext w w') : RS w' sz A n xs := by
  refine ⟨h.1, ?_⟩
  rcases h.2 with h0 | ⟨b, o, e, hl, hc⟩
  · exact .inl h0
  · exact .inr ⟨b, o, e, hb.lt hl, fun j u hu => hb.cell (hc j u hu)⟩
/-- Nothing of blocks below B has turned, and the row lies below B. -/
theorem RS.keep {w w' : World} {sz n B : Nat} {A : Option Addr} {xs : List Value} (h : RS w sz A n xs) (hA : ∀ ad, A = some ad → n = 0 ∨ ad.block < B) (hs : w.heap.size ≤ w'.heap.size)
    (hk : ∀ p : Addr, p.block < B → w'.cell? p = w.cell? p) : RS w' sz A n xs := by
  refine ⟨h.1, ?_⟩
  rcases h.2 with h0 | ⟨b, o, e, hl, hc⟩
  · exact .inl h0
  · rcases hA _ e with h0 | hB
    · exact .inl h0
    · exact .inr ⟨b, o, e, by omega, fun j u hu => (hk ⟨b, o + j, none⟩ hB).trans (hc j u hu)⟩
theorem RS.zero {w : World} {sz n : Nat} {A : Option Addr} {xs : List Value} (h : RS w sz A n xs) (hn : n = 0) : xs = [] := by
  subst hn; exact List.eq_nil_of_length_eq_zero (by simpa using h.1)
theorem RS.pos {w : World} {sz n : Nat} {A : Option Addr} {xs : List Value} (h : RS w sz A n xs) (hn : 0 < n) :
    ∃ b o, A = some ⟨b, o, none⟩ ∧ b < w.heap.size ∧ ∀ j u, xs[j]? = some u → w.cell? ⟨b, o + j, none⟩ = some u := by
  rcases h.2 with h0 | h1
  · omega
  · exact h1

theorem add_lit (b o k : Nat) : (⟨b, o, none⟩ : Addr).add k = ⟨b, o + k, none⟩ := by
  unfold Addr.add; split <;> simp_all

/-- A block just laid, read as a slice. -/
theorem box_rs (w : World) (t sz : Nat) (l : List Value) (n : Nat) (h : l.length = n * sz) : RS (w.alloc (.cells l.toArray t)) sz (some ⟨w.heap.size, 0, none⟩) n l :=
  ⟨h, .inr ⟨w.heap.size, 0, rfl, by simp, fun j u hu => by rw [Nat.zero_add]; exact box_cell w _ t j u (by simpa using hu)⟩⟩
/-- A cut 's[lo:hi]', as the model spells its address. -/
theorem RS.cut {w : World} {sz n lo hi c : Nat} {A : Option Addr} {xs : List Value} (h : RS w sz A n xs) (h1 : lo ≤ hi) (h2 : hi ≤ n) (hc : n ≤ c) :
    RS w sz (if c = lo then A else A.map (·.add (lo * sz))) (hi - lo) ((xs.drop (lo * sz)).take ((hi - lo) * sz)) := by
  have hl := h.1
  refine ⟨?_, ?_⟩
  · rw [List.length_take, List.length_drop, hl, ← Nat.sub_mul]
    exact Nat.min_eq_left (Nat.mul_le_mul_right _ (by omega))
  · by_cases h0 : hi - lo = 0
    · exact .inl h0
    · obtain ⟨b, o, rfl, hb, hcell⟩ := h.pos (by omega)
      rw [if_neg (by omega)]
      refine .inr ⟨b, o + lo * sz, by simp [add_lit], hb, fun j u hu => ?_⟩
      rw [Nat.add_assoc]
      refine hcell _ u ?_
      rw [List.getElem?_take] at hu
      split at hu
      · simpa using hu
      · cases hu

/-- The address of 's[lo:..]' at capacity c, under a name (so that no walk parts on it). -/
def cutA (A : Option Addr) (c lo sz : Nat) : Option Addr := if c = lo then A else A.map (·.add (lo * sz))
theorem RS.cutA {w : World} {sz n lo hi c : Nat} {A : Option Addr} {xs : List Value} (h : RS w sz A n xs) (h1 : lo ≤ hi) (h2 : hi ≤ n) (hc : n ≤ c) :
    RS w sz (cutA A c lo sz) (hi - lo) ((xs.drop (lo * sz)).take ((hi - lo) * sz)) := h.cut h1 h2 hc
theorem run_cut_lo {P : Program} {t e : TypeId} {i : TypeInfo} {sz : Nat} (ht : P.underlying t = some (.slice e)) (hi : P.info? e = some i) (hsz : i.size = sz) (A : Option Addr) (n c lo : Nat) (k : IntKind) (h : lo ≤ n) (w : World) :
    (Instr.slice t (.slice A n c) (some (.int k (lo : Int))) none none).run P w = .ok (.slice (cutA A c lo sz) (n - lo) (c - lo)) w := by
  have h1 : (lo : Int) ≤ (n : Int) := by omega
  simp [Instr.slice, run_underlying ht, Instr.sliceBounds, run_sliceBound, sizeOf, typeInfo, hi, hsz, h1, Go.Proofs.Ytlahecofjlaojaa.cutA]

/-! ### a slice of the call's own -/
/-- '.slice A n c' holds xs, and may be appended to: it has no capacity at all, or it begins a row of blocks from B on. -/
def Own (w : World) (B : Nat) (e : TypeId) (sz : Nat) (A : Option Addr) (n c : Nat) (xs : List Value) : Prop :=
  xs.length = n * sz ∧ n ≤ c ∧ c ≤ maxLen ∧ (c = 0 ∨ ∃ g cur, A = some ⟨g, 0, none⟩ ∧ B ≤ g ∧ g < w.heap.size ∧ w.heap[g]? = some (.cells cur e (0, 0)) ∧ cur.size = c * sz ∧ cur.toList.take (n * sz) = xs)
/-- The block that an append to it may write. -/
def rowOf (A : Option Addr) (c : Nat) : Option Nat := if c = 0 then none else A.map (·.block)

section
variable {w w' : World} {B B' : Nat} {e : TypeId} {sz n c : Nat} {A : Option Addr} {xs : List Value}
theorem Own.nil (w : World) (B : Nat) (e : TypeId) (sz : Nat) (A : Option Addr) : Own w B e sz A 0 0 [] := ⟨by simp, Nat.le_refl _, by simp [maxLen], .inl rfl⟩
theorem Own.rs (h : Own w B e sz A n c xs) : RS w sz A n xs := by
  refine ⟨h.1, ?_⟩
  rcases h.2.2.2 with h0 | ⟨g, cur, hA, _, hl, hg, _, ht⟩
  · exact .inl (by have := h.2.1; omega)
  · refine .inr ⟨g, 0, hA, hl, fun j u hu => ?_⟩
    rw [Nat.zero_add, cell_of_row w g j cur e (0, 0) hg]
    rw [← ht, List.getElem?_take] at hu
    split at hu
    · simpa using hu
    · cases hu
theorem Own.mono (h : Own w B e sz A n c xs) (hB : B' ≤ B) : Own w B' e sz A n c xs := by
  refine ⟨h.1, h.2.1, h.2.2.1, ?_⟩
  rcases h.2.2.2 with h0 | ⟨g, cur, hA, hb, r⟩
  · exact .inl h0
  · exact .inr ⟨g, cur, hA, by omega, r⟩
theorem Own.ext (h : Own w B e sz A n c xs) (hb : Ext w w') : Own w' B e sz A n c xs := by
  refine ⟨h.1, h.2.1, h.2.2.1, ?_⟩
  rcases h.2.2.2 with h0 | ⟨g, cur, hA, hB, hl, hg, r⟩
  · exact .inl h0
  · exact .inr ⟨g, cur, hA, hB, hb.lt hl, (hb.block g hl).trans hg, r⟩
theorem Own.row (h : Own w B e sz A n c xs) : ∀ k, rowOf A c = some k → B ≤ k ∧ k < w.heap.size := by
  intro k hk
  unfold rowOf at hk
  rcases h.2.2.2 with h0 | ⟨g, cur, hA, hB, hl, _⟩
  · simp [h0] at hk
  · subst hA
    split at hk
    · cases hk
    · simp at hk; omega
/-- It stays while another row is written. -/
theorem Own.grown {row : Option Nat} (h : Own w B e sz A n c xs) (hg : w.grownBy w' row) (hne : ∀ k, rowOf A c = some k → row ≠ some k) : Own w' B e sz A n c xs := by
  refine ⟨h.1, h.2.1, h.2.2.1, ?_⟩
  rcases h.2.2.2 with h0 | ⟨g, cur, hA, hB, hl, hgg, r⟩
  · exact .inl h0
  · by_cases hc : c = 0
    · exact .inl hc
    · exact .inr ⟨g, cur, hA, hB, Nat.lt_of_lt_of_le hl hg.size, (hg.block g hl (fun e => hne g (by simp [rowOf, hc, hA]) e.symm)).trans hgg, r⟩
/-- A new block laid whole: a literal, a make. -/
theorem Own.lit (w : World) (cs : Array Value) (hB : B ≤ w.heap.size) (hn : n ≤ c) (hm : c ≤ maxLen) (hs : cs.size = c * sz) (ht : cs.toList.take (n * sz) = xs) : Own (w.alloc (.cells cs e)) B e sz (some ⟨w.heap.size, 0, none⟩) n c xs := by
  refine ⟨?_, hn, hm, .inr ⟨w.heap.size, cs, rfl, hB, by simp, heap_alloc_new w _, hs, ht⟩⟩
  rw [← ht, List.length_take, Array.length_toList, hs]
  exact Nat.min_eq_left (Nat.mul_le_mul_right _ hn)
end

section
variable {w w' : World} {B : Nat} {e : TypeId} {sz n c : Nat} {A : Option Addr} {xs : List Value}
/-- It has a block, where something lies in it. -/
theorem Own.pos (h : Own w B e sz A n c xs) (hn : 0 < n) : ∃ g, A = some ⟨g, 0, none⟩ ∧ B ≤ g ∧ g < w.heap.size ∧ (∀ j u, xs[j]? = some u → w.cell? ⟨g, j, none⟩ = some u) ∧ ∀ j, w.frozen? ⟨g, j, none⟩ = false := by
  have hc : c ≠ 0 := by have := h.2.1; omega
  obtain ⟨g, cur, hA, hB, hl, hg, hcs, ht⟩ := h.2.2.2.resolve_left hc
  refine ⟨g, hA, hB, hl, fun j u hu => ?_, fun j => ?_⟩
  · rw [cell_of_row w g j cur e (0, 0) hg]
    rw [← ht, List.getElem?_take] at hu
    split at hu
    · simpa using hu
    · cases hu
  · simp [World.frozen?, hg]
/-- A store into it. -/
theorem Own.set_ {g : Nat} (h : Own w B e sz (some ⟨g, 0, none⟩) n c xs) (hn : 0 < n) (j : Nat) (hj : j < n * sz) (u : Value) : Own (w.setCell ⟨g, j, none⟩ u) B e sz (some ⟨g, 0, none⟩) n c (xs.set j u) := by
  have hc : c ≠ 0 := by have := h.2.1; omega
  obtain ⟨g', cur, hA, hB, hl, hg, hcs, ht⟩ := h.2.2.2.resolve_left hc
  have hgg : g' = g := by simpa using hA.symm
  subst hgg
  refine ⟨by rw [List.length_set]; exact h.1, h.2.1, h.2.2.1, .inr ⟨g', cur.setIfInBounds j u, rfl, hB, by simpa [World.setCell] using hl, ?_, by simpa using hcs, ?_⟩⟩
  · simp [World.setCell, Array.getElem?_modify, hg]
  · rw [Array.toList_setIfInBounds, List.take_set, ht]
end

/-- A store below where it may lie. -/
theorem Own.far {w : World} {B : Nat} {e : TypeId} {sz n c : Nat} {A : Option Addr} {xs : List Value} (h : Own w B e sz A n c xs) {p : Addr} (hp : p.block < B) (u : Value) : Own (w.setCell p u) B e sz A n c xs := by
  refine ⟨h.1, h.2.1, h.2.2.1, ?_⟩
  rcases h.2.2.2 with h0 | ⟨g, cur, hA, hB, hl, hg, r⟩
  · exact .inl h0
  · exact .inr ⟨g, cur, hA, hB, by simpa [World.setCell] using hl, (Below.heap_setCell _ _ _ _ (by omega)).trans hg, r⟩

/-- Block g is a table of N numbers. -/
def Tab (w : World) (g : Nat) (t : TypeId) (k : IntKind) (N : Nat) (f : Nat → Int) : Prop :=
  ∃ cur, w.heap[g]? = some (.cells cur t (0, 0)) ∧ cur.size = N ∧ ∀ j, j < N → cur[j]? = some (.int k (f j))
section
variable {w w' : World} {g N : Nat} {t : TypeId} {k : IntKind} {f : Nat → Int}
theorem Tab.lt (h : Tab w g t k N f) : g < w.heap.size := by obtain ⟨cur, hg, _⟩ := h; exact (Array.getElem?_eq_some_iff.1 hg).1
theorem Tab.new (w : World) (cur : Array Value) (hs : cur.size = N) (h : ∀ j, j < N → cur[j]? = some (.int k (f j))) : Tab (w.alloc (.cells cur t)) w.heap.size t k N f := ⟨cur, heap_alloc_new w _, hs, h⟩
theorem Tab.ext (h : Tab w g t k N f) (he : Ext w w') : Tab w' g t k N f := by obtain ⟨cur, hg, r⟩ := h; exact ⟨cur, (he.block g (Array.getElem?_eq_some_iff.1 hg).1).trans hg, r⟩
theorem Tab.cell (h : Tab w g t k N f) (j : Nat) (hj : j < N) : w.cell? ⟨g, j, none⟩ = some (.int k (f j)) := by
  obtain ⟨cur, hg, _, hc⟩ := h
  rw [cell_of_row w g j cur t (0, 0) hg]; exact hc j hj
theorem Tab.frozen (h : Tab w g t k N f) (j : Nat) : w.frozen? ⟨g, j, none⟩ = false := by
  obtain ⟨cur, hg, _⟩ := h; simp [World.frozen?, hg]
theorem Tab.set_ (h : Tab w g t k N f) (j : Nat) (hj : j < N) (x : Int) : Tab (w.setCell ⟨g, j, none⟩ (.int k x)) g t k N (fun i => if i = j then x else f i) := by
  obtain ⟨cur, hg, hs, hc⟩ := h
  refine ⟨cur.setIfInBounds j (.int k x), by simp [World.setCell, Array.getElem?_modify, hg], by simpa using hs, fun i hi => ?_⟩
  show _ = some (Value.int k (if i = j then x else f i))
  by_cases hij : i = j
  · subst hij; rw [if_pos rfl]; simp [hs, hi]
  · rw [if_neg hij, Array.getElem?_setIfInBounds_ne (by omega)]; exact hc i hi
theorem Tab.far (h : Tab w g t k N f) {p : Addr} (hp : g ≠ p.block) (u : Value) : Tab (w.setCell p u) g t k N f := by
  obtain ⟨cur, hg, r⟩ := h; exact ⟨cur, (Below.heap_setCell _ _ _ _ hp).trans hg, r⟩
end

theorem Ext.grown {w w1 w2 : World} {row : Option Nat} (h : Ext w w1) (hg : w1.grownBy w2 row) (hr : ∀ k, row = some k → w.heap.size ≤ k) : Ext w w2 := Below.grown h hg h.size hr
theorem ext_of_grown {w w2 : World} (hg : w.grownBy w2 none) : Ext w w2 := (Ext.refl w).grown hg (fun _ h => by cases h)
theorem RS.grown {w w' : World} {sz n : Nat} {A : Option Addr} {xs : List Value} {row : Option Nat} (h : RS w sz A n xs) (hg : w.grownBy w' row) (hne : ∀ b o, A = some ⟨b, o, none⟩ → n = 0 ∨ row ≠ some b) : RS w' sz A n xs := by
  refine ⟨h.1, ?_⟩
  rcases h.2 with h0 | ⟨b, o, e, hl, hc⟩
  · exact .inl h0
  · rcases hne _ _ e with h0 | hB
    · exact .inl h0
    · exact .inr ⟨b, o, e, Nat.lt_of_lt_of_le hl hg.size, fun j u hu => (World.cell?_of_block (hg.block b hl (fun e => hB e.symm))).trans (hc j u hu)⟩

theorem ext_drew_grown {w w2 : World} {A : Option Addr} (hg : w.drew.grownBy w2 (rowOf A 0)) : Ext w w2 := (Ext.refl w).drew.grown hg (fun k h => by simp [rowOf] at h)

/-! ### append -/
section
variable {P : Program} (w : World)
theorem run_append_idle (t ty e : TypeId) (i : TypeInfo) (ht : P.underlying t = some (.slice e)) (hi : P.info? e = some i) (A : Option Addr) (n c : Nat) (hnc : n ≤ c) (A2 : Option Addr) (c2 : Nat) :
    (Builtin.append_ #[t, t] ty #[.slice A n c, .slice A2 0 c2]).run P w = .ok (.slice A n c) w := by
  rcases A with _ | a <;> rcases A2 with _ | a2 <;>
    simp [Builtin.append_, run_underlying ht, sizeOf, typeInfo, hi, Builtin.lenOf, Builtin.firstCells, hnc, storeCells, loadCells, loadCellsFrom]

theorem run_append_Own (B : Nat) (t ty e : TypeId) (i : TypeInfo) (z : Value) (sz bytes : Nat) (ht : P.underlying t = some (.slice e)) (hi : P.info? e = some i) (hz : i.zero = some z)
    (hsize : i.size = sz) (hby : i.bytes = bytes) (hzs : z.cells.size = sz) (hsz : 0 < sz)
    (A : Option Addr) (n c : Nat) (xs : List Value) (hown : Own w B e sz A n c xs)
    (A2 : Option Addr) (m c2 : Nat) (news : List Value) (hr : RS w sz A2 m news) (h1 : ∀ u ∈ news, u.oneCell' = true)
    (h63 : n + m ≤ maxLen) (hbytes : (n + m) * bytes ≤ 140737488355328) (hB : B ≤ w.heap.size) :
    ∃ A' c' w', (Builtin.append_ #[t, t] ty #[.slice A n c, .slice A2 m c2]).run P w = .ok (.slice A' (n + m) c') w' ∧ Own w' B e sz A' (n + m) c' (xs ++ news) ∧ w.grownBy w' (rowOf A c) := by
  by_cases hm : m = 0
  · subst hm
    have hn := hr.zero rfl
    subst hn
    exact ⟨A, c, w, run_append_idle w t ty e i ht hi A n c hown.2.1 A2 c2, by simpa using hown, World.grownBy.refl w _⟩
  obtain ⟨b, o, rfl, hb, hcell⟩ := hr.pos (by omega)
  have hcells : ∀ j u, news[j]? = some u → w.cell? ((⟨b, o, none⟩ : Addr).add j) = some u := fun j u hu => by rw [add_lit]; exact hcell j u hu
  by_cases hc : c = 0
  · subst hc
    have hn : n = 0 := by have := hown.2.1; omega
    subst hn
    have hx : xs = [] := hown.rs.zero rfl
    subst hx
    subst hsize
    subst hby
    have hb0 : m * i.bytes ≤ 281474976710656 := by rw [Nat.zero_add] at hbytes; omega
    have h63' : m ≤ maxLen := by omega
    have hge := grownCap_ge w m 0 e
    have hcm : grownCap w m 0 e ≤ maxLen := grownCap_le_maxLen w m 0 e h63'
    have fin : ∀ row, Own (w.drew.alloc (.cells (news.toArray ++ Builtin.zeroCells z.cells (grownCap w m 0 e - m)) e)) B e i.size (some ⟨w.heap.size, 0, none⟩) (0 + m) (grownCap w m 0 e) ([] ++ news) ∧
        w.grownBy (w.drew.alloc (.cells (news.toArray ++ Builtin.zeroCells z.cells (grownCap w m 0 e - m)) e)) row := by
      intro row
      refine ⟨?_, ⟨rfl, rfl, rfl, by simp, fun k hk _ => Below.heap_alloc w.drew _ k hk⟩⟩
      refine Own.lit w.drew _ hB (by omega) hcm ?_ ?_
      · simp only [Array.size_append, List.size_toArray, size_zeroCells, hzs, hr.1, ← Nat.add_mul]
        congr 1
        omega
      · simp only [Nat.zero_add, List.nil_append, Array.toList_append]
        rw [← hr.1]
        exact List.take_left
    have h63i : (m : Int) ≤ 9223372036854775807 := by simp only [maxLen] at h63'; omega
    rcases A with _ | ad
    · exact ⟨_, _, _, by simpa using run_append_nil (P := P) w t ty e i z ht hi hz ⟨b, o, none⟩ m c2 news hr.1 hcells (by omega) h63i hb0, (fin none).1, (fin _).2⟩
    · have hgr := run_append_grow (P := P) w t ty e i z ht hi hz ad 0 0 [] (by simp) (by intro j v hv; simp at hv) ⟨b, o, none⟩ m c2 news hr.1 hcells (by omega) (by simpa using h63i) (by
        simp only [Nat.zero_add]; exact growslice_fits (by omega) (by simpa using hbytes))
      simp only [Nat.zero_add, Array.empty_append] at hgr ⊢
      have f := fin (rowOf (some ad) 0)
      simp only [Nat.zero_add] at f
      exact ⟨_, _, _, hgr, f.1, f.2⟩
  · obtain ⟨g, cur, rfl, hBg, hl, hg, hcs, ht'⟩ := hown.2.2.2.resolve_left hc
    have ho : w.ownsRow B e sz (.slice (some ⟨g, 0, none⟩) n c) n xs := ⟨hown.1, .inr ⟨g, c, cur, rfl, hBg, hg, hown.2.1, hown.2.2.1, hcs, ht'⟩⟩
    obtain ⟨v', w', hrun, h2, h3, h4, h5⟩ := run_append_own_at (P := P) w B t ty e i z sz bytes ht hi hz hsize hby hzs hsz _ n xs ho ⟨b, o, none⟩ m c2 news hr.1 hcells h1 h63 hbytes hB
    have hrow : rowOf (some ⟨g, 0, none⟩) c = some g := by simp [rowOf, hc]
    rw [hrow]
    rcases h2.2 with ⟨hv, h0⟩ | ⟨g', cap, cur', rfl, hb', hg', hnc', hcm', hcs', ht''⟩
    · omega
    · exact ⟨_, _, _, hrun, ⟨h2.1, hnc', hcm', .inr ⟨g', cur', rfl, hb', (Array.getElem?_eq_some_iff.1 hg').1, hg', hcs', ht''⟩⟩, h3⟩

theorem wp_append_Own {o : Oper} {a : Act} {K : Act → World → Prop} {Q : Exit → Act → World → Prop} (s x : Operand) (t : TypeId)
    (ho : o.op = .call { callee := .builtin .append, args := #[s, x], argTypes := #[t, t] })
    (B : Nat) (e : TypeId) (i : TypeInfo) (z : Value) (sz bytes : Nat) (ht : P.underlying t = some (.slice e)) (hi : P.info? e = some i) (hz : i.zero = some z)
    (hsize : i.size = sz) (hby : i.bytes = bytes) (hzs : z.cells.size = sz) (hsz : 0 < sz)
    (A : Option Addr) (n c : Nat) (xs : List Value) (hs : a.eval s = .slice A n c) (hown : Own w B e sz A n c xs)
    (A2 : Option Addr) (m c2 : Nat) (news : List Value) (hx : a.eval x = .slice A2 m c2) (hr : RS w sz A2 m news) (h1 : ∀ u ∈ news, u.oneCell' = true)
    (h63 : n + m ≤ maxLen) (hbytes : (n + m) * bytes ≤ 140737488355328) (hB : B ≤ w.heap.size)
    (h : ∀ A' c' w', Own w' B e sz A' (n + m) c' (xs ++ news) → w.grownBy w' (rowOf A c) → K (a.put o.dst (.slice A' (n + m) c')) w') : o.wp P a w K Q := by
  obtain ⟨A', c', w', hrun, h2, h3⟩ := run_append_Own (P := P) w B t o.type e i z sz bytes ht hi hz hsize hby hzs hsz A n c xs hown A2 m c2 news hr h1 h63 hbytes hB
  unfold Oper.wp execOp
  simp only [ho, resolve, invoke, builtin, Sem.run_bind, Sem.run_pure, Result.andThen_ok, List.map_toArray, List.map_cons, List.map_nil, hs, hx, hrun]
  exact h A' c' w' h2 h3
end
/-- The facts of an element type. -/
structure ElemFacts (P : Program) (t e : TypeId) (sz bytes : Nat) : Prop where
  under : P.underlying t = some (.slice e)
  info : ∃ i z, P.info? e = some i ∧ i.zero = some z ∧ i.size = sz ∧ i.bytes = bytes ∧ z.cells.size = sz
  pos : 0 < sz

theorem ElemFacts.cut_lo {P : Program} {t e : TypeId} {sz bytes : Nat} (h : ElemFacts P t e sz bytes) (A : Option Addr) (n c lo : Nat) (k : IntKind) (hl : lo ≤ n) (w : World) :
    (Instr.slice t (.slice A n c) (some (.int k (lo : Int))) none none).run P w = .ok (.slice (cutA A c lo sz) (n - lo) (c - lo)) w := by
  obtain ⟨i, z, hi, _, h2, _⟩ := h.info
  exact run_cut_lo h.under hi h2 A n c lo k hl w
theorem elem_mk {P : Program} {t e : TypeId} {sz bytes : Nat} (hu : P.underlying t = some (.slice e)) (h : (P.info? e).map (fun i => (i.zero.map (fun z => z.cells.size), i.size, i.bytes)) = some (some sz, sz, bytes)) (hp : 0 < sz) : ElemFacts P t e sz bytes := by
  cases hi : P.info? e with
  | none => rw [hi] at h; simp at h
  | some i =>
    rw [hi] at h
    cases hz : i.zero with
    | none => simp [hz] at h
    | some z => simp [hz] at h; exact ⟨hu, ⟨i, z, hi, hz, h.2.1, h.2.2, h.1⟩, hp⟩

section
variable {P : Program} {w : World}
theorem wpList_append_Own {ops : Array Oper} {rest : List Oper} {o : Oper} {a : Act} {Q : Exit → Act → World → Prop} (hgd : o.guard = none) (s x : Operand) (t : TypeId)
    (ho : o.op = .call { callee := .builtin .append, args := #[s, x], argTypes := #[t, t] })
    (B : Nat) {e : TypeId} {sz bytes : Nat} (hE : ElemFacts P t e sz bytes)
    {A : Option Addr} {n c : Nat} {xs : List Value} (hs : a.eval s = .slice A n c) (hown : Own w B e sz A n c xs)
    {A2 : Option Addr} {m c2 : Nat} {news : List Value} (hx : a.eval x = .slice A2 m c2) (hr : RS w sz A2 m news) (h1 : ∀ u ∈ news, u.oneCell' = true)
    (h63 : n + m ≤ maxLen) (hbytes : (n + m) * bytes ≤ 140737488355328) (hB : B ≤ w.heap.size)
    (h : ∀ A' c' w', Own w' B e sz A' (n + m) c' (xs ++ news) → w.grownBy w' (rowOf A c) → wpList P ops Q rest (a.put o.dst (.slice A' (n + m) c')) w') : wpList P ops Q (o :: rest) a w := by
  obtain ⟨hu, ⟨i, z, hi, hz, h2, h3, h4⟩, hp⟩ := hE
  exact wpList_plain hgd fun _ hK => wp_append_Own w s x t ho B e i z sz bytes hu hi hz h2 h3 h4 hp A n c xs hs hown A2 m c2 news hx hr h1 h63 hbytes hB fun A' c' w' k1 k2 => hK _ _ (h A' c' w' k1 k2)
end

/-! ### rows of numbers -/
/-- The slice value '.slice A n _' reads as these numbers. -/
def Nums (k : IntKind) (w : World) (A : Option Addr) (n : Nat) (zs : List Int) : Prop := zs.length = n ∧ RS w 1 A n (zs.map (.int k))
theorem Nums.ext {k : IntKind} {w w' : World} {A : Option Addr} {n : Nat} {zs : List Int} (h : Nums k w A n zs) (he : Ext w w') : Nums k w' A n zs := ⟨h.1, h.2.ext he⟩
theorem Nums.nil (k : IntKind) (w : World) (A : Option Addr) : Nums k w A 0 [] := ⟨rfl, RS.nil w 1 A⟩
theorem Nums.at_ {k : IntKind} {w : World} {A : Option Addr} {n : Nat} {zs : List Int} (h : Nums k w A n zs) (j : Nat) (hj : j < n) : ∃ b o, A = some ⟨b, o, none⟩ ∧ b < w.heap.size ∧ w.cell? ⟨b, o + j, none⟩ = some (.int k (zs.getD j 0)) := by
  obtain ⟨b, o, e, hb, hc⟩ := h.2.pos (by omega)
  refine ⟨b, o, e, hb, hc j _ ?_⟩
  have : j < zs.length := by rw [h.1]; exact hj
  simp [this]
theorem Nums.one {k : IntKind} (zs : List Int) : ∀ u ∈ zs.map (Value.int k), u.oneCell' = true := by
  intro u hu
  obtain ⟨z, _, rfl⟩ := List.mem_map.1 hu
  rfl
/-- What a shell's 'IsRow' says, in these words. -/
theorem nums_of_row {k : IntKind} {w : World} {a : Option Addr} {len cap : Nat} {zs : List Int}
    (h : (a = none ∧ len = 0 ∧ cap = 0 ∧ zs = []) ∨ ∃ x, a = some x ∧ len ≤ cap ∧ cap ≤ maxLen ∧ zs.length = cap ∧ (∀ i, i < zs.length → w.cell? (x.add i) = some (.int k (zs.getD i 0))) ∧ ∀ n ∈ zs, (Lit.int k n).wf = true) :
    len ≤ cap ∧ cap ≤ maxLen ∧ Nums k w a len (zs.take len) ∧ ∀ n ∈ zs.take len, (Lit.int k n).wf = true := by
  rcases h with ⟨rfl, rfl, rfl, rfl⟩ | ⟨x, rfl, hl, hm, hz, hc, hw⟩
  · exact ⟨Nat.le_refl _, by simp [maxLen], Nums.nil k w none, by simp⟩
  · refine ⟨hl, hm, ⟨by rw [List.length_take]; omega, by rw [List.length_map, List.length_take]; omega, ?_⟩, fun n hn => hw n (List.mem_of_mem_take hn)⟩
    by_cases h0 : len = 0
    · exact .inl h0
    · obtain ⟨b, off, spot⟩ := x
      have hc0 := hc 0 (by omega)
      have hspot : spot = none := by simpa [Addr.add] using World.cell?_spot hc0
      subst hspot
      refine .inr ⟨b, off, rfl, World.block_lt_of_cell? w _ hc0, fun j u hu => ?_⟩
      rw [List.getElem?_map, List.getElem?_take] at hu
      split at hu
      · have := hc j (by omega)
        rw [add_lit] at this
        rw [this]
        have hj : j < zs.length := by omega
        simp [hj] at hu ⊢
        exact hu
      · simp at hu
end Go.Proofs.Ytlahecofjlaojaa
