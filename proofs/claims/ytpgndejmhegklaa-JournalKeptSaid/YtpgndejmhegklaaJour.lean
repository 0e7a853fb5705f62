/- The journal: Open, its deferred closure; Add, Snap, Count. -/
import Derived.Test.YtpgndejmhegklaaDkRoom
import Derived.Test.YtpgndejmhegklaaRScan
import Derived.Defers
namespace Go.Proofs.Ytpgndejmhegklaa
set_option linter.unusedVariables false
open Go.RowKit

theorem Blk.cell0 {w : World} {g : Nat} {t : TypeId} {v : Value} (h : Blk w g t #[v]) : w.cell? ⟨g, 0, none⟩ = some v := h.cell 0

set_option maxHeartbeats 1000000 in
theorem cls_ok (pj ps pl pe : Addr) (w : World) (he : w.cell? pe = some (.int .i64 0)) :
    CallsD Try.prog 37 #[.pointer (some pe), .pointer (some pj), .pointer (some ps), .pointer (some pl)] .returning w fun e u' w' => u' = .returning ∧ (e = .returned (.tuple #[]) ∧ w' = w) := by
  go_enter_d Try.func37, Try.ntmps37
  go_wp2
  go_end0
  exact ⟨rfl, rfl⟩
set_option maxHeartbeats 1000000 in
theorem cls_bad (h : Nat) (c : Int) (hc : (c != 0) = true) (w : World) (he : w.cell? ⟨h + 1 + 1 + 1, 0, none⟩ = some (.int .i64 c)) (vj vs vl : Value) (hj : w.cell? ⟨h, 0, none⟩ = some vj) (hs : w.cell? ⟨h + 1, 0, none⟩ = some vs) (hl : w.cell? ⟨h + 1 + 1, 0, none⟩ = some vl)
    (fj : w.frozen? ⟨h, 0, none⟩ = false) (fs : w.frozen? ⟨h + 1, 0, none⟩ = false) (fl : w.frozen? ⟨h + 1 + 1, 0, none⟩ = false) :
    CallsD Try.prog 37 #[.pointer (some ⟨h + 1 + 1 + 1, 0, none⟩), .pointer (some ⟨h, 0, none⟩), .pointer (some ⟨h + 1, 0, none⟩), .pointer (some ⟨h + 1 + 1, 0, none⟩)] .returning w fun e u' w' => u' = .returning ∧ (e = .returned (.tuple #[]) ∧ w' = ((w.setCell ⟨h, 0, none⟩ (.pointer none)).setCell ⟨h + 1, 0, none⟩ (.slice none 0 0)).setCell ⟨h + 1 + 1, 0, none⟩ (.slice none 0 0)) := by
  go_enter_d Try.func37, Try.ntmps37
  go_wp2
  go_end0
  exact ⟨rfl, rfl⟩

/-- The results' variables of an Open. -/
structure Vars (w : World) (h : Nat) (a b c d : Value) : Prop where
  j : Blk w h 47 #[a]
  s : Blk w (h + 1) 22 #[b]
  l : Blk w (h + 1 + 1) 23 #[c]
  e : Blk w (h + 1 + 1 + 1) 27 #[d]
theorem Vars.ext {w w' : World} {h : Nat} {a b c d : Value} (k : Vars w h a b c d) (he : Ext w w') : Vars w' h a b c d := ⟨k.j.ext he, k.s.ext he, k.l.ext he, k.e.ext he⟩
theorem Vars.cells {w : World} {h : Nat} {a b c d : Value} (k : Vars w h a b c d) :
    (w.cell? ⟨h, 0, none⟩ = some a ∧ w.cell? ⟨h + 1, 0, none⟩ = some b ∧ w.cell? ⟨h + 1 + 1, 0, none⟩ = some c ∧ w.cell? ⟨h + 1 + 1 + 1, 0, none⟩ = some d) ∧
    w.frozen? ⟨h, 0, none⟩ = false ∧ w.frozen? ⟨h + 1, 0, none⟩ = false ∧ w.frozen? ⟨h + 1 + 1, 0, none⟩ = false ∧ w.frozen? ⟨h + 1 + 1 + 1, 0, none⟩ = false :=
  ⟨⟨k.j.cell0, k.s.cell0, k.l.cell0, k.e.cell0⟩, k.j.frozen 0, k.s.frozen 0, k.l.frozen 0, k.e.frozen 0⟩
theorem Vars.new (w : World) : Vars ((((w.alloc (.cells #[.pointer none] 47)).alloc (.cells #[.slice none 0 0] 22)).alloc (.cells #[.slice none 0 0] 23)).alloc (.cells #[.int .i64 0] 27)) w.heap.size (.pointer none) (.slice none 0 0) (.slice none 0 0) (.int .i64 0) := by
  refine ⟨(((Blk.new w _ _).ext ((Ext.refl _).alloc _)).ext ((Ext.refl _).alloc _)).ext ((Ext.refl _).alloc _), ?_, ?_, ?_⟩
  · have := ((Blk.new (w.alloc (.cells #[.pointer none] 47)) 22 #[.slice none 0 0]).ext ((Ext.refl _).alloc (.cells #[.slice none 0 0] 23))).ext ((Ext.refl _).alloc (.cells #[.int .i64 0] 27))
    simpa using this
  · have := (Blk.new ((w.alloc (.cells #[.pointer none] 47)).alloc (.cells #[.slice none 0 0] 22)) 23 #[.slice none 0 0]).ext ((Ext.refl _).alloc (.cells #[.int .i64 0] 27))
    simpa using this
  · have := Blk.new (((w.alloc (.cells #[.pointer none] 47)).alloc (.cells #[.slice none 0 0] 22)).alloc (.cells #[.slice none 0 0] 23)) 27 #[.int .i64 0]
    simpa using this
theorem Vars.j_ {w : World} {h : Nat} {a b c d : Value} (k : Vars w h a b c d) (u : Value) : Vars (w.setCell ⟨h, 0, none⟩ u) h u b c d :=
  have hM := (Mut.refl w h).setCell 0 u
  ⟨k.j.set_ 0 u, k.s.mut hM (by omega), k.l.mut hM (by omega), k.e.mut hM (by omega)⟩
theorem Vars.s_ {w : World} {h : Nat} {a b c d : Value} (k : Vars w h a b c d) (u : Value) : Vars (w.setCell ⟨h + 1, 0, none⟩ u) h a u c d :=
  have hM := (Mut.refl w (h + 1)).setCell 0 u
  ⟨k.j.mut hM (by omega), k.s.set_ 0 u, k.l.mut hM (by omega), k.e.mut hM (by omega)⟩
theorem Vars.l_ {w : World} {h : Nat} {a b c d : Value} (k : Vars w h a b c d) (u : Value) : Vars (w.setCell ⟨h + 1 + 1, 0, none⟩ u) h a b u d :=
  have hM := (Mut.refl w (h + 1 + 1)).setCell 0 u
  ⟨k.j.mut hM (by omega), k.s.mut hM (by omega), k.l.set_ 0 u, k.e.mut hM (by omega)⟩
theorem Vars.e_ {w : World} {h : Nat} {a b c d : Value} (k : Vars w h a b c d) (u : Value) : Vars (w.setCell ⟨h + 1 + 1 + 1, 0, none⟩ u) h a b c u :=
  have hM := (Mut.refl w (h + 1 + 1 + 1)).setCell 0 u
  ⟨k.j.mut hM (by omega), k.s.mut hM (by omega), k.l.mut hM (by omega), k.e.set_ 0 u⟩
/-- Only blocks from h on are written. -/
theorem Ext.set_from {w0 w : World} {h : Nat} (he : Ext w0 w) (hh : w0.heap.size ≤ h) (u : Value) : Ext w0 (w.setCell ⟨h, 0, none⟩ u) := he.setCell hh u

set_option maxRecDepth 100000 in
set_option maxHeartbeats 2000000 in
theorem open_bad (g : Nat) (d : Dsk) (w : World) (hD : DiskAt w g d) (hd : d.dead = false) (hs : 0 < d.snap.length) (hsl : d.snap.length ≤ 4000000) (hone : oneE d.snap ≠ 0) :
    Calls Try.prog 26 #[.pointer (some ⟨g, 0, none⟩)] w fun e w' => e = .returned (.tuple #[.pointer none, .slice none 0 0, .slice none 0 0, .int .i64 10]) ∧ Ext w w' := by
  have hmf : ∀ (fn : Fn) (first cap : Array Value) (w : World), (Instr.makeFunc fn first cap).run Try.prog w = .ok (.func fn first cap) w := fun _ _ _ _ => rfl
  go_enter_defers Try.func26, Try.ntmps26
  have hx0 : Ext w ((((w.alloc (.cells #[.pointer none] 47)).alloc (.cells #[.slice none 0 0] 22)).alloc (.cells #[.slice none 0 0] 23)).alloc (.cells #[.int .i64 0] 27)) := ((((Ext.refl w).alloc _).alloc _).alloc _).alloc _
  have hV := Vars.new w
  go_upto_region 1 with fail
  generalize (((w.alloc (.cells #[.pointer none] 47)).alloc (.cells #[.slice none 0 0] 22)).alloc (.cells #[.slice none 0 0] 23)).alloc (.cells #[.int .i64 0] 27) = w1 at *
  generalize hh : w.heap.size = h at *
  have hD1 := hD.ext hx0
  have hda := dead_any g d w1 hD1
  have hsn := snap_any g d w1 hD1
  rw [hd] at hda
  have hpos : ((d.snap.length : Nat) : Int) > 0 := by omega
  have hb8 := hD1.ok.snap8
  generalize d.snap.length = n at *
  generalize d.snap = bs at *
  have Hh := Lib.hid hh
  clear hD hD1 hd hh
  obtain ⟨⟨c0, c1, c2, c3⟩, f0, f1, f2, f3⟩ := hV.cells
  go_wp2_with fail
  refine hda.mono ?_
  rintro e w' ⟨rfl, rfl⟩
  go_wp2_with fail
  refine hsn.mono ?_
  rintro e w2 ⟨A2, n2, rfl, hg2, hx2⟩
  have hV2 := hV.ext hx2
  clear c0 c1 c2 c3 f0 f1 f2 f3 hV hsn hda
  have hon := one_any A2 n n2 bs w2 hg2.bytes hg2.le (by omega) hb8
  generalize oneE bs = k at *
  generalize oneB bs = ob at *
  generalize ob.length = m at *
  have hkne : ((k : Nat) : Int) ≠ 0 := by omega
  go_wp2_with fail
  refine hon.mono ?_
  rintro e w3 ⟨A3, n3, rfl, hg3, hx3⟩
  have hV3 := hV2.ext hx3
  obtain ⟨⟨c0, c1, c2, c3⟩, f0, f1, f2, f3⟩ := hV3.cells
  clear hV2 hg2 hon hg3
  go_wp2_with fail
  clear c0 c1 c2 c3 f0 f1 f2 f3
  have hle : w.heap.size ≤ h := Nat.le_of_eq Hh.out
  have hx4 : Ext w w3 := hx0.trans (hx2.trans hx3)
  refine leaves_cons (f := 37) (args := #[.pointer (some ⟨h + 1 + 1 + 1, 0, none⟩), .pointer (some ⟨h, 0, none⟩), .pointer (some ⟨h + 1, 0, none⟩), .pointer (some ⟨h + 1 + 1, 0, none⟩)]) (by simp) (by simp [go_sem]) ?_
  have hV9 := (((((hV3.s_ (.slice A3 m n3)).e_ (.int .i64 k)).j_ (.pointer none)).s_ (.slice none 0 0)).l_ (.slice none 0 0)).e_ (.int .i64 10)
  have hx9 : Ext w ((((((w3.setCell ⟨h + 1, 0, none⟩ (.slice A3 m n3)).setCell ⟨h + 1 + 1 + 1, 0, none⟩ (.int .i64 k)).setCell ⟨h, 0, none⟩ (.pointer none)).setCell ⟨h + 1, 0, none⟩ (.slice none 0 0)).setCell ⟨h + 1 + 1, 0, none⟩ (.slice none 0 0)).setCell ⟨h + 1 + 1 + 1, 0, none⟩ (.int .i64 10)) :=
    (((((hx4.set_from (by omega) _).set_from (by omega) _).set_from (by omega) _).set_from (by omega) _).set_from (by omega) _).set_from (by omega) _
  generalize (((((w3.setCell ⟨h + 1, 0, none⟩ (.slice A3 m n3)).setCell ⟨h + 1 + 1 + 1, 0, none⟩ (.int .i64 k)).setCell ⟨h, 0, none⟩ (.pointer none)).setCell ⟨h + 1, 0, none⟩ (.slice none 0 0)).setCell ⟨h + 1 + 1, 0, none⟩ (.slice none 0 0)).setCell ⟨h + 1 + 1 + 1, 0, none⟩ (.int .i64 10) = w7 at *
  obtain ⟨⟨c0, c1, c2, c3⟩, f0, f1, f2, f3⟩ := hV9.cells
  refine (cls_bad h 10 rfl w7 c3 _ _ _ c0 c1 c2 f0 f1 f2).mono ?_
  rintro e u' w9 ⟨rfl, rfl, rfl⟩
  obtain ⟨⟨k0, k1, k2, k3⟩, -, -, -, -⟩ := (((hV9.j_ (.pointer none)).s_ (.slice none 0 0)).l_ (.slice none 0 0)).cells
  have hx10 : Ext w (((w7.setCell ⟨h, 0, none⟩ (.pointer none)).setCell ⟨h + 1, 0, none⟩ (.slice none 0 0)).setCell ⟨h + 1 + 1, 0, none⟩ (.slice none 0 0)) := ((hx9.set_from hle (.pointer none)).set_from (show w.heap.size ≤ h + 1 by omega) (.slice none 0 0)).set_from (show w.heap.size ≤ h + 1 + 1 by omega) (.slice none 0 0)
  generalize ((w7.setCell ⟨h, 0, none⟩ (.pointer none)).setCell ⟨h + 1, 0, none⟩ (.slice none 0 0)).setCell ⟨h + 1 + 1, 0, none⟩ (.slice none 0 0) = w8 at *
  clear c0 c1 c2 c3
  simp [Leaves, settle, results, Try.results26, go_sem, k0, k1, k2, k3]
  exact hx10
/-- What an Open gives: the disk behind it, the journal's block. -/
def openV (d : Dsk) : Dsk := if (scanL d.log).2 < d.log.length then (d.cut ((scanL d.log).2 : Int)).2 else d
def JourAt (w : World) (q g n : Nat) : Prop := Blk w q 66 #[.pointer (some ⟨g, 0, none⟩), .int .i64 (n : Int)]
def OpenSays (w : World) (g : Nat) (d : Dsk) (e : Ending) (w' : World) : Prop :=
  ∃ q As ms cs Al nl cl, e = .returned (.tuple #[.pointer (some ⟨q, 0, none⟩), .slice As ms cs, .slice Al nl cl, .int .i64 0]) ∧ w.heap.size ≤ q ∧ JourAt w' q g nl ∧ GB w' As ms cs (oneB d.snap) ∧ ms = (oneB d.snap).length ∧ Rws w' Al nl (scanL d.log).1 ∧ nl = (scanL d.log).1.length ∧ DiskAt w' g (openV d) ∧ Mut w g w'
theorem DiskAt.apart {w w' : World} {g p : Nat} {d : Dsk} {t : TypeId} {cs : Array Value} (h : DiskAt w g d) (hb : Blk w p t cs) (hne : t ≠ 5) (hp : g ≠ p) (k : Mut w p w') : DiskAt w' g d := by
  obtain ⟨AL, cL, AS, cS, h1, h2, h3⟩ := h.raw
  exact ⟨⟨AL, cL, AS, cS, Blk.mut h1 k hp, h2.mut hb hne k, h3.mut hb hne k⟩, h.ok⟩
theorem Own.below {w w' : World} {B g : Nat} {e : TypeId} {sz n c : Nat} {A : Option Addr} {xs : List Value} (h : Own w B e sz A n c xs) (k : Mut w g w') (hg : g < B) : Own w' B e sz A n c xs :=
  h.grown k (fun j hj e => by have := (h.row j hj).1; injection e; omega)
theorem RowsV.mut {w w' : World} {g : Nat} {vs : List Value} {rs : List (List Nat)} {t : TypeId} {cs : Array Value} (h : RowsV w vs rs) (hb : Blk w g t cs) (hne : t ≠ 5) (k : Mut w g w') : RowsV w' vs rs :=
  ⟨h.1, fun j hj => by
    obtain ⟨A, n, c, h1, h2, h5, h3, h4⟩ := h.2 j hj
    have h6 : GB w' A n c rs[j] := GB.mut ⟨h2, h5, h3, h4⟩ hb hne k
    exact ⟨A, n, c, h1, h2, h5, h6.2.2.1, h6.2.2.2⟩⟩
theorem scanL_le : ∀ (k : Nat) (bs : List Nat), bs.length ≤ k → (scanL bs).2 ≤ bs.length
  | 0, bs, h => by
    rw [scanL_stop (by unfold stepOk; simp; intro h1; omega)]
    exact Nat.zero_le _
  | k + 1, bs, h => by
    cases hs : stepOk bs
    · rw [scanL_stop hs]; exact Nat.zero_le _
    · rw [scanL_step hs]
      unfold stepOk at hs
      simp only [Bool.and_eq_true, decide_eq_true_eq] at hs
      have h1 := hs.1.1.1
      have h2 := hs.1.2
      have := scanL_le k (bs.drop (8 + num4 bs)) (by rw [List.length_drop]; omega)
      rw [List.length_drop] at this
      simp only
      omega

theorem Blk.same {w : World} {g : Nat} {t : TypeId} {v : Value} (h : Blk w g t #[v]) : w.setCell ⟨g, 0, none⟩ v = w := by
  unfold Blk at h
  have hlt := (Array.getElem?_eq_some_iff.1 h).1
  have hm : w.heap.modify g (fun | .cells c elem frozen => .cells (if (none : Option Nat).isSome then c else c.setIfInBounds 0 v) elem frozen | o => o) = w.heap := by
    apply Array.ext_getElem?
    intro i
    rw [Array.getElem?_modify]
    by_cases hi : g = i
    · subst hi
      rw [if_pos rfl, h]
      rfl
    · rw [if_neg hi]
  show { w with heap := _ } = w
  exact congrArg (fun x => { w with heap := x }) hm
end Go.Proofs.Ytpgndejmhegklaa
