/- The walk of StatePlays: whatever is put, a state is, and answers, what the document says. -/
import Derived.Test.YtbijpbkekdeilaaStPut
import Derived.Deep.RegionHeld3
import Derived.Deep.DeepCutAuto
namespace Go.Proofs.Ytbijpbkekdeilaa
set_option linter.unusedVariables false
open Go.RowKit

theorem rput_v (v : Value) (l : List Acc) (a : Acc) (w : World) (hs : StV w v l) (hn : l.length ≤ 999000) :
    Calls Try.prog 31 #[v, .agg #[.int .i64 a.id, .int .i64 a.bal, .int .i64 a.non, .int .i64 a.dat]] w fun e w' => ∃ v', e = .returned v' ∧ StV w' v' (putR l a) ∧ Ext w w' := by
  obtain ⟨A, c, rfl, h2, h3, h4⟩ := hs
  refine (rput_any A _ c l a.id a.bal a.non a.dat w h4 h2 h3 hn).mono ?_
  rintro e w' ⟨A', c', rfl, ho, he⟩
  have : (⟨a.id, a.bal, a.non, a.dat⟩ : Acc) = a := rfl
  rw [this, putL_eq] at *
  exact ⟨_, rfl, StV.own rfl ho, he⟩
theorem rget_v (v : Value) (l : List Acc) (i : Int) (w : World) (hs : StV w v l) (hsrt : Sorted l) :
    Calls Try.prog 33 #[v, .int .i64 i] w fun e w' => e = .returned (.agg #[.int .i64 (getR l i).id, .int .i64 (getR l i).bal, .int .i64 (getR l i).non, .int .i64 (getR l i).dat]) ∧ Ext w w' := by
  obtain ⟨A, c, rfl, h2, h3, h4⟩ := hs
  exact rget_any A _ c l i w h4 (by omega) hsrt
theorem rtotal_v (v : Value) (l : List Acc) (w : World) (hs : StV w v l) (hm : Mild l) (hn : l.length ≤ 1000) :
    Calls Try.prog 34 #[v] w fun e w' => e = .returned (.int .i64 (totL l)) ∧ Ext w w' := by
  obtain ⟨A, c, rfl, h2, h3, h4⟩ := hs
  exact rtotal_any A _ c l w h4 hm hn
theorem rsame_v (u v : Value) (l : List Acc) (w : World) (h1 : StV w u l) (h2 : StV w v l) :
    Calls Try.prog 32 #[u, v] w fun e w' => e = .returned (.bool true) ∧ Ext w w' := by
  obtain ⟨A1, c1, rfl, g2, g3, g4⟩ := h1
  obtain ⟨A2, c2, rfl, k2, k3, k4⟩ := h2
  have := rsame_any A1 A2 _ _ c1 c2 l l w g4 k4 (by omega) (by omega)
  rwa [sameL_self] at this
theorem same_vv (u v : Value) (l : List Acc) (w : World) (h1 : StV w u l) (h2 : StV w v l) :
    Calls Try.prog 20 #[u, v] w fun e w' => e = .returned (.bool true) ∧ Ext w w' := by
  have := same_v u v l l w h1 h2
  rwa [sameL_self] at this
theorem check_v (v : Value) (l : List Acc) (w : World) (hs : StV w v l) (hn : l.length ≤ 1000000) (hwf : ∀ a ∈ l, (Lit.int .i64 a.id).wf = true) :
    Calls Try.prog 28 #[v] w fun e w' => e = .returned (.int .i64 (chk none 0 l)) ∧ Ext w w' := by
  obtain ⟨A, c, rfl, h2, h3, h4⟩ := hs
  exact check_any A _ c l w h4 hn hwf
theorem rcheck_v (v : Value) (l : List Acc) (w : World) (hs : StV w v l) (hn : l.length ≤ 1000000) :
    Calls Try.prog 29 #[v] w fun e w' => e = .returned (.int .i64 (chk none 0 l)) ∧ Ext w w' := by
  obtain ⟨A, c, rfl, h2, h3, h4⟩ := hs
  exact rcheck_any A _ c l w h4 hn

/-- A struct of one account in a block of its own. -/
def Box8 (w : World) (g : Nat) (a : Acc) : Prop := w.heap[g]? = some (.cells #[.int .i64 a.id, .int .i64 a.bal, .int .i64 a.non, .int .i64 a.dat] 29 (0, 0))
theorem Box8.cells {w : World} {g : Nat} {a : Acc} (h : Box8 w g a) : w.cell? ⟨g, 0, none⟩ = some (.int .i64 a.id) ∧ w.cell? ⟨g, 1, none⟩ = some (.int .i64 a.bal) ∧ w.cell? ⟨g, 2, none⟩ = some (.int .i64 a.non) ∧ w.cell? ⟨g, 3, none⟩ = some (.int .i64 a.dat) ∧ ∀ j, w.frozen? ⟨g, j, none⟩ = false :=
  ⟨cell_of_row w g 0 _ _ _ h, cell_of_row w g 1 _ _ _ h, cell_of_row w g 2 _ _ _ h, cell_of_row w g 3 _ _ _ h, fun j => by unfold Box8 at h; simp [World.frozen?, h]⟩
theorem Box8.lt {w : World} {g : Nat} {a : Acc} (h : Box8 w g a) : g < w.heap.size := (Array.getElem?_eq_some_iff.1 h).1

/-- What the loop has put, into both. -/
structure Plays1 (w wr : World) (u v : Value) (l : List Acc) : Prop where
  st1 : StV wr u l
  st2 : StV wr v l
  fine : Fine l
  ext : Ext w wr

set_option maxRecDepth 100000 in
set_option maxHeartbeats 4000000 in
theorem plays_walk (A0 : Option Addr) (n0 c0 : Nat) (zs : List Int) (A1 : Option Addr) (n1 c1 : Nat) (ys : List Int) (w : World) (hz : Nums .i64 w A0 n0 zs) (hy : Nums .i64 w A1 n1 ys) (hn0 : n0 ≤ maxLen) (hn1 : n1 ≤ maxLen) :
    Calls Try.prog 9 #[.slice A0 n0 c0, .slice A1 n1 c1] w fun e w' => e = .returned (.bool true) ∧ Ext w w' := by
  unfold maxLen at hn0 hn1
  go_enter Try.func9, Try.ntmps9
  go_wp2_with fail
  refine (known8_any _).mono ?_
  rintro e w1 ⟨rfl, he1⟩
  go_wp2_with fail
  go_loopw [5, 6, 7] (fun s t i wr => ∃ (k : Nat) (l : List Acc), k ≤ 60 ∧ i = .int .i64 k ∧ Plays1 w wr s t l) (fun _ _ i _ => 61 - (intOf i).toNat)
  case atStart => exact ⟨0, [], by omega, rfl, StV.nil _, StV.nil _, Fine.nil, he1⟩
  case round =>
    obtain ⟨k, l, hk, rfl, hP⟩ := hrel
    by_cases hlt : k < n0 ∧ k < n1 ∧ k < 60
    · obtain ⟨g1, g2, g3⟩ := hlt
      obtain ⟨b0, o0, rfl, hb0, hc0⟩ := hz.at_ k g1
      obtain ⟨b1, o1, rfl, hb1, hc1⟩ := hy.at_ k g2
      have r0 : ∀ w', Ext wr w' → w'.cell? ⟨b0, o0 + k, none⟩ = some (.int .i64 (zs.getD k 0)) := fun w' h => (hP.ext.trans h).cell hc0
      have r1 : ∀ w', Ext wr w' → w'.cell? ⟨b1, o1 + k, none⟩ = some (.int .i64 (ys.getD k 0)) := fun w' h => (hP.ext.trans h).cell hc1
      have hki : (0 : Int) ≤ (k : Int) := by omega
      have hkn0 : (k : Int) < (n0 : Int) := by omega
      have hkn1 : (k : Int) < (n1 : Int) := by omega
      clear hc0 hc1 hz hy
      generalize zs.getD k 0 = z at *
      generalize ys.getD k 0 = y at *
      have hst1 := hP.st1
      have hst2 := hP.st2
      have hfine := hP.fine
      have hext := hP.ext
      clear hP
      go_upto_region 7 with fail
      go_cut [8] (fun p wb => ∃ (g : Nat) (a : Acc), p = .pointer (some ⟨g, 0, none⟩) ∧ Box8 wb g a ∧ wr.heap.size ≤ g ∧ 0 ≤ a.id ∧ a.id < 256 ∧ 0 ≤ a.bal ∧ a.bal ≤ 99 ∧ Ext wr wb)
      case first =>
        go_region_held3 (fun w' => Ext wr w')
          (first | assumption | (repeat (first | exact Ext.refl _ | refine Ext.drew ?_ | refine Ext.alloc ?_ _ | refine Ext.setCell ?_ (by simp) _)))
          (first | (go_at_call 17; refine (within_any _ _ (by omega) (by omega) _).mono ?_; rintro e w' ⟨rfl, rfl⟩))
        all_goals (go_wp2_with fail; go_meet; exact ⟨_, ⟨_, _, _, _⟩, rfl, heap_alloc_new _ _, Nat.le_refl _, Int.emod_nonneg _ (by omega), Int.emod_lt_of_pos _ (by omega), Int.emod_nonneg _ (by omega), Int.le_of_lt_add_one (Int.emod_lt_of_pos y (b := 100) (by omega)), (Ext.refl wr).drew.alloc _⟩)
      case rest =>
        obtain ⟨g, a, hp8, hbox, hg, i0, i1, i2, i3, heb⟩ := hcut
        rw [hp8]
        have r2 := r1 _ heb
        have R0 := Lib.hid r0
        clear r0 r1
        go_upto_if 57 with fail
        go_cut [8] (fun p wb => ∃ (a' : Acc), p = .pointer (some ⟨g, 0, none⟩) ∧ Box8 wb g a' ∧ 0 ≤ a'.id ∧ a'.id < 256 ∧ 0 ≤ a'.bal ∧ a'.bal ≤ 99 ∧ Ext wr wb)
        case first =>
          obtain ⟨k0, k1, k2, k3, kf⟩ := hbox.cells
          have f0 := kf 0
          have f1 := kf 1
          have f2 := kf 2
          have f3 := kf 3
          clear kf
          cases ht : (y.tmod 5 == 0)
          · go_wp2_with fail
            go_meet
            exact ⟨a, rfl, hbox, i0, i1, i2, i3, heb⟩
          · go_wp2_with fail
            go_meet
            refine ⟨⟨a.id, 0, 0, 0⟩, rfl, ?_, i0, i1, by simp, by simp, (((heb.setCell hg _).setCell hg _).setCell hg _).setCell hg _⟩
            have hb' := hbox
            unfold Box8 at hb' ⊢
            simp [World.setCell, Array.getElem?_modify, hb']
        case rest =>
          obtain ⟨a', hp8', hbox', j0, j1, j2, j3, heb'⟩ := hcut
          rw [hp8']
          have ha' : Fine (putR l a') := hfine.put ⟨j0, j1⟩ (by omega)
          obtain ⟨k0, k1, k2, k3, -⟩ := hbox'.cells
          have e0 : ∀ w', Ext wc w' → w'.cell? ⟨g, 0, none⟩ = some (.int .i64 a'.id) := fun w' h => h.cell k0
          have e1 : ∀ w', Ext wc w' → w'.cell? ⟨g, 1, none⟩ = some (.int .i64 a'.bal) := fun w' h => h.cell k1
          have e2 : ∀ w', Ext wc w' → w'.cell? ⟨g, 2, none⟩ = some (.int .i64 a'.non) := fun w' h => h.cell k2
          have e3 : ∀ w', Ext wc w' → w'.cell? ⟨g, 3, none⟩ = some (.int .i64 a'.dat) := fun w' h => h.cell k3
          have hll := hfine.len
          have hp1 := fun w' (h : Ext wc w') => put_v u5 l a' w' (hst1.ext (heb'.trans h)) (by omega)
          have hp2 := fun w' (h : Ext wc w') => rput_v u6 l a' w' (hst2.ext (heb'.trans h)) (by omega)
          have Hp1 := Lib.hid hp1
          have Hp2 := Lib.hid hp2
          have Hf := Lib.hid ha'
          have Hfine := Lib.hid hfine
          have HR : Hid (∀ w', Ext wc w' → w'.cell? ⟨b0, o0 + k, none⟩ = some (.int .i64 z)) := Lib.hid fun w' h => R0.out w' (heb'.trans h)
          have hex : Ext w wc := hext.trans heb'
          clear hp1 hp2 ha' hfine k0 k1 k2 k3 hst1 hst2 r2 hbox hbox' heb heb' R0 hext i0 i1 i2 i3
          go_wp2_with fail
          go_region_held3 (fun w' => Ext wc w')
            (first | assumption | exact Ext.refl _ | exact (Ext.refl _).drew | exact Ext.trans (by assumption) (by assumption))
            (first
              | (go_at_call 16; refine (Hp1.out _ (by assumption)).mono ?_; rintro e wa ⟨va, rfl, hsa, hea⟩)
              | (go_at_call 31; refine (Hp2.out _ (by assumption)).mono ?_; rintro e wb ⟨vb, rfl, hsb, heb⟩))
          have hwb : Ext wc wb := by assumption
          have hsa2 := hsa.ext heb
          have hc9 := HR.out wb hwb
          have hbw := (Ext.refl wb).lt (World.block_lt_of_cell? wb _ hc9)
          go_wp2_with fail
          refine (within_any _ 256 (by omega) (by omega) _).mono ?_
          rintro e w7 ⟨rfl, rfl⟩
          have E0 := fun w' (h : Ext wb w') => e0 w' (hwb.trans h)
          clear e0 e1 e2 e3 hc9 hea hsa Hp1 Hp2 HR
          generalize putR l a' = l2 at *
          have hneq := fun (x : Int) w => run_neq_acc (getR l2 x) (getR l2 x) w
          simp only [(Acc.eqB_iff _ _).2 rfl, Bool.not_true] at hneq
          have ht1 : (totL l2 != totL l2) = false := by simp
          have ht2 : (chk none 0 l2 != chk none 0 l2) = false := by simp
          have hl2 := Hf.out.len
          have HA := Lib.hid hsa2
          have HB := Lib.hid hsb
          clear hsa2 hsb
          go_wp2_with fail
          go_region_held3 (fun w' => Ext wb w')
            (first | assumption | exact Ext.refl _ | exact (Ext.refl _).drew | exact Ext.trans (by assumption) (by assumption))
            (first
              | (go_at_call 32; refine (rsame_v va vb l2 _ (HA.out.ext (by assumption)) (HB.out.ext (by assumption))).mono ?_; rintro e w8 ⟨rfl, he8⟩)
              | (go_at_call 20; refine (same_vv va vb l2 _ (HA.out.ext (by assumption)) (HB.out.ext (by assumption))).mono ?_; rintro e w8 ⟨rfl, he8⟩)
              | (go_at_call 18; refine (get_v va l2 _ _ (HA.out.ext (by assumption))).mono ?_; rintro e w8 ⟨rfl, he8⟩)
              | (go_at_call 33; refine (rget_v vb l2 _ _ (HB.out.ext (by assumption)) Hf.out.sorted).mono ?_; rintro e w8 ⟨rfl, he8⟩)
              | (go_at_call 19; refine (total_v va l2 _ (HA.out.ext (by assumption)) Hf.out.mild (by omega)).mono ?_; rintro e w8 ⟨rfl, he8⟩)
              | (go_at_call 34; refine (rtotal_v vb l2 _ (HB.out.ext (by assumption)) Hf.out.mild (by omega)).mono ?_; rintro e w8 ⟨rfl, he8⟩)
              | (go_at_call 28; refine (check_v va l2 _ (HA.out.ext (by assumption)) (by omega) (fun x hx => WalkArith.wf_i64 (by have := Hf.out.ids x hx; omega))).mono ?_; rintro e w8 ⟨rfl, he8⟩)
              | (go_at_call 29; refine (rcheck_v vb l2 _ (HB.out.ext (by assumption)) (by omega)).mono ?_; rintro e w8 ⟨rfl, he8⟩))
          have hw8 : Ext wb w8 := by assumption
          go_wp2_with fail
          go_roundw
          case rel => exact ⟨k + 1, l2, by omega, by go_num, HA.out.ext hw8, HB.out.ext hw8, Hf.out, hex.trans (hwb.trans hw8)⟩
          case measure => simp [intOf]; omega
    · by_cases h1 : k < n0
      · by_cases h2 : k < n1
        · have h3 : ¬ k < 60 := by omega
          clear hlt
          go_wp2_with fail
          go_ret
          exact ⟨rfl, hP.ext⟩
        · clear hlt
          go_wp2_with fail
          go_ret
          exact ⟨rfl, hP.ext⟩
      · clear hlt
        go_wp2_with fail
        go_ret
        exact ⟨rfl, hP.ext⟩
end Go.Proofs.Ytbijpbkekdeilaa
