/- The walk of StatePuts: what was put is got; the rest stays; for every input. -/
import Derived.Test.YtbijpbkekdeilaaStKnown
import Derived.Deep.RegionHeld3
import Derived.Deep.DeepCutAuto
import Derived.Deep.CutBlock
namespace Go.Proofs.Ytbijpbkekdeilaa
open Go.RowKit

/-- What the first loop has put. -/
structure Puts1 (w wr : World) (v : Value) (l : List Acc) : Prop where
  st : StV wr v l
  fine : Fine l
  bal : ∀ a ∈ l, a.non = 0 ∧ a.dat = 0
  ext : Ext w wr

set_option maxRecDepth 100000 in
set_option maxHeartbeats 1000000 in
theorem puts_walk (A0 : Option Addr) (n0 c0 : Nat) (zs : List Int) (i b : Int) (w : World) (hz : Nums .i64 w A0 n0 zs) (hn0 : n0 ≤ maxLen) :
    Calls Try.prog 3 #[.slice A0 n0 c0, .int .i64 i, .int .i64 b] w fun e w' => e = .returned (.bool true) ∧ Ext w w' := by
  unfold maxLen at hn0
  go_enter Try.func3, Try.ntmps3
  go_wp2_with fail
  refine (known8_any _).mono ?_
  rintro e w1 ⟨rfl, he1⟩
  go_upto_block 0 with fail
  go_cut [7] (fun s wr => ∃ (l : List Acc), Puts1 w wr s l)
  case first =>
    go_wp2_with fail
    go_loopw [7, 8] (fun s i wr => ∃ (k : Nat) (l : List Acc), k ≤ 20 ∧ i = .int .i64 k ∧ Puts1 w wr s l) (fun _ i _ => 21 - (intOf i).toNat)
    case atStart => exact ⟨0, [], by omega, rfl, StV.nil _, Fine.nil, by simp, he1⟩
    case round =>
      obtain ⟨k, l, hk, rfl, hP⟩ := hrel
      by_cases hlt : k < n0 ∧ k < 20
      · obtain ⟨g1, g2⟩ := hlt
        obtain ⟨b0, o0, rfl, hb0, hc0⟩ := (hz.ext hP.ext).at_ k g1
        have hmod : 0 ≤ (zs.getD k 0) % 256 ∧ (zs.getD k 0) % 256 < 256 := by omega
        go_wp2_with fail
        refine (within_any (zs.getD k 0) 256 (by omega) (by omega) wr).mono ?_
        rintro e w2 ⟨rfl, rfl⟩
        go_wp2_with fail
        refine (put_v u7 l ⟨_, _, _, _⟩ _ hP.st (by have := hP.fine.len; omega)).mono ?_
        rintro e w3 ⟨v3, rfl, hs3, he3⟩
        go_wp2_with fail
        go_roundw
        case rel => exact ⟨k + 1, _, by omega, by go_num, hs3, hP.fine.put hmod (by simp; omega), fun a ha => by
          rcases mem_putR _ _ _ ha with h | h | h
          · exact hP.bal a h.1
          · rw [h.1]; exact ⟨rfl, rfl⟩
          · exact hP.bal a h, hP.ext.trans he3⟩
        case measure => simp [intOf]; omega
      · go_wp2_with fail
        all_goals (go_meet; exact ⟨l, hP⟩)
  case rest =>
    obtain ⟨l, hP⟩ := hcut
    clear he1
    have hmod : 0 ≤ i % 256 ∧ i % 256 < 256 := by omega
    have hmod3 : 0 ≤ b % 3 ∧ b % 3 < 3 := by omega
    go_wp2_with fail
    refine (within_any i 256 (by omega) (by omega) wc).mono ?_
    rintro e w2 ⟨rfl, rfl⟩
    go_wp2_with fail
    refine (within_any b 3 (by omega) (by omega) wc).mono ?_
    rintro e w2 ⟨rfl, rfl⟩
    generalize i % 256 = xi at *
    generalize b % 3 = xb at *
    go_wp2_with fail
    refine (put_v u7 l ⟨xi, xb, 0, 0⟩ _ (hP.st.ext ((Ext.refl wc).alloc _)) (by have := hP.fine.len; omega)).mono ?_
    rintro e w3 ⟨v3, rfl, hs3, he3⟩
    have k0 : w3.cell? ⟨wc.heap.size, 0, none⟩ = some (.int .i64 xi) := he3.cell (box_cell wc _ _ 0 _ rfl)
    have k1 : w3.cell? ⟨wc.heap.size, 1, none⟩ = some (.int .i64 xb) := he3.cell (box_cell wc _ _ 1 _ rfl)
    have k2 : w3.cell? ⟨wc.heap.size, 2, none⟩ = some (.int .i64 0) := he3.cell (box_cell wc _ _ 2 _ rfl)
    have k3 : w3.cell? ⟨wc.heap.size, 3, none⟩ = some (.int .i64 0) := he3.cell (box_cell wc _ _ 3 _ rfl)
    have hex : Ext w w3 := hP.ext.trans (((Ext.refl wc).alloc _).trans he3)
    have hs7 := hP.st.ext (((Ext.refl wc).alloc _).trans he3)
    have hfine := hP.fine
    have hfine3 : Fine (putR l ⟨xi, xb, 0, 0⟩) := hfine.put hmod (by simp; omega)
    have hb3 : ∀ a ∈ putR l ⟨xi, xb, 0, 0⟩, a.non = 0 ∧ a.dat = 0 := fun a ha => by
      rcases mem_putR _ _ _ ha with h | h | h
      · exact hP.bal a h.1
      · rw [h.1]; exact ⟨rfl, rfl⟩
      · exact hP.bal a h
    have hget := get_put l ⟨xi, xb, 0, 0⟩ hfine.sorted
    have htot := tot_put l ⟨xi, xb, 0, 0⟩ hfine.sorted
    have Hget := Lib.hid hget
    have Htot := Lib.hid htot
    have hxsz : wc.heap.size < w3.heap.size := by have := he3.le; simp at this; omega
    clear hP hget htot he3
    generalize hT : putR l ⟨xi, xb, 0, 0⟩ = t at *
    clear hT
    go_upto_block 2 with fail
    go_cut [11] (fun _ wr => Ext w3 wr)
    case first =>
      go_wp2_with fail
      go_loopw [11] (fun i wr => ∃ (k : Nat), k ≤ 256 ∧ i = .int .i64 k ∧ Ext w3 wr) (fun i _ => 257 - (intOf i).toNat)
      case atStart => exact ⟨0, by omega, rfl, Ext.refl w3⟩
      case round =>
        obtain ⟨k, hk, rfl, he⟩ := hrel
        by_cases hlt : k < 256
        · have j0 := he.cell k0
          have j1 := he.cell k1
          have j2 := he.cell k2
          have j3 := he.cell k3
          go_wp2_with fail
          refine (get_v u7 l k wr (hs7.ext he)).mono ?_
          rintro e w4 ⟨rfl, he4⟩
          simp only [Acc.val]
          have i0 := he4.cell j0
          have i1 := he4.cell j1
          have i2 := he4.cell j2
          have i3 := he4.cell j3
          have hid := getR_id l k
          have hx4 := he4.lt (he.lt hxsz)
          have hw3 : Ext w3 w4 := he.trans he4
          clear he he4 j0 j1 j2 j3
          by_cases hkx : (k : Int) = xi
          · subst hkx
            have hg := Hget.out k
            rw [if_pos rfl] at hg
            have Hg := Lib.hid hg
            clear hg hid
            generalize getR l k = g at *
            go_wp2_with fail
            have hq := fun w => run_neq_acc ⟨k, xb, 0, 0⟩ ⟨k, xb, 0, 0⟩ w
            rw [(Acc.eqB_iff _ _).2 rfl] at hq
            simp only [Bool.not_true] at hq
            have hkk : ((k : Int) != (k : Int)) = false := by simp
            obtain ⟨w5, hw5⟩ : ∃ w5, w5 = w4.alloc (.cells #[.int .i64 k, .int .i64 xb, .int .i64 0, .int .i64 0] 29) := ⟨_, rfl⟩
            have h35 : Ext w3 w5 := by rw [hw5]; exact hw3.alloc _
            have e0 : ∀ w', Ext w5 w' → w'.cell? ⟨w4.heap.size, 0, none⟩ = some (.int .i64 k) := fun w' h => by rw [hw5] at h; exact h.cell (box_cell w4 _ _ 0 _ rfl)
            have e1 : ∀ w', Ext w5 w' → w'.cell? ⟨w4.heap.size, 1, none⟩ = some (.int .i64 xb) := fun w' h => by rw [hw5] at h; exact h.cell (box_cell w4 _ _ 1 _ rfl)
            have e2 : ∀ w', Ext w5 w' → w'.cell? ⟨w4.heap.size, 2, none⟩ = some (.int .i64 0) := fun w' h => by rw [hw5] at h; exact h.cell (box_cell w4 _ _ 2 _ rfl)
            have e3 : ∀ w', Ext w5 w' → w'.cell? ⟨w4.heap.size, 3, none⟩ = some (.int .i64 0) := fun w' h => by rw [hw5] at h; exact h.cell (box_cell w4 _ _ 3 _ rfl)
            rw [← hw5]
            clear hw5
            go_region_held3 (fun w' => Ext w5 w')
              (first | assumption | exact Ext.refl _ | exact (Ext.refl _).drew | exact Ext.trans (by assumption) (by assumption))
              (first | (go_at_call 18; refine (get_v v3 t k _ (hs3.ext (h35.trans (by assumption)))).mono ?_; rw [Hg.out]; rintro e w6 ⟨rfl, he6⟩))
            have h56 : Ext w5 w6 := (Ext.refl w5).drew.trans he6
            clear e0 e1 e2 e3 hq
            go_wp2_with fail
            go_roundw
            case rel => exact ⟨k + 1, by omega, by go_num, h35.trans h56⟩
            case measure => simp [intOf]; omega
          · have hne : ((k : Int) == xi) = false := by simpa using hkx
            have hg := Hget.out k
            rw [if_neg hkx] at hg
            have Hg := Lib.hid hg
            clear hg hkx
            generalize getR l k = g at *
            obtain ⟨gi, gb, gn, gd⟩ := g
            simp only at hid
            subst hid
            go_wp2_with fail
            have hq := fun w => run_neq_acc ⟨k, gb, gn, gd⟩ ⟨k, gb, gn, gd⟩ w
            rw [(Acc.eqB_iff _ _).2 rfl] at hq
            simp only [Bool.not_true] at hq
            have hkk : ((k : Int) != (k : Int)) = false := by simp
            obtain ⟨w5, hw5⟩ : ∃ w5, w5 = w4.alloc (.cells #[.int .i64 k, .int .i64 gb, .int .i64 gn, .int .i64 gd] 29) := ⟨_, rfl⟩
            have h35 : Ext w3 w5 := by rw [hw5]; exact hw3.alloc _
            have e0 : ∀ w', Ext w5 w' → w'.cell? ⟨w4.heap.size, 0, none⟩ = some (.int .i64 k) := fun w' h => by rw [hw5] at h; exact h.cell (box_cell w4 _ _ 0 _ rfl)
            have e1 : ∀ w', Ext w5 w' → w'.cell? ⟨w4.heap.size, 1, none⟩ = some (.int .i64 gb) := fun w' h => by rw [hw5] at h; exact h.cell (box_cell w4 _ _ 1 _ rfl)
            have e2 : ∀ w', Ext w5 w' → w'.cell? ⟨w4.heap.size, 2, none⟩ = some (.int .i64 gn) := fun w' h => by rw [hw5] at h; exact h.cell (box_cell w4 _ _ 2 _ rfl)
            have e3 : ∀ w', Ext w5 w' → w'.cell? ⟨w4.heap.size, 3, none⟩ = some (.int .i64 gd) := fun w' h => by rw [hw5] at h; exact h.cell (box_cell w4 _ _ 3 _ rfl)
            rw [← hw5]
            clear hw5
            go_region_held3 (fun w' => Ext w5 w')
              (first | assumption | exact Ext.refl _ | exact (Ext.refl _).drew | exact Ext.trans (by assumption) (by assumption))
              (first | (go_at_call 18; refine (get_v v3 t k _ (hs3.ext (h35.trans (by assumption)))).mono ?_; rw [Hg.out]; rintro e w6 ⟨rfl, he6⟩))
            have h56 : Ext w5 w6 := (Ext.refl w5).drew.trans he6
            clear e0 e1 e2 e3 hq
            go_wp2_with fail
            go_roundw
            case rel => exact ⟨k + 1, by omega, by go_num, h35.trans h56⟩
            case measure => simp [intOf]; omega
        · go_wp2_with fail
          go_meet
          exact he
    case rest =>
      rename_i wd
      obtain ⟨A3, c3, hv3, hc3, hm3, hst3⟩ := hs3
      rw [hv3]
      have hcut2 := hcut
      clear hcut
      go_upto_block 4 with fail
      go_cut [13] (fun _ wr => Ext w3 wr)
      case first =>
        go_wp2_with fail
        go_loopw [13] (fun i wr => ∃ (k : Nat), k ≤ t.length ∧ i = .int .i64 k ∧ Ext w3 wr) (fun i _ => t.length - (intOf i).toNat)
        case atStart => exact ⟨0, by omega, rfl, hcut2⟩
        case round =>
          obtain ⟨k, hk, rfl, he⟩ := hrel
          by_cases hlt : k < t.length
          · have hbal : (t[k].bal == 0) = false := by
              have h1 := hfine3.some t[k] (List.getElem_mem hlt)
              have h2 := hb3 t[k] (List.getElem_mem hlt)
              simp only [nn, noneB, h2.1, h2.2] at h1
              simpa using h1
            obtain ⟨bb, oo, hA, hbb, d0, d1, _, _⟩ := (hst3.ext he).at_ k hlt
            subst hA
            by_cases hk0 : k = 0
            · subst hk0
              have hd : decide ((0 : Int) < ((0 : Nat) : Int)) = false := rfl
              simp only [Nat.zero_mul, Nat.add_zero] at d0 d1
              go_wp2_with fail
              go_quiet (fail)
              go_wp2_with fail
              go_roundw
              case rel => exact ⟨1, by omega, by go_num, he.drewN _⟩
              case measure => simp [intOf]; omega
            · obtain ⟨j, rfl⟩ : ∃ j, k = j + 1 := ⟨k - 1, by omega⟩
              obtain ⟨b2, o2, hA2, _, f0, _, _, _⟩ := (hst3.ext he).at_ j (by omega)
              simp only [Option.some.injEq, Addr.mk.injEq, and_true] at hA2
              obtain ⟨rfl, rfl⟩ := hA2
              have hsrt : ¬ (t[j + 1].id ≤ t[j].id) := by
                have := List.pairwise_iff_getElem.1 hfine3.sorted j (j + 1) (by omega) hlt (by omega)
                omega
              have hd : decide ((0 : Int) < ((j : Int) + 1)) = true := by simp only [decide_eq_true_eq]; omega
              have hL := hfine3.len
              have hd1 : IntKind.i64.wrap ((j : Int) + 1 - 1) = (j : Int) := by rw [IntWalk.i64_in _ (by omega)]; omega
              have hge : decide (t[j].id ≥ t[j + 1].id) = false := by simp; omega
              go_wp2_with fail
              go_quiet (fail)
              go_wp2_with fail
              go_roundw
              case rel => exact ⟨j + 1 + 1, by omega, by go_num, he.drewN _⟩
              case measure => simp [intOf]; omega
          · go_wp2_with fail
            go_meet
            exact he
      case rest =>
        have q0 : ∀ w', Ext w3 w' → w'.cell? ⟨_, 0, none⟩ = some (.int .i64 xi) := fun w' h => h.cell k0
        have q1 : ∀ w', Ext w3 w' → w'.cell? ⟨_, 1, none⟩ = some (.int .i64 xb) := fun w' h => h.cell k1
        have hgb := hfine.get_bd xi
        have htb := totL_bd l hfine.mild
        have hll := hfine.len
        obtain ⟨g1, g2⟩ := hgb
        obtain ⟨g3, g4⟩ := htb
        have g5 : -1152921504606846976 ≤ totL l := by omega
        have g6 : totL l ≤ 1152921504606846976 := by omega
        have heq : (totL t == totL l - (getR l xi).bal + xb) = true := by rw [Htot.out]; simp
        have hw1 : IntKind.i64.wrap (totL l - (getR l xi).bal) = totL l - (getR l xi).bal := IntWalk.i64_in _ (by omega)
        have hw2 : IntKind.i64.wrap (totL l - (getR l xi).bal + xb) = totL l - (getR l xi).bal + xb := IntWalk.i64_in _ (by omega)
        have hfld := field_bal
        have Hmild := Lib.hid hfine.mild
        have Hmild3 := Lib.hid hfine3.mild
        have Hlen3 := Lib.hid hfine3.len
        have Hlen := Lib.hid hfine.len
        have Hs7 := Lib.hid hs7
        have Hst3 := Lib.hid hst3
        clear g3 g4 hfine hfine3 hb3 hst3 hs7 hll
        go_wp2_with fail
        go_region_held3 (fun w' => Ext w3 w')
          (first | assumption | exact Ext.refl _ | exact (Ext.refl _).drew | exact Ext.trans (by assumption) (by assumption) | exact Ext.drew (by assumption))
          (first
            | (go_at_call_of 19 (u7); refine (total_v u7 l _ (Hs7.out.ext (by assumption)) Hmild.out (by have := Hlen.out; omega)).mono ?_; rintro e w6 ⟨rfl, he6⟩)
            | (go_at_call 19; refine (total_any A3 _ c3 t _ (Hst3.out.ext (by assumption)) Hmild3.out (by have := Hlen3.out; omega)).mono ?_; rintro e w6 ⟨rfl, he6⟩)
            | (go_at_call 18; refine (get_v u7 l xi _ (Hs7.out.ext (by assumption))).mono ?_; rintro e w6 ⟨rfl, he6⟩))
        go_wp2_with fail
        go_ret
        exact ⟨rfl, hex.trans (by assumption)⟩
end Go.Proofs.Ytbijpbkekdeilaa
