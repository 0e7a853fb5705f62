/- The walk of StateSames: two states that differ in one number are not the same. -/
import Derived.Test.YtbijpbkekdeilaaStKnown
import Derived.Deep.RegionHeld3
import Derived.Deep.DeepCutAuto
import Derived.Deep.CutBlock
namespace Go.Proofs.Ytbijpbkekdeilaa
set_option linter.unusedVariables false
open Go.RowKit

/-- What the loop has put, twice. -/
structure Sames1 (w wr : World) (u v : Value) (l : List Acc) : Prop where
  st1 : StV wr u l
  st2 : StV wr v l
  fine : Fine l
  bals : ∀ a ∈ l, a.non = 0 ∧ a.dat = 0 ∧ 0 ≤ a.bal ∧ a.bal ≤ 20
  ext : Ext w wr

set_option maxRecDepth 100000 in
set_option maxHeartbeats 1000000 in
theorem sames_walk (A0 : Option Addr) (n0 c0 : Nat) (zs : List Int) (i b : Int) (w : World) (hz : Nums .i64 w A0 n0 zs) (hn0 : n0 ≤ maxLen) :
    Calls Try.prog 4 #[.slice A0 n0 c0, .int .i64 i, .int .i64 b] w fun e w' => e = .returned (.bool true) ∧ Ext w w' := by
  unfold maxLen at hn0
  go_enter Try.func4, Try.ntmps4
  go_wp2_with fail
  refine (known8_any _).mono ?_
  rintro e w1 ⟨rfl, he1⟩
  go_upto_block 0 with fail
  go_cut [7, 8] (fun s t wr => ∃ (l : List Acc), Sames1 w wr s t l)
  case first =>
    go_wp2_with fail
    go_loopw [7, 8, 9] (fun s t i wr => ∃ (k : Nat) (l : List Acc), k ≤ 15 ∧ i = .int .i64 k ∧ Sames1 w wr s t l) (fun _ _ i _ => 16 - (intOf i).toNat)
    case atStart => exact ⟨0, [], by omega, rfl, StV.nil _, StV.nil _, Fine.nil, by simp, he1⟩
    case round =>
      obtain ⟨k, l, hk, rfl, hP⟩ := hrel
      by_cases hlt : k < n0 ∧ k < 15
      · obtain ⟨g1, g2⟩ := hlt
        obtain ⟨b0, o0, rfl, hb0, hc0⟩ := (hz.ext hP.ext).at_ k g1
        have hmod : 0 ≤ (zs.getD k 0) % 256 ∧ (zs.getD k 0) % 256 < 256 := by omega
        go_wp2_with fail
        refine (within_any (zs.getD k 0) 256 (by omega) (by omega) wr).mono ?_
        rintro e w2 ⟨rfl, rfl⟩
        generalize (zs.getD k 0) % 256 = xi at *
        go_wp2_with fail
        obtain ⟨w5, hw5⟩ : ∃ w5, w5 = wr.alloc (.cells #[.int .i64 xi, .int .i64 (1 + k), .int .i64 0, .int .i64 0] 29) := ⟨_, rfl⟩
        have h35 : Ext wr w5 := by rw [hw5]; exact (Ext.refl _).alloc _
        have e0 : ∀ w', Ext w5 w' → w'.cell? ⟨wr.heap.size, 0, none⟩ = some (.int .i64 xi) := fun w' h => by rw [hw5] at h; exact h.cell (box_cell wr _ _ 0 _ rfl)
        have e1 : ∀ w', Ext w5 w' → w'.cell? ⟨wr.heap.size, 1, none⟩ = some (.int .i64 (1 + k)) := fun w' h => by rw [hw5] at h; exact h.cell (box_cell wr _ _ 1 _ rfl)
        have e2 : ∀ w', Ext w5 w' → w'.cell? ⟨wr.heap.size, 2, none⟩ = some (.int .i64 0) := fun w' h => by rw [hw5] at h; exact h.cell (box_cell wr _ _ 2 _ rfl)
        have e3 : ∀ w', Ext w5 w' → w'.cell? ⟨wr.heap.size, 3, none⟩ = some (.int .i64 0) := fun w' h => by rw [hw5] at h; exact h.cell (box_cell wr _ _ 3 _ rfl)
        rw [← hw5]
        clear hw5
        have hp1 := fun w' (h : Ext w5 w') => put_v u7 l ⟨xi, 1 + k, 0, 0⟩ w' (hP.st1.ext (h35.trans h)) (by have := hP.fine.len; omega)
        have hp2 := fun w' (h : Ext w5 w') => put_v u8 l ⟨xi, 1 + k, 0, 0⟩ w' (hP.st2.ext (h35.trans h)) (by have := hP.fine.len; omega)
        have Hp1 := Lib.hid hp1
        have Hp2 := Lib.hid hp2
        clear hp1 hp2
        go_region_held3 (fun w' => Ext w5 w')
          (first | assumption | exact Ext.refl _ | exact (Ext.refl _).drew | exact Ext.trans (by assumption) (by assumption))
          (first
            | (go_at_call_of 16 (u7); refine (Hp1.out _ (by assumption)).mono ?_; rintro e wa ⟨va, rfl, hsa, hea⟩)
            | (go_at_call_of 16 (u8); refine (Hp2.out _ (by assumption)).mono ?_; rintro e wb ⟨vb, rfl, hsb, heb⟩))
        have hwb : Ext w5 wb := by assumption
        clear e0 e1 e2 e3
        go_wp2_with fail
        go_roundw
        case rel => exact ⟨k + 1, _, by omega, by go_num, hsa.ext heb, hsb, hP.fine.put hmod (by simp; omega), fun a ha => by
          rcases mem_putR _ _ _ ha with h | h | h
          · exact hP.bals a h.1
          · rw [h.1]; exact ⟨rfl, rfl, by simp; omega, by simp; omega⟩
          · exact hP.bals a h, hP.ext.trans (h35.trans hwb)⟩
        case measure => simp [intOf]; omega
      · go_wp2_with fail
        all_goals (go_meet; exact ⟨l, hP⟩)
  case rest =>
    obtain ⟨l, hP⟩ := hcut
    go_wp2_with fail
    have hs := same_v u7 u8 l l _ hP.st1 hP.st2
    rw [sameL_self] at hs
    refine hs.mono ?_
    rintro e w2 ⟨rfl, he2⟩
    clear hs
    have hfine := hP.fine
    have hbals := hP.bals
    have hs1 := hP.st1.ext he2
    obtain ⟨A8, c8, hv8, hc8, hm8, hst8⟩ := hP.st2.ext he2
    have hex := hP.ext.trans he2
    rw [hv8]
    clear hP he2 he1
    have hll := hfine.len
    by_cases hl0 : l = []
    · subst hl0
      go_wp2_with fail
      have hbox := box_rs w2 29 4 (Acc.cells ⟨1, 0, 0, 1⟩) 1 rfl
      have hs := same_v u7 (.slice (some ⟨w2.heap.size, 0, none⟩) 1 1) [] [⟨1, 0, 0, 1⟩] _ (hs1.ext ((Ext.refl _).alloc (.cells (Acc.cells ⟨1, 0, 0, 1⟩).toArray 29))) ⟨_, 1, rfl, Nat.le_refl _, by simp [maxLen], rfl, hbox⟩
      refine hs.mono ?_
      rintro e w3 ⟨rfl, he3⟩
      have hf : sameL [] [⟨1, 0, 0, 1⟩] = false := rfl
      clear hs
      go_wp2_with fail
      go_ret
      exact ⟨rfl, hex.trans (((Ext.refl _).alloc _).trans he3)⟩
    · have hpos : 0 < l.length := List.length_pos_iff.2 hl0
      have hne0 : ((l.length : Int) == 0) = false := by simp; omega
      have hmod : 0 ≤ i % (l.length : Int) ∧ i % (l.length : Int) < l.length := ⟨Int.emod_nonneg _ (by omega), Int.emod_lt_of_pos _ (by omega)⟩
      go_wp2_with fail
      refine (within_any i l.length (by omega) (by omega) _).mono ?_
      rintro e w3 ⟨rfl, rfl⟩
      obtain ⟨k, hk⟩ := Int.eq_ofNat_of_zero_le hmod.1
      rw [hk] at hmod ⊢
      have hkl : k < l.length := by omega
      clear hmod hk
      have m1 : 0 + l.length ≤ maxLen := by unfold maxLen; omega
      have m2 : (0 + l.length) * 32 ≤ 140737488355328 := by omega
      have hst8' := (hst8.ext ((Ext.refl w2).alloc (.cells #[] 29))).2
      go_wp2_with (at_builtin; refine wpList_append_Own rfl (.tmp 54) (.tmp 55) _ rfl w2.heap.size acc_elem rfl (Own.nil _ _ _ _ _) rfl hst8' (accs_one _) m1 m2 ?_ ?_)
      · simp
      intro A9 c9 w9 ho9 hg9
      have he9 : Ext w2 w9 := ((Ext.refl w2).alloc _).grown hg9 (fun k h => by simp [rowOf] at h)
      obtain ⟨g, rfl, hg, hgl, hcell, hfr⟩ := ho9.pos hpos
      obtain ⟨t0, t1, t2, t3⟩ := accs_get l k hkl
      rw [Nat.mul_comm] at t0 t1 t2 t3
      have d1 := hcell _ _ t1
      have d2 := hcell _ _ t2
      have d3 := hcell _ _ t3
      have f1 := hfr (k * 4 + 1)
      have f2 := hfr (k * 4 + 2)
      have f3 := hfr (k * 4 + 3)
      have hbk := hbals l[k] (List.getElem_mem hkl)
      obtain ⟨b1, b2, b3, b4⟩ := hbk
      have b5 : 0 ≤ l[k].non := by omega
      have b6 : l[k].non ≤ 0 := by omega
      have b7 : 0 ≤ l[k].dat := by omega
      have b8 : l[k].dat ≤ 0 := by omega
      clear b1 b2
      have hmod4 : 0 ≤ b % 4 ∧ b % 4 < 4 := by omega
      clear t0 t1 t2 t3 hcell hfr hbals hfine
      go_wp2_with fail
      refine (within_any b 4 (by omega) (by omega) _).mono ?_
      rintro e w3 ⟨rfl, rfl⟩
      generalize b % 4 = r at *
      have hr4 : r = 0 ∨ r = 1 ∨ r = 2 ∨ r = 3 := by omega
      rcases hr4 with hr | hr | hr | hr
      · subst hr
        have hset := Lib.hid (accs_set_bal l k hkl (l[k].bal + 1))
        have hdif : l.set k { l[k] with bal := l[k].bal + 1 } ≠ l := set_ne hkl (fun h => by have := congrArg Acc.bal h; simp at this; omega)
        have Hd := Lib.hid hdif
        have ho10 := ho9.set_ hpos (k * 4 + 1) (by omega) (.int .i64 (l[k].bal + 1))
        rw [← hset.out] at ho10
        have he10 : Ext w2 (w9.setCell ⟨g, k * 4 + 1, none⟩ (.int .i64 (l[k].bal + 1))) := he9.setCell hg _
        have hlen : Hid ((l.set k { l[k] with bal := l[k].bal + 1 }).length = l.length) := by rw [List.length_set]; exact Lib.hid rfl
        generalize l.set k { l[k] with bal := l[k].bal + 1 } = l2 at *
        have hst10 : StV _ (.slice (some ⟨g, 0, none⟩) l.length c9) l2 := StV.own hlen.out ho10
        have Hst := Lib.hid hst10
        clear ho10 hdif
        go_wp2_with fail
        have hs := same_v u7 (.slice (some ⟨g, 0, none⟩) l.length c9) l l2 _ (hs1.ext he10) Hst.out
        rw [sameL_ne (fun h => Hd.out h.symm)] at hs
        refine hs.mono ?_
        rintro e w11 ⟨rfl, he11⟩
        clear hs
        go_wp2_with fail
        have hs := same_v (.slice (some ⟨g, 0, none⟩) l.length c9) u7 l2 l _ (Hst.out.ext he11) (hs1.ext (he10.trans he11))
        rw [sameL_ne Hd.out] at hs
        refine hs.mono ?_
        rintro e w12 ⟨rfl, he12⟩
        clear hs
        go_wp2_with fail
        go_ret
        exact ⟨rfl, hex.trans (he10.trans (he11.trans he12))⟩
      · subst hr
        have hset := Lib.hid (accs_set_non l k hkl (l[k].non + 1))
        have hdif : l.set k { l[k] with non := l[k].non + 1 } ≠ l := set_ne hkl (fun h => by have := congrArg Acc.non h; simp at this; omega)
        have Hd := Lib.hid hdif
        have ho10 := ho9.set_ hpos (k * 4 + 2) (by omega) (.int .i64 (l[k].non + 1))
        rw [← hset.out] at ho10
        have he10 : Ext w2 (w9.setCell ⟨g, k * 4 + 2, none⟩ (.int .i64 (l[k].non + 1))) := he9.setCell hg _
        have hlen : Hid ((l.set k { l[k] with non := l[k].non + 1 }).length = l.length) := by rw [List.length_set]; exact Lib.hid rfl
        generalize l.set k { l[k] with non := l[k].non + 1 } = l2 at *
        have hst10 : StV _ (.slice (some ⟨g, 0, none⟩) l.length c9) l2 := StV.own hlen.out ho10
        have Hst := Lib.hid hst10
        clear ho10 hdif
        go_wp2_with fail
        have hs := same_v u7 (.slice (some ⟨g, 0, none⟩) l.length c9) l l2 _ (hs1.ext he10) Hst.out
        rw [sameL_ne (fun h => Hd.out h.symm)] at hs
        refine hs.mono ?_
        rintro e w11 ⟨rfl, he11⟩
        clear hs
        go_wp2_with fail
        have hs := same_v (.slice (some ⟨g, 0, none⟩) l.length c9) u7 l2 l _ (Hst.out.ext he11) (hs1.ext (he10.trans he11))
        rw [sameL_ne Hd.out] at hs
        refine hs.mono ?_
        rintro e w12 ⟨rfl, he12⟩
        clear hs
        go_wp2_with fail
        go_ret
        exact ⟨rfl, hex.trans (he10.trans (he11.trans he12))⟩
      · subst hr
        have hset := Lib.hid (accs_set_dat l k hkl (l[k].dat + 1))
        have hdif : l.set k { l[k] with dat := l[k].dat + 1 } ≠ l := set_ne hkl (fun h => by have := congrArg Acc.dat h; simp at this; omega)
        have Hd := Lib.hid hdif
        have ho10 := ho9.set_ hpos (k * 4 + 3) (by omega) (.int .i64 (l[k].dat + 1))
        rw [← hset.out] at ho10
        have he10 : Ext w2 (w9.setCell ⟨g, k * 4 + 3, none⟩ (.int .i64 (l[k].dat + 1))) := he9.setCell hg _
        have hlen : Hid ((l.set k { l[k] with dat := l[k].dat + 1 }).length = l.length) := by rw [List.length_set]; exact Lib.hid rfl
        generalize l.set k { l[k] with dat := l[k].dat + 1 } = l2 at *
        have hst10 : StV _ (.slice (some ⟨g, 0, none⟩) l.length c9) l2 := StV.own hlen.out ho10
        have Hst := Lib.hid hst10
        clear ho10 hdif
        go_wp2_with fail
        have hs := same_v u7 (.slice (some ⟨g, 0, none⟩) l.length c9) l l2 _ (hs1.ext he10) Hst.out
        rw [sameL_ne (fun h => Hd.out h.symm)] at hs
        refine hs.mono ?_
        rintro e w11 ⟨rfl, he11⟩
        clear hs
        go_wp2_with fail
        have hs := same_v (.slice (some ⟨g, 0, none⟩) l.length c9) u7 l2 l _ (Hst.out.ext he11) (hs1.ext (he10.trans he11))
        rw [sameL_ne Hd.out] at hs
        refine hs.mono ?_
        rintro e w12 ⟨rfl, he12⟩
        clear hs
        go_wp2_with fail
        go_ret
        exact ⟨rfl, hex.trans (he10.trans (he11.trans he12))⟩
      · subst hr
        have hdif : l.take (l.length - 1) ≠ l := fun h => by have := congrArg List.length h; simp at this; omega
        have Hd := Lib.hid hdif
        have hlen : Hid ((l.take (l.length - 1)).length = l.length - 1) := by rw [List.length_take]; exact Lib.hid (by omega)
        have hrs : St w9 (some ⟨g, 0, none⟩) (l.length - 1) (l.take (l.length - 1)) := St.take (n := l.length) ⟨rfl, ho9.rs⟩ (by omega)
        have hst10 : StV w9 (.slice (some ⟨g, 0, none⟩) (l.length - 1) c9) (l.take (l.length - 1)) := ⟨_, c9, by rw [hlen.out], by have := ho9.2.1; rw [hlen.out]; omega, ho9.2.2.1, by rw [hlen.out]; exact hrs⟩
        have Hst := Lib.hid hst10
        have hc9 := ho9.2.1
        obtain ⟨q, hq⟩ : ∃ q, l.length = q + 1 := ⟨l.length - 1, by omega⟩
        have hq1 : IntKind.i64.wrap ((l.length : Int) - 1) = ((l.length - 1 : Nat) : Int) := by rw [IntWalk.i64_in _ (by omega)]; omega
        have hq2 : (l.length : Int) - 1 = ((l.length - 1 : Nat) : Int) := by omega
        have hq3 : ((l.length - 1 : Nat) : Int) ≤ (c9 : Int) := by omega
        have hq4 : (0 : Int) ≤ ((l.length - 1 : Nat) : Int) := by omega
        clear hdif hrs hst10 hq
        generalize l.take (l.length - 1) = l2 at *
        generalize l.length - 1 = q2 at *
        go_wp2_with fail
        have hs := same_v u7 (.slice (some ⟨g, 0, none⟩) q2 c9) l l2 _ (hs1.ext he9) Hst.out
        rw [sameL_ne (fun h => Hd.out h.symm)] at hs
        refine hs.mono ?_
        rintro e w11 ⟨rfl, he11⟩
        clear hs
        go_wp2_with fail
        have hs := same_v (.slice (some ⟨g, 0, none⟩) q2 c9) u7 l2 l _ (Hst.out.ext he11) (hs1.ext (he9.trans he11))
        rw [sameL_ne Hd.out] at hs
        refine hs.mono ?_
        rintro e w12 ⟨rfl, he12⟩
        clear hs
        go_wp2_with fail
        go_ret
        exact ⟨rfl, hex.trans (he9.trans (he11.trans he12))⟩
end Go.Proofs.Ytbijpbkekdeilaa
