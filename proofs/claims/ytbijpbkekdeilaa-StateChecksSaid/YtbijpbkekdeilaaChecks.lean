/- The walk of StateChecks: any accounts are checked as the document says; such as may be, with one thing turned, too. -/
import Derived.Test.YtbijpbkekdeilaaPlays
import Derived.Test.YtbijpbkekdeilaaMem2
import Derived.Deep.CutBlock
import Derived.StillTailTactics
namespace Go.Proofs.Ytbijpbkekdeilaa
set_option linter.unusedVariables false
open Go.RowKit

/-- The accounts that the loop makes: behind k of them. -/
structure Made8 (w wr : World) (v : Value) (k : Nat) (l : List Acc) : Prop where
  st : OwnV wr w.heap.size v l
  len : l.length = k
  ext : Ext w wr
  srt : Hid (Sorted l ∧ (∀ a ∈ l, a.id < 20 * k) ∧ (∀ a ∈ l, 0 ≤ a.id ∧ a.id < 240) ∧ (∀ a ∈ l, 0 ≤ a.bal ∧ a.bal ≤ 999 ∧ 0 ≤ a.non ∧ a.non ≤ 8 ∧ 1 ≤ a.dat))
theorem Made8.check {w wr : World} {v : Value} {k : Nat} {l : List Acc} (h : Made8 w wr v k l) (hk : k ≤ 12) : chk none 0 l = 0 := by
  obtain ⟨h1, _, h2, h3⟩ := h.srt.out
  refine chk_fine l h1 (fun a ha => by have := h2 a ha; omega) (fun a ha => by have := h3 a ha; simp [nn, noneB]; omega) (fun a ha => by have := h3 a ha; omega) _ _ (fun q hq => by cases hq) ?_
  have : ∀ r : List Acc, (∀ a ∈ r, a.bal ≤ 999) → totL r ≤ 999 * (r.length : Int) := fun r => by
    induction r with
    | nil => intro; simp [totL]
    | cons b r ih => intro h; have := ih (fun x hx => h x (by simp [hx])); have := h b (by simp); simp only [totL, List.map_cons, List.sum_cons, List.length_cons] at *; omega
  have h4 := this l (fun a ha => (h3 a ha).2.1)
  have := h.len
  omega

theorem two_set {w : World} {B g c : Nat} {e : TypeId} {x : List Acc} (ho : Own w B e 4 (some ⟨g, 0, none⟩) x.length c (accs x)) (hp : 0 < x.length) (k : Nat) (hk : k < x.length) (hwx : ∀ a ∈ x, (Lit.int .i64 a.id).wf = true) (v1 v2 : Int) :
    ∃ l2 : List Acc, l2.length = x.length ∧ (∀ a ∈ l2, (Lit.int .i64 a.id).wf = true) ∧ Own ((w.setCell ⟨g, k * 4 + 1, none⟩ (.int .i64 v1)).setCell ⟨g, 1, none⟩ (.int .i64 v2)) B e 4 (some ⟨g, 0, none⟩) x.length c (accs l2) := by
  have h1 := ho.set_ hp (k * 4 + 1) (by omega) (.int .i64 v1)
  rw [← accs_set_bal x k hk v1] at h1
  have hl : (x.set k { x[k] with bal := v1 }).length = x.length := by simp
  have hw : ∀ a ∈ x.set k { x[k] with bal := v1 }, (Lit.int .i64 a.id).wf = true := fun a ha => by
    rcases List.mem_or_eq_of_mem_set ha with h | h
    · exact hwx a h
    · rw [h]; exact hwx x[k] (List.getElem_mem hk)
  generalize x.set k { x[k] with bal := v1 } = y at *
  have hy : 0 < y.length := by omega
  have h2 := h1.set_ hp 1 (by omega) (.int .i64 v2)
  have e2 := accs_set_bal y 0 hy v2
  simp only [Nat.zero_mul, Nat.zero_add] at e2
  rw [← e2] at h2
  exact ⟨_, by rw [List.length_set]; exact hl, fun a ha => by
    rcases List.mem_or_eq_of_mem_set ha with h | h
    · exact hw a h
    · rw [h]; exact hw y[0] (List.getElem_mem hy), h2⟩

set_option maxRecDepth 100000 in
set_option maxHeartbeats 4000000 in
theorem checks_walk (A0 : Option Addr) (n0 c0 : Nat) (l : List Acc) (which at_ n : Int) (w : World) (hs : St w A0 n0 l) (hc : n0 ≤ c0) (hm : c0 ≤ maxLen) (hwf : ∀ a ∈ l, (Lit.int .i64 a.id).wf = true) (hwn : (Lit.int .i64 n).wf = true) :
    Calls Try.prog 6 #[.slice A0 n0 c0, .int .i64 which, .int .i64 at_, .int .i64 n] w fun e w' => e = .returned (.bool true) ∧ Ext w w' := by
  unfold maxLen at hm
  have hl := hs.1
  by_cases hbig : 30 < n0
  · have hd : decide ((n0 : Int) > 30) = true := by simp; omega
    go_enter Try.func6, Try.ntmps6
    go_wp2_with fail
    refine (known8_any _).mono ?_
    rintro e w1 ⟨rfl, he1⟩
    go_wp2_with fail
    go_ret
    exact ⟨rfl, he1⟩
  have hne : (chk none 0 l != chk none 0 l) = false := by simp
  have hp := hs.at_
  have Hs := Lib.hid hs
  have Hp := Lib.hid hp
  have Hwf := Lib.hid hwf
  clear hs hp hwf
  go_enter Try.func6, Try.ntmps6
  go_wp2_with fail
  refine (known8_any _).mono ?_
  rintro e w1 ⟨rfl, he1⟩
  go_wp2_with fail
  refine (check_any A0 n0 c0 l _ (Hs.out.ext he1) (by omega) Hwf.out).mono ?_
  rintro e w2 ⟨rfl, he2⟩
  go_wp2_with fail
  refine (rcheck_any A0 n0 c0 l _ (Hs.out.ext (he1.trans he2)) (by omega)).mono ?_
  rintro e w3 ⟨rfl, he3⟩
  have hex : Ext w w3 := he1.trans (he2.trans he3)
  clear he1 he2 he3 hne
  go_upto_block 0 with fail
  go_cut [9] (fun s wr => ∃ (k : Nat) (x : List Acc), k ≤ 12 ∧ Made8 w wr s k x)
  case first =>
    go_wp2_with fail
    go_loopw [9, 10] (fun s i wr => ∃ (k : Nat) (x : List Acc), k ≤ 12 ∧ i = .int .i64 k ∧ Made8 w wr s k x) (fun _ i _ => 13 - (intOf i).toNat)
    case atStart => exact ⟨0, [], by omega, rfl, OwnV.nil _ _, rfl, hex, Lib.hid ⟨List.Pairwise.nil, by simp, by simp, by simp⟩⟩
    case round =>
      obtain ⟨k, x, hk, rfl, hM⟩ := hrel
      by_cases hlt : k < n0 ∧ k < 12
      · obtain ⟨g1, g2⟩ := hlt
        obtain ⟨b0, o0, rfl, hb0, d0, d1, d2, d3⟩ := Hp.out k (by omega)
        have hbr := hM.ext.lt hb0
        generalize l[k]'(by omega) = a at *
        obtain ⟨ai, ab, an, ad⟩ := a
        simp only at d0 d1 d2 d3
        have m0 := Int.emod_nonneg ab (b := 1000) (by omega)
        have m1 := Int.emod_lt_of_pos ab (b := 1000) (by omega)
        have m2 := Int.emod_nonneg an (b := 9) (by omega)
        have m3 := Int.emod_lt_of_pos an (b := 9) (by omega)
        have m4 := Int.emod_nonneg ad (b := 9) (by omega)
        have m5 := Int.emod_lt_of_pos ad (b := 9) (by omega)
        go_wp2_with fail
        obtain ⟨A9, c9, hv9, ho9⟩ := hM.st
        rw [hv9]
        have hll := hM.len
        have hle := hM.ext.le
        have s1 : x.length + 1 ≤ maxLen := by unfold maxLen; omega
        have s2 : (x.length + 1) * 32 ≤ 140737488355328 := by omega
        have Hll := Lib.hid hll
        clear hll
        have e1 : ∀ w', Ext w w' → w'.cell? ⟨b0, o0 + k * 4 + 1, none⟩ = some (.int .i64 ab) := fun w' h => h.cell d1
        have e2 : ∀ w', Ext w w' → w'.cell? ⟨b0, o0 + k * 4 + 2, none⟩ = some (.int .i64 an) := fun w' h => h.cell d2
        have e3 : ∀ w', Ext w w' → w'.cell? ⟨b0, o0 + k * 4 + 3, none⟩ = some (.int .i64 ad) := fun w' h => h.cell d3
        have hki : (0 : Int) ≤ (k : Int) := by omega
        have hkn : (k : Int) < (n0 : Int) := by omega
        have hk20 : IntKind.i64.wrap (20 * (k : Int)) = 20 * (k : Int) := IntWalk.i64_in _ (by omega)
        have hw1 : IntKind.i64.wrap (1 + ad % 9) = 1 + ad % 9 := IntWalk.i64_in _ (by omega)
        clear d0 d1 d2 d3
        have hMe := hM.ext
        go_region_held3 (fun w' => Ext w w')
          (first | assumption | (repeat (first | assumption | exact Ext.refl _ | refine Ext.drew ?_ | refine Ext.alloc ?_ _)))
          (first
            | (go_at_call 17; refine (within_any _ _ (by omega) (by omega) _).mono ?_; rintro e w' ⟨rfl, rfl⟩)
            | (refine step_append_Own rfl (.tmp 32) (.tmp 55) _ rfl w.heap.size acc_elem rfl (ho9.ext ((Ext.refl wr).drew.alloc _)) rfl (box_rs _ _ 4 (Acc.cells ⟨20 * k, ab % 1000, an % 9, 1 + ad % 9⟩) 1 rfl) (Acc.cells_one _) s1 s2 ?_ ?_; (simp; omega); intro A5 c5 w5 ho5 hg5; have hk5 : Ext w w5 := (hM.ext.drew.alloc _).grown hg5 (fun j h => (ho9.row j h).1)))
        have hw5 : Ext w w5 := hk5
        go_wp2_with fail
        go_roundw
        case rel =>
          obtain ⟨q1, q2, q3, q4⟩ := hM.srt.out
          refine ⟨k + 1, x ++ [⟨20 * k, ab % 1000, an % 9, 1 + ad % 9⟩], by omega, by go_num, ⟨_, _, by rw [List.length_append]; rfl, ?_⟩, by rw [List.length_append, Hll.out]; rfl, hw5, Lib.hid ⟨?_, ?_, ?_, ?_⟩⟩
          · rw [accs_append, List.length_append]; exact ho5
          · refine List.pairwise_append.2 ⟨q1, by simp, fun a ha b hb => ?_⟩
            rw [List.mem_singleton.1 hb]; exact q2 a ha
          · intro a ha
            rcases List.mem_append.1 ha with h | h
            · have := q2 a h; omega
            · rw [List.mem_singleton.1 h]; simp only; omega
          · intro a ha
            rcases List.mem_append.1 ha with h | h
            · exact q3 a h
            · rw [List.mem_singleton.1 h]; simp only; omega
          · intro a ha
            rcases List.mem_append.1 ha with h | h
            · exact q4 a h
            · rw [List.mem_singleton.1 h]; simp only; omega
        case measure => simp [intOf]; omega
      · go_wp2_with fail
        all_goals (go_meet; exact ⟨k, x, hk, hM⟩)
  case rest =>
    obtain ⟨k, x, hk, hM⟩ := hcut
    have hchk := hM.check hk
    have hwx : ∀ a ∈ x, (Lit.int .i64 a.id).wf = true := fun a ha => WalkArith.wf_i64 (by have := hM.srt.out.2.2.1 a ha; omega)
    have hc1 := check_v u9 x wc hM.st.st (by have := hM.len; omega) hwx
    rw [hchk] at hc1
    go_wp2_with fail
    refine hc1.mono ?_
    rintro e w5 ⟨rfl, he5⟩
    clear hc1 hchk
    obtain ⟨A9, c9, hv9, ho9⟩ := hM.st.ext he5
    rw [hv9]
    have hex9 := hM.ext.trans he5
    have hxl : x.length ≤ 12 := by have := hM.len; omega
    have Hwx := Lib.hid hwx
    have hsrt := hM.srt
    clear hM he5 hwx
    by_cases hx0 : x = []
    · have hlx : ((x.length : Int) == 0) = true := by simp [hx0]
      clear hx0
      go_wp2_with fail
      go_ret
      exact ⟨rfl, hex9⟩
    have hpos : 0 < x.length := List.length_pos_iff.2 hx0
    have hlx : ((x.length : Int) == 0) = false := by simp; omega
    have hmod : 0 ≤ at_ % (x.length : Int) ∧ at_ % (x.length : Int) < x.length := ⟨Int.emod_nonneg _ (by omega), Int.emod_lt_of_pos _ (by omega)⟩
    clear hx0
    go_wp2_with fail
    refine (within_any at_ x.length (by omega) (by omega) _).mono ?_
    rintro e w6 ⟨rfl, rfl⟩
    obtain ⟨k5, hk5e⟩ := Int.eq_ofNat_of_zero_le hmod.1
    rw [hk5e] at hmod ⊢
    have hk5 : k5 < x.length := by omega
    clear hmod hk5e
    obtain ⟨g, rfl, hg, hgl, hcell, hfr⟩ := ho9.pos hpos
    obtain ⟨t0, t1, t2, t3⟩ := accs_get x k5 hk5
    rw [Nat.mul_comm] at t0 t1 t2 t3
    have d0 := hcell _ _ t0
    have d1 := hcell _ _ t1
    have d2 := hcell _ _ t2
    have d3 := hcell _ _ t3
    have f0 := hfr (k5 * 4)
    have f1 := hfr (k5 * 4 + 1)
    have f2 := hfr (k5 * 4 + 2)
    have f3 := hfr (k5 * 4 + 3)
    obtain ⟨-, z1, -, -⟩ := accs_get x 0 hpos
    have y1 := hcell _ _ z1
    have y2 := hfr 1
    simp only [Nat.mul_zero, Nat.zero_add] at y1
    have hmod5 : 0 ≤ which % 5 ∧ which % 5 < 5 := by omega
    clear t0 t1 t2 t3 z1 hcell hfr hlx
    go_wp2_with fail
    refine (within_any which 5 (by omega) (by omega) _).mono ?_
    rintro e w6 ⟨rfl, rfl⟩
    generalize which % 5 = r at *
    have hr5 : r = 0 ∨ r = 1 ∨ r = 2 ∨ r = 3 ∨ r = 4 := by omega
    clear hmod5
    have hwx := Hwx.out
    clear Hwx
    rcases hr5 with hr | hr | hr | hr | hr
    · subst hr
      have hset := accs_set_id x k5 hk5 n
      have hraw := ho9.set_ hpos (k5 * 4) (by omega) (.int .i64 n)
      rw [← hset] at hraw
      clear hset
      obtain ⟨l2, hl2⟩ : ∃ l2, l2 = x.set k5 { x[k5] with id := n } := ⟨_, rfl⟩
      have ho10 := hraw
      rw [← hl2] at ho10
      have Hlen : Hid (l2.length = x.length) := Lib.hid (by rw [hl2]; simp)
      have Hst := Lib.hid (StV.own Hlen.out ho10)
      have He10 := Lib.hid (hex9.setCell (p := ⟨g, k5 * 4, none⟩) hg (.int .i64 n))
      have Hwf2 : Hid (∀ a ∈ l2, (Lit.int .i64 a.id).wf = true) := Lib.hid (by rw [hl2]; intro a ha; rcases List.mem_or_eq_of_mem_set ha with h | h; exact hwx a h; rw [h]; exact hwn)
      clear ho10 hl2
      go_wp2_with fail
      refine (check_v (.slice (some ⟨g, 0, none⟩) x.length c9) l2 _ Hst.out (by have := Hlen.out; omega) Hwf2.out).mono ?_
      rintro e w7 ⟨rfl, he7⟩
      go_wp2_with fail
      refine (rcheck_v (.slice (some ⟨g, 0, none⟩) x.length c9) l2 _ (Hst.out.ext he7) (by have := Hlen.out; omega)).mono ?_
      rintro e w8 ⟨rfl, he8⟩
      have heq : (chk none 0 l2 == chk none 0 l2) = true := by simp
      go_wp2_with fail
      go_ret
      exact ⟨rfl, He10.out.trans (he7.trans he8)⟩
    · subst hr
      have hset := accs_set_bal x k5 hk5 n
      have hraw := ho9.set_ hpos (k5 * 4 + 1) (by omega) (.int .i64 n)
      rw [← hset] at hraw
      clear hset
      obtain ⟨l2, hl2⟩ : ∃ l2, l2 = x.set k5 { x[k5] with bal := n } := ⟨_, rfl⟩
      have ho10 := hraw
      rw [← hl2] at ho10
      have Hlen : Hid (l2.length = x.length) := Lib.hid (by rw [hl2]; simp)
      have Hst := Lib.hid (StV.own Hlen.out ho10)
      have He10 := Lib.hid (hex9.setCell (p := ⟨g, k5 * 4 + 1, none⟩) hg (.int .i64 n))
      have Hwf2 : Hid (∀ a ∈ l2, (Lit.int .i64 a.id).wf = true) := Lib.hid (by rw [hl2]; intro a ha; rcases List.mem_or_eq_of_mem_set ha with h | h; exact hwx a h; rw [h]; exact hwx x[k5] (List.getElem_mem hk5))
      clear ho10 hl2
      go_wp2_with fail
      refine (check_v (.slice (some ⟨g, 0, none⟩) x.length c9) l2 _ Hst.out (by have := Hlen.out; omega) Hwf2.out).mono ?_
      rintro e w7 ⟨rfl, he7⟩
      go_wp2_with fail
      refine (rcheck_v (.slice (some ⟨g, 0, none⟩) x.length c9) l2 _ (Hst.out.ext he7) (by have := Hlen.out; omega)).mono ?_
      rintro e w8 ⟨rfl, he8⟩
      have heq : (chk none 0 l2 == chk none 0 l2) = true := by simp
      go_wp2_with fail
      go_ret
      exact ⟨rfl, He10.out.trans (he7.trans he8)⟩
    · subst hr
      have hset := accs_set_non x k5 hk5 n
      have hraw := ho9.set_ hpos (k5 * 4 + 2) (by omega) (.int .i64 n)
      rw [← hset] at hraw
      clear hset
      obtain ⟨l2, hl2⟩ : ∃ l2, l2 = x.set k5 { x[k5] with non := n } := ⟨_, rfl⟩
      have ho10 := hraw
      rw [← hl2] at ho10
      have Hlen : Hid (l2.length = x.length) := Lib.hid (by rw [hl2]; simp)
      have Hst := Lib.hid (StV.own Hlen.out ho10)
      have He10 := Lib.hid (hex9.setCell (p := ⟨g, k5 * 4 + 2, none⟩) hg (.int .i64 n))
      have Hwf2 : Hid (∀ a ∈ l2, (Lit.int .i64 a.id).wf = true) := Lib.hid (by rw [hl2]; intro a ha; rcases List.mem_or_eq_of_mem_set ha with h | h; exact hwx a h; rw [h]; exact hwx x[k5] (List.getElem_mem hk5))
      clear ho10 hl2
      go_wp2_with fail
      refine (check_v (.slice (some ⟨g, 0, none⟩) x.length c9) l2 _ Hst.out (by have := Hlen.out; omega) Hwf2.out).mono ?_
      rintro e w7 ⟨rfl, he7⟩
      go_wp2_with fail
      refine (rcheck_v (.slice (some ⟨g, 0, none⟩) x.length c9) l2 _ (Hst.out.ext he7) (by have := Hlen.out; omega)).mono ?_
      rintro e w8 ⟨rfl, he8⟩
      have heq : (chk none 0 l2 == chk none 0 l2) = true := by simp
      go_wp2_with fail
      go_ret
      exact ⟨rfl, He10.out.trans (he7.trans he8)⟩
    · subst hr
      have hset := accs_set x k5 hk5 ⟨x[k5].id, 0, 0, 0⟩
      have hraw := (((ho9.set_ hpos (k5 * 4) (by omega) (.int .i64 x[k5].id)).set_ hpos (k5 * 4 + 1) (by omega) (.int .i64 0)).set_ hpos (k5 * 4 + 2) (by omega) (.int .i64 0)).set_ hpos (k5 * 4 + 3) (by omega) (.int .i64 0)
      rw [← hset] at hraw
      clear hset
      obtain ⟨l2, hl2⟩ : ∃ l2, l2 = x.set k5 ⟨x[k5].id, 0, 0, 0⟩ := ⟨_, rfl⟩
      have ho10 := hraw
      rw [← hl2] at ho10
      have Hlen : Hid (l2.length = x.length) := Lib.hid (by rw [hl2]; simp)
      have Hst := Lib.hid (StV.own Hlen.out ho10)
      have He10 := Lib.hid ((((hex9.setCell (p := ⟨g, k5 * 4, none⟩) hg (.int .i64 x[k5].id)).setCell (p := ⟨g, k5 * 4 + 1, none⟩) hg (.int .i64 0)).setCell (p := ⟨g, k5 * 4 + 2, none⟩) hg (.int .i64 0)).setCell (p := ⟨g, k5 * 4 + 3, none⟩) hg (.int .i64 0))
      have Hwf2 : Hid (∀ a ∈ l2, (Lit.int .i64 a.id).wf = true) := Lib.hid (by rw [hl2]; intro a ha; rcases List.mem_or_eq_of_mem_set ha with h | h; exact hwx a h; rw [h]; exact hwx x[k5] (List.getElem_mem hk5))
      clear ho10 hl2
      go_wp2_with fail
      refine (check_v (.slice (some ⟨g, 0, none⟩) x.length c9) l2 _ Hst.out (by have := Hlen.out; omega) Hwf2.out).mono ?_
      rintro e w7 ⟨rfl, he7⟩
      go_wp2_with fail
      refine (rcheck_v (.slice (some ⟨g, 0, none⟩) x.length c9) l2 _ (Hst.out.ext he7) (by have := Hlen.out; omega)).mono ?_
      rintro e w8 ⟨rfl, he8⟩
      have heq : (chk none 0 l2 == chk none 0 l2) = true := by simp
      go_wp2_with fail
      go_ret
      exact ⟨rfl, He10.out.trans (he7.trans he8)⟩
    · subst hr
      have m0 := Int.emod_nonneg n (b := 3) (by omega)
      have m1 := Int.emod_lt_of_pos n (b := 3) (by omega)
      have hb0 := (hsrt.out.2.2.2 x[0] (List.getElem_mem hpos))
      obtain ⟨q1, q2, -, -, -⟩ := hb0
      have hW1 : IntKind.i64.wrap (1125899906842624 - n % 3) = 1125899906842624 - n % 3 := IntWalk.i64_in _ (by omega)
      clear hsrt d0 d2 d3 f0 f2 f3
      obtain ⟨l2, hl2a, hl2b, hl2c⟩ := two_set ho9 hpos k5 hk5 hwx (1125899906842624 - n % 3) (x[0].bal + wrap64 (n.tdiv 3) % 3)
      have Hlen := Lib.hid hl2a
      have Hwf2 := Lib.hid hl2b
      have Hst := Lib.hid ((StV.own hl2a hl2c).ext ((Ext.refl _).drew))
      have He10 := Lib.hid ((((hex9.setCell (p := ⟨g, k5 * 4 + 1, none⟩) hg (.int .i64 (1125899906842624 - n % 3))).setCell (p := ⟨g, 1, none⟩) hg (.int .i64 (x[0].bal + wrap64 (n.tdiv 3) % 3)))).drew)
      clear hl2a hl2b hl2c
      rcases Nat.eq_zero_or_pos k5 with hk0 | hk0
      · subst hk0
        simp only [Nat.zero_mul, Nat.zero_add] at Hst He10
        simp only [Nat.zero_mul, Nat.zero_add] at d1 f1
        go_wp2_with fail
        go_region_with ((first | (go_at_call 17; refine (within_any _ _ (by omega) (by omega) _).mono ?_; rintro e w' ⟨rfl, rfl⟩)))
        all_goals
          go_wp2_with fail
          refine (check_v (.slice (some ⟨g, 0, none⟩) x.length c9) l2 _ Hst.out (by have := Hlen.out; omega) Hwf2.out).mono ?_
          rintro e w7 ⟨rfl, he7⟩
          go_wp2_with fail
          refine (rcheck_v (.slice (some ⟨g, 0, none⟩) x.length c9) l2 _ (Hst.out.ext he7) (by have := Hlen.out; omega)).mono ?_
          rintro e w8 ⟨rfl, he8⟩
          have heq : (chk none 0 l2 == chk none 0 l2) = true := by simp
          go_wp2_with fail
          go_ret
          exact ⟨rfl, He10.out.trans (he7.trans he8)⟩
      · have hk1 : k5 ≠ 0 := by omega
        have hk2 : ¬ (k5 * 4 + 1 = 1) := by omega
        have hk3 : ¬ (1 = k5 * 4 + 1) := by omega
        go_wp2_with fail
        go_region_with ((first | (go_at_call 17; refine (within_any _ _ (by omega) (by omega) _).mono ?_; rintro e w' ⟨rfl, rfl⟩)))
        all_goals
          go_wp2_with fail
          refine (check_v (.slice (some ⟨g, 0, none⟩) x.length c9) l2 _ Hst.out (by have := Hlen.out; omega) Hwf2.out).mono ?_
          rintro e w7 ⟨rfl, he7⟩
          go_wp2_with fail
          refine (rcheck_v (.slice (some ⟨g, 0, none⟩) x.length c9) l2 _ (Hst.out.ext he7) (by have := Hlen.out; omega)).mono ?_
          rintro e w8 ⟨rfl, he8⟩
          have heq : (chk none 0 l2 == chk none 0 l2) = true := by simp
          go_wp2_with fail
          go_ret
          exact ⟨rfl, He10.out.trans (he7.trans he8)⟩
end Go.Proofs.Ytbijpbkekdeilaa
