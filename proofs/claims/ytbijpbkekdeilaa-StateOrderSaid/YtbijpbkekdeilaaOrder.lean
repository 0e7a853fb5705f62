/- The walk of StateOrder: whatever order accounts are put in, the state is the same; the last word of each counts. -/
import Derived.Test.YtbijpbkekdeilaaStCheck
import Derived.Deep.RegionHeld3
import Derived.Deep.DeepCutAuto
import Derived.Deep.CutBlock
namespace Go.Proofs.Ytbijpbkekdeilaa
set_option linter.unusedVariables false
open Go.RowKit

def zeros256 : Array Value := Array.replicate 256 (.int .i64 0)
theorem zero256 (w : World) : (zeroValue 51).run Try.prog w = .ok (.agg zeros256) w := by kernel_rfl

/-- What the first loop has put. -/
structure Ord1 (w wr : World) (g : Nat) (v : Value) (f : Nat → Int) (l : List Acc) : Prop where
  st : OwnV wr (g + 1) v l
  tab : Tab wr g 51 .i64 256 f
  fine : Fine l
  ext : Ext w wr
  bd : Hid (∀ j, 0 ≤ f j ∧ f j ≤ 19)
  says : Hid (∀ j : Nat, j < 256 → getR l j = ⟨j, f j, 0, 0⟩)
/-- What the second loop has put, m accounts from above. -/
structure Ord2 (wc wr : World) (v : Value) (f : Nat → Int) (m : Nat) (l : List Acc) : Prop where
  le : m ≤ 256
  st : StV wr v l
  fine : Fine l
  ext : Ext wc wr
  tot : 0 ≤ totL l ∧ totL l ≤ 19 * m
  says : Hid (∀ j : Nat, 256 - m ≤ j → j < 256 → getR l j = ⟨j, f j, 0, 0⟩)
  none : Hid (∀ j : Nat, j < 256 - m → getR l j = zeroAcc j)

theorem Ord1.vals {w wr : World} {g : Nat} {v : Value} {f : Nat → Int} {l : List Acc} (h : Ord1 w wr g v f l) : ∀ a ∈ l, 0 ≤ a.bal ∧ a.bal ≤ 19 ∧ a.non = 0 := fun a ha => by
  have h1 := h.fine.ids a ha
  have h2 := h.says.out a.id.toNat (by omega)
  rw [Int.toNat_of_nonneg h1.1, Fine.get_of_mem h.fine.sorted ha] at h2
  have h3 := h.bd.out a.id.toNat
  rw [h2]; simp; omega
theorem Ord1.same {w wr wc wr' : World} {g : Nat} {v u : Value} {f : Nat → Int} {l l' : List Acc} (h : Ord1 w wr g v f l) (k : Ord2 wc wr' u f 256 l') : l = l' :=
  fine_ext l l' h.fine.sorted k.fine.sorted h.fine.some k.fine.some fun i => by
    by_cases hi : 0 ≤ i ∧ i < 256
    · have h1 := h.says.out i.toNat (by omega)
      have h2 := k.says.out i.toNat (by omega) (by omega)
      rw [Int.toNat_of_nonneg hi.1] at h1 h2
      rw [h1, h2]
    · rw [h.fine.get_out i hi, k.fine.get_out i hi]
theorem Ord1.check {w wr : World} {g : Nat} {v : Value} {f : Nat → Int} {l : List Acc} (h : Ord1 w wr g v f l) : chk Option.none 0 l = 0 := by
  have hv := h.vals
  refine chk_fine l h.fine.sorted h.fine.ids h.fine.some (fun a ha => by have := hv a ha; omega) _ _ (fun q hq => by cases hq) ?_
  have : ∀ r : List Acc, (∀ a ∈ r, a.bal ≤ 19) → totL r ≤ 19 * (r.length : Int) := fun r => by
    induction r with
    | nil => intro; simp [totL]
    | cons b r ih => intro h; have := ih (fun x hx => h x (by simp [hx])); have := h b (by simp); simp only [totL, List.map_cons, List.sum_cons, List.length_cons] at *; omega
  have h1 := this l (fun a ha => (hv a ha).2.1)
  have h2 := h.fine.len
  omega

set_option maxRecDepth 100000 in
set_option maxHeartbeats 1000000 in
theorem order_walk (A0 : Option Addr) (n0 c0 : Nat) (zs : List Int) (A1 : Option Addr) (n1 c1 : Nat) (ys : List Int) (w : World) (hz : Nums .i64 w A0 n0 zs) (hy : Nums .i64 w A1 n1 ys) (hn0 : n0 ≤ maxLen) (hn1 : n1 ≤ maxLen) :
    Calls Try.prog 10 #[.slice A0 n0 c0, .slice A1 n1 c1] w fun e w' => e = .returned (.bool true) ∧ Ext w w' := by
  unfold maxLen at hn0 hn1
  have hal := zero256
  go_enter Try.func10, Try.ntmps10
  go_wp2_with fail
  refine (known8_any _).mono ?_
  rintro e w1 ⟨rfl, he1⟩
  go_upto_block 0 with fail
  clear hal
  go_cut [5] (fun s wr => ∃ (f : Nat → Int) (l : List Acc), Ord1 w wr w1.heap.size s f l)
  case first =>
    go_wp2_with fail
    go_loopw [5, 7] (fun s i wr => ∃ (k : Nat) (f : Nat → Int) (l : List Acc), k ≤ 40 ∧ i = .int .i64 k ∧ Ord1 w wr w1.heap.size s f l) (fun _ i _ => 41 - (intOf i).toNat)
    case atStart =>
      refine ⟨0, fun _ => 0, [], by omega, rfl, OwnV.nil _ _, Tab.new w1 zeros256 (by simp [zeros256]) (fun j hj => ?_), Fine.nil, he1.alloc _, Lib.hid (fun _ => by simp), Lib.hid (fun _ _ => rfl)⟩
      simp [zeros256, hj]
    case round =>
      obtain ⟨k, f, l, hk, rfl, hP⟩ := hrel
      by_cases hlt : k < n0 ∧ k < n1 ∧ k < 40
      · obtain ⟨g1, g2, g3⟩ := hlt
        obtain ⟨b0, o0, rfl, hb0, hc0⟩ := (hz.ext hP.ext).at_ k g1
        obtain ⟨b1, o1, rfl, hb1, hc1⟩ := (hy.ext hP.ext).at_ k g2
        have hmod : 0 ≤ (zs.getD k 0) % 256 ∧ (zs.getD k 0) % 256 < 256 := by omega
        have hmod2 : 0 ≤ (ys.getD k 0) % 20 ∧ (ys.getD k 0) % 20 < 20 := by omega
        go_wp2_with fail
        refine (within_any (zs.getD k 0) 256 (by omega) (by omega) wr).mono ?_
        rintro e w2 ⟨rfl, rfl⟩
        obtain ⟨q, hq⟩ := Int.eq_ofNat_of_zero_le hmod.1
        rw [hq] at hmod ⊢
        have hq256 : q < 256 := by omega
        clear hmod hq
        go_wp2_with fail
        refine (within_any (ys.getD k 0) 20 (by omega) (by omega) wr).mono ?_
        rintro e w2 ⟨rfl, rfl⟩
        generalize (ys.getD k 0) % 20 = xb at *
        have hfr := hP.tab.frozen q
        have hcl := hP.tab.cell q hq256
        have htab := hP.tab.set_ q hq256 xb
        have hst := hP.st.far (p := ⟨w1.heap.size, q, none⟩) (by simp) (.int .i64 xb)
        have hext := hP.ext.setCell (p := ⟨w1.heap.size, q, none⟩) he1.le (.int .i64 xb)
        have hcl2 := htab.cell q hq256
        simp only [if_true] at hcl2
        have Hst := Lib.hid hst
        have Htab := Lib.hid htab
        clear hst htab
        go_wp2_with fail
        refine (put_o u5 l ⟨q, xb, 0, 0⟩ _ Hst.out.st (by have := hP.fine.len; omega)).mono ?_
        rintro e w3 ⟨v3, rfl, hs3, he3⟩
        go_wp2_with fail
        go_roundw
        case rel =>
          have hgp := get_put l ⟨q, xb, 0, 0⟩ hP.fine.sorted
          refine ⟨k + 1, _, _, by omega, by go_num, hs3.mono (by have := hP.tab.lt; simp [World.setCell]; omega), Htab.out.ext he3, hP.fine.put (by simp; omega) (by simp; omega), hext.trans he3, Lib.hid (fun j => ?_), Lib.hid (fun j hj => ?_)⟩
          · show 0 ≤ (if j = q then xb else f j) ∧ (if j = q then xb else f j) ≤ 19
            split
            · omega
            · exact hP.bd.out j
          · show getR (putR l ⟨q, xb, 0, 0⟩) j = ⟨j, (if j = q then xb else f j), 0, 0⟩
            rw [hgp]
            by_cases hjq : j = q
            · subst hjq; simp
            · rw [if_neg (by simp; omega), if_neg hjq]; exact hP.says.out j hj
        case measure => simp [intOf]; omega
      · by_cases h1 : k < n0
        · by_cases h2 : k < n1
          · have h3 : ¬ k < 40 := by omega
            clear hlt
            go_wp2_with fail
            go_meet
            exact ⟨f, l, hP⟩
          · clear hlt
            go_wp2_with fail
            go_meet
            exact ⟨f, l, hP⟩
        · clear hlt
          go_wp2_with fail
          go_meet
          exact ⟨f, l, hP⟩
  case rest =>
    obtain ⟨f, l, hP⟩ := hcut
    clear he1
    have hcell : ∀ (j : Nat), j < 256 → ∀ w', Ext wc w' → w'.cell? ⟨w1.heap.size, j, none⟩ = some (.int .i64 (f j)) := fun j hj w' h => (hP.tab.ext h).cell j hj
    have Hcell := Lib.hid hcell
    clear hcell
    go_upto_block 2 with fail
    go_cut [9, 10] (fun s t wr => ∃ (l' : List Acc), t = .int .i64 (totL l') ∧ Ord2 wc wr s f 256 l')
    case first =>
      go_wp2_with fail
      go_loopw [9, 10, 11] (fun s t i wr => ∃ (m : Nat) (l' : List Acc), i = .int .i64 (255 - m) ∧ t = .int .i64 (totL l') ∧ Ord2 wc wr s f m l') (fun _ _ i _ => (intOf i + 1).toNat)
      case atStart => exact ⟨0, [], rfl, rfl, by omega, StV.nil _, Fine.nil, Ext.refl _, by simp [totL], Lib.hid (fun j h1 h2 => by omega), Lib.hid (fun j h => rfl)⟩
      case round =>
        obtain ⟨m, l', rfl, rfl, hO⟩ := hrel
        have hm := hO.le
        by_cases hlt : m < 256
        · have hj : 255 - m < 256 := by omega
          have hcl := Hcell.out (255 - m) hj wr hO.ext
          have hbd := hP.bd.out (255 - m)
          obtain ⟨t1, t2⟩ := hO.tot
          have hgp := get_put l' ⟨255 - m, f (255 - m), 0, 0⟩ hO.fine.sorted
          have htp := tot_put l' ⟨255 - m, f (255 - m), 0, 0⟩ hO.fine.sorted
          have hno := hO.none.out (255 - m) (by omega)
          have hcst : ((255 - m : Nat) : Int) = 255 - (m : Int) := by omega
          have hfin : Hid (∀ v3 w3, StV w3 v3 (putR l' ⟨255 - m, f (255 - m), 0, 0⟩) → Ext wr w3 → totL (putR l' ⟨255 - m, f (255 - m), 0, 0⟩) = totL l' + f (255 - m) ∧ Ord2 wc w3 v3 f (m + 1) (putR l' ⟨255 - m, f (255 - m), 0, 0⟩)) := Lib.hid fun v3 w3 hs3 he3 => by
            rw [hcst] at hno
            rw [hno] at htp
            have htot : totL (putR l' ⟨255 - m, f (255 - m), 0, 0⟩) = totL l' + f (255 - m) := by rw [htp]; simp [zeroAcc]
            refine ⟨htot, by omega, hs3, hO.fine.put (by simp; omega) (by simp; omega), hO.ext.trans he3, by rw [htot]; omega, Lib.hid fun j h1 h2 => ?_, Lib.hid fun j h => ?_⟩
            · rw [hgp]
              by_cases hjm : j = 255 - m
              · subst hjm; rw [if_pos (by simp; omega)]; simp; omega
              · rw [if_neg (by simp; omega)]; exact hO.says.out j (by omega) h2
            · rw [hgp, if_neg (by simp; omega)]; exact hO.none.out j (by omega)
          have hext := hO.ext
          have hst := hO.st
          have hln := hO.fine.len
          clear hgp htp hno hcst hO
          generalize hfj : f (255 - m) = fj at *
          clear hfj
          go_wp2_with fail
          refine (put_v u9 l' ⟨255 - m, fj, 0, 0⟩ _ hst (by omega)).mono ?_
          rintro e w3 ⟨v3, rfl, hs3, he3⟩
          have hcl3 := he3.cell hcl
          obtain ⟨h1, h2⟩ := hfin.out v3 w3 hs3 he3
          have H1 := Lib.hid h1
          have H2 := Lib.hid h2
          clear h1 h2 hs3 he3 hfin hst
          generalize putR l' ⟨255 - m, fj, 0, 0⟩ = l2 at *
          go_wp2_with fail
          go_roundw
          case rel => exact ⟨m + 1, l2, by first | go_num | (congr 1; omega), by rw [H1.out], H2.out⟩
          case measure => simp [intOf]; omega
        · obtain rfl : m = 256 := by omega
          go_wp2_with fail
          go_meet
          exact ⟨l', rfl, hO⟩
    case rest =>
      obtain ⟨l', ht, hO⟩ := hcut
      obtain rfl := hP.same hO
      have hck := check_any
      have hchk := hP.check
      have hs5 := hP.st.st.ext hO.ext
      have hs9 := hO.st
      have hfine := hP.fine
      have hexx := hP.ext.trans hO.ext
      have hbd := hP.vals
      have hlen := hP.fine.len
      clear hP hO
      rw [ht]
      have h1 := same_v u5 u9 l l _ hs5 hs9
      rw [sameL_self] at h1
      have htt : (totL l == totL l) = true := by simp
      go_wp2_with fail
      refine h1.mono ?_
      rintro e w2 ⟨rfl, he2⟩
      clear h1
      have Hck := Lib.hid hchk
      clear hchk
      have Hm := Lib.hid hfine.mild
      have Hi := Lib.hid hfine.ids
      clear hfine hbd
      go_wp2_with fail
      refine (total_v u5 l _ (hs5.ext he2) Hm.out (by omega)).mono ?_
      rintro e w3 ⟨rfl, he3⟩
      go_wp2_with fail
      obtain ⟨A5, c5, hv5, hc5, hm5, hst5⟩ := hs5.ext (he2.trans he3)
      rw [hv5]
      have hc := check_any A5 l.length c5 l w3 hst5 (by omega) (fun a ha => WalkArith.wf_i64 (by have := Hi.out a ha; omega))
      rw [Hck.out] at hc
      refine hc.mono ?_
      rintro e w4 ⟨rfl, he4⟩
      clear hc
      go_wp2_with fail
      go_ret
      exact ⟨rfl, hexx.trans (he2.trans (he3.trans he4))⟩
end Go.Proofs.Ytbijpbkekdeilaa
