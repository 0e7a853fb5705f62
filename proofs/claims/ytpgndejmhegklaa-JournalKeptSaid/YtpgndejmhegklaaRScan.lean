/- Scan, the document's way. -/
import Derived.Test.YtpgndejmhegklaaScan
import Derived.Test.YtpgndejmhegklaaROne
namespace Go.Proofs.Ytpgndejmhegklaa
set_option linter.unusedVariables false
open Go.RowKit

theorem num4_take (l : List Nat) (k : Nat) (h : 4 ≤ k) : num4 (l.take k) = num4 l := by
  unfold num4
  have e : ∀ j, j < 4 → (l.take k).getD j 0 = l.getD j 0 := fun j hj => by
    rw [List.getD_eq_getElem?_getD, List.getElem?_take, if_pos (by omega), List.getD_eq_getElem?_getD]
  rw [e 0 (by omega), e 1 (by omega), e 2 (by omega), e 3 (by omega)]
theorem one_chunk (r : List Nat) (h8 : 8 + num4 r ≤ r.length) (hm : num4 r ≤ 4194304) :
    (crcN ((r.drop 8).take (num4 r)) = num4 (r.drop 4) → oneE (r.take (8 + num4 r)) = 0 ∧ oneB (r.take (8 + num4 r)) = (r.drop 8).take (num4 r)) ∧
    (crcN ((r.drop 8).take (num4 r)) ≠ num4 (r.drop 4) → oneE (r.take (8 + num4 r)) = 10) := by
  have hl : (r.take (8 + num4 r)).length = 8 + num4 r := by rw [List.length_take]; omega
  have h1 : num4 (r.take (8 + num4 r)) = num4 r := num4_take r _ (by omega)
  have h2 : (r.take (8 + num4 r)).drop 8 = (r.drop 8).take (num4 r) := by rw [List.drop_take]; congr 1; omega
  have h3 : num4 ((r.take (8 + num4 r)).drop 4) = num4 (r.drop 4) := by rw [List.drop_take]; exact num4_take _ _ (by omega)
  have hE : oneE (r.take (8 + num4 r)) = if crcN ((r.drop 8).take (num4 r)) ≠ num4 (r.drop 4) then 10 else 0 := by
    unfold oneE
    rw [hl, h1, h2, h3, if_neg (by omega), if_neg (by omega), if_neg (by omega), if_neg (by omega)]
  refine ⟨fun h => ?_, fun h => ?_⟩
  · have h0 : oneE (r.take (8 + num4 r)) = 0 := by rw [hE, if_neg (by simp [h])]
    exact ⟨h0, by unfold oneB; rw [h0, if_pos rfl, h2]⟩
  · rw [hE, if_pos h]

set_option maxRecDepth 100000 in
set_option maxHeartbeats 1000000 in
theorem rscan_any (A : Option Addr) (n c : Nat) (bs : List Nat) (w : World) (hz : Bytes w A n bs) (hnc : n ≤ c) (hcm : c ≤ maxLen) (hn : n ≤ 4000000) (hb : ∀ x ∈ bs, x < 256) :
    Calls Try.prog 28 #[.slice A n c] w fun e w' => ∃ A' c', e = .returned (.tuple #[.slice A' (scanL bs).1.length c', .int .i64 ((scanL bs).2 : Int)]) ∧ (scanL bs).1.length ≤ c' ∧ c' ≤ maxLen ∧ Rws w' A' (scanL bs).1.length (scanL bs).1 ∧ Ext w w' := by
  have hlen := hz.len
  unfold maxLen at hcm
  go_enter Try.func28, Try.ntmps28
  go_upto_block 0 with fail
  go_cut [4, 5] (fun l i wr => ∃ (k p : Nat) (A' : Option Addr) (c' : Nat) (recs : List (List Nat)), l = .slice A' k c' ∧ i = .int .i64 p ∧ recs.length = k ∧ k ≤ c' ∧ c' ≤ maxLen ∧ Rws wr A' k recs ∧ Hid (scanL bs = (recs, p)) ∧ Ext w wr)
  case first =>
    go_wp2_with fail
    go_loopw [4, 5] (fun l i wr => ∃ (k p : Nat) (A' : Option Addr) (c' : Nat) (vs : List Value) (recs : List (List Nat)), l = .slice A' k c' ∧ i = .int .i64 p ∧ p ≤ n ∧ 8 * k ≤ p ∧ Own wr w.heap.size 22 1 A' k c' vs ∧ RowsV wr vs recs ∧ ScanAt bs recs p ∧ Ext w wr) (fun _ i _ => n - (intOf i).toNat)
    case atStart => exact ⟨0, 0, none, 0, [], [], rfl, rfl, by omega, by omega, Own.nil _ _ _ _ _, RowsV.nil _, ScanAt.start bs, Ext.refl _⟩
    case round =>
      obtain ⟨k, p, A', c', vs, recs, rfl, rfl, hp, hk8, hor, hrv, hsa, her⟩ := hrel
      have hkl : recs.length = k := by rw [← hrv.1]; simpa using hor.1
      obtain ⟨A3, e3, z3⟩ := (hz.ext her).rest (k := p) hp hnc
      have hr : (bs.drop p).length = n - p := z3.len
      have hbr : ∀ x ∈ bs.drop p, x < 256 := fun x hx => hb x (List.mem_of_mem_drop hx)
      have hfin : ∀ w', stepOk (bs.drop p) = false → Ext wr w' → ∃ (k0 p0 : Nat) (A'' : Option Addr) (c'' : Nat) (recs : List (List Nat)), Value.slice A' k c' = .slice A'' k0 c'' ∧ Value.int .i64 (p : Int) = .int .i64 (p0 : Int) ∧ recs.length = k0 ∧ k0 ≤ c'' ∧ c'' ≤ maxLen ∧ Rws w' A'' k0 recs ∧ Hid (scanL bs = (recs, p0)) ∧ Ext w w' := by
        intro w' hs hx
        exact ⟨k, p, A', c', recs, rfl, rfl, hkl, hor.2.1, hor.2.2.1, rows_of (hor.ext hx) (hrv.ext hx), Lib.hid (hsa.stop hs), her.trans hx⟩
      have Hfin := Lib.hid hfin
      clear hfin
      have hsa' := Lib.hid hsa
      clear hsa hkl
      by_cases h8 : n < p + 8
      · go_wp2_with fail
        go_meet
        exact Hfin.out _ (step_no1 (by omega)) (Ext.refl _)
      have hnum : num4 (bs.drop p) < 4294967296 := num4_lt hbr
      have hno2 : 4194304 < num4 (bs.drop p) → stepOk (bs.drop p) = false := step_no2
      have hno3 : n - p < 8 + num4 (bs.drop p) → stepOk (bs.drop p) = false := fun h => step_no3 (by omega)
      have hmx : n - p ≤ maxLen := by unfold maxLen; omega
      go_wp2_with fail
      refine (get_any A3 (n - p) (c - p) (bs.drop p) _ z3 (by omega) hmx hbr).mono ?_
      rintro e w1 ⟨rfl, hx1⟩
      have hst := hsa'.out.step
      have hno4 : crcN (((bs.drop p).drop 8).take (num4 (bs.drop p))) ≠ num4 ((bs.drop p).drop 4) → stepOk (bs.drop p) = false := step_no4
      have hok : num4 (bs.drop p) ≤ 4194304 → 8 + num4 (bs.drop p) ≤ n - p → crcN (((bs.drop p).drop 8).take (num4 (bs.drop p))) = num4 ((bs.drop p).drop 4) → stepOk (bs.drop p) = true := fun h1 h2 h3 => step_ok (by omega) h1 (by omega) h3
      have hch := fun h1 h2 => one_chunk (bs.drop p) h1 h2
      generalize hm : num4 (bs.drop p) = m at *
      have Hm := Lib.hid hm
      clear hm
      have Hno2 := Lib.hid hno2
      have Hno3 := Lib.hid hno3
      have Hno4 := Lib.hid hno4
      have Hok := Lib.hid hok
      have Hst := Lib.hid hst
      have Hch := Lib.hid hch
      clear hno2 hno3 hno4 hok hst hch
      by_cases hbig : (4194304 : Int) < (m : Int)
      · go_wp2_with fail
        go_meet
        exact Hfin.out _ (Hno2.out (by omega)) hx1
      by_cases hlong : (n : Int) - (p : Int) - 8 < (m : Int)
      · go_wp2_with fail
        go_meet
        exact Hfin.out _ (Hno3.out (by omega)) hx1
      have ecut : ∀ w, (Instr.slice 22 (.slice A n c) (some (.int .i64 (p : Int))) (some (.int .i64 ((p : Int) + 8 + (m : Int)))) none).run Try.prog w = .ok (.slice (cutA A c p 1) (p + (8 + m) - p) (c - p)) w := fun w => byte_elem.cut_both A n c p (p + (8 + m)) .i64 .i64 p ((p : Int) + 8 + (m : Int)) rfl (by omega) (by omega) (by omega) w
      have z5 := ((hz.ext her).ext hx1).cut (lo := p) (hi := p + (8 + m)) (c := c) (by omega) (by omega) (by omega)
      rw [show p + (8 + m) - p = 8 + m from by omega] at ecut z5
      generalize hA5 : cutA A c p 1 = A5 at ecut z5
      clear hA5
      have hb5 : ∀ x ∈ (bs.drop p).take (8 + m), x < 256 := fun x hx => hbr x (List.mem_of_mem_take hx)
      by_cases hcn : crcN (((bs.drop p).drop 8).take m) = num4 ((bs.drop p).drop 4)
      · have hok := Hok.out (by omega) (by omega) hcn
        obtain ⟨o1, o2⟩ := (Hch.out (by omega) (by omega)).1 hcn
        have hone := rone_any A5 (8 + m) (c - p) ((bs.drop p).take (8 + m)) w1 z5 (by omega) (by omega) hb5
        rw [o1, o2] at hone
        have hl9 : (((bs.drop p).drop 8).take m).length = m := by simp [List.length_drop, hr]; omega
        rw [hl9] at hone
        clear o1 o2 hcn
        have Hl9 := Lib.hid hl9
        clear hl9
        go_wp2_with fail
        refine hone.mono ?_
        rintro e w3 ⟨A9, c9, rfl, hg9, he9⟩
        have hx3 : Ext wr w3 := hx1.trans he9
        have ho3 := hor.ext (hx3.trans ((Ext.refl w3).alloc (.cells #[.slice A9 m c9] 22)))
        have hr3 : RowsV (w3.alloc (.cells #[.slice A9 m c9] 22)) vs recs := hrv.ext (hx3.trans ((Ext.refl w3).alloc (.cells #[.slice A9 m c9] 22)))
        have hg3 := hg9.ext ((Ext.refl w3).alloc (.cells #[.slice A9 m c9] 22))
        have hbox : RS (w3.alloc (.cells #[.slice A9 m c9] 22)) 1 (some ⟨w3.heap.size, 0, none⟩) 1 [.slice A9 m c9] := box_rs w3 22 1 [.slice A9 m c9] 1 rfl
        have m1 : k + 1 ≤ maxLen := by unfold maxLen; omega
        have m2 : (k + 1) * 24 ≤ 140737488355328 := by omega
        have m3 : w.heap.size ≤ (w3.alloc (.cells #[.slice A9 m c9] 22)).heap.size := ((her.trans hx3).trans ((Ext.refl w3).alloc _)).le
        clear hone
        go_wp2_with (at_builtin; refine wpList_append_Own rfl _ _ _ rfl w.heap.size row_elem rfl ho3 rfl hbox (by simp [Value.oneCell']) m1 m2 m3 ?_)
        intro A6 c6 w6 ho6 hg6
        have hx6 : Ext w w6 := ((her.trans hx3).trans ((Ext.refl w3).alloc _)).grown hg6 (fun k h => (ho3.row k h).1)
        have hr6 := (hr3.snoc hg3.bytes hg3.2.2.2 hg3.1 hg3.2.1).grown (A := A') (n := k) (c := c') (xs := vs) ho3 (by decide) hg6
        clear ho3 hr3 hg3 hbox
        go_wp2_with fail
        go_round
        case rel =>
          refine ⟨k + 1, p + (8 + m), A6, c6, _, _, rfl, by go_num, by omega, by omega, ho6, hr6, Hst.out hok, hx6⟩
        case measure => simp [intOf]; omega
      · have o1 := (Hch.out (by omega) (by omega)).2 hcn
        have hone := rone_any A5 (8 + m) (c - p) ((bs.drop p).take (8 + m)) w1 z5 (by omega) (by omega) hb5
        have ob : oneB ((bs.drop p).take (8 + m)) = [] := by unfold oneB; rw [o1]; rfl
        rw [o1, ob] at hone
        clear o1 ob
        go_wp2_with fail
        refine hone.mono ?_
        rintro e w3 ⟨A9, c9, rfl, hg9, he9⟩
        clear hone
        go_wp2_with fail
        go_meet
        exact Hfin.out _ (Hno4.out hcn) (hx1.trans he9)
  case rest =>
    obtain ⟨k, p, A', c', recs, rfl, rfl, hl, hkc, hcm', hrw, hsc, hx⟩ := hcut
    go_wp2_with fail
    go_ret2
    rw [hsc.out]
    exact ⟨A', c', by rw [hl]; rfl, by rw [hl]; exact hkc, hcm', by rw [hl]; exact hrw, hx⟩
end Go.Proofs.Ytpgndejmhegklaa
