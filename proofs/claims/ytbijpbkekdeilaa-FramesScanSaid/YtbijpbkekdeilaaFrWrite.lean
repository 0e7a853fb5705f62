/- FramesWrite: the walk. -/
import Derived.Test.YtbijpbkekdeilaaFrLaw
namespace Go.Proofs.Ytbijpbkekdeilaa
set_option linter.unusedVariables false
open Go.RowKit

theorem set_lt {bs : List Nat} (hb : ∀ x ∈ bs, x < 256) (j v : Nat) (hv : v < 256) : ∀ x ∈ bs.set j v, x < 256 := by
  intro x hx
  rcases List.mem_or_eq_of_mem_set hx with h | h
  · exact hb x h
  · omega
theorem bvals_set (bs : List Nat) (j v : Nat) : (bvals bs).set j (.int .u8 (v : Int)) = bvals (bs.set j v) := by
  unfold bvals
  rw [List.map_set]
theorem frame_lt {bs : List Nat} (hb : ∀ x ∈ bs, x < 256) (n : Nat) (hn : n < 4294967296) : ∀ x ∈ bytes4 n ++ bytes4 (crcN bs) ++ bs, x < 256 := by
  intro x hx
  rw [List.mem_append, List.mem_append] at hx
  rcases hx with (h | h) | h
  · exact bytes4_lt hn x h
  · exact bytes4_lt (crcN_lt bs) x h
  · exact hb x h
theorem frame_len {bs : List Nat} {n : Nat} (h : bs.length = n) : (bytes4 n ++ bytes4 (crcN bs) ++ bs).length = n + 8 := by simp [bytes4, h]

theorem emod_nat (a : Int) (n : Int) (m : Nat) (hn : n = m) (h : 0 < m) : ∃ p : Nat, a % n = p ∧ p < m := by
  subst hn
  have h1 := Int.emod_nonneg a (show ((m : Nat) : Int) ≠ 0 by omega)
  have h2 := Int.emod_lt_of_pos a (show (0 : Int) < (m : Nat) by omega)
  exact ⟨(a % m).toNat, by omega, by omega⟩

set_option maxRecDepth 100000 in
set_option maxHeartbeats 1000000 in
theorem write_walk (A : Option Addr) (n c : Nat) (bs : List Nat) (at_ : Int) (by_ : Nat) (cut : Int) (w : World) (hz : Bytes w A n bs) (hnc : n ≤ c) (hm : c ≤ maxLen) (hb : ∀ x ∈ bs, x < 256) (h2 : by_ < 256) :
    Calls Try.prog 11 #[.slice A n c, .int .i64 at_, .int .u8 (by_ : Int), .int .i64 cut] w fun e w' => e = .returned (.bool true) ∧ Ext w w' := by
  have hlm := Lib.hid hz.len
  have hcm := hm
  unfold maxLen at hm
  go_enter Try.func11, Try.ntmps11
  go_wp2_with fail
  refine (known3 w).mono ?_
  rintro e w1 ⟨rfl, hx1⟩
  by_cases hbig : 3000 < n
  · go_wp2_with fail
    go_ret
    exact ⟨rfl, hx1⟩
  go_wp2_with fail
  refine (frame_any A n c bs w1 (hz.ext hx1) hnc hb (by omega)).mono ?_
  rintro e w2 ⟨A2, c2, rfl, hz2, hx2⟩
  go_wp2_with fail
  refine (rframe_any A n c bs w2 ((hz.ext hx1).ext hx2) hnc hb (by omega)).mono ?_
  rintro e w3 ⟨A3, c3, rfl, hz3, hx3⟩
  go_wp2_with fail
  have hmx : n ≤ maxLen := by unfold maxLen; omega
  refine (crc_any A n c bs w3 (((hz.ext hx1).ext hx2).ext hx3) hmx hb).mono ?_
  rintro e w4 ⟨rfl, hx4⟩
  go_wp2_with fail
  refine (rcrc_any A n c bs w4 ((((hz.ext hx1).ext hx2).ext hx3).ext hx4) hmx hb).mono ?_
  rintro e w5 ⟨rfl, hx5⟩
  have s2 := run_string A2 (n + 8) c2 _ w5 ((((hz2.ext hx3).ext hx4).ext hx5)).bytes
  have s3 := run_string A3 (n + 8) c3 _ w5 (((hz3.ext hx4).ext hx5)).bytes
  have hfl := frame_lt hb n (by omega)
  have hfn := Lib.hid (frame_len hlm.out)
  have m1 : n + 8 ≤ maxLen := by unfold maxLen; omega
  have m2 : (n + 8) * 1 ≤ 140737488355328 := by omega
  have hz9 := (((hz3.ext hx4).ext hx5)).ext ((Ext.refl w5).alloc (.cells #[] 5))
  generalize bytes4 n ++ bytes4 (crcN bs) ++ bs = y at *
  go_wp2_with (at_builtin; refine wpList_append_new rfl _ _ _ rfl w5.heap.size byte_elem rfl rfl hz9.bytes.rs (bvals_one _) m1 m2 ?_ ?_)
  · exact ((Ext.refl w5).alloc _).le
  intro A9 c9 w9 ho9 he9'
  have he9 : Ext w5 w9 := ((Ext.refl w5).alloc _).trans he9'
  have hy5 : GB w5 A3 (n + 8) c3 y := (hz3.ext hx4).ext hx5
  have hx9 : Ext w w9 := ((((hx1.trans hx2).trans hx3).trans hx4).trans hx5).trans he9
  have hy9 : GB w9 A3 (n + 8) c3 y := ((hz3.ext hx4).ext hx5).ext he9
  have hb9 : Bytes w9 A n bs := hz.ext hx9
  clear s2 s3 hz9 hz2 hz3 he9'
  go_wp2_with fail
  refine (within3 at_ (n + 8 : Nat) (by omega) (by omega) _).mono ?_
  rintro e w' ⟨rfl, rfl⟩
  obtain ⟨p, hp, hpn⟩ := emod_nat at_ ((n + 8 : Nat) : Int) (n + 8) rfl (by omega)
  rw [hp]
  obtain ⟨g, rfl, hgB, hgs, hgc, hgf⟩ := ho9.pos (by omega)
  have hcell := hgc p (.int .u8 ((y.getD p 0 : Nat) : Int)) (by
    have : p < y.length := by rw [hfn.out]; exact hpn
    simp [bvals, this])
  have hyp := getD_lt hfl p
  have hfr := hgf p
  have hset := ho9.set_ (by omega) p (by omega) (.int .u8 (((y.getD p 0 + by_) % 256 : Nat) : Int))
  rw [bvals_set] at hset
  have hzn : Hid ((y.set p ((y.getD p 0 + by_) % 256)).length = n + 8) := Lib.hid (by rw [List.length_set]; exact hfn.out)
  have hzl := set_lt hfl p ((y.getD p 0 + by_) % 256) (by omega)
  have hx10 : Ext w5 (w9.setCell ⟨g, p, none⟩ (.int .u8 (((y.getD p 0 + by_) % 256 : Nat) : Int))) := he9.setCell hgB _
  have hcast : (((y.getD p 0 + by_) % 256 : Nat) : Int) = ((y.getD p 0 : Nat) + by_ : Int) % 256 := by omega
  clear hgc hgf hp
  generalize y.set p ((y.getD p 0 + by_) % 256) = z at *
  rw [hcast] at hset hx10
  clear hcast
  generalize y.getD p 0 = yv at *
  go_upto_region 11 with fail
  generalize w9.setCell ⟨g, p, none⟩ (.int .u8 (((yv : Int) + (by_ : Int)) % 256)) = w10 at *
  obtain ⟨q, hq, hqn⟩ := emod_nat cut ((n : Int) + 8 + 1) (n + 9) (by omega) (by omega)
  have hx0 : Ext w w10 := (((((hx1.trans hx2).trans hx3).trans hx4).trans hx5)).trans hx10
  have hy10 : GB w10 A3 (n + 8) c3 y := hy5.ext hx10
  have hb10 : Bytes w10 A n bs := hz.ext hx0
  have e73 : ∀ w, (Instr.slice 35 (.slice A3 (n + 8) c3) none (some (.int .i64 (q : Int))) none).run Try.prog w = .ok (.slice A3 q c3) w := fun w => byte_elem.cut_hi A3 (n + 8) c3 q .i64 q rfl (by have := hy10.le; omega) w
  have hw1 : IntKind.i64.wrap ((n : Int) + 8 + 1) = (n : Int) + 8 + 1 := IntWalk.i64_in _ (by omega)
  have hwi := fun w' => within3 cut ((n : Int) + 8 + 1) (by omega) (by omega) w'
  rw [hq] at hwi
  have m3 : n + 8 + 1 ≤ maxLen := by unfold maxLen; omega
  have m4 : (n + 8 + 1) * 1 ≤ 140737488355328 := by omega
  clear he9 hx9 hy9 hb9 ho9 hcell hfr hgs
  go_cut [14] (fun s wr => ∃ (A5 : Option Addr) (c5 : Nat), s = .slice A5 5 c5 ∧ Rws wr A5 5 [y, z, y.take q, y ++ [by_], bs] ∧ Ext w wr)
  case first =>
    go_region_held3 (fun w' => Ext w10 w')
      (first | assumption | (repeat (first | assumption | exact Ext.refl _ | refine Ext.drew ?_ | refine Ext.alloc ?_ _)))
      (first
        | (go_at_call 24; refine (hwi _).mono ?_; rintro e w' ⟨rfl, rfl⟩)
        | (refine step_append_new rfl (.tmp 74) (.tmp 75) _ rfl w10.heap.size byte_elem rfl rfl (hy10.ext (by assumption)).bytes.rs (bvals_one _) m1 m2 ?_ ?_; exact Ext.le (by assumption); intro A5 c5 w5 ho5 hk6; have hk5 : Ext w10 w5 := Ext.trans (by assumption) hk6)
        | (refine step_append_Own (xs := bvals y) (news := bvals [by_]) rfl (.tmp 76) (.tmp 78) _ rfl w10.heap.size byte_elem rfl ?_ rfl ?_ (bvals_one [by_]) m3 m4 ?_ ?_; (first | exact ho5 | exact ho5.ext ((Ext.refl _).alloc _)); (focus (refine box_at (w0 := ?_) (t := 5) ?_ (by rfl) ?_; rotate_left 2; (repeat (first | assumption | exact Ext.refl _ | refine Ext.drew ?_ | refine Ext.alloc ?_ _ | refine Ext.trans ?_ hk6)); all_goals simp)); exact Ext.le (by assumption); intro A6 c6 w6 ho6 hg6; have hk7 : Ext w10 w6 := Ext.grown (by assumption) hg6 (fun k h => (ho5.row k h).1); clear hg6))
    all_goals
      go_wp2_with fail
      go_meet
      refine ⟨_, _, rfl, rws_box w6 35 [_, _, _, _, _] [y, z, y.take q, y ++ [by_], bs] ⟨(hy10.ext hk7).row, (hset.ext hk7).row_, .mk (Nat.le_trans (by omega) hy10.le) hy10.2.1 ((hy10.bytes.front (by omega)).ext hk7), Own.row_ (by rw [bvals_append]; exact ho6), .mk hnc hcm (hb10.ext hk7), trivial⟩ 5 rfl, hx0.trans (by assumption)⟩
  case rest =>
    obtain ⟨A5, c5, rfl, hrw, hxc⟩ := hcut
    have hys := hfn.out
    have hall : ∀ r ∈ [y, z, y.take q, y ++ [by_], bs], r.length ≤ 4000 ∧ ∀ x ∈ r, x < 256 := by
      intro r hr
      simp only [List.mem_cons, List.not_mem_nil, or_false] at hr
      have hl := hlm.out
      rcases hr with rfl | rfl | rfl | rfl | rfl
      · exact ⟨by omega, hfl⟩
      · exact ⟨by have := hzn.out; omega, hzl⟩
      · exact ⟨by rw [List.length_take]; omega, fun x hx => hfl x (List.mem_of_mem_take hx)⟩
      · exact ⟨by simp; omega, fun x hx => by
          rcases List.mem_append.1 hx with h | h
          · exact hfl x h
          · rw [List.mem_singleton.1 h]; exact h2⟩
      · exact ⟨by omega, hb⟩
    generalize [y, z, y.take q, y ++ [by_], bs] = rs at *
    have hrl := Lib.hid hrw.len
    clear hys e73 hwi hq hy10 hb10 hset
    go_wp2_with fail
    go_loopw [15] (fun i wr => ∃ k : Nat, k ≤ 5 ∧ i = .int .i64 k ∧ Ext wc wr) (fun i _ => 5 - (intOf i).toNat)
    case atStart => exact ⟨0, by omega, rfl, Ext.refl _⟩
    case round =>
      obtain ⟨k, hk, rfl, her⟩ := hrel
      by_cases hlt : k < 5
      · obtain ⟨b, o, A1, n1, c1, rfl, hbb, hc, h1, h2, h3⟩ := (hrw.ext her).at_ k hlt
        have hmem : rs.getD k [] ∈ rs := by
          have : k < rs.length := by rw [hrl.out]; exact hlt
          simp [this]
        obtain ⟨g1, g2⟩ := hall _ hmem
        have hl3 := Lib.hid h3.len
        rw [hl3.out] at g1
        generalize rs.getD k [] = r at *
        go_wp2_with fail
        refine (one_any A1 n1 c1 r wr h3 h1 (by omega) g2).mono ?_
        rintro e w1 ⟨A7, c7, rfl, hg7, hx7⟩
        have hc1 := hx7.cell hc
        have hb1 := hx7.lt hbb
        go_wp2_with fail
        refine (rone_any A1 n1 c1 r w1 (h3.ext hx7) h1 (by omega) g2).mono ?_
        rintro e w2 ⟨A8, c8, rfl, hg8, hx8⟩
        have s7 := run_string A7 _ c7 _ w2 (hg7.ext hx8).bytes
        have s8 := run_string A8 _ c8 _ w2 hg8.bytes
        go_wp2_with fail
        go_roundw
        case rel => exact ⟨k + 1, by omega, by go_num, (her.trans hx7).trans hx8⟩
        case measure => simp [intOf]; omega
      · have : k = 5 := by omega
        subst this
        go_wp2_with fail
        go_ret
        exact ⟨rfl, hxc.trans her⟩
end Go.Proofs.Ytbijpbkekdeilaa
