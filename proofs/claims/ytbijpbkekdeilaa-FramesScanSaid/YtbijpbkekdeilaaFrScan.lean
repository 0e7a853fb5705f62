/- FramesScan: the walk. -/
import Derived.Test.YtbijpbkekdeilaaFrPlain
import Derived.Test.YtbijpbkekdeilaaFrWrite
namespace Go.Proofs.Ytbijpbkekdeilaa
set_option linter.unusedVariables false
open Go.RowKit

theorem scanL_rows {r : List Nat} (hb : ∀ x ∈ r, x < 256) : ∀ s ∈ (scanL r).1, ∀ x ∈ s, x < 256 := by
  intro s hs
  by_cases h : stepOk r = true
  · have hl : 8 ≤ r.length := by simp [stepOk] at h; omega
    rw [scanL_step h] at hs
    rcases List.mem_cons.1 hs with h1 | h1
    · subst h1
      exact fun x hx => hb x (List.mem_of_mem_drop (List.mem_of_mem_take hx))
    · exact scanL_rows (r := r.drop (8 + num4 r)) (fun x hx => hb x (List.mem_of_mem_drop hx)) s h1
  · rw [scanL_stop (by simpa using h)] at hs
    cases hs
termination_by r.length
decreasing_by simp; omega

set_option maxRecDepth 100000 in
set_option maxHeartbeats 2000000 in
theorem scan_walk (A : Option Addr) (n c : Nat) (rs : List (List Nat)) (A1 : Option Addr) (n1 c1 : Nat) (ms : List Nat) (A2 : Option Addr) (n2 c2 : Nat) (zs : List Int) (A3 : Option Addr) (n3 c3 : Nat) (ys : List Nat) (cut : Int) (w : World)
    (hz : Rws w A n rs) (hnc : n ≤ c) (hm : c ≤ maxLen) (hb : ∀ r ∈ rs, ∀ x ∈ r, x < 256)
    (hz1 : Bytes w A1 n1 ms) (hnc1 : n1 ≤ c1) (hm1 : c1 ≤ maxLen) (hb1 : ∀ x ∈ ms, x < 256)
    (hz2 : Nums .i64 w A2 n2 zs) (hnc2 : n2 ≤ c2) (hm2 : c2 ≤ maxLen)
    (hz3 : Bytes w A3 n3 ys) (hnc3 : n3 ≤ c3) (hm3 : c3 ≤ maxLen) (hb3 : ∀ x ∈ ys, x < 256) (hct : -9223372036854775808 ≤ cut ∧ cut ≤ 9223372036854775807) :
    Calls Try.prog 5 #[.slice A n c, .slice A1 n1 c1, .slice A2 n2 c2, .slice A3 n3 c3, .int .i64 cut] w fun e w' => e = .returned (.bool true) ∧ Ext w w' := by
  have hlm := Lib.hid hz.len
  have hlm1 := Lib.hid hz1.len
  have hcm := hm
  have hcm1 := hm1
  unfold maxLen at hm hm1 hm2 hm3
  go_enter Try.func5, Try.ntmps5
  go_wp2_with fail
  refine (known3 w).mono ?_
  rintro e w1 ⟨rfl, hx1⟩
  go_wp2_with fail
  refine (few3 A n c rs w1 (hz.ext hx1) (Nat.le_trans hnc hcm)).mono ?_
  rintro e w' ⟨rfl, rfl⟩
  cases hfw : fewB rs
  · have Hfw := Lib.hid hfw
    clear hfw
    go_wp2_with fail
    go_ret
    exact ⟨rfl, hx1⟩
  by_cases hbig1 : 500 < n1
  · have Hfw := Lib.hid hfw
    clear hfw
    go_wp2_with fail
    go_ret
    exact ⟨rfl, hx1⟩
  obtain ⟨f1, f2⟩ := fewB_yes hfw
  rw [hlm.out] at f1
  clear hfw
  go_wp2_with fail
  refine (log3 A n c rs w1 (hz.ext hx1) (by omega) f2 hb).mono ?_
  rintro e w2 ⟨A4, c4, rfl, ho4, hx2⟩
  have hll := logL_len f2
  have hlb := logL_lt hb f2
  rw [hlm.out] at hll
  generalize hL : logL rs = L at *
  generalize hN : L.length = N at *
  have Hln := Lib.hid hN
  clear hN hL f2
  have hwp : Ext w1 w2 := hx2
  have hxs1 : w1.heap.size ≤ w2.heap.size := hx2.le
  go_upto_block 0 with fail
  go_cut [12] (fun _ wr => ∃ L' : List Nat, Own wr w1.heap.size 5 1 A4 N c4 (bvals L') ∧ (∀ x ∈ L', x < 256) ∧ Ext w1 wr)
  case first =>
    go_wp2_with fail
    go_loopw [12] (fun i wr => ∃ (k : Nat) (L' : List Nat), k ≤ 3 ∧ i = .int .i64 k ∧ Own wr w1.heap.size 5 1 A4 N c4 (bvals L') ∧ (∀ x ∈ L', x < 256) ∧ Hid (L'.length = N) ∧ Ext w1 wr) (fun i _ => 3 - (intOf i).toNat)
    case atStart => exact ⟨0, L, by omega, rfl, ho4, hlb, Hln, hx2⟩
    case round =>
      obtain ⟨k, L', hk, rfl, hor, hLb, hLn, her⟩ := hrel
      by_cases hgo : k < n2 ∧ k < n3 ∧ k < 3 ∧ 0 < N
      · obtain ⟨g1, g2, g3, g4⟩ := hgo
        obtain ⟨b2, o2, rfl, hb2, hcell2⟩ := (hz2.ext (hx1.trans her)).at_ k g1
        obtain ⟨b3, o3, rfl, hbb3, hcell3⟩ := (hz3.ext (hx1.trans her)).at_ k g2
        have hy := getD_lt hb3 k
        generalize zs.getD k 0 = z at *
        generalize ys.getD k 0 = y at *
        obtain ⟨p, hp, hpn⟩ := emod_nat z (N : Int) N rfl g4
        have hwi : ∀ w, Calls Try.prog 24 #[.int .i64 z, .int .i64 (N : Int)] w fun e w' => e = .returned (.int .i64 (p : Int)) ∧ w' = w := fun w => by
          rw [← hp]
          exact (within3 z N (by omega) (by omega) w).mono fun e w' h => ⟨h.1, h.2.symm⟩
        clear hp
        obtain ⟨g, rfl, hgB, hgs, hgc, hgf⟩ := hor.pos g4
        have hcell := hgc p (.int .u8 ((L'.getD p 0 : Nat) : Int)) (by
          have : p < L'.length := by rw [hLn.out]; omega
          simp [bvals, this])
        have hfr := hgf p
        have hxv := getD_lt hLb p
        have hset := hor.set_ g4 p (by omega) (.int .u8 (((L'.getD p 0 + y) % 256 : Nat) : Int))
        rw [bvals_set] at hset
        have hxs : Ext w1 (wr.setCell ⟨g, p, none⟩ (.int .u8 (((L'.getD p 0 + y) % 256 : Nat) : Int))) := her.setCell hgB _
        have hYl := set_lt hLb p ((L'.getD p 0 + y) % 256) (by omega)
        have hYn : Hid ((L'.set p ((L'.getD p 0 + y) % 256)).length = N) := Lib.hid (by rw [List.length_set]; exact hLn.out)
        have hcast : (((L'.getD p 0 + y) % 256 : Nat) : Int) = ((L'.getD p 0 : Nat) + y : Int) % 256 := by omega
        rw [hcast] at hset hxs
        clear hgc hgf hcast
        generalize L'.set p ((L'.getD p 0 + y) % 256) = Y at *
        generalize L'.getD p 0 = x at *
        have hk0 : (0 : Int) ≤ (k : Int) := by omega
        have hk2 : (k : Int) < (n2 : Int) := by omega
        have hk3 : (k : Int) < (n3 : Int) := by omega
        have hp0 : (0 : Int) ≤ (p : Int) := by omega
        have hp1 : (p : Int) < (N : Int) := by omega
        go_wp2_with fail
        refine wp_region_still_tail 15 (by kernel_rfl) (by kernel_rfl) ?_
        simp only [List.take_succ_cons, List.take_zero, List.drop_succ_cons, List.drop_zero]
        repeat (first | still_step | still_call (hwi _))
        refine wpStill_nil ?_
        change wpList _ _ _ _ _ wr.drew
        go_wp2_with fail
        go_roundw
        case rel => exact ⟨k + 1, Y, by omega, by go_num, hset.ext (Ext.refl _).drew, hYl, hYn, hxs.drew⟩
        case measure => simp [intOf]; omega
      · have hfin : ∃ L'', Own wr w1.heap.size 5 1 A4 N c4 (bvals L'') ∧ (∀ x ∈ L'', x < 256) ∧ Ext w1 wr := ⟨L', hor, hLb, her⟩
        by_cases g1 : k < n2
        · by_cases g2 : k < n3
          · by_cases g3 : k < 3
            · have g4 : N = 0 := by omega
              subst g4
              clear hgo
              go_wp2_with fail
              go_meet
              exact hfin
            · clear hgo
              go_wp2_with fail
              go_meet
              exact hfin
          · clear hgo
            go_wp2_with fail
            go_meet
            exact hfin
        · clear hgo
          go_wp2_with fail
          go_meet
          exact hfin
  case rest =>
    obtain ⟨L', ho5, hLb, hx5⟩ := hcut
    have hgb := GB.own ho5
    have hN : N ≤ 3080 := by omega
    clear ho4 hxs1 hwp hx2 hlb hll Hln
    go_upto_if 70 with (fail)
    go_cut [11] (fun s wr => ∃ (m : Nat) (bs : List Nat), s = .slice A4 m c4 ∧ m ≤ N ∧ Bytes wr A4 m bs ∧ (∀ x ∈ bs, x < 256) ∧ Ext wc wr)
    case first =>
      obtain ⟨m, hmm, hmn⟩ := emod_nat (cut.tdiv 2) ((N : Int) + 1) (N + 1) (by omega) (by omega)
      have hwi := fun w => within3 (cut.tdiv 2) ((N : Int) + 1) (by omega) (by omega) w
      rw [hmm] at hwi
      have Hmm := Lib.hid hmm
      clear hmm
      have ehi : ∀ w, (Instr.slice 35 (.slice A4 N c4) none (some (.int .i64 (m : Int))) none).run Try.prog w = .ok (.slice A4 m c4) w := fun w => byte_elem.cut_hi _ N c4 m .i64 m rfl (by have := hgb.le; omega) w
      go_wp2_with (first | (go_at_call 24; refine (hwi _).mono ?_; rintro e w' ⟨rfl, rfl⟩))
      · go_meet
        exact ⟨m, L'.take m, rfl, by omega, hgb.bytes.front (by omega), fun x hx => hLb x (List.mem_of_mem_take hx), Ext.refl _⟩
      · go_meet
        exact ⟨N, L', rfl, Nat.le_refl _, hgb.bytes, hLb, Ext.refl _⟩
    case rest =>
      obtain ⟨m, bs, rfl, hmN, hzb, hbb, hxc⟩ := hcut
      have hmc : m ≤ c4 := by have := hgb.le; omega
      have hc4 := hgb.2.1
      have hxw : Ext w wc := (hx1.trans hx5).trans hxc
      have m1 : m ≤ maxLen := by unfold maxLen; omega
      have m2 : m * 1 ≤ 140737488355328 := by omega
      have m3 : m + n1 ≤ maxLen := by unfold maxLen; omega
      have m4 : (m + n1) * 1 ≤ 140737488355328 := by omega
      have hB : wc.heap.size ≤ (wc.alloc (.cells #[] 5)).heap.size := ((Ext.refl wc).alloc _).le
      have hz6 := (hzb.ext ((Ext.refl wc).alloc (.cells #[] 5))).rs
      have hlb' := Lib.hid hzb.len
      clear ho5 hgb hx5
      go_wp2_with (at_builtin; refine wpList_append_new rfl (.tmp 80) _ _ rfl wc.heap.size byte_elem rfl rfl hz6 (bvals_one _) m1 m2 hB ?_)
      intro A5 c5 w5 ho5 hx5'
      have hx5 : Ext wc w5 := ((Ext.refl wc).alloc _).trans hx5'
      have hz7 := (hz1.ext (hxw.trans hx5)).rs
      have hB5 := hx5.le
      clear hx5' hz6 hB
      go_wp2_with (at_builtin; refine wpList_append_Own rfl (.tmp 82) _ _ rfl wc.heap.size byte_elem rfl ho5 rfl hz7 (bvals_one _) m3 m4 hB5 ?_)
      intro A6 c6 w6 ho6 hg6
      have hx6 : Ext wc w6 := hx5.grown hg6 (fun k h => (ho5.row k h).1)
      rw [← bvals_append] at ho6
      have hrw := rws_box w6 35 [.slice A4 m c4, .slice A6 (m + n1) c6, .slice A1 n1 c1] [bs, bs ++ ms, ms] ⟨.mk hmc hc4 (hzb.ext hx6), ho6.row_, .mk hnc1 hcm1 (hz1.ext (hxw.trans hx6)), trivial⟩ 3 rfl
      have hall : ∀ r ∈ [bs, bs ++ ms, ms], r.length ≤ 4000 ∧ ∀ x ∈ r, x < 256 := by
        intro r hr
        simp only [List.mem_cons, List.not_mem_nil, or_false] at hr
        have hl := hlb'.out
        have hl1 := hlm1.out
        rcases hr with rfl | rfl | rfl
        · exact ⟨by omega, hbb⟩
        · exact ⟨by rw [List.length_append]; omega, fun x hx => by
            rcases List.mem_append.1 hx with h | h
            · exact hbb x h
            · exact hb1 x h⟩
        · exact ⟨by omega, hb1⟩
      have hx7 : Ext wc (w6.alloc (.cells #[.slice A4 m c4, .slice A6 (m + n1) c6, .slice A1 n1 c1] 35)) := hx6.alloc _
      clear hz7 ho5 ho6 hg6
      have hxq : Ext w (w6.alloc (.cells #[.slice A4 m c4, .slice A6 (m + n1) c6, .slice A1 n1 c1] 35)) := hxw.trans hx7
      go_wp2_with fail
      generalize [bs, bs ++ ms, ms] = rr at *
      have hrl := Lib.hid hrw.len
      have hsz : w6.heap.size < (w6.alloc (.cells #[.slice A4 m c4, .slice A6 (m + n1) c6, .slice A1 n1 c1] 35)).heap.size := by simp
      change Rws (w6.alloc (.cells #[.slice A4 m c4, .slice A6 (m + n1) c6, .slice A1 n1 c1] 35)) _ _ _ at hrw
      generalize w6.alloc (.cells #[.slice A4 m c4, .slice A6 (m + n1) c6, .slice A1 n1 c1] 35) = w7 at *
      go_loopw [14] (fun i wr => ∃ k : Nat, k ≤ 3 ∧ i = .int .i64 k ∧ Ext w7 wr) (fun i _ => 3 - (intOf i).toNat)
      case atStart => exact ⟨0, by omega, rfl, Ext.refl _⟩
      case round =>
        obtain ⟨k, hk, rfl, her⟩ := hrel
        by_cases hlt : k < 3
        · obtain ⟨b, o, A8, n8, c8, hA8, hbb8, hc8, h1, h2, h3⟩ := (hrw.ext her).at_ k hlt
          simp only [Option.some.injEq, Addr.mk.injEq, and_true] at hA8
          obtain ⟨rfl, rfl⟩ := hA8
          rw [Nat.zero_add] at hc8
          have hmem : rr.getD k [] ∈ rr := by
            have : k < rr.length := by rw [hrl.out]; exact hlt
            simp [this]
          obtain ⟨g1, g2⟩ := hall _ hmem
          have hl3 := Lib.hid h3.len
          rw [hl3.out] at g1
          generalize rr.getD k [] = r at *
          have hsr := scanL_rows g2
          go_wp2_with fail
          refine (scan_any A8 n8 c8 r wr h3 h1 h2 (by omega) g2).mono ?_
          rintro e w8 ⟨A9, c9, rfl, hk9, hm9, hz9, hx9⟩
          have hc1 := hx9.cell hc8
          have hb1 := hx9.lt hbb8
          go_wp2_with fail
          refine (rscan_any A8 n8 c8 r w8 (h3.ext hx9) h1 h2 (by omega) g2).mono ?_
          rintro e w9 ⟨A10, c10, rfl, hk10, hm10, hz10, hx10⟩
          have hrr := rows3 A9 _ c9 _ A10 _ c10 _ w9 (hz9.ext hx10) hz10 (Nat.le_trans hk9 hm9) hsr hsr
          rw [sameR_self] at hrr
          generalize (scanL r).1.length = q at *
          generalize (scanL r).2 = q2 at *
          go_wp2_with fail
          refine hrr.mono ?_
          rintro e w10 ⟨rfl, hx11⟩
          go_wp2_with fail
          go_roundw
          case rel => exact ⟨k + 1, by omega, by go_num, ((her.trans hx9).trans hx10).trans hx11⟩
          case measure => simp [intOf]; omega
        · have : k = 3 := by omega
          subst this
          go_wp2_with fail
          go_ret
          exact ⟨rfl, hxq.trans her⟩
end Go.Proofs.Ytbijpbkekdeilaa
