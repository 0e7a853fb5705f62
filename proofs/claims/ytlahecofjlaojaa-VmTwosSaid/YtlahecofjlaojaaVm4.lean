/- The machine: literal, jump. -/
import Derived.Test.YtlahecofjlaojaaVm3
namespace Go.Proofs.Ytlahecofjlaojaa
set_option linter.unusedVariables false
open Go.RowKit

theorem NextAt.at_ {w0 w : World} {g : Nat} {m : Ms} (h : NextAt w0 w g m) (a : Nat) : NextAt w0 (w.setCell ⟨g, 3, none⟩ (.int .i64 (a : Int))) g { m with at_ := a } := by
  obtain ⟨Ac, cc, As, cs, hB, hc, ho⟩ := h.raw
  have hM := (Mut.refl w g).setCell 3 (.int .i64 (a : Int))
  have hB3 := hB.set_ 3 (.int .i64 (a : Int))
  unfold Ms.cells at hB3
  rw [set8_3] at hB3
  exact ⟨h.base.mut hM h.hg, h.hg, ⟨Ac, cc, As, cs, hB3, hc.mut hB mach_ne8 hM, ho.mut hB mach_neI hM⟩⟩

def foldN (bs : List Nat) : Nat := bs.foldl (fun u x => u * 256 + x) 0
theorem foldN_succ (bs : List Nat) (k : Nat) (h : k < bs.length) : foldN (bs.take (k + 1)) = foldN (bs.take k) * 256 + bs.getD k 0 := by
  unfold foldN
  rw [show bs.take (k + 1) = bs.take k ++ [bs[k]] from List.take_succ_eq_append_getElem (by omega), List.foldl_append, show bs.getD k 0 = bs[k] from by simp [h]]
  rfl
theorem foldN_lt (bs : List Nat) (hb : ∀ x ∈ bs, x < 256) : ∀ k, k ≤ bs.length → foldN (bs.take k) < 256 ^ k
  | 0, _ => by simp [foldN]
  | k + 1, h => by
    rw [foldN_succ bs k (by omega), Nat.pow_succ]
    have h1 := foldN_lt bs hb k (by omega)
    have h2 := getD_lt hb k
    omega

theorem or64_num (u x : Nat) (h : u < 72057594037927936) (hx : x < 256) : bits .or .u64 ((u : Int) * 256) (x : Int) = ((u * 256 + x : Nat) : Int) := by
  rw [show ((u : Int) * 256) = ((u * 256 : Nat) : Int) from by simp, u64_or_nat (u * 256) x (by omega) (by omega)]
  have := Nat.shiftLeft_add_eq_or_of_lt (show x < 2 ^ 8 from hx) u
  rw [Nat.shiftLeft_eq] at this
  rw [show (256 : Nat) = 2 ^ 8 from rfl, ← this]
set_option maxHeartbeats 1000000 in
theorem vlit_any (w0 : World) (g : Nat) (m : Ms) (w : World) (hN : NextAt w0 w g m) (hs : m.stack.length ≤ 1000) (hb : ∀ x ∈ m.code, x < 256) (hcl : m.code.length ≤ 1000000) (hat : m.at_ ≤ m.code.length) :
    Calls Try.prog 36 #[.pointer (some ⟨g, 0, none⟩)] w fun e w' => e = .returned (.int .i64 (doV m 1).1) ∧ NextAt w0 w' g (doV m 1).2 := by
  obtain ⟨Ac, cc, As, cs, hB, hc, ho⟩ := hN.raw
  by_cases hcut : m.code.length < m.at_ + 8
  · have he : doV m 1 = (8, m) := by unfold doV; simp only; rw [if_pos (by trivial), if_pos hcut]
    rw [he]
    unfold Ms.cells at hB
    obtain ⟨k0, k1, k2, k3, k4, k5, k6, k7⟩ := hB.cells8
    clear hB hc ho he k1 k2 k4 k5 k6 k7 hb
    generalize m.code.length = n at *
    generalize m.at_ = a at *
    have hd : decide ((n : Int) - (a : Int) < 8) = true := by simp; omega
    go_enter Try.func36, Try.ntmps36
    go_wp2_with fail
    go_quiet (fail)
    rename_i nq
    have hN' := hN.ext ((Ext.refl w).drewN nq)
    go_wp2_with fail
    go_ret
    exact ⟨rfl, hN'⟩
  · have he : doV m 1 = push_ { m with at_ := m.at_ + 8 } [num8 ((m.code.drop m.at_).take 8)] := by unfold doV; simp only; rw [if_pos (by trivial), if_neg hcut]
    rw [he]
    have hB' := hB
    unfold Ms.cells at hB'
    obtain ⟨k0, k1, k2, k3, k4, k5, k6, k7⟩ := hB'.cells8
    have hzc := (hc.bytes.cut (c := cc) (lo := m.at_) (hi := m.at_ + 8) (by omega) (by omega) hc.1)
    rw [Nat.add_sub_cancel_left] at hzc
    have hlc : ((m.code.drop m.at_).take 8).length = 8 := by rw [List.length_take, List.length_drop]; omega
    have hlb : ∀ x ∈ (m.code.drop m.at_).take 8, x < 256 := fun x hx => hb x (List.mem_of_mem_drop (List.mem_of_mem_take hx))
    have hfl := foldN_lt _ hlb
    have hfs := foldN_succ ((m.code.drop m.at_).take 8)
    have hnum : num8 ((m.code.drop m.at_).take 8) = wrap64 ((foldN ((m.code.drop m.at_).take 8) : Nat) : Int) := rfl
    have hst : ∀ w', Ext w w' → NextAt w0 (w'.setCell ⟨g, 3, none⟩ (.int .i64 ((m.at_ + 8 : Nat) : Int))) g { m with at_ := m.at_ + 8 } := fun w' h => (hN.ext h).at_ (m.at_ + 8)
    have ecut : ∀ w, (Instr.slice 22 (.slice Ac m.code.length cc) (some (.int .i64 (m.at_ : Int))) (some (.int .i64 ((m.at_ : Int) + 8))) none).run Try.prog w = .ok (.slice (cutA Ac cc m.at_ 1) 8 (cc - m.at_)) w := fun w => by
      have := byte_elem.cut_both Ac m.code.length cc m.at_ (m.at_ + 8) .i64 .i64 (m.at_ : Int) ((m.at_ : Int) + 8) rfl (by omega) (by omega) (by have := hc.1; omega) w
      rw [Nat.add_sub_cancel_left] at this
      exact this
    have hfr : ∀ w', Ext w w' → w'.frozen? ⟨g, 3, none⟩ = false := fun w' h => (hB.ext h).frozen 3
    have Hfr := Lib.hid hfr
    clear hfr
    rw [hnum]
    generalize hm' : ({ m with at_ := m.at_ + 8 } : Ms) = m' at *
    have hsl : m'.stack.length ≤ 1000 := by rw [← hm']; exact hs
    have Hm := Lib.hid hm'
    have Hst := Lib.hid hst
    have Hhs := Lib.hid hs
    clear hm' hst hs hnum hN hB hB' hc ho he k1 k2 k4 k5 k6 k7 hb
    generalize (m.code.drop m.at_).take 8 = bs at *
    generalize cutA Ac cc m.at_ 1 = A' at *
    generalize m.code.length = n at *
    generalize m.at_ = a at *
    have hd : decide ((n : Int) - (a : Int) < 8) = false := by simp; omega
    go_enter Try.func36, Try.ntmps36
    go_wp2_with fail
    go_quiet (fail)
    rename_i nq
    have hxq : Ext w (w.drewN nq) := (Ext.refl w).drewN nq
    have j0 := hxq.cell k0
    have j3 := hxq.cell k3
    have f3 := Hfr.out _ hxq
    have hz1 := hzc.ext hxq
    have hnx := Lib.hid (Hst.out _ hxq)
    generalize w.drewN nq = w1 at *
    go_wp2_with fail
    go_quiet (fail)
    have hxr : Ext w (w1.drewN nq) := hxq.trans ((Ext.refl w1).drewN nq)
    have l3 := hxr.cell k3
    have g3 := Hfr.out _ hxr
    have hz2 := hzc.ext hxr
    have hny := Lib.hid (Hst.out _ hxr)
    clear j0 j3 f3 hz1 hnx k0 k3 hzc hcut hd
    generalize w1.drewN nq = w2 at *
    go_wp2_with fail
    go_loopw [3, 32] (fun s i wr => ∃ k : Nat, k ≤ 8 ∧ i = .int .i64 k ∧ s = .int .u64 (foldN (bs.take k) : Int) ∧ w2 = wr) (fun _ i _ => 8 - (intOf i).toNat)
    case atStart => exact ⟨0, by omega, rfl, rfl, rfl⟩
    case round =>
      obtain ⟨k, hk, rfl, rfl, rfl⟩ := hrel
      by_cases hk8 : k < 8
      · obtain ⟨b, o, rfl, hbl, hck⟩ := hz2.at_ k hk8
        have hxk := getD_lt hlb k
        have h1 := hfl k (by omega)
        have h2 := hfs k (by omega)
        have h3 : foldN (bs.take k) < 72057594037927936 := Nat.lt_of_lt_of_le h1 (by
          have : 256 ^ k ≤ 256 ^ 7 := Nat.pow_le_pow_right (by omega) (by omega)
          simpa using this)
        generalize foldN (bs.take k) = u at *
        generalize bs.getD k 0 = x at *
        go_wp2_with fail
        rw [or64_num u x h3 hxk]
        go_round
        case rel => exact ⟨k + 1, by omega, by go_num, by rw [h2], trivial⟩
        case measure => simp [intOf]; omega
      · have : k = 8 := by omega
        subst this
        rw [List.take_of_length_le (by omega)] at *
        go_wp2_with fail
        rw [show (a : Int) + 8 = ((a + 8 : Nat) : Int) from by simp]
        have hx8 := (Ext.refl (w2.setCell ⟨g, 3, none⟩ (.int .i64 ((a + 8 : Nat) : Int)))).alloc (.cells #[.int .i64 (wrap64 (foldN bs : Int))] 3)
        have hbx : Nums .i64 ((w2.setCell ⟨g, 3, none⟩ (.int .i64 ((a + 8 : Nat) : Int))).alloc (.cells #[.int .i64 (wrap64 (foldN bs : Int))] 3)) (some ⟨w2.heap.size, 0, none⟩) 1 [wrap64 (foldN bs : Int)] :=
          ⟨rfl, by
            have := box_rs (w2.setCell ⟨g, 3, none⟩ (.int .i64 ((a + 8 : Nat) : Int))) 3 1 [.int .i64 (wrap64 (foldN bs : Int))] 1 rfl
            simpa using this⟩
        refine (vpush_any w0 g m' _ 1 1 _ _ (hny.out.ext hx8) hbx (by omega) hsl).mono ?_
        rintro e w9 ⟨rfl, hN9⟩
        go_wp2_with fail
        go_ret
        exact ⟨rfl, hN9⟩

set_option maxHeartbeats 1000000 in
theorem vjump_cut (w0 : World) (g : Nat) (m : Ms) (w : World) (hN : NextAt w0 w g m) (hs : m.stack.length ≤ 1000) (hb : ∀ x ∈ m.code, x < 256) (hcl : m.code.length ≤ 1000000) (hcut : m.code.length ≤ m.at_) (hat : m.at_ ≤ 1000000) :
    Calls Try.prog 41 #[.pointer (some ⟨g, 0, none⟩)] w fun e w' => e = .returned (.int .i64 8) ∧ Ext w0 w' := by
  obtain ⟨Ac, cc, As, cs, hB, hc, ho⟩ := hN.raw
  unfold Ms.cells at hB
  obtain ⟨k0, k1, k2, k3, k4, k5, k6, k7⟩ := hB.cells8
  have hbase := hN.base
  clear hB hc ho k1 k2 k4 k5 k6 k7 hb hN
  generalize m.code.length = n at *
  generalize m.at_ = a at *
  have hd : decide (n ≤ a) = true := by simp; omega
  go_enter Try.func41, Try.ntmps41
  go_wp2_with fail
  go_quiet (fail)
  go_wp2_with fail
  go_ret
  exact ⟨rfl, hbase.trans ((Ext.refl w).drewN _)⟩

/-- The cells of a machine that lies behind. -/
theorem NextAt.cells {w0 w : World} {g : Nat} {m : Ms} (h : NextAt w0 w g m) : ∃ Ac cc As cs, w.cell? ⟨g, 0, none⟩ = some (.slice Ac m.code.length cc) ∧ w.cell? ⟨g, 1, none⟩ = some (.int .i64 m.arg) ∧ w.cell? ⟨g, 2, none⟩ = some (.int .i64 m.data) ∧
    w.cell? ⟨g, 3, none⟩ = some (.int .i64 (m.at_ : Int)) ∧ w.cell? ⟨g, 4, none⟩ = some (.slice As m.stack.length cs) ∧ (∀ j, w.frozen? ⟨g, j, none⟩ = false) := by
  obtain ⟨Ac, cc, As, cs, hB, hc, ho⟩ := h.raw
  have hf := hB.frozen
  unfold Ms.cells at hB
  obtain ⟨k0, k1, k2, k3, k4, k5, k6, k7⟩ := hB.cells8
  exact ⟨Ac, cc, As, cs, k0, k1, k2, k3, k4, hf⟩
theorem jump_no (m : Ms) (hcut : ¬ m.code.length ≤ m.at_) (h : m.stack.length < 1) : (doV m 13).1 = 15 := by
  unfold doV
  simp only
  rw [if_neg (by decide), if_neg (by decide), if_neg (by decide), if_neg (by decide), if_neg (by decide), if_neg (by decide), if_pos (by trivial), if_neg hcut, if_pos (by omega)]
theorem jump_deep (m : Ms) (hcut : ¬ m.code.length ≤ m.at_) (h : 16 < m.stack.length - 1) : (doV m 13).1 = 15 := by
  unfold doV
  simp only
  rw [if_neg (by decide), if_neg (by decide), if_neg (by decide), if_neg (by decide), if_neg (by decide), if_neg (by decide), if_pos (by trivial), if_neg hcut, if_pos (by omega)]
theorem jump_yes (m : Ms) (hcut : ¬ m.code.length ≤ m.at_) (h : 1 ≤ m.stack.length) (h2 : m.stack.length - 1 ≤ 16) : doV m 13 = if m.stack.getD (m.stack.length - 1) 0 = 0 then (if m.code.length < m.code.getD m.at_ 0 then (10, m) else (0, { m with at_ := m.code.getD m.at_ 0, stack := m.stack.take (m.stack.length - 1) })) else (0, { m with at_ := m.at_ + 1, stack := m.stack.take (m.stack.length - 1) }) := by
  unfold doV
  simp only
  rw [if_neg (by decide), if_neg (by decide), if_neg (by decide), if_neg (by decide), if_neg (by decide), if_neg (by decide), if_pos (by trivial), if_neg hcut, if_neg (by omega)]

/-- The first half: the next byte is read, the place is behind it. -/
theorem vjump_pre (w0 : World) (g : Nat) (m : Ms) (w : World) (hN : NextAt w0 w g m) (hb : ∀ x ∈ m.code, x < 256) (hcut : ¬ m.code.length ≤ m.at_) : ∃ b o cc, w.cell? ⟨g, 0, none⟩ = some (.slice (some ⟨b, o, none⟩) m.code.length cc) ∧ w.cell? ⟨g, 3, none⟩ = some (.int .i64 (m.at_ : Int)) ∧
    w.cell? ⟨b, o + m.at_, none⟩ = some (.int .u8 (m.code.getD m.at_ 0 : Nat)) ∧ w.frozen? ⟨g, 3, none⟩ = false ∧ m.code.getD m.at_ 0 < 256 ∧ NextAt w0 (w.setCell ⟨g, 3, none⟩ (.int .i64 ((m.at_ + 1 : Nat) : Int))) g { m with at_ := m.at_ + 1 } := by
  obtain ⟨Ac, cc, As, cs, hB, hc, ho⟩ := hN.raw
  have hfr := hB.frozen 3
  unfold Ms.cells at hB
  obtain ⟨k0, k1, k2, k3, k4, k5, k6, k7⟩ := hB.cells8
  obtain ⟨b, o, rfl, hbl, hck⟩ := hc.bytes.at_ m.at_ (by omega)
  exact ⟨b, o, cc, k0, k3, hck, hfr, getD_lt hb m.at_, hN.at_ _⟩

set_option maxHeartbeats 1000000 in
theorem vjump_any (w0 : World) (g : Nat) (m : Ms) (w : World) (hN : NextAt w0 w g m) (hs : m.stack.length ≤ 1000) (hb : ∀ x ∈ m.code, x < 256) (hcl : m.code.length ≤ 1000000) (hcut : ¬ m.code.length ≤ m.at_) (r : Int × Ms) (hr : doV m 13 = r) :
    Calls Try.prog 41 #[.pointer (some ⟨g, 0, none⟩)] w fun e w' => e = .returned (.int .i64 r.1) ∧ Ext w0 w' ∧ (r.1 = 0 → NextAt w0 w' g r.2) := by
  have hpre := fun w' (h : Ext w w') => vjump_pre w0 g m w' (hN.ext h) hb hcut
  obtain ⟨b, o, cc, k0, k3, hck, -, hxk, -⟩ := hpre w (Ext.refl w)
  have hno := fun h => jump_no m hcut h
  have hde := fun h => jump_deep m hcut h
  have hye := fun h h2 => jump_yes m hcut h h2
  rw [hr] at hno hde
  have Hpre := Lib.hid hpre
  have Hno := Lib.hid hno
  have Hde := Lib.hid hde
  have Hye := Lib.hid hye
  have Hr := Lib.hid hr
  clear hpre hno hde hye hr hb hN
  generalize hm1 : ({ m with at_ := m.at_ + 1 } : Ms) = m1 at *
  have hms : m1.stack = m.stack ∧ m1.code = m.code ∧ m1.at_ = m.at_ + 1 := by subst hm1; exact ⟨rfl, rfl, rfl⟩
  have Hm1 := Lib.hid hm1
  have Hms := Lib.hid hms
  clear hm1 hms
  generalize hjj : m.code.getD m.at_ 0 = j at *
  generalize hnn : m.code.length = n at *
  generalize haa : m.at_ = a at *
  generalize hss : m.stack.length = ns at *
  have Hss := Lib.hid hss
  have Hnn := Lib.hid hnn
  have Haa := Lib.hid haa
  have Hjj := Lib.hid hjj
  clear hss hnn haa hjj
  have hd : decide (n ≤ a) = false := by simp; omega
  have hai : (a : Int) < (n : Int) := by omega
  go_enter Try.func41, Try.ntmps41
  go_wp2_with fail
  go_quiet (fail)
  have hxq : Ext w (w.drewN nq) := (Ext.refl w).drewN nq
  have j0 := hxq.cell k0
  have j3 := hxq.cell k3
  have jck := hxq.cell hck
  generalize w.drewN nq = w1 at *
  go_wp2_with fail
  go_quiet (fail)
  have hxr : Ext w (w1.drewN nq) := hxq.trans ((Ext.refl w1).drewN nq)
  obtain ⟨_, _, _, -, l3, -, f3, -, hN2⟩ := Hpre.out _ hxr
  clear j0 j3 jck k0 k3 hck
  generalize w1.drewN nq = w2 at *
  rw [show ((a + 1 : Nat) : Int) = (a : Int) + 1 from by simp] at hN2
  have HN2 := Lib.hid hN2
  clear hN2
  go_wp2_with fail
  generalize w2.setCell ⟨g, 3, none⟩ (.int .i64 ((a : Int) + 1)) = w3 at *
  have hns1 : m1.stack.length = ns := by rw [Hms.out.1, Hss.out]
  by_cases hn0 : ns < 1
  · have hN3 := HN2.out
    refine (vpop_no w0 g m1 1 w3 hN3 (by omega) (by omega) (by omega)).mono ?_
    rintro e w4 ⟨rfl, hN4⟩
    have hb4 := hN4.base
    clear hN4 hN3
    go_wp2_with fail
    go_ret
    refine ⟨?_, hb4, ?_⟩
    · rw [Hno.out hn0]; rfl
    · intro h; rw [Hno.out hn0] at h; cases h
  · have hN3 := HN2.out
    refine (vpop_yes w0 g m1 1 w3 hN3 (by omega) (by omega) (by omega)).mono ?_
    rintro e w4 ⟨A4, rfl, hg4, hN4⟩
    rw [hns1, Hms.out.1] at hN4 hg4
    have hb4 := hN4.base
    obtain ⟨Ac4, cc4, As4, cs4, q0, -, -, q3, q4, qf⟩ := hN4.cells
    simp only [Hms.out.2.1, Hnn.out, List.length_take, Hss.out, Nat.min_eq_left (Nat.sub_le ns 1), Hms.out.2.2] at q0 q3 q4
    have qf3 := qf 3
    have HN4 := Lib.hid hN4
    obtain ⟨b4, o4, rfl, -, hl0⟩ := hg4.nums.at_ 0 (by omega)
    clear hN4 hg4 hN3 qf
    have hm2 : ({ m1 with stack := m.stack.take (ns - 1) } : Ms) = { m with at_ := a + 1, stack := m.stack.take (ns - 1) } := by rw [← Hm1.out]
    rw [hm2] at HN4
    clear hm2
    by_cases hdp : 16 < ns - 1
    · have hdi : (16 : Int) < ((ns - 1 : Nat) : Int) := by omega
      generalize ns - 1 = k at *
      go_wp2_with fail
      go_ret
      refine ⟨?_, hb4, ?_⟩
      · rw [Hde.out hdp]; rfl
      · intro h; rw [Hde.out hdp] at h; cases h
    · have hye := Hye.out (by omega) (by omega)
      rw [Hr.out] at hye
      have htop : (m.stack.drop (ns - 1)).getD 0 0 = m.stack.getD (ns - 1) 0 := by simp [List.getD_eq_getElem?_getD]
      rw [htop, Nat.add_zero] at hl0
      have hdi : ((ns - 1 : Nat) : Int) ≤ 16 := by omega
      clear htop
      have Hye2 := Lib.hid hye
      clear hye
      generalize hts : m.stack.take (ns - 1) = ts at *
      generalize m.stack.getD (ns - 1) 0 = top at *
      generalize ns - 1 = k at *
      by_cases ht : top = 0
      · subst ht
        have hye := Hye2.out
        rw [if_pos rfl] at hye
        by_cases hj : n < j
        · rw [if_pos hj] at hye
          have HY := Lib.hid hye
          clear hye
          have hjd : decide (n < j) = true := by simp; omega
          go_wp2_with fail
          go_ret
          have e := HY.out
          subst e
          exact ⟨rfl, hb4, fun h => absurd h (by simp)⟩
        · rw [if_neg hj] at hye
          have hN5 := HN4.out.at_ j
          have HY := Lib.hid hye
          clear hye
          have hjd : decide (n < j) = false := by simp; omega
          have HN5 := Lib.hid hN5
          clear hN5
          go_wp2_with fail
          go_ret
          have e := HY.out
          subst e
          exact ⟨rfl, HN5.out.base, fun _ => HN5.out⟩
      · have hye := Hye2.out
        rw [if_neg ht] at hye
        have ht0 : (top == 0) = false := by simp [ht]
        have HY := Lib.hid hye
        clear hye
        go_wp2_with fail
        go_ret
        have e := HY.out
        subst e
        exact ⟨rfl, hb4, fun _ => HN4.out⟩
end Go.Proofs.Ytlahecofjlaojaa
