/- FramesOnes: the walk. -/
import Derived.Test.YtbijpbkekdeilaaFrPlain
import Derived.Test.YtbijpbkekdeilaaFrWrite
namespace Go.Proofs.Ytbijpbkekdeilaa
set_option linter.unusedVariables false
open Go.RowKit

set_option maxRecDepth 100000 in
set_option maxHeartbeats 1000000 in
theorem ones_walk (A : Option Addr) (n c : Nat) (bs : List Nat) (cut : Int) (A1 : Option Addr) (n1 c1 : Nat) (ms : List Nat) (w : World) (hz : Bytes w A n bs) (hnc : n ≤ c) (hm : c ≤ maxLen) (hb : ∀ x ∈ bs, x < 256)
    (hz1 : Bytes w A1 n1 ms) (hnc1 : n1 ≤ c1) (hm1 : c1 ≤ maxLen) (hb1 : ∀ x ∈ ms, x < 256) :
    Calls Try.prog 14 #[.slice A n c, .int .i64 cut, .slice A1 n1 c1] w fun e w' => e = .returned (.bool true) ∧ Ext w w' := by
  have hlm := Lib.hid hz.len
  have hlm1 := Lib.hid hz1.len
  unfold maxLen at hm hm1
  go_enter Try.func14, Try.ntmps14
  go_wp2_with fail
  refine (known3 w).mono ?_
  rintro e w1 ⟨rfl, hx1⟩
  by_cases hbig : 300 < n
  · go_wp2_with fail
    go_ret
    exact ⟨rfl, hx1⟩
  by_cases hbig1 : 50 < n1
  · go_wp2_with fail
    go_ret
    exact ⟨rfl, hx1⟩
  go_wp2_with fail
  refine (frame_any A n c bs w1 (hz.ext hx1) hnc hb (by omega)).mono ?_
  rintro e w2 ⟨A2, c2, rfl, hz2, hx2⟩
  rw [frameL_of hlm.out] at hz2
  have p1 := fun k h => one_front bs k (by rw [hlm.out]; omega) h
  have p2 := one_more bs ms (by rw [hlm.out]; omega)
  have p3 := fun v h => one_long (frameL bs) v (by rw [frameL_len]; omega) h
  have p4 := fun v h => scan_long (frameL bs) v (by rw [frameL_len]; omega) h
  have hfl : ∀ x ∈ frameL bs, x < 256 := frameL_lt hb (by rw [hlm.out]; omega)
  have hfn := Lib.hid (frameL_len bs)
  rw [hlm.out] at p1
  rw [hlm1.out] at p2
  rw [hlm.out] at hfn
  generalize frameL bs = X at *
  obtain ⟨k, hk, hkn⟩ := emod_nat cut ((n + 8 : Nat) : Int) (n + 8) rfl (by omega)
  obtain ⟨q, hq, hqn⟩ := emod_nat cut 255 255 rfl (by omega)
  have P1 := Lib.hid (p1 k hkn)
  have P2 := Lib.hid p2
  have P3 := Lib.hid (p3 (1 + q) (by omega))
  have P4 := Lib.hid (p4 (1 + q) (by omega))
  clear p1 p2 p3 p4
  go_wp2_with fail
  refine (within3 cut ((n + 8 : Nat) : Int) (by omega) (by omega) _).mono ?_
  rintro e w' ⟨rfl, rfl⟩
  rw [hk]
  have ek : ∀ w, (Instr.slice 35 (.slice A2 (n + 8) c2) none (some (.int .i64 (k : Int))) none).run Try.prog w = .ok (.slice A2 k c2) w := fun w => byte_elem.cut_hi A2 (n + 8) c2 k .i64 k rfl (by have := hz2.le; omega) w
  go_wp2_with fail
  have h1 := one_any A2 k c2 (X.take k) w2 (hz2.bytes.front (by omega)) (by have := hz2.le; omega) (by omega) (fun x hx => hfl x (List.mem_of_mem_take hx))
  rw [P1.out] at h1
  refine h1.mono ?_
  rintro e w3 ⟨A3, c3, rfl, hz3, hx3⟩
  clear h1 ek
  have hX3 := (hz2.ext hx3).ext ((Ext.refl w3).alloc (.cells #[] 5))
  have m1 : n + 8 ≤ maxLen := by unfold maxLen; omega
  have m2 : (n + 8) * 1 ≤ 140737488355328 := by omega
  have m3 : n + 8 + n1 ≤ maxLen := by unfold maxLen; omega
  have m4 : (n + 8 + n1) * 1 ≤ 140737488355328 := by omega
  go_wp2_with (at_builtin; refine wpList_append_new rfl _ _ _ rfl w3.heap.size byte_elem rfl rfl hX3.bytes.rs (bvals_one _) m1 m2 ?_ ?_)
  · exact ((Ext.refl w3).alloc _).le
  intro A4 c4 w4 ho4 hx4'
  have hx4 : Ext w3 w4 := ((Ext.refl w3).alloc _).trans hx4'
  have hz4 := hz1.ext (((hx1.trans hx2).trans hx3).trans hx4)
  go_wp2_with (at_builtin; refine wpList_append_Own rfl _ _ _ rfl w3.heap.size byte_elem rfl ho4 rfl hz4.rs (bvals_one _) m3 m4 ?_ ?_)
  · exact hx4.le
  intro A5 c5 w5 ho5 hg5
  have hx5 : Ext w3 w5 := hx4.grown hg5 (fun k h => (ho4.row k h).1)
  rw [← bvals_append] at ho5
  go_wp2_with fail
  have hg5' := GB.own ho5
  have h2 := one_any A5 (n + 8 + n1) c5 (X ++ ms) w5 hg5'.bytes hg5'.le (by omega) (fun x hx => by
    rcases List.mem_append.1 hx with h | h
    · exact hfl x h
    · exact hb1 x h)
  rw [P2.out] at h2
  clear hg5' hg5 hX3 hx4' hz4
  generalize hE : (if n1 = 0 then 0 else 9) = E at h2
  have hE' : E = 0 ∧ n1 = 0 ∨ E = 9 ∧ 0 < n1 := by split at hE <;> omega
  clear hE
  have m5 : n + 8 ≤ maxLen := m1
  refine h2.mono ?_
  rintro e w6 ⟨A6, c6, rfl, hz6, hx6⟩
  clear h2
  have hX6 := (hz2.ext (hx3.trans (hx5.trans hx6))).ext ((Ext.refl w6).alloc (.cells #[] 5))
  go_wp2_with (at_builtin; refine wpList_append_new rfl _ _ _ rfl w6.heap.size byte_elem rfl rfl hX6.bytes.rs (bvals_one _) m1 m2 ?_ ?_)
  · exact ((Ext.refl w6).alloc _).le
  intro A7 c7 w7 ho7 hx7'
  have hx7 : Ext w6 w7 := ((Ext.refl w6).alloc _).trans hx7'
  clear hx7' hX6
  obtain ⟨g, rfl, hgB, hgs, hgc, hgf⟩ := ho7.pos (by omega)
  have hset := ho7.set_ (by omega) 3 (by omega) (.int .u8 (((1 + q : Nat)) : Int))
  rw [bvals_set] at hset
  have hxs : Ext w6 (w7.setCell ⟨g, 3, none⟩ (.int .u8 ((1 + q : Nat) : Int))) := hx7.setCell hgB _
  have hcell := hgc 3 (.int .u8 ((X.getD 3 0 : Nat) : Int)) (by
    have : 3 < X.length := by rw [hfn.out]; omega
    simp [bvals, this])
  have hfr := hgf 3
  have hwi := within3 cut 255 (by omega) (by omega)
  rw [hq] at hwi
  clear hgc hgf
  go_wp2_with fail
  refine (hwi _).mono ?_
  rintro e w' ⟨rfl, rfl⟩
  go_wp2_with fail
  rw [show ((1 + q : Nat) : Int) = 1 + (q : Int) from by omega] at hset hxs
  clear hcell hfr hgs
  generalize w7.setCell ⟨g, 3, none⟩ (.int .u8 (1 + (q : Int))) = w8 at *
  have hG := GB.own hset
  have hYl : ∀ x ∈ X.set 3 (1 + q), x < 256 := set_lt hfl 3 (1 + q) (by omega)
  have h3 := one_any (some ⟨g, 0, none⟩) (n + 8) c7 (X.set 3 (1 + q)) w8 hG.bytes hG.le (by omega) hYl
  rw [P3.out] at h3
  refine h3.mono ?_
  rintro e w9 ⟨A9, c9, rfl, hz9, hx9⟩
  clear h3
  go_wp2_with fail
  have h4 := scan_any (some ⟨g, 0, none⟩) (n + 8) c7 (X.set 3 (1 + q)) w9 (hG.ext hx9).bytes hG.le hG.2.1 (by omega) hYl
  rw [P4.out] at h4
  refine h4.mono ?_
  rintro e w10 ⟨A10, c10, rfl, hc10, hm10, hz10, hx10⟩
  clear h4
  have hX : Ext w w10 := ((((hx1.trans hx2).trans hx3).trans (hx5.trans hx6)).trans hxs).trans (hx9.trans hx10)
  rcases hE' with ⟨rfl, h0⟩ | ⟨rfl, h0⟩
  · have e0 : ((n1 : Int) == 0) = true := by simp; omega
    go_wp2_with fail
    go_ret
    exact ⟨rfl, hX⟩
  · have e0 : ((n1 : Int) == 0) = false := by simp; omega
    go_wp2_with fail
    go_ret
    exact ⟨rfl, hX⟩
end Go.Proofs.Ytbijpbkekdeilaa
