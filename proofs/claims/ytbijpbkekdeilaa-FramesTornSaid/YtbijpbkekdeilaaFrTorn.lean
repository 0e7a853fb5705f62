/- FramesTorn: the walk. -/
import Derived.Test.YtbijpbkekdeilaaFrPlain
import Derived.Test.YtbijpbkekdeilaaFrWrite
namespace Go.Proofs.Ytbijpbkekdeilaa
set_option linter.unusedVariables false
open Go.RowKit

set_option maxRecDepth 100000 in
set_option maxHeartbeats 1000000 in
theorem torn_walk (A : Option Addr) (n c : Nat) (rs : List (List Nat)) (A1 : Option Addr) (n1 c1 : Nat) (ms : List Nat) (cut : Int) (w : World) (hz : Rws w A n rs) (hnc : n ≤ c) (hm : c ≤ maxLen) (hb : ∀ r ∈ rs, ∀ x ∈ r, x < 256)
    (hz1 : Bytes w A1 n1 ms) (hnc1 : n1 ≤ c1) (hm1 : c1 ≤ maxLen) (hb1 : ∀ x ∈ ms, x < 256) :
    Calls Try.prog 12 #[.slice A n c, .slice A1 n1 c1, .int .i64 cut] w fun e w' => e = .returned (.bool true) ∧ Ext w w' := by
  have hlm := Lib.hid hz.len
  have hlm1 := Lib.hid hz1.len
  have hcm := hm
  unfold maxLen at hm hm1
  go_enter Try.func12, Try.ntmps12
  go_wp2_with fail
  refine (known3 w).mono ?_
  rintro e w1 ⟨rfl, hx1⟩
  go_wp2_with fail
  refine (few3 A n c rs w1 (hz.ext hx1) (Nat.le_trans hnc hcm)).mono ?_
  rintro e w' ⟨rfl, rfl⟩
  cases hfw : fewB rs
  · have Hfw := Lib.hid hfw
    clear hfw
    go_wp2_with fail
    go_ret
    exact ⟨rfl, hx1⟩
  by_cases hbig1 : 300 < n1
  · have Hfw := Lib.hid hfw
    clear hfw
    go_wp2_with fail
    go_ret
    exact ⟨rfl, hx1⟩
  obtain ⟨f1, f2⟩ := fewB_yes hfw
  rw [hlm.out] at f1
  clear hfw
  go_wp2_with fail
  refine (log3 A n c rs w1 (hz.ext hx1) (by omega) f2 hb).mono ?_
  rintro e w2 ⟨A2, c2, rfl, ho2, hx2⟩
  have hll := logL_len f2
  have hlb := logL_lt hb f2
  rw [hlm.out] at hll
  have t1 := fun k h => scan_torn rs ms k (fun b h => by have := f2 b h; omega) (by rw [hlm1.out]; omega) h
  have t2 := scan_whole rs ms (fun b h => by have := f2 b h; omega) (by rw [hlm1.out]; omega)
  rw [hlm1.out] at t1 t2
  generalize hL : logL rs = L at *
  generalize hN : L.length = N at *
  have Hln := Lib.hid hN
  clear hN hL
  have Hf2 := Lib.hid f2
  clear f2
  go_wp2_with fail
  refine (frame_any A1 n1 c1 ms w2 (hz1.ext (hx1.trans hx2)) hnc1 hb1 (by omega)).mono ?_
  rintro e w3 ⟨A3, c3, rfl, hz3, hx3⟩
  rw [frameL_of hlm1.out] at hz3
  have hfl : ∀ x ∈ frameL ms, x < 256 := frameL_lt hb1 (by rw [hlm1.out]; omega)
  have hfn := Lib.hid (frameL_len ms)
  rw [hlm1.out] at hfn
  generalize frameL ms = X at *
  obtain ⟨k, hk, hkn⟩ := emod_nat cut ((n1 + 8 : Nat) : Int) (n1 + 8) rfl (by omega)
  have T1 := Lib.hid (t1 k hkn)
  have T2 := Lib.hid t2
  clear t1 t2
  go_wp2_with fail
  refine (within3 cut ((n1 + 8 : Nat) : Int) (by omega) (by omega) _).mono ?_
  rintro e w' ⟨rfl, rfl⟩
  rw [hk]
  have ek : ∀ w, (Instr.slice 35 (.slice A3 (n1 + 8) c3) none (some (.int .i64 (k : Int))) none).run Try.prog w = .ok (.slice A3 k c3) w := fun w => byte_elem.cut_hi A3 (n1 + 8) c3 k .i64 k rfl (by have := hz3.le; omega) w
  have hL3 : GB w3 A2 N c2 L := (GB.own ho2).ext hx3
  have hX : Ext w w3 := (hx1.trans hx2).trans hx3
  have m1 : N ≤ maxLen := by unfold maxLen; omega
  have m2 : N * 1 ≤ 140737488355328 := by omega
  have m3 : N + k ≤ maxLen := by unfold maxLen; omega
  have m4 : (N + k) * 1 ≤ 140737488355328 := by omega
  have m5 : N + (n1 + 8) ≤ maxLen := by unfold maxLen; omega
  have m6 : (N + (n1 + 8)) * 1 ≤ 140737488355328 := by omega
  have hscan1 : ∀ B A c w', Own w' B 5 1 A (N + k) c (bvals L ++ bvals (X.take k)) → Calls Try.prog 25 #[.slice A (N + k) c] w' fun e w'' => ∃ A' c', e = .returned (.tuple #[.slice A' n c', .int .i64 (N : Int)]) ∧ Rws w'' A' n rs ∧ Ext w' w'' := by
    intro B A c w' ho
    rw [← bvals_append] at ho
    have hg := GB.own ho
    have := scan_any A (N + k) c (L ++ X.take k) w' hg.bytes hg.le hg.2.1 (by omega) (fun x hx => by
      rcases List.mem_append.1 hx with h | h
      · exact hlb x h
      · exact hfl x (List.mem_of_mem_take h))
    rw [T1.out] at this
    simp only [hlm.out] at this
    refine this.mono ?_
    rintro e w'' ⟨A', c', h1, h2, h3, h4, h5⟩
    exact ⟨A', c', h1, h4, h5⟩
  have hscan2 : ∀ B A c w', Own w' B 5 1 A (N + (n1 + 8)) c (bvals L ++ bvals X) → Calls Try.prog 25 #[.slice A (N + (n1 + 8)) c] w' fun e w'' => ∃ A' c', e = .returned (.tuple #[.slice A' (n + 1) c', .int .i64 ((N + (n1 + 8) : Nat) : Int)]) ∧ Rws w'' A' (n + 1) (rs ++ [ms]) ∧ Ext w' w'' := by
    intro B A c w' ho
    rw [← bvals_append] at ho
    have hg := GB.own ho
    have := scan_any A (N + (n1 + 8)) c (L ++ X) w' hg.bytes hg.le hg.2.1 (by omega) (fun x hx => by
      rcases List.mem_append.1 hx with h | h
      · exact hlb x h
      · exact hfl x h)
    rw [T2.out] at this
    simp only [List.length_append, List.length_cons, List.length_nil, hlm.out] at this
    refine this.mono ?_
    rintro e w'' ⟨A', c', h1, h2, h3, h4, h5⟩
    exact ⟨A', c', h1, h4, h5⟩
  have hXk : Bytes w3 A3 k (X.take k) := hz3.bytes.front (by omega)
  clear hcm hk
  go_wp2_with fail
  go_region_held3 (fun w' => Ext w3 w')
    (first | assumption | (repeat (first | assumption | exact Ext.refl _ | refine Ext.drew ?_ | refine Ext.alloc ?_ _)))
    (first
      | (refine step_append_new rfl (.tmp 37) (.tmp 38) _ rfl w3.heap.size byte_elem rfl rfl (hL3.ext (by assumption)).bytes.rs (bvals_one _) m1 m2 ?_ ?_; exact Ext.le (by assumption); intro A4 c4 w4 ho4 hx4'; have hx4 : Ext w3 w4 := Ext.trans (by assumption) hx4')
      | (refine step_append_Own rfl (.tmp 39) (.tmp 42) _ rfl w3.heap.size byte_elem rfl ho4 rfl (hXk.ext hx4).rs (bvals_one _) m3 m4 ?_ ?_; exact Ext.le (by assumption); intro A5 c5 w5 ho5 hg5; have hx5 : Ext w3 w5 := Ext.grown hx4 hg5 (fun k h => (ho4.row k h).1))
      | (go_at_call 25; refine (hscan1 _ _ _ _ ho5).mono ?_; rintro e w6 ⟨A6, c6, rfl, hr6, hx6'⟩; have hx6 : Ext w3 w6 := hx5.trans hx6'))
  have hL6 := (hL3.ext hx6).ext ((Ext.refl w6).alloc (.cells #[] 5))
  have hx6s : w6.heap.size ≤ (w6.alloc (.cells #[] 5)).heap.size := ((Ext.refl w6).alloc _).le
  clear ho4 hx4' hx4 ho5 hg5 hx5 hx6' hscan1 hXk ek
  go_wp2_with (at_builtin; refine wpList_append_new rfl (.tmp 48) _ _ rfl w6.heap.size byte_elem rfl rfl hL6.bytes.rs (bvals_one _) m1 m2 hx6s ?_)
  intro A7 c7 w7 ho7 hx7'
  have hx7 : Ext w6 w7 := ((Ext.refl w6).alloc _).trans hx7'
  have hX7 := hz3.ext (hx6.trans hx7)
  have hx7s := hx7.le
  clear hx7' hL6
  go_wp2_with (at_builtin; refine wpList_append_Own rfl (.tmp 50) _ _ rfl w6.heap.size byte_elem rfl ho7 rfl hX7.bytes.rs (bvals_one _) m5 m6 hx7s ?_)
  intro A8 c8 w8 ho8 hg8
  have hx8 : Ext w6 w8 := hx7.grown hg8 (fun k h => (ho7.row k h).1)
  clear ho7 hg8 hX7
  go_wp2_with fail
  refine (hscan2 _ _ _ _ ho8).mono ?_
  rintro e w9 ⟨A9, c9, rfl, hr9, hx9'⟩
  have hx9 : Ext w6 w9 := hx8.trans hx9'
  clear hscan2 ho8
  have hxw : Ext w w9 := (hX.trans hx6).trans hx9
  obtain ⟨b, o, A10, n10, c10, rfl, hbb, hc10, h1, h2, h3⟩ := hr9.at_ n (by omega)
  have hgd : (rs ++ [ms]).getD n [] = ms := by simp [← hlm.out]
  rw [hgd] at h3
  have hn10 : n10 = n1 := by have h4 := h3.len; have h5 := hlm1.out; omega
  subst hn10
  have hcz : ∀ w', Ext w9 w' → w'.cell? ⟨b, o + n, none⟩ = some (.slice A10 n10 c10) := fun w' h => h.cell hc10
  have sz : ∀ w', Ext w9 w' → (convert 35 9 (.slice A10 n10 c10)).run Try.prog w' = .ok (.string (strOf ms)) w' := fun w' h => run_string A10 n10 c10 ms w' (h3.ext h)
  have sm : ∀ w', Ext w9 w' → (convert 35 9 (.slice A1 n10 c1)).run Try.prog w' = .ok (.string (strOf ms)) w' := fun w' h => run_string A1 n10 c1 ms w' (hz1.ext (hxw.trans h))
  have hrow : ∀ w', Ext w9 w' → Calls Try.prog 27 #[.slice A6 n c6, .slice A n c] w' fun e w'' => e = .returned (.bool true) ∧ Ext w' w'' := fun w' h => by
    have := rows3 A6 n c6 rs A n c rs w' ((hr6.ext hx9).ext h) (hz.ext (hxw.trans h)) (by unfold maxLen; omega) hb hb
    rw [sameR_self] at this
    exact this
  have hw1 : IntKind.i64.wrap ((n : Int) + 1) = (n : Int) + 1 := IntWalk.i64_in _ (by omega)
  have hw2 : IntKind.i64.wrap ((N : Int) + ((n10 : Int) + 8)) = (N : Int) + ((n10 : Int) + 8) := IntWalk.i64_in _ (by omega)
  have hi0 : (0 : Int) ≤ (n : Int) := by omega
  have hi1 : (n : Int) < (n : Int) + 1 := by omega
  clear hc10 hgd h3 hr9 hr6 hz3 hL3 hz hz1
  go_wp2_with fail
  go_region_held3 (fun w' => Ext w9 w')
    (first | assumption | (repeat (first | assumption | exact Ext.refl _ | refine Ext.drew ?_ | refine Ext.alloc ?_ _)))
    (first
      | (go_at_call 27; refine (hrow _ (by assumption)).mono ?_; rintro e w10 ⟨rfl, hx10'⟩; have hx10 : Ext w9 w10 := Ext.trans (by assumption) hx10'))
  go_wp2_with fail
  go_ret
  exact ⟨rfl, hxw.trans hx10⟩
end Go.Proofs.Ytbijpbkekdeilaa
