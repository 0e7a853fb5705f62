/- FramesTurned: the walk. -/
import Derived.Test.YtbijpbkekdeilaaFrPlain
import Derived.Test.YtbijpbkekdeilaaFrWrite
namespace Go.Proofs.Ytbijpbkekdeilaa
set_option linter.unusedVariables false
open Go.RowKit

theorem logL_take_lt {rs : List (List Nat)} {i : Nat} (hi : i ≤ 10) (hl : ∀ r ∈ rs, r.length ≤ 300) : (logL (rs.take i)).length ≤ 3080 := by
  have := logL_len (rs := rs.take i) (fun r hr => hl r (List.mem_of_mem_take hr))
  have h2 : (rs.take i).length ≤ 10 := by rw [List.length_take]; omega
  omega
theorem xor_byte (x b : Nat) (hx : x < 256) (hb : b < 8) : ∃ v : Nat, v < 256 ∧ v ≠ x ∧ bits .xor .u8 (x : Int) ((2 : Int) ^ min b 8 % 256) = (v : Int) := by
  have h2 : 2 ^ b < 256 := by
    have : b = 0 ∨ b = 1 ∨ b = 2 ∨ b = 3 ∨ b = 4 ∨ b = 5 ∨ b = 6 ∨ b = 7 := by omega
    rcases this with rfl | rfl | rfl | rfl | rfl | rfl | rfl | rfl <;> decide
  refine ⟨x ^^^ 2 ^ b, Nat.xor_lt_two_pow (n := 8) hx h2, ?_, ?_⟩
  · intro h
    have h3 : x ^^^ 2 ^ b = x ^^^ 0 := by rw [h, Nat.xor_zero]
    have := xor_lc h3
    have : 0 < 2 ^ b := Nat.two_pow_pos b
    omega
  · rw [show min b 8 = b from by omega, show (2 : Int) ^ b % 256 = ((2 ^ b : Nat) : Int) from by
      have e : ((2 ^ b : Nat) : Int) = (2 : Int) ^ b := Int.natCast_pow 2 b
      rw [← e]
      clear e
      generalize 2 ^ b = t at *
      omega]
    exact u8_xor_nat x (2 ^ b) hx h2

set_option maxRecDepth 100000 in
set_option maxHeartbeats 1000000 in
theorem turn_walk (A : Option Addr) (n c : Nat) (rs : List (List Nat)) (at_ bit : Int) (w : World) (hz : Rws w A n rs) (hnc : n ≤ c) (hm : c ≤ maxLen) (hb : ∀ r ∈ rs, ∀ x ∈ r, x < 256) (hat : -9223372036854775808 ≤ at_ ∧ at_ ≤ 9223372036854775807) :
    Calls Try.prog 8 #[.slice A n c, .int .i64 at_, .int .i64 bit] w fun e w' => e = .returned (.bool true) ∧ Ext w w' := by
  have hlm := Lib.hid hz.len
  have hcm := hm
  unfold maxLen at hm
  go_enter Try.func8, Try.ntmps8
  go_wp2_with fail
  refine (known3 w).mono ?_
  rintro e w1 ⟨rfl, hx1⟩
  by_cases hn0 : n = 0
  · have e0 : ((n : Int) == 0) = true := by simp; omega
    have Hn0 := Lib.hid hn0
    clear hn0
    go_wp2_with fail
    go_ret
    exact ⟨rfl, hx1⟩
  have e0 : ((n : Int) == 0) = false := by simp; omega
  go_wp2_with fail
  refine (few3 A n c rs w1 (hz.ext hx1) (Nat.le_trans hnc hcm)).mono ?_
  rintro e w' ⟨rfl, rfl⟩
  cases hfw : fewB rs
  · have Hfw := Lib.hid hfw
    clear hfw
    go_wp2_with fail
    go_ret
    exact ⟨rfl, hx1⟩
  obtain ⟨f1, f2⟩ := fewB_yes hfw
  rw [hlm.out] at f1
  have Hf2 := Lib.hid f2
  clear hfw f2
  obtain ⟨hit, hh, hhn⟩ := emod_nat at_ (n : Int) n rfl (by omega)
  have hwi := within3 at_ (n : Int) (by omega) (by omega) w1
  rw [hh] at hwi
  have Hh := Lib.hid hh
  clear hh
  go_wp2_with fail
  refine hwi.mono ?_
  rintro e w' ⟨rfl, rfl⟩
  clear hwi
  go_wp2_with fail
  refine (log3 A n c rs w1 (hz.ext hx1) (by omega) Hf2.out hb).mono ?_
  rintro e w2 ⟨A2, c2, rfl, ho2, hx2⟩
  have hz2 := hz.ext (hx1.trans hx2)
  go_wp2_with fail
  go_loop [9, 10] (fun s i => ∃ k : Nat, k ≤ hit ∧ i = .int .i64 k ∧ s = .int .i64 ((logL (rs.take k)).length : Int)) (fun _ i => hit - (intOf i).toNat)
  case atStart => exact ⟨0, by omega, rfl, rfl⟩
  case round =>
    obtain ⟨k, hk, rfl, rfl⟩ := hrel
    have hs1 := logL_take_lt (i := k) (by omega) Hf2.out
    by_cases hlt : k < hit
    · obtain ⟨b, o, A1, n1, c1, rfl, hbb, hc, h1, h2, h3⟩ := hz2.at_ k (by omega)
      have hs2 := logL_take_len rs k (by rw [hlm.out]; omega)
      rw [h3.len] at hs2
      have hn1 : n1 ≤ 300 := by
        have := Hf2.out (rs.getD k []) (by simp [show k < rs.length from by rw [hlm.out]; omega])
        rw [h3.len] at this
        exact this
      have Hs2 := Lib.hid hs2
      clear hs2 h3
      generalize (logL (rs.take k)).length = S at *
      have hki : (k : Int) < (hit : Int) := by omega
      go_wp2_with fail
      go_round
      case rel => exact ⟨k + 1, by omega, by go_num, by rw [Hs2.out]; go_num⟩
      case measure => simp [intOf]; omega
    · have : k = hit := by omega
      subst this
      obtain ⟨b, o, A1, n1, c1, rfl, hbb0, hc0, h1, h2, h3⟩ := (hz.ext hx1).at_ k hhn
      have hc := hx2.cell hc0
      have hbb := hx2.lt hbb0
      have hl1 := Lib.hid h3.len
      have hn1 : n1 ≤ 300 := by
        have := Hf2.out (rs.getD k []) (by simp [show k < rs.length from by rw [hlm.out]; omega])
        rw [h3.len] at this
        exact this
      have hll := logL_take_len rs k (by rw [hlm.out]; omega)
      rw [hl1.out] at hll
      have hsp := congrArg List.length (logL_split rs k (by rw [hlm.out]; omega))
      rw [List.length_append, List.length_append, frameL_len, hl1.out] at hsp
      have hsc := fun j v => scan_turned rs k j v (by rw [hlm.out]; omega) (fun b h => by have := Hf2.out b h; omega) hb
      rw [hl1.out] at hsc
      have hlb := logL_lt hb Hf2.out
      have hll2 := logL_len Hf2.out
      rw [hlm.out] at hll2
      generalize hS : (logL (rs.take k)).length = S at *
      generalize hL : logL rs = L at *
      generalize hN : L.length = N at *
      have Hsc := Lib.hid hsc
      have HN := Lib.hid hN
      clear hS hL hN hsc hll
      have hSN : S + (n1 + 8) ≤ N := by omega
      clear hsp h3
      go_wp2_with fail
      obtain ⟨p, hp, hpn⟩ := emod_nat (at_.tdiv (n : Int)) (4 + (n1 : Int)) (4 + n1) (by omega) (by omega)
      refine (within3 (at_.tdiv (n : Int)) (4 + (n1 : Int)) (by omega) (by omega) w2).mono ?_
      rintro e w' ⟨rfl, rfl⟩
      rw [hp]
      have Hp := Lib.hid hp
      clear hp
      obtain ⟨q, hq, hqn⟩ := emod_nat bit 8 8 rfl (by omega)
      have hwi : ∀ w, Calls Try.prog 24 #[.int .i64 bit, .int .i64 8] w fun e w' => e = .returned (.int .i64 (q : Int)) ∧ w' = w := fun w => by
        rw [← hq]
        exact (within3 bit 8 (by omega) (by omega) w).mono fun e w' h => ⟨h.1, h.2.symm⟩
      have Hq := Lib.hid hq
      clear hq
      obtain ⟨g, rfl, hgB, hgs, hgc, hgf⟩ := ho2.pos (by omega)
      have hcell := hgc (S + (4 + p)) (.int .u8 ((L.getD (S + (4 + p)) 0 : Nat) : Int)) (by
        have : S + (4 + p) < L.length := by rw [HN.out]; omega
        simp [bvals, this])
      have hfr := hgf (S + (4 + p))
      have hxv := getD_lt hlb (S + (4 + p))
      obtain ⟨v, hv1, hv2, hv3⟩ := xor_byte (L.getD (S + (4 + p)) 0) q hxv hqn
      have hsc := Hsc.out (4 + p) v (by omega) (by omega) hv1 hv2
      have Hsc2 := Lib.hid hsc
      have hset := ho2.set_ (by omega) (S + (4 + p)) (by omega) (.int .u8 (v : Int))
      rw [bvals_set] at hset
      have hxs : Ext w1 (w2.setCell ⟨g, S + (4 + p), none⟩ (.int .u8 (v : Int))) := hx2.setCell hgB _
      have hYl := set_lt hlb (S + (4 + p)) v hv1
      clear hsc hgc hgf hv2
      generalize L.getD (S + (4 + p)) 0 = x at *
      have hKN : S + (4 + p) < N := by omega
      go_wp2_with fail
      have hKe : (S : Int) + 4 + (p : Int) = ((S + (4 + p) : Nat) : Int) := by omega
      rw [hKe]
      clear hKe
      generalize S + (4 + p) = K at *
      have hK0 : (0 : Int) ≤ (K : Int) := by omega
      have hK1 : (K : Int) < (N : Int) := by omega
      refine wp_region_still_tail 9 (by kernel_rfl) (by kernel_rfl) ?_
      simp only [List.take_succ_cons, List.take_zero, List.drop_succ_cons, List.drop_zero]
      repeat (first | still_step | still_call (hwi _))
      refine wpStill_nil ?_
      change wpList _ _ _ _ _ w2.drew
      go_wp2_with fail
      clear hcell hfr hgs
      generalize w2.setCell ⟨g, K, none⟩ (.int .u8 (v : Int)) = w4 at *
      have hxd : Ext w4 w4.drew := (Ext.refl _).drew
      have hx4 : Ext w1 w4.drew := hxs.trans hxd
      have hG := (GB.own hset).ext hxd
      generalize w4.drew = w5 at *
      have hsc := Hsc2.out
      have h5 := scan_any (some ⟨g, 0, none⟩) N c2 (L.set K v) w5 hG.bytes hG.le hG.2.1 (by omega) hYl
      rw [hsc.1] at h5
      have htl : (rs.take k).length = k := by rw [List.length_take, hlm.out]; omega
      simp only [htl] at h5
      have Htl := Lib.hid htl
      clear htl hsc
      refine h5.mono ?_
      rintro e w6 ⟨A6, c6, rfl, hc6, hm6, hz6, hx6⟩
      clear h5
      have hx7 : Ext w1 w6 := hx4.trans hx6
      have hcw := hx7.cell hc0
      have hbw := hx7.lt hbb0
      have hG6 := hG.ext hx6
      have hsc := Hsc2.out.2
      have hbt := hG6.bytes.cut (lo := S) (hi := S + (8 + n1)) (c := c2) (by omega) (by omega) hG6.le
      have ecut : ∀ w, (Instr.slice 35 (.slice (some ⟨g, 0, none⟩) N c2) (some (.int .i64 (S : Int))) (some (.int .i64 ((S : Int) + 8 + (n1 : Int)))) none).run Try.prog w = .ok (.slice (cutA (some ⟨g, 0, none⟩) c2 S 1) (S + (8 + n1) - S) (c2 - S)) w := fun w => byte_elem.cut_both _ N c2 S (S + (8 + n1)) .i64 .i64 S _ rfl (by omega) (by omega) (by have := hG6.le; omega) w
      rw [show S + (8 + n1) - S = n1 + 8 from by omega] at hbt ecut
      generalize cutA (some ⟨g, 0, none⟩) c2 S 1 = A7 at hbt ecut
      have h7 := one_any A7 (n1 + 8) (c2 - S) _ w6 hbt (by have := hG6.le; omega) (by omega) (fun x hx => hYl x (List.mem_of_mem_drop (List.mem_of_mem_take hx)))
      rw [hsc] at h7
      clear hsc hc0 hbb0 hc hbb hbt hG6
      go_wp2_with fail
      refine h7.mono ?_
      rintro e w7 ⟨A8, c8, rfl, hg8, hx8⟩
      clear h7 ecut
      have hfr3 : ∀ w', Ext w7 w' → Calls Try.prog 27 #[.slice A6 k c6, .slice (some ⟨b, o, none⟩) k c] w' fun e w'' => e = .returned (.bool true) ∧ Ext w' w'' := fun w' h => by
        have h9 : Ext w1 w' := (hx7.trans hx8).trans h
        have := rows3 A6 k c6 (rs.take k) (some ⟨b, o, none⟩) k c (rs.take k) w' (hz6.ext (hx8.trans h)) (((hz.ext hx1).ext h9).front (by omega)) (by unfold maxLen; omega) (fun r h => hb r (List.mem_of_mem_take h)) (fun r h => hb r (List.mem_of_mem_take h))
        rw [sameR_self] at this
        exact this
      have ehi : ∀ w, (Instr.slice 34 (.slice (some ⟨b, o, none⟩) n c) none (some (.int .i64 (k : Int))) none).run Try.prog w = .ok (.slice (some ⟨b, o, none⟩) k c) w := fun w => row_elem.cut_hi _ n c k .i64 k rfl (by omega) w
      go_wp2_with fail
      refine (hfr3 _ (Ext.refl _)).mono ?_
      rintro e w8 ⟨rfl, hx9⟩
      go_wp2_with fail
      go_ret
      exact ⟨rfl, hx1.trans (((hx7.trans hx8)).trans hx9)⟩
end Go.Proofs.Ytbijpbkekdeilaa
