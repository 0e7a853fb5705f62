/- DiskRoom: the walk. -/
import Derived.Test.YtpgndejmhegklaaDkHelp
import Derived.IntWalk
import Derived.Deep.CutBlock
namespace Go.Proofs.Ytpgndejmhegklaa
set_option linter.unusedVariables false
open Go.RowKit

theorem tdiv_bd {x : Int} (k : Int) (hk : 0 < k) (h : -9223372036854775808 ≤ x ∧ x ≤ 9223372036854775807) : -9223372036854775808 ≤ x.tdiv k ∧ x.tdiv k ≤ 9223372036854775807 := by
  by_cases h0 : 0 ≤ x
  · rw [Int.tdiv_eq_ediv_of_nonneg h0]
    have h1 := Int.ediv_le_self k h0
    have h2 := Int.ediv_nonneg h0 (Int.le_of_lt hk)
    omega
  · have e : x = -(-x) := by omega
    rw [e, Int.neg_tdiv, Int.tdiv_eq_ediv_of_nonneg (by omega : 0 ≤ -x)]
    have h1 := Int.ediv_le_self k (by omega : 0 ≤ -x)
    have h2 := Int.ediv_nonneg (by omega : 0 ≤ -x) (Int.le_of_lt hk)
    omega
theorem logN_any (g : Nat) (d : Dsk) (n : Nat) (hn : d.log.length = n) (w : World) (hD : DiskAt w g d) :
    Calls Try.prog 17 #[.pointer (some ⟨g, 0, none⟩)] w fun e w' => ∃ A' c', e = .returned (.slice A' n c') ∧ GB w' A' n c' d.log ∧ Ext w w' := by
  subst hn
  exact log_any g d w hD
theorem snapN_any (g : Nat) (d : Dsk) (n : Nat) (hn : d.snap.length = n) (w : World) (hD : DiskAt w g d) :
    Calls Try.prog 21 #[.pointer (some ⟨g, 0, none⟩)] w fun e w' => ∃ A' c', e = .returned (.slice A' n c') ∧ GB w' A' n c' d.snap ∧ Ext w w' := by
  subst hn
  exact snap_any g d w hD
/-- A disk that is not to stop. -/
structure Calm (d : Dsk) (room : Nat) : Prop where
  dead : d.dead = false
  left : d.left = 0
  room : d.room = room
theorem Calm.spend {d : Dsk} {r : Nat} (h : Calm d r) : d.spend = d := by unfold Dsk.spend; rw [if_neg (by have := h.left; omega)]
theorem Calm.code {d : Dsk} {r : Nat} (h : Calm d r) : d.code = 0 := by unfold Dsk.code; rw [if_neg (by simp [h.dead])]
theorem Calm.append {d : Dsk} {r : Nat} (h : Calm d r) (b : List Nat) : d.append b = if r < d.log.length + d.snap.length + b.length then (19, d) else (0, { d with log := d.log ++ b }) := by
  have hs := h.spend
  have hc := h.code
  obtain ⟨h1, h2, rfl⟩ := h
  unfold Dsk.append
  rw [if_neg (by simp [h1]), hs, hc]
theorem Calm.swap {d : Dsk} {r : Nat} (h : Calm d r) (b : List Nat) : d.swap b = if r < b.length then (19, d) else (0, { d with snap := b, log := [], synced := 0 }) := by
  have hs := h.spend
  have hc := h.code
  obtain ⟨h1, h2, rfl⟩ := h
  by_cases hm : d.room < b.length
  · unfold Dsk.swap
    rw [if_neg (by simp [h1]), if_pos hm, if_pos hm]
  · rw [swap_at d b h1 (by omega), hs, hc, if_neg hm, if_pos (Or.inl h1)]
theorem Calm.cut {d : Dsk} {r : Nat} (h : Calm d r) (m : Nat) : d.cut (m : Int) = if d.log.length < m then (1, d) else (0, { d with log := d.log.take m, synced := m }) := by
  have hs := h.spend
  have hc := h.code
  obtain ⟨h1, h2, rfl⟩ := h
  by_cases hm : d.log.length < m
  · unfold Dsk.cut
    rw [if_neg (by simp [h1]), if_pos hm, if_pos (by omega)]
  · rw [cut_at d m h1 (by omega), hs, hc, if_neg hm, if_pos (Or.inl h1)]
theorem zeros8_lt (m : Nat) : ∀ x ∈ zeros8 m, x < 256 := fun x hx => by unfold zeros8 at hx; rw [(List.mem_replicate.1 hx).2]; decide
theorem made_bytes (w : World) (m : Nat) (hm : m ≤ 1000000) : Bytes (w.alloc (.cells (madeB m) 5)) (some ⟨w.heap.size, 0, none⟩) m (zeros8 m) :=
  .of (made_own w 0 m (Nat.zero_le _) (by omega)).rs (by simp [zeros8])

set_option maxRecDepth 100000 in
set_option maxHeartbeats 4000000 in
theorem room_walk (room : Int) (A1 : Option Addr) (n1 c1 : Nat) (zs : List Int) (w : World)
    (hz1 : Nums .i64 w A1 n1 zs) (hnc1 : n1 ≤ c1) (hm1 : c1 ≤ maxLen) (hw : ∀ x ∈ zs, -9223372036854775808 ≤ x ∧ x ≤ 9223372036854775807) :
    Calls Try.prog 5 #[.int .i64 room, .slice A1 n1 c1] w fun e w' => e = .returned (.bool true) ∧ Ext w w' := by
  have hl1 := Lib.hid hz1.1
  unfold maxLen at hm1
  have hwr := fun w => within4 room 200 (by omega) (by omega) w
  obtain ⟨p, hp, hp200⟩ := emod_natW room 200 200 rfl (by omega)
  rw [hp] at hwr
  clear hp
  have hpi : (p : Int) < 200 := by omega
  go_enter Try.func5, Try.ntmps5
  go_wp2_with fail
  refine (known4 w).mono ?_
  rintro e w0 ⟨rfl, hx0⟩
  go_wp2_with fail
  refine (hwr _).mono ?_
  rintro e w1 ⟨rfl, rfl⟩
  clear hwr
  have hnew := new_any (1 + p) w1 (by omega) (by omega)
  rw [show ((1 + p : Nat) : Int) = 1 + (p : Int) from by omega] at hnew
  go_wp2_with fail
  refine hnew.mono ?_
  rintro e w2 ⟨rfl, hD2, hx2⟩
  clear hnew
  go_wp2_with fail
  go_loopw [7, 8, 9] (fun a b i wr => ∃ (k : Nat) (d : Dsk), k ≤ 30 ∧ i = .int .i64 (k : Int) ∧ a = .int .i64 (d.log.length : Int) ∧ b = .int .i64 (d.snap.length : Int) ∧ DiskAt wr w1.heap.size d ∧ Calm d (1 + p) ∧ Ext w1 wr) (fun _ _ i _ => 30 - (intOf i).toNat)
  case atStart => exact ⟨0, _, by omega, rfl, rfl, rfl, hD2, ⟨rfl, rfl, rfl⟩, hx2⟩
  case round =>
    obtain ⟨k, d, hk, rfl, rfl, rfl, hD, hC, her⟩ := hrel
    clear hD2 hx2
    by_cases hlt : k < n1 ∧ k < 30
    · obtain ⟨g1, g2⟩ := hlt
      obtain ⟨b1, o1, rfl, hb1, hcell⟩ := hz1.at_ k g1
      have hmem : zs.getD k 0 ∈ zs := by
        have : k < zs.length := by rw [hl1.out]; exact g1
        simp [this]
      have hx64 := hw _ hmem
      generalize zs.getD k 0 = x at *
      have hw3 : wrap64 (x.tdiv 3) = x.tdiv 3 := IntWalk.wrap64_in _ (tdiv_bd 3 (by omega) hx64)
      have hx3 := tdiv_bd 3 (by omega) hx64
      have hw60 := fun w => within4 (x.tdiv 3) 60 (by omega) (by omega) w
      obtain ⟨m, hm, hm60⟩ := emod_natW (x.tdiv 3) 60 60 rfl (by omega)
      rw [hm] at hw60
      have hwop := fun w => within4 x 3 (by omega) (by omega) w
      obtain ⟨op, hop, hop3⟩ := emod_natW x 3 3 rfl (by omega)
      rw [hop] at hwop
      have hcr := (hx0.trans her).cell hcell
      have hki : (k : Int) < 30 := by omega
      have hkn : (k : Int) < (n1 : Int) := by omega
      have hfit := hD.ok.fits
      have hrm := hC.room
      have hmade := run_make8 m (m : Int) rfl (by omega)
      clear hm hop hx64 hx3 hmem hcell
      have ho : op = 0 ∨ op = 1 ∨ op = 2 := by omega
      rcases ho with rfl | rfl | rfl
      · have hap := hC.append (zeros8 m)
        rw [zeros8_len] at hap
        have hcall := append_any w1.heap.size d (some ⟨wr.heap.size, 0, none⟩) m m (zeros8 m) _ (hD.ext ((Ext.refl wr).alloc (.cells (madeB m) 5))) (made_bytes wr m (by omega)) (zeros8_lt m) (Nat.le_refl _) (by unfold maxLen; omega)
        by_cases hbig : 1 + p < d.log.length + d.snap.length + m
        · rw [if_pos hbig] at hap
          rw [hap] at hcall
          simp only at hcall
          have hL := fun w h => logN_any w1.heap.size (d) (d.log.length) (by simp [zeros8_len]) w h
          have hS := fun w h => snapN_any w1.heap.size (d) (d.snap.length) (by simp [zeros8_len]) w h
          have hbi : 1 + (p : Int) < (d.log.length : Int) + (d.snap.length : Int) + (m : Int) := by omega
          clear hap hbig
          go_wp2_with fail
          refine (hw60 _).mono ?_
          rintro e w5 ⟨rfl, rfl⟩
          go_wp2_with fail
          refine (hwop _).mono ?_
          rintro e w6 ⟨rfl, rfl⟩
          go_wp2_with fail
          refine hcall.mono ?_
          rintro e w7 ⟨rfl, hD7, hM7⟩
          have hx7 : Ext w1 w7 := (her.alloc _).mut hM7 (Nat.le_refl _)
          clear hcall
          go_wp2_with fail
          refine (hL _ hD7).mono ?_
          rintro e w8 ⟨A8, c8, rfl, hg8, hx8⟩
          go_wp2_with fail
          refine (hS _ (hD7.ext hx8)).mono ?_
          rintro e w9 ⟨A9, c9, rfl, hg9, hx9⟩
          clear hL hS
          go_wp2_with fail
          go_roundw
          case rel => exact ⟨k + 1, d, by omega, by go_num, rfl, rfl, (hD7.ext hx8).ext hx9, ⟨hC.dead, hC.left, hC.room⟩, (hx7.trans hx8).trans hx9⟩
          case measure => simp [intOf]; omega
        · rw [if_neg hbig] at hap
          rw [hap] at hcall
          simp only at hcall
          have hL := fun w h => logN_any w1.heap.size ({ d with log := d.log ++ zeros8 m }) (d.log.length + m) (by simp [zeros8_len]) w h
          have hS := fun w h => snapN_any w1.heap.size ({ d with log := d.log ++ zeros8 m }) (d.snap.length) (by simp [zeros8_len]) w h
          have hbi : (d.log.length : Int) + (d.snap.length : Int) + (m : Int) ≤ 1 + (p : Int) := by omega
          clear hap hbig
          go_wp2_with fail
          refine (hw60 _).mono ?_
          rintro e w5 ⟨rfl, rfl⟩
          go_wp2_with fail
          refine (hwop _).mono ?_
          rintro e w6 ⟨rfl, rfl⟩
          go_wp2_with fail
          refine hcall.mono ?_
          rintro e w7 ⟨rfl, hD7, hM7⟩
          have hx7 : Ext w1 w7 := (her.alloc _).mut hM7 (Nat.le_refl _)
          clear hcall
          go_wp2_with fail
          refine (hL _ hD7).mono ?_
          rintro e w8 ⟨A8, c8, rfl, hg8, hx8⟩
          go_wp2_with fail
          refine (hS _ (hD7.ext hx8)).mono ?_
          rintro e w9 ⟨A9, c9, rfl, hg9, hx9⟩
          clear hL hS
          go_wp2_with fail
          go_roundw
          case rel => exact ⟨k + 1, { d with log := d.log ++ zeros8 m }, by omega, by go_num, by simp [zeros8_len], rfl, (hD7.ext hx8).ext hx9, ⟨hC.dead, hC.left, hC.room⟩, (hx7.trans hx8).trans hx9⟩
          case measure => simp [intOf]; omega
      · have hap := hC.swap (zeros8 m)
        rw [zeros8_len] at hap
        have hcall := swap_any w1.heap.size d (some ⟨wr.heap.size, 0, none⟩) m m (zeros8 m) _ (hD.ext ((Ext.refl wr).alloc (.cells (madeB m) 5))) (made_bytes wr m (by omega)) (zeros8_lt m)
        by_cases hbig : 1 + p < m
        · rw [if_pos hbig] at hap
          rw [hap] at hcall
          simp only at hcall
          have hL := fun w h => logN_any w1.heap.size (d) (d.log.length) (by simp [zeros8_len]) w h
          have hS := fun w h => snapN_any w1.heap.size (d) (d.snap.length) (by simp [zeros8_len]) w h
          have hbi : 1 + (p : Int) < (m : Int) := by omega
          clear hap hbig
          go_wp2_with fail
          refine (hw60 _).mono ?_
          rintro e w5 ⟨rfl, rfl⟩
          go_wp2_with fail
          refine (hwop _).mono ?_
          rintro e w6 ⟨rfl, rfl⟩
          go_wp2_with fail
          refine hcall.mono ?_
          rintro e w7 ⟨rfl, hD7, hM7⟩
          have hx7 : Ext w1 w7 := (her.alloc _).mut hM7 (Nat.le_refl _)
          clear hcall
          go_wp2_with fail
          refine (hL _ hD7).mono ?_
          rintro e w8 ⟨A8, c8, rfl, hg8, hx8⟩
          go_wp2_with fail
          refine (hS _ (hD7.ext hx8)).mono ?_
          rintro e w9 ⟨A9, c9, rfl, hg9, hx9⟩
          clear hL hS
          go_wp2_with fail
          go_roundw
          case rel => exact ⟨k + 1, d, by omega, by go_num, rfl, rfl, (hD7.ext hx8).ext hx9, ⟨hC.dead, hC.left, hC.room⟩, (hx7.trans hx8).trans hx9⟩
          case measure => simp [intOf]; omega
        · rw [if_neg hbig] at hap
          rw [hap] at hcall
          simp only at hcall
          have hL := fun w h => logN_any w1.heap.size ({ d with snap := zeros8 m, log := [], synced := 0 }) (0) (by simp [zeros8_len]) w h
          have hS := fun w h => snapN_any w1.heap.size ({ d with snap := zeros8 m, log := [], synced := 0 }) (m) (by simp [zeros8_len]) w h
          have hbi : (m : Int) ≤ 1 + (p : Int) := by omega
          clear hap hbig
          go_wp2_with fail
          refine (hw60 _).mono ?_
          rintro e w5 ⟨rfl, rfl⟩
          go_wp2_with fail
          refine (hwop _).mono ?_
          rintro e w6 ⟨rfl, rfl⟩
          go_wp2_with fail
          refine hcall.mono ?_
          rintro e w7 ⟨rfl, hD7, hM7⟩
          have hx7 : Ext w1 w7 := (her.alloc _).mut hM7 (Nat.le_refl _)
          clear hcall
          go_wp2_with fail
          refine (hL _ hD7).mono ?_
          rintro e w8 ⟨A8, c8, rfl, hg8, hx8⟩
          go_wp2_with fail
          refine (hS _ (hD7.ext hx8)).mono ?_
          rintro e w9 ⟨A9, c9, rfl, hg9, hx9⟩
          clear hL hS
          go_wp2_with fail
          go_roundw
          case rel => exact ⟨k + 1, { d with snap := zeros8 m, log := [], synced := 0 }, by omega, by go_num, rfl, by simp [zeros8_len], (hD7.ext hx8).ext hx9, ⟨hC.dead, hC.left, hC.room⟩, (hx7.trans hx8).trans hx9⟩
          case measure => simp [intOf]; omega
      · have hap := hC.cut m
        have hcall := cut_any w1.heap.size d (m : Int) wr hD
        by_cases hbig : d.log.length < m
        · rw [if_pos hbig] at hap
          rw [hap] at hcall
          simp only at hcall
          have hL := fun w h => logN_any w1.heap.size (d) (d.log.length) (by simp [zeros8_len]) w h
          have hS := fun w h => snapN_any w1.heap.size (d) (d.snap.length) (by simp [zeros8_len]) w h
          have hbi : (d.log.length : Int) < (m : Int) := by omega
          have hbd : decide (d.log.length < m) = true := by simp; omega
          clear hap hbig
          go_wp2_with fail
          refine (hw60 _).mono ?_
          rintro e w5 ⟨rfl, rfl⟩
          go_wp2_with fail
          refine (hwop _).mono ?_
          rintro e w6 ⟨rfl, rfl⟩
          go_wp2_with fail
          refine hcall.mono ?_
          rintro e w7 ⟨rfl, hD7, hM7⟩
          have hx7 : Ext w1 w7 := her.mut hM7 (Nat.le_refl _)
          clear hcall
          go_wp2_with fail
          refine (hL _ hD7).mono ?_
          rintro e w8 ⟨A8, c8, rfl, hg8, hx8⟩
          go_wp2_with fail
          refine (hS _ (hD7.ext hx8)).mono ?_
          rintro e w9 ⟨A9, c9, rfl, hg9, hx9⟩
          clear hL hS
          go_wp2_with fail
          go_roundw
          case rel => exact ⟨k + 1, d, by omega, by go_num, rfl, rfl, (hD7.ext hx8).ext hx9, ⟨hC.dead, hC.left, hC.room⟩, (hx7.trans hx8).trans hx9⟩
          case measure => simp [intOf]; omega
        · rw [if_neg hbig] at hap
          rw [hap] at hcall
          simp only at hcall
          have hL := fun w h => logN_any w1.heap.size ({ d with log := d.log.take m, synced := m }) (m) (by simp; omega) w h
          have hS := fun w h => snapN_any w1.heap.size ({ d with log := d.log.take m, synced := m }) (d.snap.length) (by simp [zeros8_len]) w h
          have hbd : decide (d.log.length < m) = false := by simp; omega
          have hbi : (m : Int) ≤ (d.log.length : Int) := by omega
          clear hap hbig
          go_wp2_with fail
          refine (hw60 _).mono ?_
          rintro e w5 ⟨rfl, rfl⟩
          go_wp2_with fail
          refine (hwop _).mono ?_
          rintro e w6 ⟨rfl, rfl⟩
          go_wp2_with fail
          refine hcall.mono ?_
          rintro e w7 ⟨rfl, hD7, hM7⟩
          have hx7 : Ext w1 w7 := her.mut hM7 (Nat.le_refl _)
          clear hcall
          go_wp2_with fail
          refine (hL _ hD7).mono ?_
          rintro e w8 ⟨A8, c8, rfl, hg8, hx8⟩
          go_wp2_with fail
          refine (hS _ (hD7.ext hx8)).mono ?_
          rintro e w9 ⟨A9, c9, rfl, hg9, hx9⟩
          clear hL hS
          go_wp2_with fail
          go_roundw
          case rel => exact ⟨k + 1, { d with log := d.log.take m, synced := m }, by omega, by go_num, by simp; omega, rfl, (hD7.ext hx8).ext hx9, ⟨hC.dead, hC.left, hC.room⟩, (hx7.trans hx8).trans hx9⟩
          case measure => simp [intOf]; omega
    · by_cases g1 : k < n1
      · have g2 : ¬ k < 30 := by omega
        have hkd : ¬ (k : Int) < 30 := by omega
        clear hlt
        go_wp2_with fail
        go_ret
        exact ⟨rfl, hx0.trans her⟩
      · clear hlt
        go_wp2_with fail
        go_ret
        exact ⟨rfl, hx0.trans her⟩
end Go.Proofs.Ytpgndejmhegklaa
