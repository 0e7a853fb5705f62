/- The disk: Swap, Crash. -/
import Derived.Test.YtpgndejmhegklaaDisk2
import Derived.Test.YtpgndejmhegklaaWithin
namespace Go.Proofs.Ytpgndejmhegklaa
set_option linter.unusedVariables false
open Go.RowKit

theorem swap_at (d : Dsk) (b : List Nat) (hd : d.dead = false) (h : b.length ≤ d.room) : d.swap b = ((d.spend).code, if d.spend.dead = false ∨ d.odd = 0 then { d.spend with snap := b, log := [], synced := 0 } else d.spend) := by
  unfold Dsk.swap
  rw [if_neg (by simp [hd]), if_neg (by omega)]

set_option maxHeartbeats 400000 in
theorem swap_any (g : Nat) (d : Dsk) (A : Option Addr) (n c : Nat) (bs : List Nat) (w : World) (hD : DiskAt w g d) (hz : Bytes w A n bs) (hb : ∀ x ∈ bs, x < 256) :
    Calls Try.prog 20 #[.pointer (some ⟨g, 0, none⟩), .slice A n c] w fun e w' => e = .returned (.int .i64 ((d.swap bs).1 : Int)) ∧ DiskAt w' g (d.swap bs).2 ∧ Mut w g w' := by
  obtain ⟨AL, cL, AS, cS, hC, hL, hS⟩ := hD.raw
  obtain ⟨k0, k1, k2, k3, k4, k5, k6, kf⟩ := hC.cells
  have hok := hD.ok
  have hroom := hok.room
  have hlen := hz.len
  cases hdd : d.dead
  · rw [hdd] at k2
    by_cases hbig : (d.room : Int) < (n : Int)
    · have he : d.swap bs = (19, d) := by unfold Dsk.swap; rw [if_neg (by simp [hdd]), if_pos (by omega)]
      rw [he]
      have Hlen := Lib.hid hlen
      clear hC hL hS hok k0 k1 k3 k4 k5 kf hdd he hlen
      generalize d.room = r at *
      go_enter Try.func20, Try.ntmps20
      go_wp2_with fail
      go_ret
      exact ⟨rfl, hD, Mut.refl w g⟩
    have he := swap_at d bs hdd (by omega)
    have hoks := hok.swap hb
    have hnext : ∀ w2, DiskC w2 g d.spend AL d.log.length cL AS d.snap.length cS → Mut w g w2 → DiskAt w2 g d.spend := fun w2 h1 h2 =>
      ⟨⟨AL, cL, AS, cS, by simp only [Dsk.spend_log, Dsk.spend_snap]; exact h1, by simp only [Dsk.spend_log]; exact hL.mut hC disk_ne h2, by simp only [Dsk.spend_snap]; exact hS.mut hC disk_ne h2⟩, hok.spend⟩
    have hcall := spend_any g d AL d.log.length cL AS d.snap.length cS w hC hdd hok.left
    have hcode := code_of d.spend
    have hown : ∀ w2, DiskC w2 g d.spend AL d.log.length cL AS d.snap.length cS → Mut w g w2 → Calls Try.prog 34 #[.slice A n c] w2 fun e w' => ∃ A' c', e = .returned (.slice A' n c') ∧ GB w' A' n c' bs ∧ Ext w2 w' := fun w2 h1 h2 =>
      own_any A n c bs w2 (hz.disk hC h2) (by omega)
    have hfin : (d.spend.dead = false ∨ d.odd = 0) → ∀ w2 w3 A' c', DiskC w2 g d.spend AL d.log.length cL AS d.snap.length cS → Mut w g w2 → Ext w2 w3 → GB w3 A' n c' bs → DiskAt (((w3.setCell ⟨g, 5, none⟩ (.slice A' n c')).setCell ⟨g, 3, none⟩ (.slice none 0 0)).setCell ⟨g, 4, none⟩ (.int .i64 0)) g (d.swap bs).2 := fun hor w2 w3 A' c' h1 h2 h3 h4 => by
      rw [he] at hoks ⊢
      simp only at hoks ⊢
      rw [if_pos hor] at hoks ⊢
      have hC3 := Blk.ext h1 h3
      have h5 := ((hC3.set_ 5 (.slice A' n c')).set_ 3 (.slice none 0 0)).set_ 4 (.int .i64 0)
      rw [set7_5, set7_3, set7_4] at h5
      have h6 := (((Mut.refl w3 g).setCell 5 (.slice A' n c')).setCell 3 (.slice none 0 0)).setCell 4 (.int .i64 0)
      refine ⟨⟨none, 0, A', c', ?_, .nil _, ?_⟩, hoks⟩
      · simp only [hlen]; exact h5
      · simp only [hlen]; exact h4.mut hC3 disk_ne h6
    have hfin2 : ¬ (d.spend.dead = false ∨ d.odd = 0) → (d.swap bs).2 = d.spend := fun h => by rw [he]; simp only; rw [if_neg h]
    have hfin1 : (d.swap bs).1 = d.spend.code := by rw [he]
    have Hfin := Lib.hid hfin
    have Hfin2 := Lib.hid hfin2
    have Hfin1 := Lib.hid hfin1
    have Hcode := Lib.hid hcode
    have Hlen := Lib.hid hlen
    have hodd : d.spend.odd = d.odd := Dsk.spend_odd d
    clear hfin hfin2 hfin1 he hoks hdd hok hD hL k0 k1 k3 k4 k5 kf hcode hlen
    generalize hrr : d.room = r at *
    have Hrr := Lib.hid hrr
    clear hrr
    cases hds : d.spend.dead
    · have Hds := Lib.hid hds
      rw [hds] at hcall
      clear hds
      generalize d.log.length = nL at *
      go_enter Try.func20, Try.ntmps20
      go_wp2_with fail
      refine hcall.mono ?_
      rintro e w2 ⟨rfl, hC2, hM2⟩
      go_wp2_with fail
      refine (hown w2 hC2 hM2).mono ?_
      rintro e w3 ⟨A3, c3, rfl, hg3, hx3⟩
      have hF := Lib.hid (Hfin.out (.inl Hds.out) w2 w3 A3 c3 hC2 hM2 hx3 hg3)
      have hC3 := Blk.ext hC2 hx3
      obtain ⟨-, -, -, j3, j4, j5, -, kf⟩ := (show DiskC w3 g d.spend AL nL cL AS d.snap.length cS from hC3).cells
      have kf3 := kf 3
      have kf4 := kf 4
      have kf5 := kf 5
      clear hcall hown hnext hC3 kf
      go_wp2_with fail
      go_ret
      exact ⟨by rw [Hfin1.out, Hcode.out, Hds.out]; rfl, hF.out, (((hM2.ext hx3).setCell 5 _).setCell 3 _).setCell 4 _⟩
    · have Hds := Lib.hid hds
      rw [hds] at hcall
      clear hds
      generalize d.log.length = nL at *
      by_cases ho : d.odd = 0
      · have ho' : ((d.odd : Int) == 0) = true := by simp [ho]
        have Ho := Lib.hid ho
        clear ho
        go_enter Try.func20, Try.ntmps20
        go_wp2_with fail
        refine hcall.mono ?_
        rintro e w2 ⟨rfl, hC2, hM2⟩
        obtain ⟨-, j1, -, -, -, -, -, -⟩ := hC2.cells
        go_wp2_with fail
        refine (hown w2 hC2 hM2).mono ?_
        rintro e w3 ⟨A3, c3, rfl, hg3, hx3⟩
        have hF := Lib.hid (Hfin.out (.inr Ho.out) w2 w3 A3 c3 hC2 hM2 hx3 hg3)
        have hC3 := Blk.ext hC2 hx3
        obtain ⟨-, -, -, j3, j4, j5, -, kf⟩ := (show DiskC w3 g d.spend AL nL cL AS d.snap.length cS from hC3).cells
        have kf3 := kf 3
        have kf4 := kf 4
        have kf5 := kf 5
        clear hcall hown hnext hC3 kf
        go_wp2_with fail
        go_ret
        exact ⟨by rw [Hfin1.out, Hcode.out, Hds.out]; rfl, hF.out, (((hM2.ext hx3).setCell 5 _).setCell 3 _).setCell 4 _⟩
      · have ho' : ((d.odd : Int) == 0) = false := by simp [ho]
        have Ho := Lib.hid ho
        clear ho
        go_enter Try.func20, Try.ntmps20
        go_wp2_with fail
        refine hcall.mono ?_
        rintro e w2 ⟨rfl, hC2, hM2⟩
        obtain ⟨-, j1, -, -, -, -, -, -⟩ := hC2.cells
        have hF := Lib.hid (hnext w2 hC2 hM2)
        clear hcall hown hnext
        go_wp2_with fail
        go_ret
        exact ⟨by rw [Hfin1.out, Hcode.out, Hds.out]; rfl, by rw [Hfin2.out (by rw [Hds.out]; simp; exact Ho.out)]; exact hF.out, hM2⟩
  · have he : d.swap bs = (20, d) := by unfold Dsk.swap; rw [if_pos hdd]
    rw [he]
    rw [hdd] at k2
    clear hC hL hS hok k0 k1 k3 k4 k5 k6 kf hdd he hlen
    go_enter Try.func20, Try.ntmps20
    go_wp2_with fail
    go_ret
    exact ⟨rfl, hD, Mut.refl w g⟩

theorem tmod_twice (a n : Int) (hn : 0 < n) : (a.tmod n + n).tmod n = a % n := by
  have h := tmod_bdW a n hn
  by_cases h0 : a.tmod n < 0
  · rw [tmod_negW a n hn h0, Int.tmod_eq_emod_of_nonneg (Int.emod_nonneg a (by omega)), Int.emod_emod_of_dvd _ (Int.dvd_refl n)]
  · rw [tmod_posW a n hn (by omega), Int.tmod_eq_emod_of_nonneg (by have := Int.emod_nonneg a (show n ≠ 0 by omega); omega), Int.add_emod_right, Int.emod_emod_of_dvd _ (Int.dvd_refl n)]

set_option maxHeartbeats 400000 in
theorem crash_any (g : Nat) (d : Dsk) (pick : Int) (w : World) (hD : DiskAt w g d) :
    Calls Try.prog 16 #[.pointer (some ⟨g, 0, none⟩), .int .i64 pick] w fun e w' => e = .returned (.int .i64 (d.pickN pick : Int)) ∧ DiskAt w' g (d.crash pick) ∧ Mut w g w' := by
  obtain ⟨AL, cL, AS, cS, hC, hL, hS⟩ := hD.raw
  obtain ⟨k0, k1, k2, k3, k4, k5, k6, kf⟩ := hC.cells
  have hok := hD.ok
  have hroom := hok.room
  have hfit := hok.fits
  have hsy := hok.sync
  have hokc := hok.crash pick
  have hpl := Dsk.pick_lt hsy pick
  have hpk : pick % ((d.log.length : Int) - (d.synced : Int) + 1) = (d.pickN pick : Int) := by
    unfold Dsk.pickN
    rw [show ((d.log.length : Int) - (d.synced : Int) + 1) = ((d.log.length - d.synced + 1 : Nat) : Int) from by omega]
    have := Int.emod_nonneg pick (show ((d.log.length - d.synced + 1 : Nat) : Int) ≠ 0 by omega)
    omega
  have htm := tmod_twice pick ((d.log.length : Int) - (d.synced : Int) + 1) (by omega)
  rw [hpk] at htm
  have hbd := tmod_bdW pick ((d.log.length : Int) - (d.synced : Int) + 1) (by omega)
  have hdef : d.crash pick = ⟨0, 0, false, d.log.take (d.synced + d.pickN pick), d.synced + d.pickN pick, d.snap, d.room⟩ := rfl
  have hlc := hL.le
  generalize hq : d.pickN pick = q at *
  have ehi : ∀ w, (Instr.slice 22 (.slice AL d.log.length cL) none (some (.int .i64 ((d.synced : Int) + (q : Int)))) none).run Try.prog w = .ok (.slice AL (d.synced + q) cL) w := fun w => byte_elem.cut_hi _ _ cL (d.synced + q) .i64 _ (by omega) (by omega) w
  have hown : ∀ w2, Ext w w2 → Calls Try.prog 34 #[.slice AL (d.synced + q) cL] w2 fun e w' => ∃ A' c', e = .returned (.slice A' (d.synced + q) c') ∧ GB w' A' (d.synced + q) c' (d.log.take (d.synced + q)) ∧ Ext w2 w' := fun w2 h2 =>
    own_any AL (d.synced + q) cL _ w2 ((hL.ext h2).bytes.front hpl) (by omega)
  have hfin : ∀ w3 A' c' w4, Ext w w3 → GB w3 A' (d.synced + q) c' (d.log.take (d.synced + q)) → w4 = (((((w3.setCell ⟨g, 3, none⟩ (.slice A' (d.synced + q) c')).setCell ⟨g, 4, none⟩ (.int .i64 ((d.synced : Int) + (q : Int)))).setCell ⟨g, 0, none⟩ (.int .i64 0)).setCell ⟨g, 1, none⟩ (.int .i64 0)).setCell ⟨g, 2, none⟩ (.bool false)) → DiskAt w4 g (d.crash pick) ∧ Mut w g w4 := fun w3 A' c' w4 h3 h4 hw4 => by
    rw [show (d.synced : Int) + (q : Int) = ((d.synced + q : Nat) : Int) from by omega] at hw4
    subst hw4
    have hC3 := Blk.ext hC h3
    have h5 := ((((hC3.set_ 3 (.slice A' (d.synced + q) c')).set_ 4 (.int .i64 ((d.synced + q : Nat) : Int))).set_ 0 (.int .i64 0)).set_ 1 (.int .i64 0)).set_ 2 (.bool false)
    rw [set7_3, set7_4, set7_0, set7_1, set7_2] at h5
    have h6 := (((((Mut.refl w3 g).setCell 3 (.slice A' (d.synced + q) c')).setCell 4 (.int .i64 ((d.synced + q : Nat) : Int))).setCell 0 (.int .i64 0)).setCell 1 (.int .i64 0)).setCell 2 (.bool false)
    have hl : (d.log.take (d.synced + q)).length = d.synced + q := by rw [List.length_take]; omega
    rw [hdef] at hokc ⊢
    refine ⟨⟨⟨A', c', AS, cS, ?_, ?_, ?_⟩, hokc⟩, (Mut.of_ext h3).trans h6⟩
    · simp only [hl]; exact h5
    · simp only [hl]; exact h4.mut hC3 disk_ne h6
    · exact (hS.ext h3).mut hC3 disk_ne h6
  have Hfin := Lib.hid hfin
  have Hpk := Lib.hid hpk
  have Hq := Lib.hid hq
  have hgl : g < w.heap.size := Blk.lt hC
  clear hfin hdef hokc hok hL hS hD k5 k6 hpk hq
  generalize d.log.length = nL at *
  generalize d.synced = sy at *
  have hn0 : 0 < (nL : Int) - (sy : Int) + 1 := by omega
  go_enter Try.func16, Try.ntmps16
  go_wp2_with fail
  go_quiet (fail)
  rename_i nq
  have hxq : Ext w (w.drewN nq) := (Ext.refl w).drewN nq
  have k3 := hxq.cell k3
  have k4 := hxq.cell k4
  have k0 := hxq.cell k0
  have k1 := hxq.cell k1
  have k2 := hxq.cell k2
  generalize w.drewN nq = w1 at *
  go_wp2_with fail
  have hw1 : IntKind.i64.wrap ((sy : Int) + (q : Int)) = (sy : Int) + (q : Int) := IntWalk.i64_in _ (by omega)
  go_region_with (first | (go_at_call 34; refine (hown _ ?_).mono ?_; exact hxq.drew; rintro e w3 ⟨A3, c3, rfl, hg3, hx3⟩; have j3 : w3.cell? ⟨g, 3, none⟩ = some (.slice AL nL cL) := hx3.cell (show w1.drew.cell? ⟨g, 3, none⟩ = _ from k3); have f3 := Blk.frozen (Blk.ext hC (hxq.drew.trans hx3)) 3))
  all_goals
    have hC3 := Blk.ext hC (hxq.drew.trans hx3)
    obtain ⟨j0, j1, j2, -, j4, -, -, kf3⟩ := (show DiskC w3 g d AL nL cL AS d.snap.length cS from hC3).cells
    have f0 := kf3 0
    have f1 := kf3 1
    have f2 := kf3 2
    have f4 := kf3 4
    have HF := Lib.hid (Hfin.out w3 A3 c3 _ (hxq.drew.trans hx3) hg3 rfl)
    clear hC3 kf3 kf k0 k1 k2 k3 k4
    go_wp2_with fail
    go_ret
    exact ⟨rfl, HF.out.1, HF.out.2⟩
end Go.Proofs.Ytpgndejmhegklaa
