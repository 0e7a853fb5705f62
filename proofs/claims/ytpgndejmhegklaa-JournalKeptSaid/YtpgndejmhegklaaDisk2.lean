/- The disk: Sync, Cut, Swap, Crash. -/
import Derived.Test.YtpgndejmhegklaaDisk
namespace Go.Proofs.Ytpgndejmhegklaa
set_option linter.unusedVariables false
open Go.RowKit

theorem DiskAt.mut_ext {w w' : World} {g : Nat} {d : Dsk} (h : DiskAt w g d) (he : Ext w w') : DiskAt w' g d ∧ Mut w g w' := ⟨h.ext he, .of_ext he⟩

set_option maxHeartbeats 400000 in
theorem sync_any (g : Nat) (d : Dsk) (w : World) (hD : DiskAt w g d) :
    Calls Try.prog 15 #[.pointer (some ⟨g, 0, none⟩)] w fun e w' => e = .returned (.int .i64 ((d.sync).1 : Int)) ∧ DiskAt w' g (d.sync).2 ∧ Mut w g w' := by
  obtain ⟨AL, cL, AS, cS, hC, hL, hS⟩ := hD.raw
  obtain ⟨k0, k1, k2, k3, k4, k5, k6, kf⟩ := hC.cells
  have hok := hD.ok
  cases hdd : d.dead
  · rw [hdd] at k2
    have hnext : ∀ w2, DiskC w2 g d.spend AL d.log.length cL AS d.snap.length cS → Mut w g w2 → DiskAt w2 g d.spend := fun w2 h1 h2 =>
      ⟨⟨AL, cL, AS, cS, by simp only [Dsk.spend_log, Dsk.spend_snap]; exact h1, by simp only [Dsk.spend_log]; exact hL.mut hC disk_ne h2, by simp only [Dsk.spend_snap]; exact hS.mut hC disk_ne h2⟩, hok.spend⟩
    have hcall := spend_any g d AL d.log.length cL AS d.snap.length cS w hC hdd hok.left
    cases hds : d.spend.dead
    · have he : d.sync = (0, { d.spend with synced := d.log.length }) := by unfold Dsk.sync; rw [if_neg (by simp [hdd]), if_neg (by simp [hds])]
      have hoks := hok.sync_
      rw [he] at hoks ⊢
      simp only at hoks ⊢
      have hfin : ∀ w2, DiskC w2 g d.spend AL d.log.length cL AS d.snap.length cS → Mut w g w2 → DiskAt (w2.setCell ⟨g, 4, none⟩ (.int .i64 (d.log.length : Int))) g { d.spend with synced := d.log.length } := fun w2 h1 h2 => by
        have h3 := Blk.set_ h1 4 (.int .i64 (d.log.length : Int))
        rw [set7_4] at h3
        have h4 := (Mut.refl w2 g).setCell 4 (.int .i64 (d.log.length : Int))
        refine ⟨⟨AL, cL, AS, cS, ?_, ?_, ?_⟩, hoks⟩
        · simp only [Dsk.spend_log, Dsk.spend_snap]; exact h3
        · simp only [Dsk.spend_log]; exact (hL.mut hC disk_ne h2).mut h1 disk_ne h4
        · simp only [Dsk.spend_snap]; exact (hS.mut hC disk_ne h2).mut h1 disk_ne h4
      rw [hds] at hcall
      generalize hd' : ({ d.spend with synced := d.log.length } : Dsk) = d' at *
      have Hd' := Lib.hid hd'
      clear hd' hoks he hnext hdd hds hok hD hL hS k0 k1 k3 k4 k5 k6 kf
      generalize d.log.length = nL at *
      go_enter Try.func15, Try.ntmps15
      go_wp2_with fail
      refine hcall.mono ?_
      rintro e w2 ⟨rfl, hC2, hM2⟩
      obtain ⟨-, -, -, j3, -, -, -, kf⟩ := hC2.cells
      have kf4 := kf 4
      have hF := Lib.hid (hfin w2 hC2 hM2)
      have hx := Blk.cell hC2 4
      have j4 : w2.cell? ⟨g, 4, none⟩ = some (.int .i64 (d.spend.synced : Int)) := hx
      clear hfin hx kf hcall
      go_wp2_with fail
      go_ret
      exact ⟨rfl, hF.out, hM2.setCell 4 _⟩
    · have he : d.sync = (20, d.spend) := by unfold Dsk.sync; rw [if_neg (by simp [hdd]), if_pos hds]
      rw [he]
      rw [hds] at hcall
      generalize hd' : d.spend = d' at *
      have Hd' := Lib.hid hd'
      clear hd' he hdd hds hok hD hL hS k0 k1 k3 k4 k5 k6 kf
      generalize d.log.length = nL at *
      go_enter Try.func15, Try.ntmps15
      go_wp2_with fail
      refine hcall.mono ?_
      rintro e w2 ⟨rfl, hC2, hM2⟩
      have hF := Lib.hid (hnext w2 hC2 hM2)
      clear hnext hcall
      go_wp2_with fail
      go_ret
      exact ⟨rfl, hF.out, hM2⟩
  · have he : d.sync = (20, d) := by unfold Dsk.sync; rw [if_pos hdd]
    rw [he]
    rw [hdd] at k2
    clear hC hL hS hok k0 k1 k3 k4 k5 k6 kf hdd he
    go_enter Try.func15, Try.ntmps15
    go_wp2_with fail
    go_ret
    exact ⟨rfl, hD, Mut.refl w g⟩

theorem cut_at (d : Dsk) (m : Nat) (hd : d.dead = false) (h : m ≤ d.log.length) : d.cut (m : Int) = ((d.spend).code, if d.spend.dead = false ∨ d.odd = 0 then { d.spend with log := d.log.take m, synced := m } else d.spend) := by
  unfold Dsk.cut
  rw [if_neg (by simp [hd]), if_neg (by omega), Int.toNat_natCast]

set_option maxHeartbeats 400000 in
theorem cut_any (g : Nat) (d : Dsk) (n : Int) (w : World) (hD : DiskAt w g d) :
    Calls Try.prog 19 #[.pointer (some ⟨g, 0, none⟩), .int .i64 n] w fun e w' => e = .returned (.int .i64 ((d.cut n).1 : Int)) ∧ DiskAt w' g (d.cut n).2 ∧ Mut w g w' := by
  obtain ⟨AL, cL, AS, cS, hC, hL, hS⟩ := hD.raw
  obtain ⟨k0, k1, k2, k3, k4, k5, k6, kf⟩ := hC.cells
  have hok := hD.ok
  have hfit := hok.fits
  have hroom := hok.room
  cases hdd : d.dead
  · rw [hdd] at k2
    by_cases hneg : n < 0
    · have he : d.cut n = (1, d) := by unfold Dsk.cut; rw [if_neg (by simp [hdd]), if_pos (.inl hneg)]
      rw [he]
      clear hC hL hS hok k0 k1 k4 k5 k6 kf hdd he hfit
      generalize d.log.length = nL at *
      go_enter Try.func19, Try.ntmps19
      go_wp2_with fail
      go_ret
      exact ⟨rfl, hD, Mut.refl w g⟩
    obtain ⟨m, rfl⟩ := Int.eq_ofNat_of_zero_le (show 0 ≤ n by omega)
    by_cases hbig : (d.log.length : Int) < (m : Int)
    · have he : d.cut (m : Int) = (1, d) := by unfold Dsk.cut; rw [if_neg (by simp [hdd]), if_pos (.inr (by omega))]
      rw [he]
      clear hC hL hS hok k0 k1 k4 k5 k6 kf hdd he hfit
      generalize d.log.length = nL at *
      go_enter Try.func19, Try.ntmps19
      go_wp2_with fail
      go_ret
      exact ⟨rfl, hD, Mut.refl w g⟩
    have hml : m ≤ d.log.length := by omega
    have he := cut_at d m hdd hml
    have hoks := hok.cut (m : Int)
    have hnext : ∀ w2, DiskC w2 g d.spend AL d.log.length cL AS d.snap.length cS → Mut w g w2 → DiskAt w2 g d.spend := fun w2 h1 h2 =>
      ⟨⟨AL, cL, AS, cS, by simp only [Dsk.spend_log, Dsk.spend_snap]; exact h1, by simp only [Dsk.spend_log]; exact hL.mut hC disk_ne h2, by simp only [Dsk.spend_snap]; exact hS.mut hC disk_ne h2⟩, hok.spend⟩
    have hcall := spend_any g d AL d.log.length cL AS d.snap.length cS w hC hdd hok.left
    have hcode := code_of d.spend
    have hlc := hL.le
    have ehi : ∀ w, (Instr.slice 22 (.slice AL d.log.length cL) none (some (.int .i64 (m : Int))) none).run Try.prog w = .ok (.slice AL m cL) w := fun w => byte_elem.cut_hi _ _ cL m .i64 m rfl (by omega) w
    have hown : ∀ w2, DiskC w2 g d.spend AL d.log.length cL AS d.snap.length cS → Mut w g w2 → Calls Try.prog 34 #[.slice AL m cL] w2 fun e w' => ∃ A' c', e = .returned (.slice A' m c') ∧ GB w' A' m c' (d.log.take m) ∧ Ext w2 w' := fun w2 h1 h2 =>
      own_any AL m cL (d.log.take m) w2 ((hL.mut hC disk_ne h2).bytes.front hml) (by omega)
    have hfin : (d.spend.dead = false ∨ d.odd = 0) → ∀ w2 w3 A' c', DiskC w2 g d.spend AL d.log.length cL AS d.snap.length cS → Mut w g w2 → Ext w2 w3 → GB w3 A' m c' (d.log.take m) → DiskAt ((w3.setCell ⟨g, 3, none⟩ (.slice A' m c')).setCell ⟨g, 4, none⟩ (.int .i64 (m : Int))) g (d.cut (m : Int)).2 := fun hor w2 w3 A' c' h1 h2 h3 h4 => by
      rw [he] at hoks ⊢
      simp only at hoks ⊢
      rw [if_pos hor] at hoks ⊢
      have hC3 := Blk.ext h1 h3
      have h5 := (hC3.set_ 3 (.slice A' m c')).set_ 4 (.int .i64 (m : Int))
      rw [set7_3, set7_4] at h5
      have h6 := ((Mut.refl w3 g).setCell 3 (.slice A' m c')).setCell 4 (.int .i64 (m : Int))
      have hl : (d.log.take m).length = m := by rw [List.length_take]; omega
      refine ⟨⟨A', c', AS, cS, ?_, ?_, ?_⟩, hoks⟩
      · simp only [hl, Dsk.spend_snap]; exact h5
      · simp only [hl]; exact h4.mut hC3 disk_ne h6
      · simp only [Dsk.spend_snap]; exact ((hS.mut hC disk_ne h2).ext h3).mut hC3 disk_ne h6
    have hfin2 : ¬ (d.spend.dead = false ∨ d.odd = 0) → (d.cut (m : Int)).2 = d.spend := fun h => by rw [he]; simp only; rw [if_neg h]
    have hfin1 : (d.cut (m : Int)).1 = d.spend.code := by rw [he]
    have Hfin := Lib.hid hfin
    have Hfin2 := Lib.hid hfin2
    have Hfin1 := Lib.hid hfin1
    have Hcode := Lib.hid hcode
    have hodd : d.spend.odd = d.odd := Dsk.spend_odd d
    clear hfin hfin2 hfin1 he hoks hdd hok hD hL k0 k1 k4 k5 k6 kf hcode
    cases hds : d.spend.dead
    · have Hds := Lib.hid hds
      rw [hds] at hcall
      clear hds
      generalize d.log.length = nL at *
      go_enter Try.func19, Try.ntmps19
      go_wp2_with fail
      refine hcall.mono ?_
      rintro e w2 ⟨rfl, hC2, hM2⟩
      obtain ⟨-, -, -, j3, -, -, -, -⟩ := hC2.cells
      go_wp2_with fail
      refine (hown w2 hC2 hM2).mono ?_
      rintro e w3 ⟨A3, c3, rfl, hg3, hx3⟩
      have hF := Lib.hid (Hfin.out (.inl Hds.out) w2 w3 A3 c3 hC2 hM2 hx3 hg3)
      have hC3 := Blk.ext hC2 hx3
      have kf3 := Blk.frozen hC3 3
      have kf4 := Blk.frozen hC3 4
      have j3' := hx3.cell j3
      have j4' : w3.cell? ⟨g, 4, none⟩ = some (.int .i64 (d.spend.synced : Int)) := Blk.cell hC3 4
      clear hcall hown hnext hC3
      go_wp2_with fail
      go_ret
      exact ⟨by rw [Hfin1.out, Hcode.out, Hds.out]; rfl, hF.out, ((hM2.ext hx3).setCell 3 _).setCell 4 _⟩
    · have Hds := Lib.hid hds
      rw [hds] at hcall
      clear hds
      generalize d.log.length = nL at *
      by_cases ho : d.odd = 0
      · have ho' : ((d.odd : Int) == 0) = true := by simp [ho]
        have Ho := Lib.hid ho
        clear ho
        go_enter Try.func19, Try.ntmps19
        go_wp2_with fail
        refine hcall.mono ?_
        rintro e w2 ⟨rfl, hC2, hM2⟩
        obtain ⟨-, j1, -, j3, -, -, -, -⟩ := hC2.cells
        go_wp2_with fail
        refine (hown w2 hC2 hM2).mono ?_
        rintro e w3 ⟨A3, c3, rfl, hg3, hx3⟩
        have hF := Lib.hid (Hfin.out (.inr Ho.out) w2 w3 A3 c3 hC2 hM2 hx3 hg3)
        have hC3 := Blk.ext hC2 hx3
        have kf3 := Blk.frozen hC3 3
        have kf4 := Blk.frozen hC3 4
        have j3' := hx3.cell j3
        have j4' : w3.cell? ⟨g, 4, none⟩ = some (.int .i64 (d.spend.synced : Int)) := Blk.cell hC3 4
        clear hcall hown hnext hC3
        go_wp2_with fail
        go_ret
        exact ⟨by rw [Hfin1.out, Hcode.out, Hds.out]; rfl, hF.out, ((hM2.ext hx3).setCell 3 _).setCell 4 _⟩
      · have ho' : ((d.odd : Int) == 0) = false := by simp [ho]
        have Ho := Lib.hid ho
        clear ho
        go_enter Try.func19, Try.ntmps19
        go_wp2_with fail
        refine hcall.mono ?_
        rintro e w2 ⟨rfl, hC2, hM2⟩
        obtain ⟨-, j1, -, -, -, -, -, -⟩ := hC2.cells
        have hF := Lib.hid (hnext w2 hC2 hM2)
        clear hcall hown hnext
        go_wp2_with fail
        go_ret
        exact ⟨by rw [Hfin1.out, Hcode.out, Hds.out]; rfl, by rw [Hfin2.out (by rw [Hds.out]; simp; exact Ho.out)]; exact hF.out, hM2⟩
  · have he : d.cut n = (20, d) := by unfold Dsk.cut; rw [if_pos hdd]
    rw [he]
    rw [hdd] at k2
    clear hC hL hS hok k0 k1 k3 k4 k5 k6 kf hdd he
    go_enter Try.func19, Try.ntmps19
    go_wp2_with fail
    go_ret
    exact ⟨rfl, hD, Mut.refl w g⟩
end Go.Proofs.Ytpgndejmhegklaa
