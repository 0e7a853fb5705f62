/- The disk: what each call does to it. -/
import Derived.Test.YtpgndejmhegklaaBlk
import Derived.Test.YtpgndejmhegklaaCuts
import Derived.BigQuiet
import Derived.Deep.QuietTactic
import Derived.Deep.RegionHeld3
import Derived.Deep.DeepCutAuto
import Derived.Deep.CutBlock
import Derived.Test.YtpgndejmhegklaaDskLaw
namespace Go.Proofs.Ytpgndejmhegklaa
set_option linter.unusedVariables false
open Go.RowKit

set_option maxHeartbeats 400000 in
theorem own_any (A : Option Addr) (n c : Nat) (bs : List Nat) (w : World) (hz : Bytes w A n bs) (hn : n ≤ 20000000) :
    Calls Try.prog 34 #[.slice A n c] w fun e w' => ∃ A' c', e = .returned (.slice A' n c') ∧ GB w' A' n c' bs ∧ Ext w w' := by
  have hmk := run_make8 n (n : Int) rfl (by omega)
  have hl := Lib.hid hz.len
  go_enter Try.func34, Try.ntmps34
  have hz1 := hz.ext ((Ext.refl w).alloc (.cells (madeB n) 5))
  have ho1 := made_own w w.heap.size n (Nat.le_refl _) (by omega)
  go_wp2_with (refine wpList_copy_Own rfl (.tmp 7) (.tmp 8) _ rfl byte_elem ho1 0 rfl ?_ ?_ rfl hz1.rs (bvals_one _) ?_ ?_)
  · rintro - g hg
    simpa using hg
  · omega
  · exact Nat.le_refl _
  intro w2 ho2 hg2
  have hx2 : Ext w w2 := ((Ext.refl w).alloc _).grown hg2 (fun k h => (ho1.row k h).1)
  rw [List.drop_of_length_le (by simp [bvals, zeros8]), List.append_nil] at ho2
  go_wp2_with fail
  go_ret
  exact ⟨_, _, rfl, .own ho2, hx2⟩

/-- Block g is a disk's. -/
def DiskC (w : World) (g : Nat) (d : Dsk) (AL : Option Addr) (nL cL : Nat) (AS : Option Addr) (nS cS : Nat) : Prop :=
  Blk w g 43 #[.int .i64 (d.left : Int), .int .i64 (d.odd : Int), .bool d.dead, .slice AL nL cL, .int .i64 (d.synced : Int), .slice AS nS cS, .int .i64 (d.room : Int)]
structure DiskAt (w : World) (g : Nat) (d : Dsk) : Prop where
  raw : ∃ AL cL AS cS, DiskC w g d AL d.log.length cL AS d.snap.length cS ∧ GB w AL d.log.length cL d.log ∧ GB w AS d.snap.length cS d.snap
  ok : d.Ok
theorem DiskAt.lt {w : World} {g : Nat} {d : Dsk} (h : DiskAt w g d) : g < w.heap.size := by
  obtain ⟨AL, cL, AS, cS, h1, _, _⟩ := h.raw
  exact Blk.lt h1
theorem DiskAt.ext {w w' : World} {g : Nat} {d : Dsk} (h : DiskAt w g d) (he : Ext w w') : DiskAt w' g d := by
  obtain ⟨AL, cL, AS, cS, h1, h2, h3⟩ := h.raw
  exact ⟨⟨AL, cL, AS, cS, Blk.ext h1 he, h2.ext he, h3.ext he⟩, h.ok⟩

set_option maxHeartbeats 400000 in
theorem new_any (room : Nat) (w : World) (h1 : 1 ≤ room) (h2 : room ≤ 16777216) :
    Calls Try.prog 13 #[.int .i64 (room : Int)] w fun e w' => e = .returned (.tuple #[.pointer (some ⟨w.heap.size, 0, none⟩), .int .i64 0]) ∧ DiskAt w' w.heap.size (Dsk.mk0 room) ∧ Ext w w' := by
  have i1 : ((room : Int) < 1) = False := by simp; omega
  have i2 : (16777216 < (room : Int)) = False := by simp; omega
  have d1 : decide ((room : Int) < 1) = false := by simp; omega
  have d2 : decide (16777216 < (room : Int)) = false := by simp; omega
  clear i1 i2
  go_enter Try.func13, Try.ntmps13
  go_wp2_with fail
  go_ret2
  refine ⟨rfl, ⟨⟨none, 0, none, 0, Blk.new w _ _, .nil _, .nil _⟩, .new h2⟩, (Ext.refl w).alloc _⟩

theorem set7_0 (a b c d e f g u : Value) : (#[a, b, c, d, e, f, g] : Array Value).setIfInBounds 0 u = #[u, b, c, d, e, f, g] := rfl
theorem set7_1 (a b c d e f g u : Value) : (#[a, b, c, d, e, f, g] : Array Value).setIfInBounds 1 u = #[a, u, c, d, e, f, g] := rfl
theorem set7_2 (a b c d e f g u : Value) : (#[a, b, c, d, e, f, g] : Array Value).setIfInBounds 2 u = #[a, b, u, d, e, f, g] := rfl
theorem set7_3 (a b c d e f g u : Value) : (#[a, b, c, d, e, f, g] : Array Value).setIfInBounds 3 u = #[a, b, c, u, e, f, g] := rfl
theorem set7_4 (a b c d e f g u : Value) : (#[a, b, c, d, e, f, g] : Array Value).setIfInBounds 4 u = #[a, b, c, d, u, f, g] := rfl
theorem set7_5 (a b c d e f g u : Value) : (#[a, b, c, d, e, f, g] : Array Value).setIfInBounds 5 u = #[a, b, c, d, e, u, g] := rfl

set_option maxHeartbeats 400000 in
theorem spend_any (g : Nat) (d : Dsk) (AL : Option Addr) (nL cL : Nat) (AS : Option Addr) (nS cS : Nat) (w : World) (hB : DiskC w g d AL nL cL AS nS cS) (hdead : d.dead = false) (hl : d.left ≤ 9223372036854775807) :
    Calls Try.prog 33 #[.pointer (some ⟨g, 0, none⟩)] w fun e w' => e = .returned (.bool (!d.spend.dead)) ∧ DiskC w' g d.spend AL nL cL AS nS cS ∧ Mut w g w' := by
  obtain ⟨left, odd, dead, log, synced, snap, room⟩ := d
  simp only at hdead hl
  subst hdead
  unfold DiskC at hB ⊢
  simp only at hB
  have k0 : w.cell? ⟨g, 0, none⟩ = some (.int .i64 (left : Int)) := hB.cell 0
  have k2 : w.cell? ⟨g, 2, none⟩ = some (.bool false) := hB.cell 2
  have f0 := hB.frozen 0
  have f2 := hB.frozen 2
  by_cases h0 : left = 0
  · subst h0
    have hs : (Dsk.mk 0 odd false log synced snap room).spend = Dsk.mk 0 odd false log synced snap room := rfl
    rw [hs]
    go_enter Try.func33, Try.ntmps33
    go_wp2_with fail
    go_ret
    exact ⟨rfl, hB, Mut.refl _ _⟩
  · have hs : (Dsk.mk left odd false log synced snap room).spend = Dsk.mk (left - 1) odd (decide (left = 1)) log synced snap room := by
      unfold Dsk.spend
      rw [if_pos (by simp only; omega)]
    rw [hs]
    obtain ⟨m, rfl⟩ : ∃ m, left = m + 1 := ⟨left - 1, by omega⟩
    have hm1 : m + 1 - 1 = m := by omega
    rw [hm1]
    have e2 : (((m : Int) + 1 - 1) == 0) = decide (m + 1 = 1) := by
      by_cases hm : m = 0
      · subst hm; rfl
      · have h1 : ¬ ((m : Int) + 1 - 1 = 0) := by omega
        have h2 : ¬ (m + 1 = 1) := by omega
        simp [hm]
    have e3 : ((m : Int) == 0) = decide (m + 1 = 1) := by
      by_cases hm : m = 0
      · subst hm; rfl
      · simp [hm]
    have hB' := (hB.set_ 0 (.int .i64 (m : Int))).set_ 2 (.bool (decide (m + 1 = 1)))
    rw [set7_0, set7_2] at hB'
    have hmut := ((Mut.refl w g).setCell 0 (.int .i64 (m : Int))).setCell 2 (.bool (decide (m + 1 = 1)))
    have hmm : (0 : Int) ≤ (m : Int) := by omega
    generalize hbb : decide (m + 1 = 1) = bb at *
    have Hbb := Lib.hid hbb
    clear hbb
    go_enter Try.func33, Try.ntmps33
    go_wp2_with fail
    go_ret
    exact ⟨rfl, hB', hmut⟩

theorem DiskC.cells {w : World} {g : Nat} {d : Dsk} {AL : Option Addr} {nL cL : Nat} {AS : Option Addr} {nS cS : Nat} (hB : DiskC w g d AL nL cL AS nS cS) :
    w.cell? ⟨g, 0, none⟩ = some (.int .i64 (d.left : Int)) ∧ w.cell? ⟨g, 1, none⟩ = some (.int .i64 (d.odd : Int)) ∧ w.cell? ⟨g, 2, none⟩ = some (.bool d.dead) ∧ w.cell? ⟨g, 3, none⟩ = some (.slice AL nL cL) ∧
    w.cell? ⟨g, 4, none⟩ = some (.int .i64 (d.synced : Int)) ∧ w.cell? ⟨g, 5, none⟩ = some (.slice AS nS cS) ∧ w.cell? ⟨g, 6, none⟩ = some (.int .i64 (d.room : Int)) ∧ ∀ j, w.frozen? ⟨g, j, none⟩ = false :=
  ⟨Blk.cell hB 0, Blk.cell hB 1, Blk.cell hB 2, Blk.cell hB 3, Blk.cell hB 4, Blk.cell hB 5, Blk.cell hB 6, Blk.frozen hB⟩
/-- Bytes that came in lie in no disk's block. -/
theorem Bytes.disk {w w' : World} {A : Option Addr} {n : Nat} {bs : List Nat} {g : Nat} {d : Dsk} {AL : Option Addr} {nL cL : Nat} {AS : Option Addr} {nS cS : Nat} (h : Bytes w A n bs) (hB : DiskC w g d AL nL cL AS nS cS) (k : Mut w g w') : Bytes w' A n bs := by
  refine .of (h.rs.grown k ?_) h.len
  intro b o hA
  by_cases h0 : n = 0
  · exact .inl h0
  · right
    intro e
    injection e with e
    subst e
    obtain ⟨b1, o1, e1, _, hc⟩ := h.at_ 0 (by omega)
    rw [hA] at e1
    simp at e1
    obtain ⟨rfl, rfl⟩ := e1
    rw [Blk.cell hB] at hc
    match o, hc with
    | 0, hc => simp at hc
    | 1, hc => simp at hc
    | 2, hc => simp at hc
    | 3, hc => simp at hc
    | 4, hc => simp at hc
    | 5, hc => simp at hc
    | 6, hc => simp at hc
    | o + 7, hc => simp at hc
theorem disk_ne : 43 ≠ 5 := by decide

set_option maxHeartbeats 400000 in
theorem dead_any (g : Nat) (d : Dsk) (w : World) (hD : DiskAt w g d) :
    Calls Try.prog 23 #[.pointer (some ⟨g, 0, none⟩)] w fun e w' => e = .returned (.bool d.dead) ∧ w' = w := by
  obtain ⟨AL, cL, AS, cS, hC, hL, hS⟩ := hD.raw
  obtain ⟨k0, k1, k2, k3, k4, k5, k6, kf⟩ := hC.cells
  clear hC hL hS hD k0 k1 k3 k4 k5 k6 kf
  go_enter Try.func23, Try.ntmps23
  go_wp2_with fail
  go_ret
  exact ⟨rfl, rfl⟩

set_option maxHeartbeats 400000 in
theorem log_any (g : Nat) (d : Dsk) (w : World) (hD : DiskAt w g d) :
    Calls Try.prog 17 #[.pointer (some ⟨g, 0, none⟩)] w fun e w' => ∃ A' c', e = .returned (.slice A' d.log.length c') ∧ GB w' A' d.log.length c' d.log ∧ Ext w w' := by
  obtain ⟨AL, cL, AS, cS, hC, hL, hS⟩ := hD.raw
  obtain ⟨k0, k1, k2, k3, k4, k5, k6, kf⟩ := hC.cells
  have h1 := own_any AL d.log.length cL d.log w hL.bytes (by have := hD.ok.fits; have := hD.ok.room; omega)
  clear hC hL hS hD k0 k1 k2 k4 k5 k6 kf
  generalize d.log.length = n at *
  go_enter Try.func17, Try.ntmps17
  go_wp2_with fail
  refine h1.mono ?_
  rintro e w2 ⟨A2, c2, rfl, hg2, hx2⟩
  go_wp2_with fail
  go_ret
  exact ⟨_, _, rfl, hg2, hx2⟩

set_option maxHeartbeats 400000 in
theorem snap_any (g : Nat) (d : Dsk) (w : World) (hD : DiskAt w g d) :
    Calls Try.prog 21 #[.pointer (some ⟨g, 0, none⟩)] w fun e w' => ∃ A' c', e = .returned (.slice A' d.snap.length c') ∧ GB w' A' d.snap.length c' d.snap ∧ Ext w w' := by
  obtain ⟨AL, cL, AS, cS, hC, hL, hS⟩ := hD.raw
  obtain ⟨k0, k1, k2, k3, k4, k5, k6, kf⟩ := hC.cells
  have h1 := own_any AS d.snap.length cS d.snap w hS.bytes (by have := hD.ok.fits; have := hD.ok.room; omega)
  clear hC hL hS hD k0 k1 k2 k3 k4 k6 kf
  generalize d.snap.length = n at *
  go_enter Try.func21, Try.ntmps21
  go_wp2_with fail
  refine h1.mono ?_
  rintro e w2 ⟨A2, c2, rfl, hg2, hx2⟩
  go_wp2_with fail
  go_ret
  exact ⟨_, _, rfl, hg2, hx2⟩

set_option maxHeartbeats 400000 in
theorem stop_any (g : Nat) (d : Dsk) (n : Int) (w : World) (hD : DiskAt w g d) (hn : n ≤ 9223372036854775807) :
    Calls Try.prog 22 #[.pointer (some ⟨g, 0, none⟩), .int .i64 n] w fun e w' => e = .returned (.tuple #[]) ∧ DiskAt w' g (d.stop n) ∧ Mut w g w' := by
  obtain ⟨AL, cL, AS, cS, hC, hL, hS⟩ := hD.raw
  obtain ⟨k0, k1, k2, k3, k4, k5, k6, kf⟩ := hC.cells
  have f0 := kf 0
  have f1 := kf 1
  have hB := ((show Blk w g _ _ from hC).set_ 0 (.int .i64 (n.toNat : Int))).set_ 1 (.int .i64 ((n.toNat % 2 : Nat) : Int))
  rw [set7_0, set7_1] at hB
  have hm := ((Mut.refl w g).setCell 0 (.int .i64 (n.toNat : Int))).setCell 1 (.int .i64 ((n.toNat % 2 : Nat) : Int))
  have hL2 := hL.mut hC disk_ne hm
  have hS2 := hS.mut hC disk_ne hm
  have hok := hD.ok.stop hn
  have hfin : DiskAt _ g (d.stop n) := ⟨⟨AL, cL, AS, cS, hB, hL2, hS2⟩, hok⟩
  clear hC hL hS hD k2 k3 k4 k5 k6 kf hL2 hS2 hB hok
  by_cases h0 : n < 0
  · have e : n.toNat = 0 := by omega
    rw [e] at hfin hm
    clear e
    go_enter Try.func22, Try.ntmps22
    go_wp2_with fail
    go_end0
    exact ⟨rfl, hfin, hm⟩
  · obtain ⟨m, rfl⟩ := Int.eq_ofNat_of_zero_le (show 0 ≤ n by omega)
    rw [Int.toNat_natCast] at hfin hm
    go_enter Try.func22, Try.ntmps22
    go_wp2_with fail
    go_end0
    exact ⟨rfl, hfin, hm⟩

theorem code_of (d : Dsk) : (d.code : Int) = if d.dead then 20 else 0 := by unfold Dsk.code; split <;> rfl

set_option maxHeartbeats 400000 in
theorem append_any (g : Nat) (d : Dsk) (A : Option Addr) (n c : Nat) (bs : List Nat) (w : World) (hD : DiskAt w g d) (hz : Bytes w A n bs) (hb : ∀ x ∈ bs, x < 256) (hm : n ≤ c) (hcm : c ≤ maxLen) :
    Calls Try.prog 14 #[.pointer (some ⟨g, 0, none⟩), .slice A n c] w fun e w' => e = .returned (.int .i64 ((d.append bs).1 : Int)) ∧ DiskAt w' g (d.append bs).2 ∧ Mut w g w' := by
  obtain ⟨AL, cL, AS, cS, hC, hL, hS⟩ := hD.raw
  obtain ⟨k0, k1, k2, k3, k4, k5, k6, kf⟩ := hC.cells
  have hlen := hz.len
  have hok := hD.ok
  have hoka := hok.append hb
  have hr := hok.room
  have hf := hok.fits
  unfold maxLen at hcm
  cases hdd : d.dead
  · rw [hdd] at k2
    by_cases hroom : d.room < d.log.length + d.snap.length + n
    · have he : d.append bs = (19, d) := by unfold Dsk.append; rw [if_neg (by simp [hdd]), if_pos (by omega)]
      rw [he]
      have hgt : ((d.room : Int) - (d.log.length : Int) - (d.snap.length : Int) < (n : Int)) := by omega
      have hfin : DiskAt w g d := hD
      have Hlen := Lib.hid hlen
      clear hC hL hS hD hok hoka k0 k1 k4 kf hdd he hlen
      generalize d.log.length = nL at *
      generalize d.snap.length = nS at *
      generalize d.room = r at *
      go_enter Try.func14, Try.ntmps14
      go_wp2_with fail
      go_quiet (fail)
      go_wp2_with fail
      go_ret
      exact ⟨rfl, hfin.ext ((Ext.refl w).drewN _), (Mut.refl w g).ext ((Ext.refl w).drewN _)⟩
    · have he : d.append bs = (d.spend.code, { d.spend with log := d.log ++ bs }) := by unfold Dsk.append; rw [if_neg (by simp [hdd]), if_neg (by omega)]
      rw [he] at hoka ⊢
      have hleft := hok.left
      have hle : ((n : Int) ≤ (d.room : Int) - (d.log.length : Int) - (d.snap.length : Int)) := by omega
      have Hlen := Lib.hid hlen
      have HL := Lib.hid (rfl : d.log.length = d.log.length)
      have HS := Lib.hid (rfl : d.snap.length = d.snap.length)
      clear hD k0 k1 k4 kf he hlen
      generalize hnL : d.log.length = nL at *
      generalize hnS : d.snap.length = nS at *
      have HnL := Lib.hid hnL
      have HnS := Lib.hid hnS
      have hmk := run_make8 (nL + n) ((nL : Int) + (n : Int)) (by omega) (by omega)
      clear hnL hnS HL HS
      have Hdd := Lib.hid hdd
      have Hoka := Lib.hid hoka
      clear hdd hoka hok
      generalize hrr : d.room = r at *
      have Hrr := Lib.hid hrr
      clear hrr
      go_enter Try.func14, Try.ntmps14
      go_wp2_with fail
      go_quiet (fail)
      rename_i nq
      have hxq : Ext w (w.drewN nq) := (Ext.refl w).drewN nq
      generalize w.drewN nq = w1 at *
      go_wp2_with fail
      refine (spend_any g d AL nL cL AS nS cS w1 (Blk.ext hC hxq) Hdd.out hleft).mono ?_
      rintro e w2 ⟨rfl, hC2, hM2⟩
      have hL2 := (hL.ext hxq).mut (Blk.ext hC hxq) disk_ne hM2
      have hS2 := (hS.ext hxq).mut (Blk.ext hC hxq) disk_ne hM2
      obtain ⟨-, -, -, j3, -, -, -, kf⟩ := hC2.cells
      have hgl : g < w2.heap.size := Blk.lt hC2
      have hx3 : Ext w2 (w2.alloc (.cells (madeB (nL + n)) 5)) := (Ext.refl w2).alloc _
      have ho3 := made_own w2 w2.heap.size (nL + n) (Nat.le_refl _) (by omega)
      have hL3 := (hL2.ext hx3).bytes
      have ecut : ∀ w, (Instr.slice 22 (.slice (some ⟨w2.heap.size, 0, none⟩) (nL + n) (nL + n)) (some (.int .i64 (nL : Int))) none none).run Try.prog w = .ok (.slice (cutA (some ⟨w2.heap.size, 0, none⟩) (nL + n) nL 1) n n) w := fun w => by
        have := byte_elem.cut_lo (some ⟨w2.heap.size, 0, none⟩) (nL + n) (nL + n) nL .i64 (by omega) w
        rw [Nat.add_sub_cancel_left] at this
        exact this
      have hcD : 0 < n → cutA (some ⟨w2.heap.size, 0, none⟩) (nL + n) nL 1 = some ⟨w2.heap.size, nL, none⟩ := fun h0 => by
        unfold cutA
        rw [if_neg (by omega)]
        simp [add_lit]
      have HcD := Lib.hid hcD
      generalize cutA (some ⟨w2.heap.size, 0, none⟩) (nL + n) nL 1 = D at *
      clear k2 k3 k5 k6 hcD
      go_wp2_with (refine wpList_copy_Own rfl (.tmp 47) (.tmp 51) _ rfl byte_elem ho3 0 rfl ?_ ?_ rfl hL3.rs (bvals_one _) ?_ ?_)
      · rintro - g hg
        simpa using hg
      · omega
      · omega
      intro w4 ho4 hg4
      have hx4 : Ext w2 w4 := hx3.grown hg4 (fun k h => (ho3.row k h).1)
      have hz4 := ((hz.ext hxq).disk (Blk.ext hC hxq) hM2).ext hx4
      have hbl : (bvals d.log).length = nL := by simp [bvals, HnL.out]
      have Hbl := Lib.hid hbl
      clear hbl
      go_wp2_with (refine wpList_copy_Own rfl (.tmp 53) (.tmp 54) _ rfl byte_elem ho4 nL rfl ?_ ?_ rfl hz4.rs (bvals_one _) ?_ ?_)
      · rintro h0 b hb2
        rw [HcD.out h0]
        simpa using hb2
      · omega
      · exact Nat.le_refl _
      intro w5 ho5 hg5
      have hx5 : Ext w2 w5 := hx4.grown hg5 (fun k h => (ho4.row k h).1)
      have ho6 : Own w5 w2.heap.size 5 1 (some ⟨w2.heap.size, 0, none⟩) (nL + n) (nL + n) (bvals (d.log ++ bs)) := by
        have e : List.take nL (bvals d.log ++ List.drop nL (bvals (zeros8 (nL + n)))) ++ (bvals bs ++ List.drop (nL + n) (bvals d.log ++ List.drop nL (bvals (zeros8 (nL + n))))) = bvals (d.log ++ bs) := by
          rw [List.take_append_of_le_length (by rw [Hbl.out]; omega), List.take_of_length_le (by rw [Hbl.out]; omega), List.drop_of_length_le (by simp [bvals, zeros8, HnL.out]), List.append_nil, bvals_append]
        first
          | exact e ▸ ho5
          | (simp only [List.take_zero, List.nil_append, Nat.zero_add] at ho5; exact e ▸ ho5)
      have hgl5 : g < w5.heap.size := hx5.lt hgl
      have hC5 := Blk.ext hC2 hx5
      have hC6 := hC5.set_ 3 (.slice (some ⟨w2.heap.size, 0, none⟩) (nL + n) (nL + n))
      rw [set7_3] at hC6
      have hM6 : Mut w g (w5.setCell ⟨g, 3, none⟩ (.slice (some ⟨w2.heap.size, 0, none⟩) (nL + n) (nL + n))) := (((Mut.of_ext hxq).trans hM2).ext hx5).setCell 3 _
      have hL6 := (GB.own ho6).mut hC5 disk_ne ((Mut.refl w5 g).setCell 3 (.slice (some ⟨w2.heap.size, 0, none⟩) (nL + n) (nL + n)))
      have hS6 := (hS2.ext hx5).mut hC5 disk_ne ((Mut.refl w5 g).setCell 3 (.slice (some ⟨w2.heap.size, 0, none⟩) (nL + n) (nL + n)))
      have hlen2 : (d.log ++ bs).length = nL + n := by rw [List.length_append, HnL.out, Hlen.out]
      have hfin : DiskAt (w5.setCell ⟨g, 3, none⟩ (.slice (some ⟨w2.heap.size, 0, none⟩) (nL + n) (nL + n))) g { d.spend with log := d.log ++ bs } := by
        refine ⟨⟨some ⟨w2.heap.size, 0, none⟩, nL + n, AS, cS, ?_, ?_, ?_⟩, Hoka.out⟩
        · simp only [hlen2, Dsk.spend_snap, HnS.out]; exact hC6
        · simp only [hlen2]; exact hL6
        · simp only [Dsk.spend_snap, HnS.out]; exact hS6
      have Hfin := Lib.hid hfin
      have kf5 := (Blk.frozen hC5) 3
      have j5 := hx5.cell j3
      have hcode := code_of d.spend
      clear ho4 ho5 ho6 hfin hlen2 hL6 hS6 hC6 hC5 hC2 hg4 hg5 kf hz4 hL2 hS2 hC hL hS
      cases hds : d.spend.dead
      · rw [hds] at hcode
        have Hcode := Lib.hid hcode
        have hF := Hfin.out
        dsimp only at hF
        rw [hds] at hF
        have HF := Lib.hid hF
        clear hcode hF
        go_wp2_with fail
        go_ret
        first | exact ⟨by rw [Hcode.out]; rfl, HF.out, hM6⟩ | exact ⟨by rw [Hcode.out]; rfl, Hfin.out, hM6⟩
      · rw [hds] at hcode
        have Hcode := Lib.hid hcode
        have hF := Hfin.out
        dsimp only at hF
        rw [hds] at hF
        have HF := Lib.hid hF
        clear hcode hF
        go_wp2_with fail
        go_ret
        first | exact ⟨by rw [Hcode.out]; rfl, HF.out, hM6⟩ | exact ⟨by rw [Hcode.out]; rfl, Hfin.out, hM6⟩
  · have he : d.append bs = (20, d) := by unfold Dsk.append; rw [if_pos hdd]
    rw [he]
    rw [hdd] at k2
    have hfin : DiskAt w g d := hD
    clear hC hL hS hD hok hoka k0 k1 k3 k4 k5 k6 kf hdd he hlen hr hf
    go_enter Try.func14, Try.ntmps14
    go_wp2_with fail
    go_ret
    exact ⟨rfl, hfin, Mut.refl w g⟩
end Go.Proofs.Ytpgndejmhegklaa
