/- Chapter 4's laws: the example; DiskStays. -/
import Derived.Test.YtpgndejmhegklaaDisk3
import Derived.Test.YtpgndejmhegklaaStrs
import Derived.Test.YtpgndejmhegklaaRows3
import Derived.Deep.RegionHeld3
import Derived.Lib.SlBytesConst
namespace Go.Proofs.Ytpgndejmhegklaa
set_option linter.unusedVariables false
open Go.RowKit

theorem ret_boolD {a b : Bool} (h : a = b) : Ending.returned (.bool a) = .returned (.bool b) := by rw [h]
theorem box_markedD (w : World) (t : TypeId) (l : List Value) (r : Nat × Nat) : RS (w.alloc (.cells l.toArray t r)) 1 (some ⟨w.heap.size, 0, none⟩) l.length l := by
  refine ⟨by simp, .inr ⟨w.heap.size, 0, rfl, by show _ < (w.heap.push _).size; rw [Array.size_push]; omega, fun j u hu => ?_⟩⟩
  rw [Nat.zero_add, cell_of_row _ w.heap.size j l.toArray t r (heap_alloc_new w _)]
  simpa using hu
theorem known_dsk : (Dsk.mk0 10).append [97, 98, 99] = (0, ⟨0, 0, false, [97, 98, 99], 0, [], 10⟩) := rfl
theorem known_pick : (Dsk.mk 0 0 false [97, 98, 99] 0 [] 10).pickN 2 = 2 := by decide
theorem known_crash : (Dsk.mk 0 0 false [97, 98, 99] 0 [] 10).crash 2 = ⟨0, 0, false, [97, 98], 2, [], 10⟩ := by
  unfold Dsk.crash
  rw [known_pick]
  rfl
theorem ab_str : strOf [97, 98] = ⟨#[97, 98]⟩ := str_ext (by rw [strOf_data]; rfl)

set_option maxHeartbeats 400000 in
theorem known4 (w : World) : Calls Try.prog 12 #[] w fun e w' => e = .returned (.bool true) ∧ Ext w w' := by
  go_enter Try.func12, Try.ntmps12
  go_wp2_with fail
  refine (new_any 10 w (by omega) (by omega)).mono ?_
  rintro e w1 ⟨rfl, hD1, hx1⟩
  have hcv := Lib.run_convert_bytes_const (P := Try.prog) w1 22 5 #[.int .u8 97, .int .u8 98, .int .u8 99] 3 3 Try.underlying22 Try.underlying5
  go_wp2_with fail
  have hb : Bytes (w1.alloc (.cells #[.int .u8 97, .int .u8 98, .int .u8 99] 5 (3, 4))) (some ⟨w1.heap.size, 0, none⟩) 3 [97, 98, 99] := .of (box_markedD w1 5 [.int .u8 97, .int .u8 98, .int .u8 99] (3, 4)) rfl
  have h2 := append_any w.heap.size _ _ 3 3 [97, 98, 99] _ (hD1.ext ((Ext.refl w1).alloc (.cells #[.int .u8 97, .int .u8 98, .int .u8 99] 5 (3, 4)))) hb (by decide) (Nat.le_refl _) (by simp [maxLen])
  rw [known_dsk] at h2
  refine h2.mono ?_
  rintro e w2 ⟨rfl, hD2, hM2⟩
  clear h2 hb
  go_wp2_with fail
  have h3 := crash_any w.heap.size _ 2 w2 hD2
  rw [known_pick, known_crash] at h3
  refine h3.mono ?_
  rintro e w3 ⟨rfl, hD3, hM3⟩
  clear h3
  go_wp2_with fail
  refine (log_any w.heap.size _ w3 hD3).mono ?_
  rintro e w4 ⟨A4, c4, rfl, hg4, hx4⟩
  have s4 := run_string A4 2 c4 [97, 98] w4 hg4.bytes
  rw [ab_str] at s4
  go_wp2_with fail
  go_ret
  refine ⟨?_, ((((hx1.alloc _).mut hM2 (Nat.le_refl _)).mut hM3 (Nat.le_refl _)).trans hx4)⟩
  rfl

/-- What DiskStays holds of its disk. -/
structure Stay (d : Dsk) (a : List Nat) (k : Nat) : Prop where
  dead : d.dead = false
  left : d.left = 0
  snap : d.snap = []
  room : d.room = 100000
  len : d.log.length ≤ 300 * (k + 1)
  sync : a.length ≤ d.synced
  front : d.log.take a.length = a
theorem Stay.append {d : Dsk} {a : List Nat} {k : Nat} (h : Stay d a k) (hk : k < 20) {r : List Nat} (hr : r.length ≤ 300) (hs : d.synced ≤ d.log.length) : (d.append r).1 = 0 ∧ Stay (d.append r).2 a (k + 1) := by
  have hl := h.len
  have hsn : d.snap.length = 0 := by rw [h.snap]; rfl
  have hsp : d.spend = d := by unfold Dsk.spend; rw [if_neg (by have := h.left; omega)]
  have hap : d.append r = (0, { d with log := d.log ++ r }) := by
    unfold Dsk.append
    rw [if_neg (by simp [h.dead]), if_neg (by rw [h.room, hsn]; omega), hsp]
    unfold Dsk.code
    rw [if_neg (by simp [h.dead])]
  rw [hap]
  refine ⟨rfl, h.dead, h.left, h.snap, h.room, ?_, h.sync, ?_⟩
  · simp only [List.length_append]; omega
  · have := h.sync
    simp only
    rw [List.take_append_of_le_length (by omega)]
    exact h.front
theorem Stay.crash {d : Dsk} {a : List Nat} {k : Nat} (h : Stay d a k) (pick : Int) (hs : d.synced ≤ d.log.length) : Stay (d.crash pick) a k := by
  have h1 := Dsk.pick_lt hs pick
  have h2 := h.sync
  have h3 := h.len
  refine ⟨rfl, rfl, h.snap, h.room, ?_, ?_, ?_⟩
  · simp only [Dsk.crash, List.length_take]; omega
  · simp only [Dsk.crash]; omega
  · simp only [Dsk.crash, List.take_take]
    rw [show min a.length (d.synced + d.pickN pick) = a.length from by omega]
    exact h.front
theorem Stay.start {a : List Nat} (h : a.length ≤ 300) : ((Dsk.mk0 100000).append a).1 = 0 ∧ (((Dsk.mk0 100000).append a).2.sync).1 = 0 ∧ Stay (((Dsk.mk0 100000).append a).2.sync).2 a 0 := by
  have hap : (Dsk.mk0 100000).append a = (0, ⟨0, 0, false, a, 0, [], 100000⟩) := by
    unfold Dsk.append Dsk.mk0
    rw [if_neg (by simp), if_neg (by simp; omega)]
    rfl
  rw [hap]
  refine ⟨rfl, rfl, ?_⟩
  have hsy : (Dsk.mk 0 0 false a 0 [] 100000).sync = (0, ⟨0, 0, false, a, a.length, [], 100000⟩) := rfl
  rw [hsy]
  exact ⟨rfl, rfl, rfl, rfl, by simp only; omega, Nat.le_refl _, by simp⟩

set_option maxRecDepth 100000 in
set_option maxHeartbeats 1000000 in
theorem stays_walk (A : Option Addr) (n c : Nat) (bs : List Nat) (A1 : Option Addr) (n1 c1 : Nat) (rs : List (List Nat)) (A2 : Option Addr) (n2 c2 : Nat) (zs : List Int) (w : World)
    (hz : Bytes w A n bs) (hnc : n ≤ c) (hm : c ≤ maxLen) (hb : ∀ x ∈ bs, x < 256)
    (hz1 : Rws w A1 n1 rs) (hnc1 : n1 ≤ c1) (hm1 : c1 ≤ maxLen) (hb1 : ∀ r ∈ rs, ∀ x ∈ r, x < 256)
    (hz2 : Nums .i64 w A2 n2 zs) (hnc2 : n2 ≤ c2) (hm2 : c2 ≤ maxLen) (hw2 : ∀ x ∈ zs, -9223372036854775808 ≤ x ∧ x ≤ 9223372036854775807) :
    Calls Try.prog 3 #[.slice A n c, .slice A1 n1 c1, .slice A2 n2 c2] w fun e w' => e = .returned (.bool true) ∧ Ext w w' := by
  have hl := Lib.hid hz.len
  have hl1 := Lib.hid hz1.len
  have hcm := hm
  unfold maxLen at hm hm1 hm2
  go_enter Try.func3, Try.ntmps3
  go_wp2_with fail
  refine (known4 w).mono ?_
  rintro e w1 ⟨rfl, hx1⟩
  by_cases hbig : 300 < n
  · go_wp2_with fail
    go_ret
    exact ⟨rfl, hx1⟩
  go_wp2_with fail
  refine (new_any 100000 w1 (by omega) (by omega)).mono ?_
  rintro e w2 ⟨rfl, hD2, hx2⟩
  obtain ⟨s1, s2, s3⟩ := Stay.start (a := bs) (by rw [hl.out]; omega)
  have h2 := append_any w1.heap.size _ A n c bs w2 hD2 ((hz.ext hx1).ext hx2) hb hnc hcm
  rw [show ((((Dsk.mk0 100000).append bs).1 : Nat) : Int) = 0 from by rw [s1]; rfl] at h2
  go_wp2_with fail
  refine h2.mono ?_
  rintro e w3 ⟨rfl, hD3, hM3⟩
  clear h2 s1
  have h3 := sync_any w1.heap.size _ w3 hD3
  rw [show (((((Dsk.mk0 100000).append bs).2.sync).1 : Nat) : Int) = 0 from by rw [s2]; rfl] at h3
  go_wp2_with fail
  refine h3.mono ?_
  rintro e w4 ⟨rfl, hD4, hM4⟩
  clear h3 s2
  have hx4 : Ext w1 w4 := (hx2.mut hM3 (Nat.le_refl _)).mut hM4 (Nat.le_refl _)
  generalize (((Dsk.mk0 100000).append bs).2.sync).2 = d0 at *
  clear hD2 hD3 hM3 hM4
  go_wp2_with fail
  go_loopw [9] (fun i wr => ∃ (k : Nat) (d : Dsk), k ≤ 20 ∧ i = .int .i64 k ∧ DiskAt wr w1.heap.size d ∧ Stay d bs k ∧ Ext w1 wr) (fun i _ => 20 - (intOf i).toNat)
  case atStart => exact ⟨0, d0, by omega, rfl, hD4, s3, hx4⟩
  case round =>
    obtain ⟨k, d, hk, rfl, hD, hS, her⟩ := hrel
    by_cases hlt : k < n1 ∧ k < 20
    · obtain ⟨g1, g2⟩ := hlt
      obtain ⟨b1, o1, A3, n3, c3, rfl, hb3, hc3, h1, h2, h3⟩ := (hz1.ext (hx1.trans her)).at_ k g1
      have hmem : rs.getD k [] ∈ rs := by
        have : k < rs.length := by rw [hl1.out]; exact g1
        simp [this]
      have hrb := hb1 _ hmem
      generalize rs.getD k [] = r at *
      have hl3 := Lib.hid h3.len
      have hki : (k : Int) < 20 := by omega
      by_cases hbr : 300 < n3
      · go_wp2_with fail
        go_round
        case rel => exact ⟨k + 1, d, by omega, by go_num, hD, ⟨hS.dead, hS.left, hS.snap, hS.room, by have := hS.len; omega, hS.sync, hS.front⟩, her⟩
        case measure => simp [intOf]; omega
      obtain ⟨t1, t2⟩ := hS.append g2 (r := r) (by rw [hl3.out]; omega) hD.ok.sync
      have hap := append_any w1.heap.size d A3 n3 c3 r wr hD h3 hrb h1 h2
      rw [show (((d.append r).1 : Nat) : Int) = 0 from by rw [t1]; rfl] at hap
      generalize (d.append r).2 = d2 at *
      go_wp2_with fail
      refine hap.mono ?_
      rintro e w5 ⟨rfl, hD5, hM5⟩
      clear hap t1
      have hx5 : Ext w1 w5 := her.mut hM5 (Nat.le_refl _)
      by_cases gp : k < n2
      · obtain ⟨b2, o2, rfl, hb2, hc2⟩ := (hz2.ext (hx1.trans hx5)).at_ k gp
        have hmem2 : zs.getD k 0 ∈ zs := by
          have : k < zs.length := by rw [hz2.1]; exact gp
          simp [this]
        obtain ⟨q1, q2⟩ := hw2 _ hmem2
        generalize zs.getD k 0 = z at *
        cases hpz : (z.tmod 2 == 1)
        · go_wp2_with fail
          refine (log_any w1.heap.size d2 w5 hD5).mono ?_
          rintro e w7 ⟨A7, c7, rfl, hg7, hx7⟩
          have hx7w : Ext w1 w7 := hx5.trans hx7
          have hal : n ≤ d2.log.length := by have := t2.front; have h9 := congrArg List.length this; rw [List.length_take, hl.out] at h9; omega
          have hfr : (d2.log.take n) = bs := by have := t2.front; rw [hl.out] at this; exact this
          have e7 : ∀ w, (Instr.slice 22 (.slice A7 d2.log.length c7) none (some (.int .i64 (n : Int))) none).run Try.prog w = .ok (.slice A7 n c7) w := fun w => byte_elem.cut_hi _ _ c7 n .i64 n rfl (by have := hg7.le; omega) w
          have s7 : ∀ w', Ext w7 w' → (convert 22 9 (.slice A7 n c7)).run Try.prog w' = .ok (.string (strOf bs)) w' := fun w' h => by
            have := run_string A7 n c7 (d2.log.take n) w' ((hg7.bytes.front hal).ext h)
            rw [hfr] at this
            exact this
          have s8 : ∀ w', Ext w7 w' → (convert 22 9 (.slice A n c)).run Try.prog w' = .ok (.string (strOf bs)) w' := fun w' h => run_string A n c bs w' (hz.ext ((hx1.trans hx7w).trans h))
          have hali : (n : Int) ≤ (d2.log.length : Int) := by omega
          have hn0 : (0 : Int) ≤ (n : Int) := by omega
          have hd0 : decide (d2.log.length < n) = false := by simp; omega
          have hD7 := hD5.ext hx7
          have hc7l := hg7.le
          have hc7i : (n : Int) ≤ (c7 : Int) := by omega
          have Hfr := Lib.hid hfr
          clear hg7 hfr
          generalize d2.log.length = nl at *
          go_wp2_with fail
          go_region_held3 (fun w' => Ext w7 w')
            (first | assumption | (repeat (first | assumption | exact Ext.refl _ | refine Ext.drew ?_ | refine Ext.alloc ?_ _)))
            (fail)
          go_wp2_with fail
          go_roundw
          case rel => exact ⟨k + 1, d2, by omega, by go_num, hD7.ext (Ext.refl _).drew, t2, hx7w.drew⟩
          case measure => simp [intOf]; omega
        · go_wp2_with fail
          refine (crash_any w1.heap.size d2 (z.tdiv 2) w5 hD5).mono ?_
          rintro e w6 ⟨rfl, hD6, hM6⟩
          have t3 := t2.crash (z.tdiv 2) hD5.ok.sync
          generalize d2.crash (z.tdiv 2) = d3 at *
          have hx6 : Ext w1 w6 := hx5.mut hM6 (Nat.le_refl _)
          go_wp2_with fail
          refine (log_any w1.heap.size d3 w6 hD6).mono ?_
          rintro e w7 ⟨A7, c7, rfl, hg7, hx7⟩
          have hx7w : Ext w1 w7 := hx6.trans hx7
          have hal : n ≤ d3.log.length := by have := t3.front; have h9 := congrArg List.length this; rw [List.length_take, hl.out] at h9; omega
          have hfr : (d3.log.take n) = bs := by have := t3.front; rw [hl.out] at this; exact this
          have e7 : ∀ w, (Instr.slice 22 (.slice A7 d3.log.length c7) none (some (.int .i64 (n : Int))) none).run Try.prog w = .ok (.slice A7 n c7) w := fun w => byte_elem.cut_hi _ _ c7 n .i64 n rfl (by have := hg7.le; omega) w
          have s7 : ∀ w', Ext w7 w' → (convert 22 9 (.slice A7 n c7)).run Try.prog w' = .ok (.string (strOf bs)) w' := fun w' h => by
            have := run_string A7 n c7 (d3.log.take n) w' ((hg7.bytes.front hal).ext h)
            rw [hfr] at this
            exact this
          have s8 : ∀ w', Ext w7 w' → (convert 22 9 (.slice A n c)).run Try.prog w' = .ok (.string (strOf bs)) w' := fun w' h => run_string A n c bs w' (hz.ext ((hx1.trans hx7w).trans h))
          have hali : (n : Int) ≤ (d3.log.length : Int) := by omega
          have hn0 : (0 : Int) ≤ (n : Int) := by omega
          have hd0 : decide (d3.log.length < n) = false := by simp; omega
          have hD7 := hD6.ext hx7
          have hc7l := hg7.le
          have hc7i : (n : Int) ≤ (c7 : Int) := by omega
          have Hfr := Lib.hid hfr
          clear hg7 hfr
          generalize d3.log.length = nl at *
          go_wp2_with fail
          go_region_held3 (fun w' => Ext w7 w')
            (first | assumption | (repeat (first | assumption | exact Ext.refl _ | refine Ext.drew ?_ | refine Ext.alloc ?_ _)))
            (fail)
          go_wp2_with fail
          go_roundw
          case rel => exact ⟨k + 1, d3, by omega, by go_num, hD7.ext (Ext.refl _).drew, t3, hx7w.drew⟩
          case measure => simp [intOf]; omega
      · go_wp2_with fail
        refine (log_any w1.heap.size d2 w5 hD5).mono ?_
        rintro e w7 ⟨A7, c7, rfl, hg7, hx7⟩
        have hx7w : Ext w1 w7 := hx5.trans hx7
        have hal : n ≤ d2.log.length := by have := t2.front; have h9 := congrArg List.length this; rw [List.length_take, hl.out] at h9; omega
        have hfr : (d2.log.take n) = bs := by have := t2.front; rw [hl.out] at this; exact this
        have e7 : ∀ w, (Instr.slice 22 (.slice A7 d2.log.length c7) none (some (.int .i64 (n : Int))) none).run Try.prog w = .ok (.slice A7 n c7) w := fun w => byte_elem.cut_hi _ _ c7 n .i64 n rfl (by have := hg7.le; omega) w
        have s7 : ∀ w', Ext w7 w' → (convert 22 9 (.slice A7 n c7)).run Try.prog w' = .ok (.string (strOf bs)) w' := fun w' h => by
          have := run_string A7 n c7 (d2.log.take n) w' ((hg7.bytes.front hal).ext h)
          rw [hfr] at this
          exact this
        have s8 : ∀ w', Ext w7 w' → (convert 22 9 (.slice A n c)).run Try.prog w' = .ok (.string (strOf bs)) w' := fun w' h => run_string A n c bs w' (hz.ext ((hx1.trans hx7w).trans h))
        have hali : (n : Int) ≤ (d2.log.length : Int) := by omega
        have hn0 : (0 : Int) ≤ (n : Int) := by omega
        have hd0 : decide (d2.log.length < n) = false := by simp; omega
        have hD7 := hD5.ext hx7
        have hc7l := hg7.le
        have hc7i : (n : Int) ≤ (c7 : Int) := by omega
        have Hfr := Lib.hid hfr
        clear hg7 hfr
        generalize d2.log.length = nl at *
        go_wp2_with fail
        go_region_held3 (fun w' => Ext w7 w')
          (first | assumption | (repeat (first | assumption | exact Ext.refl _ | refine Ext.drew ?_ | refine Ext.alloc ?_ _)))
          (fail)
        go_wp2_with fail
        go_roundw
        case rel => exact ⟨k + 1, d2, by omega, by go_num, hD7.ext (Ext.refl _).drew, t2, hx7w.drew⟩
        case measure => simp [intOf]; omega
    · have hfin := hx1.trans her
      by_cases g1 : k < n1
      · have g2 : ¬ k < 20 := by omega
        clear hlt
        go_wp2_with fail
        go_ret
        exact ⟨rfl, hfin⟩
      · clear hlt
        go_wp2_with fail
        go_ret
        exact ⟨rfl, hfin⟩
end Go.Proofs.Ytpgndejmhegklaa
