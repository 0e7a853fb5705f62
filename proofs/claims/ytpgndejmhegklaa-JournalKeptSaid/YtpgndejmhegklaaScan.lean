/- Scan of package frames: what it tells. -/
import Derived.Test.YtpgndejmhegklaaRows3
import Derived.Test.YtpgndejmhegklaaScanLaw
import Derived.Test.YtpgndejmhegklaaOne
namespace Go.Proofs.Ytpgndejmhegklaa
set_option linter.unusedVariables false
open Go.RowKit

/-- A scan that stands at p, with these records behind it. -/
def ScanAt (bs : List Nat) (recs : List (List Nat)) (p : Nat) : Prop := scanL bs = (recs ++ (scanL (bs.drop p)).1, p + (scanL (bs.drop p)).2)
theorem ScanAt.start (bs : List Nat) : ScanAt bs [] 0 := by simp [ScanAt]
theorem ScanAt.stop {bs : List Nat} {recs : List (List Nat)} {p : Nat} (h : ScanAt bs recs p) (hs : stepOk (bs.drop p) = false) : scanL bs = (recs, p) := by
  unfold ScanAt at h
  rw [scanL_stop hs] at h
  simpa using h
theorem ScanAt.step {bs : List Nat} {recs : List (List Nat)} {p : Nat} (h : ScanAt bs recs p) (hs : stepOk (bs.drop p) = true) :
    ScanAt bs (recs ++ [((bs.drop p).drop 8).take (num4 (bs.drop p))]) (p + (8 + num4 (bs.drop p))) := by
  unfold ScanAt at h ⊢
  rw [scanL_step hs] at h
  rw [h, List.drop_drop]
  simp [Nat.add_assoc]
theorem step_ok {r : List Nat} (h8 : 8 ≤ r.length) (hm : num4 r ≤ 4194304) (hl : 8 + num4 r ≤ r.length) (hc : crcN ((r.drop 8).take (num4 r)) = num4 (r.drop 4)) : stepOk r = true := by
  simp [stepOk, h8, hm, hl, hc]
theorem step_no1 {r : List Nat} (h : ¬ 8 ≤ r.length) : stepOk r = false := by simp [stepOk]; intro h'; omega
theorem step_no2 {r : List Nat} (h : 4194304 < num4 r) : stepOk r = false := by simp [stepOk]; intro h1 h'; omega
theorem step_no3 {r : List Nat} (h : r.length < 8 + num4 r) : stepOk r = false := by simp [stepOk]; intro h1 h2 h3; omega
theorem step_no4 {r : List Nat} (h : crcN ((r.drop 8).take (num4 r)) ≠ num4 (r.drop 4)) : stepOk r = false := by simp [stepOk]; intro h1 h2 h3; exact h

/-- What a Scan says: rows of its own. -/
def ScanSays (w : World) (bs : List Nat) (e : Ending) (w' : World) : Prop :=
  ∃ A' c' vs, e = .returned (.tuple #[.slice A' (scanL bs).1.length c', .int .i64 ((scanL bs).2 : Int)]) ∧ Own w' w.heap.size 22 1 A' (scanL bs).1.length c' vs ∧ RowsV w' vs (scanL bs).1 ∧ Ext w w'
set_option maxRecDepth 100000 in
set_option maxHeartbeats 1000000 in
theorem scan_own (A : Option Addr) (n c : Nat) (bs : List Nat) (w : World) (hz : Bytes w A n bs) (hnc : n ≤ c) (hcm : c ≤ maxLen) (hn : n ≤ 4000000) (hb : ∀ x ∈ bs, x < 256) :
    Calls Try.prog 39 #[.slice A n c] w fun e w' => ScanSays w bs e w' := by
  have hlen := hz.len
  unfold maxLen at hcm
  go_enter Try.func39, Try.ntmps39
  go_wp2_with fail
  go_loopw [2, 3] (fun l i wr => ∃ (k p : Nat) (A' : Option Addr) (c' : Nat) (vs : List Value) (recs : List (List Nat)), l = .slice A' k c' ∧ i = .int .i64 p ∧ p ≤ n ∧ 8 * k ≤ p ∧ Own wr w.heap.size 22 1 A' k c' vs ∧ RowsV wr vs recs ∧ ScanAt bs recs p ∧ Ext w wr) (fun _ i _ => n - (intOf i).toNat)
  case atStart => exact ⟨0, 0, none, 0, [], [], rfl, rfl, by omega, by omega, Own.nil _ _ _ _ _, RowsV.nil _, ScanAt.start bs, Ext.refl _⟩
  case round =>
    obtain ⟨k, p, A', c', vs, recs, rfl, rfl, hp, hk8, hor, hrv, hsa, her⟩ := hrel
    have hkl : recs.length = k := by rw [← hrv.1]; simpa using hor.1
    obtain ⟨A3, e3, z3⟩ := (hz.ext her).rest (k := p) hp hnc
    have hr : (bs.drop p).length = n - p := z3.len
    have hbr : ∀ x ∈ bs.drop p, x < 256 := fun x hx => hb x (List.mem_of_mem_drop hx)
    have hfin : ∀ w', stepOk (bs.drop p) = false → Ext wr w' → ScanSays w bs (Ending.returned (.tuple #[.slice A' k c', .int .i64 (p : Int)])) w' := by
      intro w' hs hx
      have e := hsa.stop hs
      unfold ScanSays
      rw [e]
      exact ⟨A', c', vs, by rw [hkl], by rw [hkl]; exact hor.ext hx, hrv.ext hx, her.trans hx⟩
    have Hfin := Lib.hid hfin
    clear hfin
    have hsa' := Lib.hid hsa
    clear hsa hkl
    by_cases h8 : n - p < 8
    · go_wp2_with fail
      go_ret2
      exact Hfin.out _ (step_no1 (by omega)) (Ext.refl _)
    have hnum : num4 (bs.drop p) < 4294967296 := num4_lt hbr
    have hno2 : 4194304 < num4 (bs.drop p) → stepOk (bs.drop p) = false := step_no2
    have hno3 : n - p < 8 + num4 (bs.drop p) → stepOk (bs.drop p) = false := fun h => step_no3 (by omega)
    have hmx : n - p ≤ maxLen := by unfold maxLen; omega
    go_wp2_with fail
    refine (number_any A3 (n - p) (c - p) (bs.drop p) _ z3 (by omega) hmx hbr).mono ?_
    rintro e w1 ⟨rfl, hx1⟩
    have hst := hsa'.out.step
    have hno4 : crcN (((bs.drop p).drop 8).take (num4 (bs.drop p))) ≠ num4 ((bs.drop p).drop 4) → stepOk (bs.drop p) = false := step_no4
    have hok : num4 (bs.drop p) ≤ 4194304 → 8 + num4 (bs.drop p) ≤ n - p → crcN (((bs.drop p).drop 8).take (num4 (bs.drop p))) = num4 ((bs.drop p).drop 4) → stepOk (bs.drop p) = true := fun h1 h2 h3 => step_ok (by omega) h1 (by omega) h3
    generalize hm : num4 (bs.drop p) = m at *
    have Hm := Lib.hid hm
    clear hm
    have Hno2 := Lib.hid hno2
    have Hno3 := Lib.hid hno3
    have Hno4 := Lib.hid hno4
    have Hok := Lib.hid hok
    have Hst := Lib.hid hst
    clear hno2 hno3 hno4 hok hst
    by_cases hbig : (4194304 : Int) < (m : Int)
    · go_wp2_with fail
      go_ret2
      exact Hfin.out _ (Hno2.out (by omega)) hx1
    by_cases hlong : ((n - p : Nat) : Int) - 8 < (m : Int)
    · go_wp2_with fail
      go_ret2
      exact Hfin.out _ (Hno3.out (by omega)) hx1
    have ecut : ∀ w, (Instr.slice 22 (.slice A3 (n - p) (c - p)) (some (.int .i64 8)) (some (.int .u32 (8 + (m : Int)))) none).run Try.prog w = .ok (.slice (cutA A3 (c - p) 8 1) (8 + m - 8) (c - p - 8)) w := fun w => byte_elem.cut_both A3 (n - p) (c - p) 8 (8 + m) .i64 .u32 8 (8 + (m : Int)) rfl (by omega) (by omega) (by omega) w
    have z5 := (z3.ext hx1).cut (lo := 8) (hi := 8 + m) (c := c - p) (by omega) (by omega) (by omega)
    rw [show 8 + m - 8 = m from by omega] at ecut z5
    generalize hA5 : cutA A3 (c - p) 8 1 = A5 at ecut z5
    clear hA5
    obtain ⟨A4, e4, z4⟩ : ∃ A4, (∀ w, (Instr.slice 22 (.slice A3 (n - p) (c - p)) (some (.int .i64 4)) none none).run Try.prog w = .ok (.slice A4 (n - p - 4) (c - p - 4)) w) ∧ Bytes w1 A4 (n - p - 4) ((bs.drop p).drop 4) := (z3.ext hx1).rest (k := 4) (by omega) (by omega)
    have hb5 : ∀ x ∈ ((bs.drop p).drop 8).take m, x < 256 := fun x hx => hbr x (List.mem_of_mem_drop (List.mem_of_mem_take hx))
    have hb4 : ∀ x ∈ (bs.drop p).drop 4, x < 256 := fun x hx => hbr x (List.mem_of_mem_drop hx)
    have hcall2 := fun w' (h : Ext w1 w') => crc_any A5 m (c - p - 8) _ w' (z5.ext h) (by omega) hb5
    have hcall3 := fun w' (h : Ext w1 w') => number_any A4 (n - p - 4) (c - p - 4) _ w' (z4.ext h) (by omega) (by omega) hb4
    have hcr := crcN_lt (((bs.drop p).drop 8).take m)
    have hnu4 : num4 ((bs.drop p).drop 4) < 4294967296 := num4_lt hb4
    generalize crcN (((bs.drop p).drop 8).take m) = cr at *
    generalize num4 ((bs.drop p).drop 4) = nu at *
    go_wp2_with fail
    go_region_held3 (fun w' => Ext w1 w')
      (first | assumption | exact Ext.refl _ | exact (Ext.refl _).drew | exact Ext.trans (by assumption) (by assumption) | exact Ext.drew (by assumption))
      (first
        | (go_at_call 41; refine (hcall3 _ (by assumption)).mono ?_; rintro e w2 ⟨rfl, he2⟩)
        | (go_at_call 42; refine (hcall2 _ (by assumption)).mono ?_; rintro e w2 ⟨rfl, he2⟩))
    have hx2 : Ext w1 w2 := by first | assumption | exact (Ext.refl _).drew.trans (by assumption)
    clear hcall2 hcall3
    by_cases hcn : cr = nu
    · have hok := Hok.out (by omega) (by omega) hcn
      subst hcn
      go_wp2_with fail
      refine (clone_any A5 m (c - p - 8) _ w2 (z5.ext hx2) (by omega) (by omega)).mono ?_
      rintro e w3 ⟨A9, c9, rfl, hg9, he9⟩
      have hx3 : Ext wr w3 := (hx1.trans hx2).trans he9
      have ho3 := hor.ext (hx3.trans ((Ext.refl w3).alloc (.cells #[.slice A9 m c9] 22)))
      have hr3 : RowsV (w3.alloc (.cells #[.slice A9 m c9] 22)) vs recs := hrv.ext (hx3.trans ((Ext.refl w3).alloc (.cells #[.slice A9 m c9] 22)))
      have hg3 := hg9.ext ((Ext.refl w3).alloc (.cells #[.slice A9 m c9] 22))
      have hbox : RS (w3.alloc (.cells #[.slice A9 m c9] 22)) 1 (some ⟨w3.heap.size, 0, none⟩) 1 [.slice A9 m c9] := box_rs w3 22 1 [.slice A9 m c9] 1 rfl
      have m1 : k + 1 ≤ maxLen := by unfold maxLen; omega
      have m2 : (k + 1) * 24 ≤ 140737488355328 := by omega
      have m3 : w.heap.size ≤ (w3.alloc (.cells #[.slice A9 m c9] 22)).heap.size := ((her.trans hx3).trans ((Ext.refl w3).alloc _)).le
      go_wp2_with (at_builtin; refine wpList_append_Own rfl _ _ _ rfl w.heap.size row_elem rfl ho3 rfl hbox (by simp [Value.oneCell']) m1 m2 m3 ?_)
      intro A6 c6 w6 ho6 hg6
      have hx6 : Ext w w6 := ((her.trans hx3).trans ((Ext.refl w3).alloc _)).grown hg6 (fun k h => (ho3.row k h).1)
      have hr6 := (hr3.snoc hg3.bytes hg3.2.2.2 hg3.1 hg3.2.1).grown (A := A') (n := k) (c := c') (xs := vs) ho3 (by decide) hg6
      clear ho3 hr3 hg3 hbox
      go_wp2_with fail
      go_round
      case rel =>
        refine ⟨k + 1, p + (8 + m), A6, c6, _, _, rfl, by go_num, by omega, by omega, ho6, hr6, Hst.out hok, hx6⟩
      case measure => simp [intOf]; omega
    · have hcn' : ((cr : Int) != (nu : Int)) = true := by simp; omega
      go_wp2_with fail
      go_ret2
      exact Hfin.out _ (Hno4.out hcn) (hx1.trans hx2)
theorem scan_any (A : Option Addr) (n c : Nat) (bs : List Nat) (w : World) (hz : Bytes w A n bs) (hnc : n ≤ c) (hcm : c ≤ maxLen) (hn : n ≤ 4000000) (hb : ∀ x ∈ bs, x < 256) :
    Calls Try.prog 39 #[.slice A n c] w fun e w' => ∃ A' c', e = .returned (.tuple #[.slice A' (scanL bs).1.length c', .int .i64 ((scanL bs).2 : Int)]) ∧ (scanL bs).1.length ≤ c' ∧ c' ≤ maxLen ∧ Rws w' A' (scanL bs).1.length (scanL bs).1 ∧ Ext w w' := by
  refine (scan_own A n c bs w hz hnc hcm hn hb).mono ?_
  rintro e w' ⟨A', c', vs, rfl, ho, hv, hx⟩
  exact ⟨A', c', rfl, ho.2.1, ho.2.2.1, rows_of ho hv, hx⟩
end Go.Proofs.Ytpgndejmhegklaa
