/- JournalSnaps, walked. -/
import Derived.Test.YtpgndejmhegklaaJAdd
import Derived.Test.YtpgndejmhegklaaWithin
namespace Go.Proofs.Ytpgndejmhegklaa
set_option linter.unusedVariables false
open Go.RowKit

/-- A disk with a snapshot and records. -/
structure SnapsAt (d : Dsk) (ss : List Nat) (rs : List (List Nat)) : Prop where
  calm : Calm d 100000
  snap : (d.snap = [] ∧ ss = []) ∨ d.snap = frameL ss
  log : d.log = logL rs
  ls : ss.length ≤ 200
  lr : ∀ r ∈ rs, r.length ≤ 200
theorem logL_len2 {rs : List (List Nat)} (hl : ∀ r ∈ rs, r.length ≤ 200) : (logL rs).length ≤ 208 * rs.length := by
  induction rs with
  | nil => simp [logL]
  | cons r rs ih =>
    have h1 := ih (fun x hx => hl x (by simp [hx]))
    have h2 := hl r (by simp)
    have e : logL (r :: rs) = frameL r ++ logL rs := by simp [logL]
    rw [e, List.length_append, frameL_len, List.length_cons]
    omega
theorem logL_add (rs : List (List Nat)) (b : List Nat) : logL (rs ++ [b]) = logL rs ++ frameL b := by simp [logL]
theorem SnapsAt.len {d : Dsk} {ss : List Nat} {rs : List (List Nat)} (h : SnapsAt d ss rs) : d.snap.length ≤ 208 ∧ d.log.length ≤ 208 * rs.length := by
  refine ⟨?_, by rw [h.log]; exact logL_len2 h.lr⟩
  have := h.ls
  rcases h.snap with ⟨h1, _⟩ | h1
  · rw [h1]; simp
  · rw [h1, frameL_len]; omega
theorem SnapsAt.one {d : Dsk} {ss : List Nat} {rs : List (List Nat)} (h : SnapsAt d ss rs) : (d.snap = [] ∨ oneE d.snap = 0) ∧ oneB d.snap = ss := by
  have := h.ls
  rcases h.snap with ⟨h1, h2⟩ | h1
  · exact ⟨.inl h1, by rw [h1, h2]; rfl⟩
  · obtain ⟨a, b⟩ := one_frame ss (by omega)
    exact ⟨.inr (by rw [h1]; exact a), by rw [h1]; exact b⟩
theorem SnapsAt.scan {d : Dsk} {ss : List Nat} {rs : List (List Nat)} (h : SnapsAt d ss rs) : (scanL d.log).1 = rs ∧ openV d = d := by
  have hs := scan_all rs (fun b hb => by have := h.lr b hb; omega)
  refine ⟨by rw [h.log, hs], ?_⟩
  unfold openV
  rw [h.log, hs, if_neg (by simp)]
theorem SnapsAt.add {d : Dsk} {ss : List Nat} {rs : List (List Nat)} (h : SnapsAt d ss rs) {b : List Nat} (hb : b.length ≤ 200) (hn : rs.length ≤ 20) : (addV d b).1 = 0 ∧ SnapsAt (addV d b).2 ss (rs ++ [b]) := by
  obtain ⟨l1, l2⟩ := h.len
  obtain ⟨hd, hl, hr⟩ := h.calm
  have ha : d.append (frameL b) = (0, { d with log := d.log ++ frameL b }) := by
    rw [h.calm.append, if_neg (by rw [frameL_len]; omega)]
  have hc2 : Calm { d with log := d.log ++ frameL b } 100000 := ⟨hd, hl, hr⟩
  have hsy : Dsk.sync { d with log := d.log ++ frameL b } = (0, { d with log := d.log ++ frameL b, synced := (d.log ++ frameL b).length }) := by
    have hsp := hc2.spend
    unfold Dsk.sync
    rw [hsp, if_neg (by simp [hd]), if_neg (by simp [hd])]
  have e : addV d b = (0, { d with log := d.log ++ frameL b, synced := (d.log ++ frameL b).length }) := by
    unfold addV
    rw [ha]
    exact hsy
  rw [e]
  refine ⟨rfl, ⟨hd, hl, hr⟩, h.snap, by show d.log ++ frameL b = _; rw [h.log, logL_add], h.ls, ?_⟩
  intro r hr'
  rcases List.mem_append.1 hr' with h1 | h1
  · exact h.lr r h1
  · rw [List.mem_singleton.1 h1]; exact hb
theorem SnapsAt.put {d : Dsk} {ss : List Nat} {rs : List (List Nat)} (h : SnapsAt d ss rs) {b : List Nat} (hb : b.length ≤ 200) : (snapV d b).1 = 0 ∧ SnapsAt (snapV d b).2 b [] := by
  obtain ⟨hd, hl, hr⟩ := h.calm
  have e : snapV d b = (0, { d with snap := frameL b, log := [], synced := 0 }) := by
    unfold snapV
    rw [h.calm.swap, if_neg (by rw [frameL_len]; omega)]
  rw [e]
  exact ⟨rfl, ⟨hd, hl, hr⟩, .inr rfl, rfl, hb, fun r hr' => absurd hr' (by simp)⟩
theorem SnapsAt.new : SnapsAt (Dsk.mk0 100000) [] [] := ⟨⟨rfl, rfl, rfl⟩, .inl ⟨rfl, rfl⟩, rfl, by simp, fun r hr => absurd hr (by simp)⟩
/-- What an Open of such a disk gives. -/
theorem open_snaps (g : Nat) (d : Dsk) (ss : List Nat) (rs : List (List Nat)) (w : World) (hD : DiskAt w g d) (h : SnapsAt d ss rs) (hn : rs.length ≤ 21) :
    Calls Try.prog 26 #[.pointer (some ⟨g, 0, none⟩)] w fun e w' => ∃ q As cs Al cl, e = .returned (.tuple #[.pointer (some ⟨q, 0, none⟩), .slice As ss.length cs, .slice Al rs.length cl, .int .i64 0]) ∧ w.heap.size ≤ q ∧ JourAt w' q g rs.length ∧ GB w' As ss.length cs ss ∧ Rws w' Al rs.length rs ∧ DiskAt w' g d ∧ Mut w g w' := by
  obtain ⟨l1, l2⟩ := h.len
  obtain ⟨o1, o2⟩ := h.one
  obtain ⟨s1, s2⟩ := h.scan
  refine (open_ok g d w hD h.calm.dead h.calm.left (by omega) (by omega) o1).mono ?_
  rintro e w' ⟨q, As, ms, cs, Al, nl, cl, rfl, hq, hJ, hg, rfl, hr, rfl, hD2, hM2⟩
  rw [o2] at hg
  rw [s1] at hJ hr
  rw [s2] at hD2
  rw [o2, s1]
  exact ⟨q, As, cs, Al, cl, rfl, hq, hJ, hg, hr, hD2, hM2⟩
theorem snaps_put (w0 : World) (q g n : Nat) (d : Dsk) (ss : List Nat) (rs : List (List Nat)) (A : Option Addr) (nb cb : Nat) (bs : List Nat) (w : World) (hS : SnapsAt d ss rs) (hJ : JourAt w q g n) (hD : DiskAt w g d) (hqg : q ≠ g) (hz : Bytes w A nb bs) (hnb : nb ≤ cb) (hb : ∀ x ∈ bs, x < 256) (hn : nb ≤ 200) (hx : Ext w0 w) (hg0 : w0.heap.size ≤ g) (hq0 : w0.heap.size ≤ q) :
    Calls Try.prog 32 #[.pointer (some ⟨q, 0, none⟩), .slice A nb cb] w fun e w' => e = .returned (.int .i64 0) ∧ ∃ d', SnapsAt d' bs [] ∧ DiskAt w' g d' ∧ JourAt w' q g 0 ∧ Ext w0 w' := by
  obtain ⟨p1, p2⟩ := hS.put (b := bs) (by rw [hz.len]; exact hn)
  refine (jsnap_any w0 q g n d A nb cb bs w hJ hD hqg hz hnb hb (by omega) hx hg0 hq0).mono ?_
  rintro e w' ⟨rfl, h2, h3, h4⟩
  rw [p1] at h3 ⊢
  exact ⟨rfl, _, p2, h2, h3, h4⟩
theorem snaps_add (w0 : World) (q g : Nat) (d : Dsk) (ss : List Nat) (rs : List (List Nat)) (A : Option Addr) (nb cb : Nat) (bs : List Nat) (w : World) (hS : SnapsAt d ss rs) (hrs : rs.length ≤ 20) (hJ : JourAt w q g rs.length) (hD : DiskAt w g d) (hqg : q ≠ g) (hz : Bytes w A nb bs) (hnb : nb ≤ cb) (hb : ∀ x ∈ bs, x < 256) (hn : nb ≤ 200) (hx : Ext w0 w) (hg0 : w0.heap.size ≤ g) (hq0 : w0.heap.size ≤ q) :
    Calls Try.prog 27 #[.pointer (some ⟨q, 0, none⟩), .slice A nb cb] w fun e w' => e = .returned (.int .i64 0) ∧ ∃ d', SnapsAt d' ss (rs ++ [bs]) ∧ DiskAt w' g d' ∧ JourAt w' q g (rs.length + 1) ∧ Ext w0 w' := by
  obtain ⟨p1, p2⟩ := hS.add (b := bs) (by rw [hz.len]; exact hn) hrs
  refine (jadd_any w0 q g rs.length d A nb cb bs w hJ hD hqg hz hnb hb (by omega) hx hg0 hq0 (by omega)).mono ?_
  rintro e w' ⟨rfl, h2, h3, h4⟩
  rw [p1] at h3 ⊢
  exact ⟨rfl, _, p2, h2, h3, h4⟩
set_option maxRecDepth 100000 in
set_option maxHeartbeats 2000000 in
theorem jsnaps_walk (A : Option Addr) (n c : Nat) (ls : List (List Nat)) (every : Int) (w : World)
    (hz : Rws w A n ls) (hnc : n ≤ c) (hm : c ≤ maxLen) (hb : ∀ r ∈ ls, ∀ x ∈ r, x < 256) (he : -9223372036854775808 ≤ every ∧ every ≤ 9223372036854775807) :
    Calls Try.prog 10 #[.slice A n c, .int .i64 every] w fun e w' => e = .returned (.bool true) ∧ Ext w w' := by
  have hl := Lib.hid hz.len
  unfold maxLen at hm
  go_enter Try.func10, Try.ntmps10
  go_wp2_with fail
  refine (known5 w).mono ?_
  rintro e w1 ⟨rfl, hx1⟩
  by_cases h20 : (20 : Int) < (n : Int)
  · go_wp2_with fail
    go_ret
    exact ⟨rfl, hx1⟩
  have hwi := within5 every 5 (by omega) (by omega)
  obtain ⟨p, hp, hp5⟩ := emod_natW every 5 5 rfl (by omega)
  rw [hp] at hwi
  go_wp2_with fail
  refine (hwi w1).mono ?_
  rintro e wx ⟨rfl, rfl⟩
  clear hwi hp he
  go_wp2_with fail
  refine (new_any 100000 wx (by omega) (by omega)).mono ?_
  rintro e w2 ⟨rfl, hD2, hx2⟩
  have ho := open_snaps wx.heap.size _ [] [] w2 hD2 SnapsAt.new (by simp)
  go_wp2_with fail
  refine ho.mono ?_
  rintro e w3 ⟨q, As, cs, Al, cl, rfl, hq, hJ3, -, -, hD3, hM3⟩
  have hx13 : Ext wx w3 := hx2.mut hM3 (Nat.le_refl _)
  have hqg : q ≠ wx.heap.size := by have := hD2.lt; omega
  have hq1 : wx.heap.size ≤ q := by have := hD2.lt; omega
  clear ho hD2 hM3 hq hx2
  generalize hgg : wx.heap.size = g at *
  go_wp2_with fail
  go_loopw [11, 12, 13, 14, 15, 16, 17] (fun s m i _ _ _ _ wr => ∃ (k : Nat) (d : Dsk) (ss : List Nat) (rs : List (List Nat)), k ≤ n ∧ rs.length ≤ k ∧ i = .int .i64 k ∧ s = .string (strOf ss) ∧ m = .int .i64 (rs.length : Int) ∧ SnapsAt d ss rs ∧ (∀ x ∈ ss, x < 256) ∧ DiskAt wr g d ∧ JourAt wr q g rs.length ∧ Ext wx wr) (fun _ _ i _ _ _ _ _ => n - (intOf i).toNat)
  case atStart => exact ⟨0, _, [], [], by omega, by simp, rfl, by rw [strOf_nil], rfl, SnapsAt.new, by simp, hD3, hJ3, hx13⟩
  case round =>
    obtain ⟨k, d, ss, rs, hk, hrk, rfl, rfl, rfl, hS, hs8, hD, hJ, her⟩ := hrel
    by_cases hlt : k < n
    · obtain ⟨b, o, A1, n1, c1, rfl, hbb, hc0, h1, h2, h3⟩ := (hz.ext hx1).at_ k hlt
      have hltI : (k : Int) < (n : Int) := by omega
      have hc := her.cell hc0
      have hg0 : wx.heap.size ≤ g := Nat.le_of_eq hgg
      have hq0 : wx.heap.size ≤ q := by omega
      have hmem : ls.getD k [] ∈ ls := by
        have : k < ls.length := by rw [hl.out]; exact hlt
        simp [this]
      have hbk := hb _ hmem
      by_cases hbig : (200 : Int) < (n1 : Int)
      · go_wp2_with fail
        go_ret
        exact ⟨rfl, hx1.trans her⟩
      have hne : (1 + (p : Int)) ≠ 0 := by omega
      have hsn := snaps_put wx q g rs.length d ss rs A1 n1 c1 (ls.getD k []) wr hS hJ hD hqg (h3.ext her) h1 hbk (by omega) her hg0 hq0
      have had := snaps_add wx q g d ss rs A1 n1 c1 (ls.getD k []) wr hS (by omega) hJ hD hqg (h3.ext her) h1 hbk (by omega) her hg0 hq0
      generalize ls.getD k [] = bk at *
      go_upto_if 54 with (fail)
      go_cut [11, 12] (fun s m w5 => ∃ (d : Dsk) (ss : List Nat) (rs : List (List Nat)), rs.length ≤ k + 1 ∧ s = .string (strOf ss) ∧ m = .int .i64 (rs.length : Int) ∧ SnapsAt d ss rs ∧ (∀ x ∈ ss, x < 256) ∧ DiskAt w5 g d ∧ JourAt w5 q g rs.length ∧ Ext wx w5)
      case first =>
        clear hS hD hJ
        go_wp2_with fail
        · refine hsn.mono ?_
          rintro e w4 ⟨rfl, d4, hS4, hD4, hJ4, hx4⟩
          have hc4 := hx4.cell hc0
          have s4 := run_string A1 n1 c1 bk w4 (h3.ext hx4)
          clear hsn had hc
          go_wp2_with fail
          go_meet
          exact ⟨d4, bk, [], by simp, rfl, rfl, hS4, hbk, hD4, hJ4, hx4⟩
        · refine had.mono ?_
          rintro e w4 ⟨rfl, d4, hS4, hD4, hJ4, hx4⟩
          clear hsn had hc
          go_wp2_with fail
          go_meet
          exact ⟨d4, ss, rs ++ [bk], by rw [List.length_append]; simp; omega, rfl, by rw [List.length_append]; simp, hS4, hs8, hD4, by rw [List.length_append]; exact hJ4, hx4⟩
      case rest =>
        obtain ⟨d5, ss5, rs5, hr5, rfl, rfl, hS5, hs85, hD5, hJ5, hx5⟩ := hcut
        clear hsn had hc hS hD hJ her
        have ho := open_snaps g d5 ss5 rs5 _ hD5 hS5 (by omega)
        go_wp2_with fail
        refine ho.mono ?_
        rintro e w6 ⟨q6, A6, c6, L6, cl6, rfl, hq6, hJ6, hg6, hr6, hD6, hM6⟩
        obtain ⟨AL, cL, AS, cS, hC5, -, -⟩ := hD5.raw
        have hJ5' : JourAt w6 q g rs5.length := Blk.mut hJ5 hM6 hqg
        have hx6 : Ext wx w6 := hx5.mut hM6 hg0
        have s6 := run_string A6 ss5.length c6 ss5 w6 hg6.bytes
        have hc1 := count_any q g rs5.length w6 hJ5'
        have hc2 := count_any q6 g rs5.length w6 hJ6
        have hs6 := strOf_lbeq hs85 hs85
        generalize hrl : rs5.length = m5 at *
        have Hrl := Lib.hid hrl
        clear ho hrl
        go_wp2_with fail
        refine hc1.mono ?_
        rintro e wy ⟨rfl, rfl⟩
        go_wp2_with fail
        refine hc2.mono ?_
        rintro e wz ⟨rfl, rfl⟩
        clear hc1 hc2
        go_wp2_with fail
        go_round
        case rel => exact ⟨k + 1, d5, ss5, rs5, by omega, by rw [Hrl.out]; omega, by go_num, rfl, by rw [Hrl.out], hS5, hs85, hD6, by rw [Hrl.out]; exact hJ5', hx6⟩
        case measure => simp [intOf]; omega
    · have : k = n := by omega
      subst this
      go_wp2_with fail
      go_ret
      exact ⟨rfl, hx1.trans her⟩
end Go.Proofs.Ytpgndejmhegklaa
