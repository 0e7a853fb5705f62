/- JournalTorn, walked. -/
import Derived.Test.YtpgndejmhegklaaJSnaps
import Derived.Test.YtpgndejmhegklaaROne
namespace Go.Proofs.Ytpgndejmhegklaa
set_option linter.unusedVariables false
open Go.RowKit

set_option maxHeartbeats 400000 in
theorem rows_same5 (A : Option Addr) (n c : Nat) (rs : List (List Nat)) (A2 : Option Addr) (c2 : Nat) (w : World) (hz : Rws w A n rs) (hz2 : Rws w A2 n rs) (hm : n ≤ 1000) (hb : ∀ r ∈ rs, ∀ x ∈ r, x < 256) :
    Calls Try.prog 29 #[.slice A n c, .slice A2 n c2] w fun e w' => e = .returned (.bool true) ∧ Ext w w' := by
  have hl := Lib.hid hz.len
  go_enter Try.func29, Try.ntmps29
  go_wp2_with fail
  go_loopw [5] (fun i wr => ∃ k : Nat, k ≤ n ∧ i = .int .i64 k ∧ Ext w wr) (fun i _ => n - (intOf i).toNat)
  case atStart => exact ⟨0, by omega, rfl, Ext.refl _⟩
  case round =>
    obtain ⟨k, hk, rfl, her⟩ := hrel
    by_cases hlt : k < n
    · obtain ⟨b, o, A1, n1, c1, rfl, hbb, hc, h1, h2, h3⟩ := (hz.ext her).at_ k hlt
      obtain ⟨b', o', A1', n1', c1', rfl, hbb', hc', h1', h2', h3'⟩ := (hz2.ext her).at_ k hlt
      have s1 : ∀ nq, (convert 22 9 (.slice A1 n1 c1)).run Try.prog (wr.drewN nq) = .ok (.string (strOf (rs.getD k []))) (wr.drewN nq) := fun nq => run_string A1 n1 c1 _ _ (h3.ext ((Ext.refl wr).drewN nq))
      have s2 : ∀ nq, (convert 22 9 (.slice A1' n1' c1')).run Try.prog (wr.drewN nq) = .ok (.string (strOf (rs.getD k []))) (wr.drewN nq) := fun nq => run_string A1' n1' c1' _ _ (h3'.ext ((Ext.refl wr).drewN nq))
      generalize rs.getD k [] = r1 at *
      go_wp2_with fail
      go_quiet (fail)
      rename_i nq
      have her2 := her.drewN nq
      go_wp2_with fail
      go_round
      case rel => exact ⟨k + 1, by omega, by go_num, her2⟩
      case measure => simp [intOf]; omega
    · have : k = n := by omega
      subst this
      go_wp2_with fail
      go_ret
      exact ⟨rfl, her⟩
theorem scan_none {r : List Nat} (h : (scanL r).1 = []) : (scanL r).2 = 0 := by
  cases hs : stepOk r
  · rw [scanL_stop hs]
  · rw [scanL_step hs] at h; simp at h
/-- A torn end is cut off. -/
theorem SnapsAt.torn {d : Dsk} {rs : List (List Nat)} (h : SnapsAt d [] rs) {ts : List Nat} (ht : ts.length ≤ 100) (hn : rs.length ≤ 20) (hs : (scanL ts).1 = []) :
    (d.append ts).1 = 0 ∧ Calm (d.append ts).2 100000 ∧ (d.append ts).2.snap = d.snap ∧ (d.append ts).2.log = logL rs ++ ts ∧ (scanL (d.append ts).2.log).1 = rs ∧ SnapsAt (openV (d.append ts).2) [] rs := by
  obtain ⟨l1, l2⟩ := h.len
  obtain ⟨hd, hl, hr⟩ := h.calm
  have ha : d.append ts = (0, { d with log := logL rs ++ ts }) := by rw [h.calm.append, if_neg (by omega), h.log]
  rw [ha]
  have hc2 : Calm { d with log := logL rs ++ ts } 100000 := ⟨hd, hl, hr⟩
  have hsc : scanL (logL rs ++ ts) = (rs, (logL rs).length) := by
    have := scan_log rs ts (fun b hb => by have := h.lr b hb; omega)
    rw [hs, scan_none hs] at this
    simpa [logL] using this
  refine ⟨rfl, hc2, rfl, rfl, by show (scanL (logL rs ++ ts)).1 = rs; rw [hsc], ?_⟩
  unfold openV
  show SnapsAt (if (scanL (logL rs ++ ts)).2 < (logL rs ++ ts).length then _ else _) [] rs
  rw [hsc]
  by_cases hc : (logL rs).length < (logL rs ++ ts).length
  · rw [if_pos hc]
    have hcut := hc2.cut (logL rs).length
    rw [if_neg (by show ¬ (logL rs ++ ts).length < _; omega)] at hcut
    show SnapsAt (Dsk.cut { d with log := logL rs ++ ts } (((logL rs).length : Nat) : Int)).2 [] rs
    rw [hcut]
    exact ⟨⟨hd, hl, hr⟩, h.snap, by show (logL rs ++ ts).take _ = _; rw [List.take_left], h.ls, h.lr⟩
  · rw [if_neg hc]
    have : ts = [] := by
      rw [List.length_append] at hc
      exact List.eq_nil_of_length_eq_zero (by omega)
    exact ⟨⟨hd, hl, hr⟩, h.snap, by show logL rs ++ ts = _; rw [this, List.append_nil], h.ls, h.lr⟩
set_option maxRecDepth 100000 in
set_option maxHeartbeats 2000000 in
theorem jtorn_walk (A : Option Addr) (n c : Nat) (ls : List (List Nat)) (A1 : Option Addr) (n1 c1 : Nat) (ts : List Nat) (A2 : Option Addr) (n2 c2 : Nat) (ms : List Nat) (w : World)
    (hz : Rws w A n ls) (hnc : n ≤ c) (hm : c ≤ maxLen) (hb : ∀ r ∈ ls, ∀ x ∈ r, x < 256)
    (hz1 : Bytes w A1 n1 ts) (hnc1 : n1 ≤ c1) (hm1 : c1 ≤ maxLen) (hb1 : ∀ x ∈ ts, x < 256)
    (hz2 : Bytes w A2 n2 ms) (hnc2 : n2 ≤ c2) (hm2 : c2 ≤ maxLen) (hb2 : ∀ x ∈ ms, x < 256) :
    Calls Try.prog 9 #[.slice A n c, .slice A1 n1 c1, .slice A2 n2 c2] w fun e w' => e = .returned (.bool true) ∧ Ext w w' := by
  have hl := Lib.hid hz.len
  have hl1 := Lib.hid hz1.len
  have hl2 := Lib.hid hz2.len
  unfold maxLen at hm
  go_enter Try.func9, Try.ntmps9
  go_wp2_with fail
  refine (known5 w).mono ?_
  rintro e w1 ⟨rfl, hx1⟩
  by_cases h10 : (10 : Int) < (n : Int)
  · go_wp2_with fail
    go_ret
    exact ⟨rfl, hx1⟩
  by_cases h100 : (100 : Int) < (n1 : Int)
  · go_wp2_with fail
    go_ret
    exact ⟨rfl, hx1⟩
  by_cases h101 : (100 : Int) < (n2 : Int)
  · go_wp2_with fail
    go_ret
    exact ⟨rfl, hx1⟩
  go_wp2_with fail
  refine (new_any 100000 w1 (by omega) (by omega)).mono ?_
  rintro e w2 ⟨rfl, hD2, hx2⟩
  have ho := open_snaps w1.heap.size _ [] [] w2 hD2 SnapsAt.new (by simp)
  go_wp2_with fail
  refine ho.mono ?_
  rintro e w3 ⟨q, As, cs, Al, cl, rfl, hq, hJ3, -, -, hD3, hM3⟩
  have hx13 : Ext w1 w3 := hx2.mut hM3 (Nat.le_refl _)
  have hqg : q ≠ w1.heap.size := by have := hD2.lt; omega
  have hq1 : w1.heap.size ≤ q := by have := hD2.lt; omega
  clear ho hD2 hM3 hq hx2
  generalize hgg : w1.heap.size = g at *
  have hg0 : w1.heap.size ≤ g := Nat.le_of_eq hgg
  have hq0 : w1.heap.size ≤ q := by omega
  go_wp2_with fail
  go_loopw [13, 14] (fun s i wr => ∃ (k : Nat) (d : Dsk), k ≤ n ∧ i = .int .i64 k ∧ s = .int .i64 ((logL (ls.take k)).length : Int) ∧ SnapsAt d [] (ls.take k) ∧ DiskAt wr g d ∧ JourAt wr q g k ∧ Ext w1 wr) (fun _ i _ => n - (intOf i).toNat)
  case atStart => exact ⟨0, _, by omega, rfl, by simp [logL], by simpa using SnapsAt.new, hD3, hJ3, hx13⟩
  case round =>
    obtain ⟨k, d, hk, rfl, rfl, hS, hD, hJ, her⟩ := hrel
    by_cases hlt : k < n
    · obtain ⟨b, o, A4, n4, c4, rfl, hbb, hc0, h1, h2, h3⟩ := (hz.ext hx1).at_ k hlt
      have hltI : (k : Int) < (n : Int) := by omega
      have hc := her.cell hc0
      have hmem : ls.getD k [] ∈ ls := by
        have : k < ls.length := by rw [hl.out]; exact hlt
        simp [this]
      have hbk := hb _ hmem
      by_cases hbig : (200 : Int) < (n4 : Int)
      · go_wp2_with fail
        go_ret
        exact ⟨by simp, hx1.trans her⟩
      have htk : (ls.take k).length = k := by rw [List.length_take, hl.out]; omega
      have hsz : (logL (ls.take (k + 1))).length = (logL (ls.take k)).length + (n4 + 8) := by rw [logL_take_len ls k (by rw [hl.out]; exact hlt), h3.len]
      have hcap : (logL (ls.take k)).length ≤ 3000 := by have := hS.len.2; rw [hS.log, htk] at this; omega
      have htk1 : ls.take (k + 1) = ls.take k ++ [ls.getD k []] := by
        rw [List.take_succ_eq_append_getElem (by rw [hl.out]; exact hlt)]
        simp [show k < ls.length by rw [hl.out]; exact hlt]
      have had := snaps_add w1 q g d [] (ls.take k) A4 n4 c4 (ls.getD k []) wr hS (by omega) (by rw [htk]; exact hJ) hD hqg (h3.ext her) h1 hbk (by omega) her hg0 hq0
      rw [htk, ← htk1] at had
      have Hsz := Lib.hid hsz
      clear htk1 hsz hS hD hJ
      generalize (logL (ls.take k)).length = sz at *
      go_wp2_with fail
      refine had.mono ?_
      rintro e w4 ⟨rfl, d4, hS4, hD4, hJ4, hx4⟩
      have hc4 := hx4.cell hc0
      clear had hc
      go_wp2_with fail
      go_round
      case rel => exact ⟨k + 1, d4, by omega, by go_num, by rw [Hsz.out]; go_num, hS4, hD4, hJ4, hx4⟩
      case measure => simp [intOf]; omega
    · have : k = n := by omega
      subst this
      rw [List.take_of_length_le (by rw [hl.out]; omega)] at *
      have hln := hl.out
      have hrs := rscan_any A1 n1 c1 ts wr (hz1.ext (hx1.trans her)) hnc1 hm1 (by omega) hb1
      have Hlt := Lib.hid hlt
      clear hlt hk
      by_cases hsc : (scanL ts).1.length = 0
      · have hsc0 : (scanL ts).1 = [] := List.eq_nil_of_length_eq_zero hsc
        obtain ⟨t1, t2, t3, t4, t5, t6⟩ := hS.torn (ts := ts) (by rw [hl1.out]; omega) (by omega) hsc0
        rw [hsc] at hrs
        have hap := fun w hD h => append_any g d A1 n1 c1 ts w hD (hz1.ext h) hb1 hnc1 hm1
        rw [t1] at hap
        have hsn0 := hS.len.1
        have ho1 := hS.one.1
        have hlr := hS.lr
        generalize hd6 : (d.append ts).2 = d6 at *
        have hlg : d6.log.length ≤ 4000000 := by rw [t4, List.length_append, hl1.out]; have := hS.len.2; rw [hS.log] at this; omega
        have hsl6 : d6.snap.length ≤ 4000000 := by rw [t3]; omega
        rw [← t3] at ho1
        have T4 := Lib.hid t4
        have T3 := Lib.hid t3
        clear t4 t3 hS hsn0 t1 hd6
        go_wp2_with fail
        refine hrs.mono ?_
        rintro e w5 ⟨A5, c5, rfl, -, -, -, hx5⟩
        have hD5 := hD.ext hx5
        have her5 := her.trans hx5
        have hap5 := hap w5 hD5 (hx1.trans her5)
        clear hrs hap hJ hD
        go_wp2_with fail
        refine hap5.mono ?_
        rintro e w6 ⟨rfl, hD6, hM6⟩
        have hx6 : Ext w1 w6 := her5.mut hM6 hg0
        have ho6 := open_ok g d6 w6 hD6 t2.dead t2.left hsl6 hlg ho1
        clear hap5 hD5 hM6
        go_wp2_with fail
        refine ho6.mono ?_
        rintro e w7 ⟨q7, A7, m7, c7, L7, n7, l7, rfl, hq7, hJ7, hg7, hms7, hr7, hn7, hD7, hM7⟩
        rw [t5] at hr7 hn7
        rw [hln] at hn7
        subst hn7
        have hx7 : Ext w1 w7 := hx6.mut hM7 hg0
        have hq7g : q7 ≠ g := by have := hD6.lt; omega
        have hq71 : w1.heap.size ≤ q7 := by have := hx6.le; omega
        have hrows := rows_same5 L7 n7 l7 ls A c w7 hr7 (hz.ext (hx1.trans hx7)) (by omega) hb
        clear ho6 hD6 hM7 hq7 hg7
        generalize openV d6 = d7 at *
        go_wp2_with fail
        refine hrows.mono ?_
        rintro e w8 ⟨rfl, hx8⟩
        have hlen7 : d7.log.length = (logL ls).length := by rw [t6.log]
        have hlo := logN_any g d7 (logL ls).length hlen7 w8 (hD7.ext hx8)
        have hcap : (logL ls).length ≤ 3000 := by have := t6.len.2; rw [t6.log] at this; omega
        generalize (logL ls).length = sz at *
        clear hrows hlen7
        go_wp2_with fail
        refine hlo.mono ?_
        rintro e w9 ⟨A9, c9, rfl, -, hx9⟩
        have hx89 := hx8.trans hx9
        have hD9 := hD7.ext hx89
        have hJ9 : JourAt w9 q7 g n7 := Blk.ext hJ7 hx89
        have hx19 := hx7.trans hx89
        have hcn := count_any q7 g n7 w9 hJ9
        clear hlo hD7 hJ7
        go_wp2_with fail
        refine hcn.mono ?_
        rintro e wy ⟨rfl, rfl⟩
        have had := snaps_add w1 q7 g d7 [] ls A2 n2 c2 ms wy t6 (by omega) (by rw [hln]; exact hJ9) hD9 hq7g (hz2.ext (hx1.trans hx19)) hnc2 hb2 (by omega) hx19 hg0 hq71
        clear hcn
        go_wp2_with fail
        refine had.mono ?_
        rintro e wa ⟨rfl, da, hSa, hDa, hJa, hxa⟩
        have hoa := open_snaps g da [] (ls ++ [ms]) wa hDa hSa (by rw [List.length_append]; simp; omega)
        have hla : (ls ++ [ms]).length = n7 + 1 := by rw [List.length_append, hln]; rfl
        rw [hla] at hoa
        clear had
        go_wp2_with fail
        refine hoa.mono ?_
        rintro e wb ⟨qb, Ab, cb, Lb, clb, rfl, hqb, hJb, hgb, hrb, hDb, hMb⟩
        have hxb : Ext w1 wb := hxa.mut hMb hg0
        obtain ⟨b, o, B1, m1, e1, rfl, hbb, hcb, i1, i2, i3⟩ := hrb.at_ n7 (by omega)
        have hgd : (ls ++ [ms]).getD n7 [] = ms := by simp [← hln]
        rw [hgd] at i3
        have s1 : ∀ nq, (convert 22 9 (.slice B1 m1 e1)).run Try.prog (wb.drewN nq) = .ok (.string (strOf ms)) (wb.drewN nq) := fun nq => run_string B1 m1 e1 _ _ (i3.ext ((Ext.refl wb).drewN nq))
        have s2 : ∀ nq, (convert 22 9 (.slice A2 n2 c2)).run Try.prog (wb.drewN nq) = .ok (.string (strOf ms)) (wb.drewN nq) := fun nq => run_string A2 n2 c2 _ _ ((hz2.ext (hx1.trans hxb)).ext ((Ext.refl wb).drewN nq))
        clear hoa hJb hgb hDb hMb hqb hrb
        go_wp2_with fail
        go_quiet (fail)
        go_wp2_with fail
        go_ret
        exact ⟨rfl, (hx1.trans hxb).drewN _⟩
      · have hpos : (0 : Int) < (((scanL ts).1.length : Nat) : Int) := by omega
        generalize (scanL ts).1.length = m at *
        go_wp2_with fail
        refine hrs.mono ?_
        rintro e w5 ⟨A5, c5, rfl, -, -, -, hx5⟩
        go_wp2_with fail
        go_ret
        exact ⟨rfl, (hx1.trans her).trans hx5⟩
end Go.Proofs.Ytpgndejmhegklaa
