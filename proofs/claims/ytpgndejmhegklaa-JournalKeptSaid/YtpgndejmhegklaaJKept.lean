/- JournalKept, walked. -/
import Derived.Test.YtpgndejmhegklaaJKeptL
import Derived.Test.YtpgndejmhegklaaJAdd2
import Derived.Test.YtpgndejmhegklaaStrs
import Derived.Test.YtpgndejmhegklaaReg
namespace Go.Proofs.Ytpgndejmhegklaa
set_option linter.unusedVariables false
open Go.RowKit

theorem str_elem : ElemFacts Try.prog 57 9 1 16 := elem_mk Try.underlying57 (by kernel_rfl) (by omega)
def svals (rs : List (List Nat)) : List Value := rs.map (fun r => Value.string (strOf r))
theorem svals_snoc (rs : List (List Nat)) (b : List Nat) : svals rs ++ [Value.string (strOf b)] = svals (rs ++ [b]) := by simp [svals]
theorem str_one (b : List Nat) : ∀ u ∈ [Value.string (strOf b)], u.oneCell' = true := by simp [Value.oneCell']
theorem str_ne8 : 9 ≠ 5 := by decide
theorem GB.own_ {w w' : World} {A A1 : Option Addr} {n c B sz n1 c1 : Nat} {e : TypeId} {bs : List Nat} {xs : List Value} (h : GB w A n c bs) (ho : Own w B e sz A1 n1 c1 xs) (hne : e ≠ 5) (hg : w.grownBy w' (rowOf A1 c1)) : GB w' A n c bs :=
  ⟨h.1, h.2.1, .of (h.2.2.1.rs.typ_grown h.2.2.2 ho hne hg) h.2.2.1.len, h.2.2.2.grown ho hne hg⟩
theorem DiskAt.own {w w' : World} {g : Nat} {d : Dsk} {A1 : Option Addr} {B n1 c1 : Nat} {xs : List Value} (h : DiskAt w g d) (ho : Own w B 9 1 A1 n1 c1 xs) (hg : w.grownBy w' (rowOf A1 c1)) : DiskAt w' g d := by
  obtain ⟨AL, cL, AS, cS, h1, h2, h3⟩ := h.raw
  exact ⟨⟨AL, cL, AS, cS, Blk.own h1 ho (by decide) hg, h2.own_ ho str_ne8 hg, h3.own_ ho str_ne8 hg⟩, h.ok⟩
theorem JourAt.own {w w' : World} {q g m : Nat} {A1 : Option Addr} {B n1 c1 : Nat} {xs : List Value} (h : JourAt w q g m) (ho : Own w B 9 1 A1 n1 c1 xs) (hg : w.grownBy w' (rowOf A1 c1)) : JourAt w' q g m := Blk.own h ho (by decide) hg
theorem own_still {B g q n c : Nat} {A : Option Addr} {xs : List Value} (h1 : g < B) (h2 : q < B) : Still (fun w => Own w B 9 1 A n c xs ∧ B ≤ w.heap.size) g q :=
  ⟨fun _ _ h k => ⟨h.1.ext k, Nat.le_trans h.2 k.le⟩, fun _ _ h k => ⟨h.1.below k h1, Nat.le_trans h.2 k.size⟩, fun _ _ h k => ⟨h.1.below k h2, Nat.le_trans h.2 k.size⟩⟩
/-- What stands in memory between two rounds. -/
structure Kept (w0 wr : World) (g q B : Nat) (k : Nat) (d : Dsk) (ss : List Nat) (rs : List (List Nat)) (mo : List Nat) (sw : Bool) (Ak : Option Addr) (ck : Nat) : Prop where
  rk : rs.length ≤ k
  s200 : ss.length ≤ 200
  s8 : ∀ x ∈ ss, x < 256
  r200 : ∀ r ∈ rs, r.length ≤ 200
  r8 : ∀ r ∈ rs, ∀ x ∈ r, x < 256
  m200 : mo.length ≤ 200
  m8 : ∀ x ∈ mo, x < 256
  st : (Alive d ss rs ∧ sw = false) ∨ Gone d ss rs mo sw
  disk : DiskAt wr g d
  jour : JourAt wr q g rs.length
  own : Own wr B 9 1 Ak rs.length ck (svals rs)
  ext : Ext w0 wr
theorem strlit_nil : (⟨#[]⟩ : ByteArray) = strOf [] := rfl
set_option maxRecDepth 100000 in
set_option maxHeartbeats 4000000 in
theorem jkept_walk (A : Option Addr) (n c : Nat) (ls : List (List Nat)) (A1 : Option Addr) (n1 c1 : Nat) (zs : List Int) (stop pick : Int) (w : World)
    (hz : Rws w A n ls) (hnc : n ≤ c) (hm : c ≤ maxLen) (hb : ∀ r ∈ ls, ∀ x ∈ r, x < 256)
    (hz1 : Nums .i64 w A1 n1 zs) (hnc1 : n1 ≤ c1) (hm1 : c1 ≤ maxLen) (hw1 : ∀ x ∈ zs, -9223372036854775808 ≤ x ∧ x ≤ 9223372036854775807)
    (hst : -9223372036854775808 ≤ stop ∧ stop ≤ 9223372036854775807) (hpk : -9223372036854775808 ≤ pick ∧ pick ≤ 9223372036854775807) :
    Calls Try.prog 11 #[.slice A n c, .slice A1 n1 c1, .int .i64 stop, .int .i64 pick] w fun e w' => e = .returned (.bool true) ∧ Ext w w' := by
  have hl := Lib.hid hz.len
  have hl1 := Lib.hid hz1.1
  unfold maxLen at hm hm1
  have hwi := fun w => within5 stop 40 (by omega) (by omega) w
  obtain ⟨p, hp, hp40⟩ := emod_natW stop 40 40 rfl (by omega)
  rw [hp] at hwi
  clear hp
  have hwr : IntKind.i64.wrap (1 + (p : Int)) = 1 + (p : Int) := IntWalk.i64_in _ (by omega)
  go_enter Try.func11, Try.ntmps11
  go_wp2_with fail
  refine (known5 w).mono ?_
  rintro e w1 ⟨rfl, hx1⟩
  go_wp2_with fail
  refine (new_any 1048576 w1 (by omega) (by omega)).mono ?_
  rintro e w2 ⟨rfl, hD2, hx2⟩
  have ho := open_ok w1.heap.size (Dsk.mk0 1048576) w2 hD2 rfl rfl (by simp [Dsk.mk0]) (by simp [Dsk.mk0]) (.inl rfl)
  have hsc : scanL (Dsk.mk0 1048576).log = ([], 0) := scan_nil
  have hov : openV (Dsk.mk0 1048576) = Dsk.mk0 1048576 := open_new _
  have hgl := hD2.lt
  go_wp2_with fail
  refine ho.mono ?_
  rintro e w3 ⟨q, As, ms, cs, Al, nl, cl, rfl, hq, hJ3, -, -, -, hnl, hD3, hM3⟩
  rw [hsc] at hnl
  rw [show nl = 0 from hnl] at hJ3
  clear hnl
  rw [hov] at hD3
  have hx13 : Ext w1 w3 := hx2.mut hM3 (Nat.le_refl _)
  have hqg : q ≠ w1.heap.size := by omega
  have hq1 : w1.heap.size ≤ q := by omega
  have hgB : w1.heap.size < w3.heap.size := hD3.lt
  have hqB : q < w3.heap.size := Blk.lt hJ3
  clear ho hD2 hM3 hq hx2 hgl hsc hov
  generalize hgg : w1.heap.size = g at *
  have hg0 : w1.heap.size ≤ g := Nat.le_of_eq hgg
  have hq0 : w1.heap.size ≤ q := by omega
  go_upto_region 7 with fail
  go_cut [] (fun wr => DiskAt wr g ((Dsk.mk0 1048576).stop (1 + (p : Int))) ∧ JourAt wr q g 0 ∧ Ext w1 wr ∧ w3.heap.size ≤ wr.heap.size)
  case first =>
    refine wp_region_held_drew (S := fun _ => True) (by kernel_rfl) trivial (fun hHeld => ?_)
    repeat (first
      | (refine held_take 0 (v := ?_) (oi := ?_) ?_ ?_ ?_ ?_ ?_ (Or.inl ⟨?_, ?_⟩) hHeld ?_; rotate_left 2; (focus decide +kernel); (focus rfl); (focus kernel_rfl); (focus decide +kernel); (focus exact fun _ _ _ h => h); (focus rfl); (focus intro w hSw; (try dsimp only at hSw); go_simp; (try with_reducible rfl); done); try simp only [Act.put, List.setIfInBounds_toArray, List.set_cons_zero, List.set_cons_succ])
      | (refine held_take 1 (v := ?_) (oi := ?_) ?_ ?_ ?_ ?_ ?_ (Or.inl ⟨?_, ?_⟩) hHeld ?_; rotate_left 2; (focus decide +kernel); (focus rfl); (focus kernel_rfl); (focus decide +kernel); (focus exact fun _ _ _ h => h); (focus rfl); (focus intro w hSw; (try dsimp only at hSw); go_simp; (try with_reducible rfl); done); try simp only [Act.put, List.setIfInBounds_toArray, List.set_cons_zero, List.set_cons_succ])
      | (refine held_take 2 (v := ?_) (oi := ?_) ?_ ?_ ?_ ?_ ?_ (Or.inl ⟨?_, ?_⟩) hHeld ?_; rotate_left 2; (focus decide +kernel); (focus rfl); (focus kernel_rfl); (focus decide +kernel); (focus exact fun _ _ _ h => h); (focus rfl); (focus intro w hSw; (try dsimp only at hSw); go_simp; (try with_reducible rfl); done); try simp only [Act.put, List.setIfInBounds_toArray, List.set_cons_zero, List.set_cons_succ])
      | (refine held_take 3 (v := ?_) (oi := ?_) ?_ ?_ ?_ ?_ ?_ (Or.inl ⟨?_, ?_⟩) hHeld ?_; rotate_left 2; (focus decide +kernel); (focus rfl); (focus kernel_rfl); (focus decide +kernel); (focus exact fun _ _ _ h => h); (focus rfl); (focus intro w hSw; (try dsimp only at hSw); go_simp; (try with_reducible rfl); done); try simp only [Act.put, List.setIfInBounds_toArray, List.set_cons_zero, List.set_cons_succ]))
    refine held_one 4 (o := ?_) ?_ ?_ (fun K hK => ?_)
    rotate_left 1
    focus (decide +kernel)
    focus rfl
    go_simp
    refine (hwi _).mono ?_
    rintro e wa ⟨rfl, rfl⟩
    go_wp2_with fail
    refine hK.out _ _ trivial (fun hHeld => ?_)
    clear hK K
    try simp only [Act.put, List.setIfInBounds_toArray, List.set_cons_zero, List.set_cons_succ]
    repeat (first
      | (refine held_take 0 (v := ?_) (oi := ?_) ?_ ?_ ?_ ?_ ?_ (Or.inl ⟨?_, ?_⟩) hHeld ?_; rotate_left 2; (focus decide +kernel); (focus rfl); (focus kernel_rfl); (focus decide +kernel); (focus exact fun _ _ _ h => h); (focus rfl); (focus intro w hSw; (try dsimp only at hSw); go_simp; (try with_reducible rfl); done); try simp only [Act.put, List.setIfInBounds_toArray, List.set_cons_zero, List.set_cons_succ])
      | (refine held_take 1 (v := ?_) (oi := ?_) ?_ ?_ ?_ ?_ ?_ (Or.inl ⟨?_, ?_⟩) hHeld ?_; rotate_left 2; (focus decide +kernel); (focus rfl); (focus kernel_rfl); (focus decide +kernel); (focus exact fun _ _ _ h => h); (focus rfl); (focus intro w hSw; (try dsimp only at hSw); go_simp; (try with_reducible rfl); done); try simp only [Act.put, List.setIfInBounds_toArray, List.set_cons_zero, List.set_cons_succ])
      | (refine held_take 2 (v := ?_) (oi := ?_) ?_ ?_ ?_ ?_ ?_ (Or.inl ⟨?_, ?_⟩) hHeld ?_; rotate_left 2; (focus decide +kernel); (focus rfl); (focus kernel_rfl); (focus decide +kernel); (focus exact fun _ _ _ h => h); (focus rfl); (focus intro w hSw; (try dsimp only at hSw); go_simp; (try with_reducible rfl); done); try simp only [Act.put, List.setIfInBounds_toArray, List.set_cons_zero, List.set_cons_succ])
      | (refine held_take 3 (v := ?_) (oi := ?_) ?_ ?_ ?_ ?_ ?_ (Or.inl ⟨?_, ?_⟩) hHeld ?_; rotate_left 2; (focus decide +kernel); (focus rfl); (focus kernel_rfl); (focus decide +kernel); (focus exact fun _ _ _ h => h); (focus rfl); (focus intro w hSw; (try dsimp only at hSw); go_simp; (try with_reducible rfl); done); try simp only [Act.put, List.setIfInBounds_toArray, List.set_cons_zero, List.set_cons_succ])
      | (refine held_take 4 (v := ?_) (oi := ?_) ?_ ?_ ?_ ?_ ?_ (Or.inl ⟨?_, ?_⟩) hHeld ?_; rotate_left 2; (focus decide +kernel); (focus rfl); (focus kernel_rfl); (focus decide +kernel); (focus exact fun _ _ _ h => h); (focus rfl); (focus intro w hSw; (try dsimp only at hSw); go_simp; (try with_reducible rfl); done); try simp only [Act.put, List.setIfInBounds_toArray, List.set_cons_zero, List.set_cons_succ])
      | (refine held_take 5 (v := ?_) (oi := ?_) ?_ ?_ ?_ ?_ ?_ (Or.inl ⟨?_, ?_⟩) hHeld ?_; rotate_left 2; (focus decide +kernel); (focus rfl); (focus kernel_rfl); (focus decide +kernel); (focus exact fun _ _ _ h => h); (focus rfl); (focus intro w hSw; (try dsimp only at hSw); go_simp; (try with_reducible rfl); done); try simp only [Act.put, List.setIfInBounds_toArray, List.set_cons_zero, List.set_cons_succ]))
    refine held_one 6 (o := ?_) ?_ ?_ (fun K hK => ?_)
    rotate_left 1
    focus (decide +kernel)
    focus rfl
    go_simp
    refine (stop_any g (Dsk.mk0 1048576) (1 + (p : Int)) _ (hD3.ext (Ext.refl w3).drew) (by omega)).mono ?_
    rintro e w4 ⟨rfl, hD4, hM4⟩
    go_wp2_with fail
    refine hK.out _ _ trivial (fun hHeld => ?_)
    clear hK K
    try simp only [Act.put, List.setIfInBounds_toArray, List.set_cons_zero, List.set_cons_succ]
    refine wpAnyH_done (by kernel_rfl) ?_ _
    go_wp2_with fail
    go_meet
    exact ⟨hD4, Blk.mut (Blk.ext hJ3 (Ext.refl w3).drew) hM4 hqg, (hx13.trans (Ext.refl w3).drew).mut hM4 hg0, hM4.size⟩
  case rest =>
    obtain ⟨hD4, hJ4, hx4, hsz4⟩ := hcut
    clear hD3 hJ3 hx13 hwi hwr hst
    have hA4 : Alive ((Dsk.mk0 1048576).stop (1 + (p : Int))) [] [] := ⟨rfl, by simp only [Dsk.stop]; omega, rfl, .inl ⟨rfl, rfl⟩, by simp [Dsk.stop, Dsk.mk0, logL], rfl⟩
    have hK4 : Kept w1 wc g q w3.heap.size 0 _ [] [] [] false none 0 := ⟨Nat.le_refl _, by simp, by simp, by simp, by simp, by simp, by simp, .inl ⟨hA4, rfl⟩, hD4, hJ4, Own.nil _ _ _ _ _, hx4⟩
    generalize (Dsk.mk0 1048576).stop (1 + (p : Int)) = d4 at *
    generalize hBB : w3.heap.size = B at *
    clear hD4 hJ4 hA4 hx4 hp40
    go_upto_block 0 with fail
    go_cut [15, 16, 17, 18] (fun s kp m sw wr => ∃ (k : Nat) (d : Dsk) (ss : List Nat) (rs : List (List Nat)) (mo : List Nat) (sb : Bool) (Ak : Option Addr) (ck : Nat), k ≤ 30 ∧ s = .string (strOf ss) ∧ kp = .slice Ak rs.length ck ∧ m = .string (strOf mo) ∧ sw = .bool sb ∧ Kept w1 wr g q B k d ss rs mo sb Ak ck ∧ B ≤ wr.heap.size)
    case first =>
      go_wp2_with fail
      go_loopw [15, 16, 17, 18, 19] (fun s kp m sw i wr => ∃ (k : Nat) (d : Dsk) (ss : List Nat) (rs : List (List Nat)) (mo : List Nat) (sb : Bool) (Ak : Option Addr) (ck : Nat), k ≤ 30 ∧ k ≤ n ∧ i = .int .i64 k ∧ s = .string (strOf ss) ∧ kp = .slice Ak rs.length ck ∧ m = .string (strOf mo) ∧ sw = .bool sb ∧ Kept w1 wr g q B k d ss rs mo sb Ak ck ∧ B ≤ wr.heap.size) (fun _ _ _ _ i _ => n - (intOf i).toNat)
      case atStart => exact ⟨0, _, _, _, _, _, _, _, by omega, by omega, rfl, rfl, rfl, rfl, rfl, hK4, hsz4⟩
      case round =>
        obtain ⟨k, d, ss, rs, mo, sb, Ak, ck, hk30, hkn, rfl, rfl, rfl, rfl, rfl, hK, hBw⟩ := hrel
        clear hK4 hsz4
        by_cases hlt : k < n ∧ k < 30
        · obtain ⟨g1, g2⟩ := hlt
          have g1i : (k : Int) < (n : Int) := by omega
          have g2i : (k : Int) < 30 := by omega
          rcases hK.st with ⟨hal, rfl⟩ | hgo
          · obtain ⟨b, o, A4, n4, c4, rfl, hbb, hc0, h1, h2, h3⟩ := (hz.ext hx1).at_ k g1
            have hmem : ls.getD k [] ∈ ls := by
              have : k < ls.length := by rw [hl.out]; exact g1
              simp [this]
            have hbk := hb _ hmem
            have hc := hK.ext.cell hc0
            have hde := dead_any g d wr hK.disk
            rw [hal.dead] at hde
            by_cases hbig : (200 : Int) < (n4 : Int)
            · go_wp2_with fail
              refine hde.mono ?_
              rintro e w' ⟨rfl, rfl⟩
              go_wp2_with fail
              go_ret
              exact ⟨rfl, hx1.trans hK.ext⟩
            generalize ls.getD k [] = bk at *
            have hbl : bk.length ≤ 200 := by rw [h3.len]; omega
            have h3w := fun w' (h : Ext w1 w') => h3.ext h
            clear h3
            go_upto_region 16 with (refine hde.mono ?_; rintro e wr ⟨rfl, rfl⟩)
            go_cut [82] (fun v w' => w' = wr ∧ ∃ bb, v = .bool bb)
            case first =>
              by_cases gp : k < n1
              · obtain ⟨b2, o2, rfl, hb2, hc2⟩ := (hz1.ext (hx1.trans hK.ext)).at_ k gp
                have gpi : (k : Int) < (n1 : Int) := by omega
                generalize zs.getD k 0 = z at *
                go_wp2_with fail
                go_meet
                exact ⟨rfl, _, rfl⟩
              · have gpi : ¬ (k : Int) < (n1 : Int) := by omega
                go_wp2_with fail
                go_meet
                exact ⟨rfl, _, rfl⟩
            case rest =>
              obtain ⟨rfl, bb, rfl⟩ := hcut
              clear hde
              cases bb
              · have had := jadd_still (fun w => Own w B 9 1 Ak rs.length ck (svals rs) ∧ B ≤ w.heap.size) w1 q g rs.length d A4 n4 c4 bk wc (own_still hgB hqB) ⟨hK.own, hBw⟩ hK.jour hK.disk hqg (h3w _ hK.ext) h1 hbk (by omega) hK.ext hg0 hq0 (by have := hK.rk; omega)
                rcases hal.add hbl hK.s200 hK.r200 (by have := hK.rk; omega) with ⟨q1, q2⟩ | ⟨q1, q2⟩
                · unfold JSays at had
                  rw [q1] at had
                  go_wp2_with fail
                  refine had.mono ?_
                  rintro e w4 ⟨⟨rfl, hD4, hJ4, hx4⟩, hO4, hB4⟩
                  replace hJ4 : JourAt w4 q g (rs.length + 1) := by simpa using hJ4
                  have hc4 := hx4.cell hc0
                  have s4 := run_string A4 n4 c4 bk w4 (h3w _ hx4)
                  have hxa := (Ext.refl w4).alloc (.cells #[.string (strOf bk)] 9)
                  have hOa := hO4.ext hxa
                  have hDa := hD4.ext hxa
                  have hJa : JourAt _ q g (rs.length + 1) := Blk.ext hJ4 hxa
                  have hxb := hx4.trans hxa
                  have hra : RS (w4.alloc (.cells #[.string (strOf bk)] 9)) 1 (some ⟨w4.heap.size, 0, none⟩) 1 [.string (strOf bk)] := box_rs w4 9 1 [.string (strOf bk)] 1 rfl
                  have hrk := hK.rk
                  have hBs : B ≤ (w4.alloc (.cells #[.string (strOf bk)] 9)).heap.size := Nat.le_trans hB4 hxa.le
                  generalize hrn : rs.length = m at *
                  have Hrn := Lib.hid hrn
                  clear had hc hrn hD4 hJ4
                  go_wp2_with (refine wpList_append_Own rfl (.tmp 107) (.tmp 113) _ rfl B str_elem rfl hOa rfl hra (str_one bk) (by unfold maxLen; omega) (by omega) hBs ?_)
                  intro A5 c5 w5 ho5 hg5
                  rw [svals_snoc] at ho5
                  have hD5 := hDa.own hOa hg5
                  have hJ5 := hJa.own hOa hg5
                  have hx5 := hxb.grown hg5 (fun i hi => by have := (hOa.row i hi).1; omega)
                  have hc5 := hx5.cell hc0
                  have s5 := run_string A4 n4 c4 bk w5 (h3w _ hx5)
                  clear hc4 s4 hra hOa hDa hJa
                  go_wp2_with fail
                  go_roundw
                  case rel => exact ⟨k + 1, _, _, rs ++ [bk], _, _, A5, c5, by omega, by omega, by go_num, rfl, by rw [List.length_append, Hrn.out]; rfl, rfl, rfl, ⟨by rw [List.length_append, Hrn.out]; simp; omega, hK.s200, hK.s8, fun r hr => by rcases List.mem_append.1 hr with h | h; exact hK.r200 r h; rw [List.mem_singleton.1 h]; exact hbl, fun r hr => by rcases List.mem_append.1 hr with h | h; exact hK.r8 r h; rw [List.mem_singleton.1 h]; exact hbk, hK.m200, hK.m8, .inl ⟨q2, rfl⟩, hD5, by rw [List.length_append, Hrn.out]; exact hJ5, by rw [List.length_append, Hrn.out]; exact ho5, hx5⟩, Nat.le_trans hBs hg5.size⟩
                  case measure => simp [intOf]; omega
                · unfold JSays at had
                  rw [q1] at had
                  go_wp2_with fail
                  refine had.mono ?_
                  rintro e w4 ⟨⟨rfl, hD4, hJ4, hx4⟩, hO4, hB4⟩
                  replace hJ4 : JourAt w4 q g rs.length := by simpa using hJ4
                  have hc4 := hx4.cell hc0
                  have s4 := run_string A4 n4 c4 bk w4 (h3w _ hx4)
                  clear had hc
                  go_wp2_with fail
                  go_roundw
                  case rel => exact ⟨k + 1, _, ss, rs, bk, false, Ak, ck, by omega, by omega, by go_num, rfl, rfl, rfl, rfl, ⟨by have := hK.rk; omega, hK.s200, hK.s8, hK.r200, hK.r8, hbl, hbk, .inr q2, hD4, hJ4, hO4, hx4⟩, hB4⟩
                  case measure => simp [intOf]; omega
              · have hsn := jsnap_still (fun w => Own w B 9 1 Ak rs.length ck (svals rs) ∧ B ≤ w.heap.size) w1 q g rs.length d A4 n4 c4 bk wc (own_still hgB hqB) ⟨hK.own, hBw⟩ hK.jour hK.disk hqg (h3w _ hK.ext) h1 hbk (by omega) hK.ext hg0 hq0
                rcases hal.snap_ hbl with ⟨q1, q2⟩ | ⟨q1, q2⟩
                · unfold JSays at hsn
                  rw [q1] at hsn
                  go_wp2_with fail
                  refine hsn.mono ?_
                  rintro e w4 ⟨⟨rfl, hD4, hJ4, hx4⟩, hO4, hB4⟩
                  replace hJ4 : JourAt w4 q g 0 := by simpa using hJ4
                  have hc4 := hx4.cell hc0
                  have s4 := run_string A4 n4 c4 bk w4 (h3w _ hx4)
                  clear hsn hc
                  go_wp2_with fail
                  go_roundw
                  case rel => exact ⟨k + 1, _, bk, [], mo, false, none, 0, by omega, by omega, by go_num, rfl, rfl, rfl, rfl, ⟨by simp, hbl, hbk, by simp, by simp, hK.m200, hK.m8, .inl ⟨q2, rfl⟩, hD4, hJ4, Own.nil _ _ _ _ _, hx4⟩, hB4⟩
                  case measure => simp [intOf]; omega
                · unfold JSays at hsn
                  rw [q1] at hsn
                  go_wp2_with fail
                  refine hsn.mono ?_
                  rintro e w4 ⟨⟨rfl, hD4, hJ4, hx4⟩, hO4, hB4⟩
                  replace hJ4 : JourAt w4 q g rs.length := by simpa using hJ4
                  have hc4 := hx4.cell hc0
                  have s4 := run_string A4 n4 c4 bk w4 (h3w _ hx4)
                  clear hsn hc
                  go_wp2_with fail
                  go_roundw
                  case rel => exact ⟨k + 1, _, ss, rs, bk, true, Ak, ck, by omega, by omega, by go_num, rfl, rfl, rfl, rfl, ⟨by have := hK.rk; omega, hK.s200, hK.s8, hK.r200, hK.r8, hbl, hbk, .inr q2, hD4, hJ4, hO4, hx4⟩, hB4⟩
                  case measure => simp [intOf]; omega
          · have hde := dead_any g d wr hK.disk
            rw [hgo.dead] at hde
            go_wp2_with fail
            refine hde.mono ?_
            rintro e w' ⟨rfl, rfl⟩
            go_wp2_with fail
            go_meet
            exact ⟨k, d, ss, rs, mo, sb, Ak, ck, hk30, rfl, rfl, rfl, rfl, hK, hBw⟩
        · by_cases g1 : k < n
          · have g2 : k = 30 := by omega
            subst g2
            clear hlt
            go_wp2_with fail
            go_meet
            exact ⟨30, d, ss, rs, mo, sb, Ak, ck, hk30, rfl, rfl, rfl, rfl, hK, hBw⟩
          · have g1i : ¬ (k : Int) < (n : Int) := by omega
            clear hlt
            go_wp2_with fail
            go_meet
            exact ⟨k, d, ss, rs, mo, sb, Ak, ck, hk30, rfl, rfl, rfl, rfl, hK, hBw⟩
    case rest =>
      obtain ⟨k, d, ss, rs, mo, sb, Ak, ck, hk30, rfl, rfl, rfl, rfl, hK, hBw⟩ := hcut
      have hfd : ((d.stop 0).crash pick).snap.length ≤ 208 ∧ (((d.stop 0).crash pick).snap = [] ∨ oneE ((d.stop 0).crash pick).snap = 0) ∧ Found d.dead sb ss rs mo (oneB ((d.stop 0).crash pick).snap) (scanL ((d.stop 0).crash pick).log).1 ∧ ((d.stop 0).crash pick).log.length ≤ 208 * rs.length + 208 := by
        rcases hK.st with ⟨hal, rfl⟩ | hgo
        · exact hal.found pick false mo hK.s200 hK.r200
        · exact hgo.found pick hK.s200 hK.r200 hK.m200 hK.disk.ok.sync
      obtain ⟨f1, f2, f3, f4⟩ := hfd
      have hrk := hK.rk
      have hs8 := hK.s8
      have hr8 := hK.r8
      have hm8 := hK.m8
      have hDk := hK.disk
      have hOk := hK.own
      have hxk := hK.ext
      have hde := dead_any g d wc hDk
      have hst0 := stop_any g d 0 wc hDk (by omega)
      generalize hdd : d.dead = dd at *
      clear hdd hK hK4 hsz4
      go_wp2_with fail
      refine hde.mono ?_
      rintro e wy ⟨rfl, rfl⟩
      clear hde
      go_wp2_with fail
      refine hst0.mono ?_
      rintro e w5 ⟨rfl, hD5, hM5⟩
      clear hst0
      have hO5 := hOk.below hM5 hgB
      have hx5 := hxk.mut hM5 hg0
      have hcr := crash_any g (d.stop 0) pick w5 hD5
      go_wp2_with fail
      refine hcr.mono ?_
      rintro e w6 ⟨rfl, hD6, hM6⟩
      clear hcr
      have hO6 := hO5.below hM6 hgB
      have hx6 := hx5.mut hM6 hg0
      have ho7 := open_ok g _ w6 hD6 rfl rfl (by omega) (by omega) f2
      go_wp2_with fail
      refine ho7.mono ?_
      rintro e w7 ⟨q7, A7, m7, c7, L7, n7, l7, rfl, hq7, -, hg7, -, hr7, hn7, -, hM7⟩
      have hO7 := hO6.below hM7 hgB
      have hx7 := hx6.mut hM7 hg0
      have hss8 : ∀ x ∈ oneB ((d.stop 0).crash pick).snap, x < 256 := by
        rcases f3 with ⟨h1, -⟩ | ⟨-, -, h1, -⟩ | ⟨-, -, h1, -⟩
        · rw [h1]; exact hs8
        · rw [h1]; exact hs8
        · rw [h1]; exact hm8
      have Hn7 := Lib.hid hn7
      clear hn7
      generalize oneB ((d.stop 0).crash pick).snap = ss' at *
      generalize (scanL ((d.stop 0).crash pick).log).1 = rs' at *
      have s7 := fun w' (h : Ext w7 w') => run_string A7 m7 c7 ss' w' (hg7.bytes.ext h)
      have s7' := s7 w7 (Ext.refl _)
      have hq1 := strOf_lbeq hss8 hm8
      have hq2 := strOf_lbeq hss8 hs8
      clear ho7 hD5 hD6 hM5 hM6 hM7 hO5 hO6 hx5 hx6 f1 f2 f4 hg7 hDk hOk hq7
      go_upto_region 29 with fail
      go_cut [154] (fun v w' => w' = w7 ∧ ∃ bb, v = .bool bb ∧ (dd = true → sb = true → ss' = mo → n7 = 0 → bb = true))
      case first =>
        generalize hsb : sameB ss' mo = sm at *
        have Hsb := Lib.hid hsb
        clear hsb hq2
        cases dd
        · go_wp2_with fail
          go_meet
          exact ⟨rfl, _, rfl, fun h => by simp at h⟩
        · cases sb
          · go_wp2_with fail
            go_meet
            exact ⟨rfl, _, rfl, fun _ h => by simp at h⟩
          · cases sm
            · go_wp2_with fail
              go_meet
              exact ⟨rfl, _, rfl, fun _ _ h => by have := Hsb.out; rw [h, sameB_self] at this; simp at this⟩
            · go_wp2_with fail
              go_meet
              exact ⟨rfl, _, rfl, fun _ _ _ h => by subst h; first | rfl | simp⟩
      case rest =>
        obtain ⟨hw7, bb, rfl, hbb⟩ := hcut
        subst hw7
        cases bb
        · have hT : ss' = ss ∧ (rs' = rs ∨ (rs' = rs ++ [mo] ∧ dd = true ∧ sb = false)) := by
            rcases f3 with ⟨h1, h2⟩ | ⟨h1, h2, h3, h4⟩ | ⟨h1, h2, h3, h4⟩
            · exact ⟨h1, .inl h2⟩
            · exact ⟨h3, .inr ⟨h4, h1, h2⟩⟩
            · exact absurd (hbb h1 h2 h3 (by rw [Hn7.out, h4]; rfl)) (by simp)
          obtain ⟨rfl, hT2⟩ := hT
          rw [sameB_self] at hq2
          have hnm : n7 = rs.length ∨ (n7 = rs.length + 1 ∧ dd = true ∧ sb = false) := by
            rcases hT2 with h | ⟨h, h1, h2⟩
            · left; rw [Hn7.out, h]
            · right; exact ⟨by rw [Hn7.out, h, List.length_append]; rfl, h1, h2⟩
          have hgd : ∀ j, j < rs.length → rs'.getD j [] = rs.getD j [] := fun j hj => by
            rcases hT2 with h | ⟨h, -⟩
            · rw [h]
            · rw [h]; simp [hj, List.getElem?_append_left hj]
          have hlast : n7 = rs.length + 1 → rs'.getD rs.length [] = mo := fun h => by
            rcases hT2 with h1 | ⟨h1, -⟩
            · rw [Hn7.out, h1] at h; omega
            · rw [h1]; simp
          have Hnm := Lib.hid hnm
          have Hlast := Lib.hid hlast
          have Hmm := Lib.hid (strOf_lbeq hm8 hm8)
          have e1 : decide (n7 < rs.length) = false := by simp; omega
          have e2 : decide (rs.length + 1 < n7) = false := by simp; omega
          have e1' : decide ((n7 : Int) < (rs.length : Int)) = false := by simp; omega
          have e2' : decide ((rs.length : Int) + 1 < (n7 : Int)) = false := by simp; omega
          have hle : rs.length ≤ n7 := by omega
          have hrb : ∀ j, ∀ x ∈ rs.getD j [], x < 256 := fun j x hx => by
            by_cases hj : j < rs.length
            · exact hr8 (rs.getD j []) (by simp [hj]) x hx
            · rw [List.getD_eq_getElem?_getD, List.getElem?_eq_none (by omega)] at hx; simp at hx
          have hcs : ∀ j, j < rs.length → ∃ b9 o9, Ak = some ⟨b9, o9, none⟩ ∧ wc.cell? ⟨b9, o9 + j, none⟩ = some (Value.string (strOf (rs.getD j []))) := fun j hj => by
            obtain ⟨b9, o9, h1, -, h2⟩ := hO7.rs.pos (by omega)
            refine ⟨b9, o9, h1, h2 j _ ?_⟩
            simp [svals, hj]
          have Hcs := Lib.hid hcs
          clear hnm hlast hcs hT2 f3 hbb hO7
          generalize rs.length = mm at *
          go_wp2_with fail
          go_loopw [25] (fun i wr => ∃ j : Nat, j ≤ mm ∧ i = .int .i64 j ∧ Ext wc wr) (fun i _ => mm - (intOf i).toNat)
          case atStart => exact ⟨0, by omega, rfl, Ext.refl _⟩
          case round =>
            obtain ⟨j, hj, rfl, her⟩ := hrel
            by_cases hlt : j < mm
            · obtain ⟨b9, o9, rfl, hc9⟩ := Hcs.out j hlt
              have hc9' := her.cell hc9
              obtain ⟨b8, o8, A8, n8, c8, rfl, hb8, hc8, h81, h82, h83⟩ := (hr7.ext her).at_ j (by omega)
              have hjn : (j : Int) < (n7 : Int) := by omega
              have hjm : (j : Int) < (mm : Int) := by omega
              rw [hgd j hlt] at h83
              have s8 : ∀ nq, (convert 22 9 (.slice A8 n8 c8)).run Try.prog (wr.drewN nq) = .ok (.string (strOf (rs.getD j []))) (wr.drewN nq) := fun nq => run_string A8 n8 c8 _ _ (h83.ext ((Ext.refl wr).drewN nq))
              have heq := strOf_lbeq (hrb j) (hrb j)
              rw [sameB_self] at heq
              generalize rs.getD j [] = rj at *
              go_wp2_with fail
              go_quiet (fail)
              rename_i nq
              have her2 := her.drewN nq
              go_wp2_with fail
              go_round
              case rel => exact ⟨j + 1, by omega, by go_num, her2⟩
              case measure => simp [intOf]; omega
            · have hjm : j = mm := by omega
              subst hjm
              rcases Hnm.out with h0 | ⟨h0, rfl, rfl⟩
              · subst h0
                go_wp2_with fail
                go_ret
                exact ⟨rfl, (hx1.trans hx7).trans her⟩
              · obtain ⟨b8, o8, A8, n8, c8, rfl, hb8, hc8, h81, h82, h83⟩ := (hr7.ext her).at_ j (by omega)
                rw [Hlast.out h0] at h83
                have hjn : (j : Int) < (n7 : Int) := by omega
                have hne : ((n7 : Int) == (j : Int)) = false := by simp; omega
                have s8 := run_string A8 n8 c8 mo wr h83
                have hmm := Hmm.out
                rw [sameB_self] at hmm
                go_wp2_with fail
                go_ret
                exact ⟨rfl, (hx1.trans hx7).trans her⟩
        · go_wp2_with fail
          go_ret
          exact ⟨rfl, hx1.trans hx7⟩
end Go.Proofs.Ytpgndejmhegklaa
