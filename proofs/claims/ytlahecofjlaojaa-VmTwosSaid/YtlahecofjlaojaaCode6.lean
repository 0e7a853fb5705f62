/- The statements' programs: the walk of Code, push, known. -/
import Derived.Test.YtlahecofjlaojaaVm11
import Derived.Test.YtlahecofjlaojaaCodeLaw
import Derived.Test.YtlahecofjlaojaaWithin
import Derived.Deep.DeepCutAuto
import Derived.Deep.CutBlock
namespace Go.Proofs.Ytlahecofjlaojaa
set_option linter.unusedVariables false
open Go.RowKit

theorem vrun_any (A : Option Addr) (n c : Nat) (bs : List Nat) (arg data gas : Int) (w : World) (hz : Bytes w A n bs) (hb : ∀ x ∈ bs, x < 256) (ha : I64 arg) (hd : I64 data) :
    Calls Try.prog 16 #[.slice A n c, .int .i64 arg, .int .i64 data, .int .i64 gas] w fun e w' => RunSays w (vrun bs arg data gas) e w' := by
  have hl := hz.len
  unfold vrun
  by_cases h : 64 < bs.length ∨ gas < 0 ∨ 200 < gas
  · rw [if_pos h]; exact vrun_bad A n c arg data gas w (by omega)
  · rw [if_neg h]; exact vrun_good A n c bs arg data gas w hz hb ha hd (by omega) (by omega)

theorem three_bytes (w : World) (x y z : Nat) : Bytes (w.alloc (.cells #[.int .u8 (x : Int), .int .u8 (y : Int), .int .u8 (z : Int)] 5)) (some ⟨w.heap.size, 0, none⟩) 3 [x, y, z] :=
  .of (by have := box_rs w 5 1 [.int .u8 (x : Int), .int .u8 (y : Int), .int .u8 (z : Int)] 3 rfl; simpa [bvals] using this) rfl
theorem vrun_known : vrun [11, 12, 2] 3 4 9 = (7, 4, 0) := by decide +kernel
set_option maxHeartbeats 400000 in
theorem known6 (w : World) : Calls Try.prog 14 #[] w fun e w' => e = .returned (.bool true) ∧ Ext w w' := by
  have h1 := vrun_any (some ⟨w.heap.size, 0, none⟩) 3 3 [11, 12, 2] 3 4 9 _ (three_bytes w 11 12 2) (by decide) (by unfold I64; omega) (by unfold I64; omega)
  rw [vrun_known] at h1
  go_enter Try.func14, Try.ntmps14
  go_wp2_with fail
  refine h1.mono ?_
  rintro e w2 ⟨rfl, hx2⟩
  go_wp2_with fail
  go_ret
  exact ⟨rfl, ((Ext.refl w).alloc _).trans hx2⟩

theorem one_byte (w : World) (x : Int) : RS (w.alloc (.cells #[.int .u8 x] 5)) 1 (some ⟨w.heap.size, 0, none⟩) 1 [.int .u8 x] := by
  have := box_rs w 5 1 [.int .u8 x] 1 rfl
  simpa using this
theorem one_one (x : Int) : ∀ u ∈ [Value.int .u8 x], u.oneCell' = true := by
  intro u hu; simp at hu; subst hu; rfl
theorem bvals_one_ (p : Nat) : bvals [p] = [Value.int .u8 (p : Int)] := rfl
theorem tdiv_I64 {x : Int} (k : Int) (hk : 0 < k) (h : I64 x) : I64 (x.tdiv k) := by
  unfold I64 at *
  by_cases h0 : 0 ≤ x
  · rw [Int.tdiv_eq_ediv_of_nonneg h0]
    have h1 := Int.ediv_le_self k h0
    have h2 := Int.ediv_nonneg h0 (Int.le_of_lt hk)
    omega
  · have e : x = -(-x) := by omega
    rw [e, Int.neg_tdiv, Int.tdiv_eq_ediv_of_nonneg (by omega : 0 ≤ -x)]
    have h1 := Int.ediv_le_self k (by omega : 0 ≤ -x)
    have h2 := Int.ediv_nonneg (by omega : 0 ≤ -x) (Int.le_of_lt hk)
    omega
theorem byteAt_wrap (q : Int) (j : Nat) : IntKind.u64.wrap q / 2 ^ (8 * j) % 256 = ((byteAt q j : Nat) : Int) := by
  have h0 : (0 : Int) ≤ q % 18446744073709551616 := by omega
  have e : ((2 : Int) ^ (8 * j)) = ((256 ^ j : Nat) : Int) := by
    rw [Int.pow_mul]; simp
  rw [IntKind.wrap_u64, e]
  unfold byteAt
  rw [Int.natCast_emod, Int.natCast_ediv, Int.toNat_of_nonneg h0]
  rfl
theorem bytes8_snoc (q : Int) (t : Nat) (h : t < 8) : (bytes8 q).take (t + 1) = (bytes8 q).take t ++ [byteAt q (7 - t)] := by
  have : t = 0 ∨ t = 1 ∨ t = 2 ∨ t = 3 ∨ t = 4 ∨ t = 5 ∨ t = 6 ∨ t = 7 := by omega
  rcases this with rfl | rfl | rfl | rfl | rfl | rfl | rfl | rfl <;> rfl
theorem argOf_I64 {x : Int} (h : I64 x) : I64 (argOf x) := by
  unfold argOf
  have h1 := tdiv_I64 17 (by omega) h
  split
  · unfold I64; omega
  · exact h1
set_option maxRecDepth 100000 in
set_option maxHeartbeats 2000000 in
theorem code6 (A : Option Addr) (n c : Nat) (zs : List Int) (w : World) (hz : Nums .i64 w A n zs) (hnc : n ≤ c) (hm : c ≤ maxLen) (hw : ∀ x ∈ zs, I64 x) :
    Calls Try.prog 15 #[.slice A n c] w fun e w' => ∃ A' n' c', e = .returned (.slice A' n' c') ∧ GB w' A' n' c' (codeV [] zs) ∧ Ext w w' := by
  have hl := Lib.hid hz.1
  unfold maxLen at hm
  go_enter Try.func15, Try.ntmps15
  go_wp2_with fail
  go_loopw [3, 4] (fun s i wr => ∃ (k : Nat) (A' : Option Addr) (n' c' : Nat) (b : List Nat), k ≤ n ∧ i = .int .i64 (k : Int) ∧ s = .slice A' n' c' ∧ Own wr w.heap.size 5 1 A' n' c' (bvals b) ∧ n' ≤ 58 ∧ Hid (codeV b (zs.drop k) = codeV [] zs) ∧ Ext w wr) (fun _ i _ => n - (intOf i).toNat)
  case atStart => exact ⟨0, none, 0, 0, [], Nat.zero_le _, rfl, rfl, Own.nil _ _ _ _ _, by omega, Lib.hid rfl, Ext.refl w⟩
  case round =>
    obtain ⟨k, A1, n1, c1, b, hk, rfl, rfl, ho, hn1, hco, her⟩ := hrel
    have hbl : b.length = n1 := by have := ho.1; simpa [bvals] using this
    have Hbl := Lib.hid hbl
    by_cases hgo : k < n ∧ n1 < 50
    · obtain ⟨g1, g2⟩ := hgo
      obtain ⟨b1, o1, rfl, hb1, hcell⟩ := hz.at_ k g1
      have hx64 := hw (zs.getD k 0) (by have : k < zs.length := by rw [hl.out]; exact g1
                                        simp [this])
      have hgo := Lib.hid (codeV_go b zs k (by rw [hl.out]; exact g1) (by omega))
      generalize zs.getD k 0 = x at *
      have hop17 := opOf_lt x
      have hwi := fun w => within6 x 17 (by omega) (by omega) w
      have hp : x % 17 = ((opOf x : Nat) : Int) := by unfold opOf; omega
      rw [hp] at hwi
      have hcr := her.cell hcell
      have hbase := her.le
      have hki : (k : Int) < (n : Int) := by omega
      have hk0 : (0 : Int) ≤ (k : Int) := by omega
      have hni : (n1 : Int) < 50 := by omega
      have m1 : n1 + 1 ≤ maxLen := by unfold maxLen; omega
      have m2 : (n1 + 1) * 1 ≤ 140737488355328 := by omega
      clear hbl hp
      by_cases h1 : opOf x = 1
      · have hcs : codeStep b x = b ++ [1] ++ bytes8 (argOf x) := by unfold codeStep; rw [if_pos h1]
        have Hcs := Lib.hid hcs
        rw [h1] at hwi
        have hq := tdiv_I64 17 (by omega) hx64
        have hq3 := tdiv_I64 3 (by omega) hq
        have ha64 := argOf_I64 hx64
        have hw17 : wrap64 (x.tdiv 17) = x.tdiv 17 := IntWalk.wrap64_in _ hq
        have hw3 : wrap64 ((x.tdiv 17).tdiv 3) = (x.tdiv 17).tdiv 3 := IntWalk.wrap64_in _ hq3
        have hc3 := fun w => within6 (x.tdiv 17) 3 (by omega) (by omega) w
        have hc70 := fun w => within6 ((x.tdiv 17).tdiv 3) 70 (by omega) (by omega) w
        have harg : Hid (argOf x = if 0 < x.tdiv 17 % 3 then (x.tdiv 17).tdiv 3 % 70 - 4 else x.tdiv 17) := Lib.hid rfl
        have b70 : 0 ≤ (x.tdiv 17).tdiv 3 % 70 ∧ (x.tdiv 17).tdiv 3 % 70 < 70 := by omega
        obtain ⟨b71, b72⟩ := b70
        clear hcs h1 hop17 hx64 hq hq3
        go_wp2_with fail
        refine (hwi _).mono ?_
        rintro e w' ⟨rfl, rfl⟩
        go_wp2_with (at_builtin; refine wpList_append_Own rfl (.tmp 25) (.tmp 27) _ rfl w.heap.size byte_elem rfl (ho.ext ((Ext.refl w').alloc _)) rfl (one_byte w' 1) (one_one _) m1 m2 (by have := her.le; simpa using Nat.le_succ_of_le this) ?_)
        intro A2 c2 w2 ho2 hg2
        have hx2 : Ext w w2 := (her.alloc _).grown hg2 (fun k h => (ho.row k h).1)
        have hcr := hx2.cell hcell
        clear hg2 ho
        go_upto_region 9 with fail
        go_upto_if 38 with (refine (hc3 _).mono ?_; rintro e w' ⟨rfl, rfl⟩)
        go_cut [6] (fun v wc => v = .int .i64 (argOf x) ∧ wc = w')
        case first =>
          by_cases h0 : 0 < x.tdiv 17 % 3
          · have ha := Lib.hid (show argOf x = (x.tdiv 17).tdiv 3 % 70 - 4 by rw [harg.out, if_pos h0])
            go_wp2_with fail
            refine (hc70 _).mono ?_
            rintro e w' ⟨rfl, rfl⟩
            go_wp2_with fail
            go_meet
            exact ⟨by rw [ha.out], rfl⟩
          · have ha := Lib.hid (show argOf x = x.tdiv 17 by rw [harg.out, if_neg h0])
            go_wp2_with fail
            go_meet
            exact ⟨by rw [ha.out], rfl⟩
        case rest =>
          obtain ⟨rfl, rfl⟩ := hcut
          clear harg b71 b72 hw17 hw3 hc3 hc70
          generalize argOf x = q at *
          go_wp2_with fail
          have hbl2 : b.length = n1 := Hbl.out
          go_loopw [3, 7] (fun s j wr2 => ∃ (t : Nat) (A' : Option Addr) (c' : Nat), t ≤ 8 ∧ s = .slice A' (n1 + 1 + t) c' ∧ j = .int .i64 (7 - (t : Int)) ∧ Own wr2 w.heap.size 5 1 A' (n1 + 1 + t) c' (bvals (b ++ [1] ++ (bytes8 q).take t)) ∧ Ext w wr2) (fun _ j _ => (intOf j + 1).toNat)
          case atStart => exact ⟨0, A2, c2, by omega, rfl, rfl, by rw [bvals_append, bvals_append]; simpa [bvals] using ho2, hx2⟩
          case round =>
            obtain ⟨t, A3, c3, ht, rfl, rfl, ho3, hx3⟩ := hrel
            by_cases h8 : t < 8
            · have h7 : (0 : Int) ≤ 7 - (t : Int) := by omega
              have hb3 := hx3.le
              have m3 : n1 + 1 + t + 1 ≤ maxLen := by unfold maxLen; omega
              have m4 : (n1 + 1 + t + 1) * 1 ≤ 140737488355328 := by omega
              have hby := Lib.hid (byteAt_wrap q (7 - t))
              have hsn := Lib.hid (bytes8_snoc q t h8)
              go_wp2_with (at_builtin; refine wpList_append_Own rfl (.tmp 47) (.tmp 55) _ rfl w.heap.size byte_elem rfl (ho3.ext ((Ext.refl _).alloc _)) rfl (one_byte _ (IntKind.u64.wrap q / 2 ^ (8 * (7 - t)) % 256)) (one_one _) m3 m4 (by simpa using Nat.le_succ_of_le hb3) ?_)
              intro A4 c4 w4 ho4 hg4
              have hx4 : Ext w w4 := (hx3.alloc _).grown hg4 (fun k h => (ho3.row k h).1)
              have ho4' : Own w4 w.heap.size 5 1 A4 (n1 + 1 + (t + 1)) c4 (bvals (b ++ [1] ++ (bytes8 q).take (t + 1))) := by
                have e1 : b ++ [1] ++ (bytes8 q).take t = b ++ 1 :: (bytes8 q).take t := by simp
                rw [hsn.out, ← List.append_assoc, bvals_append, e1]
                rw [hby.out] at ho4
                exact ho4
              clear hg4 ho4 ho3
              go_wp2_with fail
              go_roundw
              case rel => exact ⟨t + 1, A4, c4, by omega, rfl, by go_num, ho4', hx4⟩
              case measure => simp [intOf]; omega
            · obtain rfl : t = 8 := by omega
              have ho4' : Own wr w.heap.size 5 1 A3 (n1 + 1 + 8) c3 (bvals (codeStep b x)) := by rw [Hcs.out]; exact ho3
              have hco2 : Hid (codeV (codeStep b x) (zs.drop (k + 1)) = codeV [] zs) := Lib.hid (by rw [← hco.out, hgo.out])
              clear ho3 hco h8 hbl2
              go_wp2_with fail
              go_roundw
              case rel => exact ⟨k + 1, A3, n1 + 1 + 8, c3, codeStep b x, by omega, by go_num, rfl, ho4', by omega, hco2, hx3⟩
              case measure => simp [intOf]; omega
      by_cases h13 : opOf x = 13
      · have hcs : codeStep b x = b ++ [13] ++ [(x.tdiv 17 % 40).toNat] := by unfold codeStep; rw [if_neg h1, if_pos h13]
        have Hcs := Lib.hid hcs
        rw [h13] at hwi
        have hq := tdiv_I64 17 (by omega) hx64
        have hw17 : wrap64 (x.tdiv 17) = x.tdiv 17 := IntWalk.wrap64_in _ hq
        obtain ⟨r, hr, hrl⟩ := emod_natW (x.tdiv 17) 40 40 rfl (by omega)
        have hwk := fun w => within6 (x.tdiv 17) 40 (by omega) (by omega) w
        rw [hr] at hwk
        have Hr := Lib.hid (show (x.tdiv 17 % 40).toNat = r by omega)
        have m3 : n1 + 1 + 1 ≤ maxLen := by unfold maxLen; omega
        have m4 : (n1 + 1 + 1) * 1 ≤ 140737488355328 := by omega
        clear hcs h1 h13 hr hop17 hx64 hq
        go_wp2_with fail
        refine (hwi _).mono ?_
        rintro e w' ⟨rfl, rfl⟩
        go_wp2_with (at_builtin; refine wpList_append_Own rfl (.tmp 25) (.tmp 27) _ rfl w.heap.size byte_elem rfl (ho.ext ((Ext.refl w').alloc _)) rfl (one_byte w' 13) (one_one _) m1 m2 (by have := her.le; simpa using Nat.le_succ_of_le this) ?_)
        intro A2 c2 w2 ho2 hg2
        have hx2 : Ext w w2 := (her.alloc _).grown hg2 (fun k h => (ho.row k h).1)
        have hcr := hx2.cell hcell
        clear hg2 ho
        go_wp2_with fail
        refine (hwk _).mono ?_
        rintro e w' ⟨rfl, rfl⟩
        go_wp2_with (at_builtin; refine wpList_append_Own rfl (.tmp 59) (.tmp 63) _ rfl w.heap.size byte_elem rfl (ho2.ext ((Ext.refl w').alloc _)) rfl (one_byte w' r) (one_one _) m3 m4 (by have := hx2.le; simpa using Nat.le_succ_of_le this) ?_)
        intro A3 c3 w3 ho3 hg3
        have hx3 : Ext w w3 := (hx2.alloc _).grown hg3 (fun k h => (ho2.row k h).1)
        have ho3' : Own w3 w.heap.size 5 1 A3 (n1 + 1 + 1) c3 (bvals (codeStep b x)) := by rw [Hcs.out, Hr.out, bvals_append, bvals_append, List.append_assoc]; exact ho3
        have hco2 : Hid (codeV (codeStep b x) (zs.drop (k + 1)) = codeV [] zs) := Lib.hid (by rw [← hco.out, hgo.out])
        clear hg3 ho3 ho2 hco
        go_wp2_with fail
        go_roundw
        case rel => exact ⟨k + 1, A3, n1 + 1 + 1, c3, codeStep b x, by omega, by go_num, rfl, ho3', by omega, hco2, hx3⟩
        case measure => simp [intOf]; omega
      have hcs : codeStep b x = b ++ [opOf x] := by unfold codeStep; rw [if_neg h1, if_neg h13]
      have Hcs := Lib.hid hcs
      clear hcs
      generalize opOf x = p at *
      have e1 : ((p : Int) == 1) = false := by rw [beq_eq_false_iff_ne]; omega
      have e13 : ((p : Int) == 13) = false := by rw [beq_eq_false_iff_ne]; omega
      clear h1 h13
      go_wp2_with fail
      refine (hwi _).mono ?_
      rintro e w' ⟨rfl, rfl⟩
      go_wp2_with (at_builtin; refine wpList_append_Own rfl (.tmp 25) (.tmp 27) _ rfl w.heap.size byte_elem rfl (ho.ext ((Ext.refl w').alloc _)) rfl (one_byte w' p) (one_one _) m1 m2 (by have := her.le; simpa using Nat.le_succ_of_le this) ?_)
      intro A2 c2 w2 ho2 hg2
      have hx2 : Ext w w2 := (her.alloc _).grown hg2 (fun k h => (ho.row k h).1)
      have hcr := hx2.cell hcell
      have ho2' : Own w2 w.heap.size 5 1 A2 (n1 + 1) c2 (bvals (b ++ [p])) := by rw [bvals_append]; exact ho2
      have hco2 : Hid (codeV (b ++ [p]) (zs.drop (k + 1)) = codeV [] zs) := Lib.hid (by rw [← hco.out, hgo.out, Hcs.out])
      clear hg2 ho2 ho hco
      go_wp2_with fail
      go_roundw
      case rel => exact ⟨k + 1, A2, n1 + 1, c2, b ++ [p], by omega, by go_num, rfl, ho2', by omega, hco2, hx2⟩
      case measure => simp [intOf]; omega
    · have hce : codeV b (zs.drop k) = b := codeV_end b zs k (by rw [hl.out, Hbl.out]; omega)
      have hgb : GB wr A1 n1 c1 (codeV [] zs) := by rw [← hco.out, hce]; exact GB.own ho
      clear hbl hce hco
      by_cases g1 : k < n
      · have g2 : ¬ n1 < 50 := by omega
        have d2 : decide (n1 < 50) = false := by simp; omega
        clear hgo
        go_wp2_with fail
        go_ret
        exact ⟨A1, n1, c1, rfl, hgb, her⟩
      · clear hgo
        go_wp2_with fail
        go_ret
        exact ⟨A1, n1, c1, rfl, hgb, her⟩

set_option maxRecDepth 100000 in
set_option maxHeartbeats 2000000 in
theorem push6 (w0 : World) (A : Option Addr) (n c : Nat) (b : List Nat) (q : Int) (w : World) (hx : Ext w0 w) (ho : Own w w0.heap.size 5 1 A n c (bvals b)) (hn : n ≤ 100) (hq : I64 q) :
    Calls Try.prog 23 #[.slice A n c, .int .i64 q] w fun e w' => ∃ A' c', e = .returned (.slice A' (n + 9) c') ∧ Own w' w0.heap.size 5 1 A' (n + 9) c' (bvals (b ++ [1] ++ bytes8 q)) ∧ Ext w0 w' := by
  have hb0 := hx.le
  have m1 : n + 1 ≤ maxLen := by unfold maxLen; omega
  have m2 : (n + 1) * 1 ≤ 140737488355328 := by omega
  obtain ⟨q1, q2⟩ := hq
  go_enter Try.func23, Try.ntmps23
  go_wp2_with (at_builtin; refine wpList_append_Own rfl (.tmp 6) (.tmp 7) _ rfl w0.heap.size byte_elem rfl (ho.ext ((Ext.refl w).alloc _)) rfl (one_byte w 1) (one_one _) m1 m2 (by simpa using Nat.le_succ_of_le hb0) ?_)
  intro A2 c2 w2 ho2 hg2
  have hx2 : Ext w0 w2 := (hx.alloc _).grown hg2 (fun k h => (ho.row k h).1)
  clear hg2 ho
  go_wp2_with fail
  go_loopw [0, 5] (fun s j wr2 => ∃ (t : Nat) (A' : Option Addr) (c' : Nat), t ≤ 8 ∧ s = .slice A' (n + 1 + t) c' ∧ j = .int .i64 (7 - (t : Int)) ∧ Own wr2 w0.heap.size 5 1 A' (n + 1 + t) c' (bvals (b ++ [1] ++ (bytes8 q).take t)) ∧ Ext w0 wr2) (fun _ j _ => (intOf j + 1).toNat)
  case atStart => exact ⟨0, A2, c2, by omega, rfl, rfl, by rw [bvals_append, bvals_append]; simpa [bvals] using ho2, hx2⟩
  case round =>
    obtain ⟨t, A3, c3, ht, rfl, rfl, ho3, hx3⟩ := hrel
    by_cases h8 : t < 8
    · have h7 : (0 : Int) ≤ 7 - (t : Int) := by omega
      have hb3 := hx3.le
      have m3 : n + 1 + t + 1 ≤ maxLen := by unfold maxLen; omega
      have m4 : (n + 1 + t + 1) * 1 ≤ 140737488355328 := by omega
      have hby := Lib.hid (byteAt_wrap q (7 - t))
      have hsn := Lib.hid (bytes8_snoc q t h8)
      go_wp2_with (at_builtin; refine wpList_append_Own rfl (.tmp 13) (.tmp 21) _ rfl w0.heap.size byte_elem rfl (ho3.ext ((Ext.refl _).alloc _)) rfl (one_byte _ (IntKind.u64.wrap q / 2 ^ (8 * (7 - t)) % 256)) (one_one _) m3 m4 (by simpa using Nat.le_succ_of_le hb3) ?_)
      intro A4 c4 w4 ho4 hg4
      have hx4 : Ext w0 w4 := (hx3.alloc _).grown hg4 (fun k h => (ho3.row k h).1)
      have ho4' : Own w4 w0.heap.size 5 1 A4 (n + 1 + (t + 1)) c4 (bvals (b ++ [1] ++ (bytes8 q).take (t + 1))) := by
        have e1 : b ++ [1] ++ (bytes8 q).take t = b ++ 1 :: (bytes8 q).take t := by simp
        rw [hsn.out, ← List.append_assoc, bvals_append, e1]
        rw [hby.out] at ho4
        exact ho4
      clear hg4 ho4 ho3
      go_wp2_with fail
      go_roundw
      case rel => exact ⟨t + 1, A4, c4, by omega, rfl, by go_num, ho4', hx4⟩
      case measure => simp [intOf]; omega
    · obtain rfl : t = 8 := by omega
      have ho4' : Own wr w0.heap.size 5 1 A3 (n + 9) c3 (bvals (b ++ [1] ++ bytes8 q)) := ho3
      clear ho3 h8
      go_wp2_with fail
      go_ret
      exact ⟨A3, c3, rfl, ho4', hx3⟩
end Go.Proofs.Ytlahecofjlaojaa
