/- VmTwos: the walk. -/
import Derived.Test.YtlahecofjlaojaaRf6
import Derived.Test.YtlahecofjlaojaaRf7
import Derived.Test.YtlahecofjlaojaaVmOnes
import Derived.Test.YtlahecofjlaojaaWithin
namespace Go.Proofs.Ytlahecofjlaojaa
set_option linter.unusedVariables false
open Go.RowKit

theorem two_step {op : Nat} (h : 2 ≤ op ∧ op ≤ 7) (a b : Int) : stepV (mk [op] 0 0 0 [a, b] 5) = if (twoV op a b).1 ≠ 0 then overV (mk [op] 0 0 0 [a, b] 4) (twoV op a b).1 else mk [op] 0 0 1 [(twoV op a b).2] 4 := by
  rw [stepY rfl (by show (1 : Int) ≤ 5; decide) (by show 0 < 1; decide) (by show op ≠ 0; omega)]
  have hd : doV { mk [op] 0 0 0 [a, b] 5 with at_ := (mk [op] 0 0 0 [a, b] 5).at_ + 1, gas := (mk [op] 0 0 0 [a, b] 5).gas - 1 } op = if (twoV op a b).1 ≠ 0 then (((twoV op a b).1 : Int), mk [op] 0 0 1 [a, b] 4) else (0, mk [op] 0 0 1 [(twoV op a b).2] 4) := by
    unfold doV
    simp only
    rw [if_neg (by omega), if_pos h, if_neg (by simp [mk])]
    rfl
  show (if (doV _ op).1 ≠ 0 then overV _ (doV _ op).1 else (doV _ op).2) = _
  rw [hd]
  by_cases ht : (twoV op a b).1 ≠ 0
  · rw [if_pos ht, if_pos ht, if_pos (by simpa using ht)]
    rfl
  · rw [if_neg ht, if_neg ht, if_neg (by simp)]
theorem two_fit (op : Nat) (hop : op < 256) (a b : Int) (ha : I64 a) (hb : I64 b) : (mk [op] 0 0 0 [a, b] 5).Fit :=
  ⟨⟨by intro x hx; simp [mk] at hx; omega, by simp [mk], by simp [mk], by simp [mk], by intro x hx; simp [mk] at hx; rcases hx with rfl | rfl; exact ha; exact hb, by simp [mk], by simp [mk]⟩, by simp [mk], by simp [mk], by simp [mk]⟩
theorem two_lens {op : Nat} (h : 2 ≤ op ∧ op ≤ 7) (a b : Int) : (stepV (mk [op] 0 0 0 [a, b] 5)).code = [op] ∧ (stepV (mk [op] 0 0 0 [a, b] 5)).stack.length ≤ 2 := by
  rw [two_step h]
  split
  · exact ⟨rfl, Nat.le_refl _⟩
  · exact ⟨rfl, by simp [mk]⟩
theorem two2 {a b c : Int} (h : (0, c) = twoV 2 a b) : in64 (a + b) = true ∧ c = a + b := by
  have h' : (0, c) = (if in64 (a + b) then (0, a + b) else (11, 0)) := h
  by_cases hi : in64 (a + b) = true
  · rw [if_pos hi] at h'; exact ⟨hi, (Prod.mk.inj h').2⟩
  · rw [if_neg hi] at h'; exact absurd (Prod.mk.inj h').1 (by decide)
theorem two3 {a b c : Int} (h : (0, c) = twoV 3 a b) : in64 (a - b) = true ∧ c = a - b := by
  have h' : (0, c) = (if in64 (a - b) then (0, a - b) else (11, 0)) := h
  by_cases hi : in64 (a - b) = true
  · rw [if_pos hi] at h'; exact ⟨hi, (Prod.mk.inj h').2⟩
  · rw [if_neg hi] at h'; exact absurd (Prod.mk.inj h').1 (by decide)
theorem two4 {a b c : Int} (h : (0, c) = twoV 4 a b) : in64 (a * b) = true ∧ c = a * b := by
  have h' : (0, c) = (if in64 (a * b) then (0, a * b) else (11, 0)) := h
  by_cases hi : in64 (a * b) = true
  · rw [if_pos hi] at h'; exact ⟨hi, (Prod.mk.inj h').2⟩
  · rw [if_neg hi] at h'; exact absurd (Prod.mk.inj h').1 (by decide)
theorem two5 {a b c : Int} (h : (0, c) = twoV 5 a b) : 0 ≤ b ∧ c = shlV a b := by
  have h' : (0, c) = (if b < 0 then (1, 0) else (0, shlV a b)) := h
  by_cases hi : b < 0
  · rw [if_pos hi] at h'; exact absurd (Prod.mk.inj h').1 (by decide)
  · rw [if_neg hi] at h'; exact ⟨by omega, (Prod.mk.inj h').2⟩
theorem two6 {a b c : Int} (h : (0, c) = twoV 6 a b) : 0 ≤ b ∧ c = shrV a b := by
  have h' : (0, c) = (if b < 0 then (1, 0) else (0, shrV a b)) := h
  by_cases hi : b < 0
  · rw [if_pos hi] at h'; exact absurd (Prod.mk.inj h').1 (by decide)
  · rw [if_neg hi] at h'; exact ⟨by omega, (Prod.mk.inj h').2⟩
theorem two7 {a b c : Int} (h : (0, c) = twoV 7 a b) : c = bits .and .i64 a b := (Prod.mk.inj h).2
theorem shl_u64 (a k : Int) : IntKind.u64.wrap (wrap64 (a * k)) = IntKind.u64.wrap (IntKind.u64.wrap a * k) := by
  rw [IntKind.wrap_u64, IntKind.wrap_u64, IntKind.wrap_u64, Int.mul_emod, Int.emod_emod, ← Int.mul_emod]
  unfold wrap64
  omega
/-- When a sign of two numbers is refused. -/
theorem two_no {op : Nat} {a b : Int} (h : 2 ≤ op ∧ op ≤ 7) (he : (twoV op a b).1 ≠ 0) : op ≠ 7 ∧ (op < 5 ∨ b < 0) := by
  have h6 : op = 2 ∨ op = 3 ∨ op = 4 ∨ op = 5 ∨ op = 6 ∨ op = 7 := by omega
  rcases h6 with rfl | rfl | rfl | rfl | rfl | rfl
  · exact ⟨by decide, .inl (by decide)⟩
  · exact ⟨by decide, .inl (by decide)⟩
  · exact ⟨by decide, .inl (by decide)⟩
  · refine ⟨by decide, .inr ?_⟩
    by_cases hi : b < 0
    · exact hi
    · exact absurd (show (if b < 0 then (1, 0) else (0, shlV a b)).1 = 0 by rw [if_neg hi]) he
  · refine ⟨by decide, .inr ?_⟩
    by_cases hi : b < 0
    · exact hi
    · exact absurd (show (if b < 0 then (1, 0) else (0, shrV a b)).1 = 0 by rw [if_neg hi]) he
  · exact absurd rfl he
set_option maxRecDepth 100000 in
set_option maxHeartbeats 8000000 in
theorem twos_walk (opx a b : Int) (w : World) (ho : I64 opx) (ha : I64 a) (hb : I64 b) :
    Calls Try.prog 4 #[.int .i64 opx, .int .i64 a, .int .i64 b] w fun e w' => e = .returned (.bool true) ∧ Ext w w' := by
  have hwi := fun w => within6 opx 6 (by omega) (by omega) w
  obtain ⟨p, hp, hp6⟩ := emod_natW opx 6 6 rfl (by omega)
  rw [hp] at hwi
  clear hp
  have Ha := Lib.hid ha
  have Hb := Lib.hid hb
  obtain ⟨a1, a2⟩ := ha
  obtain ⟨b1, b2⟩ := hb
  go_enter Try.func4, Try.ntmps4
  go_wp2_with fail
  refine (known6 w).mono ?_
  rintro e w1 ⟨rfl, hx1⟩
  go_upto_region 4 with (refine (hwi _).mono ?_; rintro e w1 ⟨rfl, rfl⟩)
  have hopp : 2 ≤ 2 + p ∧ 2 + p ≤ 7 := by omega
  have hcast : (2 : Int) + (p : Int) = ((2 + p : Nat) : Int) := by omega
  rw [hcast]
  generalize 2 + p = op at *
  clear hcast hwi hp6 ho
  have hu8 : IntKind.u8.wrap (op : Int) = (op : Int) := by simp [IntKind.wrap, IntKind.signed, IntKind.bits]; omega
  have hfit := two_fit op (by omega) a b Ha.out Hb.out
  obtain ⟨hyc, hys⟩ := two_lens hopp a b
  have hs := fun (W : World) => vstep_any (mk [op] 0 0 0 [a, b] 5) (some ⟨W.heap.size, 0, none⟩) 1 1 (some ⟨W.heap.size + 1, 0, none⟩) 2 2 ((W.alloc (.cells #[.int .u8 (op : Int)] 5)).alloc (.cells #[.int .i64 a, .int .i64 b] 3))
    ((lit_bytes W _ [op] rfl rfl).ext ((Ext.refl _).alloc _)) (show Nums .i64 _ (some ⟨W.heap.size + 1, 0, none⟩) 2 [a, b] by have := two_num (W.alloc (.cells #[.int .u8 (op : Int)] 5)) a b; simpa using this) hfit
  have hr := fun (W : World) => rstep_any (mk [op] 0 0 0 [a, b] 5) (some ⟨W.heap.size, 0, none⟩) 1 1 (some ⟨W.heap.size + 1, 0, none⟩) 2 2 ((W.alloc (.cells #[.int .u8 (op : Int)] 5)).alloc (.cells #[.int .i64 a, .int .i64 b] 3))
    ((lit_bytes W _ [op] rfl rfl).ext ((Ext.refl _).alloc _)) (show Nums .i64 _ (some ⟨W.heap.size + 1, 0, none⟩) 2 [a, b] by have := two_num (W.alloc (.cells #[.int .u8 (op : Int)] 5)) a b; simpa using this) hfit rfl rfl
  obtain ⟨y, hy⟩ : ∃ y, y = stepV (mk [op] 0 0 0 [a, b] 5) := ⟨_, rfl⟩
  rw [← hy] at hs hr hyc hys
  rw [two_step hopp] at hy
  have Hy := Lib.hid hy
  have Hyc := Lib.hid hyc
  clear hy hyc hfit
  unfold mk Ms.cells at hs hr
  simp only at hs hr
  go_wp2_with fail
  refine (hs w1).mono ?_
  intro e w2 h2
  obtain ⟨A2, c2, S2, d2, rfl, hg2, ho2, hx2⟩ := h2
  have hx12 : Ext w1 w2 := (((Ext.refl w1).alloc _).alloc _).trans hx2
  unfold Ms.cells
  have hBn := Blk.new w2 34 #[.slice none 0 0, .int .i64 0, .int .i64 0, .int .i64 0, .slice none 0 0, .int .i64 0, .bool false, .int .i64 0]
  clear hs
  go_wp2_with ((refine wpList_store_blk rfl 34 (.tmp 7) (.tmp 22) rfl hBn rfl rfl rfl mach_size rfl ?_; intro w3 hB3 hM3))
  have hgb3 := (hg2.ext ((Ext.refl w2).alloc _)).mut hBn mach_ne8 hM3
  have hgi3 := ((GI.own ho2).ext ((Ext.refl w2).alloc _)).mut hBn mach_neI hM3
  have hx3 : Ext w1 w3 := (hx12.trans ((Ext.refl w2).alloc _)).mut hM3 hx12.le
  clear hg2 ho2 hBn hM3 hx12 hx2
  generalize w2.heap.size = g7 at *
  go_wp2_with fail
  refine (hr w3).mono ?_
  intro e w4 h4
  obtain ⟨A4, c4, S4, d4, rfl, hg4, ho4, hx4⟩ := h4
  have hx34 : Ext w3 w4 := (((Ext.refl w3).alloc _).alloc _).trans hx4
  unfold Ms.cells
  have hBn := Blk.new w4 37 #[.slice none 0 0, .int .i64 0, .int .i64 0, .int .i64 0, .slice none 0 0, .int .i64 0, .bool false, .int .i64 0]
  clear hr
  go_upto_region 6 with ((refine wpList_store_blk rfl 37 (.tmp 8) (.tmp 30) rfl hBn rfl rfl rfl rmach_size rfl ?_; intro w5 hB5 hM5))
  have hgb5 := (hg4.ext ((Ext.refl w4).alloc _)).mut hBn rmach_ne8 hM5
  have hgi5 := ((GI.own ho4).ext ((Ext.refl w4).alloc _)).mut hBn rmach_neI hM5
  have hx35 : Ext w3 w5 := (hx34.trans ((Ext.refl w4).alloc _)).mut hM5 hx34.le
  have hx5 : Ext w1 w5 := hx3.trans hx35
  replace hB3 := hB3.ext hx35
  replace hgb3 := hgb3.ext hx35
  replace hgi3 := hgi3.ext hx35
  clear hg4 ho4 hBn hM5 hx34 hx4 hx35 hx3
  generalize w4.heap.size = g8 at *
  have hct := fun w' => toref_any y A2 y.code.length c2 S2 y.stack.length d2 w'
  have hcs := fun w' (h : Ext w5 w') => same_any y A2 y.code.length c2 S2 y.stack.length d2 A4 c4 S4 d4 w' (hgb3.bytes.ext h) (hgb5.bytes.ext h) (hgi3.nums.ext h) (hgi5.nums.ext h) (by rw [Hyc.out]; intro x hx; simp at hx; omega) (by omega)
  unfold Ms.cells at hct hcs
  unfold GivesM at hct
  have K := fun w' (h : Ext w5 w') => (hB3.ext h).cells8
  have L := fun w' (h : Ext w5 w') => (hB5.ext h).cells8
  have HK := Lib.hid K
  have k0 := fun w' h => (K w' h).1
  have k1 := fun w' h => (K w' h).2.1
  have k2 := fun w' h => (K w' h).2.2.1
  have k3 := fun w' h => (K w' h).2.2.2.1
  have k4 := fun w' h => (K w' h).2.2.2.2.1
  have k5 := fun w' h => (K w' h).2.2.2.2.2.1
  have k6 := fun w' h => (K w' h).2.2.2.2.2.2.1
  have k7 := fun w' h => (K w' h).2.2.2.2.2.2.2
  have l0 := fun w' h => (L w' h).1
  have l1 := fun w' h => (L w' h).2.1
  have l2 := fun w' h => (L w' h).2.2.1
  have l3 := fun w' h => (L w' h).2.2.2.1
  have l4 := fun w' h => (L w' h).2.2.2.2.1
  have l5 := fun w' h => (L w' h).2.2.2.2.2.1
  have l6 := fun w' h => (L w' h).2.2.2.2.2.2.1
  have l7 := fun w' h => (L w' h).2.2.2.2.2.2.2
  have hgi3' := Lib.hid hgi3
  have Hys := Lib.hid hys
  clear K L hB3 hB5 hgb3 hgb5 hgi3 hgi5 hys
  generalize hls : y.stack.length = ls at *
  generalize y.code.length = lc at *
  have Hls := Lib.hid hls
  clear hls
  go_region_held3 (fun w' => Ext w5 w')
    (first | assumption | exact Ext.refl _ | exact (Ext.refl _).drew | exact Ext.trans (by assumption) (by assumption))
    (first
      | (go_at_call 22; refine (hct _).mono ?_; rintro e wa ⟨rfl, hxa⟩)
      | (go_at_call 21; refine (hcs _ (by assumption)).mono ?_; rintro e wb ⟨rfl, hxb⟩))
  have h5b : Ext w5 wb := by assumption
  have hfin : Ext w wb := (hx1.trans hx5).trans h5b
  have K := HK.out wb h5b
  clear hct hcs k0 k1 k2 k3 k4 k5 k6 k7 l0 l1 l2 l3 l4 l5 l6 l7
  have h0 := K.2.2.2.2.1
  have h1 := K.2.2.2.2.2.2.1
  clear K
  by_cases ht : (twoV op a b).1 ≠ 0
  · have hy := Hy.out
    rw [if_pos ht] at hy
    rw [show y.done = true by rw [hy]; rfl] at h1
    obtain ⟨n7, hn⟩ := two_no hopp ht
    have e7 : ((op : Int) != 7) = true := by simp; omega
    clear ht hy
    by_cases h5 : op < 5
    · have h5i : (op : Int) < 5 := by omega
      go_wp2_with fail
      go_ret
      exact ⟨rfl, hfin⟩
    · have h5i : decide ((op : Int) < 5) = false := by simp; omega
      have hbn : b < 0 := by omega
      go_wp2_with fail
      go_ret
      exact ⟨rfl, hfin⟩
  · have hy := Hy.out
    rw [if_neg ht] at hy
    rw [show y.done = false by rw [hy]; rfl] at h1
    obtain ⟨⟨t1, t2⟩, hT⟩ : ∃ tt, tt = twoV op a b := ⟨_, rfl⟩
    rw [← hT] at ht hy
    obtain rfl : t1 = 0 := by simpa using ht
    have hst : y.stack = [t2] := by rw [hy]; rfl
    have hl1 : ls = 1 := by have := Hls.out; rw [hst] at this; exact this.symm
    subst hl1
    have hgi := hgi3'.out
    rw [hst] at hgi
    obtain ⟨b9, o9, rfl, hb9, hcell⟩ := (hgi.nums.ext h5b).at_ 0 (by decide)
    replace hcell : wb.cell? ⟨b9, o9, none⟩ = some (.int .i64 t2) := hcell
    clear hy hgi hst ht
    have h6 : op = 2 ∨ op = 3 ∨ op = 4 ∨ op = 5 ∨ op = 6 ∨ op = 7 := by omega
    have HT := Lib.hid hT
    clear hT Hy
    rcases h6 with rfl | rfl | rfl | rfl | rfl | rfl
    · obtain ⟨hi, rfl⟩ := two2 HT.out
      have hii := in64_I64 hi
      clear hi
      obtain ⟨i1, i2⟩ := hii
      go_wp2_with fail
      go_ret
      exact ⟨rfl, hfin⟩
    · obtain ⟨hi, rfl⟩ := two3 HT.out
      have hii := in64_I64 hi
      clear hi
      obtain ⟨i1, i2⟩ := hii
      go_wp2_with fail
      go_ret
      exact ⟨rfl, hfin⟩
    · obtain ⟨hi, rfl⟩ := two4 HT.out
      have hii := in64_I64 hi
      clear hi
      obtain ⟨i1, i2⟩ := hii
      by_cases hb0 : b = 0
      · subst hb0
        go_wp2_with fail
        go_ret
        exact ⟨rfl, hfin⟩
      · have hq : (a * b).tdiv b = a := Int.mul_tdiv_cancel _ hb0
        have hr : (a * b).tmod b = 0 := Int.mul_tmod_left _ _
        have hbe : (b == 0) = false := by simpa using hb0
        have hbn : (b != 0) = true := by simpa using hb0
        generalize a * b = c at *
        go_wp2_with fail
        go_ret
        exact ⟨rfl, hfin⟩
    · obtain ⟨hb0, hc⟩ := two5 HT.out
      by_cases h63 : 63 < b
      · rw [shl_far h63] at hc
        subst hc
        go_wp2_with fail
        go_ret
        exact ⟨rfl, hfin⟩
      · rw [shl_near (by omega)] at hc
        subst hc
        have hsh : (IntKind.u64.wrap (wrap64 (a * 2 ^ b.toNat)) == IntKind.u64.wrap (IntKind.u64.wrap a * 2 ^ b.toNat)) = true := by rw [shl_u64]; simp
        go_wp2_with fail
        go_ret
        exact ⟨rfl, hfin⟩
    · obtain ⟨hb0, hc⟩ := two6 HT.out
      by_cases h63 : 63 < b
      · have HC := Lib.hid hc
        clear hc
        go_wp2_with fail
        go_ret
        exact ⟨rfl, hfin⟩
      · rw [shr_near (by omega)] at hc
        subst hc
        go_wp2_with fail
        go_ret
        exact ⟨rfl, hfin⟩
    · have hc := two7 HT.out
      subst hc
      go_wp2_with fail
      go_ret
      exact ⟨rfl, hfin⟩
end Go.Proofs.Ytlahecofjlaojaa
