/- The journal: Open, one of four ways. -/
import Derived.Test.YtpgndejmhegklaaJour
namespace Go.Proofs.Ytpgndejmhegklaa
set_option linter.unusedVariables false
open Go.RowKit

set_option maxRecDepth 100000 in
set_option maxHeartbeats 4000000 in
theorem open_4 (g : Nat) (d : Dsk) (w : World) (hD : DiskAt w g d) (hd : d.dead = false) (hl0 : d.left = 0) (hsl : d.snap.length ≤ 4000000) (hll : d.log.length ≤ 4000000) (hs0 : d.snap ≠ [] ∧ oneE d.snap = 0) (hcutc : ¬ (scanL d.log).2 < d.log.length) :
    Calls Try.prog 26 #[.pointer (some ⟨g, 0, none⟩)] w fun e w' => OpenSays w g d e w' := by
  have HC := Lib.hid hcutc
  clear hcutc
  obtain ⟨hs0, hone0⟩ := hs0
  have Hone := Lib.hid hone0
  clear hone0
  have hmf : ∀ (fn : Fn) (first cap : Array Value) (w : World), (Instr.makeFunc fn first cap).run Try.prog w = .ok (.func fn first cap) w := fun _ _ _ _ => rfl
  go_enter_defers Try.func26, Try.ntmps26
  have hx0 : Ext w ((((w.alloc (.cells #[.pointer none] 47)).alloc (.cells #[.slice none 0 0] 22)).alloc (.cells #[.slice none 0 0] 23)).alloc (.cells #[.int .i64 0] 27)) := ((((Ext.refl w).alloc _).alloc _).alloc _).alloc _
  have hV := Vars.new w
  go_upto_region 1 with fail
  generalize (((w.alloc (.cells #[.pointer none] 47)).alloc (.cells #[.slice none 0 0] 22)).alloc (.cells #[.slice none 0 0] 23)).alloc (.cells #[.int .i64 0] 27) = w1 at *
  generalize hh : w.heap.size = h at *
  have hD1 := hD.ext hx0
  have hda := dead_any g d w1 hD1
  have hsn := snap_any g d w1 hD1
  rw [hd] at hda
  have hb8 := hD1.ok.snap8
  have Hh := Lib.hid hh
  have Hl := Lib.hid (And.intro hl0 hd)
  have hgl : g < h := by rw [← hh]; exact hD.lt
  clear hh hl0
  obtain ⟨⟨c0, c1, c2, c3⟩, f0, f1, f2, f3⟩ := hV.cells
  go_wp2_with fail
  refine hda.mono ?_
  rintro e w' ⟨rfl, rfl⟩
  go_wp2_with fail
  refine hsn.mono ?_
  rintro e w2 ⟨A2, n2, rfl, hg2, hx2⟩
  have hV2 := hV.ext hx2
  have hD2 := hD1.ext hx2
  have hx3 := hx0.trans hx2
  clear c0 c1 c2 c3 f0 f1 f2 f3 hV hsn hda hD1 hD hd hx0 hx2
  have hpos : ((d.snap.length : Nat) : Int) > 0 := by
    have : 0 < d.snap.length := List.length_pos_iff.2 hs0
    omega
  have hone0 := Hone.out
  have hon := one_any A2 d.snap.length n2 d.snap w2 hg2.bytes hg2.le hsl hb8
  rw [hone0] at hon
  generalize d.snap.length = n at *
  generalize hms : (oneB d.snap).length = ms at *
  have Hms := Lib.hid hms.symm
  clear hms
  clear hs0 hone0
  go_wp2_with fail
  refine hon.mono ?_
  rintro e w3 ⟨A3, n3, rfl, hg3, hx3'⟩
  have hV3 := hV2.ext hx3'
  have hD3 := hD2.ext hx3'
  have hx4 := hx3.trans hx3'
  obtain ⟨⟨c0, c1, c2, c3⟩, f0, f1, f2, f3⟩ := hV3.cells
  clear hV2 hg2 hon hx3 hD2
  go_upto_region 9 with fail
  have hgs3 := hg3.mut hV3.s (by decide) ((Mut.refl w3 (h + 1)).setCell 0 (.slice A3 ms n3))
  have hD3' := hD3.apart hV3.s (by decide) (by omega) ((Mut.refl w3 (h + 1)).setCell 0 (.slice A3 ms n3))
  have hV3' := hV3.s_ (.slice A3 ms n3)
  have hx4' := hx4.mut ((Mut.refl w3 (h + 1)).setCell 0 (.slice A3 ms n3)) (by have := Hh.out; omega)
  rw [hV3'.e.same]
  generalize w3.setCell ⟨h + 1, 0, none⟩ (.slice A3 ms n3) = w2 at *
  have hgs2 := hgs3
  have hD2 := hD3'
  have hV2 := hV3'
  have hx3 := hx4'
  clear hgs3 hD3' hV3' hx4' hg3 hV3 hD3 hx4 c0 c1 c2 c3 f0 f1 f2 f3 hx3'
  have hlo := log_any g d w2 hD2
  have hlb := hD2.ok.log8
  generalize hsc : scanL d.log = sc at *
  generalize hm : d.log.length = m at *
  go_wp2_with fail
  refine hlo.mono ?_
  rintro e w4 ⟨A4, n4, rfl, hg4, hx4⟩
  have hV4 := hV2.ext hx4
  have hD4 := hD2.ext hx4
  have hx5 := hx3.trans hx4
  have hgs4 := hgs2.ext hx4
  clear hV2 hD2 hlo hx3 hx4 hgs2
  have hsn4 := scan_own A4 m n4 d.log w4 hg4.bytes hg4.le hg4.2.1 hll hlb
  have hov : openV d = if sc.2 < m then (d.cut (sc.2 : Int)).2 else d := by unfold openV; rw [hsc, hm]
  have hle := scanL_le _ d.log (Nat.le_refl _)
  rw [hsc, hm] at hle
  have hlo2 := hg4.bytes.len
  have hcalm : ∀ p, p ≤ m → d.cut ((p : Nat) : Int) = (0, { d with log := d.log.take p, synced := p }) := by
    intro p hp
    rw [Calm.cut (r := d.room) ⟨Hl.out.2, Hl.out.1, rfl⟩, if_neg (by omega)]
  unfold ScanSays at hsn4
  rw [hsc] at hsn4
  obtain ⟨recs, p⟩ := sc
  simp only at hsn4 hov hle
  generalize hrl : recs.length = nl at *
  obtain ⟨⟨c0, c1, c2, c3⟩, f0, f1, f2, f3⟩ := hV4.cells
  go_wp2_with fail
  refine hsn4.mono ?_
  rintro e w5 ⟨A5, n5, vs, rfl, ho5, hr5, hx6⟩
  have hnl1 := ho5.2.1
  have hnl2 := ho5.2.2.1
  have hV5 := hV4.ext hx6
  have hD5 := hD4.ext hx6
  have hgs5 := hgs4.ext hx6
  have hx7 := hx5.trans hx6
  have hB4 : h + 1 + 1 + 1 < w4.heap.size := hV4.e.lt
  clear c0 c1 c2 c3 f0 f1 f2 f3 hD4 hsn4 hg4 hx6 hV4 hgs4
  obtain ⟨⟨c0, c1, c2, c3⟩, f0, f1, f2, f3⟩ := hV5.cells
  have hV6 := hV5.l_ (.slice A5 nl n5)
  have hM6 := (Mut.refl w5 (h + 1 + 1)).setCell 0 (.slice A5 nl n5)
  have hD6 := hD5.apart hV5.l (by decide) (by omega) hM6
  have ho6 := ho5.below hM6 (by omega)
  have hr6 := hr5.mut hV5.l (by decide) hM6
  have hgs6 := hgs5.mut hV5.l (by decide) hM6
  have hx6 : Ext w (w5.setCell ⟨h + 1 + 1, 0, none⟩ (.slice A5 nl n5)) := hx7.mut hM6 (by have := Hh.out; omega)
  have hpX : ¬ p < m := HC.out
  have hpm := hpX
  have hcd : decide (p < m) = false := by simpa using hpm
  have hm6 : Mut w g (w5.setCell ⟨h + 1 + 1, 0, none⟩ (.slice A5 nl n5)) := .of_ext hx6
  rw [if_neg hpm] at hov
  go_upto_region 14 with fail
  have hV8 := hV6
  have hD8 := hD6
  have ho8 := ho6
  have hr8 := hr6
  have hgs8 := hgs6
  have hm8 := hm6
  rw [← hov] at hD8
  generalize w5.setCell ⟨h + 1 + 1, 0, none⟩ (.slice A5 nl n5) = w8 at *
  clear hV6 hM6 hD6 ho6 hr6 hx6 c0 c1 c2 c3 f0 f1 f2 f3 hgs6 hm6 hV5 hD5 hgs5 ho5 hr5 hx7
  obtain ⟨⟨c0, c1, c2, c3⟩, f0, f1, f2, f3⟩ := hV8.cells
  obtain ⟨⟨d0, d1, d2, d3⟩, g0, g1, g2, g3⟩ := (hV8.ext ((Ext.refl w8).alloc (.cells #[.pointer (some ⟨g, 0, none⟩), .int .i64 (nl : Int)] 66))).cells
  go_region
  go_wp2_with fail
  have hxa := (Ext.refl w8).alloc (.cells #[.pointer (some ⟨g, 0, none⟩), .int .i64 (nl : Int)] 66)
  have hBJ := Blk.new w8 66 #[.pointer (some ⟨g, 0, none⟩), .int .i64 (nl : Int)]
  have hq : w.heap.size ≤ w8.heap.size := hm8.size
  have hhq : h < w8.heap.size := hV8.j.lt
  have hVa := hV8.ext hxa
  have hVb := hVa.j_ (.pointer (some ⟨w8.heap.size, 0, none⟩))
  have hMb := (Mut.refl (w8.alloc (.cells #[.pointer (some ⟨g, 0, none⟩), .int .i64 (nl : Int)] 66)) h).setCell 0 (.pointer (some ⟨w8.heap.size, 0, none⟩))
  rw [hVb.s.same, hVb.l.same, hVb.e.same]
  have hDb := (hD8.ext hxa).apart hVa.j (by decide) (by omega) hMb
  have hob := (ho8.ext hxa).below hMb (by omega)
  have hrb := (hr8.ext hxa).mut hVa.j (by decide) hMb
  have hgb := (hgs8.ext hxa).mut hVa.j (by decide) hMb
  have hJb := hBJ.mut hMb (by omega)
  have hmb := (hm8.ext hxa).grown hMb (fun k hk => by injection hk with hk; right; have := Hh.out; omega)
  generalize (w8.alloc (.cells #[.pointer (some ⟨g, 0, none⟩), .int .i64 (nl : Int)] 66)).setCell ⟨h, 0, none⟩ (.pointer (some ⟨w8.heap.size, 0, none⟩)) = w9 at *
  generalize w8.heap.size = q at *
  have hxd := (Ext.refl w9).drew
  replace hVb := hVb.ext hxd
  clear c0 c1 c2 c3 f0 f1 f2 f3 d0 d1 d2 d3 g0 g1 g2 g3 hVa hMb hBJ hxa hV8 hD8 ho8 hr8 hm8 hgs8
  obtain ⟨⟨k0, k1, k2, k3⟩, -, -, -, -⟩ := hVb.cells
  refine leaves_cons (f := 37) (args := #[.pointer (some ⟨h + 1 + 1 + 1, 0, none⟩), .pointer (some ⟨h, 0, none⟩), .pointer (some ⟨h + 1, 0, none⟩), .pointer (some ⟨h + 1 + 1, 0, none⟩)]) (by simp) (by simp [go_sem]) ?_
  refine (cls_ok _ _ _ _ w9.drew k3).mono ?_
  rintro e u' w10 ⟨rfl, rfl, rfl⟩
  have hfin : OpenSays w g d (.returned (.tuple #[.pointer (some ⟨q, 0, none⟩), .slice A3 ms n3, .slice A5 nl n5, .int .i64 0])) w9.drew :=
    ⟨q, _, _, _, A5, nl, n5, rfl, hq, hJb.ext hxd, hgb.ext hxd, Hms.out, by rw [hsc]; exact rows_of (hob.ext hxd) (hrb.ext hxd), by rw [hsc]; exact hrl.symm, hDb.ext hxd, hmb.drew⟩
  simp only [World.cell?_drew] at k0 k1 k2 k3
  simp [Leaves, settle, results, Try.results26, go_sem, k0, k1, k2, k3]
  exact hfin
end Go.Proofs.Ytpgndejmhegklaa
