/- The journal: Add, Snap. -/
import Derived.Test.YtpgndejmhegklaaJKnown
import Derived.Test.YtpgndejmhegklaaFrPlain
namespace Go.Proofs.Ytpgndejmhegklaa
set_option linter.unusedVariables false
open Go.RowKit

def addV (d : Dsk) (bs : List Nat) : Nat × Dsk := if (d.append (frameL bs)).1 = 0 then ((d.append (frameL bs)).2.sync) else d.append (frameL bs)
def snapV (d : Dsk) (bs : List Nat) : Nat × Dsk := d.swap (frameL bs)
/-- What a call that writes to the disk and the journal leaves. -/
def JSays (w0 : World) (g q : Nat) (r : Nat × Dsk) (n : Nat) (e : Ending) (w' : World) : Prop :=
  e = .returned (.int .i64 (r.1 : Int)) ∧ DiskAt w' g r.2 ∧ JourAt w' q g n ∧ Ext w0 w'
theorem jour_ne : 66 ≠ 5 := by decide
theorem JSays.mk {w0 w' : World} {g q n : Nat} {r : Nat × Dsk} {x : Int} {d : Dsk} (h1 : x = (r.1 : Int)) (h2 : d = r.2) (hD : DiskAt w' g d) (hJ : JourAt w' q g n) (he : Ext w0 w') : JSays w0 g q r n (.returned (.int .i64 x)) w' := ⟨by rw [h1], h2 ▸ hD, hJ, he⟩
theorem JourAt.count {w : World} {q g n : Nat} (h : JourAt w q g n) (m : Nat) : JourAt (w.setCell ⟨q, 1, none⟩ (.int .i64 (m : Int))) q g m := Blk.set_ h 1 _
set_option maxRecDepth 100000 in
set_option maxHeartbeats 1000000 in
theorem jadd_any (w0 : World) (q g n : Nat) (d : Dsk) (A : Option Addr) (nb cb : Nat) (bs : List Nat) (w : World) (hJ : JourAt w q g n) (hD : DiskAt w g d) (hqg : q ≠ g) (hz : Bytes w A nb bs) (hnb : nb ≤ cb) (hb : ∀ x ∈ bs, x < 256) (hn : nb ≤ 4000000) (hx : Ext w0 w) (hg0 : w0.heap.size ≤ g) (hq0 : w0.heap.size ≤ q) (hnn : n ≤ 1000000) :
    Calls Try.prog 27 #[.pointer (some ⟨q, 0, none⟩), .slice A nb cb] w fun e w' => JSays w0 g q (addV d bs) (if (addV d bs).1 = 0 then n + 1 else n) e w' := by
  have hl := Lib.hid hz.len
  obtain ⟨r, hr⟩ : ∃ r, r = addV d bs := ⟨_, rfl⟩
  rw [← hr]
  have Hr := Lib.hid hr
  clear hr
  go_enter Try.func27, Try.ntmps27
  go_wp2_with fail
  refine (frame_any A nb cb bs w hz hnb hb hn).mono ?_
  rintro e w1 ⟨A1, c1, rfl, hg1, hx1⟩
  rw [frameL_of hl.out] at hg1
  have hJ1 : JourAt w1 q g n := Blk.ext hJ hx1
  have hD1 := hD.ext hx1
  have k0 : w1.cell? ⟨q, 0, none⟩ = some (.pointer (some ⟨g, 0, none⟩)) := Blk.cell hJ1 0
  have hap := append_any g d A1 (nb + 8) c1 (frameL bs) w1 hD1 hg1.bytes (frameL_lt hb (by rw [hl.out]; omega)) hg1.le hg1.2.1
  obtain ⟨⟨a1, d1⟩, ha⟩ : ∃ a, a = d.append (frameL bs) := ⟨_, rfl⟩
  rw [← ha] at hap
  have Ha := Lib.hid ha
  clear ha hJ hD
  simp only at hap
  go_wp2_with fail
  refine hap.mono ?_
  rintro e w2 ⟨rfl, hD2, hM2⟩
  obtain ⟨AL, cL, AS, cS, hC1, -, -⟩ := hD1.raw
  have hJ2 : JourAt w2 q g n := Blk.mut hJ1 hM2 hqg
  have hx2 : Ext w0 w2 := (hx.trans hx1).mut hM2 hg0
  clear hap hJ1 hC1 hM2 hD1 k0
  by_cases h0 : a1 = 0
  · subst h0
    have k0 : w2.cell? ⟨q, 0, none⟩ = some (.pointer (some ⟨g, 0, none⟩)) := Blk.cell hJ2 0
    have hsy := sync_any g d1 w2 hD2
    have hrr : r = d1.sync := by rw [Hr.out]; unfold addV; rw [← Ha.out]; rfl
    rw [← hrr] at hsy
    have Hrr := Lib.hid hrr
    clear hrr
    go_wp2_with fail
    refine hsy.mono ?_
    rintro e w3 ⟨rfl, hD3, hM3⟩
    have hJ3 : JourAt w3 q g n := Blk.mut hJ2 hM3 hqg
    have hx3 : Ext w0 w3 := hx2.mut hM3 hg0
    clear hsy k0 hJ2 hM3 hD2
    have k1 : w3.cell? ⟨q, 1, none⟩ = some (.int .i64 (n : Int)) := Blk.cell hJ3 1
    have f1 : w3.frozen? ⟨q, 1, none⟩ = false := Blk.frozen hJ3 1
    obtain ⟨r1, r2⟩ := r
    simp only at hD3
    by_cases h1 : r1 = 0
    · subst h1
      have hJ4 := hJ3.count (n + 1)
      have hM4 := (Mut.refl w3 q).setCell 1 (.int .i64 ((n + 1 : Nat) : Int))
      have hD4 := hD3.apart hJ3 jour_ne (Ne.symm hqg) hM4
      have hx4 := hx3.mut hM4 hq0
      rw [show ((n + 1 : Nat) : Int) = (n : Int) + 1 by simp] at hJ4 hD4 hx4
      have HJ := Lib.hid hJ4
      clear hJ3 hM4 hJ4
      go_wp2_with fail
      go_ret
      exact .mk rfl rfl hD4 (by simpa using HJ.out) hx4
    · have e1 : (((r1 : Nat) : Int) == 0) = false := by simpa using h1
      have HJ := Lib.hid hJ3
      have H1 := Lib.hid h1
      clear hJ3 h1
      go_wp2_with fail
      go_ret
      exact .mk rfl rfl hD3 (by first | exact HJ.out | (rw [if_neg H1.out]; exact HJ.out)) hx3
  · have e0 : (((a1 : Nat) : Int) == 0) = false := by simpa using h0
    have hrr : r = (a1, d1) := by rw [Hr.out]; unfold addV; rw [← Ha.out, if_neg h0]
    subst hrr
    have H0 := Lib.hid h0
    clear h0
    go_wp2_with fail
    go_ret
    exact .mk rfl rfl hD2 (by first | exact hJ2 | (rw [if_neg H0.out]; exact hJ2)) hx2
set_option maxRecDepth 100000 in
set_option maxHeartbeats 1000000 in
theorem jsnap_any (w0 : World) (q g n : Nat) (d : Dsk) (A : Option Addr) (nb cb : Nat) (bs : List Nat) (w : World) (hJ : JourAt w q g n) (hD : DiskAt w g d) (hqg : q ≠ g) (hz : Bytes w A nb bs) (hnb : nb ≤ cb) (hb : ∀ x ∈ bs, x < 256) (hn : nb ≤ 4000000) (hx : Ext w0 w) (hg0 : w0.heap.size ≤ g) (hq0 : w0.heap.size ≤ q) :
    Calls Try.prog 32 #[.pointer (some ⟨q, 0, none⟩), .slice A nb cb] w fun e w' => JSays w0 g q (snapV d bs) (if (snapV d bs).1 = 0 then 0 else n) e w' := by
  have hl := Lib.hid hz.len
  obtain ⟨⟨r1, r2⟩, hr⟩ : ∃ r, r = snapV d bs := ⟨_, rfl⟩
  rw [← hr]
  have Hr := Lib.hid hr
  clear hr
  go_enter Try.func32, Try.ntmps32
  go_wp2_with fail
  refine (frame_any A nb cb bs w hz hnb hb hn).mono ?_
  rintro e w1 ⟨A1, c1, rfl, hg1, hx1⟩
  rw [frameL_of hl.out] at hg1
  have hJ1 : JourAt w1 q g n := Blk.ext hJ hx1
  have hD1 := hD.ext hx1
  have k0 : w1.cell? ⟨q, 0, none⟩ = some (.pointer (some ⟨g, 0, none⟩)) := Blk.cell hJ1 0
  have hsw := swap_any g d A1 (nb + 8) c1 (frameL bs) w1 hD1 hg1.bytes (frameL_lt hb (by rw [hl.out]; omega))
  rw [show d.swap (frameL bs) = (r1, r2) from Hr.out.symm] at hsw
  clear hJ hD
  simp only at hsw
  go_wp2_with fail
  refine hsw.mono ?_
  rintro e w3 ⟨rfl, hD3, hM3⟩
  have hJ3 : JourAt w3 q g n := Blk.mut hJ1 hM3 hqg
  have hx3 : Ext w0 w3 := (hx.trans hx1).mut hM3 hg0
  clear hsw k0 hJ1 hM3 hD1
  have k1 : w3.cell? ⟨q, 1, none⟩ = some (.int .i64 (n : Int)) := Blk.cell hJ3 1
  have f1 : w3.frozen? ⟨q, 1, none⟩ = false := Blk.frozen hJ3 1
  by_cases h1 : r1 = 0
  · subst h1
    have hJ4 := hJ3.count 0
    have hM4 := (Mut.refl w3 q).setCell 1 (.int .i64 ((0 : Nat) : Int))
    have hD4 := hD3.apart hJ3 jour_ne (Ne.symm hqg) hM4
    have hx4 := hx3.mut hM4 hq0
    have HJ := Lib.hid hJ4
    clear hJ3 hM4 hJ4
    go_wp2_with fail
    go_ret
    exact .mk rfl rfl hD4 (by simpa using HJ.out) hx4
  · have e1 : (((r1 : Nat) : Int) == 0) = false := by simpa using h1
    have HJ := Lib.hid hJ3
    have H1 := Lib.hid h1
    clear hJ3 h1
    go_wp2_with fail
    go_ret
    exact .mk rfl rfl hD3 (by first | exact HJ.out | (rw [if_neg H1.out]; exact HJ.out)) hx3
end Go.Proofs.Ytpgndejmhegklaa
