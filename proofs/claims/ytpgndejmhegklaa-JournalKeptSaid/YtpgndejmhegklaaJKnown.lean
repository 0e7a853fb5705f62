/- The journal: Count; what every statement of chapter 5 asks first. -/
import Derived.Test.YtpgndejmhegklaaJour5
namespace Go.Proofs.Ytpgndejmhegklaa
set_option linter.unusedVariables false
open Go.RowKit

set_option maxHeartbeats 400000 in
theorem count_any (q g n : Nat) (w : World) (hJ : JourAt w q g n) :
    Calls Try.prog 30 #[.pointer (some ⟨q, 0, none⟩)] w fun e w' => e = .returned (.int .i64 (n : Int)) ∧ w' = w := by
  have k1 : w.cell? ⟨q, 1, none⟩ = some (.int .i64 (n : Int)) := Blk.cell hJ 1
  clear hJ
  go_enter Try.func30, Try.ntmps30
  go_wp2_with fail
  go_ret
  exact ⟨rfl, rfl⟩
theorem open_new (room : Nat) : openV (Dsk.mk0 room) = Dsk.mk0 room := by
  unfold openV
  rw [if_neg (by simp [Dsk.mk0])]
theorem scan_nil : scanL [] = ([], 0) := scanL_stop (by decide)
set_option maxHeartbeats 1000000 in
theorem known5 (w : World) : Calls Try.prog 24 #[] w fun e w' => e = .returned (.bool true) ∧ Ext w w' := by
  go_enter Try.func24, Try.ntmps24
  go_wp2_with fail
  refine (new_any 1000 w (by omega) (by omega)).mono ?_
  rintro e w1 ⟨rfl, hD1, hx1⟩
  have ho := open_ok w.heap.size (Dsk.mk0 1000) w1 hD1 rfl rfl (by simp [Dsk.mk0]) (by simp [Dsk.mk0]) (.inl rfl)
  go_wp2_with fail
  refine ho.mono ?_
  rintro e w2 ⟨q, As, ms, cs, Al, nl, cl, rfl, hq, hJ, hg, rfl, hr, rfl, hD2, hM2⟩
  rw [show (scanL (Dsk.mk0 1000).log).1 = [] by rw [show (Dsk.mk0 1000).log = [] from rfl, scan_nil]] at *
  have hb : (oneB (Dsk.mk0 1000).snap).length = 0 := rfl
  rw [hb] at *
  have hc := count_any q w.heap.size 0 w2 hJ
  clear ho
  go_wp2_with fail
  refine hc.mono ?_
  rintro e w' ⟨rfl, rfl⟩
  go_wp2_with fail
  go_ret
  exact ⟨rfl, hx1.mut hM2 (Nat.le_refl _)⟩
end Go.Proofs.Ytpgndejmhegklaa
