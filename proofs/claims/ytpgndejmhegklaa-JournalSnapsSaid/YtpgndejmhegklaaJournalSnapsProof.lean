/-
  JournalSnaps returns true for every input, and leaves its arguments as they were. No condition.
-/
import Derived.Test.YtpgndejmhegklaaRows
import Derived.Test.YtpgndejmhegklaaJSnaps
import Derived.Test.YtpgndejmhegklaaFrOpen
import Derived.WalkKit
import Derived.ProofKit
import Derived.OpenShut
import Derived.ShutString
import Derived.ChangeOld
import Derived.Below
namespace Go.Proofs.Ytpgndejmhegklaa.journalSnaps
open Go.ChangeShapes Go.WideShapes Go.ChangeAt Go.RowKit
open Go.ChangeMaps (open_string shut_string)
set_option linter.unusedVariables false

theorem own : ownKnob Try.prog.godebug = none := by kernel_rfl
theorem laidOut : laidOutB Try.prog = true := by kernel_rfl

/-- The walk: the Go text returns true, and writes nothing that was there. -/
theorem walk (A0 : Option Addr) (n0 c0 : Nat) (rs0 : List (List Nat)) (a1 : Int) (w : World) (hz0 : Rws w A0 n0 rs0) (hc0 : n0 ≤ c0) (hm0 : c0 ≤ maxLen) (hw0 : ∀ r ∈ rs0, ∀ x ∈ r, x < 256) (w1 : (Lit.int .i64 a1).wf = true) :
    Calls Try.prog 10 #[.slice A0 n0 c0, .int .i64 a1] w fun e w' => e = .returned (.bool true) ∧ Below w.heap.size w w' := by
  exact jsnaps_walk A0 n0 c0 rs0 a1 w hz0 hc0 hm0 hw0 (int_of_wf w1)

set_option maxRecDepth 100000 in
theorem lifted (os : Os) (started : os.Started) (H : Type) (enc : TypeId × Value → H) :
    ReturnsInHanded {} Try.checked os 10 .any (Rows.journalSnapsSpec.pre6 enc Try.prog Try.f10 Rows.journalSnapsRow.domain false) (Rows.journalSnapsSpec.post enc Try.prog Try.f10 false true false false) := by
  refine returnsInHanded_of_change (C := Try.checked) own started (by kernel_rfl) Try.func10
    (ChangeSpec.witness6 (enc := enc) (C := Try.checked) false ⟨#[], #[.slice none 0 0, .int .i64 0], []⟩ 8 (by kernel_rfl) (by kernel_rfl) (by kernel_rfl) (by kernel_rfl)) ?_
  intro W base args ds gs before hval0 hW hcnd _
  have hval : ∀ (j : Nat) t v, Try.f10.params[j]? = some t → args[j]? = some v → Value.okWide Try.prog W .any base t v := hval0
  have hW' := hW
  obtain ⟨p, q, hA0, hV, rfl, hfz, hnd⟩ := hW
  have hA : DataW.TrodAll enc Try.prog W 0 (fun _ => true) true Try.f10.params.toList args.toList ds p := hA0
  rw [Try.params10] at hA hval
  obtain ⟨v0, vs0, d0, ds0, p0, q0, hargs, rfl, rfl, h0, r0⟩ := trodAll_cons hA
  obtain ⟨v1, vs1, d1, ds1, p1, q1, rfl, rfl, rfl, h1, r1⟩ := trodAll_cons r0
  obtain ⟨rfl, rfl, rfl⟩ := trodAll_nil r1
  obtain rfl : args = #[v0, v1] := by cases args; simp_all
  obtain ⟨rfl, rfl⟩ := trodVars_none hV
  obtain ⟨A0, n0, c0, rfl⟩ := okWide_slice Try.underlying23 (hval 0 23 v0 rfl rfl)
  have k0 := h0
  have lt0 : ∀ x ∈ p0, x.block < W.heap.size := by obtain ⟨m, hm⟩ := k0; exact DataW.trod_lt m _ _ _ hm
  obtain ⟨rs0, hc0, hm0, hz0, hw0⟩ : ∃ rs, n0 ≤ c0 ∧ c0 ≤ maxLen ∧ Rws W A0 n0 rs ∧ ∀ r ∈ rs, ∀ x ∈ r, x < 256 := by
    obtain ⟨fuel, hf⟩ := h0
    obtain ⟨A, k, c, rs, hv, g1, g2, g3, g4⟩ := rows_open (by simpa [Value.cells] using hf)
    injection hv with e1 e2 e3
    subst e1 e2 e3
    exact ⟨rs, g1, g2, g3, g4⟩
  obtain ⟨a1, rfl, rfl, rfl, w1⟩ := open_int Try.underlying3 (hval 1 3 v1 rfl rfl) h1
  clear hA0 hval0
  refine (walk A0 n0 c0 rs0 a1 W hz0 hc0 hm0 hw0 w1).mono fun e W' ⟨he, bel⟩ => ?_
  subst he
  exact ⟨_, rfl, _, _, _, [], _, [], hW', trodAll_mk1 (shut_bool Try.underlying4 _), (trodAll_cons_mk (Below.trod laidOut (by kernel_rfl) (of_decide_eq_true (by kernel_rfl)) k0 bel lt0) (trodAll_cons_mk (shut_int Try.underlying3 w1) trodAll_mk0)), rfl, bel.frame _, fun h => by cases h⟩

theorem over : Rows.journalSnapsRow.holds Try.pinned (OpenSpec.ofChange Rows.journalSnapsSpec) :=
  OpenClaim.holds_of_wide 10 Try.f10 rfl rfl rfl rfl rfl rfl rfl ⟨rfl, rfl, rfl, rfl, rfl⟩ rfl rfl rfl rfl rfl (by kernel_rfl) Try.func10 (by kernel_rfl)
    (of_decide_eq_true (by kernel_rfl)) (by unfold Func.isWrapper; first | (rw [if_pos (by decide +kernel)]; kernel_rfl) | (rw [if_neg (by decide +kernel)]; exact ⟨rfl, rfl⟩))
    (fun os started H enc _ => lifted os started H enc)

/-- The statement. -/
theorem proved : Rows.JournalSnapsSaid := over
#print axioms proved
end Go.Proofs.Ytpgndejmhegklaa.journalSnaps
