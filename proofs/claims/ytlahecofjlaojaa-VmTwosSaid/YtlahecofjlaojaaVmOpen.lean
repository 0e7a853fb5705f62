/- Arguments that were read are numbers of 64 bits. -/
import Derived.Test.YtlahecofjlaojaaVmRun
import Derived.ProofKit
namespace Go.Proofs.Ytlahecofjlaojaa
set_option linter.unusedVariables false
open Go.RowKit
theorem i64_of_wf {a : Int} (h : (Lit.int .i64 a).wf = true) : I64 a := by
  simp [Lit.wf, IntKind.min, IntKind.max, IntKind.signed, IntKind.bits] at h
  unfold I64
  omega
theorem i64s_of_wf {zs : List Int} (h : ∀ x ∈ zs, (Lit.int .i64 x).wf = true) : ∀ x ∈ zs, I64 x := fun x hx => i64_of_wf (h x hx)
theorem byte_of_wf {a : Int} (h : (Lit.int .u8 a).wf = true) : ∃ k : Nat, a = (k : Int) ∧ k < 256 := by
  have : 0 ≤ a ∧ a ≤ 255 := by
    simp [Lit.wf, IntKind.min, IntKind.max, IntKind.signed, IntKind.bits] at h
    omega
  exact ⟨a.toNat, by omega, by omega⟩
theorem nats_of_wf {zs : List Int} (h : ∀ x ∈ zs, (Lit.int .u8 x).wf = true) : zs = (zs.map Int.toNat).map Int.ofNat ∧ ∀ x ∈ zs.map Int.toNat, x < 256 := by
  refine ⟨?_, ?_⟩
  · rw [List.map_map]
    conv => lhs; rw [← List.map_id zs]
    refine List.map_congr_left fun x hx => ?_
    obtain ⟨k, rfl, _⟩ := byte_of_wf (h x hx)
    rfl
  · intro x hx
    obtain ⟨y, hy, rfl⟩ := List.mem_map.1 hx
    obtain ⟨k, rfl, hk⟩ := byte_of_wf (h y hy)
    exact hk
theorem bytes_of_nums {w : World} {A : Option Addr} {n : Nat} {zs : List Int} (hz : Nums .u8 w A n zs) (hw : ∀ x ∈ zs, (Lit.int .u8 x).wf = true) : ∃ bs, Bytes w A n bs ∧ ∀ x ∈ bs, x < 256 := by
  obtain ⟨h1, h2⟩ := nats_of_wf hw
  refine ⟨zs.map Int.toNat, ?_, h2⟩
  unfold Bytes
  rw [← h1]
  exact hz
end Go.Proofs.Ytlahecofjlaojaa
