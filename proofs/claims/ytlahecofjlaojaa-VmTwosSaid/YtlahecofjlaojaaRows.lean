/-
  No cell of these rows narrows 'for every input' (looked for: loops, veiled, ifaces, maps, wideKeys, modest, calm, conditions, laid).
  DERIVED. THE GIVEN ROWS OF THIS SEAT. 11 by the template 'for every input the law returns true; each argument reads behind the call as it read before'; 0 by the template 'total and deterministic' (their statements: YtlahecofjlaojaaTotals.lean).
  GIVEN WITH THE SEED: the statements are not yours to turn. If you find one false, say at which input.
  Laid BY PROGRAM, IN A SANDBOX (cutbox-rows.mjs): the forced cells as the released guide's own fill.sh prints them over the translation fc0f4d2d7bd4c8e6… (all of the seat's roots in one cut). By AI agents, Wed Nov 11 2026. No macro, syntax, notation, axiom, sorry.
-/
import Derived.Test.YtlahecofjlaojaaChecked
import GoSem.Claim
import GoSem.ClaimJoined
import GoSem.ClaimMapViews
import Derived.JoinedTies
import Derived.KernelRfl
namespace Go.Proofs.Ytlahecofjlaojaa
/- THE CELL 'sum', in the pinned program and in every row, IS THE sha256 OF THE DUMP (.gsa) THAT YtlahecofjlaojaaProg.lean LOADS. Nothing in Lean hashes anything: it is a label: what it is worth is what the hold of that sum in a sandbox is worth. -/
noncomputable def Try.pinned : Pinned := { name := "ytlahecofjlaojaa", sum := "fc0f4d2d7bd4c8e6d1a71aec48e4fc9011a7e27a43f92944f28e143e1091f3f5", checked := Try.checked }
namespace Rows
def none {H : Type} : Left H := { results := [], args := [] }

/-- 'capstanlaw6.VmRuns': WHATEVER THE INPUT: true; the input reads as it did. -/
def vmRunsSpec : ChangeSpec := { name := "vmRuns", fn := fun _ => fun
  | [d1, d2, d3, d4, d5] => { results := [.lit (.bool true)], args := [d1, d2, d3, d4, d5] }
  | _ => none }
def vmRunsRow : OpenClaim := { program := "ytlahecofjlaojaa", sum := "fc0f4d2d7bd4c8e6d1a71aec48e4fc9011a7e27a43f92944f28e143e1091f3f5", func := "capstan/capstanlaw6.VmRuns", spec := "vmRuns", apart := false }
def VmRunsSaid : Prop := vmRunsRow.holds Try.pinned (OpenSpec.ofChange vmRunsSpec)

/-- ITS FALSE NEIGHBOUR: 'it returns false'. Refute it at one input. -/
def vmRunsWrong : ChangeSpec := { name := "vmRuns", fn := fun _ => fun
  | [d1, d2, d3, d4, d5] => { results := [.lit (.bool false)], args := [d1, d2, d3, d4, d5] }
  | _ => none }
def VmRunsWrongFalsely : Prop := vmRunsRow.holds Try.pinned (OpenSpec.ofChange vmRunsWrong)

/-- 'capstanlaw6.VmTwos': WHATEVER THE INPUT: true; the input reads as it did. -/
def vmTwosSpec : ChangeSpec := { name := "vmTwos", fn := fun _ => fun
  | [d1, d2, d3] => { results := [.lit (.bool true)], args := [d1, d2, d3] }
  | _ => none }
def vmTwosRow : OpenClaim := { program := "ytlahecofjlaojaa", sum := "fc0f4d2d7bd4c8e6d1a71aec48e4fc9011a7e27a43f92944f28e143e1091f3f5", func := "capstan/capstanlaw6.VmTwos", spec := "vmTwos", apart := false }
def VmTwosSaid : Prop := vmTwosRow.holds Try.pinned (OpenSpec.ofChange vmTwosSpec)

/-- ITS FALSE NEIGHBOUR: 'it returns false'. Refute it at one input. -/
def vmTwosWrong : ChangeSpec := { name := "vmTwos", fn := fun _ => fun
  | [d1, d2, d3] => { results := [.lit (.bool false)], args := [d1, d2, d3] }
  | _ => none }
def VmTwosWrongFalsely : Prop := vmTwosRow.holds Try.pinned (OpenSpec.ofChange vmTwosWrong)

/-- 'capstanlaw6.VmOnes': WHATEVER THE INPUT: true; the input reads as it did. -/
def vmOnesSpec : ChangeSpec := { name := "vmOnes", fn := fun _ => fun
  | [d] => { results := [.lit (.bool true)], args := [d] }
  | _ => none }
def vmOnesRow : OpenClaim := { program := "ytlahecofjlaojaa", sum := "fc0f4d2d7bd4c8e6d1a71aec48e4fc9011a7e27a43f92944f28e143e1091f3f5", func := "capstan/capstanlaw6.VmOnes", spec := "vmOnes", apart := false }
def VmOnesSaid : Prop := vmOnesRow.holds Try.pinned (OpenSpec.ofChange vmOnesSpec)

/-- ITS FALSE NEIGHBOUR: 'it returns false'. Refute it at one input. -/
def vmOnesWrong : ChangeSpec := { name := "vmOnes", fn := fun _ => fun
  | [d] => { results := [.lit (.bool false)], args := [d] }
  | _ => none }
def VmOnesWrongFalsely : Prop := vmOnesRow.holds Try.pinned (OpenSpec.ofChange vmOnesWrong)

/-- 'capstanlaw6.VmLoops': WHATEVER THE INPUT: true; the input reads as it did. -/
def vmLoopsSpec : ChangeSpec := { name := "vmLoops", fn := fun _ => fun
  | [d1, d2, d3] => { results := [.lit (.bool true)], args := [d1, d2, d3] }
  | _ => none }
def vmLoopsRow : OpenClaim := { program := "ytlahecofjlaojaa", sum := "fc0f4d2d7bd4c8e6d1a71aec48e4fc9011a7e27a43f92944f28e143e1091f3f5", func := "capstan/capstanlaw6.VmLoops", spec := "vmLoops", apart := false }
def VmLoopsSaid : Prop := vmLoopsRow.holds Try.pinned (OpenSpec.ofChange vmLoopsSpec)

/-- ITS FALSE NEIGHBOUR: 'it returns false'. Refute it at one input. -/
def vmLoopsWrong : ChangeSpec := { name := "vmLoops", fn := fun _ => fun
  | [d1, d2, d3] => { results := [.lit (.bool false)], args := [d1, d2, d3] }
  | _ => none }
def VmLoopsWrongFalsely : Prop := vmLoopsRow.holds Try.pinned (OpenSpec.ofChange vmLoopsWrong)

/-- 'capstanlaw6.VmCounts': WHATEVER THE INPUT: true; the input reads as it did. -/
def vmCountsSpec : ChangeSpec := { name := "vmCounts", fn := fun _ => fun
  | [d1, d2] => { results := [.lit (.bool true)], args := [d1, d2] }
  | _ => none }
def vmCountsRow : OpenClaim := { program := "ytlahecofjlaojaa", sum := "fc0f4d2d7bd4c8e6d1a71aec48e4fc9011a7e27a43f92944f28e143e1091f3f5", func := "capstan/capstanlaw6.VmCounts", spec := "vmCounts", apart := false }
def VmCountsSaid : Prop := vmCountsRow.holds Try.pinned (OpenSpec.ofChange vmCountsSpec)

/-- ITS FALSE NEIGHBOUR: 'it returns false'. Refute it at one input. -/
def vmCountsWrong : ChangeSpec := { name := "vmCounts", fn := fun _ => fun
  | [d1, d2] => { results := [.lit (.bool false)], args := [d1, d2] }
  | _ => none }
def VmCountsWrongFalsely : Prop := vmCountsRow.holds Try.pinned (OpenSpec.ofChange vmCountsWrong)

/-- 'capstanlaw6.VmPushes': WHATEVER THE INPUT: true; the input reads as it did. -/
def vmPushesSpec : ChangeSpec := { name := "vmPushes", fn := fun _ => fun
  | [d1, d2, d3] => { results := [.lit (.bool true)], args := [d1, d2, d3] }
  | _ => none }
def vmPushesRow : OpenClaim := { program := "ytlahecofjlaojaa", sum := "fc0f4d2d7bd4c8e6d1a71aec48e4fc9011a7e27a43f92944f28e143e1091f3f5", func := "capstan/capstanlaw6.VmPushes", spec := "vmPushes", apart := false }
def VmPushesSaid : Prop := vmPushesRow.holds Try.pinned (OpenSpec.ofChange vmPushesSpec)

/-- ITS FALSE NEIGHBOUR: 'it returns false'. Refute it at one input. -/
def vmPushesWrong : ChangeSpec := { name := "vmPushes", fn := fun _ => fun
  | [d1, d2, d3] => { results := [.lit (.bool false)], args := [d1, d2, d3] }
  | _ => none }
def VmPushesWrongFalsely : Prop := vmPushesRow.holds Try.pinned (OpenSpec.ofChange vmPushesWrong)

/-- 'capstanlaw6.VmJumps': WHATEVER THE INPUT: true; the input reads as it did. -/
def vmJumpsSpec : ChangeSpec := { name := "vmJumps", fn := fun _ => fun
  | [d1, d2, d3] => { results := [.lit (.bool true)], args := [d1, d2, d3] }
  | _ => none }
def vmJumpsRow : OpenClaim := { program := "ytlahecofjlaojaa", sum := "fc0f4d2d7bd4c8e6d1a71aec48e4fc9011a7e27a43f92944f28e143e1091f3f5", func := "capstan/capstanlaw6.VmJumps", spec := "vmJumps", apart := false }
def VmJumpsSaid : Prop := vmJumpsRow.holds Try.pinned (OpenSpec.ofChange vmJumpsSpec)

/-- ITS FALSE NEIGHBOUR: 'it returns false'. Refute it at one input. -/
def vmJumpsWrong : ChangeSpec := { name := "vmJumps", fn := fun _ => fun
  | [d1, d2, d3] => { results := [.lit (.bool false)], args := [d1, d2, d3] }
  | _ => none }
def VmJumpsWrongFalsely : Prop := vmJumpsRow.holds Try.pinned (OpenSpec.ofChange vmJumpsWrong)

/-- 'capstanlaw6.VmStacks': WHATEVER THE INPUT: true; the input reads as it did. -/
def vmStacksSpec : ChangeSpec := { name := "vmStacks", fn := fun _ => fun
  | [d1, d2] => { results := [.lit (.bool true)], args := [d1, d2] }
  | _ => none }
def vmStacksRow : OpenClaim := { program := "ytlahecofjlaojaa", sum := "fc0f4d2d7bd4c8e6d1a71aec48e4fc9011a7e27a43f92944f28e143e1091f3f5", func := "capstan/capstanlaw6.VmStacks", spec := "vmStacks", apart := false }
def VmStacksSaid : Prop := vmStacksRow.holds Try.pinned (OpenSpec.ofChange vmStacksSpec)

/-- ITS FALSE NEIGHBOUR: 'it returns false'. Refute it at one input. -/
def vmStacksWrong : ChangeSpec := { name := "vmStacks", fn := fun _ => fun
  | [d1, d2] => { results := [.lit (.bool false)], args := [d1, d2] }
  | _ => none }
def VmStacksWrongFalsely : Prop := vmStacksRow.holds Try.pinned (OpenSpec.ofChange vmStacksWrong)

/-- 'capstanlaw6.VmGas': WHATEVER THE INPUT: true; the input reads as it did. -/
def vmGasSpec : ChangeSpec := { name := "vmGas", fn := fun _ => fun
  | [d1, d2, d3] => { results := [.lit (.bool true)], args := [d1, d2, d3] }
  | _ => none }
def vmGasRow : OpenClaim := { program := "ytlahecofjlaojaa", sum := "fc0f4d2d7bd4c8e6d1a71aec48e4fc9011a7e27a43f92944f28e143e1091f3f5", func := "capstan/capstanlaw6.VmGas", spec := "vmGas", apart := false }
def VmGasSaid : Prop := vmGasRow.holds Try.pinned (OpenSpec.ofChange vmGasSpec)

/-- ITS FALSE NEIGHBOUR: 'it returns false'. Refute it at one input. -/
def vmGasWrong : ChangeSpec := { name := "vmGas", fn := fun _ => fun
  | [d1, d2, d3] => { results := [.lit (.bool false)], args := [d1, d2, d3] }
  | _ => none }
def VmGasWrongFalsely : Prop := vmGasRow.holds Try.pinned (OpenSpec.ofChange vmGasWrong)

/-- 'capstanlaw6.VmBad': WHATEVER THE INPUT: true; the input reads as it did. -/
def vmBadSpec : ChangeSpec := { name := "vmBad", fn := fun _ => fun
  | [d1, d2, d3] => { results := [.lit (.bool true)], args := [d1, d2, d3] }
  | _ => none }
def vmBadRow : OpenClaim := { program := "ytlahecofjlaojaa", sum := "fc0f4d2d7bd4c8e6d1a71aec48e4fc9011a7e27a43f92944f28e143e1091f3f5", func := "capstan/capstanlaw6.VmBad", spec := "vmBad", apart := false }
def VmBadSaid : Prop := vmBadRow.holds Try.pinned (OpenSpec.ofChange vmBadSpec)

/-- ITS FALSE NEIGHBOUR: 'it returns false'. Refute it at one input. -/
def vmBadWrong : ChangeSpec := { name := "vmBad", fn := fun _ => fun
  | [d1, d2, d3] => { results := [.lit (.bool false)], args := [d1, d2, d3] }
  | _ => none }
def VmBadWrongFalsely : Prop := vmBadRow.holds Try.pinned (OpenSpec.ofChange vmBadWrong)

/-- 'capstanlaw6.VmTwins': WHATEVER THE INPUT: true; the input reads as it did. -/
def vmTwinsSpec : ChangeSpec := { name := "vmTwins", fn := fun _ => fun
  | [d1, d2, d3, d4] => { results := [.lit (.bool true)], args := [d1, d2, d3, d4] }
  | _ => none }
def vmTwinsRow : OpenClaim := { program := "ytlahecofjlaojaa", sum := "fc0f4d2d7bd4c8e6d1a71aec48e4fc9011a7e27a43f92944f28e143e1091f3f5", func := "capstan/capstanlaw6.VmTwins", spec := "vmTwins", apart := false }
def VmTwinsSaid : Prop := vmTwinsRow.holds Try.pinned (OpenSpec.ofChange vmTwinsSpec)

/-- ITS FALSE NEIGHBOUR: 'it returns false'. Refute it at one input. -/
def vmTwinsWrong : ChangeSpec := { name := "vmTwins", fn := fun _ => fun
  | [d1, d2, d3, d4] => { results := [.lit (.bool false)], args := [d1, d2, d3, d4] }
  | _ => none }
def VmTwinsWrongFalsely : Prop := vmTwinsRow.holds Try.pinned (OpenSpec.ofChange vmTwinsWrong)

/- THE SECOND FORM. 'bulk': how many values and letters a reading holds, each counted each time it is reached (what is shared counts as often as it is met; a slice's spare places count too). A statement '..UptoSaid' is the law's where the arguments, and the package variables that the reading takes, are together of bulk at most 1048576: NARROWER than '..Said'. Prove '..Said' where nothing that the law and all that it calls make is longer than what came in: it says more and counts as full. Else prove '..UptoSaid'. A law counts once. -/
mutual
def uptoBulk {H : Type} : DataW H → Nat
  | .lit (.string bytes) => bytes.length + 1
  | .lit _ => 1
  | .nil => 1
  | .ptr d => uptoBulk d + 1
  | .slice elems spare => uptoBulkAll elems + uptoBulkAll spare + 1
  | .agg parts => uptoBulkAll parts + 1
  | .iface _ d => uptoBulk d + 1
  | .map entries => uptoBulkEntries entries + 1
  | .held _ => 1
def uptoBulkAll {H : Type} : List (DataW H) → Nat
  | [] => 0
  | d :: r => uptoBulk d + uptoBulkAll r
def uptoBulkEntries {H : Type} : List (Lit × DataW H) → Nat
  | [] => 0
  | x :: r => uptoBulkEntry x + uptoBulkEntries r
def uptoBulkEntry {H : Type} : Lit × DataW H → Nat
  | (.string bytes, d) => bytes.length + uptoBulk d + 1
  | (_, d) => uptoBulk d + 1
 end
def uptoSmall : (H : Type) → List (DataW H) → Bool := fun _ ds => decide (uptoBulkAll ds ≤ 1048576)
def OpenSpec.upto (s : _root_.Go.ChangeSpec) : _root_.Go.OpenSpec := { _root_.Go.OpenSpec.ofChange s with cond := some uptoSmall }

/-- 'capstanlaw6.VmRuns', WHERE WHAT IT READS IS OF BULK AT MOST 1048576: true; the input reads as it did. -/
def vmRunsUptoRow : OpenClaim := { program := "ytlahecofjlaojaa", sum := "fc0f4d2d7bd4c8e6d1a71aec48e4fc9011a7e27a43f92944f28e143e1091f3f5", func := "capstan/capstanlaw6.VmRuns", spec := "vmRuns", apart := false, narrowed := true }
def VmRunsUptoSaid : Prop := vmRunsUptoRow.holds Try.pinned (OpenSpec.upto vmRunsSpec)

/-- 'capstanlaw6.VmTwos', WHERE WHAT IT READS IS OF BULK AT MOST 1048576: true; the input reads as it did. -/
def vmTwosUptoRow : OpenClaim := { program := "ytlahecofjlaojaa", sum := "fc0f4d2d7bd4c8e6d1a71aec48e4fc9011a7e27a43f92944f28e143e1091f3f5", func := "capstan/capstanlaw6.VmTwos", spec := "vmTwos", apart := false, narrowed := true }
def VmTwosUptoSaid : Prop := vmTwosUptoRow.holds Try.pinned (OpenSpec.upto vmTwosSpec)

/-- 'capstanlaw6.VmOnes', WHERE WHAT IT READS IS OF BULK AT MOST 1048576: true; the input reads as it did. -/
def vmOnesUptoRow : OpenClaim := { program := "ytlahecofjlaojaa", sum := "fc0f4d2d7bd4c8e6d1a71aec48e4fc9011a7e27a43f92944f28e143e1091f3f5", func := "capstan/capstanlaw6.VmOnes", spec := "vmOnes", apart := false, narrowed := true }
def VmOnesUptoSaid : Prop := vmOnesUptoRow.holds Try.pinned (OpenSpec.upto vmOnesSpec)

/-- 'capstanlaw6.VmLoops', WHERE WHAT IT READS IS OF BULK AT MOST 1048576: true; the input reads as it did. -/
def vmLoopsUptoRow : OpenClaim := { program := "ytlahecofjlaojaa", sum := "fc0f4d2d7bd4c8e6d1a71aec48e4fc9011a7e27a43f92944f28e143e1091f3f5", func := "capstan/capstanlaw6.VmLoops", spec := "vmLoops", apart := false, narrowed := true }
def VmLoopsUptoSaid : Prop := vmLoopsUptoRow.holds Try.pinned (OpenSpec.upto vmLoopsSpec)

/-- 'capstanlaw6.VmCounts', WHERE WHAT IT READS IS OF BULK AT MOST 1048576: true; the input reads as it did. -/
def vmCountsUptoRow : OpenClaim := { program := "ytlahecofjlaojaa", sum := "fc0f4d2d7bd4c8e6d1a71aec48e4fc9011a7e27a43f92944f28e143e1091f3f5", func := "capstan/capstanlaw6.VmCounts", spec := "vmCounts", apart := false, narrowed := true }
def VmCountsUptoSaid : Prop := vmCountsUptoRow.holds Try.pinned (OpenSpec.upto vmCountsSpec)

/-- 'capstanlaw6.VmPushes', WHERE WHAT IT READS IS OF BULK AT MOST 1048576: true; the input reads as it did. -/
def vmPushesUptoRow : OpenClaim := { program := "ytlahecofjlaojaa", sum := "fc0f4d2d7bd4c8e6d1a71aec48e4fc9011a7e27a43f92944f28e143e1091f3f5", func := "capstan/capstanlaw6.VmPushes", spec := "vmPushes", apart := false, narrowed := true }
def VmPushesUptoSaid : Prop := vmPushesUptoRow.holds Try.pinned (OpenSpec.upto vmPushesSpec)

/-- 'capstanlaw6.VmJumps', WHERE WHAT IT READS IS OF BULK AT MOST 1048576: true; the input reads as it did. -/
def vmJumpsUptoRow : OpenClaim := { program := "ytlahecofjlaojaa", sum := "fc0f4d2d7bd4c8e6d1a71aec48e4fc9011a7e27a43f92944f28e143e1091f3f5", func := "capstan/capstanlaw6.VmJumps", spec := "vmJumps", apart := false, narrowed := true }
def VmJumpsUptoSaid : Prop := vmJumpsUptoRow.holds Try.pinned (OpenSpec.upto vmJumpsSpec)

/-- 'capstanlaw6.VmStacks', WHERE WHAT IT READS IS OF BULK AT MOST 1048576: true; the input reads as it did. -/
def vmStacksUptoRow : OpenClaim := { program := "ytlahecofjlaojaa", sum := "fc0f4d2d7bd4c8e6d1a71aec48e4fc9011a7e27a43f92944f28e143e1091f3f5", func := "capstan/capstanlaw6.VmStacks", spec := "vmStacks", apart := false, narrowed := true }
def VmStacksUptoSaid : Prop := vmStacksUptoRow.holds Try.pinned (OpenSpec.upto vmStacksSpec)

/-- 'capstanlaw6.VmGas', WHERE WHAT IT READS IS OF BULK AT MOST 1048576: true; the input reads as it did. -/
def vmGasUptoRow : OpenClaim := { program := "ytlahecofjlaojaa", sum := "fc0f4d2d7bd4c8e6d1a71aec48e4fc9011a7e27a43f92944f28e143e1091f3f5", func := "capstan/capstanlaw6.VmGas", spec := "vmGas", apart := false, narrowed := true }
def VmGasUptoSaid : Prop := vmGasUptoRow.holds Try.pinned (OpenSpec.upto vmGasSpec)

/-- 'capstanlaw6.VmBad', WHERE WHAT IT READS IS OF BULK AT MOST 1048576: true; the input reads as it did. -/
def vmBadUptoRow : OpenClaim := { program := "ytlahecofjlaojaa", sum := "fc0f4d2d7bd4c8e6d1a71aec48e4fc9011a7e27a43f92944f28e143e1091f3f5", func := "capstan/capstanlaw6.VmBad", spec := "vmBad", apart := false, narrowed := true }
def VmBadUptoSaid : Prop := vmBadUptoRow.holds Try.pinned (OpenSpec.upto vmBadSpec)

/-- 'capstanlaw6.VmTwins', WHERE WHAT IT READS IS OF BULK AT MOST 1048576: true; the input reads as it did. -/
def vmTwinsUptoRow : OpenClaim := { program := "ytlahecofjlaojaa", sum := "fc0f4d2d7bd4c8e6d1a71aec48e4fc9011a7e27a43f92944f28e143e1091f3f5", func := "capstan/capstanlaw6.VmTwins", spec := "vmTwins", apart := false, narrowed := true }
def VmTwinsUptoSaid : Prop := vmTwinsUptoRow.holds Try.pinned (OpenSpec.upto vmTwinsSpec)

end Rows
end Go.Proofs.Ytlahecofjlaojaa
