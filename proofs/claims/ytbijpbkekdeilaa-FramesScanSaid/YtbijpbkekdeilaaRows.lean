/-
  No cell of these rows narrows 'for every input' (looked for: loops, veiled, ifaces, maps, wideKeys, modest, calm, conditions, laid).
  DERIVED. THE GIVEN ROWS OF THIS SEAT. 12 by the template 'for every input the law returns true; each argument reads behind the call as it read before'; 0 by the template 'total and deterministic' (their statements: YtbijpbkekdeilaaTotals.lean).
  GIVEN WITH THE SEED: the statements are not yours to turn. If you find one false, say at which input.
  Laid BY PROGRAM, IN A SANDBOX (cutbox-rows.mjs): the forced cells as the released guide's own fill.sh prints them over the translation c4ead692910330dd… (all of the seat's roots in one cut). By AI agents, Wed Nov 11 2026. No macro, syntax, notation, axiom, sorry.
-/
import Derived.Test.YtbijpbkekdeilaaChecked
import GoSem.Claim
import GoSem.ClaimJoined
import GoSem.ClaimMapViews
import Derived.JoinedTies
import Derived.KernelRfl
namespace Go.Proofs.Ytbijpbkekdeilaa
/- THE CELL 'sum', in the pinned program and in every row, IS THE sha256 OF THE DUMP (.gsa) THAT YtbijpbkekdeilaaProg.lean LOADS. Nothing in Lean hashes anything: it is a label: what it is worth is what the hold of that sum in a sandbox is worth. -/
noncomputable def Try.pinned : Pinned := { name := "ytbijpbkekdeilaa", sum := "c4ead692910330dd8f63ea53de5758cf4acc1cc2942bf405adab1e046a617a1c", checked := Try.checked }
namespace Rows
def none {H : Type} : Left H := { results := [], args := [] }

/-- 'capstanlaw8.StatePuts': WHATEVER THE INPUT: true; the input reads as it did. -/
def statePutsSpec : ChangeSpec := { name := "statePuts", fn := fun _ => fun
  | [d1, d2, d3] => { results := [.lit (.bool true)], args := [d1, d2, d3] }
  | _ => none }
def statePutsRow : OpenClaim := { program := "ytbijpbkekdeilaa", sum := "c4ead692910330dd8f63ea53de5758cf4acc1cc2942bf405adab1e046a617a1c", func := "capstan/capstanlaw8.StatePuts", spec := "statePuts", apart := false }
def StatePutsSaid : Prop := statePutsRow.holds Try.pinned (OpenSpec.ofChange statePutsSpec)

/-- ITS FALSE NEIGHBOUR: 'it returns false'. Refute it at one input. -/
def statePutsWrong : ChangeSpec := { name := "statePuts", fn := fun _ => fun
  | [d1, d2, d3] => { results := [.lit (.bool false)], args := [d1, d2, d3] }
  | _ => none }
def StatePutsWrongFalsely : Prop := statePutsRow.holds Try.pinned (OpenSpec.ofChange statePutsWrong)

/-- 'capstanlaw8.StateSames': WHATEVER THE INPUT: true; the input reads as it did. -/
def stateSamesSpec : ChangeSpec := { name := "stateSames", fn := fun _ => fun
  | [d1, d2, d3] => { results := [.lit (.bool true)], args := [d1, d2, d3] }
  | _ => none }
def stateSamesRow : OpenClaim := { program := "ytbijpbkekdeilaa", sum := "c4ead692910330dd8f63ea53de5758cf4acc1cc2942bf405adab1e046a617a1c", func := "capstan/capstanlaw8.StateSames", spec := "stateSames", apart := false }
def StateSamesSaid : Prop := stateSamesRow.holds Try.pinned (OpenSpec.ofChange stateSamesSpec)

/-- ITS FALSE NEIGHBOUR: 'it returns false'. Refute it at one input. -/
def stateSamesWrong : ChangeSpec := { name := "stateSames", fn := fun _ => fun
  | [d1, d2, d3] => { results := [.lit (.bool false)], args := [d1, d2, d3] }
  | _ => none }
def StateSamesWrongFalsely : Prop := stateSamesRow.holds Try.pinned (OpenSpec.ofChange stateSamesWrong)

/-- 'capstanlaw3.FramesScan': WHATEVER THE INPUT: true; the input reads as it did. -/
def framesScanSpec : ChangeSpec := { name := "framesScan", fn := fun _ => fun
  | [d1, d2, d3, d4, d5] => { results := [.lit (.bool true)], args := [d1, d2, d3, d4, d5] }
  | _ => none }
def framesScanRow : OpenClaim := { program := "ytbijpbkekdeilaa", sum := "c4ead692910330dd8f63ea53de5758cf4acc1cc2942bf405adab1e046a617a1c", func := "capstan/capstanlaw3.FramesScan", spec := "framesScan", unfollowed := true, recurses := true, apart := false }
def FramesScanSaid : Prop := framesScanRow.holds Try.pinned (OpenSpec.ofChange framesScanSpec)

/-- ITS FALSE NEIGHBOUR: 'it returns false'. Refute it at one input. -/
def framesScanWrong : ChangeSpec := { name := "framesScan", fn := fun _ => fun
  | [d1, d2, d3, d4, d5] => { results := [.lit (.bool false)], args := [d1, d2, d3, d4, d5] }
  | _ => none }
def FramesScanWrongFalsely : Prop := framesScanRow.holds Try.pinned (OpenSpec.ofChange framesScanWrong)

/-- 'capstanlaw8.StateChecks': WHATEVER THE INPUT: true; the input reads as it did. -/
def stateChecksSpec : ChangeSpec := { name := "stateChecks", fn := fun _ => fun
  | [d1, d2, d3, d4] => { results := [.lit (.bool true)], args := [d1, d2, d3, d4] }
  | _ => none }
def stateChecksRow : OpenClaim := { program := "ytbijpbkekdeilaa", sum := "c4ead692910330dd8f63ea53de5758cf4acc1cc2942bf405adab1e046a617a1c", func := "capstan/capstanlaw8.StateChecks", spec := "stateChecks", apart := false }
def StateChecksSaid : Prop := stateChecksRow.holds Try.pinned (OpenSpec.ofChange stateChecksSpec)

/-- ITS FALSE NEIGHBOUR: 'it returns false'. Refute it at one input. -/
def stateChecksWrong : ChangeSpec := { name := "stateChecks", fn := fun _ => fun
  | [d1, d2, d3, d4] => { results := [.lit (.bool false)], args := [d1, d2, d3, d4] }
  | _ => none }
def StateChecksWrongFalsely : Prop := stateChecksRow.holds Try.pinned (OpenSpec.ofChange stateChecksWrong)

/-- 'capstanlaw8.StateBounds': WHATEVER THE INPUT: true; the input reads as it did. -/
def stateBoundsSpec : ChangeSpec := { name := "stateBounds", fn := fun _ => fun
  | [d1, d2] => { results := [.lit (.bool true)], args := [d1, d2] }
  | _ => none }
def stateBoundsRow : OpenClaim := { program := "ytbijpbkekdeilaa", sum := "c4ead692910330dd8f63ea53de5758cf4acc1cc2942bf405adab1e046a617a1c", func := "capstan/capstanlaw8.StateBounds", spec := "stateBounds", apart := false }
def StateBoundsSaid : Prop := stateBoundsRow.holds Try.pinned (OpenSpec.ofChange stateBoundsSpec)

/-- ITS FALSE NEIGHBOUR: 'it returns false'. Refute it at one input. -/
def stateBoundsWrong : ChangeSpec := { name := "stateBounds", fn := fun _ => fun
  | [d1, d2] => { results := [.lit (.bool false)], args := [d1, d2] }
  | _ => none }
def StateBoundsWrongFalsely : Prop := stateBoundsRow.holds Try.pinned (OpenSpec.ofChange stateBoundsWrong)

/-- 'capstanlaw3.FramesTurned': WHATEVER THE INPUT: true; the input reads as it did. -/
def framesTurnedSpec : ChangeSpec := { name := "framesTurned", fn := fun _ => fun
  | [d1, d2, d3] => { results := [.lit (.bool true)], args := [d1, d2, d3] }
  | _ => none }
def framesTurnedRow : OpenClaim := { program := "ytbijpbkekdeilaa", sum := "c4ead692910330dd8f63ea53de5758cf4acc1cc2942bf405adab1e046a617a1c", func := "capstan/capstanlaw3.FramesTurned", spec := "framesTurned", unfollowed := true, recurses := true, apart := false }
def FramesTurnedSaid : Prop := framesTurnedRow.holds Try.pinned (OpenSpec.ofChange framesTurnedSpec)

/-- ITS FALSE NEIGHBOUR: 'it returns false'. Refute it at one input. -/
def framesTurnedWrong : ChangeSpec := { name := "framesTurned", fn := fun _ => fun
  | [d1, d2, d3] => { results := [.lit (.bool false)], args := [d1, d2, d3] }
  | _ => none }
def FramesTurnedWrongFalsely : Prop := framesTurnedRow.holds Try.pinned (OpenSpec.ofChange framesTurnedWrong)

/-- 'capstanlaw8.StatePlays': WHATEVER THE INPUT: true; the input reads as it did. -/
def statePlaysSpec : ChangeSpec := { name := "statePlays", fn := fun _ => fun
  | [d1, d2] => { results := [.lit (.bool true)], args := [d1, d2] }
  | _ => none }
def statePlaysRow : OpenClaim := { program := "ytbijpbkekdeilaa", sum := "c4ead692910330dd8f63ea53de5758cf4acc1cc2942bf405adab1e046a617a1c", func := "capstan/capstanlaw8.StatePlays", spec := "statePlays", apart := false }
def StatePlaysSaid : Prop := statePlaysRow.holds Try.pinned (OpenSpec.ofChange statePlaysSpec)

/-- ITS FALSE NEIGHBOUR: 'it returns false'. Refute it at one input. -/
def statePlaysWrong : ChangeSpec := { name := "statePlays", fn := fun _ => fun
  | [d1, d2] => { results := [.lit (.bool false)], args := [d1, d2] }
  | _ => none }
def StatePlaysWrongFalsely : Prop := statePlaysRow.holds Try.pinned (OpenSpec.ofChange statePlaysWrong)

/-- 'capstanlaw8.StateOrder': WHATEVER THE INPUT: true; the input reads as it did. -/
def stateOrderSpec : ChangeSpec := { name := "stateOrder", fn := fun _ => fun
  | [d1, d2] => { results := [.lit (.bool true)], args := [d1, d2] }
  | _ => none }
def stateOrderRow : OpenClaim := { program := "ytbijpbkekdeilaa", sum := "c4ead692910330dd8f63ea53de5758cf4acc1cc2942bf405adab1e046a617a1c", func := "capstan/capstanlaw8.StateOrder", spec := "stateOrder", apart := false }
def StateOrderSaid : Prop := stateOrderRow.holds Try.pinned (OpenSpec.ofChange stateOrderSpec)

/-- ITS FALSE NEIGHBOUR: 'it returns false'. Refute it at one input. -/
def stateOrderWrong : ChangeSpec := { name := "stateOrder", fn := fun _ => fun
  | [d1, d2] => { results := [.lit (.bool false)], args := [d1, d2] }
  | _ => none }
def StateOrderWrongFalsely : Prop := stateOrderRow.holds Try.pinned (OpenSpec.ofChange stateOrderWrong)

/-- 'capstanlaw3.FramesWrite': WHATEVER THE INPUT: true; the input reads as it did. -/
def framesWriteSpec : ChangeSpec := { name := "framesWrite", fn := fun _ => fun
  | [d1, d2, d3, d4] => { results := [.lit (.bool true)], args := [d1, d2, d3, d4] }
  | _ => none }
def framesWriteRow : OpenClaim := { program := "ytbijpbkekdeilaa", sum := "c4ead692910330dd8f63ea53de5758cf4acc1cc2942bf405adab1e046a617a1c", func := "capstan/capstanlaw3.FramesWrite", spec := "framesWrite", unfollowed := true, recurses := true, apart := false }
def FramesWriteSaid : Prop := framesWriteRow.holds Try.pinned (OpenSpec.ofChange framesWriteSpec)

/-- ITS FALSE NEIGHBOUR: 'it returns false'. Refute it at one input. -/
def framesWriteWrong : ChangeSpec := { name := "framesWrite", fn := fun _ => fun
  | [d1, d2, d3, d4] => { results := [.lit (.bool false)], args := [d1, d2, d3, d4] }
  | _ => none }
def FramesWriteWrongFalsely : Prop := framesWriteRow.holds Try.pinned (OpenSpec.ofChange framesWriteWrong)

/-- 'capstanlaw3.FramesTorn': WHATEVER THE INPUT: true; the input reads as it did. -/
def framesTornSpec : ChangeSpec := { name := "framesTorn", fn := fun _ => fun
  | [d1, d2, d3] => { results := [.lit (.bool true)], args := [d1, d2, d3] }
  | _ => none }
def framesTornRow : OpenClaim := { program := "ytbijpbkekdeilaa", sum := "c4ead692910330dd8f63ea53de5758cf4acc1cc2942bf405adab1e046a617a1c", func := "capstan/capstanlaw3.FramesTorn", spec := "framesTorn", unfollowed := true, recurses := true, apart := false }
def FramesTornSaid : Prop := framesTornRow.holds Try.pinned (OpenSpec.ofChange framesTornSpec)

/-- ITS FALSE NEIGHBOUR: 'it returns false'. Refute it at one input. -/
def framesTornWrong : ChangeSpec := { name := "framesTorn", fn := fun _ => fun
  | [d1, d2, d3] => { results := [.lit (.bool false)], args := [d1, d2, d3] }
  | _ => none }
def FramesTornWrongFalsely : Prop := framesTornRow.holds Try.pinned (OpenSpec.ofChange framesTornWrong)

/-- 'capstanlaw3.FramesBack': WHATEVER THE INPUT: true; the input reads as it did. -/
def framesBackSpec : ChangeSpec := { name := "framesBack", fn := fun _ => fun
  | [d1, d2] => { results := [.lit (.bool true)], args := [d1, d2] }
  | _ => none }
def framesBackRow : OpenClaim := { program := "ytbijpbkekdeilaa", sum := "c4ead692910330dd8f63ea53de5758cf4acc1cc2942bf405adab1e046a617a1c", func := "capstan/capstanlaw3.FramesBack", spec := "framesBack", unfollowed := true, recurses := true, apart := false }
def FramesBackSaid : Prop := framesBackRow.holds Try.pinned (OpenSpec.ofChange framesBackSpec)

/-- ITS FALSE NEIGHBOUR: 'it returns false'. Refute it at one input. -/
def framesBackWrong : ChangeSpec := { name := "framesBack", fn := fun _ => fun
  | [d1, d2] => { results := [.lit (.bool false)], args := [d1, d2] }
  | _ => none }
def FramesBackWrongFalsely : Prop := framesBackRow.holds Try.pinned (OpenSpec.ofChange framesBackWrong)

/-- 'capstanlaw3.FramesOnes': WHATEVER THE INPUT: true; the input reads as it did. -/
def framesOnesSpec : ChangeSpec := { name := "framesOnes", fn := fun _ => fun
  | [d1, d2, d3] => { results := [.lit (.bool true)], args := [d1, d2, d3] }
  | _ => none }
def framesOnesRow : OpenClaim := { program := "ytbijpbkekdeilaa", sum := "c4ead692910330dd8f63ea53de5758cf4acc1cc2942bf405adab1e046a617a1c", func := "capstan/capstanlaw3.FramesOnes", spec := "framesOnes", unfollowed := true, recurses := true, apart := false }
def FramesOnesSaid : Prop := framesOnesRow.holds Try.pinned (OpenSpec.ofChange framesOnesSpec)

/-- ITS FALSE NEIGHBOUR: 'it returns false'. Refute it at one input. -/
def framesOnesWrong : ChangeSpec := { name := "framesOnes", fn := fun _ => fun
  | [d1, d2, d3] => { results := [.lit (.bool false)], args := [d1, d2, d3] }
  | _ => none }
def FramesOnesWrongFalsely : Prop := framesOnesRow.holds Try.pinned (OpenSpec.ofChange framesOnesWrong)

/- THE SECOND FORM. 'bulk': how many values and letters a reading holds, each counted each time it is reached (what is shared counts as often as it is met; a slice's spare places count too). A statement '..UptoSaid' is the law's where the arguments, and the package variables that the reading takes, are together of bulk at most 1048576: NARROWER than '..Said'. Prove '..Said' where nothing that the law and all that it calls make is longer than what came in: it says more and counts as full. Else prove '..UptoSaid'. A law counts once. -/
mutual
def uptoBulk {H : Type} : DataW H → Nat
  | .lit (.string bytes) => bytes.length + 1
  | .lit _ => 1
  | .nil => 1
  | .ptr d => uptoBulk d + 1
  | .slice elems spare => uptoBulkAll elems + uptoBulkAll spare + 1
  | .agg parts => uptoBulkAll parts + 1
  | .iface _ d => uptoBulk d + 1
  | .map entries => uptoBulkEntries entries + 1
  | .held _ => 1
def uptoBulkAll {H : Type} : List (DataW H) → Nat
  | [] => 0
  | d :: r => uptoBulk d + uptoBulkAll r
def uptoBulkEntries {H : Type} : List (Lit × DataW H) → Nat
  | [] => 0
  | x :: r => uptoBulkEntry x + uptoBulkEntries r
def uptoBulkEntry {H : Type} : Lit × DataW H → Nat
  | (.string bytes, d) => bytes.length + uptoBulk d + 1
  | (_, d) => uptoBulk d + 1
 end
def uptoSmall : (H : Type) → List (DataW H) → Bool := fun _ ds => decide (uptoBulkAll ds ≤ 1048576)
def OpenSpec.upto (s : _root_.Go.ChangeSpec) : _root_.Go.OpenSpec := { _root_.Go.OpenSpec.ofChange s with cond := some uptoSmall }

/-- 'capstanlaw8.StatePuts', WHERE WHAT IT READS IS OF BULK AT MOST 1048576: true; the input reads as it did. -/
def statePutsUptoRow : OpenClaim := { program := "ytbijpbkekdeilaa", sum := "c4ead692910330dd8f63ea53de5758cf4acc1cc2942bf405adab1e046a617a1c", func := "capstan/capstanlaw8.StatePuts", spec := "statePuts", apart := false, narrowed := true }
def StatePutsUptoSaid : Prop := statePutsUptoRow.holds Try.pinned (OpenSpec.upto statePutsSpec)

/-- 'capstanlaw8.StateSames', WHERE WHAT IT READS IS OF BULK AT MOST 1048576: true; the input reads as it did. -/
def stateSamesUptoRow : OpenClaim := { program := "ytbijpbkekdeilaa", sum := "c4ead692910330dd8f63ea53de5758cf4acc1cc2942bf405adab1e046a617a1c", func := "capstan/capstanlaw8.StateSames", spec := "stateSames", apart := false, narrowed := true }
def StateSamesUptoSaid : Prop := stateSamesUptoRow.holds Try.pinned (OpenSpec.upto stateSamesSpec)

/-- 'capstanlaw3.FramesScan', WHERE WHAT IT READS IS OF BULK AT MOST 1048576: true; the input reads as it did. -/
def framesScanUptoRow : OpenClaim := { program := "ytbijpbkekdeilaa", sum := "c4ead692910330dd8f63ea53de5758cf4acc1cc2942bf405adab1e046a617a1c", func := "capstan/capstanlaw3.FramesScan", spec := "framesScan", unfollowed := true, recurses := true, apart := false, narrowed := true }
def FramesScanUptoSaid : Prop := framesScanUptoRow.holds Try.pinned (OpenSpec.upto framesScanSpec)

/-- 'capstanlaw8.StateChecks', WHERE WHAT IT READS IS OF BULK AT MOST 1048576: true; the input reads as it did. -/
def stateChecksUptoRow : OpenClaim := { program := "ytbijpbkekdeilaa", sum := "c4ead692910330dd8f63ea53de5758cf4acc1cc2942bf405adab1e046a617a1c", func := "capstan/capstanlaw8.StateChecks", spec := "stateChecks", apart := false, narrowed := true }
def StateChecksUptoSaid : Prop := stateChecksUptoRow.holds Try.pinned (OpenSpec.upto stateChecksSpec)

/-- 'capstanlaw8.StateBounds', WHERE WHAT IT READS IS OF BULK AT MOST 1048576: true; the input reads as it did. -/
def stateBoundsUptoRow : OpenClaim := { program := "ytbijpbkekdeilaa", sum := "c4ead692910330dd8f63ea53de5758cf4acc1cc2942bf405adab1e046a617a1c", func := "capstan/capstanlaw8.StateBounds", spec := "stateBounds", apart := false, narrowed := true }
def StateBoundsUptoSaid : Prop := stateBoundsUptoRow.holds Try.pinned (OpenSpec.upto stateBoundsSpec)

/-- 'capstanlaw3.FramesTurned', WHERE WHAT IT READS IS OF BULK AT MOST 1048576: true; the input reads as it did. -/
def framesTurnedUptoRow : OpenClaim := { program := "ytbijpbkekdeilaa", sum := "c4ead692910330dd8f63ea53de5758cf4acc1cc2942bf405adab1e046a617a1c", func := "capstan/capstanlaw3.FramesTurned", spec := "framesTurned", unfollowed := true, recurses := true, apart := false, narrowed := true }
def FramesTurnedUptoSaid : Prop := framesTurnedUptoRow.holds Try.pinned (OpenSpec.upto framesTurnedSpec)

/-- 'capstanlaw8.StatePlays', WHERE WHAT IT READS IS OF BULK AT MOST 1048576: true; the input reads as it did. -/
def statePlaysUptoRow : OpenClaim := { program := "ytbijpbkekdeilaa", sum := "c4ead692910330dd8f63ea53de5758cf4acc1cc2942bf405adab1e046a617a1c", func := "capstan/capstanlaw8.StatePlays", spec := "statePlays", apart := false, narrowed := true }
def StatePlaysUptoSaid : Prop := statePlaysUptoRow.holds Try.pinned (OpenSpec.upto statePlaysSpec)

/-- 'capstanlaw8.StateOrder', WHERE WHAT IT READS IS OF BULK AT MOST 1048576: true; the input reads as it did. -/
def stateOrderUptoRow : OpenClaim := { program := "ytbijpbkekdeilaa", sum := "c4ead692910330dd8f63ea53de5758cf4acc1cc2942bf405adab1e046a617a1c", func := "capstan/capstanlaw8.StateOrder", spec := "stateOrder", apart := false, narrowed := true }
def StateOrderUptoSaid : Prop := stateOrderUptoRow.holds Try.pinned (OpenSpec.upto stateOrderSpec)

/-- 'capstanlaw3.FramesWrite', WHERE WHAT IT READS IS OF BULK AT MOST 1048576: true; the input reads as it did. -/
def framesWriteUptoRow : OpenClaim := { program := "ytbijpbkekdeilaa", sum := "c4ead692910330dd8f63ea53de5758cf4acc1cc2942bf405adab1e046a617a1c", func := "capstan/capstanlaw3.FramesWrite", spec := "framesWrite", unfollowed := true, recurses := true, apart := false, narrowed := true }
def FramesWriteUptoSaid : Prop := framesWriteUptoRow.holds Try.pinned (OpenSpec.upto framesWriteSpec)

/-- 'capstanlaw3.FramesTorn', WHERE WHAT IT READS IS OF BULK AT MOST 1048576: true; the input reads as it did. -/
def framesTornUptoRow : OpenClaim := { program := "ytbijpbkekdeilaa", sum := "c4ead692910330dd8f63ea53de5758cf4acc1cc2942bf405adab1e046a617a1c", func := "capstan/capstanlaw3.FramesTorn", spec := "framesTorn", unfollowed := true, recurses := true, apart := false, narrowed := true }
def FramesTornUptoSaid : Prop := framesTornUptoRow.holds Try.pinned (OpenSpec.upto framesTornSpec)

/-- 'capstanlaw3.FramesBack', WHERE WHAT IT READS IS OF BULK AT MOST 1048576: true; the input reads as it did. -/
def framesBackUptoRow : OpenClaim := { program := "ytbijpbkekdeilaa", sum := "c4ead692910330dd8f63ea53de5758cf4acc1cc2942bf405adab1e046a617a1c", func := "capstan/capstanlaw3.FramesBack", spec := "framesBack", unfollowed := true, recurses := true, apart := false, narrowed := true }
def FramesBackUptoSaid : Prop := framesBackUptoRow.holds Try.pinned (OpenSpec.upto framesBackSpec)

/-- 'capstanlaw3.FramesOnes', WHERE WHAT IT READS IS OF BULK AT MOST 1048576: true; the input reads as it did. -/
def framesOnesUptoRow : OpenClaim := { program := "ytbijpbkekdeilaa", sum := "c4ead692910330dd8f63ea53de5758cf4acc1cc2942bf405adab1e046a617a1c", func := "capstan/capstanlaw3.FramesOnes", spec := "framesOnes", unfollowed := true, recurses := true, apart := false, narrowed := true }
def FramesOnesUptoSaid : Prop := framesOnesUptoRow.holds Try.pinned (OpenSpec.upto framesOnesSpec)

end Rows
end Go.Proofs.Ytbijpbkekdeilaa
