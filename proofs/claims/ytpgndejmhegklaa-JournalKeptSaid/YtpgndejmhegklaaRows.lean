/-
  No cell of these rows narrows 'for every input' (looked for: loops, veiled, ifaces, maps, wideKeys, modest, calm, conditions, laid).
  DERIVED. THE GIVEN ROWS OF THIS SEAT. 9 by the template 'for every input the law returns true; each argument reads behind the call as it read before'; 0 by the template 'total and deterministic' (their statements: YtpgndejmhegklaaTotals.lean).
  GIVEN WITH THE SEED: the statements are not yours to turn. If you find one false, say at which input.
  Laid BY PROGRAM, IN A SANDBOX (cutbox-rows.mjs): the forced cells as the released guide's own fill.sh prints them over the translation 4702d26c9d5a0f60… (all of the seat's roots in one cut). By AI agents, Wed Nov 11 2026. No macro, syntax, notation, axiom, sorry.
-/
import Derived.Test.YtpgndejmhegklaaChecked
import GoSem.Claim
import GoSem.ClaimJoined
import GoSem.ClaimMapViews
import Derived.JoinedTies
import Derived.KernelRfl
namespace Go.Proofs.Ytpgndejmhegklaa
/- THE CELL 'sum', in the pinned program and in every row, IS THE sha256 OF THE DUMP (.gsa) THAT YtpgndejmhegklaaProg.lean LOADS. Nothing in Lean hashes anything: it is a label: what it is worth is what the hold of that sum in a sandbox is worth. -/
noncomputable def Try.pinned : Pinned := { name := "ytpgndejmhegklaa", sum := "4702d26c9d5a0f606c5f98b2b534399de432f0759c61da1b017de23be543c6eb", checked := Try.checked }
namespace Rows
def none {H : Type} : Left H := { results := [], args := [] }

/-- 'capstanlaw4.DiskStays': WHATEVER THE INPUT: true; the input reads as it did. -/
def diskStaysSpec : ChangeSpec := { name := "diskStays", fn := fun _ => fun
  | [d1, d2, d3] => { results := [.lit (.bool true)], args := [d1, d2, d3] }
  | _ => none }
def diskStaysRow : OpenClaim := { program := "ytpgndejmhegklaa", sum := "4702d26c9d5a0f606c5f98b2b534399de432f0759c61da1b017de23be543c6eb", func := "capstan/capstanlaw4.DiskStays", spec := "diskStays", apart := false }
def DiskStaysSaid : Prop := diskStaysRow.holds Try.pinned (OpenSpec.ofChange diskStaysSpec)

/-- ITS FALSE NEIGHBOUR: 'it returns false'. Refute it at one input. -/
def diskStaysWrong : ChangeSpec := { name := "diskStays", fn := fun _ => fun
  | [d1, d2, d3] => { results := [.lit (.bool false)], args := [d1, d2, d3] }
  | _ => none }
def DiskStaysWrongFalsely : Prop := diskStaysRow.holds Try.pinned (OpenSpec.ofChange diskStaysWrong)

/-- 'capstanlaw4.DiskCuts': WHATEVER THE INPUT: true; the input reads as it did. -/
def diskCutsSpec : ChangeSpec := { name := "diskCuts", fn := fun _ => fun
  | [d1, d2, d3, d4] => { results := [.lit (.bool true)], args := [d1, d2, d3, d4] }
  | _ => none }
def diskCutsRow : OpenClaim := { program := "ytpgndejmhegklaa", sum := "4702d26c9d5a0f606c5f98b2b534399de432f0759c61da1b017de23be543c6eb", func := "capstan/capstanlaw4.DiskCuts", spec := "diskCuts", apart := false }
def DiskCutsSaid : Prop := diskCutsRow.holds Try.pinned (OpenSpec.ofChange diskCutsSpec)

/-- ITS FALSE NEIGHBOUR: 'it returns false'. Refute it at one input. -/
def diskCutsWrong : ChangeSpec := { name := "diskCuts", fn := fun _ => fun
  | [d1, d2, d3, d4] => { results := [.lit (.bool false)], args := [d1, d2, d3, d4] }
  | _ => none }
def DiskCutsWrongFalsely : Prop := diskCutsRow.holds Try.pinned (OpenSpec.ofChange diskCutsWrong)

/-- 'capstanlaw4.DiskRoom': WHATEVER THE INPUT: true; the input reads as it did. -/
def diskRoomSpec : ChangeSpec := { name := "diskRoom", fn := fun _ => fun
  | [d1, d2] => { results := [.lit (.bool true)], args := [d1, d2] }
  | _ => none }
def diskRoomRow : OpenClaim := { program := "ytpgndejmhegklaa", sum := "4702d26c9d5a0f606c5f98b2b534399de432f0759c61da1b017de23be543c6eb", func := "capstan/capstanlaw4.DiskRoom", spec := "diskRoom", apart := false }
def DiskRoomSaid : Prop := diskRoomRow.holds Try.pinned (OpenSpec.ofChange diskRoomSpec)

/-- ITS FALSE NEIGHBOUR: 'it returns false'. Refute it at one input. -/
def diskRoomWrong : ChangeSpec := { name := "diskRoom", fn := fun _ => fun
  | [d1, d2] => { results := [.lit (.bool false)], args := [d1, d2] }
  | _ => none }
def DiskRoomWrongFalsely : Prop := diskRoomRow.holds Try.pinned (OpenSpec.ofChange diskRoomWrong)

/-- 'capstanlaw4.DiskStops': WHATEVER THE INPUT: true; the input reads as it did. -/
def diskStopsSpec : ChangeSpec := { name := "diskStops", fn := fun _ => fun
  | [d1, d2] => { results := [.lit (.bool true)], args := [d1, d2] }
  | _ => none }
def diskStopsRow : OpenClaim := { program := "ytpgndejmhegklaa", sum := "4702d26c9d5a0f606c5f98b2b534399de432f0759c61da1b017de23be543c6eb", func := "capstan/capstanlaw4.DiskStops", spec := "diskStops", apart := false }
def DiskStopsSaid : Prop := diskStopsRow.holds Try.pinned (OpenSpec.ofChange diskStopsSpec)

/-- ITS FALSE NEIGHBOUR: 'it returns false'. Refute it at one input. -/
def diskStopsWrong : ChangeSpec := { name := "diskStops", fn := fun _ => fun
  | [d1, d2] => { results := [.lit (.bool false)], args := [d1, d2] }
  | _ => none }
def DiskStopsWrongFalsely : Prop := diskStopsRow.holds Try.pinned (OpenSpec.ofChange diskStopsWrong)

/-- 'capstanlaw4.DiskTurns': WHATEVER THE INPUT: true; the input reads as it did. -/
def diskTurnsSpec : ChangeSpec := { name := "diskTurns", fn := fun _ => fun
  | [d1, d2, d3, d4, d5] => { results := [.lit (.bool true)], args := [d1, d2, d3, d4, d5] }
  | _ => none }
def diskTurnsRow : OpenClaim := { program := "ytpgndejmhegklaa", sum := "4702d26c9d5a0f606c5f98b2b534399de432f0759c61da1b017de23be543c6eb", func := "capstan/capstanlaw4.DiskTurns", spec := "diskTurns", apart := false }
def DiskTurnsSaid : Prop := diskTurnsRow.holds Try.pinned (OpenSpec.ofChange diskTurnsSpec)

/-- ITS FALSE NEIGHBOUR: 'it returns false'. Refute it at one input. -/
def diskTurnsWrong : ChangeSpec := { name := "diskTurns", fn := fun _ => fun
  | [d1, d2, d3, d4, d5] => { results := [.lit (.bool false)], args := [d1, d2, d3, d4, d5] }
  | _ => none }
def DiskTurnsWrongFalsely : Prop := diskTurnsRow.holds Try.pinned (OpenSpec.ofChange diskTurnsWrong)

/-- 'capstanlaw5.JournalBad': WHATEVER THE INPUT: true; the input reads as it did. -/
def journalBadSpec : ChangeSpec := { name := "journalBad", fn := fun _ => fun
  | [d1, d2] => { results := [.lit (.bool true)], args := [d1, d2] }
  | _ => none }
def journalBadRow : OpenClaim := { program := "ytpgndejmhegklaa", sum := "4702d26c9d5a0f606c5f98b2b534399de432f0759c61da1b017de23be543c6eb", func := "capstan/capstanlaw5.JournalBad", spec := "journalBad", unfollowed := true, recurses := true, apart := false }
def JournalBadSaid : Prop := journalBadRow.holds Try.pinned (OpenSpec.ofChange journalBadSpec)

/-- ITS FALSE NEIGHBOUR: 'it returns false'. Refute it at one input. -/
def journalBadWrong : ChangeSpec := { name := "journalBad", fn := fun _ => fun
  | [d1, d2] => { results := [.lit (.bool false)], args := [d1, d2] }
  | _ => none }
def JournalBadWrongFalsely : Prop := journalBadRow.holds Try.pinned (OpenSpec.ofChange journalBadWrong)

/-- 'capstanlaw5.JournalTorn': WHATEVER THE INPUT: true; the input reads as it did. -/
def journalTornSpec : ChangeSpec := { name := "journalTorn", fn := fun _ => fun
  | [d1, d2, d3] => { results := [.lit (.bool true)], args := [d1, d2, d3] }
  | _ => none }
def journalTornRow : OpenClaim := { program := "ytpgndejmhegklaa", sum := "4702d26c9d5a0f606c5f98b2b534399de432f0759c61da1b017de23be543c6eb", func := "capstan/capstanlaw5.JournalTorn", spec := "journalTorn", unfollowed := true, recurses := true, apart := false }
def JournalTornSaid : Prop := journalTornRow.holds Try.pinned (OpenSpec.ofChange journalTornSpec)

/-- ITS FALSE NEIGHBOUR: 'it returns false'. Refute it at one input. -/
def journalTornWrong : ChangeSpec := { name := "journalTorn", fn := fun _ => fun
  | [d1, d2, d3] => { results := [.lit (.bool false)], args := [d1, d2, d3] }
  | _ => none }
def JournalTornWrongFalsely : Prop := journalTornRow.holds Try.pinned (OpenSpec.ofChange journalTornWrong)

/-- 'capstanlaw5.JournalSnaps': WHATEVER THE INPUT: true; the input reads as it did. -/
def journalSnapsSpec : ChangeSpec := { name := "journalSnaps", fn := fun _ => fun
  | [d1, d2] => { results := [.lit (.bool true)], args := [d1, d2] }
  | _ => none }
def journalSnapsRow : OpenClaim := { program := "ytpgndejmhegklaa", sum := "4702d26c9d5a0f606c5f98b2b534399de432f0759c61da1b017de23be543c6eb", func := "capstan/capstanlaw5.JournalSnaps", spec := "journalSnaps", unfollowed := true, recurses := true, apart := false }
def JournalSnapsSaid : Prop := journalSnapsRow.holds Try.pinned (OpenSpec.ofChange journalSnapsSpec)

/-- ITS FALSE NEIGHBOUR: 'it returns false'. Refute it at one input. -/
def journalSnapsWrong : ChangeSpec := { name := "journalSnaps", fn := fun _ => fun
  | [d1, d2] => { results := [.lit (.bool false)], args := [d1, d2] }
  | _ => none }
def JournalSnapsWrongFalsely : Prop := journalSnapsRow.holds Try.pinned (OpenSpec.ofChange journalSnapsWrong)

/-- 'capstanlaw5.JournalKept': WHATEVER THE INPUT: true; the input reads as it did. -/
def journalKeptSpec : ChangeSpec := { name := "journalKept", fn := fun _ => fun
  | [d1, d2, d3, d4] => { results := [.lit (.bool true)], args := [d1, d2, d3, d4] }
  | _ => none }
def journalKeptRow : OpenClaim := { program := "ytpgndejmhegklaa", sum := "4702d26c9d5a0f606c5f98b2b534399de432f0759c61da1b017de23be543c6eb", func := "capstan/capstanlaw5.JournalKept", spec := "journalKept", unfollowed := true, recurses := true, apart := false }
def JournalKeptSaid : Prop := journalKeptRow.holds Try.pinned (OpenSpec.ofChange journalKeptSpec)

/-- ITS FALSE NEIGHBOUR: 'it returns false'. Refute it at one input. -/
def journalKeptWrong : ChangeSpec := { name := "journalKept", fn := fun _ => fun
  | [d1, d2, d3, d4] => { results := [.lit (.bool false)], args := [d1, d2, d3, d4] }
  | _ => none }
def JournalKeptWrongFalsely : Prop := journalKeptRow.holds Try.pinned (OpenSpec.ofChange journalKeptWrong)

/- THE SECOND FORM. 'bulk': how many values and letters a reading holds, each counted each time it is reached (what is shared counts as often as it is met; a slice's spare places count too). A statement '..UptoSaid' is the law's where the arguments, and the package variables that the reading takes, are together of bulk at most 1048576: NARROWER than '..Said'. Prove '..Said' where nothing that the law and all that it calls make is longer than what came in: it says more and counts as full. Else prove '..UptoSaid'. A law counts once. -/
mutual
def uptoBulk {H : Type} : DataW H → Nat
  | .lit (.string bytes) => bytes.length + 1
  | .lit _ => 1
  | .nil => 1
  | .ptr d => uptoBulk d + 1
  | .slice elems spare => uptoBulkAll elems + uptoBulkAll spare + 1
  | .agg parts => uptoBulkAll parts + 1
  | .iface _ d => uptoBulk d + 1
  | .map entries => uptoBulkEntries entries + 1
  | .held _ => 1
def uptoBulkAll {H : Type} : List (DataW H) → Nat
  | [] => 0
  | d :: r => uptoBulk d + uptoBulkAll r
def uptoBulkEntries {H : Type} : List (Lit × DataW H) → Nat
  | [] => 0
  | x :: r => uptoBulkEntry x + uptoBulkEntries r
def uptoBulkEntry {H : Type} : Lit × DataW H → Nat
  | (.string bytes, d) => bytes.length + uptoBulk d + 1
  | (_, d) => uptoBulk d + 1
 end
def uptoSmall : (H : Type) → List (DataW H) → Bool := fun _ ds => decide (uptoBulkAll ds ≤ 1048576)
def OpenSpec.upto (s : _root_.Go.ChangeSpec) : _root_.Go.OpenSpec := { _root_.Go.OpenSpec.ofChange s with cond := some uptoSmall }

/-- 'capstanlaw4.DiskStays', WHERE WHAT IT READS IS OF BULK AT MOST 1048576: true; the input reads as it did. -/
def diskStaysUptoRow : OpenClaim := { program := "ytpgndejmhegklaa", sum := "4702d26c9d5a0f606c5f98b2b534399de432f0759c61da1b017de23be543c6eb", func := "capstan/capstanlaw4.DiskStays", spec := "diskStays", apart := false, narrowed := true }
def DiskStaysUptoSaid : Prop := diskStaysUptoRow.holds Try.pinned (OpenSpec.upto diskStaysSpec)

/-- 'capstanlaw4.DiskCuts', WHERE WHAT IT READS IS OF BULK AT MOST 1048576: true; the input reads as it did. -/
def diskCutsUptoRow : OpenClaim := { program := "ytpgndejmhegklaa", sum := "4702d26c9d5a0f606c5f98b2b534399de432f0759c61da1b017de23be543c6eb", func := "capstan/capstanlaw4.DiskCuts", spec := "diskCuts", apart := false, narrowed := true }
def DiskCutsUptoSaid : Prop := diskCutsUptoRow.holds Try.pinned (OpenSpec.upto diskCutsSpec)

/-- 'capstanlaw4.DiskRoom', WHERE WHAT IT READS IS OF BULK AT MOST 1048576: true; the input reads as it did. -/
def diskRoomUptoRow : OpenClaim := { program := "ytpgndejmhegklaa", sum := "4702d26c9d5a0f606c5f98b2b534399de432f0759c61da1b017de23be543c6eb", func := "capstan/capstanlaw4.DiskRoom", spec := "diskRoom", apart := false, narrowed := true }
def DiskRoomUptoSaid : Prop := diskRoomUptoRow.holds Try.pinned (OpenSpec.upto diskRoomSpec)

/-- 'capstanlaw4.DiskStops', WHERE WHAT IT READS IS OF BULK AT MOST 1048576: true; the input reads as it did. -/
def diskStopsUptoRow : OpenClaim := { program := "ytpgndejmhegklaa", sum := "4702d26c9d5a0f606c5f98b2b534399de432f0759c61da1b017de23be543c6eb", func := "capstan/capstanlaw4.DiskStops", spec := "diskStops", apart := false, narrowed := true }
def DiskStopsUptoSaid : Prop := diskStopsUptoRow.holds Try.pinned (OpenSpec.upto diskStopsSpec)

/-- 'capstanlaw4.DiskTurns', WHERE WHAT IT READS IS OF BULK AT MOST 1048576: true; the input reads as it did. -/
def diskTurnsUptoRow : OpenClaim := { program := "ytpgndejmhegklaa", sum := "4702d26c9d5a0f606c5f98b2b534399de432f0759c61da1b017de23be543c6eb", func := "capstan/capstanlaw4.DiskTurns", spec := "diskTurns", apart := false, narrowed := true }
def DiskTurnsUptoSaid : Prop := diskTurnsUptoRow.holds Try.pinned (OpenSpec.upto diskTurnsSpec)

/-- 'capstanlaw5.JournalBad', WHERE WHAT IT READS IS OF BULK AT MOST 1048576: true; the input reads as it did. -/
def journalBadUptoRow : OpenClaim := { program := "ytpgndejmhegklaa", sum := "4702d26c9d5a0f606c5f98b2b534399de432f0759c61da1b017de23be543c6eb", func := "capstan/capstanlaw5.JournalBad", spec := "journalBad", unfollowed := true, recurses := true, apart := false, narrowed := true }
def JournalBadUptoSaid : Prop := journalBadUptoRow.holds Try.pinned (OpenSpec.upto journalBadSpec)

/-- 'capstanlaw5.JournalTorn', WHERE WHAT IT READS IS OF BULK AT MOST 1048576: true; the input reads as it did. -/
def journalTornUptoRow : OpenClaim := { program := "ytpgndejmhegklaa", sum := "4702d26c9d5a0f606c5f98b2b534399de432f0759c61da1b017de23be543c6eb", func := "capstan/capstanlaw5.JournalTorn", spec := "journalTorn", unfollowed := true, recurses := true, apart := false, narrowed := true }
def JournalTornUptoSaid : Prop := journalTornUptoRow.holds Try.pinned (OpenSpec.upto journalTornSpec)

/-- 'capstanlaw5.JournalSnaps', WHERE WHAT IT READS IS OF BULK AT MOST 1048576: true; the input reads as it did. -/
def journalSnapsUptoRow : OpenClaim := { program := "ytpgndejmhegklaa", sum := "4702d26c9d5a0f606c5f98b2b534399de432f0759c61da1b017de23be543c6eb", func := "capstan/capstanlaw5.JournalSnaps", spec := "journalSnaps", unfollowed := true, recurses := true, apart := false, narrowed := true }
def JournalSnapsUptoSaid : Prop := journalSnapsUptoRow.holds Try.pinned (OpenSpec.upto journalSnapsSpec)

/-- 'capstanlaw5.JournalKept', WHERE WHAT IT READS IS OF BULK AT MOST 1048576: true; the input reads as it did. -/
def journalKeptUptoRow : OpenClaim := { program := "ytpgndejmhegklaa", sum := "4702d26c9d5a0f606c5f98b2b534399de432f0759c61da1b017de23be543c6eb", func := "capstan/capstanlaw5.JournalKept", spec := "journalKept", unfollowed := true, recurses := true, apart := false, narrowed := true }
def JournalKeptUptoSaid : Prop := journalKeptUptoRow.holds Try.pinned (OpenSpec.upto journalKeptSpec)

end Rows
end Go.Proofs.Ytpgndejmhegklaa
