/- The journal: Open. -/
import Derived.Test.YtpgndejmhegklaaJour1
import Derived.Test.YtpgndejmhegklaaJour2
import Derived.Test.YtpgndejmhegklaaJour3
import Derived.Test.YtpgndejmhegklaaJour4
namespace Go.Proofs.Ytpgndejmhegklaa
set_option linter.unusedVariables false
open Go.RowKit

theorem open_ok (g : Nat) (d : Dsk) (w : World) (hD : DiskAt w g d) (hd : d.dead = false) (hl0 : d.left = 0) (hsl : d.snap.length ≤ 4000000) (hll : d.log.length ≤ 4000000) (hone : d.snap = [] ∨ oneE d.snap = 0) :
    Calls Try.prog 26 #[.pointer (some ⟨g, 0, none⟩)] w fun e w' => OpenSays w g d e w' := by
  by_cases hs0 : d.snap = []
  · by_cases hc : (scanL d.log).2 < d.log.length
    · exact open_1 g d w hD hd hl0 hsl hll hs0 hc
    · exact open_2 g d w hD hd hl0 hsl hll hs0 hc
  · by_cases hc : (scanL d.log).2 < d.log.length
    · exact open_3 g d w hD hd hl0 hsl hll ⟨hs0, hone.resolve_left hs0⟩ hc
    · exact open_4 g d w hD hd hl0 hsl hll ⟨hs0, hone.resolve_left hs0⟩ hc
end Go.Proofs.Ytpgndejmhegklaa
