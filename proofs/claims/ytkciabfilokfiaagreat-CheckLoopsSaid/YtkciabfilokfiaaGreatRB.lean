/- The law CheckBehind walked. -/
import Derived.Test.YtkciabfilokfiaaGreatQV
namespace Go.Proofs.YtkciabfilokfiaaGreat.Fx
open Vg Tf
set_option linter.unusedSimpArgs false
set_option linter.unusedVariables false
set_option maxRecDepth 100000
set_option maxHeartbeats 4000000
end Go.Proofs.YtkciabfilokfiaaGreat.Fx
