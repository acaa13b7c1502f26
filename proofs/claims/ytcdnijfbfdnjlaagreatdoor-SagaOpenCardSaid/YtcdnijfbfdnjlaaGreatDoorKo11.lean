/-
  Part 11 of the proof: rules and walks that the claim's last text uses.
-/
import Derived.Test.YtcdnijfbfdnjlaaGreatDoorKo10
set_option linter.unusedSimpArgs false
set_option linter.unusedVariables false
set_option maxRecDepth 100000
set_option maxHeartbeats 4000000
namespace Go.Proofs.YtcdnijfbfdnjlaaGreatDoor
open Go Go.RowKit Go.Ev
set_option maxRecDepth 100000
set_option maxHeartbeats 4000000
theorem kP5:Jb kX 99994 (Tf (CE (CE (CE (CE (CE (kC))))))) kE5 kS5=some (.normal,kE6,kS6):=by kernel_rfl
end Go.Proofs.YtcdnijfbfdnjlaaGreatDoor
