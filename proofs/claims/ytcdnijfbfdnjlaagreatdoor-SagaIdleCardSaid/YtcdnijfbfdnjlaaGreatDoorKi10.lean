/-
  Part 10 of the proof: rules and walks that the claim's last text uses.
-/
import Derived.Test.YtcdnijfbfdnjlaaGreatDoorKi9
set_option linter.unusedSimpArgs false
set_option linter.unusedVariables false
set_option maxRecDepth 100000
set_option maxHeartbeats 4000000
namespace Go.Proofs.YtcdnijfbfdnjlaaGreatDoor
open Go Go.RowKit Go.Ev
set_option maxRecDepth 100000
set_option maxHeartbeats 4000000
theorem kP3:KA kX 99996 (VZ (C9 (C9 (C9 (kC))))) kE3 kS3=some (.normal,kE4,kS4):=by kernel_rfl
end Go.Proofs.YtcdnijfbfdnjlaaGreatDoor
