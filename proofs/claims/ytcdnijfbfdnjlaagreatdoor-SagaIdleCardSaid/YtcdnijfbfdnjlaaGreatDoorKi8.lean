/-
  Part 8 of the proof: rules and walks that the claim's last text uses.
-/
import Derived.Test.YtcdnijfbfdnjlaaGreatDoorKi7
set_option linter.unusedSimpArgs false
set_option linter.unusedVariables false
set_option maxRecDepth 100000
set_option maxHeartbeats 4000000
namespace Go.Proofs.YtcdnijfbfdnjlaaGreatDoor
open Go Go.RowKit Go.Ev
set_option maxRecDepth 100000
set_option maxHeartbeats 4000000
theorem kP0:KA kX 99999 (VZ (kC)) kE0 kS0=some (.normal,kE1,kS1):=by kernel_rfl
theorem kP1:KA kX 99998 (VZ (C9 (kC))) kE1 kS1=some (.normal,kE2,kS2):=by kernel_rfl
theorem kP6:KA kX 99993 (VZ (C9 (C9 (C9 (C9 (C9 (C9 (kC)))))))) kE6 kS6=some (.normal,kE7,kS7):=by kernel_rfl
end Go.Proofs.YtcdnijfbfdnjlaaGreatDoor
