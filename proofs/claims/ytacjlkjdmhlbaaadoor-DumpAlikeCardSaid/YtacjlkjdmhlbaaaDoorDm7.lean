/- Parts of one proof, set together: DoorHg16. What each says stands at its head; no condition beyond theirs. -/
import Derived.Test.YtacjlkjdmhlbaaaDoorDm6
import Derived.Deep.SlicePairs
import Derived.Deep.Strs
import Derived.Lib.SmallJoins
import Derived.OpenShut
import Derived.ProofKit
import Derived.WalkKit
