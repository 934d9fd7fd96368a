/- Parts of one proof, set together: WSized. What each says stands at its head; no condition beyond theirs. -/
import Derived.Test.YtmolflmljneelaaEs14
import Derived.ChangeSlices
import Derived.SizedLaws
