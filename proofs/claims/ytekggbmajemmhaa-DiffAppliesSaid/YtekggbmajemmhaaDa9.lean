/- Parts of one proof, set together: Sh2. What each says stands at its head; no condition beyond theirs. -/
import Derived.Test.YtekggbmajemmhaaDa8
import Derived.Ground.Names2Prog
import Derived.Ground.SlgnProg
import Derived.Shelf.Slices.Cells
import Derived.Shelf.Slices.Clone
import Derived.Shelf.Slices.CompactI
import Derived.Shelf.Slices.In.SortNone
import Derived.Shelf.Slices.SearchI
import Derived.Shelf.SlicesE.Clone
import Derived.Shelf.Small.Bits
import Derived.Shelf.Small.Wraps
import Derived.Shelf.Sort.Plain
import Derived.Shelf.Strconv.Itoa0
import Derived.Test.YtekggbmajemmhaaProg
