/- Parts of one proof, set together: Gr9. What each says stands at its head; no condition beyond theirs. -/
import Derived.Test.YtekggbmajemmhaaDa7
import Derived.Shelf.SlIterI.Stops
/- Diff: maps.Keys, slices.AppendSeq, slices.Collect. Conditions: the map lies in memory; at most 40 entries. (The iterator's walk after the library's own, Derived.Shelf.SlIterI.Stops.) -/
namespace Go.Proofs.Ytekggbmajemmhaa.Gr
open Go.RowKit Go.Shelf Go.Maps Go.Sort Go.ChangeMaps Go.MapKept Go.Proofs.YtekggbmajemmhaaW.PrintWords Go.Proofs.YtekggbmajemmhaaW.PrintLast Go.Proofs.YtekggbmajemmhaaW.PrintMore
set_option linter.unusedSimpArgs false
set_option linter.unusedVariables false
attribute [local go_sem] Oper.semAt_some
theorem walks_of {W W' : World} (h : KeepsOthers W W') : KeepsWalks W W' := ⟨h.size, fun k o hk hw => h.same k o hk (Obj.not_cells_of_walk hw)⟩
end Go.Proofs.Ytekggbmajemmhaa.Gr
