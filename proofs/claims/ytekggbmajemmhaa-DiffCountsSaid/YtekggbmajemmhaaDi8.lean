/- DiffCounts: a slice of changes, read out of the arguments. No condition beyond the reading. -/
import Derived.Test.YtekggbmajemmhaaDi7
import Derived.Deep.SlicePairs
import Derived.Deep.Strs
import Derived.WalkKit
import Derived.ProofKit
import Derived.OpenShut
import Derived.Lib.SmallJoins
namespace Go.Proofs.Ytekggbmajemmhaa.Di
open Go.ChangeShapes Go.WideShapes Go.ChangeAt Go.RowKit Go.Deep Go.Joins
set_option linter.unusedSimpArgs false
set_option linter.unusedVariables false
theorem cell_lt {w : World} {a : Addr} {v : Value} (h : w.cell? a = some v) : a.block < w.heap.size := by
  rcases Nat.lt_or_ge a.block w.heap.size with h0 | h0
  · exact h0
  · have h3 : w.heap[a.block]? = none := Array.getElem?_eq_none h0
    simp [World.cell?, h3] at h
theorem trod_struct5 {H : Type} {enc : TypeId × Value → H} {P : Program} {w : World} {base : Nat} {spare : Nat → Bool} {held : Bool} {t : TypeId} {f0 f1 f2 f3 f4 : Field} {fuel : Nat} {cs : List Value} {x : DataW H × List MemPlace} (ht : P.underlying t = some (.struct #[f0, f1, f2, f3, f4])) (h : DataW.trod enc P w base spare held fuel t cs = some x) :
    ∃ y0 y1 y2 y3 y4 n, DataW.trod enc P w base spare held n f0.type ((cs.drop f0.offset).take (P.cellsOf f0.type)) = some y0 ∧
      DataW.trod enc P w base spare held n f1.type ((cs.drop f1.offset).take (P.cellsOf f1.type)) = some y1 ∧ DataW.trod enc P w base spare held n f2.type ((cs.drop f2.offset).take (P.cellsOf f2.type)) = some y2 ∧
      DataW.trod enc P w base spare held n f3.type ((cs.drop f3.offset).take (P.cellsOf f3.type)) = some y3 ∧ DataW.trod enc P w base spare held n f4.type ((cs.drop f4.offset).take (P.cellsOf f4.type)) = some y4 := by
  obtain ⟨xs, n, _, rfl, hl, hlen, hf⟩ := DataW.trod_struct ht h
  match xs, hlen with
  | [y0, y1, y2, y3, y4], _ => exact ⟨y0, y1, y2, y3, y4, n, by simpa using hf 0 f0 rfl, by simpa using hf 1 f1 rfl, by simpa using hf 2 f2 rfl, by simpa using hf 3 f3 rfl, by simpa using hf 4 f4 rfl⟩
theorem open_changes {H : Type} {enc : TypeId × Value → H} {P : Program} {w : World} {t e : TypeId} {f0 f1 f2 f3 f4 : Field} {fuel : Nat} {a : Option Addr} {len cap : Nat} {x : DataW H × List MemPlace} (ht : P.underlying t = some (.slice e)) (he : P.underlying e = some (.struct #[f0, f1, f2, f3, f4]))
    (ce : P.cellsOf e = 5) (o0 : f0.offset = 0) (o1 : f1.offset = 1) (o2 : f2.offset = 2) (o3 : f3.offset = 3) (o4 : f4.offset = 4) (c0 : P.cellsOf f0.type = 1) (c1 : P.cellsOf f1.type = 1) (c2 : P.cellsOf f2.type = 1) (c3 : P.cellsOf f3.type = 1) (c4 : P.cellsOf f4.type = 1) (t0 : P.underlying f0.type = some (.int .i64)) (t1 : P.underlying f1.type = some (.int .i64)) (t2 : P.underlying f2.type = some (.int .i64)) (t3 : P.underlying f3.type = some (.int .u64)) (t4 : P.underlying f4.type = some (.int .u64))
    (h : DataW.trod enc P w 0 (fun _ => true) true fuel t [.slice a len cap] = some x) :
    (∃ F : Nat → ChV, CL w w.heap.size a len F) ∧ len ≤ 9223372036854775807 := by
  rcases open_slice ht h with ⟨hcs, _⟩ | ⟨y, l, c, m, n, D, Pl, hcs, hb, hl, hm, hmm, rfl, hx⟩
  · simp at hcs
    obtain ⟨rfl, rfl, rfl⟩ := hcs
    exact ⟨⟨fun _ => default, fun i hi => absurd hi (by omega)⟩, by omega⟩
  · simp at hcs
    obtain ⟨rfl, rfl, rfl⟩ := hcs
    refine ⟨?_, by unfold maxLen at hm; omega⟩
    have each : ∀ i, i < len → ∃ q : ChV, w.cell? ((y.add (i * 5)).add 0) = some (.int .i64 q.k) ∧ w.cell? ((y.add (i * 5)).add 1) = some (.int .i64 q.a) ∧ w.cell? ((y.add (i * 5)).add 2) = some (.int .i64 q.i) ∧ w.cell? ((y.add (i * 5)).add 3) = some (.int .u64 q.was) ∧ w.cell? ((y.add (i * 5)).add 4) = some (.int .u64 q.is) := by
      intro i hi
      obtain ⟨cs', h1, h2⟩ := hx i (by rw [hmm, if_pos rfl]; omega)
      rw [ce] at h1
      obtain ⟨_, hlen, hcell⟩ := World.cells?_some h1
      obtain ⟨y0, y1, y2, y3, y4, k, g0, g1, g2, g3, g4⟩ := trod_struct5 he h2
      match cs', hlen with
      | [v0, v1, v2, v3, v4], _ =>
        rw [o0, c0] at g0
        rw [o1, c1] at g1
        rw [o2, c2] at g2
        rw [o3, c3] at g3
        rw [o4, c4] at g4
        obtain ⟨b0, hv0, _, _⟩ := DataW.trod_int t0 g0
        obtain ⟨b1, hv1, _, _⟩ := DataW.trod_int t1 g1
        obtain ⟨b2, hv2, _, _⟩ := DataW.trod_int t2 g2
        obtain ⟨b3, hv3, _, _⟩ := DataW.trod_int t3 g3
        obtain ⟨b4, hv4, _, _⟩ := DataW.trod_int t4 g4
        have d0 := hcell 0 (by omega)
        have d1 := hcell 1 (by omega)
        have d2 := hcell 2 (by omega)
        have d3 := hcell 3 (by omega)
        have d4 := hcell 4 (by omega)
        simp at hv0 hv1 hv2 hv3 hv4 d0 d1 d2 d3 d4
        subst_vars
        exact ⟨⟨b0, b1, b2, b3, b4⟩, d0, d1, d2, d3, d4⟩
    obtain ⟨q, hq⟩ := choose_lt each
    refine ⟨q, fun i hi => ⟨y, rfl, ?_, hq i hi⟩⟩
    have := cell_lt (hq i hi).1
    rwa [add_block, add_block] at this
theorem counts_row (a : Option Addr) (len cap : Nat) (F : Nat → ChV) (W : World) (h : CL W W.heap.size a len F) (hlen : len ≤ 9223372036854775807) : Calls Try.prog 6 #[.slice a len cap] W fun e w' => e = .returned (.bool true) ∧ Below W.heap.size W w' :=
  counts_at W a len cap F ⟨h⟩ hlen
end Go.Proofs.Ytekggbmajemmhaa.Di
