/- A slice of structs of three fields, the last two ints: what its cells hold. No condition beyond the reading. -/
import Derived.Test.YtpefbnhicfflpaaLk4
import Derived.Deep.SlicePairs
import Derived.Deep.Strs
import Derived.WalkKit
import Derived.ProofKit
import Derived.OpenShut
namespace Go.Proofs.Ytpefbnhicfflpaa.Lk
open Go.ChangeShapes Go.WideShapes Go.ChangeAt Go.RowKit Go.Deep Go.Deep
set_option linter.unusedVariables false
theorem cell_lt {w : World} {a : Addr} {v : Value} (h : w.cell? a = some v) : a.block < w.heap.size := by
  rcases Nat.lt_or_ge a.block w.heap.size with h0 | h0
  · exact h0
  · have h3 : w.heap[a.block]? = none := Array.getElem?_eq_none h0
    simp [World.cell?, h3] at h
theorem open_ops {H : Type} {enc : TypeId × Value → H} {P : Program} {w : World} {t e : TypeId} {f0 f1 f2 : Field} {fuel : Nat} {a : Option Addr} {len cap : Nat} {x : DataW H × List MemPlace} (ht : P.underlying t = some (.slice e)) (he : P.underlying e = some (.struct #[f0, f1, f2]))
    (ce : P.cellsOf e = 3) (o1 : f1.offset = 1) (o2 : f2.offset = 2) (c1 : P.cellsOf f1.type = 1) (c2 : P.cellsOf f2.type = 1) (t1 : P.underlying f1.type = some (.int .i64)) (t2 : P.underlying f2.type = some (.int .i64))
    (h : DataW.trod enc P w 0 (fun _ => true) true fuel t [.slice a len cap] = some x) :
    (∃ F : Nat → Int × Int, ∀ i, i < len → ∃ y, a = some y ∧ w.cell? ((y.add (i * 3)).add 1) = some (.int .i64 (F i).1) ∧ w.cell? ((y.add (i * 3)).add 2) = some (.int .i64 (F i).2) ∧ y.block < w.heap.size) ∧ len ≤ 9223372036854775807 := by
  rcases open_slice ht h with ⟨hcs, _⟩ | ⟨y, l, c, m, n, D, Pl, hcs, hb, hl, hm, hmm, rfl, hx⟩
  · simp at hcs
    obtain ⟨rfl, rfl, rfl⟩ := hcs
    exact ⟨⟨fun _ => (0, 0), fun i hi => absurd hi (by omega)⟩, by omega⟩
  · simp at hcs
    obtain ⟨rfl, rfl, rfl⟩ := hcs
    refine ⟨?_, by unfold maxLen at hm; omega⟩
    have each : ∀ i, i < len → ∃ q : Int × Int, w.cell? ((y.add (i * 3)).add 1) = some (.int .i64 q.1) ∧ w.cell? ((y.add (i * 3)).add 2) = some (.int .i64 q.2) := by
      intro i hi
      obtain ⟨cs', h1, h2⟩ := hx i (by rw [hmm, if_pos rfl]; omega)
      rw [ce] at h1
      obtain ⟨_, hlen, hcell⟩ := World.cells?_some h1
      obtain ⟨y0, y1, y2, k, _, _, g0, g1, g2⟩ := trod_struct3 he h2
      match cs', hlen with
      | [v0, v1, v2], _ =>
        rw [o1, c1] at g1
        rw [o2, c2] at g2
        obtain ⟨b1, hv1, _, _⟩ := DataW.trod_int t1 g1
        obtain ⟨b2, hv2, _, _⟩ := DataW.trod_int t2 g2
        have d1 := hcell 1 (by omega)
        have d2 := hcell 2 (by omega)
        simp at hv1 hv2 d1 d2
        subst_vars
        exact ⟨(b1, b2), d1, d2⟩
    obtain ⟨q, hq⟩ := choose_lt each
    refine ⟨q, fun i hi => ⟨y, rfl, (hq i hi).1, (hq i hi).2, ?_⟩⟩
    have := cell_lt (hq i hi).1
    have hbl : ((y.add (i * 3)).add 1).block = y.block := by unfold Addr.add; split <;> split <;> rfl
    rwa [hbl] at this
theorem back_row (n : Int) (a1 : Option Addr) (len1 cap1 : Nat) (F : Nat → Int × Int) (who : Int) (W : World) (wn : (Lit.int .u8 n).wf = true)
    (K1 : ∀ i, i < len1 → ∃ x, a1 = some x ∧ W.cell? ((x.add (i * 3)).add 1) = some (.int .i64 (F i).1) ∧ W.cell? ((x.add (i * 3)).add 2) = some (.int .i64 (F i).2) ∧ x.block < W.heap.size) (hlen : len1 ≤ 9223372036854775807) (ww : (Lit.int .u8 who).wf = true) :
    Calls Try.prog 4 #[.int .u8 n, .slice a1 len1 cap1, .int .u8 who] W fun e w' => e = .returned (.bool true) ∧ Below W.heap.size W w' := back_walk n a1 len1 cap1 F who W wn ww K1 hlen
end Go.Proofs.Ytpefbnhicfflpaa.Lk
