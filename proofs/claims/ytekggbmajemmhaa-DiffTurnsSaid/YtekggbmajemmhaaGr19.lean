/- A graph, read out of the arguments. No condition beyond the reading. -/
import Derived.Test.YtekggbmajemmhaaGr18
import Derived.Deep.SlicePairs
import Derived.Deep.Strs
import Derived.WalkKit
import Derived.ProofKit
import Derived.OpenShut
import Derived.Lib.SmallJoins
namespace Go.Proofs.Ytekggbmajemmhaa.Gr
open Go.ChangeShapes Go.WideShapes Go.ChangeAt Go.RowKit Go.Deep Go.Joins
set_option linter.unusedSimpArgs false
set_option linter.unusedVariables false
set_option maxRecDepth 100000
theorem open_il {H : Type} {enc : TypeId × Value → H} {P : Program} {w : World} {t e : TypeId} {k : IntKind} {fuel : Nat} {v : Value} {x : DataW H × List MemPlace} (ht : P.underlying t = some (.slice e)) (he : P.underlying e = some (.int k)) (hc : P.cellsOf e = 1)
    (h : DataW.trod enc P w 0 (fun _ => true) true fuel t [v] = some x) : ∃ A m c l, v = .slice A m c ∧ IL k w w.heap.size A m l ∧ (∀ x ∈ l, (Lit.int k x).wf = true) ∧ m ≤ 9223372036854775807 := by
  rcases open_ints ht he hc h with ⟨hcs, _⟩ | ⟨ad, l, c, zs, hcs, _, hl, hm, hz, _, hcell, hwz⟩
  · simp at hcs
    subst hcs
    exact ⟨none, 0, 0, [], rfl, ⟨rfl, fun i hi => absurd hi (by omega)⟩, by simp, by omega⟩
  · simp at hcs
    subst hcs
    have hzc : zs.length = c := by simpa using hz
    refine ⟨some ad, l, c, zs.take l, rfl, ⟨by rw [List.length_take]; omega, fun i hi => ?_⟩, fun x hx => hwz x (List.mem_of_mem_take hx), by unfold maxLen at hm; omega⟩
    have hci := hcell i (by omega)
    refine ⟨ad, rfl, ?_, ?_⟩
    · have := cell_lt hci
      rwa [add_block] at this
    · rw [hci, List.getD_eq_getElem?_getD, List.getD_eq_getElem?_getD, List.getElem?_take, if_pos hi]
theorem open_node {H : Type} {enc : TypeId × Value → H} {w : World} {fuel : Nat} {cs : List Value} {x : DataW H × List MemPlace} (h : DataW.trod enc Try.prog w 0 (fun _ => true) true fuel 40 cs = some x) (hlen : cs.length = 6) :
    ∃ n : Nd, cs = [.int .i64 n.adr, .int .i64 n.refs, .int .i64 n.sl, .int .i64 n.words, .slice n.A n.m n.c, .slice n.B n.n n.d] ∧ DL w w.heap.size n ∧ (Lit.int .i64 n.adr).wf = true ∧ ∀ x ∈ n.S, (Lit.int .i64 x).wf = true := by
  obtain ⟨y0, y1, y2, y3, k, _, _, g0, g1, g2, g3⟩ := trod_struct4 Try.underlying40 h
  match cs, hlen with
  | [v0, v1, v2, v3, v4, v5], _ =>
    have c3 : Try.prog.cellsOf 3 = 1 := by kernel_rfl
    have c37 : Try.prog.cellsOf 37 = 3 := by kernel_rfl
    have c22 : Try.prog.cellsOf 22 = 1 := by kernel_rfl
    have c38 : Try.prog.cellsOf 38 = 1 := by kernel_rfl
    have c42 : Try.prog.cellsOf 42 = 1 := by kernel_rfl
    simp only [c3, c37, c22, c38] at g0 g1 g2 g3
    obtain ⟨z0, z1, z2, k2, _, _, e0, e1, e2⟩ := trod_struct3 Try.underlying37 g1
    simp only [c3] at e0 e1 e2
    obtain ⟨b0, hv0, _, wf0⟩ := DataW.trod_int Try.underlying3 g0
    obtain ⟨b1, hv1, _, _⟩ := DataW.trod_int Try.underlying3 e0
    obtain ⟨b2, hv2, _, _⟩ := DataW.trod_int Try.underlying3 e1
    obtain ⟨b3, hv3, _, _⟩ := DataW.trod_int Try.underlying3 e2
    obtain ⟨A, m, c, S, hv4, hS, wS, _⟩ := open_il Try.underlying22 Try.underlying3 c3 (v := v4) (by simpa using g2)
    obtain ⟨B, n, d, D, hv5, hD, _, _⟩ := open_il Try.underlying38 Try.underlying42 c42 (v := v5) (by simpa using g3)
    simp at hv0 hv1 hv2 hv3
    subst_vars
    exact ⟨⟨b0, b1, b2, b3, A, m, c, B, n, d, S, D⟩, rfl, ⟨hS, hD⟩, wf0, wS⟩
theorem open_nodes {H : Type} {enc : TypeId × Value → H} {w : World} {fuel : Nat} {v : Value} {x : DataW H × List MemPlace} (h : DataW.trod enc Try.prog w 0 (fun _ => true) true fuel 23 [v] = some x) :
    ∃ A m c NS, v = .slice A m c ∧ NL w w.heap.size A m NS ∧ (∀ n ∈ NS, DL w w.heap.size n) ∧ (∀ n ∈ NS, (Lit.int .i64 n.adr).wf = true) ∧ (∀ n ∈ NS, ∀ x ∈ n.S, (Lit.int .i64 x).wf = true) ∧ m ≤ 9223372036854775807 := by
  rcases open_slice Try.underlying23 h with ⟨hcs, _⟩ | ⟨y, l, c, m, n, D, Pl, hcs, hb, hl, hm, hmm, rfl, hx⟩
  · simp at hcs
    subst hcs
    exact ⟨none, 0, 0, [], rfl, ⟨rfl, fun i hi => absurd hi (by omega)⟩, by simp, by simp, by simp, by omega⟩
  · simp at hcs
    subst hcs
    have c40 : Try.prog.cellsOf 40 = 6 := by kernel_rfl
    have each : ∀ i, i < l → ∃ q : Nd, (w.cell? ((y.add (i * 6)).add 0) = some (.int .i64 q.adr) ∧ w.cell? ((y.add (i * 6)).add 1) = some (.int .i64 q.refs) ∧ w.cell? ((y.add (i * 6)).add 2) = some (.int .i64 q.sl) ∧ w.cell? ((y.add (i * 6)).add 3) = some (.int .i64 q.words) ∧
        w.cell? ((y.add (i * 6)).add 4) = some (.slice q.A q.m q.c) ∧ w.cell? ((y.add (i * 6)).add 5) = some (.slice q.B q.n q.d)) ∧ DL w w.heap.size q ∧ (Lit.int .i64 q.adr).wf = true ∧ ∀ x ∈ q.S, (Lit.int .i64 x).wf = true := by
      intro i hi
      obtain ⟨cs', h1, h2⟩ := hx i (by rw [hmm, if_pos rfl]; omega)
      rw [c40] at h1
      obtain ⟨_, hlen, hcell⟩ := World.cells?_some h1
      obtain ⟨q, hq, hD, w1, w2⟩ := open_node h2 hlen
      have d0 := hcell 0 (by omega)
      have d1 := hcell 1 (by omega)
      have d2 := hcell 2 (by omega)
      have d3 := hcell 3 (by omega)
      have d4 := hcell 4 (by omega)
      have d5 := hcell 5 (by omega)
      subst hq
      simp only [List.getElem?_cons_zero, List.getElem?_cons_succ] at d0 d1 d2 d3 d4 d5
      exact ⟨q, ⟨d0, d1, d2, d3, d4, d5⟩, hD, w1, w2⟩
    obtain ⟨q, hq⟩ := choose_lt each
    have hmem : ∀ n, n ∈ (List.range l).map q → ∃ i, i < l ∧ q i = n := fun n hn => by
      obtain ⟨i, hi, e⟩ := List.mem_map.1 hn
      exact ⟨i, List.mem_range.1 hi, e⟩
    refine ⟨some y, l, c, (List.range l).map q, rfl, ⟨by simp, fun i hi => ⟨y, rfl, ?_, ?_⟩⟩, fun n hn => ?_, fun n hn => ?_, fun n hn => ?_, by unfold maxLen at hm; omega⟩
    · have := cell_lt (hq i hi).1.1
      rwa [add_block, add_block] at this
    · have e : ((List.range l).map q).getD i default = q i := by simp [List.getD_eq_getElem?_getD, hi]
      rw [e]
      exact (hq i hi).1
    · obtain ⟨i, hi, rfl⟩ := hmem n hn
      exact (hq i hi).2.1
    · obtain ⟨i, hi, rfl⟩ := hmem n hn
      exact (hq i hi).2.2.1
    · obtain ⟨i, hi, rfl⟩ := hmem n hn
      exact (hq i hi).2.2.2
theorem open_graph {H : Type} {enc : TypeId × Value → H} {w : World} {r : Reach} {b0 : Nat} {v : Value} {d : DataW H} {p : List MemPlace} (hv : Value.okWide Try.prog w r b0 25 v) (h : DataW.Trod enc Try.prog w 0 (fun _ => true) true 25 v d p) :
    ∃ g : Gd, v = g.val ∧ GM w w.heap.size g ∧ g.nl ≤ 9223372036854775807 := by
  obtain ⟨v0, v1, y0, y1, n, rfl, _, _, g0, g1⟩ := open_agg2 Try.underlying25 (by kernel_rfl) (by kernel_rfl) hv h
  obtain ⟨rA, rl, rc, R, rfl, hR, wR, _⟩ := open_il Try.underlying22 Try.underlying3 (by kernel_rfl) g0
  obtain ⟨nA, nl, nc, NS, rfl, hN, hD, w1, w2, hm⟩ := open_nodes g1
  exact ⟨⟨rA, rl, rc, R, nA, nl, nc, NS⟩, rfl, ⟨hR, hN, hD, w1, wR, w2⟩, hm⟩
theorem turns_row (ga gb : Gd) (W : World) (wa : GM W W.heap.size ga) (ya : ga.nl ≤ 9223372036854775807) (wb : GM W W.heap.size gb) (yb : gb.nl ≤ 9223372036854775807) : Calls Try.prog 5 #[ga.val, gb.val] W fun e w' => e = .returned (.bool true) ∧ Below W.heap.size W w' :=
  turns_calls W W.heap.size (Nat.le_refl _) ga gb ⟨wa⟩ ⟨wb⟩ ya yb
end Go.Proofs.Ytekggbmajemmhaa.Gr
