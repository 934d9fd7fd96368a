/- PmemKeeps: a slice of operations, read out of the arguments. No condition beyond the reading. -/
import Derived.Test.YtpefbnhicfflpaaPm18
import Derived.Test.YtpefbnhicfflpaaLk5
import Derived.Lib.SmallJoins
namespace Go.Proofs.Ytpefbnhicfflpaa.Pm
open Go.ChangeShapes Go.WideShapes Go.ChangeAt Go.RowKit Go.Deep Go.Joins
set_option linter.unusedSimpArgs false
set_option linter.unusedVariables false
theorem open_picks {H : Type} {enc : TypeId × Value → H} {P : Program} {w : World} {t e : TypeId} {fuel : Nat} {v : Value} {x : DataW H × List MemPlace} (ht : P.underlying t = some (.slice e)) (he : P.underlying e = some (.int .i64)) (hc : P.cellsOf e = 1)
    (h : DataW.trod enc P w 0 (fun _ => true) true fuel t [v] = some x) : ∃ A m c, v = .slice A m c ∧ PL w w.heap.size A m ∧ m ≤ 9223372036854775807 := by
  rcases open_ints ht he hc h with ⟨hcs, _⟩ | ⟨ad, l, c, zs, hcs, _, hl, hm, hz, _, hcell, hwz⟩
  · simp at hcs
    subst hcs
    exact ⟨none, 0, 0, rfl, PL_nil _ _, by omega⟩
  · simp at hcs
    subst hcs
    refine ⟨some ad, l, c, rfl, ⟨fun _ => ⟨ad, rfl⟩, fun ad' had i hi => ?_⟩, by unfold maxLen at hm; omega⟩
    cases had
    have hzc : zs.length = c := by simpa using hz
    have hi' : i < zs.length := by omega
    have hci := hcell i hi'
    refine ⟨?_, zs.getD i 0, hci⟩
    have := Lk.cell_lt hci
    have hbl : (ad.add i).block = ad.block := by unfold Addr.add; split <;> rfl
    rwa [hbl] at this
theorem open_ops4 {H : Type} {enc : TypeId × Value → H} {P : Program} {w : World} {t e pe : TypeId} {f0 f1 f2 f3 : Field} {fuel : Nat} {a : Option Addr} {len cap : Nat} {x : DataW H × List MemPlace} (ht : P.underlying t = some (.slice e)) (he : P.underlying e = some (.struct #[f0, f1, f2, f3]))
    (ce : P.cellsOf e = 4) (o0 : f0.offset = 0) (o1 : f1.offset = 1) (o2 : f2.offset = 2) (o3 : f3.offset = 3) (c0 : P.cellsOf f0.type = 1) (c1 : P.cellsOf f1.type = 1) (c2 : P.cellsOf f2.type = 1) (c3 : P.cellsOf f3.type = 1) (t0 : P.underlying f0.type = some (.int .u8)) (t1 : P.underlying f1.type = some (.int .i64)) (t2 : P.underlying f2.type = some (.int .u64)) (t3 : P.underlying f3.type = some (.slice pe)) (tp : P.underlying pe = some (.int .i64)) (cp : P.cellsOf pe = 1)
    (h : DataW.trod enc P w 0 (fun _ => true) true fuel t [.slice a len cap] = some x) :
    (∃ F : Nat → OpV, OL w w.heap.size a len F) ∧ len ≤ 9223372036854775807 := by
  rcases open_slice ht h with ⟨hcs, _⟩ | ⟨y, l, c, m, n, D, Pl, hcs, hb, hl, hm, hmm, rfl, hx⟩
  · simp at hcs
    obtain ⟨rfl, rfl, rfl⟩ := hcs
    exact ⟨⟨fun _ => default, fun i hi => absurd hi (by omega)⟩, by omega⟩
  · simp at hcs
    obtain ⟨rfl, rfl, rfl⟩ := hcs
    refine ⟨?_, by unfold maxLen at hm; omega⟩
    have each : ∀ i, i < len → ∃ q : OpV, w.cell? ((y.add (i * 4)).add 0) = some (.int .u8 q.kd) ∧ w.cell? ((y.add (i * 4)).add 1) = some (.int .i64 q.a) ∧ w.cell? ((y.add (i * 4)).add 2) = some (.int .u64 q.x) ∧ w.cell? ((y.add (i * 4)).add 3) = some (.slice q.A q.m q.c) ∧ 0 ≤ q.kd ∧ PL w w.heap.size q.A q.m := by
      intro i hi
      obtain ⟨cs', h1, h2⟩ := hx i (by rw [hmm, if_pos rfl]; omega)
      rw [ce] at h1
      obtain ⟨_, hlen, hcell⟩ := World.cells?_some h1
      obtain ⟨y0, y1, y2, y3, k, _, _, g0, g1, g2, g3⟩ := trod_struct4 he h2
      match cs', hlen with
      | [v0, v1, v2, v3], _ =>
        rw [o0, c0] at g0
        rw [o1, c1] at g1
        rw [o2, c2] at g2
        rw [o3, c3] at g3
        obtain ⟨b0, hv0, _, wf0⟩ := DataW.trod_int t0 g0
        obtain ⟨b1, hv1, _, _⟩ := DataW.trod_int t1 g1
        obtain ⟨b2, hv2, _, _⟩ := DataW.trod_int t2 g2
        obtain ⟨A, m, c, hv3, hPL, _⟩ := open_picks t3 tp cp (v := v3) (by simpa using g3)
        have d0 := hcell 0 (by omega)
        have d1 := hcell 1 (by omega)
        have d2 := hcell 2 (by omega)
        have d3 := hcell 3 (by omega)
        simp at hv0 hv1 hv2 d0 d1 d2 d3
        subst_vars
        have hk0 : 0 ≤ b0 := by
          have := wf0
          simp [Lit.wf, IntKind.min, IntKind.max, IntKind.signed, IntKind.bits] at this
          omega
        exact ⟨⟨b0, b1, b2, A, m, c⟩, d0, d1, d2, d3, hk0, hPL⟩
    obtain ⟨q, hq⟩ := choose_lt each
    refine ⟨q, fun i hi => ⟨y, rfl, ?_, hq i hi⟩⟩
    have := Lk.cell_lt (hq i hi).1
    have hbl : ((y.add (i * 4)).add 0).block = y.block := by unfold Addr.add; split <;> split <;> rfl
    rwa [hbl] at this
theorem keeps_row (a1 : Option Addr) (len1 cap1 : Nat) (F1 : Nat → OpV) (u x : Int) (a2 : Option Addr) (len2 cap2 : Nat) (F2 : Nat → OpV) (A : Option Addr) (m c : Nat) (W : World) (OL1 : OL W W.heap.size a1 len1 F1) (hlen1 : len1 ≤ 9223372036854775807) (wu : (Lit.int .u8 u).wf = true) (wx : (Lit.int .u64 x).wf = true) (OL2 : OL W W.heap.size a2 len2 F2) (hlen2 : len2 ≤ 9223372036854775807) (hPL : PL W W.heap.size A m) (hm : m ≤ 9223372036854775807) :
    Calls Try.prog 5 #[.slice a1 len1 cap1, .int .u8 u, .int .u64 x, .slice a2 len2 cap2, .slice A m c] W fun e w' => e = .returned (.bool true) ∧ Below W.heap.size W w' := by
  have hu : 0 ≤ u ∧ u < 256 := by
    have := wu
    simp [Lit.wf, IntKind.min, IntKind.max, IntKind.signed, IntKind.bits] at this
    omega
  exact keeps_at W a1 len1 cap1 F1 ⟨OL1⟩ u x hu (u % 64).toNat ⟨by omega⟩ a2 len2 cap2 F2 ⟨OL2⟩ A m c ⟨hPL⟩ hlen1 hlen2
end Go.Proofs.Ytpefbnhicfflpaa.Pm
