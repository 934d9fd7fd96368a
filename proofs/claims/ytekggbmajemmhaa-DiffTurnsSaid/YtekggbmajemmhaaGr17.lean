/- Diff: whether a graph is great. Condition: its nodes lie in memory. -/
import Derived.Test.YtekggbmajemmhaaGr16
namespace Go.Proofs.Ytekggbmajemmhaa.Gr
open Go.RowKit Go.Shelf Go.Maps Go.ChangeMaps Go.MapKept Go.Proofs.YtekggbmajemmhaaW.PrintWords Go.Proofs.YtekggbmajemmhaaW.PrintLast Go.Proofs.YtekggbmajemmhaaW.PrintMore
set_option linter.unusedSimpArgs false
set_option linter.unusedVariables false
set_option maxHeartbeats 8000000 in
set_option maxRecDepth 100000 in
theorem great_calls (w : World) (B : Nat) (hB : B ≤ w.heap.size) (rA nA : Option Addr) (rl rc nl nc : Nat) (NS : List Nd) (HN : Aside0 (NL w B nA nl NS)) (hnl : nl ≤ 9223372036854775807) : Calls Try.prog 8 #[.agg #[.slice rA rl rc, .slice nA nl nc]] w (fun (e : Ending) (W' : World) => ∃ b : Bool, e = .returned (.bool b) ∧ (b = false ↔ nl ≤ 40 ∧ rl ≤ 40 ∧ ∀ i, i < nl → (NS.getD i default).m ≤ 300 ∧ (NS.getD i default).n ≤ 300) ∧ Below w.heap.size w W') := by
  have HB := Aside0.mk (Below.refl w.heap.size w)
  go_enter Try.func8, Try.ntmps8
  go_upto_region 1 with ((with_reducible refine gate_dst (N := 1) rfl ?_); refine box_event ?hg (N := 1) ?hd (cs := #[.slice rA rl rc, .slice nA nl nc]) (t := 25) ?hr ?_; (case hd => rfl); (case hg => rfl); (case hr => first | (go_simp; done) | (go_simp; rfl)); intro g1 hg w1_ hbox hb; have n0_ := Aside0.mk (below_step (by repeat (first | (with_reducible first | exact HB.out | apply below_alloc | apply pw_below_drewN | apply below_drew1) | exact HB.out)) hb); have n1_ := Aside0.mk hbox; have n2_ := Aside0.mk ((by rw [hg]; exact (below_size (by repeat (first | (with_reducible first | exact HB.out | apply below_alloc | apply pw_below_drewN | apply below_drew1) | exact HB.out)))) : w.heap.size ≤ g1); clear HB; have HB := n0_; have BK1 := n1_; have GE1 := n2_; clear n0_ n1_ n2_; clear hb hbox hg)
  go_upto_region 2 with fail
  go_loopw [3] (fun v wr => ∃ i : Nat, i ≤ nl ∧ v = .int .i64 (i : Int) ∧ Aside0 (∀ j, j < i → (NS.getD j default).m ≤ 300 ∧ (NS.getD j default).n ≤ 300) ∧ Aside0 (Below w.heap.size w wr) ∧ Aside0 (wr.heap[g1]? = some (.cells #[.slice rA rl rc, .slice nA nl nc] 25 (0, 0)))) (fun v _ => nl - (intOf v).toNat)
  case atStart => exact ⟨0, by omega, rfl, Aside0.mk (fun j hj => absurd hj (by omega)), HB, BK1⟩
  case round =>
    clear HB BK1
    obtain ⟨i, hi_, rfl, SZ, HB, BK1⟩ := hrel
    have hc1_0 : wr.cell? ⟨g1, 0, none⟩ = some (.slice rA rl rc) := (blk_cell BK1.out 0).trans rfl
    have hc1_1 : wr.cell? ⟨g1, 1, none⟩ = some (.slice nA nl nc) := (blk_cell BK1.out 1).trans rfl
    by_cases hgo : i < nl
    · have hd : decide ((i : Int) < (nl : Int)) = true := decide_eq_true (by omega)
      obtain ⟨y, e, hy, h0, h1, h2, h3, h4, h5⟩ := (HN.out.kept (fun k hk => HB.out.block k (by omega)) : NL wr B nA nl NS).2 i hgo
      subst e
      have hS := SZ.out
      obtain ⟨q, hq⟩ : ∃ q, q = NS.getD i default := ⟨_, rfl⟩
      rw [← hq] at h0 h1 h2 h3 h4 h5
      have HQ := Aside0.mk hq
      have hz4 : wr.cell? ⟨(y.add (i * 6)).block, (y.add (i * 6)).off + 4, none⟩ = some (.slice q.A q.m q.c) := h4
      have hz5 : wr.cell? ⟨(y.add (i * 6)).block, (y.add (i * 6)).off + 5, none⟩ = some (.slice q.B q.n q.d) := h5
      clear h4 h5
      clear hq h0 h1 h2 h3 hS
      have hi0 : (0 : Int) ≤ (i : Int) := by omega
      have hi1 : (i : Int) < (nl : Int) := by omega
      by_cases hm : 300 < q.m
      · have hdm : decide ((q.m : Int) > 300) = true := decide_eq_true (by omega)
        have hdm' : decide ((300 : Int) < (q.m : Int)) = true := decide_eq_true (by omega)
        go_wp2
        go_ret
        exact ⟨true, rfl, ⟨fun h => absurd h (by decide), fun h => absurd (h.2.2 i hgo) (by rw [← HQ.out]; omega)⟩, HB.out⟩
      · have hdm : decide ((q.m : Int) > 300) = false := decide_eq_false (by omega)
        have hdm' : decide ((300 : Int) < (q.m : Int)) = false := decide_eq_false (by omega)
        by_cases hn : 300 < q.n
        · have hdn : decide ((q.n : Int) > 300) = true := decide_eq_true (by omega)
          have hdn' : decide ((300 : Int) < (q.n : Int)) = true := decide_eq_true (by omega)
          go_wp2
          go_ret
          exact ⟨true, rfl, ⟨fun h => absurd h (by decide), fun h => absurd (h.2.2 i hgo) (by rw [← HQ.out]; omega)⟩, HB.out⟩
        · have hdn : decide ((q.n : Int) > 300) = false := decide_eq_false (by omega)
          have hdn' : decide ((300 : Int) < (q.n : Int)) = false := decide_eq_false (by omega)
          have hwr : wrap64 ((i : Int) + 1) = ((i + 1 : Nat) : Int) := by unfold wrap64; omega
          go_wp2
          go_roundw
          case measure => (try rw [hwr]); simp [intOf]; omega
          case rel => exact ⟨i + 1, by omega, by first | rfl | rw [hwr], Aside0.mk (fun j hj => by rcases Nat.lt_succ_iff_lt_or_eq.1 hj with h | rfl; exact SZ.out j h; rw [← HQ.out]; omega), HB, BK1⟩
    · have hd : decide ((i : Int) < (nl : Int)) = false := decide_eq_false (by omega)
      have hin : i = nl := by omega
      by_cases hm : 40 < nl
      · have hdm : decide ((nl : Int) > 40) = true := decide_eq_true (by omega)
        have hdm' : decide ((40 : Int) < (nl : Int)) = true := decide_eq_true (by omega)
        go_wp2
        go_ret
        exact ⟨true, rfl, ⟨fun h => absurd h (by decide), fun h => by omega⟩, HB.out⟩
      · have hdm : decide ((nl : Int) > 40) = false := decide_eq_false (by omega)
        have hdm' : decide ((40 : Int) < (nl : Int)) = false := decide_eq_false (by omega)
        by_cases hn : 40 < rl
        · have hdn : decide ((rl : Int) > 40) = true := decide_eq_true (by omega)
          have hdn' : decide ((40 : Int) < (rl : Int)) = true := decide_eq_true (by omega)
          go_wp2
          go_ret
          exact ⟨true, rfl, ⟨fun h => absurd h (by decide), fun h => by omega⟩, HB.out⟩
        · have hdn : decide ((rl : Int) > 40) = false := decide_eq_false (by omega)
          have hdn' : decide ((40 : Int) < (rl : Int)) = false := decide_eq_false (by omega)
          go_wp2
          go_ret
          exact ⟨false, rfl, ⟨fun _ => ⟨by omega, by omega, fun j hj => SZ.out j (by omega)⟩, fun _ => rfl⟩, HB.out⟩
theorem great_iff {W : World} {B : Nat} {g : Gd} (HG : Aside0 (GM W B g)) : (g.nl ≤ 40 ∧ g.rl ≤ 40 ∧ ∀ i, i < g.nl → (g.NS.getD i default).m ≤ 300 ∧ (g.NS.getD i default).n ≤ 300) ↔ Small g := by
  have hl := HG.out.nds.1
  refine ⟨fun ⟨h1, h2, h3⟩ => ⟨h1, h2, fun n hn => ?_⟩, fun h => ⟨h.n40, h.r40, fun i hi => ?_⟩⟩
  · obtain ⟨i, hi, rfl⟩ := List.mem_iff_getElem.1 hn
    have := h3 i (by omega)
    rw [List.getD_eq_getElem?_getD, List.getElem?_eq_getElem hi] at this
    exact this
  · rw [List.getD_eq_getElem?_getD, List.getElem?_eq_getElem (show i < g.NS.length by omega)]
    exact h.sz _ (List.getElem_mem _)
theorem great_no (w : World) (B : Nat) (hB : B ≤ w.heap.size) (g : Gd) (HG : Aside0 (GM w B g)) (hnl : g.nl ≤ 9223372036854775807) (hs : Small g) : Calls Try.prog 8 #[.agg #[.slice g.rA g.rl g.rc, .slice g.nA g.nl g.nc]] w fun e W' => e = .returned (.bool false) ∧ Below w.heap.size w W' := by
  refine (great_calls w B hB g.rA g.nA g.rl g.rc g.nl g.nc g.NS (Aside0.mk HG.out.nds) hnl).mono ?_
  rintro e W' ⟨b, rfl, h, hb⟩
  rw [h.2 ((great_iff HG).2 hs)]
  exact ⟨rfl, hb⟩
theorem great_yes (w : World) (B : Nat) (hB : B ≤ w.heap.size) (g : Gd) (HG : Aside0 (GM w B g)) (hnl : g.nl ≤ 9223372036854775807) (hs : ¬ Small g) : Calls Try.prog 8 #[.agg #[.slice g.rA g.rl g.rc, .slice g.nA g.nl g.nc]] w fun e W' => e = .returned (.bool true) ∧ Below w.heap.size w W' := by
  refine (great_calls w B hB g.rA g.nA g.rl g.rc g.nl g.nc g.NS (Aside0.mk HG.out.nds) hnl).mono ?_
  rintro e W' ⟨b, rfl, h, hb⟩
  cases b with
  | true => exact ⟨rfl, hb⟩
  | false => exact absurd ((great_iff HG).1 (h.1 rfl)) hs
end Go.Proofs.Ytekggbmajemmhaa.Gr
