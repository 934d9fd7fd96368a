/- Diff: graph.Walk, diff.nodes. Conditions: the graph lies in memory; at most 40 nodes and roots, of at most 300 slots and data. -/
import Derived.Test.YtekggbmajemmhaaGr6
namespace Go.Proofs.Ytekggbmajemmhaa.Gr
open Go.RowKit Go.Shelf Go.Maps Go.ChangeMaps Go.MapKept Go.Proofs.YtekggbmajemmhaaW.PrintWords Go.Proofs.YtekggbmajemmhaaW.PrintLast Go.Proofs.YtekggbmajemmhaaW.PrintMore
set_option linter.unusedSimpArgs false
set_option linter.unusedVariables false
attribute [local go_sem] Oper.semAt_some
/-- No more than the statements look at. -/
structure Small (g : Gd) : Prop where
  n40 : g.nl ≤ 40
  r40 : g.rl ≤ 40
  sz : ∀ n ∈ g.NS, n.m ≤ 300 ∧ n.n ≤ 300
set_option maxHeartbeats 8000000 in
set_option maxRecDepth 100000 in
theorem walk_calls (w : World) (g : Gd) (B : Nat) (hB : B ≤ w.heap.size) (HG : Aside0 (GM w B g)) (hsm : Small g) : Calls Try.prog 34 #[.agg #[.slice g.rA g.rl g.rc, .slice g.nA g.nl g.nc]] w fun e W' => ∃ v, e = .returned v ∧ W'.ownsRow w.heap.size 3 1 v (walkR g.NS g.R).length ((walkR g.NS g.R).map (Value.int .i64)) ∧ Below w.heap.size w W' := by
  have HB := Aside0.mk (Below.refl w.heap.size w)
  have hl := HG.out.nds.1
  go_enter Try.func34, Try.ntmps34
  go_upto_region 1 with ((with_reducible refine gate_dst (N := 1) rfl ?_); refine box_event ?hg (N := 1) ?hd (cs := #[.slice g.rA g.rl g.rc, .slice g.nA g.nl g.nc]) (t := 25) ?hr ?_; (case hd => rfl); (case hg => rfl); (case hr => first | (go_simp; done) | (go_simp; rfl)); intro g1 hg w1_ hbox hb; have n0_ := Aside0.mk (below_step (by repeat (first | (with_reducible first | exact HB.out | apply below_alloc | apply pw_below_drewN | apply below_drew1) | exact HB.out)) hb); have n1_ := Aside0.mk hbox; have n2_ := Aside0.mk ((by rw [hg]; exact (below_size (by repeat (first | (with_reducible first | exact HB.out | apply below_alloc | apply pw_below_drewN | apply below_drew1) | exact HB.out)))) : w.heap.size ≤ g1); clear HB; have HB := n0_; have BK1 := n1_; have GE1 := n2_; clear n0_ n1_ n2_; clear hb hbox hg)
  have hc1_0 : w1_.cell? ⟨g1, 0, none⟩ = some (.slice g.rA g.rl g.rc) := (blk_cell BK1.out 0).trans rfl
  have hf1_0 := blk_frozen BK1.out 0
  have hc1_1 : w1_.cell? ⟨g1, 1, none⟩ = some (.slice g.nA g.nl g.nc) := (blk_cell BK1.out 1).trans rfl
  have hf1_1 := blk_frozen BK1.out 1
  go_upto_region 2 with (first | ((with_reducible refine gate_dst (N := 3) rfl ?_); refine box_event ?hg (N := 3) ?hd (cs := #[.map none]) (t := 46) ?hr ?_; (case hd => rfl); (case hg => rfl); (case hr => first | (go_simp; done) | (go_simp; rfl)); intro g3 hg w3_ hbox hb; have n0_ := Aside0.mk (below_step (by repeat (first | (with_reducible first | exact HB.out | apply below_alloc | apply pw_below_drewN | apply below_drew1 | refine below_set ?_ GE1.out) | exact HB.out)) hb); have n1_ := Aside0.mk (blk_below (g := g1) (o := .cells #[.slice g.rA g.rl g.rc, .slice g.nA g.nl g.nc] 25 (0, 0)) (by (with_reducible repeat (first | refine blk_drewN ?_ _ | refine blk_drew ?_ | refine blk_alloc ?_ _)); exact BK1.out) hb); have n2_ := Aside0.mk (owns_below (b := m1) (by (with_reducible repeat (first | refine owns_drewN ?_ _ | refine owns_drew ?_ | refine owns_alloc ?_ _)); exact MP1.out) hb); have n3_ := Aside0.mk hbox; have n4_ := Aside0.mk ((by rw [hg]; exact (below_size (by repeat (first | (with_reducible first | exact HB.out | apply below_alloc | apply pw_below_drewN | apply below_drew1 | refine below_set ?_ GE1.out) | exact HB.out)))) : w.heap.size ≤ g3); have n5_ := Aside0.mk ((by rw [hg]; exact Nat.ne_of_lt (blk_lt (g := g1) (o := .cells #[.slice g.rA g.rl g.rc, .slice g.nA g.nl g.nc] 25 (0, 0)) (by (with_reducible repeat (first | refine blk_drewN ?_ _ | refine blk_drew ?_ | refine blk_alloc ?_ _)); exact BK1.out))) : g1 ≠ g3); have n6_ := Aside0.mk ((by rw [hg]; exact Nat.ne_of_lt (World.ownsMap.lt (b := m1) (by (with_reducible repeat (first | refine owns_drewN ?_ _ | refine owns_drew ?_ | refine owns_alloc ?_ _)); exact MP1.out))) : m1 ≠ g3); clear HB; clear BK1; clear MP1; have HB := n0_; have BK1 := n1_; have MP1 := n2_; have BK3 := n3_; have GE3 := n4_; have NE1_3 := n5_; have NM1_3 := n6_; clear n0_ n1_ n2_ n3_ n4_ n5_ n6_; clear hb hbox hg; have hc3_0 : w3_.cell? ⟨g3, 0, none⟩ = some (.map none) := (blk_cell BK3.out 0).trans rfl; have hf3_0 := blk_frozen BK3.out 0) | ((with_reducible refine gate_callee (f := 53) rfl ?_); refine goesL_ (some 8) rfl rfl Try.func53 (by kernel_rfl) rfl #[.agg #[.slice g.rA g.rl g.rc, .slice g.nA g.nl g.nc]] rfl (by (try simp only [List.map_toArray, List.map_cons, List.map_nil]); first | done | rfl | (simp only [List.length_drop, List.length_take]; rfl)) ?_; (with_reducible refine (gnodes_calls _ g B (Nat.le_trans hB HB.out.size) (Aside0.mk (HG.out.kept (fun k hk => HB.out.block k (by omega)))) hsm.n40).mono ?_); rintro e w2_ ⟨m1, rfl, hm1, hgm1, hb⟩; refine ⟨_, rfl, ?_⟩; have HB0 := HB; have n0_ := Aside0.mk (below_step (by repeat (first | (with_reducible first | exact HB.out | apply below_alloc | apply pw_below_drewN | apply below_drew1 | refine below_set ?_ GE1.out) | exact HB.out)) hb); have n1_ := Aside0.mk (blk_below (g := g1) (o := .cells #[.slice g.rA g.rl g.rc, .slice g.nA g.nl g.nc] 25 (0, 0)) (by (with_reducible repeat (first | refine blk_drewN ?_ _ | refine blk_drew ?_ | refine blk_alloc ?_ _)); exact BK1.out) hb); clear HB; clear BK1; have HB := n0_; have BK1 := n1_; clear n0_ n1_; clear hb; have MP1 := Aside0.mk hm1; have GM1 := Aside0.mk (Nat.le_trans (below_size HB0.out) hgm1); clear hm1 hgm1))
  generalize hw_ : (w3_.setCell ⟨g3, 0, none⟩ (.map (some m1))) = w4_
  have n0_ := Aside0.mk (show Below w.heap.size w w4_ from by rw [← hw_]; exact (by repeat (first | (with_reducible first | exact HB.out | apply below_alloc | apply pw_below_drewN | apply below_drew1 | refine below_set ?_ GE1.out | refine below_set ?_ GE3.out) | exact HB.out)))
  have n1_ := Aside0.mk (show w4_.heap[g1]? = some (.cells #[.slice g.rA g.rl g.rc, .slice g.nA g.nl g.nc] 25 (0, 0)) from by rw [← hw_]; refine blk_far ?_ NE1_3.out _; exact BK1.out)
  have n2_ := Aside0.mk (show w4_.heap[g3]? = some (.cells #[.map (some m1)] 46 (0, 0)) from by rw [← hw_]; exact (by (with_reducible repeat (first | refine blk_drewN ?_ _ | refine blk_drew ?_ | refine blk_alloc ?_ _)); refine blk_put (cs := #[.map none]) ?_ 0 _ rfl; (with_reducible repeat (first | refine blk_drewN ?_ _ | refine blk_drew ?_ | refine blk_alloc ?_ _)); exact BK3.out))
  have n3_ := Aside0.mk (show (w4_).ownsMap Try.prog 3 nR m1 40 (MD g.NS) from by rw [← hw_]; refine owns_far ?_ NM1_3.out _; exact MP1.out)
  clear HB
  clear BK1
  clear BK3
  clear MP1
  have HB := n0_
  have BK1 := n1_
  have BK3 := n2_
  have MP1 := n3_
  clear n0_ n1_ n2_ n3_
  clear hw_
  go_upto_region 3 with ((with_reducible refine gate_dst (N := 4) rfl ?_); refine box_event ?hg (N := 4) ?hd (cs := #[.slice none 0 0]) (t := 22) ?hr ?_; (case hd => rfl); (case hg => rfl); (case hr => first | (go_simp; done) | (go_simp; rfl)); intro g4 hg w5_ hbox hb; have n0_ := Aside0.mk (below_step (by repeat (first | (with_reducible first | exact HB.out | apply below_alloc | apply pw_below_drewN | apply below_drew1 | refine below_set ?_ GE1.out | refine below_set ?_ GE3.out) | exact HB.out)) hb); have n1_ := Aside0.mk (blk_below (g := g1) (o := .cells #[.slice g.rA g.rl g.rc, .slice g.nA g.nl g.nc] 25 (0, 0)) (by (with_reducible repeat (first | refine blk_drewN ?_ _ | refine blk_drew ?_ | refine blk_alloc ?_ _)); exact BK1.out) hb); have n2_ := Aside0.mk (blk_below (g := g3) (o := .cells #[.map (some m1)] 46 (0, 0)) (by (with_reducible repeat (first | refine blk_drewN ?_ _ | refine blk_drew ?_ | refine blk_alloc ?_ _)); exact BK3.out) hb); have n3_ := Aside0.mk (owns_below (b := m1) (by (with_reducible repeat (first | refine owns_drewN ?_ _ | refine owns_drew ?_ | refine owns_alloc ?_ _)); exact MP1.out) hb); have n4_ := Aside0.mk hbox; have n5_ := Aside0.mk ((by rw [hg]; exact (below_size (by repeat (first | (with_reducible first | exact HB.out | apply below_alloc | apply pw_below_drewN | apply below_drew1 | refine below_set ?_ GE1.out | refine below_set ?_ GE3.out) | exact HB.out)))) : w.heap.size ≤ g4); have n6_ := Aside0.mk ((by rw [hg]; exact Nat.ne_of_lt (blk_lt (g := g1) (o := .cells #[.slice g.rA g.rl g.rc, .slice g.nA g.nl g.nc] 25 (0, 0)) (by (with_reducible repeat (first | refine blk_drewN ?_ _ | refine blk_drew ?_ | refine blk_alloc ?_ _)); exact BK1.out))) : g1 ≠ g4); have n7_ := Aside0.mk ((by rw [hg]; exact Nat.ne_of_lt (blk_lt (g := g3) (o := .cells #[.map (some m1)] 46 (0, 0)) (by (with_reducible repeat (first | refine blk_drewN ?_ _ | refine blk_drew ?_ | refine blk_alloc ?_ _)); exact BK3.out))) : g3 ≠ g4); have n8_ := Aside0.mk ((by rw [hg]; exact Nat.ne_of_lt (World.ownsMap.lt (b := m1) (by (with_reducible repeat (first | refine owns_drewN ?_ _ | refine owns_drew ?_ | refine owns_alloc ?_ _)); exact MP1.out))) : m1 ≠ g4); clear HB; clear BK1; clear BK3; clear MP1; have HB := n0_; have BK1 := n1_; have BK3 := n2_; have MP1 := n3_; have BK4 := n4_; have GE4 := n5_; have NE1_4 := n6_; have NE3_4 := n7_; have NM1_4 := n8_; clear n0_ n1_ n2_ n3_ n4_ n5_ n6_ n7_ n8_; clear hb hbox hg)
  go_wp2
  rw [run_makeMap]
  obtain ⟨w6_, hw_⟩ : ∃ x, x = w5_.alloc (.map #[] 0) := ⟨_, rfl⟩
  obtain ⟨m2, hm_⟩ : ∃ x, x = w5_.heap.size := ⟨_, rfl⟩
  rw [← hw_, ← hm_]
  have hb : Below w5_.heap.size w5_ w6_ := by rw [hw_]; exact below_alloc (Below.refl _ _) _
  have n0_ := Aside0.mk (below_step (by repeat (first | (with_reducible first | exact HB.out | apply below_alloc | apply pw_below_drewN | apply below_drew1 | refine below_set ?_ GE1.out | refine below_set ?_ GE3.out | refine below_set ?_ GE4.out) | exact HB.out)) hb)
  have n1_ := Aside0.mk (blk_below (g := g1) (o := .cells #[.slice g.rA g.rl g.rc, .slice g.nA g.nl g.nc] 25 (0, 0)) (by (with_reducible repeat (first | refine blk_drewN ?_ _ | refine blk_drew ?_ | refine blk_alloc ?_ _)); exact BK1.out) hb)
  have n2_ := Aside0.mk (blk_below (g := g3) (o := .cells #[.map (some m1)] 46 (0, 0)) (by (with_reducible repeat (first | refine blk_drewN ?_ _ | refine blk_drew ?_ | refine blk_alloc ?_ _)); exact BK3.out) hb)
  have n3_ := Aside0.mk (blk_below (g := g4) (o := .cells #[.slice none 0 0] 22 (0, 0)) (by (with_reducible repeat (first | refine blk_drewN ?_ _ | refine blk_drew ?_ | refine blk_alloc ?_ _)); exact BK4.out) hb)
  have n4_ := Aside0.mk (owns_below (b := m1) (by (with_reducible repeat (first | refine owns_drewN ?_ _ | refine owns_drew ?_ | refine owns_alloc ?_ _)); exact MP1.out) hb)
  have n5_ := Aside0.mk (show (w6_).ownsMap Try.prog 3 (plainElem (H := Value) Try.prog 4) m2 0 (.map []) from by rw [hw_, hm_]; exact World.ownsMap_made _ _ _ _)
  have GM2 := Aside0.mk (show w.heap.size ≤ m2 from by rw [hm_]; exact below_size HB.out)
  have NG1_2 := Aside0.mk (show g1 ≠ m2 from by rw [hm_]; exact Nat.ne_of_lt (blk_lt BK1.out))
  have NG3_2 := Aside0.mk (show g3 ≠ m2 from by rw [hm_]; exact Nat.ne_of_lt (blk_lt BK3.out))
  have NG4_2 := Aside0.mk (show g4 ≠ m2 from by rw [hm_]; exact Nat.ne_of_lt (blk_lt BK4.out))
  have NMM1_2 := Aside0.mk (show m1 ≠ m2 from by rw [hm_]; exact Nat.ne_of_lt (World.ownsMap.lt MP1.out))
  clear HB
  clear BK1
  clear BK3
  clear BK4
  clear MP1
  have HB := n0_
  have BK1 := n1_
  have BK3 := n2_
  have BK4 := n3_
  have MP1 := n4_
  have MP2 := n5_
  clear n0_ n1_ n2_ n3_ n4_ n5_
  clear hb hw_ hm_
  go_upto_region 4 with ((with_reducible refine gate_dst (N := 5) rfl ?_); refine box_event ?hg (N := 5) ?hd (cs := #[.map none]) (t := 90) ?hr ?_; (case hd => rfl); (case hg => rfl); (case hr => first | (go_simp; done) | (go_simp; rfl)); intro g5 hg w7_ hbox hb; have n0_ := Aside0.mk (below_step (by repeat (first | (with_reducible first | exact HB.out | apply below_alloc | apply pw_below_drewN | apply below_drew1 | refine below_set ?_ GE1.out | refine below_set ?_ GE3.out | refine below_set ?_ GE4.out) | exact HB.out)) hb); have n1_ := Aside0.mk (blk_below (g := g1) (o := .cells #[.slice g.rA g.rl g.rc, .slice g.nA g.nl g.nc] 25 (0, 0)) (by (with_reducible repeat (first | refine blk_drewN ?_ _ | refine blk_drew ?_ | refine blk_alloc ?_ _)); exact BK1.out) hb); have n2_ := Aside0.mk (blk_below (g := g3) (o := .cells #[.map (some m1)] 46 (0, 0)) (by (with_reducible repeat (first | refine blk_drewN ?_ _ | refine blk_drew ?_ | refine blk_alloc ?_ _)); exact BK3.out) hb); have n3_ := Aside0.mk (blk_below (g := g4) (o := .cells #[.slice none 0 0] 22 (0, 0)) (by (with_reducible repeat (first | refine blk_drewN ?_ _ | refine blk_drew ?_ | refine blk_alloc ?_ _)); exact BK4.out) hb); have n4_ := Aside0.mk (owns_below (b := m1) (by (with_reducible repeat (first | refine owns_drewN ?_ _ | refine owns_drew ?_ | refine owns_alloc ?_ _)); exact MP1.out) hb); have n5_ := Aside0.mk (owns_below (b := m2) (by (with_reducible repeat (first | refine owns_drewN ?_ _ | refine owns_drew ?_ | refine owns_alloc ?_ _)); exact MP2.out) hb); have n6_ := Aside0.mk hbox; have n7_ := Aside0.mk ((by rw [hg]; exact (below_size (by repeat (first | (with_reducible first | exact HB.out | apply below_alloc | apply pw_below_drewN | apply below_drew1 | refine below_set ?_ GE1.out | refine below_set ?_ GE3.out | refine below_set ?_ GE4.out) | exact HB.out)))) : w.heap.size ≤ g5); have n8_ := Aside0.mk ((by rw [hg]; exact Nat.ne_of_lt (blk_lt (g := g1) (o := .cells #[.slice g.rA g.rl g.rc, .slice g.nA g.nl g.nc] 25 (0, 0)) (by (with_reducible repeat (first | refine blk_drewN ?_ _ | refine blk_drew ?_ | refine blk_alloc ?_ _)); exact BK1.out))) : g1 ≠ g5); have n9_ := Aside0.mk ((by rw [hg]; exact Nat.ne_of_lt (blk_lt (g := g3) (o := .cells #[.map (some m1)] 46 (0, 0)) (by (with_reducible repeat (first | refine blk_drewN ?_ _ | refine blk_drew ?_ | refine blk_alloc ?_ _)); exact BK3.out))) : g3 ≠ g5); have n10_ := Aside0.mk ((by rw [hg]; exact Nat.ne_of_lt (blk_lt (g := g4) (o := .cells #[.slice none 0 0] 22 (0, 0)) (by (with_reducible repeat (first | refine blk_drewN ?_ _ | refine blk_drew ?_ | refine blk_alloc ?_ _)); exact BK4.out))) : g4 ≠ g5); have n11_ := Aside0.mk ((by rw [hg]; exact Nat.ne_of_lt (World.ownsMap.lt (b := m1) (by (with_reducible repeat (first | refine owns_drewN ?_ _ | refine owns_drew ?_ | refine owns_alloc ?_ _)); exact MP1.out))) : m1 ≠ g5); have n12_ := Aside0.mk ((by rw [hg]; exact Nat.ne_of_lt (World.ownsMap.lt (b := m2) (by (with_reducible repeat (first | refine owns_drewN ?_ _ | refine owns_drew ?_ | refine owns_alloc ?_ _)); exact MP2.out))) : m2 ≠ g5); clear HB; clear BK1; clear BK3; clear BK4; clear MP1; clear MP2; have HB := n0_; have BK1 := n1_; have BK3 := n2_; have BK4 := n3_; have MP1 := n4_; have MP2 := n5_; have BK5 := n6_; have GE5 := n7_; have NE1_5 := n8_; have NE3_5 := n9_; have NE4_5 := n10_; have NM1_5 := n11_; have NM2_5 := n12_; clear n0_ n1_ n2_ n3_ n4_ n5_ n6_ n7_ n8_ n9_ n10_ n11_ n12_; clear hb hbox hg; have hc5_0 : w7_.cell? ⟨g5, 0, none⟩ = some (.map none) := (blk_cell BK5.out 0).trans rfl; have hf5_0 := blk_frozen BK5.out 0)
  generalize hw_ : (w7_.setCell ⟨g5, 0, none⟩ (.map (some m2))) = w8_
  have n0_ := Aside0.mk (show Below w.heap.size w w8_ from by rw [← hw_]; exact (by repeat (first | (with_reducible first | exact HB.out | apply below_alloc | apply pw_below_drewN | apply below_drew1 | refine below_set ?_ GE1.out | refine below_set ?_ GE3.out | refine below_set ?_ GE4.out | refine below_set ?_ GE5.out) | exact HB.out)))
  have n1_ := Aside0.mk (show w8_.heap[g1]? = some (.cells #[.slice g.rA g.rl g.rc, .slice g.nA g.nl g.nc] 25 (0, 0)) from by rw [← hw_]; refine blk_far ?_ NE1_5.out _; exact BK1.out)
  have n2_ := Aside0.mk (show w8_.heap[g3]? = some (.cells #[.map (some m1)] 46 (0, 0)) from by rw [← hw_]; refine blk_far ?_ NE3_5.out _; exact BK3.out)
  have n3_ := Aside0.mk (show w8_.heap[g4]? = some (.cells #[.slice none 0 0] 22 (0, 0)) from by rw [← hw_]; refine blk_far ?_ NE4_5.out _; exact BK4.out)
  have n4_ := Aside0.mk (show w8_.heap[g5]? = some (.cells #[.map (some m2)] 90 (0, 0)) from by rw [← hw_]; exact (by (with_reducible repeat (first | refine blk_drewN ?_ _ | refine blk_drew ?_ | refine blk_alloc ?_ _)); refine blk_put (cs := #[.map none]) ?_ 0 _ rfl; (with_reducible repeat (first | refine blk_drewN ?_ _ | refine blk_drew ?_ | refine blk_alloc ?_ _)); exact BK5.out))
  have n5_ := Aside0.mk (show (w8_).ownsMap Try.prog 3 nR m1 40 (MD g.NS) from by rw [← hw_]; refine owns_far ?_ NM1_5.out _; exact MP1.out)
  have n6_ := Aside0.mk (show (w8_).ownsMap Try.prog 3 (plainElem (H := Value) Try.prog 4) m2 0 (.map []) from by rw [← hw_]; refine owns_far ?_ NM2_5.out _; exact MP2.out)
  clear HB
  clear BK1
  clear BK3
  clear BK4
  clear BK5
  clear MP1
  clear MP2
  have HB := n0_
  have BK1 := n1_
  have BK3 := n2_
  have BK4 := n3_
  have BK5 := n4_
  have MP1 := n5_
  have MP2 := n6_
  clear n0_ n1_ n2_ n3_ n4_ n5_ n6_
  clear hw_
  go_upto_region 5 with ((with_reducible refine gate_dst (N := 6) rfl ?_); refine box_event ?hg (N := 6) ?hd (cs := #[.nilFunc]) (t := 85) ?hr ?_; (case hd => rfl); (case hg => rfl); (case hr => first | (go_simp; done) | (go_simp; rfl)); intro g6 hg w9_ hbox hb; have n0_ := Aside0.mk (below_step (by repeat (first | (with_reducible first | exact HB.out | apply below_alloc | apply pw_below_drewN | apply below_drew1 | refine below_set ?_ GE1.out | refine below_set ?_ GE3.out | refine below_set ?_ GE4.out | refine below_set ?_ GE5.out) | exact HB.out)) hb); have n1_ := Aside0.mk (blk_below (g := g1) (o := .cells #[.slice g.rA g.rl g.rc, .slice g.nA g.nl g.nc] 25 (0, 0)) (by (with_reducible repeat (first | refine blk_drewN ?_ _ | refine blk_drew ?_ | refine blk_alloc ?_ _)); exact BK1.out) hb); have n2_ := Aside0.mk (blk_below (g := g3) (o := .cells #[.map (some m1)] 46 (0, 0)) (by (with_reducible repeat (first | refine blk_drewN ?_ _ | refine blk_drew ?_ | refine blk_alloc ?_ _)); exact BK3.out) hb); have n3_ := Aside0.mk (blk_below (g := g4) (o := .cells #[.slice none 0 0] 22 (0, 0)) (by (with_reducible repeat (first | refine blk_drewN ?_ _ | refine blk_drew ?_ | refine blk_alloc ?_ _)); exact BK4.out) hb); have n4_ := Aside0.mk (blk_below (g := g5) (o := .cells #[.map (some m2)] 90 (0, 0)) (by (with_reducible repeat (first | refine blk_drewN ?_ _ | refine blk_drew ?_ | refine blk_alloc ?_ _)); exact BK5.out) hb); have n5_ := Aside0.mk (owns_below (b := m1) (by (with_reducible repeat (first | refine owns_drewN ?_ _ | refine owns_drew ?_ | refine owns_alloc ?_ _)); exact MP1.out) hb); have n6_ := Aside0.mk (owns_below (b := m2) (by (with_reducible repeat (first | refine owns_drewN ?_ _ | refine owns_drew ?_ | refine owns_alloc ?_ _)); exact MP2.out) hb); have n7_ := Aside0.mk hbox; have n8_ := Aside0.mk ((by rw [hg]; exact (below_size (by repeat (first | (with_reducible first | exact HB.out | apply below_alloc | apply pw_below_drewN | apply below_drew1 | refine below_set ?_ GE1.out | refine below_set ?_ GE3.out | refine below_set ?_ GE4.out | refine below_set ?_ GE5.out) | exact HB.out)))) : w.heap.size ≤ g6); have n9_ := Aside0.mk ((by rw [hg]; exact Nat.ne_of_lt (blk_lt (g := g1) (o := .cells #[.slice g.rA g.rl g.rc, .slice g.nA g.nl g.nc] 25 (0, 0)) (by (with_reducible repeat (first | refine blk_drewN ?_ _ | refine blk_drew ?_ | refine blk_alloc ?_ _)); exact BK1.out))) : g1 ≠ g6); have n10_ := Aside0.mk ((by rw [hg]; exact Nat.ne_of_lt (blk_lt (g := g3) (o := .cells #[.map (some m1)] 46 (0, 0)) (by (with_reducible repeat (first | refine blk_drewN ?_ _ | refine blk_drew ?_ | refine blk_alloc ?_ _)); exact BK3.out))) : g3 ≠ g6); have n11_ := Aside0.mk ((by rw [hg]; exact Nat.ne_of_lt (blk_lt (g := g4) (o := .cells #[.slice none 0 0] 22 (0, 0)) (by (with_reducible repeat (first | refine blk_drewN ?_ _ | refine blk_drew ?_ | refine blk_alloc ?_ _)); exact BK4.out))) : g4 ≠ g6); have n12_ := Aside0.mk ((by rw [hg]; exact Nat.ne_of_lt (blk_lt (g := g5) (o := .cells #[.map (some m2)] 90 (0, 0)) (by (with_reducible repeat (first | refine blk_drewN ?_ _ | refine blk_drew ?_ | refine blk_alloc ?_ _)); exact BK5.out))) : g5 ≠ g6); have n13_ := Aside0.mk ((by rw [hg]; exact Nat.ne_of_lt (World.ownsMap.lt (b := m1) (by (with_reducible repeat (first | refine owns_drewN ?_ _ | refine owns_drew ?_ | refine owns_alloc ?_ _)); exact MP1.out))) : m1 ≠ g6); have n14_ := Aside0.mk ((by rw [hg]; exact Nat.ne_of_lt (World.ownsMap.lt (b := m2) (by (with_reducible repeat (first | refine owns_drewN ?_ _ | refine owns_drew ?_ | refine owns_alloc ?_ _)); exact MP2.out))) : m2 ≠ g6); clear HB; clear BK1; clear BK3; clear BK4; clear BK5; clear MP1; clear MP2; have HB := n0_; have BK1 := n1_; have BK3 := n2_; have BK4 := n3_; have BK5 := n4_; have MP1 := n5_; have MP2 := n6_; have BK6 := n7_; have GE6 := n8_; have NE1_6 := n9_; have NE3_6 := n10_; have NE4_6 := n11_; have NE5_6 := n12_; have NM1_6 := n13_; have NM2_6 := n14_; clear n0_ n1_ n2_ n3_ n4_ n5_ n6_ n7_ n8_ n9_ n10_ n11_ n12_ n13_ n14_; clear hb hbox hg; have hc6_0 : w9_.cell? ⟨g6, 0, none⟩ = some (.nilFunc) := (blk_cell BK6.out 0).trans rfl; have hf6_0 := blk_frozen BK6.out 0)
  go_upto_region 6 with fail
  generalize hw_ : (w9_.setCell ⟨g6, 0, none⟩ (.func (.func 54) #[] #[.pointer (some ⟨g3, 0, none⟩), .pointer (some ⟨g5, 0, none⟩), .pointer (some ⟨g4, 0, none⟩), .pointer (some ⟨g6, 0, none⟩)])) = w10_
  have n0_ := Aside0.mk (show Below w.heap.size w w10_ from by rw [← hw_]; exact (by repeat (first | (with_reducible first | exact HB.out | apply below_alloc | apply pw_below_drewN | apply below_drew1 | refine below_set ?_ GE1.out | refine below_set ?_ GE3.out | refine below_set ?_ GE4.out | refine below_set ?_ GE5.out | refine below_set ?_ GE6.out) | exact HB.out)))
  have n1_ := Aside0.mk (show w10_.heap[g1]? = some (.cells #[.slice g.rA g.rl g.rc, .slice g.nA g.nl g.nc] 25 (0, 0)) from by rw [← hw_]; refine blk_far ?_ NE1_6.out _; exact BK1.out)
  have n2_ := Aside0.mk (show w10_.heap[g3]? = some (.cells #[.map (some m1)] 46 (0, 0)) from by rw [← hw_]; refine blk_far ?_ NE3_6.out _; exact BK3.out)
  have n3_ := Aside0.mk (show w10_.heap[g4]? = some (.cells #[.slice none 0 0] 22 (0, 0)) from by rw [← hw_]; refine blk_far ?_ NE4_6.out _; exact BK4.out)
  have n4_ := Aside0.mk (show w10_.heap[g5]? = some (.cells #[.map (some m2)] 90 (0, 0)) from by rw [← hw_]; refine blk_far ?_ NE5_6.out _; exact BK5.out)
  have n5_ := Aside0.mk (show w10_.heap[g6]? = some (.cells #[.func (.func 54) #[] #[.pointer (some ⟨g3, 0, none⟩), .pointer (some ⟨g5, 0, none⟩), .pointer (some ⟨g4, 0, none⟩), .pointer (some ⟨g6, 0, none⟩)]] 85 (0, 0)) from by rw [← hw_]; exact (by (with_reducible repeat (first | refine blk_drewN ?_ _ | refine blk_drew ?_ | refine blk_alloc ?_ _)); refine blk_put (cs := #[.nilFunc]) ?_ 0 _ rfl; (with_reducible repeat (first | refine blk_drewN ?_ _ | refine blk_drew ?_ | refine blk_alloc ?_ _)); exact BK6.out))
  have n6_ := Aside0.mk (show (w10_).ownsMap Try.prog 3 nR m1 40 (MD g.NS) from by rw [← hw_]; refine owns_far ?_ NM1_6.out _; exact MP1.out)
  have n7_ := Aside0.mk (show (w10_).ownsMap Try.prog 3 (plainElem (H := Value) Try.prog 4) m2 0 (.map []) from by rw [← hw_]; refine owns_far ?_ NM2_6.out _; exact MP2.out)
  clear HB
  clear BK1
  clear BK3
  clear BK4
  clear BK5
  clear BK6
  clear MP1
  clear MP2
  have HB := n0_
  have BK1 := n1_
  have BK3 := n2_
  have BK4 := n3_
  have BK5 := n4_
  have BK6 := n5_
  have MP1 := n6_
  have MP2 := n7_
  clear n0_ n1_ n2_ n3_ n4_ n5_ n6_ n7_
  clear hw_
  have hc1_0 : w10_.cell? ⟨g1, 0, none⟩ = some (.slice g.rA g.rl g.rc) := (blk_cell BK1.out 0).trans rfl
  have hf1_0 := blk_frozen BK1.out 0
  have hc1_1 : w10_.cell? ⟨g1, 1, none⟩ = some (.slice g.nA g.nl g.nc) := (blk_cell BK1.out 1).trans rfl
  have hf1_1 := blk_frozen BK1.out 1
  have hc6_0 : w10_.cell? ⟨g6, 0, none⟩ = some (.func (.func 54) #[] #[.pointer (some ⟨g3, 0, none⟩), .pointer (some ⟨g5, 0, none⟩), .pointer (some ⟨g4, 0, none⟩), .pointer (some ⟨g6, 0, none⟩)]) := (blk_cell BK6.out 0).trans rfl
  have hf6_0 := blk_frozen BK6.out 0
  have HS := Aside0.mk (show VS w10_ ⟨w.heap.size, B, g3, g4, g5, g6, m1, m2⟩ g [] [] from ⟨BK3.out, MP1.out, BK5.out, MP2.out, ⟨_, BK4.out, World.ownsRow_nil _ _ _ _⟩, BK6.out, HG.out.kept (fun k hk => HB.out.block k (by omega)), ⟨GE3.out, GE4.out, GE5.out, GE6.out, GM1.out, GM2.out, hB, HB.out.size⟩, NMM1_2.out⟩)
  go_wp2_with (go_at_call 54; refine (visit_calls ⟨w.heap.size, B, g3, g4, g5, g6, m1, m2⟩ g hsm.sz (by rw [hl]; exact hsm.n40) (g.NS.length + 1) w10_ [] g.R g.rA g.rl g.rc HS (Aside0.mk (HG.out.rts.kept (fun k hk => HB.out.block k (by omega)))) (by have := hsm.r40; omega) (Aside0.mk HG.out.rok) (Aside0.mk (by have := left_le g.NS []; omega)) (Aside0.mk (by have := left_le g.NS []; simpa using this))).mono ?_; rintro e w20 ⟨⟨v14, rfl⟩, hs7, hb7⟩; obtain ⟨v, hv1, hv2⟩ := hs7.out; have hc4 : w20.cell? ⟨g4, 0, none⟩ = some v := (blk_cell hv1 0).trans rfl; have HV2 := Aside0.mk hv2; have HB7 := Aside0.mk (HB.out.trans hb7); clear hv1 hv2 hs7 hb7)
  go_ret
  exact ⟨v, rfl, HV2.out, HB7.out⟩
end Go.Proofs.Ytekggbmajemmhaa.Gr
