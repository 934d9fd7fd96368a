/- Diff: diff.nodes of a graph without nodes; slices.AppendSeq and Collect over a map without entries. Conditions: the graph has no nodes, one root; the map has no entries. -/
import Derived.Test.YtekggbmajemmhaaDi1
import Derived.Test.YtekggbmajemmhaaSh1
namespace Go.Proofs.Ytekggbmajemmhaa.Di
open Go.RowKit Go.Shelf Go.Maps Go.ChangeMaps Go.MapKept Go.Proofs.YtekggbmajemmhaaW.PrintWords Go.Proofs.YtekggbmajemmhaaW.PrintLast Go.Proofs.YtekggbmajemmhaaW.PrintMore
set_option linter.unusedSimpArgs false
set_option linter.unusedVariables false
set_option maxHeartbeats 4000000 in
theorem dnodes_calls (w : World) (x : Nat) (v : Int) (hv : keyOf Try.prog 3 (.int .i64 v) = some (.int .i64 v)) (hx : w.cell? ⟨x, 0, none⟩ = some (.int .i64 v)) (hxl : x < w.heap.size) : Calls Try.prog 16 #[.agg #[.slice (some ⟨x, 0, none⟩) 1 1, .slice none 0 0]] w fun e W' => ∃ mb, e = .returned (.map (some mb)) ∧ EM W' mb ∧ w.heap.size ≤ mb ∧ Below w.heap.size w W' := by
  refine calls_marks Try.func16 rfl ?_
  simp only [Try.ntmps16, List.size_toArray, List.length_cons, List.length_nil, Nat.reduceAdd, Nat.reduceSub, Array.replicate_succ, Array.replicate_zero, List.push_toArray, List.append_toArray, List.nil_append, List.cons_append]
  have HB := Aside0.mk (Below.refl w.heap.size w)
  go_upto_region 1 with ((with_reducible refine gate_dst (N := 1) rfl ?_); refine box_event ?hg (N := 1) ?hd (cs := #[.slice (some ⟨x, 0, none⟩) 1 1, .slice none 0 0]) (t := 25) ?hr ?_; (case hd => rfl); (case hg => rfl); (case hr => first | (go_simp; done) | (go_simp; rfl)); intro g1 hg w1_ hbox hb; have n0_ := Aside0.mk (below_step (by repeat (first | (with_reducible first | exact HB.out | apply below_alloc | apply pw_below_drewN | apply below_drew1) | exact HB.out)) hb); have n1_ := Aside0.mk hbox; have n2_ := Aside0.mk ((by rw [hg]; exact (below_size (by repeat (first | (with_reducible first | exact HB.out | apply below_alloc | apply pw_below_drewN | apply below_drew1) | exact HB.out)))) : w.heap.size ≤ g1); clear HB; have HB := n0_; have BK1 := n1_; have GE1 := n2_; clear n0_ n1_ n2_; clear hb hbox hg)
  go_wp2
  rw [run_makeMap]
  obtain ⟨w2_, hw_⟩ : ∃ x, x = w1_.alloc (.map #[] 0) := ⟨_, rfl⟩
  obtain ⟨m1, hm_⟩ : ∃ x, x = w1_.heap.size := ⟨_, rfl⟩
  rw [← hw_, ← hm_]
  have hb : Below w1_.heap.size w1_ w2_ := by rw [hw_]; exact below_alloc (Below.refl _ _) _
  have n0_ := Aside0.mk (below_step (by repeat (first | (with_reducible first | exact HB.out | apply below_alloc | apply pw_below_drewN | apply below_drew1 | refine below_set ?_ GE1.out) | exact HB.out)) hb)
  have n1_ := Aside0.mk (blk_below (g := g1) (o := .cells #[.slice (some ⟨x, 0, none⟩) 1 1, .slice none 0 0] 25 (0, 0)) (by (with_reducible repeat (first | refine blk_drewN ?_ _ | refine blk_drew ?_ | refine blk_alloc ?_ _)); exact BK1.out) hb)
  have n2_ := Aside0.mk (show EM w2_ m1 from by rw [hw_, hm_]; exact World.ownsMap_made _ _ _ _)
  have GM1 := Aside0.mk (show w.heap.size ≤ m1 from by rw [hm_]; exact below_size HB.out)
  have NG1_1 := Aside0.mk (show g1 ≠ m1 from by rw [hm_]; exact Nat.ne_of_lt (blk_lt BK1.out))
  clear HB
  clear BK1
  have HB := n0_
  have BK1 := n1_
  have MP1 := n2_
  clear n0_ n1_ n2_
  clear hb hw_ hm_
  go_upto_region 2 with ((with_reducible refine gate_dst (N := 3) rfl ?_); refine box_event ?hg (N := 3) ?hd (cs := #[.map none]) (t := 46) ?hr ?_; (case hd => rfl); (case hg => rfl); (case hr => first | (go_simp; done) | (go_simp; rfl)); intro g3 hg w3_ hbox hb; have n0_ := Aside0.mk (below_step (by repeat (first | (with_reducible first | exact HB.out | apply below_alloc | apply pw_below_drewN | apply below_drew1 | refine below_set ?_ GE1.out) | exact HB.out)) hb); have n1_ := Aside0.mk (blk_below (g := g1) (o := .cells #[.slice (some ⟨x, 0, none⟩) 1 1, .slice none 0 0] 25 (0, 0)) (by (with_reducible repeat (first | refine blk_drewN ?_ _ | refine blk_drew ?_ | refine blk_alloc ?_ _)); exact BK1.out) hb); have n2_ := Aside0.mk (EM.below (b := m1) (by (with_reducible repeat (first | refine EM_drewN ?_ _ | refine EM_drew ?_ | refine EM_alloc ?_ _)); exact MP1.out) hb); have n3_ := Aside0.mk hbox; have n4_ := Aside0.mk ((by rw [hg]; exact (below_size (by repeat (first | (with_reducible first | exact HB.out | apply below_alloc | apply pw_below_drewN | apply below_drew1 | refine below_set ?_ GE1.out) | exact HB.out)))) : w.heap.size ≤ g3); have n5_ := Aside0.mk ((by rw [hg]; exact Nat.ne_of_lt (blk_lt (g := g1) (o := .cells #[.slice (some ⟨x, 0, none⟩) 1 1, .slice none 0 0] 25 (0, 0)) (by (with_reducible repeat (first | refine blk_drewN ?_ _ | refine blk_drew ?_ | refine blk_alloc ?_ _)); exact BK1.out))) : g1 ≠ g3); have n6_ := Aside0.mk ((by rw [hg]; exact Nat.ne_of_lt (EM.lt (b := m1) (by (with_reducible repeat (first | refine EM_drewN ?_ _ | refine EM_drew ?_ | refine EM_alloc ?_ _)); exact MP1.out))) : m1 ≠ g3); clear HB; clear BK1; clear MP1; have HB := n0_; have BK1 := n1_; have MP1 := n2_; have BK3 := n3_; have GE3 := n4_; have NE1_3 := n5_; have NM1_3 := n6_; clear n0_ n1_ n2_ n3_ n4_ n5_ n6_; clear hb hbox hg; have hc3_0 : w3_.cell? ⟨g3, 0, none⟩ = some (.map none) := (blk_cell BK3.out 0).trans rfl; have hf3_0 := blk_frozen BK3.out 0)
  generalize hw_ : (w3_.setCell ⟨g3, 0, none⟩ (.map (some m1))) = w4_
  have n0_ := Aside0.mk (show Below w.heap.size w w4_ from by rw [← hw_]; exact (by repeat (first | (with_reducible first | exact HB.out | apply below_alloc | apply pw_below_drewN | apply below_drew1 | refine below_set ?_ GE1.out | refine below_set ?_ GE3.out) | exact HB.out)))
  have n1_ := Aside0.mk (show w4_.heap[g1]? = some (.cells #[.slice (some ⟨x, 0, none⟩) 1 1, .slice none 0 0] 25 (0, 0)) from by rw [← hw_]; refine blk_far ?_ NE1_3.out _; exact BK1.out)
  have n2_ := Aside0.mk (show w4_.heap[g3]? = some (.cells #[.map (some m1)] 46 (0, 0)) from by rw [← hw_]; exact (by (with_reducible repeat (first | refine blk_drewN ?_ _ | refine blk_drew ?_ | refine blk_alloc ?_ _)); refine blk_put (cs := #[.map none]) ?_ 0 _ rfl; (with_reducible repeat (first | refine blk_drewN ?_ _ | refine blk_drew ?_ | refine blk_alloc ?_ _)); exact BK3.out))
  have n3_ := Aside0.mk (show EM w4_ m1 from by rw [← hw_]; refine EM.far ?_ NM1_3.out _; exact MP1.out)
  clear HB
  clear BK1
  clear BK3
  clear MP1
  have HB := n0_
  have BK1 := n1_
  have BK3 := n2_
  have MP1 := n3_
  clear n0_ n1_ n2_ n3_
  clear hw_
  have hc1_0 : w4_.cell? ⟨g1, 0, none⟩ = some (.slice (some ⟨x, 0, none⟩) 1 1) := (blk_cell BK1.out 0).trans rfl
  have hf1_0 := blk_frozen BK1.out 0
  have hc1_1 : w4_.cell? ⟨g1, 1, none⟩ = some (.slice none 0 0) := (blk_cell BK1.out 1).trans rfl
  have hf1_1 := blk_frozen BK1.out 1
  go_wp2_with ((with_reducible refine gate_callee (f := 33) rfl ?_); refine goesL_ (some 12) rfl rfl Try.func33 (by kernel_rfl) rfl #[.slice none 0 0] rfl (by (try simp only [List.map_toArray, List.map_cons, List.map_nil]); first | done | rfl | (simp only [List.length_drop, List.length_take]; rfl)) ?_; (with_reducible refine (back_calls _ none 0 0).mono ?_); rintro e w5_ ⟨g9, rfl, hk9, hg9, hb⟩; refine ⟨_, rfl, ?_⟩; have n0_ := Aside0.mk (below_step (by repeat (first | (with_reducible first | exact HB.out | apply below_alloc | apply pw_below_drewN | apply below_drew1 | refine below_set ?_ GE1.out | refine below_set ?_ GE3.out) | exact HB.out)) hb); have n1_ := Aside0.mk (blk_below (g := g1) (o := .cells #[.slice (some ⟨x, 0, none⟩) 1 1, .slice none 0 0] 25 (0, 0)) (by (with_reducible repeat (first | refine blk_drewN ?_ _ | refine blk_drew ?_ | refine blk_alloc ?_ _)); exact BK1.out) hb); have n2_ := Aside0.mk (blk_below (g := g3) (o := .cells #[.map (some m1)] 46 (0, 0)) (by (with_reducible repeat (first | refine blk_drewN ?_ _ | refine blk_drew ?_ | refine blk_alloc ?_ _)); exact BK3.out) hb); have n3_ := Aside0.mk (EM.below (b := m1) (by (with_reducible repeat (first | refine EM_drewN ?_ _ | refine EM_drew ?_ | refine EM_alloc ?_ _)); exact MP1.out) hb); clear HB; clear BK1; clear BK3; clear MP1; have HB := n0_; have BK1 := n1_; have BK3 := n2_; have MP1 := n3_; clear n0_ n1_ n2_ n3_; clear hb; have BK9 := Aside0.mk hk9; clear hk9)
  refine wp_range_empty (gf := 52) (lb := #[.pointer (some ⟨g9, 0, none⟩)]) rfl (enters_of Try.func52 (by kernel_rfl) rfl) (fun l W hW => back1_empty W l g9 ((blk_cell (blk_below BK9.out hW) 0).trans rfl)) ?_
  intro D w6_ hD_ hb_ hK_
  have HD_ := Aside0.mk hD_
  have HDB := Aside0.mk (show w.heap.size ≤ D from Nat.le_trans HB.out.size hD_)
  have NMD1 := Aside0.mk (show m1 ≠ D from fun e_ => absurd (EM.lt MP1.out) (by omega))
  have hb := hb_
  have n0_ := Aside0.mk (below_step (by repeat (first | (with_reducible first | exact HB.out | apply below_alloc | apply pw_below_drewN | apply below_drew1 | refine below_set ?_ GE1.out | refine below_set ?_ GE3.out | refine below_set ?_ GE9.out) | exact HB.out)) hb)
  have n1_ := Aside0.mk (blk_below (g := g1) (o := .cells #[.slice (some ⟨x, 0, none⟩) 1 1, .slice none 0 0] 25 (0, 0)) (by (with_reducible repeat (first | refine blk_drewN ?_ _ | refine blk_drew ?_ | refine blk_alloc ?_ _)); exact BK1.out) hb)
  have n2_ := Aside0.mk (blk_below (g := g3) (o := .cells #[.map (some m1)] 46 (0, 0)) (by (with_reducible repeat (first | refine blk_drewN ?_ _ | refine blk_drew ?_ | refine blk_alloc ?_ _)); exact BK3.out) hb)
  have n3_ := Aside0.mk (blk_below (g := g9) (o := .cells #[.slice none 0 0] 23 (0, 0)) (by (with_reducible repeat (first | refine blk_drewN ?_ _ | refine blk_drew ?_ | refine blk_alloc ?_ _)); exact BK9.out) hb)
  have n4_ := Aside0.mk (EM.below (b := m1) (by (with_reducible repeat (first | refine EM_drewN ?_ _ | refine EM_drew ?_ | refine EM_alloc ?_ _)); exact MP1.out) hb)
  clear HB
  clear BK1
  clear BK3
  clear BK9
  clear MP1
  have HB := n0_
  have BK1 := n1_
  have BK3 := n2_
  have BK9 := n3_
  have MP1 := n4_
  clear n0_ n1_ n2_ n3_ n4_
  clear hb
  have HK := Aside0.mk hK_
  clear hb_ hK_ hD_
  go_wp2
  rw [run_makeMap]
  obtain ⟨w7_, hw_⟩ : ∃ x, x = w6_.alloc (.map #[] 0) := ⟨_, rfl⟩
  obtain ⟨m2, hm_⟩ : ∃ x, x = w6_.heap.size := ⟨_, rfl⟩
  rw [← hw_, ← hm_]
  have hb : Below w6_.heap.size w6_ w7_ := by rw [hw_]; exact below_alloc (Below.refl _ _) _
  have n0_ := Aside0.mk (below_step (by repeat (first | (with_reducible first | exact HB.out | apply below_alloc | apply pw_below_drewN | apply below_drew1 | refine below_set ?_ GE1.out | refine below_set ?_ GE3.out | refine below_set ?_ GE9.out) | exact HB.out)) hb)
  have n1_ := Aside0.mk (blk_below (g := g1) (o := .cells #[.slice (some ⟨x, 0, none⟩) 1 1, .slice none 0 0] 25 (0, 0)) (by (with_reducible repeat (first | refine blk_drewN ?_ _ | refine blk_drew ?_ | refine blk_alloc ?_ _)); exact BK1.out) hb)
  have n2_ := Aside0.mk (blk_below (g := g3) (o := .cells #[.map (some m1)] 46 (0, 0)) (by (with_reducible repeat (first | refine blk_drewN ?_ _ | refine blk_drew ?_ | refine blk_alloc ?_ _)); exact BK3.out) hb)
  have n3_ := Aside0.mk (blk_below (g := g9) (o := .cells #[.slice none 0 0] 23 (0, 0)) (by (with_reducible repeat (first | refine blk_drewN ?_ _ | refine blk_drew ?_ | refine blk_alloc ?_ _)); exact BK9.out) hb)
  have n4_ := Aside0.mk (EM.below (b := m1) (by (with_reducible repeat (first | refine EM_drewN ?_ _ | refine EM_drew ?_ | refine EM_alloc ?_ _)); exact MP1.out) hb)
  have n5_ := Aside0.mk (blk_below (g := D) (o := .deferred (some [])) (by (with_reducible repeat (first | refine blk_drewN ?_ _ | refine blk_drew ?_ | refine blk_alloc ?_ _)); exact HK.out) hb)
  have n6_ := Aside0.mk (show EM w7_ m2 from by rw [hw_, hm_]; exact World.ownsMap_made _ _ _ _)
  have GM2 := Aside0.mk (show w.heap.size ≤ m2 from by rw [hm_]; exact below_size HB.out)
  have NG1_2 := Aside0.mk (show g1 ≠ m2 from by rw [hm_]; exact Nat.ne_of_lt (blk_lt BK1.out))
  have NG3_2 := Aside0.mk (show g3 ≠ m2 from by rw [hm_]; exact Nat.ne_of_lt (blk_lt BK3.out))
  have NG9_2 := Aside0.mk (show g9 ≠ m2 from by rw [hm_]; exact Nat.ne_of_lt (blk_lt BK9.out))
  have NMM1_2 := Aside0.mk (show m1 ≠ m2 from by rw [hm_]; exact Nat.ne_of_lt (EM.lt MP1.out))
  have NMD2 := Aside0.mk (show m2 ≠ D from by rw [hm_]; exact (Nat.ne_of_lt (blk_lt HK.out)).symm)
  clear HB
  clear BK1
  clear BK3
  clear BK9
  clear MP1
  clear HK
  have HB := n0_
  have BK1 := n1_
  have BK3 := n2_
  have BK9 := n3_
  have MP1 := n4_
  have HK := n5_
  have MP2 := n6_
  clear n0_ n1_ n2_ n3_ n4_ n5_ n6_
  clear hb hw_ hm_
  have hc1_0 : w7_.cell? ⟨g1, 0, none⟩ = some (.slice (some ⟨x, 0, none⟩) 1 1) := (blk_cell BK1.out 0).trans rfl
  have hf1_0 := blk_frozen BK1.out 0
  have hc1_1 : w7_.cell? ⟨g1, 1, none⟩ = some (.slice none 0 0) := (blk_cell BK1.out 1).trans rfl
  have hf1_1 := blk_frozen BK1.out 1
  have hxc := (HB.out.cell (p := ⟨x, 0, none⟩) hxl).trans hx
  have hxs := Nat.lt_of_lt_of_le hxl HB.out.size
  go_wp2_with (go_at_call 34; (with_reducible refine (walk_calls _ x v hv hxc hxs).mono ?_); rintro e w8_ ⟨rfl, hb⟩; have n0_ := Aside0.mk (below_step (by repeat (first | (with_reducible first | exact HB.out | apply below_alloc | apply pw_below_drewN | apply below_drew1 | refine below_set ?_ GE1.out | refine below_set ?_ GE3.out | refine below_set ?_ GE9.out) | exact HB.out)) hb); have n1_ := Aside0.mk (blk_below (g := g1) (o := .cells #[.slice (some ⟨x, 0, none⟩) 1 1, .slice none 0 0] 25 (0, 0)) (by (with_reducible repeat (first | refine blk_drewN ?_ _ | refine blk_drew ?_ | refine blk_alloc ?_ _)); exact BK1.out) hb); have n2_ := Aside0.mk (blk_below (g := g3) (o := .cells #[.map (some m1)] 46 (0, 0)) (by (with_reducible repeat (first | refine blk_drewN ?_ _ | refine blk_drew ?_ | refine blk_alloc ?_ _)); exact BK3.out) hb); have n3_ := Aside0.mk (blk_below (g := g9) (o := .cells #[.slice none 0 0] 23 (0, 0)) (by (with_reducible repeat (first | refine blk_drewN ?_ _ | refine blk_drew ?_ | refine blk_alloc ?_ _)); exact BK9.out) hb); have n4_ := Aside0.mk (EM.below (b := m1) (by (with_reducible repeat (first | refine EM_drewN ?_ _ | refine EM_drew ?_ | refine EM_alloc ?_ _)); exact MP1.out) hb); have n5_ := Aside0.mk (EM.below (b := m2) (by (with_reducible repeat (first | refine EM_drewN ?_ _ | refine EM_drew ?_ | refine EM_alloc ?_ _)); exact MP2.out) hb); have n6_ := Aside0.mk (blk_below (g := D) (o := .deferred (some [])) (by (with_reducible repeat (first | refine blk_drewN ?_ _ | refine blk_drew ?_ | refine blk_alloc ?_ _)); exact HK.out) hb); clear HB; clear BK1; clear BK3; clear BK9; clear MP1; clear MP2; clear HK; have HB := n0_; have BK1 := n1_; have BK3 := n2_; have BK9 := n3_; have MP1 := n4_; have MP2 := n5_; have HK := n6_; clear n0_ n1_ n2_ n3_ n4_ n5_ n6_; clear hb)
  go_loopw [23] (fun v wr => v = .int .i64 0 ∧ wr = w8_) (fun _ _ => 0)
  case atStart => exact ⟨rfl, rfl⟩
  case round =>
    obtain ⟨rfl, hwr⟩ := hrel
    obtain rfl := hwr.symm
    go_wp2
    refine ⟨by simp, .inl ⟨_, _, rfl, run_takeDeferred HK.out, ?_⟩⟩
    exact ⟨_, results_tmp rfl _ _ _, m2, rfl, EM.put MP2.out NMD2.out _, GM2.out, HB.out.trans (belowK_b (w := w) (Nat.le_refl _) _ D _ _ HDB.out HK.out rfl rfl)⟩
set_option maxHeartbeats 4000000 in
theorem appkeys_calls (w : World) (g9 m1 : Nat) (hg : w.heap[g9]? = some (.cells #[.map (some m1)] 46 (0, 0))) (hm : EM w m1) : Calls Try.prog 44 #[.slice none 0 0, .func (.func 59) #[] #[.pointer (some ⟨g9, 0, none⟩)]] w fun e W' => e = .returned (.slice none 0 0) ∧ Below w.heap.size w W' := by
  refine calls_marks Try.func44 rfl ?_
  simp only [Try.ntmps44, List.size_toArray, List.length_cons, List.length_nil, Nat.reduceAdd, Nat.reduceSub, Array.replicate_succ, Array.replicate_zero, List.push_toArray, List.append_toArray, List.nil_append, List.cons_append]
  have HB := Aside0.mk (Below.refl w.heap.size w)
  have MP1 := Aside0.mk hm
  have BK9 := Aside0.mk hg
  go_upto_region 1 with ((with_reducible refine gate_dst (N := 2) rfl ?_); refine box_event ?hg (N := 2) ?hd (cs := #[.slice none 0 0]) (t := 22) ?hr ?_; (case hd => rfl); (case hg => rfl); (case hr => first | (go_simp; done) | (go_simp; rfl)); intro g2 hg w1_ hbox hb; have n0_ := Aside0.mk (below_step (by repeat (first | (with_reducible first | exact HB.out | apply below_alloc | apply pw_below_drewN | apply below_drew1 | refine below_set ?_ GE9.out) | exact HB.out)) hb); have n1_ := Aside0.mk (blk_below (g := g9) (o := .cells #[.map (some m1)] 46 (0, 0)) (by (with_reducible repeat (first | refine blk_drewN ?_ _ | refine blk_drew ?_ | refine blk_alloc ?_ _)); exact BK9.out) hb); have n2_ := Aside0.mk (EM.below (b := m1) (by (with_reducible repeat (first | refine EM_drewN ?_ _ | refine EM_drew ?_ | refine EM_alloc ?_ _)); exact MP1.out) hb); have n3_ := Aside0.mk hbox; have n4_ := Aside0.mk ((by rw [hg]; exact (below_size (by repeat (first | (with_reducible first | exact HB.out | apply below_alloc | apply pw_below_drewN | apply below_drew1 | refine below_set ?_ GE9.out) | exact HB.out)))) : w.heap.size ≤ g2); have n5_ := Aside0.mk ((by rw [hg]; exact Nat.ne_of_lt (blk_lt (g := g9) (o := .cells #[.map (some m1)] 46 (0, 0)) (by (with_reducible repeat (first | refine blk_drewN ?_ _ | refine blk_drew ?_ | refine blk_alloc ?_ _)); exact BK9.out))) : g9 ≠ g2); have n6_ := Aside0.mk ((by rw [hg]; exact Nat.ne_of_lt (EM.lt (b := m1) (by (with_reducible repeat (first | refine EM_drewN ?_ _ | refine EM_drew ?_ | refine EM_alloc ?_ _)); exact MP1.out))) : m1 ≠ g2); clear HB; clear BK9; clear MP1; have HB := n0_; have BK9 := n1_; have MP1 := n2_; have BK2 := n3_; have GE2 := n4_; have NE9_2 := n5_; have NM1_2 := n6_; clear n0_ n1_ n2_ n3_ n4_ n5_ n6_; clear hb hbox hg)
  go_wp2
  refine wp_range_empty (gf := 59) (lb := #[.pointer (some ⟨g9, 0, none⟩)]) rfl (enters_of Try.func59 (by kernel_rfl) rfl) (fun l W hW => keys1_empty W l g9 m1 ((blk_cell (blk_below BK9.out hW) 0).trans rfl) (EM.below MP1.out hW)) ?_
  intro D w2_ hD_ hb_ hK_
  have HD_ := Aside0.mk hD_
  have HDB := Aside0.mk (show w.heap.size ≤ D from Nat.le_trans HB.out.size hD_)
  have NMD1 := Aside0.mk (show m1 ≠ D from fun e_ => absurd (EM.lt MP1.out) (by omega))
  have hb := hb_
  have n0_ := Aside0.mk (below_step (by repeat (first | (with_reducible first | exact HB.out | apply below_alloc | apply pw_below_drewN | apply below_drew1 | refine below_set ?_ GE9.out | refine below_set ?_ GE2.out) | exact HB.out)) hb)
  have n1_ := Aside0.mk (blk_below (g := g9) (o := .cells #[.map (some m1)] 46 (0, 0)) (by (with_reducible repeat (first | refine blk_drewN ?_ _ | refine blk_drew ?_ | refine blk_alloc ?_ _)); exact BK9.out) hb)
  have n2_ := Aside0.mk (blk_below (g := g2) (o := .cells #[.slice none 0 0] 22 (0, 0)) (by (with_reducible repeat (first | refine blk_drewN ?_ _ | refine blk_drew ?_ | refine blk_alloc ?_ _)); exact BK2.out) hb)
  have n3_ := Aside0.mk (EM.below (b := m1) (by (with_reducible repeat (first | refine EM_drewN ?_ _ | refine EM_drew ?_ | refine EM_alloc ?_ _)); exact MP1.out) hb)
  clear HB
  clear BK9
  clear BK2
  clear MP1
  have HB := n0_
  have BK9 := n1_
  have BK2 := n2_
  have MP1 := n3_
  clear n0_ n1_ n2_ n3_
  clear hb
  have HK := Aside0.mk hK_
  clear hb_ hK_ hD_
  have hc2_0 : w2_.cell? ⟨g2, 0, none⟩ = some (.slice none 0 0) := (blk_cell BK2.out 0).trans rfl
  have hf2_0 := blk_frozen BK2.out 0
  go_wp2
  refine ⟨by simp, .inl ⟨_, _, rfl, run_takeDeferred HK.out, ?_⟩⟩
  exact ⟨_, results_tmp rfl _ _ _, rfl, HB.out.trans (belowK_b (w := w) (Nat.le_refl _) _ D _ _ HDB.out HK.out rfl rfl)⟩
theorem collect_calls (w : World) (g9 m1 : Nat) (hg : w.heap[g9]? = some (.cells #[.map (some m1)] 46 (0, 0))) (hm : EM w m1) : Calls Try.prog 45 #[.func (.func 59) #[] #[.pointer (some ⟨g9, 0, none⟩)]] w fun e W' => e = .returned (.slice none 0 0) ∧ Below w.heap.size w W' := by
  go_enter Try.func45, Try.ntmps45
  go_wp2_with (go_at_call 44; refine (appkeys_calls _ g9 m1 hg hm).mono ?_; rintro e w' ⟨rfl, hb⟩)
  go_ret
  exact ⟨rfl, hb⟩
theorem compact_calls (w : World) : Calls Try.prog 48 #[.slice none 0 0] w fun e W' => e = .returned (.slice none 0 0) ∧ W' = w := by
  go_enter Try.func48, Try.ntmps48
  go_wp2
  go_ret
  exact ⟨rfl, rfl⟩
theorem insert_calls (w : World) : Calls Try.prog 72 #[.slice none 0 0, .int .i64 0, .int .i64 0] w fun e W' => (∃ v, e = .returned v) ∧ W' = w := by
  go_enter Try.func72, Try.ntmps72
  go_wp2
  go_loopw [6] (fun v wr => v = .int .i64 1 ∧ wr = w) (fun _ _ => 0)
  case atStart => exact ⟨rfl, rfl⟩
  case round =>
    obtain ⟨rfl, rfl⟩ := hrel
    go_wp2
    go_end0
    exact ⟨⟨_, rfl⟩, rfl⟩
theorem pdq_calls (w : World) (l : Int) : Calls Try.prog 60 #[.slice none 0 0, .int .i64 0, .int .i64 0, .int .i64 l] w fun e W' => (∃ v, e = .returned v) ∧ W' = w := by
  go_enter Try.func60, Try.ntmps60
  go_wp2
  go_loopw [1, 2] (fun a b wr => a = .int .i64 0 ∧ b = .int .i64 0 ∧ wr = w) (fun _ _ _ => 0)
  case atStart => exact ⟨rfl, rfl, rfl⟩
  case round =>
    obtain ⟨rfl, rfl, rfl⟩ := hrel
    go_wp2_with (go_at_call 72; refine (insert_calls _).mono ?_; rintro e w' ⟨⟨v, rfl⟩, hw⟩; obtain rfl := hw.symm)
    refine bodyPost_ret (results_none rfl _ _ _) rfl ?_
    exact ⟨⟨_, rfl⟩, rfl⟩
theorem sort_calls (w : World) : Calls Try.prog 47 #[.slice none 0 0] w fun e W' => (∃ v, e = .returned v) ∧ W' = w := by
  go_enter Try.func47, Try.ntmps47
  go_wp2_with (first
    | (go_at_call 58; refine (Sh.bits_Len 0 _ (by decide) (by decide)).mono ?_; rintro e w' ⟨rfl, hw⟩; obtain rfl := hw.symm)
    | (go_at_call 60; refine (pdq_calls _ _).mono ?_; rintro e w' ⟨⟨v, rfl⟩, hw⟩; obtain rfl := hw.symm))
  go_end0
  exact ⟨⟨_, rfl⟩, rfl⟩
end Go.Proofs.Ytekggbmajemmhaa.Di
