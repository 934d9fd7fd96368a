/- Parts of one proof, set together: Sh1, Di2, WTab, WInv, WFootNe, WInvWords, Di3, Di4. What each says stands at its head; no condition beyond theirs. -/
import Derived.Test.YtekggbmajemmhaaDb5
import Derived.Shelf.Small.Bits
import Derived.Test.YtekggbmajemmhaaProg
/- Contracts of Go's library at this program, laid by the kit's shelf tools in plain words. Conditions: what each contract asks. -/
namespace Go.Proofs.Ytekggbmajemmhaa.Sh
open Go.Shelf
set_option linter.unusedVariables false
def lays125_ren : Go.Shelf.Ren := ⟨fun | 125 => 58 | 128 => 70 | 129 => 71 | n => n, fun | 46 => 95 | 3 => 3 | 51 => 106 | 53 => 42 | 4 => 4 | 5 => 5 | 9 => 9 | n => n, fun | n => n⟩
theorem lays125 : Go.Proofs.Lays.n125 Try.prog lays125_ren := {
  mixed := by kernel_rfl
  f125 := Try.func58.trans (congrArg some (by kernel_rfl))
  f128 := Try.func70.trans (congrArg some (by kernel_rfl))
  f129 := Try.func71.trans (congrArg some (by kernel_rfl))
  t3 := Try.underlying3
  a3 := Try.isAgg3
  z3 := Try.sizeOf3
  v3 := Try.zeroValue3
  t4 := Try.underlying4
  a4 := Try.isAgg4
  z4 := Try.sizeOf4
  v4 := Try.zeroValue4
  t5 := Try.underlying5
  a5 := Try.isAgg5
  z5 := Try.sizeOf5
  v5 := Try.zeroValue5
  t9 := Try.underlying9
  a9 := Try.isAgg9
  z9 := Try.sizeOf9
  v9 := Try.zeroValue9
  t46 := Try.underlying95
  a46 := Try.isAgg95
  z46 := Try.sizeOf95
  v46 := Try.zeroValue95
  t51 := Try.underlying106
  a51 := Try.isAgg106
  z51 := Try.sizeOf106
  v51 := Try.zeroValue106
  t53 := Try.underlying42
  a53 := Try.isAgg42
  z53 := Try.sizeOf42
  v53 := Try.zeroValue42 }
theorem bits_Len (x : Int) (w : World) (h0 : 0 ≤ x) (h1 : x ≤ 18446744073709551615) :
    Calls Try.prog 58 #[.int .u64 x] w fun e w' => e = .returned (.int .i64 (Lib.bitLen x.toNat)) ∧ w' = w := Any.bits_Len lays125 x w h0 h1
end Go.Proofs.Ytekggbmajemmhaa.Sh
/- Diff: diff.nodes of a graph without nodes; slices.AppendSeq and Collect over a map without entries. Conditions: the graph has no nodes, one root; the map has no entries. -/
namespace Go.Proofs.Ytekggbmajemmhaa.Di
open Go.RowKit Go.Shelf Go.Maps Go.ChangeMaps Go.MapKept Go.Proofs.YtekggbmajemmhaaW.PrintWords Go.Proofs.YtekggbmajemmhaaW.PrintLast Go.Proofs.YtekggbmajemmhaaW.PrintMore
set_option linter.unusedSimpArgs false
set_option linter.unusedVariables false
set_option maxHeartbeats 4000000 in
theorem dnodes_calls (w : World) (x : Nat) (v : Int) (hv : keyOf Try.prog 3 (.int .i64 v) = some (.int .i64 v)) (hx : w.cell? ⟨x, 0, none⟩ = some (.int .i64 v)) (hxl : x < w.heap.size) : Calls Try.prog 16 #[.agg #[.slice (some ⟨x, 0, none⟩) 1 1, .slice none 0 0]] w fun e W' => ∃ mb, e = .returned (.map (some mb)) ∧ EM W' mb ∧ w.heap.size ≤ mb ∧ Below w.heap.size w W' := by
  refine calls_marks Try.func16 rfl ?_
  simp only [Try.ntmps16, List.size_toArray, List.length_cons, List.length_nil, Nat.reduceAdd, Nat.reduceSub, Array.replicate_succ, Array.replicate_zero, List.push_toArray, List.append_toArray, List.nil_append, List.cons_append]
  have HB := Aside0.mk (Below.refl w.heap.size w)
  go_upto_region 1 with ((with_reducible refine gate_dst (N := 1) rfl ?_); refine box_event ?hg (N := 1) ?hd (cs := #[.slice (some ⟨x, 0, none⟩) 1 1, .slice none 0 0]) (t := 25) ?hr ?_; (case hd => rfl); (case hg => rfl); (case hr => first | (go_simp; done) | (go_simp; rfl)); intro g1 hg w1_ hbox hb; have n0_ := Aside0.mk (below_step (by repeat (first | (with_reducible first | exact HB.out | apply below_alloc | apply pw_below_drewN | apply below_drew1) | exact HB.out)) hb); have n1_ := Aside0.mk hbox; have n2_ := Aside0.mk ((by rw [hg]; exact (below_size (by repeat (first | (with_reducible first | exact HB.out | apply below_alloc | apply pw_below_drewN | apply below_drew1) | exact HB.out)))) : w.heap.size ≤ g1); clear HB; have HB := n0_; have BK1 := n1_; have GE1 := n2_; clear n0_ n1_ n2_; clear hb hbox hg)
  go_wp2
  rw [run_makeMap]
  obtain ⟨w2_, hw_⟩ : ∃ x, x = w1_.alloc (.map #[] 0) := ⟨_, rfl⟩
  obtain ⟨m1, hm_⟩ : ∃ x, x = w1_.heap.size := ⟨_, rfl⟩
  rw [← hw_, ← hm_]
  have hb : Below w1_.heap.size w1_ w2_ := by rw [hw_]; exact below_alloc (Below.refl _ _) _
  have n0_ := Aside0.mk (below_step (by repeat (first | (with_reducible first | exact HB.out | apply below_alloc | apply pw_below_drewN | apply below_drew1 | refine below_set ?_ GE1.out) | exact HB.out)) hb)
  have n1_ := Aside0.mk (blk_below (g := g1) (o := .cells #[.slice (some ⟨x, 0, none⟩) 1 1, .slice none 0 0] 25 (0, 0)) (by (with_reducible repeat (first | refine blk_drewN ?_ _ | refine blk_drew ?_ | refine blk_alloc ?_ _)); exact BK1.out) hb)
  have n2_ := Aside0.mk (show EM w2_ m1 from by rw [hw_, hm_]; exact World.ownsMap_made _ _ _ _)
  have GM1 := Aside0.mk (show w.heap.size ≤ m1 from by rw [hm_]; exact below_size HB.out)
  have NG1_1 := Aside0.mk (show g1 ≠ m1 from by rw [hm_]; exact Nat.ne_of_lt (blk_lt BK1.out))
  clear HB
  clear BK1
  have HB := n0_
  have BK1 := n1_
  have MP1 := n2_
  clear n0_ n1_ n2_
  clear hb hw_ hm_
  go_upto_region 2 with ((with_reducible refine gate_dst (N := 3) rfl ?_); refine box_event ?hg (N := 3) ?hd (cs := #[.map none]) (t := 46) ?hr ?_; (case hd => rfl); (case hg => rfl); (case hr => first | (go_simp; done) | (go_simp; rfl)); intro g3 hg w3_ hbox hb; have n0_ := Aside0.mk (below_step (by repeat (first | (with_reducible first | exact HB.out | apply below_alloc | apply pw_below_drewN | apply below_drew1 | refine below_set ?_ GE1.out) | exact HB.out)) hb); have n1_ := Aside0.mk (blk_below (g := g1) (o := .cells #[.slice (some ⟨x, 0, none⟩) 1 1, .slice none 0 0] 25 (0, 0)) (by (with_reducible repeat (first | refine blk_drewN ?_ _ | refine blk_drew ?_ | refine blk_alloc ?_ _)); exact BK1.out) hb); have n2_ := Aside0.mk (EM.below (b := m1) (by (with_reducible repeat (first | refine EM_drewN ?_ _ | refine EM_drew ?_ | refine EM_alloc ?_ _)); exact MP1.out) hb); have n3_ := Aside0.mk hbox; have n4_ := Aside0.mk ((by rw [hg]; exact (below_size (by repeat (first | (with_reducible first | exact HB.out | apply below_alloc | apply pw_below_drewN | apply below_drew1 | refine below_set ?_ GE1.out) | exact HB.out)))) : w.heap.size ≤ g3); have n5_ := Aside0.mk ((by rw [hg]; exact Nat.ne_of_lt (blk_lt (g := g1) (o := .cells #[.slice (some ⟨x, 0, none⟩) 1 1, .slice none 0 0] 25 (0, 0)) (by (with_reducible repeat (first | refine blk_drewN ?_ _ | refine blk_drew ?_ | refine blk_alloc ?_ _)); exact BK1.out))) : g1 ≠ g3); have n6_ := Aside0.mk ((by rw [hg]; exact Nat.ne_of_lt (EM.lt (b := m1) (by (with_reducible repeat (first | refine EM_drewN ?_ _ | refine EM_drew ?_ | refine EM_alloc ?_ _)); exact MP1.out))) : m1 ≠ g3); clear HB; clear BK1; clear MP1; have HB := n0_; have BK1 := n1_; have MP1 := n2_; have BK3 := n3_; have GE3 := n4_; have NE1_3 := n5_; have NM1_3 := n6_; clear n0_ n1_ n2_ n3_ n4_ n5_ n6_; clear hb hbox hg; have hc3_0 : w3_.cell? ⟨g3, 0, none⟩ = some (.map none) := (blk_cell BK3.out 0).trans rfl; have hf3_0 := blk_frozen BK3.out 0)
  generalize hw_ : (w3_.setCell ⟨g3, 0, none⟩ (.map (some m1))) = w4_
  have n0_ := Aside0.mk (show Below w.heap.size w w4_ from by rw [← hw_]; exact (by repeat (first | (with_reducible first | exact HB.out | apply below_alloc | apply pw_below_drewN | apply below_drew1 | refine below_set ?_ GE1.out | refine below_set ?_ GE3.out) | exact HB.out)))
  have n1_ := Aside0.mk (show w4_.heap[g1]? = some (.cells #[.slice (some ⟨x, 0, none⟩) 1 1, .slice none 0 0] 25 (0, 0)) from by rw [← hw_]; refine blk_far ?_ NE1_3.out _; exact BK1.out)
  have n2_ := Aside0.mk (show w4_.heap[g3]? = some (.cells #[.map (some m1)] 46 (0, 0)) from by rw [← hw_]; exact (by (with_reducible repeat (first | refine blk_drewN ?_ _ | refine blk_drew ?_ | refine blk_alloc ?_ _)); refine blk_put (cs := #[.map none]) ?_ 0 _ rfl; (with_reducible repeat (first | refine blk_drewN ?_ _ | refine blk_drew ?_ | refine blk_alloc ?_ _)); exact BK3.out))
  have n3_ := Aside0.mk (show EM w4_ m1 from by rw [← hw_]; refine EM.far ?_ NM1_3.out _; exact MP1.out)
  clear HB
  clear BK1
  clear BK3
  clear MP1
  have HB := n0_
  have BK1 := n1_
  have BK3 := n2_
  have MP1 := n3_
  clear n0_ n1_ n2_ n3_
  clear hw_
  have hc1_0 : w4_.cell? ⟨g1, 0, none⟩ = some (.slice (some ⟨x, 0, none⟩) 1 1) := (blk_cell BK1.out 0).trans rfl
  have hf1_0 := blk_frozen BK1.out 0
  have hc1_1 : w4_.cell? ⟨g1, 1, none⟩ = some (.slice none 0 0) := (blk_cell BK1.out 1).trans rfl
  have hf1_1 := blk_frozen BK1.out 1
  go_wp2_with ((with_reducible refine gate_callee (f := 33) rfl ?_); refine goesL_ (some 12) rfl rfl Try.func33 (by kernel_rfl) rfl #[.slice none 0 0] rfl (by (try simp only [List.map_toArray, List.map_cons, List.map_nil]); first | done | rfl | (simp only [List.length_drop, List.length_take]; rfl)) ?_; (with_reducible refine (back_calls _ none 0 0).mono ?_); rintro e w5_ ⟨g9, rfl, hk9, hg9, hb⟩; refine ⟨_, rfl, ?_⟩; have n0_ := Aside0.mk (below_step (by repeat (first | (with_reducible first | exact HB.out | apply below_alloc | apply pw_below_drewN | apply below_drew1 | refine below_set ?_ GE1.out | refine below_set ?_ GE3.out) | exact HB.out)) hb); have n1_ := Aside0.mk (blk_below (g := g1) (o := .cells #[.slice (some ⟨x, 0, none⟩) 1 1, .slice none 0 0] 25 (0, 0)) (by (with_reducible repeat (first | refine blk_drewN ?_ _ | refine blk_drew ?_ | refine blk_alloc ?_ _)); exact BK1.out) hb); have n2_ := Aside0.mk (blk_below (g := g3) (o := .cells #[.map (some m1)] 46 (0, 0)) (by (with_reducible repeat (first | refine blk_drewN ?_ _ | refine blk_drew ?_ | refine blk_alloc ?_ _)); exact BK3.out) hb); have n3_ := Aside0.mk (EM.below (b := m1) (by (with_reducible repeat (first | refine EM_drewN ?_ _ | refine EM_drew ?_ | refine EM_alloc ?_ _)); exact MP1.out) hb); clear HB; clear BK1; clear BK3; clear MP1; have HB := n0_; have BK1 := n1_; have BK3 := n2_; have MP1 := n3_; clear n0_ n1_ n2_ n3_; clear hb; have BK9 := Aside0.mk hk9; clear hk9)
  refine wp_range_empty (gf := 52) (lb := #[.pointer (some ⟨g9, 0, none⟩)]) rfl (enters_of Try.func52 (by kernel_rfl) rfl) (fun l W hW => back1_empty W l g9 ((blk_cell (blk_below BK9.out hW) 0).trans rfl)) ?_
  intro D w6_ hD_ hb_ hK_
  have HD_ := Aside0.mk hD_
  have HDB := Aside0.mk (show w.heap.size ≤ D from Nat.le_trans HB.out.size hD_)
  have NMD1 := Aside0.mk (show m1 ≠ D from fun e_ => absurd (EM.lt MP1.out) (by omega))
  have hb := hb_
  have n0_ := Aside0.mk (below_step (by repeat (first | (with_reducible first | exact HB.out | apply below_alloc | apply pw_below_drewN | apply below_drew1 | refine below_set ?_ GE1.out | refine below_set ?_ GE3.out | refine below_set ?_ GE9.out) | exact HB.out)) hb)
  have n1_ := Aside0.mk (blk_below (g := g1) (o := .cells #[.slice (some ⟨x, 0, none⟩) 1 1, .slice none 0 0] 25 (0, 0)) (by (with_reducible repeat (first | refine blk_drewN ?_ _ | refine blk_drew ?_ | refine blk_alloc ?_ _)); exact BK1.out) hb)
  have n2_ := Aside0.mk (blk_below (g := g3) (o := .cells #[.map (some m1)] 46 (0, 0)) (by (with_reducible repeat (first | refine blk_drewN ?_ _ | refine blk_drew ?_ | refine blk_alloc ?_ _)); exact BK3.out) hb)
  have n3_ := Aside0.mk (blk_below (g := g9) (o := .cells #[.slice none 0 0] 23 (0, 0)) (by (with_reducible repeat (first | refine blk_drewN ?_ _ | refine blk_drew ?_ | refine blk_alloc ?_ _)); exact BK9.out) hb)
  have n4_ := Aside0.mk (EM.below (b := m1) (by (with_reducible repeat (first | refine EM_drewN ?_ _ | refine EM_drew ?_ | refine EM_alloc ?_ _)); exact MP1.out) hb)
  clear HB
  clear BK1
  clear BK3
  clear BK9
  clear MP1
  have HB := n0_
  have BK1 := n1_
  have BK3 := n2_
  have BK9 := n3_
  have MP1 := n4_
  clear n0_ n1_ n2_ n3_ n4_
  clear hb
  have HK := Aside0.mk hK_
  clear hb_ hK_ hD_
  go_wp2
  rw [run_makeMap]
  obtain ⟨w7_, hw_⟩ : ∃ x, x = w6_.alloc (.map #[] 0) := ⟨_, rfl⟩
  obtain ⟨m2, hm_⟩ : ∃ x, x = w6_.heap.size := ⟨_, rfl⟩
  rw [← hw_, ← hm_]
  have hb : Below w6_.heap.size w6_ w7_ := by rw [hw_]; exact below_alloc (Below.refl _ _) _
  have n0_ := Aside0.mk (below_step (by repeat (first | (with_reducible first | exact HB.out | apply below_alloc | apply pw_below_drewN | apply below_drew1 | refine below_set ?_ GE1.out | refine below_set ?_ GE3.out | refine below_set ?_ GE9.out) | exact HB.out)) hb)
  have n1_ := Aside0.mk (blk_below (g := g1) (o := .cells #[.slice (some ⟨x, 0, none⟩) 1 1, .slice none 0 0] 25 (0, 0)) (by (with_reducible repeat (first | refine blk_drewN ?_ _ | refine blk_drew ?_ | refine blk_alloc ?_ _)); exact BK1.out) hb)
  have n2_ := Aside0.mk (blk_below (g := g3) (o := .cells #[.map (some m1)] 46 (0, 0)) (by (with_reducible repeat (first | refine blk_drewN ?_ _ | refine blk_drew ?_ | refine blk_alloc ?_ _)); exact BK3.out) hb)
  have n3_ := Aside0.mk (blk_below (g := g9) (o := .cells #[.slice none 0 0] 23 (0, 0)) (by (with_reducible repeat (first | refine blk_drewN ?_ _ | refine blk_drew ?_ | refine blk_alloc ?_ _)); exact BK9.out) hb)
  have n4_ := Aside0.mk (EM.below (b := m1) (by (with_reducible repeat (first | refine EM_drewN ?_ _ | refine EM_drew ?_ | refine EM_alloc ?_ _)); exact MP1.out) hb)
  have n5_ := Aside0.mk (blk_below (g := D) (o := .deferred (some [])) (by (with_reducible repeat (first | refine blk_drewN ?_ _ | refine blk_drew ?_ | refine blk_alloc ?_ _)); exact HK.out) hb)
  have n6_ := Aside0.mk (show EM w7_ m2 from by rw [hw_, hm_]; exact World.ownsMap_made _ _ _ _)
  have GM2 := Aside0.mk (show w.heap.size ≤ m2 from by rw [hm_]; exact below_size HB.out)
  have NG1_2 := Aside0.mk (show g1 ≠ m2 from by rw [hm_]; exact Nat.ne_of_lt (blk_lt BK1.out))
  have NG3_2 := Aside0.mk (show g3 ≠ m2 from by rw [hm_]; exact Nat.ne_of_lt (blk_lt BK3.out))
  have NG9_2 := Aside0.mk (show g9 ≠ m2 from by rw [hm_]; exact Nat.ne_of_lt (blk_lt BK9.out))
  have NMM1_2 := Aside0.mk (show m1 ≠ m2 from by rw [hm_]; exact Nat.ne_of_lt (EM.lt MP1.out))
  have NMD2 := Aside0.mk (show m2 ≠ D from by rw [hm_]; exact (Nat.ne_of_lt (blk_lt HK.out)).symm)
  clear HB
  clear BK1
  clear BK3
  clear BK9
  clear MP1
  clear HK
  have HB := n0_
  have BK1 := n1_
  have BK3 := n2_
  have BK9 := n3_
  have MP1 := n4_
  have HK := n5_
  have MP2 := n6_
  clear n0_ n1_ n2_ n3_ n4_ n5_ n6_
  clear hb hw_ hm_
  have hc1_0 : w7_.cell? ⟨g1, 0, none⟩ = some (.slice (some ⟨x, 0, none⟩) 1 1) := (blk_cell BK1.out 0).trans rfl
  have hf1_0 := blk_frozen BK1.out 0
  have hc1_1 : w7_.cell? ⟨g1, 1, none⟩ = some (.slice none 0 0) := (blk_cell BK1.out 1).trans rfl
  have hf1_1 := blk_frozen BK1.out 1
  have hxc := (HB.out.cell (p := ⟨x, 0, none⟩) hxl).trans hx
  have hxs := Nat.lt_of_lt_of_le hxl HB.out.size
  go_wp2_with (go_at_call 34; (with_reducible refine (walk_calls _ x v hv hxc hxs).mono ?_); rintro e w8_ ⟨rfl, hb⟩; have n0_ := Aside0.mk (below_step (by repeat (first | (with_reducible first | exact HB.out | apply below_alloc | apply pw_below_drewN | apply below_drew1 | refine below_set ?_ GE1.out | refine below_set ?_ GE3.out | refine below_set ?_ GE9.out) | exact HB.out)) hb); have n1_ := Aside0.mk (blk_below (g := g1) (o := .cells #[.slice (some ⟨x, 0, none⟩) 1 1, .slice none 0 0] 25 (0, 0)) (by (with_reducible repeat (first | refine blk_drewN ?_ _ | refine blk_drew ?_ | refine blk_alloc ?_ _)); exact BK1.out) hb); have n2_ := Aside0.mk (blk_below (g := g3) (o := .cells #[.map (some m1)] 46 (0, 0)) (by (with_reducible repeat (first | refine blk_drewN ?_ _ | refine blk_drew ?_ | refine blk_alloc ?_ _)); exact BK3.out) hb); have n3_ := Aside0.mk (blk_below (g := g9) (o := .cells #[.slice none 0 0] 23 (0, 0)) (by (with_reducible repeat (first | refine blk_drewN ?_ _ | refine blk_drew ?_ | refine blk_alloc ?_ _)); exact BK9.out) hb); have n4_ := Aside0.mk (EM.below (b := m1) (by (with_reducible repeat (first | refine EM_drewN ?_ _ | refine EM_drew ?_ | refine EM_alloc ?_ _)); exact MP1.out) hb); have n5_ := Aside0.mk (EM.below (b := m2) (by (with_reducible repeat (first | refine EM_drewN ?_ _ | refine EM_drew ?_ | refine EM_alloc ?_ _)); exact MP2.out) hb); have n6_ := Aside0.mk (blk_below (g := D) (o := .deferred (some [])) (by (with_reducible repeat (first | refine blk_drewN ?_ _ | refine blk_drew ?_ | refine blk_alloc ?_ _)); exact HK.out) hb); clear HB; clear BK1; clear BK3; clear BK9; clear MP1; clear MP2; clear HK; have HB := n0_; have BK1 := n1_; have BK3 := n2_; have BK9 := n3_; have MP1 := n4_; have MP2 := n5_; have HK := n6_; clear n0_ n1_ n2_ n3_ n4_ n5_ n6_; clear hb)
  go_loopw [23] (fun v wr => v = .int .i64 0 ∧ wr = w8_) (fun _ _ => 0)
  case atStart => exact ⟨rfl, rfl⟩
  case round =>
    obtain ⟨rfl, hwr⟩ := hrel
    obtain rfl := hwr.symm
    go_wp2
    refine ⟨by simp, .inl ⟨_, _, rfl, run_takeDeferred HK.out, ?_⟩⟩
    exact ⟨_, results_tmp rfl _ _ _, m2, rfl, EM.put MP2.out NMD2.out _, GM2.out, HB.out.trans (belowK_b (w := w) (Nat.le_refl _) _ D _ _ HDB.out HK.out rfl rfl)⟩
set_option maxHeartbeats 4000000 in
theorem appkeys_calls (w : World) (g9 m1 : Nat) (hg : w.heap[g9]? = some (.cells #[.map (some m1)] 46 (0, 0))) (hm : EM w m1) : Calls Try.prog 44 #[.slice none 0 0, .func (.func 59) #[] #[.pointer (some ⟨g9, 0, none⟩)]] w fun e W' => e = .returned (.slice none 0 0) ∧ Below w.heap.size w W' := by
  refine calls_marks Try.func44 rfl ?_
  simp only [Try.ntmps44, List.size_toArray, List.length_cons, List.length_nil, Nat.reduceAdd, Nat.reduceSub, Array.replicate_succ, Array.replicate_zero, List.push_toArray, List.append_toArray, List.nil_append, List.cons_append]
  have HB := Aside0.mk (Below.refl w.heap.size w)
  have MP1 := Aside0.mk hm
  have BK9 := Aside0.mk hg
  go_upto_region 1 with ((with_reducible refine gate_dst (N := 2) rfl ?_); refine box_event ?hg (N := 2) ?hd (cs := #[.slice none 0 0]) (t := 22) ?hr ?_; (case hd => rfl); (case hg => rfl); (case hr => first | (go_simp; done) | (go_simp; rfl)); intro g2 hg w1_ hbox hb; have n0_ := Aside0.mk (below_step (by repeat (first | (with_reducible first | exact HB.out | apply below_alloc | apply pw_below_drewN | apply below_drew1 | refine below_set ?_ GE9.out) | exact HB.out)) hb); have n1_ := Aside0.mk (blk_below (g := g9) (o := .cells #[.map (some m1)] 46 (0, 0)) (by (with_reducible repeat (first | refine blk_drewN ?_ _ | refine blk_drew ?_ | refine blk_alloc ?_ _)); exact BK9.out) hb); have n2_ := Aside0.mk (EM.below (b := m1) (by (with_reducible repeat (first | refine EM_drewN ?_ _ | refine EM_drew ?_ | refine EM_alloc ?_ _)); exact MP1.out) hb); have n3_ := Aside0.mk hbox; have n4_ := Aside0.mk ((by rw [hg]; exact (below_size (by repeat (first | (with_reducible first | exact HB.out | apply below_alloc | apply pw_below_drewN | apply below_drew1 | refine below_set ?_ GE9.out) | exact HB.out)))) : w.heap.size ≤ g2); have n5_ := Aside0.mk ((by rw [hg]; exact Nat.ne_of_lt (blk_lt (g := g9) (o := .cells #[.map (some m1)] 46 (0, 0)) (by (with_reducible repeat (first | refine blk_drewN ?_ _ | refine blk_drew ?_ | refine blk_alloc ?_ _)); exact BK9.out))) : g9 ≠ g2); have n6_ := Aside0.mk ((by rw [hg]; exact Nat.ne_of_lt (EM.lt (b := m1) (by (with_reducible repeat (first | refine EM_drewN ?_ _ | refine EM_drew ?_ | refine EM_alloc ?_ _)); exact MP1.out))) : m1 ≠ g2); clear HB; clear BK9; clear MP1; have HB := n0_; have BK9 := n1_; have MP1 := n2_; have BK2 := n3_; have GE2 := n4_; have NE9_2 := n5_; have NM1_2 := n6_; clear n0_ n1_ n2_ n3_ n4_ n5_ n6_; clear hb hbox hg)
  go_wp2
  refine wp_range_empty (gf := 59) (lb := #[.pointer (some ⟨g9, 0, none⟩)]) rfl (enters_of Try.func59 (by kernel_rfl) rfl) (fun l W hW => keys1_empty W l g9 m1 ((blk_cell (blk_below BK9.out hW) 0).trans rfl) (EM.below MP1.out hW)) ?_
  intro D w2_ hD_ hb_ hK_
  have HD_ := Aside0.mk hD_
  have HDB := Aside0.mk (show w.heap.size ≤ D from Nat.le_trans HB.out.size hD_)
  have NMD1 := Aside0.mk (show m1 ≠ D from fun e_ => absurd (EM.lt MP1.out) (by omega))
  have hb := hb_
  have n0_ := Aside0.mk (below_step (by repeat (first | (with_reducible first | exact HB.out | apply below_alloc | apply pw_below_drewN | apply below_drew1 | refine below_set ?_ GE9.out | refine below_set ?_ GE2.out) | exact HB.out)) hb)
  have n1_ := Aside0.mk (blk_below (g := g9) (o := .cells #[.map (some m1)] 46 (0, 0)) (by (with_reducible repeat (first | refine blk_drewN ?_ _ | refine blk_drew ?_ | refine blk_alloc ?_ _)); exact BK9.out) hb)
  have n2_ := Aside0.mk (blk_below (g := g2) (o := .cells #[.slice none 0 0] 22 (0, 0)) (by (with_reducible repeat (first | refine blk_drewN ?_ _ | refine blk_drew ?_ | refine blk_alloc ?_ _)); exact BK2.out) hb)
  have n3_ := Aside0.mk (EM.below (b := m1) (by (with_reducible repeat (first | refine EM_drewN ?_ _ | refine EM_drew ?_ | refine EM_alloc ?_ _)); exact MP1.out) hb)
  clear HB
  clear BK9
  clear BK2
  clear MP1
  have HB := n0_
  have BK9 := n1_
  have BK2 := n2_
  have MP1 := n3_
  clear n0_ n1_ n2_ n3_
  clear hb
  have HK := Aside0.mk hK_
  clear hb_ hK_ hD_
  have hc2_0 : w2_.cell? ⟨g2, 0, none⟩ = some (.slice none 0 0) := (blk_cell BK2.out 0).trans rfl
  have hf2_0 := blk_frozen BK2.out 0
  go_wp2
  refine ⟨by simp, .inl ⟨_, _, rfl, run_takeDeferred HK.out, ?_⟩⟩
  exact ⟨_, results_tmp rfl _ _ _, rfl, HB.out.trans (belowK_b (w := w) (Nat.le_refl _) _ D _ _ HDB.out HK.out rfl rfl)⟩
theorem collect_calls (w : World) (g9 m1 : Nat) (hg : w.heap[g9]? = some (.cells #[.map (some m1)] 46 (0, 0))) (hm : EM w m1) : Calls Try.prog 45 #[.func (.func 59) #[] #[.pointer (some ⟨g9, 0, none⟩)]] w fun e W' => e = .returned (.slice none 0 0) ∧ Below w.heap.size w W' := by
  go_enter Try.func45, Try.ntmps45
  go_wp2_with (go_at_call 44; refine (appkeys_calls _ g9 m1 hg hm).mono ?_; rintro e w' ⟨rfl, hb⟩)
  go_ret
  exact ⟨rfl, hb⟩
theorem compact_calls (w : World) : Calls Try.prog 48 #[.slice none 0 0] w fun e W' => e = .returned (.slice none 0 0) ∧ W' = w := by
  go_enter Try.func48, Try.ntmps48
  go_wp2
  go_ret
  exact ⟨rfl, rfl⟩
theorem insert_calls (w : World) : Calls Try.prog 72 #[.slice none 0 0, .int .i64 0, .int .i64 0] w fun e W' => (∃ v, e = .returned v) ∧ W' = w := by
  go_enter Try.func72, Try.ntmps72
  go_wp2
  go_loopw [6] (fun v wr => v = .int .i64 1 ∧ wr = w) (fun _ _ => 0)
  case atStart => exact ⟨rfl, rfl⟩
  case round =>
    obtain ⟨rfl, rfl⟩ := hrel
    go_wp2
    go_end0
    exact ⟨⟨_, rfl⟩, rfl⟩
theorem pdq_calls (w : World) (l : Int) : Calls Try.prog 60 #[.slice none 0 0, .int .i64 0, .int .i64 0, .int .i64 l] w fun e W' => (∃ v, e = .returned v) ∧ W' = w := by
  go_enter Try.func60, Try.ntmps60
  go_wp2
  go_loopw [1, 2] (fun a b wr => a = .int .i64 0 ∧ b = .int .i64 0 ∧ wr = w) (fun _ _ _ => 0)
  case atStart => exact ⟨rfl, rfl, rfl⟩
  case round =>
    obtain ⟨rfl, rfl, rfl⟩ := hrel
    go_wp2_with (go_at_call 72; refine (insert_calls _).mono ?_; rintro e w' ⟨⟨v, rfl⟩, hw⟩; obtain rfl := hw.symm)
    refine bodyPost_ret (results_none rfl _ _ _) rfl ?_
    exact ⟨⟨_, rfl⟩, rfl⟩
theorem sort_calls (w : World) : Calls Try.prog 47 #[.slice none 0 0] w fun e W' => (∃ v, e = .returned v) ∧ W' = w := by
  go_enter Try.func47, Try.ntmps47
  go_wp2_with (first
    | (go_at_call 58; refine (Sh.bits_Len 0 _ (by decide) (by decide)).mono ?_; rintro e w' ⟨rfl, hw⟩; obtain rfl := hw.symm)
    | (go_at_call 60; refine (pdq_calls _ _).mono ?_; rintro e w' ⟨⟨v, rfl⟩, hw⟩; obtain rfl := hw.symm))
  go_end0
  exact ⟨⟨_, rfl⟩, rfl⟩
end Go.Proofs.Ytekggbmajemmhaa.Di
-- PRINTED BY print.sh 35421559b90ae4d0a3588c463048766b98c2df88dd9212a6774a882060cdf62d: not written by this session
/-! ### 50. A region's order in a table, made once a region: each step asks the table (numbers alone), not the operations -/
namespace Go.Proofs.YtekggbmajemmhaaW.PrintLast
open Go.Proofs.YtekggbmajemmhaaW.PrintWords (Aside0)
def needsOf (md : Region.Mode) (o : Oper) : List Nat := (o.after.toList.filter (fun e => Region.binds md e)).map (fun e => e.on)
def clashOf (md : Region.Mode) (ops : Array Oper) (i : Nat) (oi : Oper) : List Nat := (List.range ops.size).filter fun j => !(j == i) && match ops[j]? with
  | some oj => !(oj.after.any (fun e => Region.binds md e && e.on == i) || oi.apart ops oj)
  | none => false
/-- No select in it; for each operation: what must have come up before it, and what may not come up behind it if it is taken first. -/
def rtab (md : Region.Mode) (ops : Array Oper) : Bool × List (List Nat × List Nat) := (Region.noSelect ops, (List.range ops.size).map fun i => match ops[i]? with
  | some o => (needsOf md o, clashOf md ops i o)
  | none => ([], []))
def readyAt (T : List (List Nat × List Nat)) (l : List Bool) (i : Nat) : Bool := !l.getD i true && match T[i]? with
  | some r => r.1.all (fun j => l.getD j false)
  | none => false
def readyT (T : List (List Nat × List Nat)) (l : List Bool) : List Nat := (List.range T.length).filter (readyAt T l)
section
variable {md : Region.Mode} {ops : Array Oper} {T : Bool × List (List Nat × List Nat)} {l l' li lj lk : Array Bool} {ds : List Nat} {i j k : Nat}
theorem gd (l : Array Bool) (j : Nat) (b : Bool) : l.getD j b = l.toList.getD j b := by simp [Array.getD_eq_getD_getElem?, List.getD_eq_getElem?_getD]
theorem needs_all (o : Oper) (p : Nat → Bool) : o.after.all (fun e => !Region.binds md e || p e.on) = (needsOf md o).all p := by
  unfold needsOf
  rw [← Array.all_toList]
  induction o.after.toList with
  | nil => rfl
  | cons e r ih =>
    rw [List.all_cons, ih, List.filter_cons]
    cases h : Region.binds md e <;> simp
theorem rtab_length : (rtab md ops).2.length = ops.size := by simp [rtab]
theorem rtab_some {o : Oper} (h : ops[i]? = some o) : (rtab md ops).2[i]? = some (needsOf md o, clashOf md ops i o) := by
  have hi := (Array.getElem?_eq_some_iff.1 h).1
  unfold rtab
  rw [List.getElem?_map, List.getElem?_range hi, Option.map_some, h]
theorem rtab_none (h : ops[i]? = none) : (rtab md ops).2[i]? = none := by
  have hi : ops.size ≤ i := Array.getElem?_eq_none_iff.1 h
  exact List.getElem?_eq_none (by rw [rtab_length]; exact hi)
theorem readyAt_eq : readyAt (rtab md ops).2 l.toList i = (!l.getD i true && ((ops[i]?).map (·.after.all fun e => !Region.binds md e || l.getD e.on false)).getD false) := by
  unfold readyAt
  rw [gd]
  cases h : ops[i]? with
  | none => rw [rtab_none h]; rfl
  | some o =>
    rw [rtab_some h]
    simp only [Option.map_some, Option.getD_some]
    rw [← needs_all]
    simp only [gd]
theorem ready_eq : Region.ready md ops l = readyT (rtab md ops).2 l.toList := by
  unfold Region.ready readyT
  rw [rtab_length]
  refine List.filter_congr (fun i _ => ?_)
  rw [readyAt_eq]
/-- What d waits for, as_ bits: told in the table (B), checked in one pass: each bit is a need of d, or a bit of an earlier need's. -/
def upM (B : List Nat) (d : Nat) : List Nat → Nat
  | [] => 0
  | n :: r => (2 ^ n ||| (if n < d then B.getD n 0 else 0)) ||| upM B d r
def waitsOk (T : List (List Nat × List Nat)) (B : List Nat) : Bool := (List.range T.length).all fun d => match T[d]? with
  | some r => (B.getD d 0 ||| upM B d r.1) == upM B d r.1
  | none => false
theorem upM_bit {B : List Nat} {d i : Nat} : ∀ {ns : List Nat}, (upM B d ns).testBit i = true → ∃ n ∈ ns, n = i ∨ (n < d ∧ (B.getD n 0).testBit i = true)
  | [], h => by simp [upM] at h
  | n :: r, h => by
    unfold upM at h
    rw [Nat.testBit_or, Nat.testBit_or, Bool.or_eq_true, Bool.or_eq_true] at h
    rcases h with (h | h) | h
    · rw [Nat.testBit_two_pow] at h
      exact ⟨n, List.mem_cons_self, .inl (by simpa using h)⟩
    · by_cases hn : n < d
      · rw [if_pos hn] at h
        exact ⟨n, List.mem_cons_self, .inr ⟨hn, h⟩⟩
      · rw [if_neg hn] at h
        simp at h
    · obtain ⟨m, hm, h2⟩ := upM_bit h
      exact ⟨m, List.mem_cons_of_mem _ hm, h2⟩
theorem with_tabW {P : Program} {Q : Exit → Act → World → Prop} {S : World → Prop} {n : Nat} {a : Act} {w : World} {B : List Nat} (hT : rtab md ops = T) (hB : waitsOk T.2 B = true) (h : Aside0 (rtab md ops = T) → Aside0 (waitsOk T.2 B = true) → wpAnyLast P md ops Q S ds n l a w) : wpAnyLast P md ops Q S ds n l a w := h ⟨hT⟩ ⟨hB⟩
end
/-- The operations of a region, by its number. -/
def opsIn : Code → Nat → Option (Array Oper)
  | .region id ops _, k => if id == k then some ops else none
  | .seq a b, k => match opsIn a k with
    | some o => some o
    | none => opsIn b k
  | .cond _ a b, k => match opsIn a k with
    | some o => some o
    | none => opsIn b k
  | .block _ c, k => opsIn c k
  | .loop c, k => opsIn c k
  | .scope c, k => opsIn c k
  | .rangeFunc _ _ a b, k => match opsIn a k with
    | some o => some o
    | none => opsIn b k
  | _, _ => none
def opsOf (f : Func) (k : Nat) : Array Oper := ((f.body.bind fun c => opsIn c k)).getD #[]
end Go.Proofs.YtekggbmajemmhaaW.PrintLast
-- PRINTED BY print.sh 35421559b90ae4d0a3588c463048766b98c2df88dd9212a6774a882060cdf62d: not written by this session
/-! ### 57. A region of open order by ONE relation over what is listed so far: each operation is shown once, whatever came up before it -/
namespace Go.Proofs.YtekggbmajemmhaaW.PrintLast
/-- Number i is listed too. -/
def up (b : Nat → Bool) (i : Nat) : Nat → Bool := fun j => if j = i then true else b j
theorem up_self (b : Nat → Bool) (i : Nat) : up b i i = true := by simp [up]
theorem up_ne {b : Nat → Bool} {i j : Nat} (h : j ≠ i) : up b i j = b j := by simp [up, h]
/-- What is listed: O's operations by b, all else already. -/
def lof (n : Nat) (O : List Nat) (b : Nat → Bool) : List Bool := (List.range n).map fun j => if O.contains j then b j else true
/-- The destinations of what is listed are filled. -/
def putSel (a : Act) (b : Nat → Bool) : List (Nat × Tmp × Value) → Act
  | [] => a
  | e :: r => putSel (if b e.1 = true then a.put (some e.2.1) e.2.2 else a) b r
section
variable {P : Program} {ops : Array Oper} {Q : Exit → Act → World → Prop} {md : Region.Mode} {T : Bool × List (List Nat × List Nat)} {B : List Nat} {O : List Nat} {b : Nat → Bool} {i j n : Nat}
theorem lof_length : (lof n O b).length = n := by simp [lof]
theorem lof_get {d : Bool} (hj : j < n) : (lof n O b).getD j d = if O.contains j then b j else true := by
  simp [lof, List.getD_eq_getElem?_getD, hj]
theorem lof_up (hi : O.contains i = true) : (lof n O b).set i true = lof n O (up b i) := by
  apply List.ext_getElem?
  intro j
  by_cases hj : j < n
  · by_cases hij : i = j
    · subst hij
      have hl : i < (lof n O b).length := by rw [lof_length]; exact hj
      rw [List.getElem?_set_self hl]
      simp only [lof, List.getElem?_map, List.getElem?_range hj, Option.map_some, hi, if_true, up_self]
    · rw [List.getElem?_set_ne hij]
      simp only [lof, List.getElem?_map, List.getElem?_range hj, Option.map_some]
      rw [up_ne (Ne.symm hij)]
  · rw [List.getElem?_eq_none (by simp [lof]; omega), List.getElem?_eq_none (by simp [lof]; omega)]
/-- The step of operation i: out of the relation, it not being listed, all it waits for being so, and nothing that waits for it. -/
def StepAt (P : Program) (ops : Array Oper) (Q : Exit → Act → World → Prop) (B : List Nat) (O : List Nat) (I : (Nat → Bool) → Act → World → Prop) (i : Nat) : Prop :=
  ∀ b a w, I b a w → b i = false → (∀ j, (O.contains j && (B.getD i 0).testBit j) = true → b j = true) → (∀ d, (O.contains d && (B.getD d 0).testBit i) = true → b d = false) →
    ∃ oi, ops[i]? = some oi ∧ ∀ K : Act → World → Prop, Shut (∀ a' w', I (up b i) a' w' → K a' w') → if Region.wanted oi (yielded ops a.tmps) = true then Oper.wp P oi a w K Q else K (a.put oi.dst undef) w
theorem steps_nil {I : (Nat → Bool) → Act → World → Prop} : ∀ i ∈ ([] : List Nat), StepAt P ops Q B O I i := fun _ h => by cases h
theorem steps_cons {I : (Nat → Bool) → Act → World → Prop} {rs : List Nat} (h : StepAt P ops Q B O I i) (hs : ∀ j ∈ rs, StepAt P ops Q B O I j) : ∀ j ∈ i :: rs, StepAt P ops Q B O I j := fun j hj => by
  rcases List.mem_cons.1 hj with rfl | hj
  · exact h
  · exact hs j hj
/-- Every edge goes to an earlier operation; what is listed already waits for nothing of O; O's numbers are the region's, each once. -/
def baseOk (T : List (List Nat × List Nat)) (O : List Nat) : Bool :=
  (List.range T.length).all (fun d => match T[d]? with
    | some r => (O.contains d || r.1.all fun n => !O.contains n) && r.1.all fun n => decide (n < d)
    | none => false) && O.all (fun i => decide (i < T.length)) && decide O.Nodup
theorem baseOk_row {T : List (List Nat × List Nat)} (h : baseOk T O = true) {d : Nat} {r : List Nat × List Nat} (hr : T[d]? = some r) : (O.contains d = false → ∀ n ∈ r.1, O.contains n = false) ∧ ∀ n ∈ r.1, n < d := by
  simp only [baseOk, Bool.and_eq_true] at h
  have h1 := List.all_eq_true.1 h.1.1 d (List.mem_range.2 (List.getElem?_eq_some_iff.1 hr).1)
  rw [hr] at h1
  simp only [Bool.and_eq_true, Bool.or_eq_true, List.all_eq_true, decide_eq_true_eq] at h1
  refine ⟨fun hd n hn => ?_, h1.2⟩
  rcases h1.1 with h2 | h2
  · rw [hd] at h2; cases h2
  · simpa using h2 n hn
theorem baseOk_lt {T : List (List Nat × List Nat)} (h : baseOk T O = true) {i : Nat} (hi : i ∈ O) : i < T.length := by
  simp only [baseOk, Bool.and_eq_true] at h
  simpa using List.all_eq_true.1 h.1.2 i hi
theorem baseOk_nodup {T : List (List Nat × List Nat)} (h : baseOk T O = true) : O.Nodup := by
  simp only [baseOk, Bool.and_eq_true] at h
  exact of_decide_eq_true h.2
def Closed (T : List (List Nat × List Nat)) (O : List Nat) (b : Nat → Bool) : Prop := ∀ d r, T[d]? = some r → O.contains d = true → b d = true → ∀ n ∈ r.1, O.contains n = true → b n = true
/-- What waits for nothing of O has none of it in its bits. -/
theorem bits_out {T : List (List Nat × List Nat)} (hw : waitsOk T B = true) (hk : baseOk T O = true) : ∀ (m d : Nat), d ≤ m → d < T.length → O.contains d = false → ∀ j, (B.getD d 0).testBit j = true → O.contains j = false := by
  intro m
  induction m with
  | zero =>
    intro d hd hl hO j hj
    have hd0 : d = 0 := by omega
    subst hd0
    have hr : T[0]? = some T[0] := List.getElem?_eq_getElem hl
    have h1 := List.all_eq_true.1 hw 0 (List.mem_range.2 hl)
    rw [hr] at h1
    simp only [beq_iff_eq] at h1
    have h2 : (upM B 0 T[0].1).testBit j = true := by rw [← h1, Nat.testBit_or, hj, Bool.true_or]
    obtain ⟨n, hn, h3⟩ := upM_bit h2
    have := (baseOk_row hk hr).2 n hn
    omega
  | succ m ih =>
    intro d hd hl hO j hj
    have hr : T[d]? = some T[d] := List.getElem?_eq_getElem hl
    have h1 := List.all_eq_true.1 hw d (List.mem_range.2 hl)
    rw [hr] at h1
    simp only [beq_iff_eq] at h1
    have h2 : (upM B d T[d].1).testBit j = true := by rw [← h1, Nat.testBit_or, hj, Bool.true_or]
    obtain ⟨n, hn, h3⟩ := upM_bit h2
    have hO2 := (baseOk_row hk hr).1 hO n hn
    rcases h3 with rfl | ⟨h4, h5⟩
    · exact hO2
    · exact ih n (by omega) (by omega) hO2 j h5
theorem closed_bits {T : List (List Nat × List Nat)} (hw : waitsOk T B = true) (hk : baseOk T O = true) (hc : Closed T O b) : ∀ (m d : Nat), d ≤ m → d < T.length → O.contains d = true → b d = true → ∀ j, O.contains j = true → (B.getD d 0).testBit j = true → b j = true := by
  intro m
  induction m with
  | zero =>
    intro d hd hl hO hb j hjO hj
    have hd0 : d = 0 := by omega
    subst hd0
    have hr : T[0]? = some T[0] := List.getElem?_eq_getElem hl
    have h1 := List.all_eq_true.1 hw 0 (List.mem_range.2 hl)
    rw [hr] at h1
    simp only [beq_iff_eq] at h1
    have h2 : (upM B 0 T[0].1).testBit j = true := by rw [← h1, Nat.testBit_or, hj, Bool.true_or]
    obtain ⟨n, hn, h3⟩ := upM_bit h2
    have := (baseOk_row hk hr).2 n hn
    omega
  | succ m ih =>
    intro d hd hl hO hb j hjO hj
    have hr : T[d]? = some T[d] := List.getElem?_eq_getElem hl
    have h1 := List.all_eq_true.1 hw d (List.mem_range.2 hl)
    rw [hr] at h1
    simp only [beq_iff_eq] at h1
    have h2 : (upM B d T[d].1).testBit j = true := by rw [← h1, Nat.testBit_or, hj, Bool.true_or]
    obtain ⟨n, hn, h3⟩ := upM_bit h2
    rcases h3 with rfl | ⟨h4, h5⟩
    · exact hc d _ hr hO hb n hn hjO
    · cases hO2 : O.contains n with
      | true => exact ih n (by omega) (by omega) hO2 (hc d _ hr hO hb n hn hO2) j hjO h5
      | false =>
        have := bits_out hw hk n n (Nat.le_refl _) (by omega) hO2 j h5
        rw [hjO] at this
        cases this
theorem up_count : ∀ {O : List Nat}, O.Nodup → i ∈ O → b i = false → (O.filter fun j => !up b i j).length + 1 = (O.filter fun j => !b j).length
  | [], _, hi, _ => by cases hi
  | x :: r, hn, hi, hb => by
    rw [List.nodup_cons] at hn
    rcases List.mem_cons.1 hi with rfl | hi
    · have h1 : (r.filter fun j => !up b i j) = r.filter fun j => !b j := by
        refine List.filter_congr (fun j hj => ?_)
        rw [up_ne (fun e => hn.1 (by rw [← e]; exact hj))]
      rw [List.filter_cons, List.filter_cons]
      simp [up_self, hb, h1]
    · have hxi : x ≠ i := fun e => hn.1 (e ▸ hi)
      have h1 := up_count hn.2 hi hb
      rw [List.filter_cons, List.filter_cons, up_ne hxi]
      cases hbx : b x
      · simp only [Bool.not_false, if_true, List.length_cons]
        omega
      · simpa using h1
theorem inv_all (hT : rtab md ops = T) (hw : waitsOk T.2 B = true) (hk : baseOk T.2 O = true) (I : (Nat → Bool) → Act → World → Prop) (hs : ∀ i ∈ O, StepAt P ops Q B O I i)
    (hend : ∀ b a w, (∀ j, O.contains j = true → b j = true) → I b a w → Q .normal a w) :
    ∀ (m : Nat) (b : Nat → Bool) (a : Act) (w : World), (O.filter fun j => !b j).length = m → Closed T.2 O b → I b a w → wpAnyLast P md ops Q (fun _ => True) [] m (lof T.2.length O b).toArray a w := by
  subst hT
  have mem_ready' : ∀ {b : Nat → Bool} {i : Nat}, i ∈ Region.ready md ops (lof (rtab md ops).2.length O b).toArray → i < (rtab md ops).2.length ∧ O.contains i = true ∧ b i = false ∧ ∀ r, (rtab md ops).2[i]? = some r → ∀ n ∈ r.1, n < (rtab md ops).2.length → O.contains n = true → b n = true := by
    intro b i hi
    rw [ready_eq] at hi
    unfold readyT at hi
    rw [List.mem_filter, List.mem_range] at hi
    obtain ⟨hl, h1⟩ := hi
    unfold readyAt at h1
    rw [Bool.and_eq_true, lof_get hl] at h1
    obtain ⟨h2, h3⟩ := h1
    have h4 : O.contains i = true := by
      cases h : O.contains i with
      | true => rfl
      | false => rw [h] at h2; simp at h2
    rw [h4] at h2
    refine ⟨hl, h4, by simpa using h2, fun r hr n hn hnl hO => ?_⟩
    rw [hr] at h3
    simp only [List.all_eq_true] at h3
    have h5 := h3 n hn
    rw [lof_get hnl, hO] at h5
    simpa using h5
  intro m
  induction m with
  | zero =>
    intro b a w hm hc hI
    have hall : ∀ j, O.contains j = true → b j = true := by
      intro j hj
      cases hb : b j with
      | true => rfl
      | false =>
        have : j ∈ O.filter fun j => !b j := List.mem_filter.2 ⟨List.contains_iff_mem.1 hj, by simp [hb]⟩
        rw [List.eq_nil_of_length_eq_zero hm] at this
        cases this
    refine ⟨?_, hend b a w hall hI⟩
    refine List.eq_nil_iff_forall_not_mem.2 (fun i hi => ?_)
    obtain ⟨_, h1, h2, _⟩ := mem_ready' hi
    rw [hall i h1] at h2
    cases h2
  | succ m ih =>
    intro b a w hm hc hI
    refine ⟨fun hr => ?_, fun i hi => ?_⟩
    · exfalso
      -- the smallest number that isn't listed is ready
      have hex : ∃ i, O.contains i = true ∧ b i = false := by
        cases hf : O.filter (fun j => !b j) with
        | nil => rw [hf] at hm; simp at hm
        | cons x r =>
          have hx : x ∈ O.filter (fun j => !b j) := by rw [hf]; exact List.mem_cons_self
          rw [List.mem_filter] at hx
          exact ⟨x, List.contains_iff_mem.2 hx.1, by simpa using hx.2⟩
      have hmin : ∀ k, (∃ i, i ≤ k ∧ O.contains i = true ∧ b i = false) → ∃ i, O.contains i = true ∧ b i = false ∧ ∀ j, j < i → O.contains j = true → b j = true := by
        intro k
        induction k with
        | zero =>
          rintro ⟨i, hi, h1, h2⟩
          exact ⟨i, h1, h2, fun j hj => by omega⟩
        | succ k ihk =>
          rintro ⟨i, hi, h1, h2⟩
          by_cases hlow : ∃ j, j ≤ k ∧ O.contains j = true ∧ b j = false
          · exact ihk hlow
          · refine ⟨i, h1, h2, fun j hj hO => ?_⟩
            cases hb : b j with
            | true => rfl
            | false => exact absurd ⟨j, by omega, hO, hb⟩ hlow
      obtain ⟨i0, h1, h2⟩ := hex
      obtain ⟨i, hO, hb, hlow⟩ := hmin i0 ⟨i0, Nat.le_refl _, h1, h2⟩
      have hl := baseOk_lt hk (List.contains_iff_mem.1 hO)
      have hin : i ∈ Region.ready md ops (lof (rtab md ops).2.length O b).toArray := by
        rw [ready_eq]
        unfold readyT
        rw [List.mem_filter, List.mem_range]
        refine ⟨hl, ?_⟩
        unfold readyAt
        rw [lof_get hl, hO, hb]
        have hr2 : (rtab md ops).2[i]? = some (rtab md ops).2[i] := List.getElem?_eq_getElem hl
        rw [hr2]
        simp only [if_true, Bool.not_false, Bool.true_and, List.all_eq_true]
        intro n hn
        have hni := (baseOk_row hk hr2).2 n hn
        rw [lof_get (by omega)]
        cases hOn : O.contains n with
        | true => simpa using hlow n hni hOn
        | false => simp
      rw [hr] at hin
      cases hin
    · obtain ⟨hl, hO, hb, hneed⟩ := mem_ready' hi
      have hon : ∀ j, (O.contains j && (B.getD i 0).testBit j) = true → b j = true := by
        intro j hj
        rw [Bool.and_eq_true] at hj
        have hr2 : (rtab md ops).2[i]? = some (rtab md ops).2[i] := List.getElem?_eq_getElem hl
        have h1 := List.all_eq_true.1 hw i (List.mem_range.2 hl)
        rw [hr2] at h1
        simp only [beq_iff_eq] at h1
        have h2 : (upM B i (rtab md ops).2[i].1).testBit j = true := by rw [← h1, Nat.testBit_or, hj.2, Bool.true_or]
        obtain ⟨n, hn, h3⟩ := upM_bit h2
        have hni := (baseOk_row hk hr2).2 n hn
        rcases h3 with rfl | ⟨h4, h5⟩
        · exact hneed _ hr2 n hn (by omega) hj.1
        · cases hO2 : O.contains n with
          | true => exact closed_bits hw hk hc n n (Nat.le_refl _) (by omega) hO2 (hneed _ hr2 n hn (by omega) hO2) j hj.1 h5
          | false =>
            have := bits_out hw hk n n (Nat.le_refl _) (by omega) hO2 j h5
            rw [hj.1] at this
            cases this
      have hoff : ∀ d, (O.contains d && (B.getD d 0).testBit i) = true → b d = false := by
        intro d hd
        rw [Bool.and_eq_true] at hd
        cases hbd : b d with
        | false => rfl
        | true =>
          have hdl := baseOk_lt hk (List.contains_iff_mem.1 hd.1)
          have := closed_bits hw hk hc d d (Nat.le_refl _) hdl hd.1 hbd i hO hd.2
          rw [hb] at this
          cases this
      obtain ⟨oi, hoi, hK⟩ := hs i (List.contains_iff_mem.1 hO) b a w hI hb hon hoff
      refine wpOp_step hoi (fun K' hK' => hK K' (fun a' w' hI' => hK' a' w' ⟨fun _ _ => trivial, ?_⟩))
      have hset : (lof (rtab md ops).2.length O b).toArray.setIfInBounds i true = (lof (rtab md ops).2.length O (up b i)).toArray := by
        apply Array.ext'
        rw [Array.toList_setIfInBounds]
        exact lof_up hO
      rw [hset]
      refine ih (up b i) a' w' ?_ ?_ hI'
      · have := up_count (baseOk_nodup hk) (List.contains_iff_mem.1 hO) hb
        omega
      · intro d r hr hOd hbd n hn hOn
        by_cases hni : n = i
        · rw [hni, up_self]
        · rw [up_ne hni]
          by_cases hdi : d = i
          · subst hdi
            exact hneed r hr n hn (by have := (baseOk_row hk hr).2 n hn; omega) hOn
          · rw [up_ne hdi] at hbd
            exact hc d r hr hOd hbd n hn hOn
/-! The frame: what is listed has its destination filled. -/
/-- A slot that no operation of the list fills. -/
theorem putSel_off {b : Nat → Bool} {t : Tmp} : ∀ {L : List (Nat × Tmp × Value)} {a : Act}, (L.all fun e => !(e.2.1 == t)) = true → (putSel a b L).tmps[t]? = a.tmps[t]?
  | [], _, _ => rfl
  | e :: r, a, h => by
    rw [List.all_cons, Bool.and_eq_true] at h
    have he : e.2.1 ≠ t := by simpa using h.1
    unfold putSel
    by_cases hb : b e.1 = true
    · rw [if_pos hb, putSel_off h.2]
      simp [Act.put, Array.getElem?_setIfInBounds_ne he]
    · rw [if_neg hb]
      exact putSel_off h.2
/-- A slot of a listed operation: k is its place in the list. -/
theorem putSel_on {b : Nat → Bool} {e : Nat × Tmp × Value} : ∀ {L : List (Nat × Tmp × Value)} {a : Act} (k : Nat), L[k]? = some e → ((L.drop (k + 1)).all fun x => !(x.2.1 == e.2.1)) = true → b e.1 = true → Nat.ble (e.2.1 + 1) a.tmps.size = true → (putSel a b L).tmps[e.2.1]? = some e.2.2
  | [], _, _, h, _, _, _ => by cases h
  | x :: r, a, 0, h, hd, hb, ht => by
    simp only [List.getElem?_cons_zero, Option.some.injEq] at h
    subst h
    unfold putSel
    rw [if_pos hb, putSel_off (by simpa using hd)]
    have ht2 : x.2.1 < a.tmps.size := Nat.le_of_ble_eq_true ht
    simp [Act.put, ht2]
  | x :: r, a, k + 1, h, hd, hb, ht => by
    unfold putSel
    refine putSel_on k (by simpa using h) (by simpa using hd) hb ?_
    by_cases hx : b x.1 = true
    · rw [if_pos hx]
      simpa [Act.put] using ht
    · rw [if_neg hx]
      exact ht
theorem put_comm {a : Act} {s t : Tmp} {u v : Value} (h : s ≠ t) : (a.put (some s) u).put (some t) v = (a.put (some t) v).put (some s) u := by
  simp only [Act.put]
  rw [Array.setIfInBounds_comm _ _ h]
theorem putSel_put {b : Nat → Bool} {t : Tmp} {v : Value} : ∀ {L : List (Nat × Tmp × Value)} {a : Act}, (L.all fun e => !(e.2.1 == t)) = true → (putSel a b L).put (some t) v = putSel (a.put (some t) v) b L
  | [], _, _ => rfl
  | e :: r, a, h => by
    rw [List.all_cons, Bool.and_eq_true] at h
    have he : e.2.1 ≠ t := by simpa using h.1
    unfold putSel
    by_cases hb : b e.1 = true
    · rw [if_pos hb, if_pos hb, putSel_put h.2, put_comm he]
    · rw [if_neg hb, if_neg hb]
      exact putSel_put h.2
theorem putSel_same {b : Nat → Bool} {i : Nat} : ∀ {L : List (Nat × Tmp × Value)} {a : Act}, (L.all fun e => !(e.1 == i)) = true → putSel a (up b i) L = putSel a b L
  | [], _, _ => rfl
  | e :: r, a, h => by
    rw [List.all_cons, Bool.and_eq_true] at h
    have he : e.1 ≠ i := by simpa using h.1
    unfold putSel
    rw [up_ne he]
    exact putSel_same h.2
/-- Operation i (its entry stands between L1 and L2) is listed: its destination is filled with v, whatever stood in its entry. -/
theorem putSel_up {b : Nat → Bool} {i : Nat} {t : Tmp} {v0 v : Value} : ∀ {L1 L2 : List (Nat × Tmp × Value)} {a : Act}, b i = false → ((L1 ++ L2).all fun e => !(e.1 == i) && !(e.2.1 == t)) = true →
    (putSel a b (L1 ++ (i, t, v0) :: L2)).put (some t) v = putSel a (up b i) (L1 ++ (i, t, v) :: L2)
  | [], L2, a, hb, h => by
    simp only [List.nil_append] at h ⊢
    have h1 : (L2.all fun e => !(e.1 == i)) = true := List.all_eq_true.2 (fun e he => by have := List.all_eq_true.1 h e he; simp only [Bool.and_eq_true] at this; exact this.1)
    have h2 : (L2.all fun e => !(e.2.1 == t)) = true := List.all_eq_true.2 (fun e he => by have := List.all_eq_true.1 h e he; simp only [Bool.and_eq_true] at this; exact this.2)
    unfold putSel
    rw [if_neg (by rw [hb]; decide), if_pos (up_self b i), putSel_put h2, putSel_same h1]
  | e :: r, L2, a, hb, h => by
    simp only [List.cons_append, List.all_cons, Bool.and_eq_true] at h
    have he : e.1 ≠ i := by simpa using h.1.1
    simp only [List.cons_append]
    unfold putSel
    rw [up_ne he]
    exact putSel_up hb h.2
/-- The same by its place k in the list. -/
theorem putSel_upk {b : Nat → Bool} {i : Nat} {t : Tmp} {v0 v : Value} {a : Act} {L L' : List (Nat × Tmp × Value)} (k : Nat) (hb : b i = false) (hL : L[k]? = some (i, t, v0)) (hL' : L.set k (i, t, v) = L') (hd : ((L.take k ++ L.drop (k + 1)).all fun e => !(e.1 == i) && !(e.2.1 == t)) = true) :
    (putSel a b L).put (some t) v = putSel a (up b i) L' := by
  have hk := (List.getElem?_eq_some_iff.1 hL).1
  have h1 : L = L.take k ++ (i, t, v0) :: L.drop (k + 1) := by
    have h2 : L[k] = (i, t, v0) := (List.getElem?_eq_some_iff.1 hL).2
    rw [← h2, List.getElem_cons_drop, List.take_append_drop]
  have h3 : L' = L.take k ++ (i, t, v) :: L.drop (k + 1) := by rw [← hL', List.set_eq_take_append_cons_drop, if_pos hk]
  rw [h3]
  conv => lhs; rw [h1]
  exact putSel_up hb hd
/-- An operation without a destination. -/
theorem putSel_none {b : Nat → Bool} {i : Nat} {L : List (Nat × Tmp × Value)} {a : Act} {v : Value} (h : (L.all fun e => !(e.1 == i)) = true) : (putSel a b L).put none v = putSel a (up b i) L := (putSel_same h).symm
/-- THE REGION FROM HERE TO ITS END, by one relation I: l has all listed but O's operations; I holds with none of them listed; each step; with all listed what follows. -/
theorem inv_ {l : Array Bool} {fuel : Nat} {a : Act} {w : World} (O : List Nat) (I : (Nat → Bool) → Act → World → Prop) (hT : rtab md ops = T) (hw : waitsOk T.2 B = true) (hk : baseOk T.2 O = true)
    (hl : (lof T.2.length O (fun _ => false) == l.toList && O.length == fuel) = true) (h0 : I (fun _ => false) a w) (hs : ∀ i ∈ O, StepAt P ops Q B O I i)
    (hend : ∀ b a w, (∀ j, O.contains j = true → b j = true) → I b a w → Q .normal a w) : wpAnyLast P md ops Q (fun _ => True) [] fuel l a w := by
  rw [Bool.and_eq_true, beq_iff_eq, beq_iff_eq] at hl
  have h1 := inv_all hT hw hk I hs hend fuel (fun _ => false) a w (by rw [← hl.2]; simp) (fun d r _ _ hb => by cases hb) h0
  have h2 : (lof T.2.length O (fun _ => false)).toArray = l := by apply Array.ext'; exact hl.1
  rw [h2] at h1
  exact h1
/-- inv_ with the relation told from the frame that stands now (a0_). -/
theorem inv_at {l : Array Bool} {fuel : Nat} {a : Act} {w : World} (O : List Nat) (I : Act → (Nat → Bool) → Act → World → Prop) (hT : rtab md ops = T) (hw : waitsOk T.2 B = true) (hk : baseOk T.2 O = true)
    (hl : (lof T.2.length O (fun _ => false) == l.toList && O.length == fuel) = true) (h0 : I a (fun _ => false) a w) (hs : ∀ i ∈ O, StepAt P ops Q B O (I a) i)
    (hend : ∀ b a' w, (∀ j, O.contains j = true → b j = true) → I a b a' w → Q .normal a' w) : wpAnyLast P md ops Q (fun _ => True) [] fuel l a w := inv_ O (I a) hT hw hk hl h0 hs hend
end
end Go.Proofs.YtekggbmajemmhaaW.PrintLast
-- PRINTED BY print.sh 35421559b90ae4d0a3588c463048766b98c2df88dd9212a6774a882060cdf62d: not written by this session
namespace Go.Proofs.YtekggbmajemmhaaW.PrintWords
open Go.RowKit
end Go.Proofs.YtekggbmajemmhaaW.PrintWords
namespace Go.Proofs.YtekggbmajemmhaaW.PrintLast
section
variable {ops : Array Oper} {a : Act} {o og : Oper} {g : Nat} {t : Tmp} {u : Bool}
/-- A slot that operation j will fill, which isn't listed yet. -/
theorem putSel_not {b : Nat → Bool} {j : Nat} (hj : b j = false) : ∀ {L : List (Nat × Tmp × Value)} {a : Act}, (L.all fun e => !(e.2.1 == t) || e.1 == j) = true → (putSel a b L).tmps[t]? = a.tmps[t]?
  | [], _, _ => rfl
  | e :: r, a, h => by
    rw [List.all_cons, Bool.and_eq_true] at h
    unfold putSel
    by_cases hb : b e.1 = true
    · rw [if_pos hb, putSel_not hj h.2]
      have he : e.2.1 ≠ t := by
        intro ht
        rw [Bool.or_eq_true] at h
        rcases h.1 with h1 | h1
        · simp [ht] at h1
        · rw [beq_iff_eq] at h1
          rw [h1, hj] at hb
          cases hb
      simp [Act.put, Array.getElem?_setIfInBounds_ne he]
    · rw [if_neg hb]
      exact putSel_not hj h.2
/-- A guarded operation whose guard has yielded what it wants. -/
theorem wanted_on (hg : o.guard = some (g, u)) (ho : ops[g]? = some og) (hd : og.dst = some t) (hv : a.tmps[t]? = some (.bool u)) : Region.wanted o (yielded ops a.tmps) = true := by
  simp [Region.wanted, hg, yielded, ho, hd, hv]
/-- The other: it isn't carried out. -/
theorem wanted_off (hg : o.guard = some (g, u)) (ho : ops[g]? = some og) (hd : og.dst = some t) (hv : a.tmps[t]? = some (.bool (!u))) : Region.wanted o (yielded ops a.tmps) = false := by
  cases u <;> simp_all [Region.wanted, yielded]
end
end Go.Proofs.YtekggbmajemmhaaW.PrintLast
/- Diff: changes between two graphs without nodes. Conditions: each graph has no nodes, one root. -/
namespace Go.Proofs.Ytekggbmajemmhaa.Di
open Go.RowKit Go.Shelf Go.Maps Go.ChangeMaps Go.MapKept Go.Proofs.YtekggbmajemmhaaW.PrintWords Go.Proofs.YtekggbmajemmhaaW.PrintLast Go.Proofs.YtekggbmajemmhaaW.PrintMore
set_option linter.unusedSimpArgs false
set_option linter.unusedVariables false
def c1.T0 : Bool × List (List Nat × List Nat) := (true, [([], []), ([0], [0]), ([], []), ([2, 1], [2]), ([1, 3, 0, 1], [1]), ([3, 4, 0, 1, 2, 3, 4], [3])])
def c1.B0 : List Nat := [0, 1, 0, 7, 15, 31]
theorem c1.tab0 : rtab .any (opsOf Try.f43 0) = c1.T0 := by kernel_rfl
theorem c1.bits0 : waitsOk c1.T0.2 c1.B0 = true := by kernel_rfl
set_option maxHeartbeats 8000000 in
set_option maxRecDepth 100000 in
theorem changes1_calls (w : World) (l g1 g2 xa xb : Nat) (va vb : Int) (hkxa : keyOf Try.prog 3 (.int .i64 va) = some (.int .i64 va)) (hkxb : keyOf Try.prog 3 (.int .i64 vb) = some (.int .i64 vb)) (hcxa : w.cell? ⟨xa, 0, none⟩ = some (.int .i64 va)) (hcxb : w.cell? ⟨xb, 0, none⟩ = some (.int .i64 vb)) (hlxa : xa < w.heap.size) (hlxb : xb < w.heap.size) (hg1 : w.heap[g1]? = some (.cells #[.slice (some ⟨xa, 0, none⟩) 1 1, .slice none 0 0] 25 (0, 0))) (hg2 : w.heap[g2]? = some (.cells #[.slice (some ⟨xb, 0, none⟩) 1 1, .slice none 0 0] 25 (0, 0))) : Calls Try.prog 43 #[.func (.yield l) #[] #[], .pointer (some ⟨g1, 0, none⟩), .pointer (some ⟨g2, 0, none⟩)] w fun e W' => (∃ v, e = .returned v) ∧ Below w.heap.size w W' := by
  have HB := Aside0.mk (Below.refl w.heap.size w)
  have BK1 := Aside0.mk hg1
  have BK2 := Aside0.mk hg2
  clear hg1 hg2
  go_enter Try.func43, Try.ntmps43
  go_upto_region 0 with fail
  refine start_ (n := 6) (S := fun w' => True) (ds := []) #[false, false, false, false, false, false] (by kernel_rfl) rfl rfl trivial (fun hHeld => ?_)
  refine with_tabW c1.tab0 c1.bits0 (fun HT_ HW_ => ?_)
  refine inv_at [0, 1, 2, 3, 4, 5] (fun a0_ b a w' => ∃ (m17 : Nat) (m19 : Nat) (m1_ : Value) (m3_ : Value) (m4_ : Value) (m5_ : Value), a = putSel a0_ b [(0, 16, .agg #[.slice (some ⟨xa, 0, none⟩) 1 1, .slice none 0 0]), (1, 17, m1_), (2, 18, .agg #[.slice (some ⟨xb, 0, none⟩) 1 1, .slice none 0 0]), (3, 19, m3_), (4, 4, m4_), (5, 5, m5_)] ∧ (Below w.heap.size w w') ∧ (w'.heap[g1]? = some (.cells #[.slice (some ⟨xa, 0, none⟩) 1 1, .slice none 0 0] 25 (0, 0))) ∧ (w'.heap[g2]? = some (.cells #[.slice (some ⟨xb, 0, none⟩) 1 1, .slice none 0 0] 25 (0, 0))) ∧ (b 1 = true → EM w' m17) ∧ (b 3 = true → EM w' m19) ∧ (b 1 = true → (m1_ : Value) = .map (some m17)) ∧ (b 3 = true → (m3_ : Value) = .map (some m19)) ∧ (b 4 = true → (m4_ : Value) = .map (some m17)) ∧ (b 5 = true → (m5_ : Value) = .map (some m19))) HT_.out HW_.out (by kernel_rfl) (by kernel_rfl) ?_ ?_ ?_
  · exact ⟨0, 0, .bool false, .bool false, .bool false, .bool false, by simp only [putSel, Bool.false_eq_true, if_false], below_drew1 HB.out, BK1.out, BK2.out, fun h_ => absurd h_ (by decide), fun h_ => absurd h_ (by decide), fun h_ => absurd h_ (by decide), fun h_ => absurd h_ (by decide), fun h_ => absurd h_ (by decide), fun h_ => absurd h_ (by decide)⟩
  · skip
    clear BK1 BK2 HB
    refine steps_cons ?_ ?_
    · rintro b a w' ⟨m17, m19, m1_, m3_, m4_, m5_, ha, Q_HB, Q_BK1, Q_BK2, Q_MP17, Q_MP19, Q_X1_, Q_X3_, Q_X4_, Q_X5_⟩ hb_ hon hoff
      refine ⟨_, rfl, fun K hK => ?_⟩
      have e1 : a.tmps[1]? = some (.pointer (some ⟨g1, 0, none⟩)) := by rw [ha]; exact (putSel_off rfl).trans rfl
      replace ha := Aside0.mk ha
      have HB := Aside0.mk Q_HB
      have BK1 := Aside0.mk Q_BK1
      have BK2 := Aside0.mk Q_BK2
      have hl1_0 : w'.cell? ⟨g1, 0, none⟩ = some (.slice (some ⟨xa, 0, none⟩) 1 1) := (blk_cell BK1.out 0).trans rfl
      have hl1_1 : w'.cell? ⟨g1, 1, none⟩ = some (.slice none 0 0) := (blk_cell BK1.out 1).trans rfl
      refine value_ (w1 := w') (v := .agg #[.slice (some ⟨xa, 0, none⟩) 1 1, .slice none 0 0]) (by rfl) rfl ?_ ?_
      · go_simp
        (try simp only [i64_w])
        try rfl
      refine hK.out _ _ ⟨m17, m19, m1_, m3_, m4_, m5_, (by rw [ha.out]; exact putSel_upk 0 hb_ rfl rfl rfl), Q_HB, Q_BK1, Q_BK2, fun h0_ => absurd ((hoff 1 (by kernel_rfl)).symm.trans h0_) (by decide), fun h0_ => absurd ((hoff 3 (by kernel_rfl)).symm.trans h0_) (by decide), fun h0_ => absurd ((hoff 1 (by kernel_rfl)).symm.trans h0_) (by decide), fun h0_ => absurd ((hoff 3 (by kernel_rfl)).symm.trans h0_) (by decide), fun h0_ => absurd ((hoff 4 (by kernel_rfl)).symm.trans h0_) (by decide), fun h0_ => absurd ((hoff 5 (by kernel_rfl)).symm.trans h0_) (by decide)⟩
    refine steps_cons ?_ ?_
    · rintro b a w' ⟨m17, m19, m1_, m3_, m4_, m5_, ha, Q_HB, Q_BK1, Q_BK2, Q_MP17, Q_MP19, Q_X1_, Q_X3_, Q_X4_, Q_X5_⟩ hb_ hon hoff
      refine ⟨_, rfl, fun K hK => ?_⟩
      have e16 : a.tmps[16]? = some (.agg #[.slice (some ⟨xa, 0, none⟩) 1 1, .slice none 0 0]) := by rw [ha]; exact putSel_on (e := (0, 16, .agg #[.slice (some ⟨xa, 0, none⟩) 1 1, .slice none 0 0])) 0 rfl rfl (hon 0 (by kernel_rfl)) rfl
      replace ha := Aside0.mk ha
      have HB := Aside0.mk Q_HB
      have BK1 := Aside0.mk Q_BK1
      have BK2 := Aside0.mk Q_BK2
      refine goes_ Try.func16 (by kernel_rfl) rfl #[.agg #[.slice (some ⟨xa, 0, none⟩) 1 1, .slice none 0 0]] (by rfl) rfl rfl (by first | (simp only [List.map_toArray, List.map_cons, List.map_nil, Act.eval, Array.getD_eq_getD_getElem?, Option.getD_some, e16]; done) | (simp only [List.map_toArray, List.map_cons, List.map_nil, Act.eval, Array.getD_eq_getD_getElem?, Option.getD_some, e16]; rfl)) ?_
      with_reducible refine (dnodes_calls _ xa va hkxa ((HB.out.cell (p := ⟨xa, 0, none⟩) hlxa).trans hcxa) (Nat.lt_of_lt_of_le hlxa HB.out.size)).mono ?_
      rintro e w3 ⟨m3, rfl, hm3, hg3, hb⟩
      refine ⟨_, rfl, ?_⟩
      refine hK.out _ _ ⟨m3, m19, (.map (some m3)), m3_, m4_, m5_, (by rw [ha.out]; exact putSel_upk 1 hb_ rfl rfl rfl), (below_step HB.out hb), (blk_below BK1.out hb), (blk_below BK2.out hb), fun _ => hm3, fun h0_ => absurd ((hoff 3 (by kernel_rfl)).symm.trans h0_) (by decide), fun _ => rfl, fun h0_ => absurd ((hoff 3 (by kernel_rfl)).symm.trans h0_) (by decide), fun h0_ => absurd ((hoff 4 (by kernel_rfl)).symm.trans h0_) (by decide), fun h0_ => absurd ((hoff 5 (by kernel_rfl)).symm.trans h0_) (by decide)⟩
    refine steps_cons ?_ ?_
    · rintro b a w' ⟨m17, m19, m1_, m3_, m4_, m5_, ha, Q_HB, Q_BK1, Q_BK2, Q_MP17, Q_MP19, Q_X1_, Q_X3_, Q_X4_, Q_X5_⟩ hb_ hon hoff
      refine ⟨_, rfl, fun K hK => ?_⟩
      have e2 : a.tmps[2]? = some (.pointer (some ⟨g2, 0, none⟩)) := by rw [ha]; exact (putSel_off rfl).trans rfl
      replace ha := Aside0.mk ha
      have HB := Aside0.mk Q_HB
      have BK1 := Aside0.mk Q_BK1
      have BK2 := Aside0.mk Q_BK2
      have hl2_0 : w'.cell? ⟨g2, 0, none⟩ = some (.slice (some ⟨xb, 0, none⟩) 1 1) := (blk_cell BK2.out 0).trans rfl
      have hl2_1 : w'.cell? ⟨g2, 1, none⟩ = some (.slice none 0 0) := (blk_cell BK2.out 1).trans rfl
      refine value_ (w1 := w') (v := .agg #[.slice (some ⟨xb, 0, none⟩) 1 1, .slice none 0 0]) (by rfl) rfl ?_ ?_
      · go_simp
        (try simp only [i64_w])
        try rfl
      refine hK.out _ _ ⟨m17, m19, m1_, m3_, m4_, m5_, (by rw [ha.out]; exact putSel_upk 2 hb_ rfl rfl rfl), Q_HB, Q_BK1, Q_BK2, Q_MP17, fun h0_ => absurd ((hoff 3 (by kernel_rfl)).symm.trans h0_) (by decide), Q_X1_, fun h0_ => absurd ((hoff 3 (by kernel_rfl)).symm.trans h0_) (by decide), fun h0_ => absurd ((hoff 4 (by kernel_rfl)).symm.trans h0_) (by decide), fun h0_ => absurd ((hoff 5 (by kernel_rfl)).symm.trans h0_) (by decide)⟩
    refine steps_cons ?_ ?_
    · rintro b a w' ⟨m17, m19, m1_, m3_, m4_, m5_, ha, Q_HB, Q_BK1, Q_BK2, Q_MP17, Q_MP19, Q_X1_, Q_X3_, Q_X4_, Q_X5_⟩ hb_ hon hoff
      refine ⟨_, rfl, fun K hK => ?_⟩
      have e18 : a.tmps[18]? = some (.agg #[.slice (some ⟨xb, 0, none⟩) 1 1, .slice none 0 0]) := by rw [ha]; exact putSel_on (e := (2, 18, .agg #[.slice (some ⟨xb, 0, none⟩) 1 1, .slice none 0 0])) 2 rfl rfl (hon 2 (by kernel_rfl)) rfl
      replace ha := Aside0.mk ha
      have HB := Aside0.mk Q_HB
      have BK1 := Aside0.mk Q_BK1
      have BK2 := Aside0.mk Q_BK2
      have MP17 := Aside0.mk (Q_MP17 (hon 1 (by kernel_rfl)))
      refine goes_ Try.func16 (by kernel_rfl) rfl #[.agg #[.slice (some ⟨xb, 0, none⟩) 1 1, .slice none 0 0]] (by rfl) rfl rfl (by first | (simp only [List.map_toArray, List.map_cons, List.map_nil, Act.eval, Array.getD_eq_getD_getElem?, Option.getD_some, e18]; done) | (simp only [List.map_toArray, List.map_cons, List.map_nil, Act.eval, Array.getD_eq_getD_getElem?, Option.getD_some, e18]; rfl)) ?_
      with_reducible refine (dnodes_calls _ xb vb hkxb ((HB.out.cell (p := ⟨xb, 0, none⟩) hlxb).trans hcxb) (Nat.lt_of_lt_of_le hlxb HB.out.size)).mono ?_
      rintro e w3 ⟨m3, rfl, hm3, hg3, hb⟩
      refine ⟨_, rfl, ?_⟩
      refine hK.out _ _ ⟨m17, m3, m1_, (.map (some m3)), m4_, m5_, (by rw [ha.out]; exact putSel_upk 3 hb_ rfl rfl rfl), (below_step HB.out hb), (blk_below BK1.out hb), (blk_below BK2.out hb), fun _ => (EM.below MP17.out hb), fun _ => hm3, Q_X1_, fun _ => rfl, fun h0_ => absurd ((hoff 4 (by kernel_rfl)).symm.trans h0_) (by decide), fun h0_ => absurd ((hoff 5 (by kernel_rfl)).symm.trans h0_) (by decide)⟩
    refine steps_cons ?_ ?_
    · rintro b a w' ⟨m17, m19, m1_, m3_, m4_, m5_, ha, Q_HB, Q_BK1, Q_BK2, Q_MP17, Q_MP19, Q_X1_, Q_X3_, Q_X4_, Q_X5_⟩ hb_ hon hoff
      refine ⟨_, rfl, fun K hK => ?_⟩
      have e17 : a.tmps[17]? = some (m1_) := by rw [ha]; exact putSel_on (e := (1, 17, m1_)) 1 rfl rfl (hon 1 (by kernel_rfl)) rfl
      rw [Q_X1_ (hon 1 (by kernel_rfl))] at e17
      replace ha := Aside0.mk ha
      have HB := Aside0.mk Q_HB
      have BK1 := Aside0.mk Q_BK1
      have BK2 := Aside0.mk Q_BK2
      have MP17 := Aside0.mk (Q_MP17 (hon 1 (by kernel_rfl)))
      have MP19 := Aside0.mk (Q_MP19 (hon 3 (by kernel_rfl)))
      refine value_ (w1 := w') (v := .map (some m17)) (by rfl) rfl ?_ ?_
      · go_simp
        (try simp only [i64_w])
        try rfl
      refine hK.out _ _ ⟨m17, m19, m1_, m3_, (.map (some m17)), m5_, (by rw [ha.out]; exact putSel_upk 4 hb_ rfl rfl rfl), Q_HB, Q_BK1, Q_BK2, Q_MP17, Q_MP19, Q_X1_, Q_X3_, fun _ => rfl, fun h0_ => absurd ((hoff 5 (by kernel_rfl)).symm.trans h0_) (by decide)⟩
    refine steps_cons ?_ ?_
    · rintro b a w' ⟨m17, m19, m1_, m3_, m4_, m5_, ha, Q_HB, Q_BK1, Q_BK2, Q_MP17, Q_MP19, Q_X1_, Q_X3_, Q_X4_, Q_X5_⟩ hb_ hon hoff
      refine ⟨_, rfl, fun K hK => ?_⟩
      have e19 : a.tmps[19]? = some (m3_) := by rw [ha]; exact putSel_on (e := (3, 19, m3_)) 3 rfl rfl (hon 3 (by kernel_rfl)) rfl
      rw [Q_X3_ (hon 3 (by kernel_rfl))] at e19
      replace ha := Aside0.mk ha
      have HB := Aside0.mk Q_HB
      have BK1 := Aside0.mk Q_BK1
      have BK2 := Aside0.mk Q_BK2
      have MP17 := Aside0.mk (Q_MP17 (hon 1 (by kernel_rfl)))
      have MP19 := Aside0.mk (Q_MP19 (hon 3 (by kernel_rfl)))
      refine value_ (w1 := w') (v := .map (some m19)) (by rfl) rfl ?_ ?_
      · go_simp
        (try simp only [i64_w])
        try rfl
      refine hK.out _ _ ⟨m17, m19, m1_, m3_, m4_, (.map (some m19)), (by rw [ha.out]; exact putSel_upk 5 hb_ rfl rfl rfl), Q_HB, Q_BK1, Q_BK2, Q_MP17, Q_MP19, Q_X1_, Q_X3_, Q_X4_, fun _ => rfl⟩
    exact steps_nil
  rintro b a wz hall ⟨m17, m19, m1_, m3_, m4_, m5_, ha, Q_HB, Q_BK1, Q_BK2, Q_MP17, Q_MP19, Q_X1_, Q_X3_, Q_X4_, Q_X5_⟩
  clear BK1 BK2 HB
  have hb0_ := hall 0 (by kernel_rfl)
  have hb1_ := hall 1 (by kernel_rfl)
  have hb2_ := hall 2 (by kernel_rfl)
  have hb3_ := hall 3 (by kernel_rfl)
  have hb4_ := hall 4 (by kernel_rfl)
  have hb5_ := hall 5 (by kernel_rfl)
  subst ha
  obtain rfl := Q_X1_ hb1_
  obtain rfl := Q_X3_ hb3_
  obtain rfl := Q_X4_ hb4_
  obtain rfl := Q_X5_ hb5_
  simp only [putSel, hb0_, hb1_, hb2_, hb3_, hb4_, hb5_, if_true, Act.put, List.setIfInBounds_toArray, List.set_cons_zero, List.set_cons_succ]
  have HB := Aside0.mk Q_HB
  clear Q_HB
  have BK1 := Aside0.mk Q_BK1
  clear Q_BK1
  have BK2 := Aside0.mk Q_BK2
  clear Q_BK2
  have MP17 := Aside0.mk (Q_MP17 hb1_)
  clear Q_MP17
  have MP19 := Aside0.mk (Q_MP19 hb3_)
  clear Q_MP19
  clear hall hb0_ hb1_ hb2_ hb3_ hb4_ hb5_
  go_upto_region 2 with (first | ((with_reducible refine gate_callee (f := 46) rfl ?_); refine goesL_ (some 21) rfl rfl Try.func46 (by kernel_rfl) rfl #[.map (some m17)] rfl (by (try simp only [List.map_toArray, List.map_cons, List.map_nil]); first | done | rfl | (simp only [List.length_drop, List.length_take]; rfl)) ?_; (with_reducible refine (keys_calls _ (some m17)).mono ?_); rintro e w1_ ⟨g21, rfl, hk21, hg21, hb⟩; refine ⟨_, rfl, ?_⟩; have n0_ := Aside0.mk (below_step (by repeat (first | (with_reducible first | exact HB.out | apply below_alloc | apply pw_below_drewN | apply below_drew1 | refine below_set ?_ GE1.out | refine below_set ?_ GE2.out) | exact HB.out)) hb); have n1_ := Aside0.mk (blk_below (g := g1) (o := .cells #[.slice (some ⟨xa, 0, none⟩) 1 1, .slice none 0 0] 25 (0, 0)) (by (with_reducible repeat (first | refine blk_drewN ?_ _ | refine blk_drew ?_ | refine blk_alloc ?_ _)); exact BK1.out) hb); have n2_ := Aside0.mk (blk_below (g := g2) (o := .cells #[.slice (some ⟨xb, 0, none⟩) 1 1, .slice none 0 0] 25 (0, 0)) (by (with_reducible repeat (first | refine blk_drewN ?_ _ | refine blk_drew ?_ | refine blk_alloc ?_ _)); exact BK2.out) hb); have n3_ := Aside0.mk (EM.below (b := m17) (by (with_reducible repeat (first | refine EM_drewN ?_ _ | refine EM_drew ?_ | refine EM_alloc ?_ _)); exact MP17.out) hb); have n4_ := Aside0.mk (EM.below (b := m19) (by (with_reducible repeat (first | refine EM_drewN ?_ _ | refine EM_drew ?_ | refine EM_alloc ?_ _)); exact MP19.out) hb); clear HB; clear BK1; clear BK2; clear MP17; clear MP19; have HB := n0_; have BK1 := n1_; have BK2 := n2_; have MP17 := n3_; have MP19 := n4_; clear n0_ n1_ n2_ n3_ n4_; clear hb; have BK21 := Aside0.mk hk21; clear hk21) | ((with_reducible refine gate_callee (f := 45) rfl ?_); refine goesL_ (some 22) rfl rfl Try.func45 (by kernel_rfl) rfl #[.func (.func 59) #[] #[.pointer (some ⟨g21, 0, none⟩)]] rfl (by (try simp only [List.map_toArray, List.map_cons, List.map_nil]); first | done | rfl | (simp only [List.length_drop, List.length_take]; rfl)) ?_; (with_reducible refine (collect_calls _ g21 m17 BK21.out MP17.out).mono ?_); rintro e w2_ ⟨rfl, hb⟩; refine ⟨_, rfl, ?_⟩; have n0_ := Aside0.mk (below_step (by repeat (first | (with_reducible first | exact HB.out | apply below_alloc | apply pw_below_drewN | apply below_drew1 | refine below_set ?_ GE1.out | refine below_set ?_ GE2.out | refine below_set ?_ GE21.out) | exact HB.out)) hb); have n1_ := Aside0.mk (blk_below (g := g1) (o := .cells #[.slice (some ⟨xa, 0, none⟩) 1 1, .slice none 0 0] 25 (0, 0)) (by (with_reducible repeat (first | refine blk_drewN ?_ _ | refine blk_drew ?_ | refine blk_alloc ?_ _)); exact BK1.out) hb); have n2_ := Aside0.mk (blk_below (g := g2) (o := .cells #[.slice (some ⟨xb, 0, none⟩) 1 1, .slice none 0 0] 25 (0, 0)) (by (with_reducible repeat (first | refine blk_drewN ?_ _ | refine blk_drew ?_ | refine blk_alloc ?_ _)); exact BK2.out) hb); have n3_ := Aside0.mk (blk_below (g := g21) (o := .cells #[.map (some m17)] 46 (0, 0)) (by (with_reducible repeat (first | refine blk_drewN ?_ _ | refine blk_drew ?_ | refine blk_alloc ?_ _)); exact BK21.out) hb); have n4_ := Aside0.mk (EM.below (b := m17) (by (with_reducible repeat (first | refine EM_drewN ?_ _ | refine EM_drew ?_ | refine EM_alloc ?_ _)); exact MP17.out) hb); have n5_ := Aside0.mk (EM.below (b := m19) (by (with_reducible repeat (first | refine EM_drewN ?_ _ | refine EM_drew ?_ | refine EM_alloc ?_ _)); exact MP19.out) hb); clear HB; clear BK1; clear BK2; clear BK21; clear MP17; clear MP19; have HB := n0_; have BK1 := n1_; have BK2 := n2_; have BK21 := n3_; have MP17 := n4_; have MP19 := n5_; clear n0_ n1_ n2_ n3_ n4_ n5_; clear hb) | ((with_reducible refine gate_callee (f := 46) rfl ?_); refine goesL_ (some 24) rfl rfl Try.func46 (by kernel_rfl) rfl #[.map (some m19)] rfl (by (try simp only [List.map_toArray, List.map_cons, List.map_nil]); first | done | rfl | (simp only [List.length_drop, List.length_take]; rfl)) ?_; (with_reducible refine (keys_calls _ (some m19)).mono ?_); rintro e w3_ ⟨g24, rfl, hk24, hg24, hb⟩; refine ⟨_, rfl, ?_⟩; have n0_ := Aside0.mk (below_step (by repeat (first | (with_reducible first | exact HB.out | apply below_alloc | apply pw_below_drewN | apply below_drew1 | refine below_set ?_ GE1.out | refine below_set ?_ GE2.out | refine below_set ?_ GE21.out) | exact HB.out)) hb); have n1_ := Aside0.mk (blk_below (g := g1) (o := .cells #[.slice (some ⟨xa, 0, none⟩) 1 1, .slice none 0 0] 25 (0, 0)) (by (with_reducible repeat (first | refine blk_drewN ?_ _ | refine blk_drew ?_ | refine blk_alloc ?_ _)); exact BK1.out) hb); have n2_ := Aside0.mk (blk_below (g := g2) (o := .cells #[.slice (some ⟨xb, 0, none⟩) 1 1, .slice none 0 0] 25 (0, 0)) (by (with_reducible repeat (first | refine blk_drewN ?_ _ | refine blk_drew ?_ | refine blk_alloc ?_ _)); exact BK2.out) hb); have n3_ := Aside0.mk (blk_below (g := g21) (o := .cells #[.map (some m17)] 46 (0, 0)) (by (with_reducible repeat (first | refine blk_drewN ?_ _ | refine blk_drew ?_ | refine blk_alloc ?_ _)); exact BK21.out) hb); have n4_ := Aside0.mk (EM.below (b := m17) (by (with_reducible repeat (first | refine EM_drewN ?_ _ | refine EM_drew ?_ | refine EM_alloc ?_ _)); exact MP17.out) hb); have n5_ := Aside0.mk (EM.below (b := m19) (by (with_reducible repeat (first | refine EM_drewN ?_ _ | refine EM_drew ?_ | refine EM_alloc ?_ _)); exact MP19.out) hb); clear HB; clear BK1; clear BK2; clear BK21; clear MP17; clear MP19; have HB := n0_; have BK1 := n1_; have BK2 := n2_; have BK21 := n3_; have MP17 := n4_; have MP19 := n5_; clear n0_ n1_ n2_ n3_ n4_ n5_; clear hb; have BK24 := Aside0.mk hk24; clear hk24) | ((with_reducible refine gate_callee (f := 44) rfl ?_); refine goesL_ (some 25) rfl rfl Try.func44 (by kernel_rfl) rfl #[.slice none 0 0, .func (.func 59) #[] #[.pointer (some ⟨g24, 0, none⟩)]] rfl (by (try simp only [List.map_toArray, List.map_cons, List.map_nil]); first | done | rfl | (simp only [List.length_drop, List.length_take]; rfl)) ?_; (with_reducible refine (appkeys_calls _ g24 m19 BK24.out MP19.out).mono ?_); rintro e w4_ ⟨rfl, hb⟩; refine ⟨_, rfl, ?_⟩; have n0_ := Aside0.mk (below_step (by repeat (first | (with_reducible first | exact HB.out | apply below_alloc | apply pw_below_drewN | apply below_drew1 | refine below_set ?_ GE1.out | refine below_set ?_ GE2.out | refine below_set ?_ GE21.out | refine below_set ?_ GE24.out) | exact HB.out)) hb); have n1_ := Aside0.mk (blk_below (g := g1) (o := .cells #[.slice (some ⟨xa, 0, none⟩) 1 1, .slice none 0 0] 25 (0, 0)) (by (with_reducible repeat (first | refine blk_drewN ?_ _ | refine blk_drew ?_ | refine blk_alloc ?_ _)); exact BK1.out) hb); have n2_ := Aside0.mk (blk_below (g := g2) (o := .cells #[.slice (some ⟨xb, 0, none⟩) 1 1, .slice none 0 0] 25 (0, 0)) (by (with_reducible repeat (first | refine blk_drewN ?_ _ | refine blk_drew ?_ | refine blk_alloc ?_ _)); exact BK2.out) hb); have n3_ := Aside0.mk (blk_below (g := g21) (o := .cells #[.map (some m17)] 46 (0, 0)) (by (with_reducible repeat (first | refine blk_drewN ?_ _ | refine blk_drew ?_ | refine blk_alloc ?_ _)); exact BK21.out) hb); have n4_ := Aside0.mk (blk_below (g := g24) (o := .cells #[.map (some m19)] 46 (0, 0)) (by (with_reducible repeat (first | refine blk_drewN ?_ _ | refine blk_drew ?_ | refine blk_alloc ?_ _)); exact BK24.out) hb); have n5_ := Aside0.mk (EM.below (b := m17) (by (with_reducible repeat (first | refine EM_drewN ?_ _ | refine EM_drew ?_ | refine EM_alloc ?_ _)); exact MP17.out) hb); have n6_ := Aside0.mk (EM.below (b := m19) (by (with_reducible repeat (first | refine EM_drewN ?_ _ | refine EM_drew ?_ | refine EM_alloc ?_ _)); exact MP19.out) hb); clear HB; clear BK1; clear BK2; clear BK21; clear BK24; clear MP17; clear MP19; have HB := n0_; have BK1 := n1_; have BK2 := n2_; have BK21 := n3_; have BK24 := n4_; have MP17 := n5_; have MP19 := n6_; clear n0_ n1_ n2_ n3_ n4_ n5_ n6_; clear hb))
  go_wp2_with (first | (go_at_call 47; refine (sort_calls _).mono ?_; rintro e w' ⟨⟨v, rfl⟩, hw⟩; obtain rfl := hw.symm) | (go_at_call 48; refine (compact_calls _).mono ?_; rintro e w' ⟨rfl, hw⟩; obtain rfl := hw.symm))
  go_loopw [31] (fun v wr => v = .int .i64 0 ∧ wr = w4_) (fun _ _ => 0)
  case atStart => exact ⟨rfl, rfl⟩
  case round =>
    obtain ⟨rfl, hwr⟩ := hrel
    obtain rfl := hwr.symm
    go_wp2
    go_end0
    exact ⟨⟨_, rfl⟩, HB.out⟩
end Go.Proofs.Ytekggbmajemmhaa.Di
/- Diff: the changes between alive's two graphs. Conditions: the graphs are those. -/
namespace Go.Proofs.Ytekggbmajemmhaa.Di
open Go.RowKit Go.Shelf Go.Maps Go.ChangeMaps Go.MapKept Go.Proofs.YtekggbmajemmhaaW.PrintWords Go.Proofs.YtekggbmajemmhaaW.PrintLast Go.Proofs.YtekggbmajemmhaaW.PrintMore
set_option linter.unusedSimpArgs false
set_option linter.unusedVariables false
theorem changes_calls (W : World) (a1 a2 : Option Addr) (l1 l2 c1 c2 : Nat) : Calls Try.prog 28 #[.agg #[.slice a1 l1 c1, .slice none 0 0], .agg #[.slice a2 l2 c2, .slice none 0 0]] W fun e W' => ∃ g1 g2, e = .returned (.func (.func 43) #[] #[.pointer (some ⟨g1, 0, none⟩), .pointer (some ⟨g2, 0, none⟩)]) ∧ W'.heap[g1]? = some (.cells #[.slice a1 l1 c1, .slice none 0 0] 25 (0, 0)) ∧ W'.heap[g2]? = some (.cells #[.slice a2 l2 c2, .slice none 0 0] 25 (0, 0)) ∧ Below W.heap.size W W' := by
  go_enter Try.func28, Try.ntmps28
  go_wp2
  go_ret
  have h1 := blk_new W (.cells #[.slice a1 l1 c1, .slice none 0 0] 25)
  have h2 := blk_new (W.alloc (.cells #[.slice a1 l1 c1, .slice none 0 0] 25)) (.cells #[.slice a2 l2 c2, .slice none 0 0] 25)
  rw [World.size_alloc] at h2
  exact ⟨_, _, rfl, blk_alloc h1 _, h2, below_alloc (below_alloc (Below.refl _ _) _) _⟩
theorem at_calls (W : World) (x : Nat) (v : Int) (hx : W.cell? ⟨x, 0, none⟩ = some (.int .i64 v)) : Calls Try.prog 42 #[.slice (some ⟨x, 0, none⟩) 1 1, .int .i64 0] W fun e W' => e = .returned (.int .i64 v) ∧ Below W.heap.size W W' := by
  go_enter Try.func42, Try.ntmps42
  go_wp2
  go_ret
  exact ⟨rfl, Below.refl _ _⟩
theorem info44 : (Try.prog.info? 44).map (fun i => (i.zero, i.size, i.bytes)) = some (some (.agg #[.int .i64 0, .int .i64 0, .int .i64 0, .int .u64 0, .int .u64 0]), 5, 40) := by kernel_rfl
set_option maxHeartbeats 4000000 in
theorem appch_calls (w : World) (g1 g2 : Nat) (xa xb : Nat) (va vb : Int) (hkxa : keyOf Try.prog 3 (.int .i64 va) = some (.int .i64 va)) (hkxb : keyOf Try.prog 3 (.int .i64 vb) = some (.int .i64 vb)) (hcxa : w.cell? ⟨xa, 0, none⟩ = some (.int .i64 va)) (hcxb : w.cell? ⟨xb, 0, none⟩ = some (.int .i64 vb)) (hlxa : xa < w.heap.size) (hlxb : xb < w.heap.size) (hg1 : w.heap[g1]? = some (.cells #[.slice (some ⟨xa, 0, none⟩) 1 1, .slice none 0 0] 25 (0, 0))) (hg2 : w.heap[g2]? = some (.cells #[.slice (some ⟨xb, 0, none⟩) 1 1, .slice none 0 0] 25 (0, 0))) (a : Option Addr) (l c : Nat) : Calls Try.prog 26 #[.slice a l c, .func (.func 43) #[] #[.pointer (some ⟨g1, 0, none⟩), .pointer (some ⟨g2, 0, none⟩)]] w fun e W' => e = .returned (.slice a l c) ∧ Below w.heap.size w W' := by
  refine calls_marks Try.func26 rfl ?_
  simp only [Try.ntmps26, List.size_toArray, List.length_cons, List.length_nil, Nat.reduceAdd, Nat.reduceSub, Array.replicate_succ, Array.replicate_zero, List.push_toArray, List.append_toArray, List.nil_append, List.cons_append]
  have HB := Aside0.mk (Below.refl w.heap.size w)
  have BK1 := Aside0.mk hg1
  have BK2 := Aside0.mk hg2
  go_upto_region 1 with ((with_reducible refine gate_dst (N := 2) rfl ?_); refine box_event ?hg (N := 2) ?hd (cs := #[.slice a l c]) (t := 26) ?hr ?_; (case hd => rfl); (case hg => rfl); (case hr => first | (go_simp; done) | (go_simp; rfl)); intro g3 hg w1_ hbox hb; have n0_ := Aside0.mk (below_step (by repeat (first | (with_reducible first | exact HB.out | apply below_alloc | apply pw_below_drewN | apply below_drew1 | refine below_set ?_ GE1.out | refine below_set ?_ GE2.out) | exact HB.out)) hb); have n1_ := Aside0.mk (blk_below (g := g1) (o := .cells #[.slice (some ⟨xa, 0, none⟩) 1 1, .slice none 0 0] 25 (0, 0)) (by (with_reducible repeat (first | refine blk_drewN ?_ _ | refine blk_drew ?_ | refine blk_alloc ?_ _)); exact BK1.out) hb); have n2_ := Aside0.mk (blk_below (g := g2) (o := .cells #[.slice (some ⟨xb, 0, none⟩) 1 1, .slice none 0 0] 25 (0, 0)) (by (with_reducible repeat (first | refine blk_drewN ?_ _ | refine blk_drew ?_ | refine blk_alloc ?_ _)); exact BK2.out) hb); have n3_ := Aside0.mk hbox; have n4_ := Aside0.mk ((by rw [hg]; exact (below_size (by repeat (first | (with_reducible first | exact HB.out | apply below_alloc | apply pw_below_drewN | apply below_drew1 | refine below_set ?_ GE1.out | refine below_set ?_ GE2.out) | exact HB.out)))) : w.heap.size ≤ g3); have n5_ := Aside0.mk ((by rw [hg]; exact Nat.ne_of_lt (blk_lt (g := g1) (o := .cells #[.slice (some ⟨xa, 0, none⟩) 1 1, .slice none 0 0] 25 (0, 0)) (by (with_reducible repeat (first | refine blk_drewN ?_ _ | refine blk_drew ?_ | refine blk_alloc ?_ _)); exact BK1.out))) : g1 ≠ g3); have n6_ := Aside0.mk ((by rw [hg]; exact Nat.ne_of_lt (blk_lt (g := g2) (o := .cells #[.slice (some ⟨xb, 0, none⟩) 1 1, .slice none 0 0] 25 (0, 0)) (by (with_reducible repeat (first | refine blk_drewN ?_ _ | refine blk_drew ?_ | refine blk_alloc ?_ _)); exact BK2.out))) : g2 ≠ g3); clear HB; clear BK1; clear BK2; have HB := n0_; have BK1 := n1_; have BK2 := n2_; have BK3 := n3_; have GE3 := n4_; have NE1_3 := n5_; have NE2_3 := n6_; clear n0_ n1_ n2_ n3_ n4_ n5_ n6_; clear hb hbox hg)
  go_wp2
  have hca := (HB.out.cell (p := ⟨xa, 0, none⟩) hlxa).trans hcxa
  have hcb := (HB.out.cell (p := ⟨xb, 0, none⟩) hlxb).trans hcxb
  have hla := Nat.lt_of_lt_of_le hlxa HB.out.size
  have hlb := Nat.lt_of_lt_of_le hlxb HB.out.size
  refine wp_range_empty (gf := 43) (lb := #[.pointer (some ⟨g1, 0, none⟩), .pointer (some ⟨g2, 0, none⟩)]) rfl (enters_of Try.func43 (by kernel_rfl) rfl) (fun l W hW => changes1_calls W l g1 g2 xa xb va vb hkxa hkxb ((hW.cell (p := ⟨xa, 0, none⟩) hla).trans hca) ((hW.cell (p := ⟨xb, 0, none⟩) hlb).trans hcb) (Nat.lt_of_lt_of_le hla hW.size) (Nat.lt_of_lt_of_le hlb hW.size) (blk_below BK1.out hW) (blk_below BK2.out hW)) ?_
  intro D w2_ hD_ hb_ hK_
  have HD_ := Aside0.mk hD_
  have HDB := Aside0.mk (show w.heap.size ≤ D from Nat.le_trans HB.out.size hD_)
  have hb := hb_
  have n0_ := Aside0.mk (below_step (by repeat (first | (with_reducible first | exact HB.out | apply below_alloc | apply pw_below_drewN | apply below_drew1 | refine below_set ?_ GE1.out | refine below_set ?_ GE2.out | refine below_set ?_ GE3.out) | exact HB.out)) hb)
  have n1_ := Aside0.mk (blk_below (g := g1) (o := .cells #[.slice (some ⟨xa, 0, none⟩) 1 1, .slice none 0 0] 25 (0, 0)) (by (with_reducible repeat (first | refine blk_drewN ?_ _ | refine blk_drew ?_ | refine blk_alloc ?_ _)); exact BK1.out) hb)
  have n2_ := Aside0.mk (blk_below (g := g2) (o := .cells #[.slice (some ⟨xb, 0, none⟩) 1 1, .slice none 0 0] 25 (0, 0)) (by (with_reducible repeat (first | refine blk_drewN ?_ _ | refine blk_drew ?_ | refine blk_alloc ?_ _)); exact BK2.out) hb)
  have n3_ := Aside0.mk (blk_below (g := g3) (o := .cells #[.slice a l c] 26 (0, 0)) (by (with_reducible repeat (first | refine blk_drewN ?_ _ | refine blk_drew ?_ | refine blk_alloc ?_ _)); exact BK3.out) hb)
  clear HB
  clear BK1
  clear BK2
  clear BK3
  have HB := n0_
  have BK1 := n1_
  have BK2 := n2_
  have BK3 := n3_
  clear n0_ n1_ n2_ n3_
  clear hb
  have HK := Aside0.mk hK_
  clear hb_ hK_ hD_
  have hc3_0 : w2_.cell? ⟨g3, 0, none⟩ = some (.slice a l c) := (blk_cell BK3.out 0).trans rfl
  have hf3_0 := blk_frozen BK3.out 0
  go_wp2
  refine ⟨by simp, .inl ⟨_, _, rfl, run_takeDeferred HK.out, ?_⟩⟩
  exact ⟨_, results_tmp rfl _ _ _, rfl, HB.out.trans (belowK_b (w := w) (Nat.le_refl _) _ D _ _ HDB.out HK.out rfl rfl)⟩
def r1.T5 : Bool × List (List Nat × List Nat) := (true, [([], []), ([0], [0]), ([], []), ([1, 2], [1, 2]), ([], []), ([4], [4]), ([], []), ([5, 6, 3], [5, 6]), ([3, 7, 0, 1, 2, 3], [3]), ([7, 8, 0, 1, 2, 3, 4, 5, 6, 7, 8], [7])])
def r1.B5 : List Nat := [0, 1, 0, 7, 0, 16, 0, 127, 255, 511]
theorem r1.tab5 : rtab .any (opsOf Try.f27 5) = r1.T5 := by kernel_rfl
theorem r1.bits5 : waitsOk r1.T5.2 r1.B5 = true := by kernel_rfl
set_option maxHeartbeats 4000000 in
set_option maxRecDepth 100000 in
theorem roots_calls (w : World) (xa xb : Nat) (hcxa : w.cell? ⟨xa, 0, none⟩ = some (.int .i64 0)) (hcxb : w.cell? ⟨xb, 0, none⟩ = some (.int .i64 9)) (hlxa : xa < w.heap.size) (hlxb : xb < w.heap.size) : Calls Try.prog 27 #[.agg #[.slice (some ⟨xa, 0, none⟩) 1 1, .slice none 0 0], .agg #[.slice (some ⟨xb, 0, none⟩) 1 1, .slice none 0 0]] w fun e W' => ∃ gs c, e = .returned (.slice (some ⟨gs, 0, none⟩) 1 c) ∧ W'.ownsRow w.heap.size 44 5 (.slice (some ⟨gs, 0, none⟩) 1 c) 1 [Value.int .i64 4, .int .i64 0, .int .i64 0, .int .u64 0, .int .u64 9] ∧ Below w.heap.size w W' := by
  have HB := Aside0.mk (Below.refl w.heap.size w)
  obtain ⟨i0, hi, hz0, hz1, hz2⟩ := info_parts info44
  go_enter Try.func27, Try.ntmps27
  go_upto_region 1 with (first | ((with_reducible refine gate_dst (N := 2) rfl ?_); refine box_event ?hg (N := 2) ?hd (cs := #[.slice (some ⟨xa, 0, none⟩) 1 1, .slice none 0 0]) (t := 25) ?hr ?_; (case hd => rfl); (case hg => rfl); (case hr => first | (go_simp; done) | (go_simp; rfl)); intro g2 hg w1_ hbox hb; have n0_ := Aside0.mk (below_step (by repeat (first | (with_reducible first | exact HB.out | apply below_alloc | apply pw_below_drewN | apply below_drew1) | exact HB.out)) hb); have n1_ := Aside0.mk hbox; have n2_ := Aside0.mk ((by rw [hg]; exact (below_size (by repeat (first | (with_reducible first | exact HB.out | apply below_alloc | apply pw_below_drewN | apply below_drew1) | exact HB.out)))) : w.heap.size ≤ g2); clear HB; have HB := n0_; have BK2 := n1_; have GE2 := n2_; clear n0_ n1_ n2_; clear hb hbox hg) | ((with_reducible refine gate_dst (N := 3) rfl ?_); refine box_event ?hg (N := 3) ?hd (cs := #[.slice (some ⟨xb, 0, none⟩) 1 1, .slice none 0 0]) (t := 25) ?hr ?_; (case hd => rfl); (case hg => rfl); (case hr => first | (go_simp; done) | (go_simp; rfl)); intro g3 hg w2_ hbox hb; have n0_ := Aside0.mk (below_step (by repeat (first | (with_reducible first | exact HB.out | apply below_alloc | apply pw_below_drewN | apply below_drew1 | refine below_set ?_ GE2.out) | exact HB.out)) hb); have n1_ := Aside0.mk (blk_below (g := g2) (o := .cells #[.slice (some ⟨xa, 0, none⟩) 1 1, .slice none 0 0] 25 (0, 0)) (by (with_reducible repeat (first | refine blk_drewN ?_ _ | refine blk_drew ?_ | refine blk_alloc ?_ _)); exact BK2.out) hb); have n2_ := Aside0.mk hbox; have n3_ := Aside0.mk ((by rw [hg]; exact (below_size (by repeat (first | (with_reducible first | exact HB.out | apply below_alloc | apply pw_below_drewN | apply below_drew1 | refine below_set ?_ GE2.out) | exact HB.out)))) : w.heap.size ≤ g3); have n4_ := Aside0.mk ((by rw [hg]; exact Nat.ne_of_lt (blk_lt (g := g2) (o := .cells #[.slice (some ⟨xa, 0, none⟩) 1 1, .slice none 0 0] 25 (0, 0)) (by (with_reducible repeat (first | refine blk_drewN ?_ _ | refine blk_drew ?_ | refine blk_alloc ?_ _)); exact BK2.out))) : g2 ≠ g3); clear HB; clear BK2; have HB := n0_; have BK2 := n1_; have BK3 := n2_; have GE3 := n3_; have NE2_3 := n4_; clear n0_ n1_ n2_ n3_ n4_; clear hb hbox hg))
  have hc2_0 : w2_.cell? ⟨g2, 0, none⟩ = some (.slice (some ⟨xa, 0, none⟩) 1 1) := (blk_cell BK2.out 0).trans rfl
  have hf2_0 := blk_frozen BK2.out 0
  have hc2_1 : w2_.cell? ⟨g2, 1, none⟩ = some (.slice none 0 0) := (blk_cell BK2.out 1).trans rfl
  have hf2_1 := blk_frozen BK2.out 1
  have hc3_0 : w2_.cell? ⟨g3, 0, none⟩ = some (.slice (some ⟨xb, 0, none⟩) 1 1) := (blk_cell BK3.out 0).trans rfl
  have hf3_0 := blk_frozen BK3.out 0
  have hc3_1 : w2_.cell? ⟨g3, 1, none⟩ = some (.slice none 0 0) := (blk_cell BK3.out 1).trans rfl
  have hf3_1 := blk_frozen BK3.out 1
  go_wp2
  go_loopw [5, 16] (fun o v wr => (o = .slice none 0 0 ∧ v = .int .i64 0 ∧ wr = w2_) ∨ (v = .int .i64 1 ∧ ∃ gs c, o = .slice (some ⟨gs, 0, none⟩) 1 c ∧ Aside0 (Below w.heap.size w wr) ∧ Aside0 (wr.ownsRow w.heap.size 44 5 (.slice (some ⟨gs, 0, none⟩) 1 c) 1 [Value.int .i64 4, .int .i64 0, .int .i64 0, .int .u64 0, .int .u64 9]))) (fun _ v _ => 1 - (intOf v).toNat)
  case atStart => exact Or.inl ⟨rfl, rfl, rfl⟩
  case round =>
    rcases hrel with ⟨rfl, rfl, hwr⟩ | ⟨rfl, gs, c, rfl, HBB, HR⟩
    · obtain rfl := hwr.symm
      go_upto_region 5 with fail
      refine start_ (n := 10) (S := fun w' => True) (ds := []) #[false, false, false, false, false, false, false, false, false, false] (by kernel_rfl) rfl rfl trivial (fun hHeld => ?_)
      refine with_tabW r1.tab5 r1.bits5 (fun HT_ HW_ => ?_)
      refine inv_at [0, 1, 2, 3, 4, 5, 6, 7, 8, 9] (fun a0_ b a w' => a = putSel a0_ b [(0, 19, .pointer (some ⟨g2, 0, none⟩)), (1, 20, .slice (some ⟨xa, 0, none⟩) 1 1), (2, 21, .int .i64 0), (3, 22, .int .i64 0), (4, 23, .pointer (some ⟨g3, 0, none⟩)), (5, 24, .slice (some ⟨xb, 0, none⟩) 1 1), (6, 25, .int .i64 0), (7, 26, .int .i64 9), (8, 7, .int .i64 0), (9, 8, .int .i64 9)] ∧ (Below w.heap.size w w') ∧ (w'.heap[g2]? = some (.cells #[.slice (some ⟨xa, 0, none⟩) 1 1, .slice none 0 0] 25 (0, 0))) ∧ (w'.heap[g3]? = some (.cells #[.slice (some ⟨xb, 0, none⟩) 1 1, .slice none 0 0] 25 (0, 0)))) HT_.out HW_.out (by kernel_rfl) (by kernel_rfl) ?_ ?_ ?_
      · exact ⟨by simp only [putSel, Bool.false_eq_true, if_false], below_drew1 HB.out, BK2.out, BK3.out⟩
      · skip
        clear BK2 BK3 HB
        refine steps_cons ?_ ?_
        · rintro b a w' ⟨ha, Q_HB, Q_BK2, Q_BK3⟩ hb_ hon hoff
          refine ⟨_, rfl, fun K hK => ?_⟩
          have e2 : a.tmps[2]? = some (.pointer (some ⟨g2, 0, none⟩)) := by rw [ha]; exact (putSel_off rfl).trans rfl
          replace ha := Aside0.mk ha
          have HB := Aside0.mk Q_HB
          have BK2 := Aside0.mk Q_BK2
          have BK3 := Aside0.mk Q_BK3
          refine value_ (w1 := w') (v := .pointer (some ⟨g2, 0, none⟩)) (by rfl) rfl ?_ ?_
          · go_simp
            (try simp only [i64_w])
            try rfl
          refine hK.out _ _ ⟨(by rw [ha.out]; exact putSel_upk 0 hb_ rfl rfl rfl), Q_HB, Q_BK2, Q_BK3⟩
        refine steps_cons ?_ ?_
        · rintro b a w' ⟨ha, Q_HB, Q_BK2, Q_BK3⟩ hb_ hon hoff
          refine ⟨_, rfl, fun K hK => ?_⟩
          have e19 : a.tmps[19]? = some (.pointer (some ⟨g2, 0, none⟩)) := by rw [ha]; exact putSel_on (e := (0, 19, .pointer (some ⟨g2, 0, none⟩))) 0 rfl rfl (hon 0 (by kernel_rfl)) rfl
          replace ha := Aside0.mk ha
          have HB := Aside0.mk Q_HB
          have BK2 := Aside0.mk Q_BK2
          have BK3 := Aside0.mk Q_BK3
          have hl2_0 : w'.cell? ⟨g2, 0, none⟩ = some (.slice (some ⟨xa, 0, none⟩) 1 1) := (blk_cell BK2.out 0).trans rfl
          refine value_ (w1 := w') (v := .slice (some ⟨xa, 0, none⟩) 1 1) (by rfl) rfl ?_ ?_
          · go_simp
            (try simp only [i64_w])
            try rfl
          refine hK.out _ _ ⟨(by rw [ha.out]; exact putSel_upk 1 hb_ rfl rfl rfl), Q_HB, Q_BK2, Q_BK3⟩
        refine steps_cons ?_ ?_
        · rintro b a w' ⟨ha, Q_HB, Q_BK2, Q_BK3⟩ hb_ hon hoff
          refine ⟨_, rfl, fun K hK => ?_⟩
          have e6 : a.tmps[6]? = some (.int .i64 0) := by rw [ha]; exact (putSel_off rfl).trans rfl
          replace ha := Aside0.mk ha
          have HB := Aside0.mk Q_HB
          have BK2 := Aside0.mk Q_BK2
          have BK3 := Aside0.mk Q_BK3
          refine value_ (w1 := w') (v := .int .i64 0) (by rfl) rfl ?_ ?_
          · go_simp
            (try simp only [i64_w])
            try rfl
          refine hK.out _ _ ⟨(by rw [ha.out]; exact putSel_upk 2 hb_ rfl rfl rfl), Q_HB, Q_BK2, Q_BK3⟩
        refine steps_cons ?_ ?_
        · rintro b a w' ⟨ha, Q_HB, Q_BK2, Q_BK3⟩ hb_ hon hoff
          refine ⟨_, rfl, fun K hK => ?_⟩
          have e20 : a.tmps[20]? = some (.slice (some ⟨xa, 0, none⟩) 1 1) := by rw [ha]; exact putSel_on (e := (1, 20, .slice (some ⟨xa, 0, none⟩) 1 1)) 1 rfl rfl (hon 1 (by kernel_rfl)) rfl
          have e21 : a.tmps[21]? = some (.int .i64 0) := by rw [ha]; exact putSel_on (e := (2, 21, .int .i64 0)) 2 rfl rfl (hon 2 (by kernel_rfl)) rfl
          replace ha := Aside0.mk ha
          have HB := Aside0.mk Q_HB
          have BK2 := Aside0.mk Q_BK2
          have BK3 := Aside0.mk Q_BK3
          refine goes_ Try.func42 (by kernel_rfl) rfl #[.slice (some ⟨xa, 0, none⟩) 1 1, .int .i64 0] (by rfl) rfl rfl (by first | (simp only [List.map_toArray, List.map_cons, List.map_nil, Act.eval, Array.getD_eq_getD_getElem?, Option.getD_some, e20, e21]; done) | (simp only [List.map_toArray, List.map_cons, List.map_nil, Act.eval, Array.getD_eq_getD_getElem?, Option.getD_some, e20, e21]; rfl)) ?_
          with_reducible refine (at_calls _ xa 0 ((HB.out.cell (p := ⟨xa, 0, none⟩) hlxa).trans hcxa)).mono ?_
          rintro e w3 ⟨rfl, hb⟩
          refine ⟨_, rfl, ?_⟩
          refine hK.out _ _ ⟨(by rw [ha.out]; exact putSel_upk 3 hb_ rfl rfl rfl), (below_step HB.out hb), (blk_below BK2.out hb), (blk_below BK3.out hb)⟩
        refine steps_cons ?_ ?_
        · rintro b a w' ⟨ha, Q_HB, Q_BK2, Q_BK3⟩ hb_ hon hoff
          refine ⟨_, rfl, fun K hK => ?_⟩
          have e3 : a.tmps[3]? = some (.pointer (some ⟨g3, 0, none⟩)) := by rw [ha]; exact (putSel_off rfl).trans rfl
          replace ha := Aside0.mk ha
          have HB := Aside0.mk Q_HB
          have BK2 := Aside0.mk Q_BK2
          have BK3 := Aside0.mk Q_BK3
          refine value_ (w1 := w') (v := .pointer (some ⟨g3, 0, none⟩)) (by rfl) rfl ?_ ?_
          · go_simp
            (try simp only [i64_w])
            try rfl
          refine hK.out _ _ ⟨(by rw [ha.out]; exact putSel_upk 4 hb_ rfl rfl rfl), Q_HB, Q_BK2, Q_BK3⟩
        refine steps_cons ?_ ?_
        · rintro b a w' ⟨ha, Q_HB, Q_BK2, Q_BK3⟩ hb_ hon hoff
          refine ⟨_, rfl, fun K hK => ?_⟩
          have e23 : a.tmps[23]? = some (.pointer (some ⟨g3, 0, none⟩)) := by rw [ha]; exact putSel_on (e := (4, 23, .pointer (some ⟨g3, 0, none⟩))) 4 rfl rfl (hon 4 (by kernel_rfl)) rfl
          replace ha := Aside0.mk ha
          have HB := Aside0.mk Q_HB
          have BK2 := Aside0.mk Q_BK2
          have BK3 := Aside0.mk Q_BK3
          have hl3_0 : w'.cell? ⟨g3, 0, none⟩ = some (.slice (some ⟨xb, 0, none⟩) 1 1) := (blk_cell BK3.out 0).trans rfl
          refine value_ (w1 := w') (v := .slice (some ⟨xb, 0, none⟩) 1 1) (by rfl) rfl ?_ ?_
          · go_simp
            (try simp only [i64_w])
            try rfl
          refine hK.out _ _ ⟨(by rw [ha.out]; exact putSel_upk 5 hb_ rfl rfl rfl), Q_HB, Q_BK2, Q_BK3⟩
        refine steps_cons ?_ ?_
        · rintro b a w' ⟨ha, Q_HB, Q_BK2, Q_BK3⟩ hb_ hon hoff
          refine ⟨_, rfl, fun K hK => ?_⟩
          have e6 : a.tmps[6]? = some (.int .i64 0) := by rw [ha]; exact (putSel_off rfl).trans rfl
          replace ha := Aside0.mk ha
          have HB := Aside0.mk Q_HB
          have BK2 := Aside0.mk Q_BK2
          have BK3 := Aside0.mk Q_BK3
          refine value_ (w1 := w') (v := .int .i64 0) (by rfl) rfl ?_ ?_
          · go_simp
            (try simp only [i64_w])
            try rfl
          refine hK.out _ _ ⟨(by rw [ha.out]; exact putSel_upk 6 hb_ rfl rfl rfl), Q_HB, Q_BK2, Q_BK3⟩
        refine steps_cons ?_ ?_
        · rintro b a w' ⟨ha, Q_HB, Q_BK2, Q_BK3⟩ hb_ hon hoff
          refine ⟨_, rfl, fun K hK => ?_⟩
          have e24 : a.tmps[24]? = some (.slice (some ⟨xb, 0, none⟩) 1 1) := by rw [ha]; exact putSel_on (e := (5, 24, .slice (some ⟨xb, 0, none⟩) 1 1)) 5 rfl rfl (hon 5 (by kernel_rfl)) rfl
          have e25 : a.tmps[25]? = some (.int .i64 0) := by rw [ha]; exact putSel_on (e := (6, 25, .int .i64 0)) 6 rfl rfl (hon 6 (by kernel_rfl)) rfl
          replace ha := Aside0.mk ha
          have HB := Aside0.mk Q_HB
          have BK2 := Aside0.mk Q_BK2
          have BK3 := Aside0.mk Q_BK3
          refine goes_ Try.func42 (by kernel_rfl) rfl #[.slice (some ⟨xb, 0, none⟩) 1 1, .int .i64 0] (by rfl) rfl rfl (by first | (simp only [List.map_toArray, List.map_cons, List.map_nil, Act.eval, Array.getD_eq_getD_getElem?, Option.getD_some, e24, e25]; done) | (simp only [List.map_toArray, List.map_cons, List.map_nil, Act.eval, Array.getD_eq_getD_getElem?, Option.getD_some, e24, e25]; rfl)) ?_
          with_reducible refine (at_calls _ xb 9 ((HB.out.cell (p := ⟨xb, 0, none⟩) hlxb).trans hcxb)).mono ?_
          rintro e w3 ⟨rfl, hb⟩
          refine ⟨_, rfl, ?_⟩
          refine hK.out _ _ ⟨(by rw [ha.out]; exact putSel_upk 7 hb_ rfl rfl rfl), (below_step HB.out hb), (blk_below BK2.out hb), (blk_below BK3.out hb)⟩
        refine steps_cons ?_ ?_
        · rintro b a w' ⟨ha, Q_HB, Q_BK2, Q_BK3⟩ hb_ hon hoff
          refine ⟨_, rfl, fun K hK => ?_⟩
          have e22 : a.tmps[22]? = some (.int .i64 0) := by rw [ha]; exact putSel_on (e := (3, 22, .int .i64 0)) 3 rfl rfl (hon 3 (by kernel_rfl)) rfl
          replace ha := Aside0.mk ha
          have HB := Aside0.mk Q_HB
          have BK2 := Aside0.mk Q_BK2
          have BK3 := Aside0.mk Q_BK3
          refine value_ (w1 := w') (v := .int .i64 0) (by rfl) rfl ?_ ?_
          · go_simp
            (try simp only [i64_w])
            try rfl
          refine hK.out _ _ ⟨(by rw [ha.out]; exact putSel_upk 8 hb_ rfl rfl rfl), Q_HB, Q_BK2, Q_BK3⟩
        refine steps_cons ?_ ?_
        · rintro b a w' ⟨ha, Q_HB, Q_BK2, Q_BK3⟩ hb_ hon hoff
          refine ⟨_, rfl, fun K hK => ?_⟩
          have e26 : a.tmps[26]? = some (.int .i64 9) := by rw [ha]; exact putSel_on (e := (7, 26, .int .i64 9)) 7 rfl rfl (hon 7 (by kernel_rfl)) rfl
          replace ha := Aside0.mk ha
          have HB := Aside0.mk Q_HB
          have BK2 := Aside0.mk Q_BK2
          have BK3 := Aside0.mk Q_BK3
          refine value_ (w1 := w') (v := .int .i64 9) (by rfl) rfl ?_ ?_
          · go_simp
            (try simp only [i64_w])
            try rfl
          refine hK.out _ _ ⟨(by rw [ha.out]; exact putSel_upk 9 hb_ rfl rfl rfl), Q_HB, Q_BK2, Q_BK3⟩
        exact steps_nil
      rintro b a wz hall ⟨ha, Q_HB, Q_BK2, Q_BK3⟩
      clear BK2 BK3 HB
      have hb0_ := hall 0 (by kernel_rfl)
      have hb1_ := hall 1 (by kernel_rfl)
      have hb2_ := hall 2 (by kernel_rfl)
      have hb3_ := hall 3 (by kernel_rfl)
      have hb4_ := hall 4 (by kernel_rfl)
      have hb5_ := hall 5 (by kernel_rfl)
      have hb6_ := hall 6 (by kernel_rfl)
      have hb7_ := hall 7 (by kernel_rfl)
      have hb8_ := hall 8 (by kernel_rfl)
      have hb9_ := hall 9 (by kernel_rfl)
      subst ha
      simp only [putSel, hb0_, hb1_, hb2_, hb3_, hb4_, hb5_, hb6_, hb7_, hb8_, hb9_, if_true, Act.put, List.setIfInBounds_toArray, List.set_cons_zero, List.set_cons_succ]
      have HB := Aside0.mk Q_HB
      clear Q_HB
      have BK2 := Aside0.mk Q_BK2
      clear Q_BK2
      have BK3 := Aside0.mk Q_BK3
      clear Q_BK3
      clear hall hb0_ hb1_ hb2_ hb3_ hb4_ hb5_ hb6_ hb7_ hb8_ hb9_
      have hsz := HB.out.size
      go_wp2_with (at_builtin; refine wpList_append_own _ rfl (.tmp 30) (.tmp 37) 26 rfl w.heap.size 44 i0 (.agg #[.int .i64 0, .int .i64 0, .int .i64 0, .int .u64 0, .int .u64 0]) 5 40 Try.underlying26 hi hz0 hz1 hz2 rfl (by decide) (.slice none 0 0) 0 [] rfl (World.ownsRow_nil _ _ _ _) ⟨wz.heap.size, 0, none⟩ 1 1 [Value.int .i64 4, .int .i64 0, .int .i64 0, .int .u64 0, .int .u64 9] rfl rfl ?an ?ao (by unfold maxLen; omega) (by decide) ?ab ?_; (case an => intro j u hju; rcases j with _ | _ | _ | _ | _ | j <;> first | (simp at hju; subst hju; simp [go_sem]; done) | (simp at hju)); (case ao => intro u hu; simp at hu; rcases hu with rfl | rfl | rfl | rfl | rfl <;> rfl); (case ab => rw [World.size_alloc]; omega); intro v' w1 hown' hg1 _; obtain ⟨gs, cp, rfl⟩ := ownsRow_succ hown'; have HR1 := Aside0.mk hown'; have HB1 := Aside0.mk (Below.grown (below_alloc HB.out _) hg1 (by rw [World.size_alloc]; omega) (fun k e => by cases e)); clear hown' hg1)
      exact ⟨Or.inr ⟨rfl, gs, cp, rfl, HB1, HR1⟩, by decide⟩
    · go_wp2
      go_ret
      exact ⟨gs, c, rfl, HR.out, HBB.out⟩
end Go.Proofs.Ytekggbmajemmhaa.Di
