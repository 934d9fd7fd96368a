/- Diff: the changes between alive's two graphs. Conditions: the graphs are those. -/
import Derived.Test.YtekggbmajemmhaaDi3
namespace Go.Proofs.Ytekggbmajemmhaa.Di
open Go.RowKit Go.Shelf Go.Maps Go.ChangeMaps Go.MapKept Go.Proofs.YtekggbmajemmhaaW.PrintWords Go.Proofs.YtekggbmajemmhaaW.PrintLast Go.Proofs.YtekggbmajemmhaaW.PrintMore
set_option linter.unusedSimpArgs false
set_option linter.unusedVariables false
theorem changes_calls (W : World) (a1 a2 : Option Addr) (l1 l2 c1 c2 : Nat) : Calls Try.prog 28 #[.agg #[.slice a1 l1 c1, .slice none 0 0], .agg #[.slice a2 l2 c2, .slice none 0 0]] W fun e W' => ∃ g1 g2, e = .returned (.func (.func 43) #[] #[.pointer (some ⟨g1, 0, none⟩), .pointer (some ⟨g2, 0, none⟩)]) ∧ W'.heap[g1]? = some (.cells #[.slice a1 l1 c1, .slice none 0 0] 25 (0, 0)) ∧ W'.heap[g2]? = some (.cells #[.slice a2 l2 c2, .slice none 0 0] 25 (0, 0)) ∧ Below W.heap.size W W' := by
  go_enter Try.func28, Try.ntmps28
  go_wp2
  go_ret
  have h1 := blk_new W (.cells #[.slice a1 l1 c1, .slice none 0 0] 25)
  have h2 := blk_new (W.alloc (.cells #[.slice a1 l1 c1, .slice none 0 0] 25)) (.cells #[.slice a2 l2 c2, .slice none 0 0] 25)
  rw [World.size_alloc] at h2
  exact ⟨_, _, rfl, blk_alloc h1 _, h2, below_alloc (below_alloc (Below.refl _ _) _) _⟩
theorem at_calls (W : World) (x : Nat) (v : Int) (hx : W.cell? ⟨x, 0, none⟩ = some (.int .i64 v)) : Calls Try.prog 42 #[.slice (some ⟨x, 0, none⟩) 1 1, .int .i64 0] W fun e W' => e = .returned (.int .i64 v) ∧ Below W.heap.size W W' := by
  go_enter Try.func42, Try.ntmps42
  go_wp2
  go_ret
  exact ⟨rfl, Below.refl _ _⟩
theorem info44 : (Try.prog.info? 44).map (fun i => (i.zero, i.size, i.bytes)) = some (some (.agg #[.int .i64 0, .int .i64 0, .int .i64 0, .int .u64 0, .int .u64 0]), 5, 40) := by kernel_rfl
set_option maxHeartbeats 4000000 in
theorem appch_calls (w : World) (g1 g2 : Nat) (xa xb : Nat) (va vb : Int) (hkxa : keyOf Try.prog 3 (.int .i64 va) = some (.int .i64 va)) (hkxb : keyOf Try.prog 3 (.int .i64 vb) = some (.int .i64 vb)) (hcxa : w.cell? ⟨xa, 0, none⟩ = some (.int .i64 va)) (hcxb : w.cell? ⟨xb, 0, none⟩ = some (.int .i64 vb)) (hlxa : xa < w.heap.size) (hlxb : xb < w.heap.size) (hg1 : w.heap[g1]? = some (.cells #[.slice (some ⟨xa, 0, none⟩) 1 1, .slice none 0 0] 25 (0, 0))) (hg2 : w.heap[g2]? = some (.cells #[.slice (some ⟨xb, 0, none⟩) 1 1, .slice none 0 0] 25 (0, 0))) (a : Option Addr) (l c : Nat) : Calls Try.prog 26 #[.slice a l c, .func (.func 43) #[] #[.pointer (some ⟨g1, 0, none⟩), .pointer (some ⟨g2, 0, none⟩)]] w fun e W' => e = .returned (.slice a l c) ∧ Below w.heap.size w W' := by
  refine calls_marks Try.func26 rfl ?_
  simp only [Try.ntmps26, List.size_toArray, List.length_cons, List.length_nil, Nat.reduceAdd, Nat.reduceSub, Array.replicate_succ, Array.replicate_zero, List.push_toArray, List.append_toArray, List.nil_append, List.cons_append]
  have HB := Aside0.mk (Below.refl w.heap.size w)
  have BK1 := Aside0.mk hg1
  have BK2 := Aside0.mk hg2
  go_upto_region 1 with ((with_reducible refine gate_dst (N := 2) rfl ?_); refine box_event ?hg (N := 2) ?hd (cs := #[.slice a l c]) (t := 26) ?hr ?_; (case hd => rfl); (case hg => rfl); (case hr => first | (go_simp; done) | (go_simp; rfl)); intro g3 hg w1_ hbox hb; have n0_ := Aside0.mk (below_step (by repeat (first | (with_reducible first | exact HB.out | apply below_alloc | apply pw_below_drewN | apply below_drew1 | refine below_set ?_ GE1.out | refine below_set ?_ GE2.out) | exact HB.out)) hb); have n1_ := Aside0.mk (blk_below (g := g1) (o := .cells #[.slice (some ⟨xa, 0, none⟩) 1 1, .slice none 0 0] 25 (0, 0)) (by (with_reducible repeat (first | refine blk_drewN ?_ _ | refine blk_drew ?_ | refine blk_alloc ?_ _)); exact BK1.out) hb); have n2_ := Aside0.mk (blk_below (g := g2) (o := .cells #[.slice (some ⟨xb, 0, none⟩) 1 1, .slice none 0 0] 25 (0, 0)) (by (with_reducible repeat (first | refine blk_drewN ?_ _ | refine blk_drew ?_ | refine blk_alloc ?_ _)); exact BK2.out) hb); have n3_ := Aside0.mk hbox; have n4_ := Aside0.mk ((by rw [hg]; exact (below_size (by repeat (first | (with_reducible first | exact HB.out | apply below_alloc | apply pw_below_drewN | apply below_drew1 | refine below_set ?_ GE1.out | refine below_set ?_ GE2.out) | exact HB.out)))) : w.heap.size ≤ g3); have n5_ := Aside0.mk ((by rw [hg]; exact Nat.ne_of_lt (blk_lt (g := g1) (o := .cells #[.slice (some ⟨xa, 0, none⟩) 1 1, .slice none 0 0] 25 (0, 0)) (by (with_reducible repeat (first | refine blk_drewN ?_ _ | refine blk_drew ?_ | refine blk_alloc ?_ _)); exact BK1.out))) : g1 ≠ g3); have n6_ := Aside0.mk ((by rw [hg]; exact Nat.ne_of_lt (blk_lt (g := g2) (o := .cells #[.slice (some ⟨xb, 0, none⟩) 1 1, .slice none 0 0] 25 (0, 0)) (by (with_reducible repeat (first | refine blk_drewN ?_ _ | refine blk_drew ?_ | refine blk_alloc ?_ _)); exact BK2.out))) : g2 ≠ g3); clear HB; clear BK1; clear BK2; have HB := n0_; have BK1 := n1_; have BK2 := n2_; have BK3 := n3_; have GE3 := n4_; have NE1_3 := n5_; have NE2_3 := n6_; clear n0_ n1_ n2_ n3_ n4_ n5_ n6_; clear hb hbox hg)
  go_wp2
  have hca := (HB.out.cell (p := ⟨xa, 0, none⟩) hlxa).trans hcxa
  have hcb := (HB.out.cell (p := ⟨xb, 0, none⟩) hlxb).trans hcxb
  have hla := Nat.lt_of_lt_of_le hlxa HB.out.size
  have hlb := Nat.lt_of_lt_of_le hlxb HB.out.size
  refine wp_range_empty (gf := 43) (lb := #[.pointer (some ⟨g1, 0, none⟩), .pointer (some ⟨g2, 0, none⟩)]) rfl (enters_of Try.func43 (by kernel_rfl) rfl) (fun l W hW => changes1_calls W l g1 g2 xa xb va vb hkxa hkxb ((hW.cell (p := ⟨xa, 0, none⟩) hla).trans hca) ((hW.cell (p := ⟨xb, 0, none⟩) hlb).trans hcb) (Nat.lt_of_lt_of_le hla hW.size) (Nat.lt_of_lt_of_le hlb hW.size) (blk_below BK1.out hW) (blk_below BK2.out hW)) ?_
  intro D w2_ hD_ hb_ hK_
  have HD_ := Aside0.mk hD_
  have HDB := Aside0.mk (show w.heap.size ≤ D from Nat.le_trans HB.out.size hD_)
  have hb := hb_
  have n0_ := Aside0.mk (below_step (by repeat (first | (with_reducible first | exact HB.out | apply below_alloc | apply pw_below_drewN | apply below_drew1 | refine below_set ?_ GE1.out | refine below_set ?_ GE2.out | refine below_set ?_ GE3.out) | exact HB.out)) hb)
  have n1_ := Aside0.mk (blk_below (g := g1) (o := .cells #[.slice (some ⟨xa, 0, none⟩) 1 1, .slice none 0 0] 25 (0, 0)) (by (with_reducible repeat (first | refine blk_drewN ?_ _ | refine blk_drew ?_ | refine blk_alloc ?_ _)); exact BK1.out) hb)
  have n2_ := Aside0.mk (blk_below (g := g2) (o := .cells #[.slice (some ⟨xb, 0, none⟩) 1 1, .slice none 0 0] 25 (0, 0)) (by (with_reducible repeat (first | refine blk_drewN ?_ _ | refine blk_drew ?_ | refine blk_alloc ?_ _)); exact BK2.out) hb)
  have n3_ := Aside0.mk (blk_below (g := g3) (o := .cells #[.slice a l c] 26 (0, 0)) (by (with_reducible repeat (first | refine blk_drewN ?_ _ | refine blk_drew ?_ | refine blk_alloc ?_ _)); exact BK3.out) hb)
  clear HB
  clear BK1
  clear BK2
  clear BK3
  have HB := n0_
  have BK1 := n1_
  have BK2 := n2_
  have BK3 := n3_
  clear n0_ n1_ n2_ n3_
  clear hb
  have HK := Aside0.mk hK_
  clear hb_ hK_ hD_
  have hc3_0 : w2_.cell? ⟨g3, 0, none⟩ = some (.slice a l c) := (blk_cell BK3.out 0).trans rfl
  have hf3_0 := blk_frozen BK3.out 0
  go_wp2
  refine ⟨by simp, .inl ⟨_, _, rfl, run_takeDeferred HK.out, ?_⟩⟩
  exact ⟨_, results_tmp rfl _ _ _, rfl, HB.out.trans (belowK_b (w := w) (Nat.le_refl _) _ D _ _ HDB.out HK.out rfl rfl)⟩
def r1.T5 : Bool × List (List Nat × List Nat) := (true, [([], []), ([0], [0]), ([], []), ([1, 2], [1, 2]), ([], []), ([4], [4]), ([], []), ([5, 6, 3], [5, 6]), ([3, 7, 0, 1, 2, 3], [3]), ([7, 8, 0, 1, 2, 3, 4, 5, 6, 7, 8], [7])])
def r1.B5 : List Nat := [0, 1, 0, 7, 0, 16, 0, 127, 255, 511]
theorem r1.tab5 : rtab .any (opsOf Try.f27 5) = r1.T5 := by kernel_rfl
theorem r1.bits5 : waitsOk r1.T5.2 r1.B5 = true := by kernel_rfl
set_option maxHeartbeats 4000000 in
set_option maxRecDepth 100000 in
theorem roots_calls (w : World) (xa xb : Nat) (hcxa : w.cell? ⟨xa, 0, none⟩ = some (.int .i64 0)) (hcxb : w.cell? ⟨xb, 0, none⟩ = some (.int .i64 9)) (hlxa : xa < w.heap.size) (hlxb : xb < w.heap.size) : Calls Try.prog 27 #[.agg #[.slice (some ⟨xa, 0, none⟩) 1 1, .slice none 0 0], .agg #[.slice (some ⟨xb, 0, none⟩) 1 1, .slice none 0 0]] w fun e W' => ∃ gs c, e = .returned (.slice (some ⟨gs, 0, none⟩) 1 c) ∧ W'.ownsRow w.heap.size 44 5 (.slice (some ⟨gs, 0, none⟩) 1 c) 1 [Value.int .i64 4, .int .i64 0, .int .i64 0, .int .u64 0, .int .u64 9] ∧ Below w.heap.size w W' := by
  have HB := Aside0.mk (Below.refl w.heap.size w)
  obtain ⟨i0, hi, hz0, hz1, hz2⟩ := info_parts info44
  go_enter Try.func27, Try.ntmps27
  go_upto_region 1 with (first | ((with_reducible refine gate_dst (N := 2) rfl ?_); refine box_event ?hg (N := 2) ?hd (cs := #[.slice (some ⟨xa, 0, none⟩) 1 1, .slice none 0 0]) (t := 25) ?hr ?_; (case hd => rfl); (case hg => rfl); (case hr => first | (go_simp; done) | (go_simp; rfl)); intro g2 hg w1_ hbox hb; have n0_ := Aside0.mk (below_step (by repeat (first | (with_reducible first | exact HB.out | apply below_alloc | apply pw_below_drewN | apply below_drew1) | exact HB.out)) hb); have n1_ := Aside0.mk hbox; have n2_ := Aside0.mk ((by rw [hg]; exact (below_size (by repeat (first | (with_reducible first | exact HB.out | apply below_alloc | apply pw_below_drewN | apply below_drew1) | exact HB.out)))) : w.heap.size ≤ g2); clear HB; have HB := n0_; have BK2 := n1_; have GE2 := n2_; clear n0_ n1_ n2_; clear hb hbox hg) | ((with_reducible refine gate_dst (N := 3) rfl ?_); refine box_event ?hg (N := 3) ?hd (cs := #[.slice (some ⟨xb, 0, none⟩) 1 1, .slice none 0 0]) (t := 25) ?hr ?_; (case hd => rfl); (case hg => rfl); (case hr => first | (go_simp; done) | (go_simp; rfl)); intro g3 hg w2_ hbox hb; have n0_ := Aside0.mk (below_step (by repeat (first | (with_reducible first | exact HB.out | apply below_alloc | apply pw_below_drewN | apply below_drew1 | refine below_set ?_ GE2.out) | exact HB.out)) hb); have n1_ := Aside0.mk (blk_below (g := g2) (o := .cells #[.slice (some ⟨xa, 0, none⟩) 1 1, .slice none 0 0] 25 (0, 0)) (by (with_reducible repeat (first | refine blk_drewN ?_ _ | refine blk_drew ?_ | refine blk_alloc ?_ _)); exact BK2.out) hb); have n2_ := Aside0.mk hbox; have n3_ := Aside0.mk ((by rw [hg]; exact (below_size (by repeat (first | (with_reducible first | exact HB.out | apply below_alloc | apply pw_below_drewN | apply below_drew1 | refine below_set ?_ GE2.out) | exact HB.out)))) : w.heap.size ≤ g3); have n4_ := Aside0.mk ((by rw [hg]; exact Nat.ne_of_lt (blk_lt (g := g2) (o := .cells #[.slice (some ⟨xa, 0, none⟩) 1 1, .slice none 0 0] 25 (0, 0)) (by (with_reducible repeat (first | refine blk_drewN ?_ _ | refine blk_drew ?_ | refine blk_alloc ?_ _)); exact BK2.out))) : g2 ≠ g3); clear HB; clear BK2; have HB := n0_; have BK2 := n1_; have BK3 := n2_; have GE3 := n3_; have NE2_3 := n4_; clear n0_ n1_ n2_ n3_ n4_; clear hb hbox hg))
  have hc2_0 : w2_.cell? ⟨g2, 0, none⟩ = some (.slice (some ⟨xa, 0, none⟩) 1 1) := (blk_cell BK2.out 0).trans rfl
  have hf2_0 := blk_frozen BK2.out 0
  have hc2_1 : w2_.cell? ⟨g2, 1, none⟩ = some (.slice none 0 0) := (blk_cell BK2.out 1).trans rfl
  have hf2_1 := blk_frozen BK2.out 1
  have hc3_0 : w2_.cell? ⟨g3, 0, none⟩ = some (.slice (some ⟨xb, 0, none⟩) 1 1) := (blk_cell BK3.out 0).trans rfl
  have hf3_0 := blk_frozen BK3.out 0
  have hc3_1 : w2_.cell? ⟨g3, 1, none⟩ = some (.slice none 0 0) := (blk_cell BK3.out 1).trans rfl
  have hf3_1 := blk_frozen BK3.out 1
  go_wp2
  go_loopw [5, 16] (fun o v wr => (o = .slice none 0 0 ∧ v = .int .i64 0 ∧ wr = w2_) ∨ (v = .int .i64 1 ∧ ∃ gs c, o = .slice (some ⟨gs, 0, none⟩) 1 c ∧ Aside0 (Below w.heap.size w wr) ∧ Aside0 (wr.ownsRow w.heap.size 44 5 (.slice (some ⟨gs, 0, none⟩) 1 c) 1 [Value.int .i64 4, .int .i64 0, .int .i64 0, .int .u64 0, .int .u64 9]))) (fun _ v _ => 1 - (intOf v).toNat)
  case atStart => exact Or.inl ⟨rfl, rfl, rfl⟩
  case round =>
    rcases hrel with ⟨rfl, rfl, hwr⟩ | ⟨rfl, gs, c, rfl, HBB, HR⟩
    · obtain rfl := hwr.symm
      go_upto_region 5 with fail
      refine start_ (n := 10) (S := fun w' => True) (ds := []) #[false, false, false, false, false, false, false, false, false, false] (by kernel_rfl) rfl rfl trivial (fun hHeld => ?_)
      refine with_tabW r1.tab5 r1.bits5 (fun HT_ HW_ => ?_)
      refine inv_at [0, 1, 2, 3, 4, 5, 6, 7, 8, 9] (fun a0_ b a w' => a = putSel a0_ b [(0, 19, .pointer (some ⟨g2, 0, none⟩)), (1, 20, .slice (some ⟨xa, 0, none⟩) 1 1), (2, 21, .int .i64 0), (3, 22, .int .i64 0), (4, 23, .pointer (some ⟨g3, 0, none⟩)), (5, 24, .slice (some ⟨xb, 0, none⟩) 1 1), (6, 25, .int .i64 0), (7, 26, .int .i64 9), (8, 7, .int .i64 0), (9, 8, .int .i64 9)] ∧ (Below w.heap.size w w') ∧ (w'.heap[g2]? = some (.cells #[.slice (some ⟨xa, 0, none⟩) 1 1, .slice none 0 0] 25 (0, 0))) ∧ (w'.heap[g3]? = some (.cells #[.slice (some ⟨xb, 0, none⟩) 1 1, .slice none 0 0] 25 (0, 0)))) HT_.out HW_.out (by kernel_rfl) (by kernel_rfl) ?_ ?_ ?_
      · exact ⟨by simp only [putSel, Bool.false_eq_true, if_false], below_drew1 HB.out, BK2.out, BK3.out⟩
      · skip
        clear BK2 BK3 HB
        refine steps_cons ?_ ?_
        · rintro b a w' ⟨ha, Q_HB, Q_BK2, Q_BK3⟩ hb_ hon hoff
          refine ⟨_, rfl, fun K hK => ?_⟩
          have e2 : a.tmps[2]? = some (.pointer (some ⟨g2, 0, none⟩)) := by rw [ha]; exact (putSel_off rfl).trans rfl
          replace ha := Aside0.mk ha
          have HB := Aside0.mk Q_HB
          have BK2 := Aside0.mk Q_BK2
          have BK3 := Aside0.mk Q_BK3
          refine value_ (w1 := w') (v := .pointer (some ⟨g2, 0, none⟩)) (by rfl) rfl ?_ ?_
          · go_simp
            (try simp only [i64_w])
            try rfl
          refine hK.out _ _ ⟨(by rw [ha.out]; exact putSel_upk 0 hb_ rfl rfl rfl), Q_HB, Q_BK2, Q_BK3⟩
        refine steps_cons ?_ ?_
        · rintro b a w' ⟨ha, Q_HB, Q_BK2, Q_BK3⟩ hb_ hon hoff
          refine ⟨_, rfl, fun K hK => ?_⟩
          have e19 : a.tmps[19]? = some (.pointer (some ⟨g2, 0, none⟩)) := by rw [ha]; exact putSel_on (e := (0, 19, .pointer (some ⟨g2, 0, none⟩))) 0 rfl rfl (hon 0 (by kernel_rfl)) rfl
          replace ha := Aside0.mk ha
          have HB := Aside0.mk Q_HB
          have BK2 := Aside0.mk Q_BK2
          have BK3 := Aside0.mk Q_BK3
          have hl2_0 : w'.cell? ⟨g2, 0, none⟩ = some (.slice (some ⟨xa, 0, none⟩) 1 1) := (blk_cell BK2.out 0).trans rfl
          refine value_ (w1 := w') (v := .slice (some ⟨xa, 0, none⟩) 1 1) (by rfl) rfl ?_ ?_
          · go_simp
            (try simp only [i64_w])
            try rfl
          refine hK.out _ _ ⟨(by rw [ha.out]; exact putSel_upk 1 hb_ rfl rfl rfl), Q_HB, Q_BK2, Q_BK3⟩
        refine steps_cons ?_ ?_
        · rintro b a w' ⟨ha, Q_HB, Q_BK2, Q_BK3⟩ hb_ hon hoff
          refine ⟨_, rfl, fun K hK => ?_⟩
          have e6 : a.tmps[6]? = some (.int .i64 0) := by rw [ha]; exact (putSel_off rfl).trans rfl
          replace ha := Aside0.mk ha
          have HB := Aside0.mk Q_HB
          have BK2 := Aside0.mk Q_BK2
          have BK3 := Aside0.mk Q_BK3
          refine value_ (w1 := w') (v := .int .i64 0) (by rfl) rfl ?_ ?_
          · go_simp
            (try simp only [i64_w])
            try rfl
          refine hK.out _ _ ⟨(by rw [ha.out]; exact putSel_upk 2 hb_ rfl rfl rfl), Q_HB, Q_BK2, Q_BK3⟩
        refine steps_cons ?_ ?_
        · rintro b a w' ⟨ha, Q_HB, Q_BK2, Q_BK3⟩ hb_ hon hoff
          refine ⟨_, rfl, fun K hK => ?_⟩
          have e20 : a.tmps[20]? = some (.slice (some ⟨xa, 0, none⟩) 1 1) := by rw [ha]; exact putSel_on (e := (1, 20, .slice (some ⟨xa, 0, none⟩) 1 1)) 1 rfl rfl (hon 1 (by kernel_rfl)) rfl
          have e21 : a.tmps[21]? = some (.int .i64 0) := by rw [ha]; exact putSel_on (e := (2, 21, .int .i64 0)) 2 rfl rfl (hon 2 (by kernel_rfl)) rfl
          replace ha := Aside0.mk ha
          have HB := Aside0.mk Q_HB
          have BK2 := Aside0.mk Q_BK2
          have BK3 := Aside0.mk Q_BK3
          refine goes_ Try.func42 (by kernel_rfl) rfl #[.slice (some ⟨xa, 0, none⟩) 1 1, .int .i64 0] (by rfl) rfl rfl (by first | (simp only [List.map_toArray, List.map_cons, List.map_nil, Act.eval, Array.getD_eq_getD_getElem?, Option.getD_some, e20, e21]; done) | (simp only [List.map_toArray, List.map_cons, List.map_nil, Act.eval, Array.getD_eq_getD_getElem?, Option.getD_some, e20, e21]; rfl)) ?_
          with_reducible refine (at_calls _ xa 0 ((HB.out.cell (p := ⟨xa, 0, none⟩) hlxa).trans hcxa)).mono ?_
          rintro e w3 ⟨rfl, hb⟩
          refine ⟨_, rfl, ?_⟩
          refine hK.out _ _ ⟨(by rw [ha.out]; exact putSel_upk 3 hb_ rfl rfl rfl), (below_step HB.out hb), (blk_below BK2.out hb), (blk_below BK3.out hb)⟩
        refine steps_cons ?_ ?_
        · rintro b a w' ⟨ha, Q_HB, Q_BK2, Q_BK3⟩ hb_ hon hoff
          refine ⟨_, rfl, fun K hK => ?_⟩
          have e3 : a.tmps[3]? = some (.pointer (some ⟨g3, 0, none⟩)) := by rw [ha]; exact (putSel_off rfl).trans rfl
          replace ha := Aside0.mk ha
          have HB := Aside0.mk Q_HB
          have BK2 := Aside0.mk Q_BK2
          have BK3 := Aside0.mk Q_BK3
          refine value_ (w1 := w') (v := .pointer (some ⟨g3, 0, none⟩)) (by rfl) rfl ?_ ?_
          · go_simp
            (try simp only [i64_w])
            try rfl
          refine hK.out _ _ ⟨(by rw [ha.out]; exact putSel_upk 4 hb_ rfl rfl rfl), Q_HB, Q_BK2, Q_BK3⟩
        refine steps_cons ?_ ?_
        · rintro b a w' ⟨ha, Q_HB, Q_BK2, Q_BK3⟩ hb_ hon hoff
          refine ⟨_, rfl, fun K hK => ?_⟩
          have e23 : a.tmps[23]? = some (.pointer (some ⟨g3, 0, none⟩)) := by rw [ha]; exact putSel_on (e := (4, 23, .pointer (some ⟨g3, 0, none⟩))) 4 rfl rfl (hon 4 (by kernel_rfl)) rfl
          replace ha := Aside0.mk ha
          have HB := Aside0.mk Q_HB
          have BK2 := Aside0.mk Q_BK2
          have BK3 := Aside0.mk Q_BK3
          have hl3_0 : w'.cell? ⟨g3, 0, none⟩ = some (.slice (some ⟨xb, 0, none⟩) 1 1) := (blk_cell BK3.out 0).trans rfl
          refine value_ (w1 := w') (v := .slice (some ⟨xb, 0, none⟩) 1 1) (by rfl) rfl ?_ ?_
          · go_simp
            (try simp only [i64_w])
            try rfl
          refine hK.out _ _ ⟨(by rw [ha.out]; exact putSel_upk 5 hb_ rfl rfl rfl), Q_HB, Q_BK2, Q_BK3⟩
        refine steps_cons ?_ ?_
        · rintro b a w' ⟨ha, Q_HB, Q_BK2, Q_BK3⟩ hb_ hon hoff
          refine ⟨_, rfl, fun K hK => ?_⟩
          have e6 : a.tmps[6]? = some (.int .i64 0) := by rw [ha]; exact (putSel_off rfl).trans rfl
          replace ha := Aside0.mk ha
          have HB := Aside0.mk Q_HB
          have BK2 := Aside0.mk Q_BK2
          have BK3 := Aside0.mk Q_BK3
          refine value_ (w1 := w') (v := .int .i64 0) (by rfl) rfl ?_ ?_
          · go_simp
            (try simp only [i64_w])
            try rfl
          refine hK.out _ _ ⟨(by rw [ha.out]; exact putSel_upk 6 hb_ rfl rfl rfl), Q_HB, Q_BK2, Q_BK3⟩
        refine steps_cons ?_ ?_
        · rintro b a w' ⟨ha, Q_HB, Q_BK2, Q_BK3⟩ hb_ hon hoff
          refine ⟨_, rfl, fun K hK => ?_⟩
          have e24 : a.tmps[24]? = some (.slice (some ⟨xb, 0, none⟩) 1 1) := by rw [ha]; exact putSel_on (e := (5, 24, .slice (some ⟨xb, 0, none⟩) 1 1)) 5 rfl rfl (hon 5 (by kernel_rfl)) rfl
          have e25 : a.tmps[25]? = some (.int .i64 0) := by rw [ha]; exact putSel_on (e := (6, 25, .int .i64 0)) 6 rfl rfl (hon 6 (by kernel_rfl)) rfl
          replace ha := Aside0.mk ha
          have HB := Aside0.mk Q_HB
          have BK2 := Aside0.mk Q_BK2
          have BK3 := Aside0.mk Q_BK3
          refine goes_ Try.func42 (by kernel_rfl) rfl #[.slice (some ⟨xb, 0, none⟩) 1 1, .int .i64 0] (by rfl) rfl rfl (by first | (simp only [List.map_toArray, List.map_cons, List.map_nil, Act.eval, Array.getD_eq_getD_getElem?, Option.getD_some, e24, e25]; done) | (simp only [List.map_toArray, List.map_cons, List.map_nil, Act.eval, Array.getD_eq_getD_getElem?, Option.getD_some, e24, e25]; rfl)) ?_
          with_reducible refine (at_calls _ xb 9 ((HB.out.cell (p := ⟨xb, 0, none⟩) hlxb).trans hcxb)).mono ?_
          rintro e w3 ⟨rfl, hb⟩
          refine ⟨_, rfl, ?_⟩
          refine hK.out _ _ ⟨(by rw [ha.out]; exact putSel_upk 7 hb_ rfl rfl rfl), (below_step HB.out hb), (blk_below BK2.out hb), (blk_below BK3.out hb)⟩
        refine steps_cons ?_ ?_
        · rintro b a w' ⟨ha, Q_HB, Q_BK2, Q_BK3⟩ hb_ hon hoff
          refine ⟨_, rfl, fun K hK => ?_⟩
          have e22 : a.tmps[22]? = some (.int .i64 0) := by rw [ha]; exact putSel_on (e := (3, 22, .int .i64 0)) 3 rfl rfl (hon 3 (by kernel_rfl)) rfl
          replace ha := Aside0.mk ha
          have HB := Aside0.mk Q_HB
          have BK2 := Aside0.mk Q_BK2
          have BK3 := Aside0.mk Q_BK3
          refine value_ (w1 := w') (v := .int .i64 0) (by rfl) rfl ?_ ?_
          · go_simp
            (try simp only [i64_w])
            try rfl
          refine hK.out _ _ ⟨(by rw [ha.out]; exact putSel_upk 8 hb_ rfl rfl rfl), Q_HB, Q_BK2, Q_BK3⟩
        refine steps_cons ?_ ?_
        · rintro b a w' ⟨ha, Q_HB, Q_BK2, Q_BK3⟩ hb_ hon hoff
          refine ⟨_, rfl, fun K hK => ?_⟩
          have e26 : a.tmps[26]? = some (.int .i64 9) := by rw [ha]; exact putSel_on (e := (7, 26, .int .i64 9)) 7 rfl rfl (hon 7 (by kernel_rfl)) rfl
          replace ha := Aside0.mk ha
          have HB := Aside0.mk Q_HB
          have BK2 := Aside0.mk Q_BK2
          have BK3 := Aside0.mk Q_BK3
          refine value_ (w1 := w') (v := .int .i64 9) (by rfl) rfl ?_ ?_
          · go_simp
            (try simp only [i64_w])
            try rfl
          refine hK.out _ _ ⟨(by rw [ha.out]; exact putSel_upk 9 hb_ rfl rfl rfl), Q_HB, Q_BK2, Q_BK3⟩
        exact steps_nil
      rintro b a wz hall ⟨ha, Q_HB, Q_BK2, Q_BK3⟩
      clear BK2 BK3 HB
      have hb0_ := hall 0 (by kernel_rfl)
      have hb1_ := hall 1 (by kernel_rfl)
      have hb2_ := hall 2 (by kernel_rfl)
      have hb3_ := hall 3 (by kernel_rfl)
      have hb4_ := hall 4 (by kernel_rfl)
      have hb5_ := hall 5 (by kernel_rfl)
      have hb6_ := hall 6 (by kernel_rfl)
      have hb7_ := hall 7 (by kernel_rfl)
      have hb8_ := hall 8 (by kernel_rfl)
      have hb9_ := hall 9 (by kernel_rfl)
      subst ha
      simp only [putSel, hb0_, hb1_, hb2_, hb3_, hb4_, hb5_, hb6_, hb7_, hb8_, hb9_, if_true, Act.put, List.setIfInBounds_toArray, List.set_cons_zero, List.set_cons_succ]
      have HB := Aside0.mk Q_HB
      clear Q_HB
      have BK2 := Aside0.mk Q_BK2
      clear Q_BK2
      have BK3 := Aside0.mk Q_BK3
      clear Q_BK3
      clear hall hb0_ hb1_ hb2_ hb3_ hb4_ hb5_ hb6_ hb7_ hb8_ hb9_
      have hsz := HB.out.size
      go_wp2_with (at_builtin; refine wpList_append_own _ rfl (.tmp 30) (.tmp 37) 26 rfl w.heap.size 44 i0 (.agg #[.int .i64 0, .int .i64 0, .int .i64 0, .int .u64 0, .int .u64 0]) 5 40 Try.underlying26 hi hz0 hz1 hz2 rfl (by decide) (.slice none 0 0) 0 [] rfl (World.ownsRow_nil _ _ _ _) ⟨wz.heap.size, 0, none⟩ 1 1 [Value.int .i64 4, .int .i64 0, .int .i64 0, .int .u64 0, .int .u64 9] rfl rfl ?an ?ao (by unfold maxLen; omega) (by decide) ?ab ?_; (case an => intro j u hju; rcases j with _ | _ | _ | _ | _ | j <;> first | (simp at hju; subst hju; simp [go_sem]; done) | (simp at hju)); (case ao => intro u hu; simp at hu; rcases hu with rfl | rfl | rfl | rfl | rfl <;> rfl); (case ab => rw [World.size_alloc]; omega); intro v' w1 hown' hg1 _; obtain ⟨gs, cp, rfl⟩ := ownsRow_succ hown'; have HR1 := Aside0.mk hown'; have HB1 := Aside0.mk (Below.grown (below_alloc HB.out _) hg1 (by rw [World.size_alloc]; omega) (fun k e => by cases e)); clear hown' hg1)
      exact ⟨Or.inr ⟨rfl, gs, cp, rfl, HB1, HR1⟩, by decide⟩
    · go_wp2
      go_ret
      exact ⟨gs, c, rfl, HR.out, HBB.out⟩
end Go.Proofs.Ytekggbmajemmhaa.Di
