/- Parts of one proof, set together: Di1. What each says stands at its head; no condition beyond theirs. -/
import Derived.Test.YtekggbmajemmhaaDb4
import Derived.Laws.AppendOwn
import Derived.Laws.EntriesVeiled
import Derived.Maps.Own
import Derived.Maps.OwnOps
import Derived.Maps.RangeWalk
import Derived.RangeFuncBound
import Derived.RangeFuncBox
import Derived.RangeFuncCalls
import Derived.RangeFuncLeaves
import Derived.RangeFuncNested
import Derived.Shelf.Abstract
import Derived.Test.YtekggbmajemmhaaProg
import Derived.WalkKit
/- Diff: ranges over iterators that give nothing; graph.nodes, graph.Walk, diff.nodes of a graph without nodes. Conditions: the graph has no nodes, and one root at most. -/
namespace Go.Proofs.Ytekggbmajemmhaa.Di
open Go.RowKit Go.Shelf Go.Maps Go.ChangeMaps Go.MapKept Go.Proofs.YtekggbmajemmhaaW.PrintWords Go.Proofs.YtekggbmajemmhaaW.PrintLast Go.Proofs.YtekggbmajemmhaaW.PrintMore
set_option linter.unusedSimpArgs false
set_option linter.unusedVariables false
theorem keyed3 : Keyed Try.prog 3 := int_keyed Try.underlying3
/-- An iterator that gives nothing. -/
theorem empty_seq {F : Fence} {n : Nat} {P : Program} {gf : Nat} {lb : Array Value} {w : World} {N : Nat} {Kp : World → World → Prop} {encs : Empty → Array Value}
    (h : ∀ l W, Below w.heap.size w W → CallsIn F n P gf (#[.func (.yield l) #[] #[]] ++ lb) W fun e W' => (∃ v, e = .returned v) ∧ Below W.heap.size W W') :
    SeqStopsK F n P gf lb encs Kp (fun ys => ys = []) (fun _ => False) N w := fun l J Jx W hW hJ _ _ h0 =>
  (h l W hW).mono fun e W' ⟨he, hb⟩ => ⟨he, .inl ⟨[], rfl, hJ _ W W' none h0 ⟨hb.os, hb.tape, hb.output, hb.size, fun k hk _ => hb.block k hk⟩ (fun r e => by cases e)⟩⟩
theorem wp_range_empty {P : Program} {g : Operand} {ps : Array Tmp} {assign body : Code} {Q : Exit → Act → World → Prop} {a : Act} {w : World} {gf : Nat} {lb : Array Value} (hg : a.eval g = .func (.func gf) #[] lb)
    (eg : ∀ args w, (callFunc gf args).run P w = .ok (.enter gf args) w)
    (h : ∀ l W, Below w.heap.size w W → Calls P gf (#[.func (.yield l) #[] #[]] ++ lb) W fun e W' => (∃ v, e = .returned v) ∧ Below W.heap.size W W')
    (hdone : ∀ (D : Nat) (W : World), w.heap.size ≤ D → Below w.heap.size w W → W.heap[D]? = some (.deferred (some [])) → Q .normal { a with defers := { target := .collected D, args := #[] } :: a.defers } W) :
    (Code.rangeFunc g ps assign body).wp P Q a w := by
  refine (wpIn_wide (n := 20)).1 ?_
  exact wpIn_rangeFunc_ownG (α := Empty) (encs := fun x => x.elim) (Kp := fun _ _ => True) (S := fun ys => ys = []) (Sp := fun _ => False) (N := 0) (w0 := w) rfl (by decide) hg trivial eg
    (empty_seq fun l W hW => callsIn_wide.2 (h l W hW)) (fun _ _ => trivial) (fun _ _ _ _ _ _ _ _ => trivial) (Below.refl _ _) (fun x => x.elim)
    (fun _ W => Below w.heap.size w W) (fun _ _ _ => False) (ownFrom_below (Nat.le_refl _) (Nat.le_refl _)) (fun _ _ _ _ _ hs _ _ => hs.elim) (Below.refl _ _) (fun x => x.elim)
    (fun _ x => x.elim) (fun _ _ x => x.elim) (fun D xs W hD _ hI hK => hdone D W hD hI hK) (fun _ _ _ _ _ hs => hs.elim)
theorem calls_marks {P : Program} {f : FuncId} {fn : Func} {c : Code} {args : Array Value} {w : World} {R : Ending → World → Prop}
    (hf : P.funcs[f]? = some fn) (hb : fn.body = some c) (h : c.wp P (bodyPostM Fence.wide 20 P fn R) { tmps := args ++ Array.replicate (fn.ntmps - args.size) undef, defers := [] } w) : Calls P f args w R :=
  callsIn_wide.1 (callsIn_of_wp_marks (n := 20) hf hb trivial (wpIn_wide.2 h))
/-- Elements that none has. -/
def noR (v : Value) : Option (DataW Unit × List MemPlace) := none
/-- An empty map lies at block b. -/
def EM (W : World) (b : Nat) : Prop := W.ownsMap Try.prog 3 noR b 0 (.map [])
theorem EM.below {W W' : World} {b : Nat} (h : EM W b) (hb : Below W.heap.size W W') : EM W' b := h.kept (row := none) ⟨hb.os, hb.tape, hb.output, hb.size, fun k hk _ => hb.block k hk⟩ (by simp)
theorem EM.lt {W : World} {b : Nat} (h : EM W b) : b < W.heap.size := World.ownsMap.lt h
theorem EM.far {W : World} {b : Nat} (h : EM W b) {p : Addr} (hp : b ≠ p.block) (u : Value) : EM (W.setCell p u) b := by
  obtain ⟨es, clock, hb, F, hs, hD⟩ := h
  exact ⟨es, clock, (Below.heap_setCell W p u b hp).trans hb, F, hs, hD⟩
theorem EM_alloc {W : World} {b : Nat} (h : EM W b) (o : Obj) : EM (W.alloc o) b := World.ownsMap.alloc h o
theorem EM_drew {W : World} {b : Nat} (h : EM W b) : EM W.drew b := h
theorem EM_drewN {W : World} {b : Nat} (h : EM W b) (n : Nat) : EM (W.drewN n) b := h
theorem EM.put {W : World} {b D : Nat} (h : EM W b) (hne : b ≠ D) (o : Obj) : EM (W.putObj D o) b := World.ownsMap.kept h (grownBy_putObj' W D o) (by simpa using hne)
/-- slices.Backward over nothing. -/
theorem back1_empty (W : World) (l b : Nat) (hb : W.cell? ⟨b, 0, none⟩ = some (.slice none 0 0)) : Calls Try.prog 52 #[.func (.yield l) #[] #[], .pointer (some ⟨b, 0, none⟩)] W fun e W' => (∃ v, e = .returned v) ∧ Below W.heap.size W W' := by
  go_enter Try.func52, Try.ntmps52
  go_wp2
  go_loopw [3] (fun v wr => v = .int .i64 (-1) ∧ wr = W) (fun _ _ => 0)
  case atStart => exact ⟨rfl, rfl⟩
  case round =>
    obtain ⟨rfl, rfl⟩ := hrel
    go_wp2
    go_end0
    exact ⟨⟨_, rfl⟩, Below.refl _ _⟩
theorem back_calls (W : World) (a : Option Addr) (l c : Nat) : Calls Try.prog 33 #[.slice a l c] W fun e W' => ∃ g, e = .returned (.func (.func 52) #[] #[.pointer (some ⟨g, 0, none⟩)]) ∧ W'.heap[g]? = some (.cells #[.slice a l c] 23 (0, 0)) ∧ W.heap.size ≤ g ∧ Below W.heap.size W W' := by
  go_enter Try.func33, Try.ntmps33
  go_wp2
  go_ret
  exact ⟨_, rfl, blk_new W _, Nat.le_refl _, below_alloc (Below.refl _ _) _⟩
/-- maps.Keys over nothing. -/
theorem keys1_empty (W : World) (l b mb : Nat) (hb : W.cell? ⟨b, 0, none⟩ = some (.map (some mb))) (hm : EM W mb) : Calls Try.prog 59 #[.func (.yield l) #[] #[], .pointer (some ⟨b, 0, none⟩)] W fun e W' => (∃ v, e = .returned v) ∧ Below W.heap.size W W' := by
  go_enter Try.func59, Try.ntmps59
  go_wp2_with (at_range; refine wpList_range_own _ rfl _ 46 rfl 3 40 keyed3 Try.underlying46 noR mb 0 (.map []) rfl hm ?_; intro w0 hrg0 hg0 hs0)
  go_frame
  go_loopw [3] (fun _ wr => wr = w0) (fun _ _ => 0)
  case atStart => rfl
  case round =>
    subst hrel
    go_wp2_with (at_next; refine wpList_next_ranges _ rfl _ rfl 3 keyed3 noR (Value.int .i64) (fun _ : Unit => undef) (fun ky kl hk => by obtain ⟨x, rfl, _⟩ := Maps.keyOf_int_inv Try.underlying3 hk; exact ⟨x, rfl⟩) (fun v y h => by cases h) mb W.heap.size 0 (.map []) (has (.map [])) (size (.map [])) rfl hrg0 ?_ ?_)
    · intro _ _
      go_wp2
      go_end0
      exact ⟨⟨_, rfl⟩, hg0.os, hg0.tape, hg0.output, hg0.size, fun k hk => hg0.block k hk (by simp)⟩
    · intro x c kl y ps w1 cnt1 hyc
      cases hyc
theorem keys_calls (W : World) (b : Option Nat) : Calls Try.prog 46 #[.map b] W fun e W' => ∃ g, e = .returned (.func (.func 59) #[] #[.pointer (some ⟨g, 0, none⟩)]) ∧ W'.heap[g]? = some (.cells #[.map b] 46 (0, 0)) ∧ W.heap.size ≤ g ∧ Below W.heap.size W W' := by
  go_enter Try.func46, Try.ntmps46
  go_wp2
  go_ret
  exact ⟨_, rfl, blk_new W _, Nat.le_refl _, below_alloc (Below.refl _ _) _⟩
set_option maxHeartbeats 4000000 in
theorem gnodes_calls (w : World) (a : Option Addr) (l c : Nat) : Calls Try.prog 53 #[.agg #[.slice a l c, .slice none 0 0]] w fun e W' => ∃ mb, e = .returned (.map (some mb)) ∧ EM W' mb ∧ w.heap.size ≤ mb ∧ Below w.heap.size w W' := by
  refine calls_marks Try.func53 rfl ?_
  simp only [Try.ntmps53, List.size_toArray, List.length_cons, List.length_nil, Nat.reduceAdd, Nat.reduceSub, Array.replicate_succ, Array.replicate_zero, List.push_toArray, List.append_toArray, List.nil_append, List.cons_append]
  have HB := Aside0.mk (Below.refl w.heap.size w)
  go_upto_region 1 with ((with_reducible refine gate_dst (N := 1) rfl ?_); refine box_event ?hg (N := 1) ?hd (cs := #[.slice a l c, .slice none 0 0]) (t := 25) ?hr ?_; (case hd => rfl); (case hg => rfl); (case hr => first | (go_simp; done) | (go_simp; rfl)); intro g1 hg w1_ hbox hb; have n0_ := Aside0.mk (below_step (by repeat (first | (with_reducible first | exact HB.out | apply below_alloc | apply pw_below_drewN | apply below_drew1) | exact HB.out)) hb); have n1_ := Aside0.mk hbox; have n2_ := Aside0.mk ((by rw [hg]; exact (below_size (by repeat (first | (with_reducible first | exact HB.out | apply below_alloc | apply pw_below_drewN | apply below_drew1) | exact HB.out)))) : w.heap.size ≤ g1); clear HB; have HB := n0_; have BK1 := n1_; have GE1 := n2_; clear n0_ n1_ n2_; clear hb hbox hg)
  go_wp2
  rw [run_makeMap]
  obtain ⟨w2_, hw_⟩ : ∃ x, x = w1_.alloc (.map #[] 0) := ⟨_, rfl⟩
  obtain ⟨m1, hm_⟩ : ∃ x, x = w1_.heap.size := ⟨_, rfl⟩
  rw [← hw_, ← hm_]
  have hb : Below w1_.heap.size w1_ w2_ := by rw [hw_]; exact below_alloc (Below.refl _ _) _
  have n0_ := Aside0.mk (below_step (by repeat (first | (with_reducible first | exact HB.out | apply below_alloc | apply pw_below_drewN | apply below_drew1 | refine below_set ?_ GE1.out) | exact HB.out)) hb)
  have n1_ := Aside0.mk (blk_below (g := g1) (o := .cells #[.slice a l c, .slice none 0 0] 25 (0, 0)) (by (with_reducible repeat (first | refine blk_drewN ?_ _ | refine blk_drew ?_ | refine blk_alloc ?_ _)); exact BK1.out) hb)
  have n2_ := Aside0.mk (show EM w2_ m1 from by rw [hw_, hm_]; exact World.ownsMap_made _ _ _ _)
  have GM1 := Aside0.mk (show w.heap.size ≤ m1 from by rw [hm_]; exact below_size HB.out)
  have NG1_1 := Aside0.mk (show g1 ≠ m1 from by rw [hm_]; exact Nat.ne_of_lt (blk_lt BK1.out))
  clear HB
  clear BK1
  have HB := n0_
  have BK1 := n1_
  have MP1 := n2_
  clear n0_ n1_ n2_
  clear hb hw_ hm_
  go_upto_region 2 with ((with_reducible refine gate_dst (N := 3) rfl ?_); refine box_event ?hg (N := 3) ?hd (cs := #[.map none]) (t := 46) ?hr ?_; (case hd => rfl); (case hg => rfl); (case hr => first | (go_simp; done) | (go_simp; rfl)); intro g3 hg w3_ hbox hb; have n0_ := Aside0.mk (below_step (by repeat (first | (with_reducible first | exact HB.out | apply below_alloc | apply pw_below_drewN | apply below_drew1 | refine below_set ?_ GE1.out) | exact HB.out)) hb); have n1_ := Aside0.mk (blk_below (g := g1) (o := .cells #[.slice a l c, .slice none 0 0] 25 (0, 0)) (by (with_reducible repeat (first | refine blk_drewN ?_ _ | refine blk_drew ?_ | refine blk_alloc ?_ _)); exact BK1.out) hb); have n2_ := Aside0.mk (EM.below (b := m1) (by (with_reducible repeat (first | refine EM_drewN ?_ _ | refine EM_drew ?_ | refine EM_alloc ?_ _)); exact MP1.out) hb); have n3_ := Aside0.mk hbox; have n4_ := Aside0.mk ((by rw [hg]; exact (below_size (by repeat (first | (with_reducible first | exact HB.out | apply below_alloc | apply pw_below_drewN | apply below_drew1 | refine below_set ?_ GE1.out) | exact HB.out)))) : w.heap.size ≤ g3); have n5_ := Aside0.mk ((by rw [hg]; exact Nat.ne_of_lt (blk_lt (g := g1) (o := .cells #[.slice a l c, .slice none 0 0] 25 (0, 0)) (by (with_reducible repeat (first | refine blk_drewN ?_ _ | refine blk_drew ?_ | refine blk_alloc ?_ _)); exact BK1.out))) : g1 ≠ g3); have n6_ := Aside0.mk ((by rw [hg]; exact Nat.ne_of_lt (EM.lt (b := m1) (by (with_reducible repeat (first | refine EM_drewN ?_ _ | refine EM_drew ?_ | refine EM_alloc ?_ _)); exact MP1.out))) : m1 ≠ g3); clear HB; clear BK1; clear MP1; have HB := n0_; have BK1 := n1_; have MP1 := n2_; have BK3 := n3_; have GE3 := n4_; have NE1_3 := n5_; have NM1_3 := n6_; clear n0_ n1_ n2_ n3_ n4_ n5_ n6_; clear hb hbox hg; have hc3_0 : w3_.cell? ⟨g3, 0, none⟩ = some (.map none) := (blk_cell BK3.out 0).trans rfl; have hf3_0 := blk_frozen BK3.out 0)
  generalize hw_ : (w3_.setCell ⟨g3, 0, none⟩ (.map (some m1))) = w4_
  have n0_ := Aside0.mk (show Below w.heap.size w w4_ from by rw [← hw_]; exact (by repeat (first | (with_reducible first | exact HB.out | apply below_alloc | apply pw_below_drewN | apply below_drew1 | refine below_set ?_ GE1.out | refine below_set ?_ GE3.out) | exact HB.out)))
  have n1_ := Aside0.mk (show w4_.heap[g1]? = some (.cells #[.slice a l c, .slice none 0 0] 25 (0, 0)) from by rw [← hw_]; refine blk_far ?_ NE1_3.out _; exact BK1.out)
  have n2_ := Aside0.mk (show w4_.heap[g3]? = some (.cells #[.map (some m1)] 46 (0, 0)) from by rw [← hw_]; exact (by (with_reducible repeat (first | refine blk_drewN ?_ _ | refine blk_drew ?_ | refine blk_alloc ?_ _)); refine blk_put (cs := #[.map none]) ?_ 0 _ rfl; (with_reducible repeat (first | refine blk_drewN ?_ _ | refine blk_drew ?_ | refine blk_alloc ?_ _)); exact BK3.out))
  have n3_ := Aside0.mk (show EM w4_ m1 from by rw [← hw_]; refine EM.far ?_ NM1_3.out _; exact MP1.out)
  clear HB
  clear BK1
  clear BK3
  clear MP1
  have HB := n0_
  have BK1 := n1_
  have BK3 := n2_
  have MP1 := n3_
  clear n0_ n1_ n2_ n3_
  clear hw_
  have hc1_0 : w4_.cell? ⟨g1, 0, none⟩ = some (.slice a l c) := (blk_cell BK1.out 0).trans rfl
  have hf1_0 := blk_frozen BK1.out 0
  have hc1_1 : w4_.cell? ⟨g1, 1, none⟩ = some (.slice none 0 0) := (blk_cell BK1.out 1).trans rfl
  have hf1_1 := blk_frozen BK1.out 1
  go_wp2_with ((with_reducible refine gate_callee (f := 33) rfl ?_); refine goesL_ (some 9) rfl rfl Try.func33 (by kernel_rfl) rfl #[.slice none 0 0] rfl (by (try simp only [List.map_toArray, List.map_cons, List.map_nil]); first | done | rfl | (simp only [List.length_drop, List.length_take]; rfl)) ?_; (with_reducible refine (back_calls _ none 0 0).mono ?_); rintro e w5_ ⟨g9, rfl, hk9, hg9, hb⟩; refine ⟨_, rfl, ?_⟩; have n0_ := Aside0.mk (below_step (by repeat (first | (with_reducible first | exact HB.out | apply below_alloc | apply pw_below_drewN | apply below_drew1 | refine below_set ?_ GE1.out | refine below_set ?_ GE3.out) | exact HB.out)) hb); have n1_ := Aside0.mk (blk_below (g := g1) (o := .cells #[.slice a l c, .slice none 0 0] 25 (0, 0)) (by (with_reducible repeat (first | refine blk_drewN ?_ _ | refine blk_drew ?_ | refine blk_alloc ?_ _)); exact BK1.out) hb); have n2_ := Aside0.mk (blk_below (g := g3) (o := .cells #[.map (some m1)] 46 (0, 0)) (by (with_reducible repeat (first | refine blk_drewN ?_ _ | refine blk_drew ?_ | refine blk_alloc ?_ _)); exact BK3.out) hb); have n3_ := Aside0.mk (EM.below (b := m1) (by (with_reducible repeat (first | refine EM_drewN ?_ _ | refine EM_drew ?_ | refine EM_alloc ?_ _)); exact MP1.out) hb); clear HB; clear BK1; clear BK3; clear MP1; have HB := n0_; have BK1 := n1_; have BK3 := n2_; have MP1 := n3_; clear n0_ n1_ n2_ n3_; clear hb; have BK9 := Aside0.mk hk9; clear hk9)
  refine wp_range_empty (gf := 52) (lb := #[.pointer (some ⟨g9, 0, none⟩)]) rfl (enters_of Try.func52 (by kernel_rfl) rfl) (fun l W hW => back1_empty W l g9 ((blk_cell (blk_below BK9.out hW) 0).trans rfl)) ?_
  intro D w6_ hD_ hb_ hK_
  have HD_ := Aside0.mk hD_
  have HDB := Aside0.mk (show w.heap.size ≤ D from Nat.le_trans HB.out.size hD_)
  have NMD1 := Aside0.mk (show m1 ≠ D from fun e_ => absurd (EM.lt MP1.out) (by omega))
  have hb := hb_
  have n0_ := Aside0.mk (below_step (by repeat (first | (with_reducible first | exact HB.out | apply below_alloc | apply pw_below_drewN | apply below_drew1 | refine below_set ?_ GE1.out | refine below_set ?_ GE3.out | refine below_set ?_ GE9.out) | exact HB.out)) hb)
  have n1_ := Aside0.mk (blk_below (g := g1) (o := .cells #[.slice a l c, .slice none 0 0] 25 (0, 0)) (by (with_reducible repeat (first | refine blk_drewN ?_ _ | refine blk_drew ?_ | refine blk_alloc ?_ _)); exact BK1.out) hb)
  have n2_ := Aside0.mk (blk_below (g := g3) (o := .cells #[.map (some m1)] 46 (0, 0)) (by (with_reducible repeat (first | refine blk_drewN ?_ _ | refine blk_drew ?_ | refine blk_alloc ?_ _)); exact BK3.out) hb)
  have n3_ := Aside0.mk (blk_below (g := g9) (o := .cells #[.slice none 0 0] 23 (0, 0)) (by (with_reducible repeat (first | refine blk_drewN ?_ _ | refine blk_drew ?_ | refine blk_alloc ?_ _)); exact BK9.out) hb)
  have n4_ := Aside0.mk (EM.below (b := m1) (by (with_reducible repeat (first | refine EM_drewN ?_ _ | refine EM_drew ?_ | refine EM_alloc ?_ _)); exact MP1.out) hb)
  clear HB
  clear BK1
  clear BK3
  clear BK9
  clear MP1
  have HB := n0_
  have BK1 := n1_
  have BK3 := n2_
  have BK9 := n3_
  have MP1 := n4_
  clear n0_ n1_ n2_ n3_ n4_
  clear hb
  have HK := Aside0.mk hK_
  clear hb_ hK_ hD_
  have hc3_0 : w6_.cell? ⟨g3, 0, none⟩ = some (.map (some m1)) := (blk_cell BK3.out 0).trans rfl
  have hf3_0 := blk_frozen BK3.out 0
  go_wp2
  refine ⟨by simp, .inl ⟨_, _, rfl, run_takeDeferred HK.out, ?_⟩⟩
  exact ⟨_, results_tmp rfl _ _ _, m1, rfl, EM.put MP1.out NMD1.out _, GM1.out, HB.out.trans (belowK_b (w := w) (Nat.le_refl _) _ D _ _ HDB.out HK.out rfl rfl)⟩

theorem look_none {W : World} {b : Nat} (h : EM W b) (v : Int) (hk : keyOf Try.prog 3 (.int .i64 v) = some (.int .i64 v)) : (Instr.lookup 46 (.map (some b)) (.int .i64 v) true).run Try.prog W = .ok (.tuple #[.agg #[.int .i64 0, .int .i64 0, .int .i64 0, .int .i64 0, .slice none 0 0, .slice none 0 0], .bool false]) W := by
  obtain ⟨es, clock, hb, F, hs, hD⟩ := h
  rcases fit_look (w := W) true keyed3 Try.underlying46 (Try.zeroValue40 W) hb F hk with ⟨hrun, _, hat⟩ | ⟨e0, y, _, _, hrun, hRv, hat, _⟩
  · exact hrun
  · cases hRv
set_option maxHeartbeats 4000000 in
theorem visit_calls (W : World) (x b3 b5 b4 b6 m1 : Nat) (v : Int) (hv : keyOf Try.prog 3 (.int .i64 v) = some (.int .i64 v)) (hx : W.cell? ⟨x, 0, none⟩ = some (.int .i64 v)) (h3 : W.heap[b3]? = some (.cells #[.map (some m1)] 46 (0, 0))) (hm : EM W m1) : Calls Try.prog 54 #[.slice (some ⟨x, 0, none⟩) 1 1, .pointer (some ⟨b3, 0, none⟩), .pointer (some ⟨b5, 0, none⟩), .pointer (some ⟨b4, 0, none⟩), .pointer (some ⟨b6, 0, none⟩)] W fun e W' => (∃ v, e = .returned v) ∧ Below W.heap.size W W' := by
  go_enter Try.func54, Try.ntmps54
  go_wp2
  go_loopw [12] (fun v wr => (v = .int .i64 0 ∧ wr = W) ∨ (v = .int .i64 1 ∧ Aside0 (Below W.heap.size W wr))) (fun v _ => 1 - (intOf v).toNat)
  case atStart => exact Or.inl ⟨rfl, rfl⟩
  case round =>
    rcases hrel with ⟨rfl, rfl⟩ | ⟨rfl, HB⟩
    · have h3c : wr.cell? ⟨b3, 0, none⟩ = some (.map (some m1)) := (blk_cell h3 0).trans rfl
      have hlk := look_none hm v hv
      have HB := Aside0.mk (Below.refl wr.heap.size wr)
      go_wp2_with ((with_reducible refine gate_dst (N := 8) rfl ?_); refine box_event ?hg (N := 8) ?hd (cs := #[.int .i64 0, .int .i64 0, .int .i64 0, .int .i64 0, .slice none 0 0, .slice none 0 0]) (t := 40) ?hr ?_; (case hd => rfl); (case hg => rfl); (case hr => first | (go_simp; done) | (go_simp; rfl)); intro g8 hg w1_ hbox hb; have n0_ := Aside0.mk (below_step (by repeat (first | (with_reducible first | exact HB.out | apply below_alloc | apply pw_below_drewN | apply below_drew1) | exact HB.out)) hb); have n1_ := Aside0.mk hbox; have n2_ := Aside0.mk ((by rw [hg]; exact (below_size (by repeat (first | (with_reducible first | exact HB.out | apply below_alloc | apply pw_below_drewN | apply below_drew1) | exact HB.out)))) : wr.heap.size ≤ g8); clear HB; have HB := n0_; have BK8 := n1_; have GE8 := n2_; clear n0_ n1_ n2_; clear hb hbox hg; have hc8_0 : w1_.cell? ⟨g8, 0, none⟩ = some (.int .i64 0) := (blk_cell BK8.out 0).trans rfl; have hf8_0 := blk_frozen BK8.out 0; have hc8_1 : w1_.cell? ⟨g8, 1, none⟩ = some (.int .i64 0) := (blk_cell BK8.out 1).trans rfl; have hf8_1 := blk_frozen BK8.out 1; have hc8_2 : w1_.cell? ⟨g8, 2, none⟩ = some (.int .i64 0) := (blk_cell BK8.out 2).trans rfl; have hf8_2 := blk_frozen BK8.out 2; have hc8_3 : w1_.cell? ⟨g8, 3, none⟩ = some (.int .i64 0) := (blk_cell BK8.out 3).trans rfl; have hf8_3 := blk_frozen BK8.out 3; have hc8_4 : w1_.cell? ⟨g8, 4, none⟩ = some (.slice none 0 0) := (blk_cell BK8.out 4).trans rfl; have hf8_4 := blk_frozen BK8.out 4; have hc8_5 : w1_.cell? ⟨g8, 5, none⟩ = some (.slice none 0 0) := (blk_cell BK8.out 5).trans rfl; have hf8_5 := blk_frozen BK8.out 5)
      exact ⟨Or.inr ⟨rfl, Aside0.mk (by repeat (first | (with_reducible first | exact HB.out | apply below_alloc | apply pw_below_drewN | apply below_drew1 | refine below_set ?_ GE8.out) | exact HB.out))⟩, by decide⟩
    · go_wp2
      go_end0
      exact ⟨⟨_, rfl⟩, HB.out⟩
set_option maxHeartbeats 4000000 in
theorem walk_calls (w : World) (x : Nat) (v : Int) (hv : keyOf Try.prog 3 (.int .i64 v) = some (.int .i64 v)) (hx : w.cell? ⟨x, 0, none⟩ = some (.int .i64 v)) (hxl : x < w.heap.size) : Calls Try.prog 34 #[.agg #[.slice (some ⟨x, 0, none⟩) 1 1, .slice none 0 0]] w fun e W' => e = .returned (.slice none 0 0) ∧ Below w.heap.size w W' := by
  have HB := Aside0.mk (Below.refl w.heap.size w)
  go_enter Try.func34, Try.ntmps34
  go_upto_region 1 with ((with_reducible refine gate_dst (N := 1) rfl ?_); refine box_event ?hg (N := 1) ?hd (cs := #[.slice (some ⟨x, 0, none⟩) 1 1, .slice none 0 0]) (t := 25) ?hr ?_; (case hd => rfl); (case hg => rfl); (case hr => first | (go_simp; done) | (go_simp; rfl)); intro g1 hg w1_ hbox hb; have n0_ := Aside0.mk (below_step (by repeat (first | (with_reducible first | exact HB.out | apply below_alloc | apply pw_below_drewN | apply below_drew1) | exact HB.out)) hb); have n1_ := Aside0.mk hbox; have n2_ := Aside0.mk ((by rw [hg]; exact (below_size (by repeat (first | (with_reducible first | exact HB.out | apply below_alloc | apply pw_below_drewN | apply below_drew1) | exact HB.out)))) : w.heap.size ≤ g1); clear HB; have HB := n0_; have BK1 := n1_; have GE1 := n2_; clear n0_ n1_ n2_; clear hb hbox hg)
  have hc1_0 : w1_.cell? ⟨g1, 0, none⟩ = some (.slice (some ⟨x, 0, none⟩) 1 1) := (blk_cell BK1.out 0).trans rfl
  have hf1_0 := blk_frozen BK1.out 0
  have hc1_1 : w1_.cell? ⟨g1, 1, none⟩ = some (.slice none 0 0) := (blk_cell BK1.out 1).trans rfl
  have hf1_1 := blk_frozen BK1.out 1
  go_upto_region 2 with (first | ((with_reducible refine gate_dst (N := 3) rfl ?_); refine box_event ?hg (N := 3) ?hd (cs := #[.map none]) (t := 46) ?hr ?_; (case hd => rfl); (case hg => rfl); (case hr => first | (go_simp; done) | (go_simp; rfl)); intro g3 hg w3_ hbox hb; have n0_ := Aside0.mk (below_step (by repeat (first | (with_reducible first | exact HB.out | apply below_alloc | apply pw_below_drewN | apply below_drew1 | refine below_set ?_ GE1.out) | exact HB.out)) hb); have n1_ := Aside0.mk (blk_below (g := g1) (o := .cells #[.slice (some ⟨x, 0, none⟩) 1 1, .slice none 0 0] 25 (0, 0)) (by (with_reducible repeat (first | refine blk_drewN ?_ _ | refine blk_drew ?_ | refine blk_alloc ?_ _)); exact BK1.out) hb); have n2_ := Aside0.mk (EM.below (b := m1) (by (with_reducible repeat (first | refine EM_drewN ?_ _ | refine EM_drew ?_ | refine EM_alloc ?_ _)); exact MP1.out) hb); have n3_ := Aside0.mk hbox; have n4_ := Aside0.mk ((by rw [hg]; exact (below_size (by repeat (first | (with_reducible first | exact HB.out | apply below_alloc | apply pw_below_drewN | apply below_drew1 | refine below_set ?_ GE1.out) | exact HB.out)))) : w.heap.size ≤ g3); have n5_ := Aside0.mk ((by rw [hg]; exact Nat.ne_of_lt (blk_lt (g := g1) (o := .cells #[.slice (some ⟨x, 0, none⟩) 1 1, .slice none 0 0] 25 (0, 0)) (by (with_reducible repeat (first | refine blk_drewN ?_ _ | refine blk_drew ?_ | refine blk_alloc ?_ _)); exact BK1.out))) : g1 ≠ g3); have n6_ := Aside0.mk ((by rw [hg]; exact Nat.ne_of_lt (EM.lt (b := m1) (by (with_reducible repeat (first | refine EM_drewN ?_ _ | refine EM_drew ?_ | refine EM_alloc ?_ _)); exact MP1.out))) : m1 ≠ g3); clear HB; clear BK1; clear MP1; have HB := n0_; have BK1 := n1_; have MP1 := n2_; have BK3 := n3_; have GE3 := n4_; have NE1_3 := n5_; have NM1_3 := n6_; clear n0_ n1_ n2_ n3_ n4_ n5_ n6_; clear hb hbox hg; have hc3_0 : w3_.cell? ⟨g3, 0, none⟩ = some (.map none) := (blk_cell BK3.out 0).trans rfl; have hf3_0 := blk_frozen BK3.out 0) | ((with_reducible refine gate_callee (f := 53) rfl ?_); refine goesL_ (some 8) rfl rfl Try.func53 (by kernel_rfl) rfl #[.agg #[.slice (some ⟨x, 0, none⟩) 1 1, .slice none 0 0]] rfl (by (try simp only [List.map_toArray, List.map_cons, List.map_nil]); first | done | rfl | (simp only [List.length_drop, List.length_take]; rfl)) ?_; (with_reducible refine (gnodes_calls _ (some ⟨x, 0, none⟩) 1 1).mono ?_); rintro e w2_ ⟨m1, rfl, hm1, hgm1, hb⟩; refine ⟨_, rfl, ?_⟩; have HB0 := HB; have n0_ := Aside0.mk (below_step (by repeat (first | (with_reducible first | exact HB.out | apply below_alloc | apply pw_below_drewN | apply below_drew1 | refine below_set ?_ GE1.out) | exact HB.out)) hb); have n1_ := Aside0.mk (blk_below (g := g1) (o := .cells #[.slice (some ⟨x, 0, none⟩) 1 1, .slice none 0 0] 25 (0, 0)) (by (with_reducible repeat (first | refine blk_drewN ?_ _ | refine blk_drew ?_ | refine blk_alloc ?_ _)); exact BK1.out) hb); clear HB; clear BK1; have HB := n0_; have BK1 := n1_; clear n0_ n1_; clear hb; have MP1 := Aside0.mk hm1; have GM1 := Aside0.mk (Nat.le_trans (below_size HB0.out) hgm1); clear hm1 hgm1))
  generalize hw_ : (w3_.setCell ⟨g3, 0, none⟩ (.map (some m1))) = w4_
  have n0_ := Aside0.mk (show Below w.heap.size w w4_ from by rw [← hw_]; exact (by repeat (first | (with_reducible first | exact HB.out | apply below_alloc | apply pw_below_drewN | apply below_drew1 | refine below_set ?_ GE1.out | refine below_set ?_ GE3.out) | exact HB.out)))
  have n1_ := Aside0.mk (show w4_.heap[g1]? = some (.cells #[.slice (some ⟨x, 0, none⟩) 1 1, .slice none 0 0] 25 (0, 0)) from by rw [← hw_]; refine blk_far ?_ NE1_3.out _; exact BK1.out)
  have n2_ := Aside0.mk (show w4_.heap[g3]? = some (.cells #[.map (some m1)] 46 (0, 0)) from by rw [← hw_]; exact (by (with_reducible repeat (first | refine blk_drewN ?_ _ | refine blk_drew ?_ | refine blk_alloc ?_ _)); refine blk_put (cs := #[.map none]) ?_ 0 _ rfl; (with_reducible repeat (first | refine blk_drewN ?_ _ | refine blk_drew ?_ | refine blk_alloc ?_ _)); exact BK3.out))
  have n3_ := Aside0.mk (show EM w4_ m1 from by rw [← hw_]; refine EM.far ?_ NM1_3.out _; exact MP1.out)
  clear HB
  clear BK1
  clear BK3
  clear MP1
  have HB := n0_
  have BK1 := n1_
  have BK3 := n2_
  have MP1 := n3_
  clear n0_ n1_ n2_ n3_
  clear hw_
  go_upto_region 3 with ((with_reducible refine gate_dst (N := 4) rfl ?_); refine box_event ?hg (N := 4) ?hd (cs := #[.slice none 0 0]) (t := 22) ?hr ?_; (case hd => rfl); (case hg => rfl); (case hr => first | (go_simp; done) | (go_simp; rfl)); intro g4 hg w5_ hbox hb; have n0_ := Aside0.mk (below_step (by repeat (first | (with_reducible first | exact HB.out | apply below_alloc | apply pw_below_drewN | apply below_drew1 | refine below_set ?_ GE1.out | refine below_set ?_ GE3.out) | exact HB.out)) hb); have n1_ := Aside0.mk (blk_below (g := g1) (o := .cells #[.slice (some ⟨x, 0, none⟩) 1 1, .slice none 0 0] 25 (0, 0)) (by (with_reducible repeat (first | refine blk_drewN ?_ _ | refine blk_drew ?_ | refine blk_alloc ?_ _)); exact BK1.out) hb); have n2_ := Aside0.mk (blk_below (g := g3) (o := .cells #[.map (some m1)] 46 (0, 0)) (by (with_reducible repeat (first | refine blk_drewN ?_ _ | refine blk_drew ?_ | refine blk_alloc ?_ _)); exact BK3.out) hb); have n3_ := Aside0.mk (EM.below (b := m1) (by (with_reducible repeat (first | refine EM_drewN ?_ _ | refine EM_drew ?_ | refine EM_alloc ?_ _)); exact MP1.out) hb); have n4_ := Aside0.mk hbox; have n5_ := Aside0.mk ((by rw [hg]; exact (below_size (by repeat (first | (with_reducible first | exact HB.out | apply below_alloc | apply pw_below_drewN | apply below_drew1 | refine below_set ?_ GE1.out | refine below_set ?_ GE3.out) | exact HB.out)))) : w.heap.size ≤ g4); have n6_ := Aside0.mk ((by rw [hg]; exact Nat.ne_of_lt (blk_lt (g := g1) (o := .cells #[.slice (some ⟨x, 0, none⟩) 1 1, .slice none 0 0] 25 (0, 0)) (by (with_reducible repeat (first | refine blk_drewN ?_ _ | refine blk_drew ?_ | refine blk_alloc ?_ _)); exact BK1.out))) : g1 ≠ g4); have n7_ := Aside0.mk ((by rw [hg]; exact Nat.ne_of_lt (blk_lt (g := g3) (o := .cells #[.map (some m1)] 46 (0, 0)) (by (with_reducible repeat (first | refine blk_drewN ?_ _ | refine blk_drew ?_ | refine blk_alloc ?_ _)); exact BK3.out))) : g3 ≠ g4); have n8_ := Aside0.mk ((by rw [hg]; exact Nat.ne_of_lt (EM.lt (b := m1) (by (with_reducible repeat (first | refine EM_drewN ?_ _ | refine EM_drew ?_ | refine EM_alloc ?_ _)); exact MP1.out))) : m1 ≠ g4); clear HB; clear BK1; clear BK3; clear MP1; have HB := n0_; have BK1 := n1_; have BK3 := n2_; have MP1 := n3_; have BK4 := n4_; have GE4 := n5_; have NE1_4 := n6_; have NE3_4 := n7_; have NM1_4 := n8_; clear n0_ n1_ n2_ n3_ n4_ n5_ n6_ n7_ n8_; clear hb hbox hg)
  go_wp2
  rw [run_makeMap]
  obtain ⟨w6_, hw_⟩ : ∃ x, x = w5_.alloc (.map #[] 0) := ⟨_, rfl⟩
  obtain ⟨m2, hm_⟩ : ∃ x, x = w5_.heap.size := ⟨_, rfl⟩
  rw [← hw_, ← hm_]
  have hb : Below w5_.heap.size w5_ w6_ := by rw [hw_]; exact below_alloc (Below.refl _ _) _
  have n0_ := Aside0.mk (below_step (by repeat (first | (with_reducible first | exact HB.out | apply below_alloc | apply pw_below_drewN | apply below_drew1 | refine below_set ?_ GE1.out | refine below_set ?_ GE3.out | refine below_set ?_ GE4.out) | exact HB.out)) hb)
  have n1_ := Aside0.mk (blk_below (g := g1) (o := .cells #[.slice (some ⟨x, 0, none⟩) 1 1, .slice none 0 0] 25 (0, 0)) (by (with_reducible repeat (first | refine blk_drewN ?_ _ | refine blk_drew ?_ | refine blk_alloc ?_ _)); exact BK1.out) hb)
  have n2_ := Aside0.mk (blk_below (g := g3) (o := .cells #[.map (some m1)] 46 (0, 0)) (by (with_reducible repeat (first | refine blk_drewN ?_ _ | refine blk_drew ?_ | refine blk_alloc ?_ _)); exact BK3.out) hb)
  have n3_ := Aside0.mk (blk_below (g := g4) (o := .cells #[.slice none 0 0] 22 (0, 0)) (by (with_reducible repeat (first | refine blk_drewN ?_ _ | refine blk_drew ?_ | refine blk_alloc ?_ _)); exact BK4.out) hb)
  have n4_ := Aside0.mk (EM.below (b := m1) (by (with_reducible repeat (first | refine EM_drewN ?_ _ | refine EM_drew ?_ | refine EM_alloc ?_ _)); exact MP1.out) hb)
  have n5_ := Aside0.mk (show EM w6_ m2 from by rw [hw_, hm_]; exact World.ownsMap_made _ _ _ _)
  have GM2 := Aside0.mk (show w.heap.size ≤ m2 from by rw [hm_]; exact below_size HB.out)
  have NG1_2 := Aside0.mk (show g1 ≠ m2 from by rw [hm_]; exact Nat.ne_of_lt (blk_lt BK1.out))
  have NG3_2 := Aside0.mk (show g3 ≠ m2 from by rw [hm_]; exact Nat.ne_of_lt (blk_lt BK3.out))
  have NG4_2 := Aside0.mk (show g4 ≠ m2 from by rw [hm_]; exact Nat.ne_of_lt (blk_lt BK4.out))
  have NMM1_2 := Aside0.mk (show m1 ≠ m2 from by rw [hm_]; exact Nat.ne_of_lt (EM.lt MP1.out))
  clear HB
  clear BK1
  clear BK3
  clear BK4
  clear MP1
  have HB := n0_
  have BK1 := n1_
  have BK3 := n2_
  have BK4 := n3_
  have MP1 := n4_
  have MP2 := n5_
  clear n0_ n1_ n2_ n3_ n4_ n5_
  clear hb hw_ hm_
  go_upto_region 4 with ((with_reducible refine gate_dst (N := 5) rfl ?_); refine box_event ?hg (N := 5) ?hd (cs := #[.map none]) (t := 90) ?hr ?_; (case hd => rfl); (case hg => rfl); (case hr => first | (go_simp; done) | (go_simp; rfl)); intro g5 hg w7_ hbox hb; have n0_ := Aside0.mk (below_step (by repeat (first | (with_reducible first | exact HB.out | apply below_alloc | apply pw_below_drewN | apply below_drew1 | refine below_set ?_ GE1.out | refine below_set ?_ GE3.out | refine below_set ?_ GE4.out) | exact HB.out)) hb); have n1_ := Aside0.mk (blk_below (g := g1) (o := .cells #[.slice (some ⟨x, 0, none⟩) 1 1, .slice none 0 0] 25 (0, 0)) (by (with_reducible repeat (first | refine blk_drewN ?_ _ | refine blk_drew ?_ | refine blk_alloc ?_ _)); exact BK1.out) hb); have n2_ := Aside0.mk (blk_below (g := g3) (o := .cells #[.map (some m1)] 46 (0, 0)) (by (with_reducible repeat (first | refine blk_drewN ?_ _ | refine blk_drew ?_ | refine blk_alloc ?_ _)); exact BK3.out) hb); have n3_ := Aside0.mk (blk_below (g := g4) (o := .cells #[.slice none 0 0] 22 (0, 0)) (by (with_reducible repeat (first | refine blk_drewN ?_ _ | refine blk_drew ?_ | refine blk_alloc ?_ _)); exact BK4.out) hb); have n4_ := Aside0.mk (EM.below (b := m1) (by (with_reducible repeat (first | refine EM_drewN ?_ _ | refine EM_drew ?_ | refine EM_alloc ?_ _)); exact MP1.out) hb); have n5_ := Aside0.mk (EM.below (b := m2) (by (with_reducible repeat (first | refine EM_drewN ?_ _ | refine EM_drew ?_ | refine EM_alloc ?_ _)); exact MP2.out) hb); have n6_ := Aside0.mk hbox; have n7_ := Aside0.mk ((by rw [hg]; exact (below_size (by repeat (first | (with_reducible first | exact HB.out | apply below_alloc | apply pw_below_drewN | apply below_drew1 | refine below_set ?_ GE1.out | refine below_set ?_ GE3.out | refine below_set ?_ GE4.out) | exact HB.out)))) : w.heap.size ≤ g5); have n8_ := Aside0.mk ((by rw [hg]; exact Nat.ne_of_lt (blk_lt (g := g1) (o := .cells #[.slice (some ⟨x, 0, none⟩) 1 1, .slice none 0 0] 25 (0, 0)) (by (with_reducible repeat (first | refine blk_drewN ?_ _ | refine blk_drew ?_ | refine blk_alloc ?_ _)); exact BK1.out))) : g1 ≠ g5); have n9_ := Aside0.mk ((by rw [hg]; exact Nat.ne_of_lt (blk_lt (g := g3) (o := .cells #[.map (some m1)] 46 (0, 0)) (by (with_reducible repeat (first | refine blk_drewN ?_ _ | refine blk_drew ?_ | refine blk_alloc ?_ _)); exact BK3.out))) : g3 ≠ g5); have n10_ := Aside0.mk ((by rw [hg]; exact Nat.ne_of_lt (blk_lt (g := g4) (o := .cells #[.slice none 0 0] 22 (0, 0)) (by (with_reducible repeat (first | refine blk_drewN ?_ _ | refine blk_drew ?_ | refine blk_alloc ?_ _)); exact BK4.out))) : g4 ≠ g5); have n11_ := Aside0.mk ((by rw [hg]; exact Nat.ne_of_lt (EM.lt (b := m1) (by (with_reducible repeat (first | refine EM_drewN ?_ _ | refine EM_drew ?_ | refine EM_alloc ?_ _)); exact MP1.out))) : m1 ≠ g5); have n12_ := Aside0.mk ((by rw [hg]; exact Nat.ne_of_lt (EM.lt (b := m2) (by (with_reducible repeat (first | refine EM_drewN ?_ _ | refine EM_drew ?_ | refine EM_alloc ?_ _)); exact MP2.out))) : m2 ≠ g5); clear HB; clear BK1; clear BK3; clear BK4; clear MP1; clear MP2; have HB := n0_; have BK1 := n1_; have BK3 := n2_; have BK4 := n3_; have MP1 := n4_; have MP2 := n5_; have BK5 := n6_; have GE5 := n7_; have NE1_5 := n8_; have NE3_5 := n9_; have NE4_5 := n10_; have NM1_5 := n11_; have NM2_5 := n12_; clear n0_ n1_ n2_ n3_ n4_ n5_ n6_ n7_ n8_ n9_ n10_ n11_ n12_; clear hb hbox hg; have hc5_0 : w7_.cell? ⟨g5, 0, none⟩ = some (.map none) := (blk_cell BK5.out 0).trans rfl; have hf5_0 := blk_frozen BK5.out 0)
  generalize hw_ : (w7_.setCell ⟨g5, 0, none⟩ (.map (some m2))) = w8_
  have n0_ := Aside0.mk (show Below w.heap.size w w8_ from by rw [← hw_]; exact (by repeat (first | (with_reducible first | exact HB.out | apply below_alloc | apply pw_below_drewN | apply below_drew1 | refine below_set ?_ GE1.out | refine below_set ?_ GE3.out | refine below_set ?_ GE4.out | refine below_set ?_ GE5.out) | exact HB.out)))
  have n1_ := Aside0.mk (show w8_.heap[g1]? = some (.cells #[.slice (some ⟨x, 0, none⟩) 1 1, .slice none 0 0] 25 (0, 0)) from by rw [← hw_]; refine blk_far ?_ NE1_5.out _; exact BK1.out)
  have n2_ := Aside0.mk (show w8_.heap[g3]? = some (.cells #[.map (some m1)] 46 (0, 0)) from by rw [← hw_]; refine blk_far ?_ NE3_5.out _; exact BK3.out)
  have n3_ := Aside0.mk (show w8_.heap[g4]? = some (.cells #[.slice none 0 0] 22 (0, 0)) from by rw [← hw_]; refine blk_far ?_ NE4_5.out _; exact BK4.out)
  have n4_ := Aside0.mk (show w8_.heap[g5]? = some (.cells #[.map (some m2)] 90 (0, 0)) from by rw [← hw_]; exact (by (with_reducible repeat (first | refine blk_drewN ?_ _ | refine blk_drew ?_ | refine blk_alloc ?_ _)); refine blk_put (cs := #[.map none]) ?_ 0 _ rfl; (with_reducible repeat (first | refine blk_drewN ?_ _ | refine blk_drew ?_ | refine blk_alloc ?_ _)); exact BK5.out))
  have n5_ := Aside0.mk (show EM w8_ m1 from by rw [← hw_]; refine EM.far ?_ NM1_5.out _; exact MP1.out)
  have n6_ := Aside0.mk (show EM w8_ m2 from by rw [← hw_]; refine EM.far ?_ NM2_5.out _; exact MP2.out)
  clear HB
  clear BK1
  clear BK3
  clear BK4
  clear BK5
  clear MP1
  clear MP2
  have HB := n0_
  have BK1 := n1_
  have BK3 := n2_
  have BK4 := n3_
  have BK5 := n4_
  have MP1 := n5_
  have MP2 := n6_
  clear n0_ n1_ n2_ n3_ n4_ n5_ n6_
  clear hw_
  go_upto_region 5 with ((with_reducible refine gate_dst (N := 6) rfl ?_); refine box_event ?hg (N := 6) ?hd (cs := #[.nilFunc]) (t := 85) ?hr ?_; (case hd => rfl); (case hg => rfl); (case hr => first | (go_simp; done) | (go_simp; rfl)); intro g6 hg w9_ hbox hb; have n0_ := Aside0.mk (below_step (by repeat (first | (with_reducible first | exact HB.out | apply below_alloc | apply pw_below_drewN | apply below_drew1 | refine below_set ?_ GE1.out | refine below_set ?_ GE3.out | refine below_set ?_ GE4.out | refine below_set ?_ GE5.out) | exact HB.out)) hb); have n1_ := Aside0.mk (blk_below (g := g1) (o := .cells #[.slice (some ⟨x, 0, none⟩) 1 1, .slice none 0 0] 25 (0, 0)) (by (with_reducible repeat (first | refine blk_drewN ?_ _ | refine blk_drew ?_ | refine blk_alloc ?_ _)); exact BK1.out) hb); have n2_ := Aside0.mk (blk_below (g := g3) (o := .cells #[.map (some m1)] 46 (0, 0)) (by (with_reducible repeat (first | refine blk_drewN ?_ _ | refine blk_drew ?_ | refine blk_alloc ?_ _)); exact BK3.out) hb); have n3_ := Aside0.mk (blk_below (g := g4) (o := .cells #[.slice none 0 0] 22 (0, 0)) (by (with_reducible repeat (first | refine blk_drewN ?_ _ | refine blk_drew ?_ | refine blk_alloc ?_ _)); exact BK4.out) hb); have n4_ := Aside0.mk (blk_below (g := g5) (o := .cells #[.map (some m2)] 90 (0, 0)) (by (with_reducible repeat (first | refine blk_drewN ?_ _ | refine blk_drew ?_ | refine blk_alloc ?_ _)); exact BK5.out) hb); have n5_ := Aside0.mk (EM.below (b := m1) (by (with_reducible repeat (first | refine EM_drewN ?_ _ | refine EM_drew ?_ | refine EM_alloc ?_ _)); exact MP1.out) hb); have n6_ := Aside0.mk (EM.below (b := m2) (by (with_reducible repeat (first | refine EM_drewN ?_ _ | refine EM_drew ?_ | refine EM_alloc ?_ _)); exact MP2.out) hb); have n7_ := Aside0.mk hbox; have n8_ := Aside0.mk ((by rw [hg]; exact (below_size (by repeat (first | (with_reducible first | exact HB.out | apply below_alloc | apply pw_below_drewN | apply below_drew1 | refine below_set ?_ GE1.out | refine below_set ?_ GE3.out | refine below_set ?_ GE4.out | refine below_set ?_ GE5.out) | exact HB.out)))) : w.heap.size ≤ g6); have n9_ := Aside0.mk ((by rw [hg]; exact Nat.ne_of_lt (blk_lt (g := g1) (o := .cells #[.slice (some ⟨x, 0, none⟩) 1 1, .slice none 0 0] 25 (0, 0)) (by (with_reducible repeat (first | refine blk_drewN ?_ _ | refine blk_drew ?_ | refine blk_alloc ?_ _)); exact BK1.out))) : g1 ≠ g6); have n10_ := Aside0.mk ((by rw [hg]; exact Nat.ne_of_lt (blk_lt (g := g3) (o := .cells #[.map (some m1)] 46 (0, 0)) (by (with_reducible repeat (first | refine blk_drewN ?_ _ | refine blk_drew ?_ | refine blk_alloc ?_ _)); exact BK3.out))) : g3 ≠ g6); have n11_ := Aside0.mk ((by rw [hg]; exact Nat.ne_of_lt (blk_lt (g := g4) (o := .cells #[.slice none 0 0] 22 (0, 0)) (by (with_reducible repeat (first | refine blk_drewN ?_ _ | refine blk_drew ?_ | refine blk_alloc ?_ _)); exact BK4.out))) : g4 ≠ g6); have n12_ := Aside0.mk ((by rw [hg]; exact Nat.ne_of_lt (blk_lt (g := g5) (o := .cells #[.map (some m2)] 90 (0, 0)) (by (with_reducible repeat (first | refine blk_drewN ?_ _ | refine blk_drew ?_ | refine blk_alloc ?_ _)); exact BK5.out))) : g5 ≠ g6); have n13_ := Aside0.mk ((by rw [hg]; exact Nat.ne_of_lt (EM.lt (b := m1) (by (with_reducible repeat (first | refine EM_drewN ?_ _ | refine EM_drew ?_ | refine EM_alloc ?_ _)); exact MP1.out))) : m1 ≠ g6); have n14_ := Aside0.mk ((by rw [hg]; exact Nat.ne_of_lt (EM.lt (b := m2) (by (with_reducible repeat (first | refine EM_drewN ?_ _ | refine EM_drew ?_ | refine EM_alloc ?_ _)); exact MP2.out))) : m2 ≠ g6); clear HB; clear BK1; clear BK3; clear BK4; clear BK5; clear MP1; clear MP2; have HB := n0_; have BK1 := n1_; have BK3 := n2_; have BK4 := n3_; have BK5 := n4_; have MP1 := n5_; have MP2 := n6_; have BK6 := n7_; have GE6 := n8_; have NE1_6 := n9_; have NE3_6 := n10_; have NE4_6 := n11_; have NE5_6 := n12_; have NM1_6 := n13_; have NM2_6 := n14_; clear n0_ n1_ n2_ n3_ n4_ n5_ n6_ n7_ n8_ n9_ n10_ n11_ n12_ n13_ n14_; clear hb hbox hg; have hc6_0 : w9_.cell? ⟨g6, 0, none⟩ = some (.nilFunc) := (blk_cell BK6.out 0).trans rfl; have hf6_0 := blk_frozen BK6.out 0)
  go_upto_region 6 with fail
  generalize hw_ : (w9_.setCell ⟨g6, 0, none⟩ (.func (.func 54) #[] #[.pointer (some ⟨g3, 0, none⟩), .pointer (some ⟨g5, 0, none⟩), .pointer (some ⟨g4, 0, none⟩), .pointer (some ⟨g6, 0, none⟩)])) = w10_
  have n0_ := Aside0.mk (show Below w.heap.size w w10_ from by rw [← hw_]; exact (by repeat (first | (with_reducible first | exact HB.out | apply below_alloc | apply pw_below_drewN | apply below_drew1 | refine below_set ?_ GE1.out | refine below_set ?_ GE3.out | refine below_set ?_ GE4.out | refine below_set ?_ GE5.out | refine below_set ?_ GE6.out) | exact HB.out)))
  have n1_ := Aside0.mk (show w10_.heap[g1]? = some (.cells #[.slice (some ⟨x, 0, none⟩) 1 1, .slice none 0 0] 25 (0, 0)) from by rw [← hw_]; refine blk_far ?_ NE1_6.out _; exact BK1.out)
  have n2_ := Aside0.mk (show w10_.heap[g3]? = some (.cells #[.map (some m1)] 46 (0, 0)) from by rw [← hw_]; refine blk_far ?_ NE3_6.out _; exact BK3.out)
  have n3_ := Aside0.mk (show w10_.heap[g4]? = some (.cells #[.slice none 0 0] 22 (0, 0)) from by rw [← hw_]; refine blk_far ?_ NE4_6.out _; exact BK4.out)
  have n4_ := Aside0.mk (show w10_.heap[g5]? = some (.cells #[.map (some m2)] 90 (0, 0)) from by rw [← hw_]; refine blk_far ?_ NE5_6.out _; exact BK5.out)
  have n5_ := Aside0.mk (show w10_.heap[g6]? = some (.cells #[.func (.func 54) #[] #[.pointer (some ⟨g3, 0, none⟩), .pointer (some ⟨g5, 0, none⟩), .pointer (some ⟨g4, 0, none⟩), .pointer (some ⟨g6, 0, none⟩)]] 85 (0, 0)) from by rw [← hw_]; exact (by (with_reducible repeat (first | refine blk_drewN ?_ _ | refine blk_drew ?_ | refine blk_alloc ?_ _)); refine blk_put (cs := #[.nilFunc]) ?_ 0 _ rfl; (with_reducible repeat (first | refine blk_drewN ?_ _ | refine blk_drew ?_ | refine blk_alloc ?_ _)); exact BK6.out))
  have n6_ := Aside0.mk (show EM w10_ m1 from by rw [← hw_]; refine EM.far ?_ NM1_6.out _; exact MP1.out)
  have n7_ := Aside0.mk (show EM w10_ m2 from by rw [← hw_]; refine EM.far ?_ NM2_6.out _; exact MP2.out)
  clear HB
  clear BK1
  clear BK3
  clear BK4
  clear BK5
  clear BK6
  clear MP1
  clear MP2
  have HB := n0_
  have BK1 := n1_
  have BK3 := n2_
  have BK4 := n3_
  have BK5 := n4_
  have BK6 := n5_
  have MP1 := n6_
  have MP2 := n7_
  clear n0_ n1_ n2_ n3_ n4_ n5_ n6_ n7_
  clear hw_
  have hc1_0 : w10_.cell? ⟨g1, 0, none⟩ = some (.slice (some ⟨x, 0, none⟩) 1 1) := (blk_cell BK1.out 0).trans rfl
  have hf1_0 := blk_frozen BK1.out 0
  have hc1_1 : w10_.cell? ⟨g1, 1, none⟩ = some (.slice none 0 0) := (blk_cell BK1.out 1).trans rfl
  have hf1_1 := blk_frozen BK1.out 1
  have hc6_0 : w10_.cell? ⟨g6, 0, none⟩ = some (.func (.func 54) #[] #[.pointer (some ⟨g3, 0, none⟩), .pointer (some ⟨g5, 0, none⟩), .pointer (some ⟨g4, 0, none⟩), .pointer (some ⟨g6, 0, none⟩)]) := (blk_cell BK6.out 0).trans rfl
  have hf6_0 := blk_frozen BK6.out 0
  have hxc := (HB.out.cell (p := ⟨x, 0, none⟩) hxl).trans hx
  go_wp2_with (go_at_call 54; (with_reducible refine (visit_calls _ x g3 g5 g4 g6 m1 v hv hxc BK3.out MP1.out).mono ?_); rintro e w11_ ⟨⟨v14, rfl⟩, hb⟩; have n0_ := Aside0.mk (below_step (by repeat (first | (with_reducible first | exact HB.out | apply below_alloc | apply pw_below_drewN | apply below_drew1 | refine below_set ?_ GE1.out | refine below_set ?_ GE3.out | refine below_set ?_ GE4.out | refine below_set ?_ GE5.out | refine below_set ?_ GE6.out) | exact HB.out)) hb); have n1_ := Aside0.mk (blk_below (g := g1) (o := .cells #[.slice (some ⟨x, 0, none⟩) 1 1, .slice none 0 0] 25 (0, 0)) (by (with_reducible repeat (first | refine blk_drewN ?_ _ | refine blk_drew ?_ | refine blk_alloc ?_ _)); exact BK1.out) hb); have n2_ := Aside0.mk (blk_below (g := g3) (o := .cells #[.map (some m1)] 46 (0, 0)) (by (with_reducible repeat (first | refine blk_drewN ?_ _ | refine blk_drew ?_ | refine blk_alloc ?_ _)); exact BK3.out) hb); have n3_ := Aside0.mk (blk_below (g := g4) (o := .cells #[.slice none 0 0] 22 (0, 0)) (by (with_reducible repeat (first | refine blk_drewN ?_ _ | refine blk_drew ?_ | refine blk_alloc ?_ _)); exact BK4.out) hb); have n4_ := Aside0.mk (blk_below (g := g5) (o := .cells #[.map (some m2)] 90 (0, 0)) (by (with_reducible repeat (first | refine blk_drewN ?_ _ | refine blk_drew ?_ | refine blk_alloc ?_ _)); exact BK5.out) hb); have n5_ := Aside0.mk (blk_below (g := g6) (o := .cells #[.func (.func 54) #[] #[.pointer (some ⟨g3, 0, none⟩), .pointer (some ⟨g5, 0, none⟩), .pointer (some ⟨g4, 0, none⟩), .pointer (some ⟨g6, 0, none⟩)]] 85 (0, 0)) (by (with_reducible repeat (first | refine blk_drewN ?_ _ | refine blk_drew ?_ | refine blk_alloc ?_ _)); exact BK6.out) hb); have n6_ := Aside0.mk (EM.below (b := m1) (by (with_reducible repeat (first | refine EM_drewN ?_ _ | refine EM_drew ?_ | refine EM_alloc ?_ _)); exact MP1.out) hb); have n7_ := Aside0.mk (EM.below (b := m2) (by (with_reducible repeat (first | refine EM_drewN ?_ _ | refine EM_drew ?_ | refine EM_alloc ?_ _)); exact MP2.out) hb); clear HB; clear BK1; clear BK3; clear BK4; clear BK5; clear BK6; clear MP1; clear MP2; have HB := n0_; have BK1 := n1_; have BK3 := n2_; have BK4 := n3_; have BK5 := n4_; have BK6 := n5_; have MP1 := n6_; have MP2 := n7_; clear n0_ n1_ n2_ n3_ n4_ n5_ n6_ n7_; clear hb; have hc4_0 : w11_.cell? ⟨g4, 0, none⟩ = some (.slice none 0 0) := (blk_cell BK4.out 0).trans rfl; have hf4_0 := blk_frozen BK4.out 0)
  go_ret
  exact ⟨rfl, HB.out⟩
end Go.Proofs.Ytekggbmajemmhaa.Di
