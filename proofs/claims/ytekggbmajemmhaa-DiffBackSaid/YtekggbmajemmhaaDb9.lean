/- Parts of one proof, set together: Gr8. What each says stands at its head; no condition beyond theirs. -/
import Derived.Test.YtekggbmajemmhaaDb8
/- Diff: diff.nodes. Conditions: the graph lies in memory; at most 40 nodes and roots, of at most 300 slots and data. -/
namespace Go.Proofs.Ytekggbmajemmhaa.Gr
open Go.RowKit Go.Shelf Go.Maps Go.ChangeMaps Go.MapKept Go.Proofs.YtekggbmajemmhaaW.PrintWords Go.Proofs.YtekggbmajemmhaaW.PrintLast Go.Proofs.YtekggbmajemmhaaW.PrintMore
set_option linter.unusedSimpArgs false
set_option linter.unusedVariables false
attribute [local go_sem] Oper.semAt_some
/-- A slice that owns a row of whole numbers, written out. -/
theorem row_form {W : World} {X n : Nat} {v : Value} {l : List Int} (h : W.ownsRow X 3 1 v n (l.map (Value.int .i64))) : ∃ a cap, v = .slice a n cap ∧ l.length = n := by
  have hl : l.length = n := by have := h.1; rw [List.length_map] at this; omega
  rcases h.2 with ⟨rfl, rfl⟩ | ⟨g, cap, cur, rfl, _⟩
  · exact ⟨none, 0, rfl, hl⟩
  · exact ⟨_, cap, rfl, hl⟩
theorem row_cell {W : World} {X n c : Nat} {a : Option Addr} {l : List Int} (h : W.ownsRow X 3 1 (.slice a n c) n (l.map (Value.int .i64))) (j : Nat) (hj : j < n) : ∃ y, a = some y ∧ W.cell? (y.add j) = some (.int .i64 (l.getD j 0)) := by
  have hl : l.length = n := by have := h.1; rw [List.length_map] at this; omega
  have hcs := @World.ownsRow.cells _ _ _ _ _ _ _ h
  rcases h.2 with ⟨e, h0⟩ | ⟨g, cap, cur, e, _⟩
  · omega
  · cases e
    refine ⟨_, rfl, ?_⟩
    rw [hcs (g := g) rfl j _ (by rw [List.getElem?_map, List.getElem?_eq_getElem (by omega)]; rfl), List.getD_eq_getElem?_getD, List.getElem?_eq_getElem (by omega)]
    rfl
theorem row_map {W W' : World} {X n b : Nat} {v : Value} {l : List Value} {H : Type} {R : Value → Option (DataW H × List MemPlace)} {k : Nat} {D : DataW H} (h : W.ownsRow X 3 1 v n l) (hm : W.ownsMap Try.prog 3 R b k D) (hg : W.grownBy W' (some b)) : W'.ownsRow X 3 1 v n l := by
  refine h.kept hg ?_
  rcases h.2 with ⟨rfl, _⟩ | ⟨g0, cap, cur, rfl, _, hgb, _⟩
  · exact .inl rfl
  · exact .inr (by simpa [Value.ownBlock] using map_ne_cells hm hgb)
theorem walk_len {g : Gd} {W : World} {B : Nat} (hl : g.NS.length = g.nl) (h : g.nl ≤ 40) : (walkR g.NS g.R).length ≤ 40 := by
  have := visitR_cnt g.NS g.NS.length (g.NS.length + 1) [] g.R (by have := left_le g.NS []; simpa using this)
  unfold walkR
  omega
theorem look_val {W : World} {b n : Nat} {L : List Nd} (h : W.ownsMap Try.prog 3 nR b n (MD L)) {x : Int} (hk : (Lit.int .i64 x).wf = true) {k : Nd} (hf : find L x = some k) : (Instr.lookup 46 (.map (some b)) (.int .i64 x) false).run Try.prog W = .ok (.agg #[.int .i64 k.adr, .int .i64 k.refs, .int .i64 k.sl, .int .i64 k.words, .slice k.A k.m k.c, .slice k.B k.n k.d]) W := by
  obtain ⟨v, hrun, hv⟩ := look_plain h hk
  rw [MD_at, hf] at hv
  have e := held_inj hv
  subst e
  exact hrun
set_option maxRecDepth 100000 in
set_option maxHeartbeats 8000000 in
theorem dnodes_calls (w : World) (g : Gd) (B : Nat) (hB : B ≤ w.heap.size) (HG : Aside0 (GM w B g)) (hsm : Small g) : Calls Try.prog 16 #[.agg #[.slice g.rA g.rl g.rc, .slice g.nA g.nl g.nc]] w fun e W' => ∃ mb, e = .returned (.map (some mb)) ∧ W'.ownsMap Try.prog 3 nR mb 40 (OD g.NS (walkR g.NS g.R)) ∧ w.heap.size ≤ mb ∧ Below w.heap.size w W' := by
  have hlen := hsm.n40
  refine Di.calls_marks Try.func16 rfl ?_
  simp only [Try.ntmps16, List.size_toArray, List.length_cons, List.length_nil, Nat.reduceAdd, Nat.reduceSub, Array.replicate_succ, Array.replicate_zero, List.push_toArray, List.append_toArray, List.nil_append, List.cons_append]
  have HB := Aside0.mk (Below.refl w.heap.size w)
  go_upto_region 1 with ((with_reducible refine gate_dst (N := 1) rfl ?_); refine box_event ?hg (N := 1) ?hd (cs := #[.slice g.rA g.rl g.rc, .slice g.nA g.nl g.nc]) (t := 25) ?hr ?_; (case hd => rfl); (case hg => rfl); (case hr => first | (go_simp; done) | (go_simp; rfl)); intro g1 hg w1_ hbox hb; have n0_ := Aside0.mk (below_step (by repeat (first | (with_reducible first | exact HB.out | apply below_alloc | apply pw_below_drewN | apply below_drew1) | exact HB.out)) hb); have n1_ := Aside0.mk hbox; have n2_ := Aside0.mk ((by rw [hg]; exact (below_size (by repeat (first | (with_reducible first | exact HB.out | apply below_alloc | apply pw_below_drewN | apply below_drew1) | exact HB.out)))) : w.heap.size ≤ g1); clear HB; have HB := n0_; have BK1 := n1_; have GE1 := n2_; clear n0_ n1_ n2_; clear hb hbox hg)
  go_wp2
  rw [run_makeMap]
  obtain ⟨w2_, hw_⟩ : ∃ x, x = w1_.alloc (.map #[] 0) := ⟨_, rfl⟩
  obtain ⟨m1, hm_⟩ : ∃ x, x = w1_.heap.size := ⟨_, rfl⟩
  rw [← hw_, ← hm_]
  have hb : Below w1_.heap.size w1_ w2_ := by rw [hw_]; exact below_alloc (Below.refl _ _) _
  have n0_ := Aside0.mk (below_step (by repeat (first | (with_reducible first | exact HB.out | apply below_alloc | apply pw_below_drewN | apply below_drew1 | refine below_set ?_ GE1.out) | exact HB.out)) hb)
  have n1_ := Aside0.mk (blk_below (g := g1) (o := .cells #[.slice g.rA g.rl g.rc, .slice g.nA g.nl g.nc] 25 (0, 0)) (by (with_reducible repeat (first | refine blk_drewN ?_ _ | refine blk_drew ?_ | refine blk_alloc ?_ _)); exact BK1.out) hb)
  have n2_ := Aside0.mk (show (w2_).ownsMap Try.prog 3 nR m1 0 (.map []) from by rw [hw_, hm_]; exact World.ownsMap_made _ _ _ _)
  have GM1 := Aside0.mk (show w.heap.size ≤ m1 from by rw [hm_]; exact below_size HB.out)
  have NG1_1 := Aside0.mk (show g1 ≠ m1 from by rw [hm_]; exact Nat.ne_of_lt (blk_lt BK1.out))
  clear HB
  clear BK1
  have HB := n0_
  have BK1 := n1_
  have MP1 := n2_
  clear n0_ n1_ n2_
  clear hb hw_ hm_
  go_upto_region 2 with ((with_reducible refine gate_dst (N := 3) rfl ?_); refine box_event ?hg (N := 3) ?hd (cs := #[.map none]) (t := 46) ?hr ?_; (case hd => rfl); (case hg => rfl); (case hr => first | (go_simp; done) | (go_simp; rfl)); intro g3 hg w3_ hbox hb; have n0_ := Aside0.mk (below_step (by repeat (first | (with_reducible first | exact HB.out | apply below_alloc | apply pw_below_drewN | apply below_drew1 | refine below_set ?_ GE1.out) | exact HB.out)) hb); have n1_ := Aside0.mk (blk_below (g := g1) (o := .cells #[.slice g.rA g.rl g.rc, .slice g.nA g.nl g.nc] 25 (0, 0)) (by (with_reducible repeat (first | refine blk_drewN ?_ _ | refine blk_drew ?_ | refine blk_alloc ?_ _)); exact BK1.out) hb); have n2_ := Aside0.mk (owns_below (b := m1) (by (with_reducible repeat (first | refine owns_drewN ?_ _ | refine owns_drew ?_ | refine owns_alloc ?_ _)); exact MP1.out) hb); have n3_ := Aside0.mk hbox; have n4_ := Aside0.mk ((by rw [hg]; exact (below_size (by repeat (first | (with_reducible first | exact HB.out | apply below_alloc | apply pw_below_drewN | apply below_drew1 | refine below_set ?_ GE1.out) | exact HB.out)))) : w.heap.size ≤ g3); have n5_ := Aside0.mk ((by rw [hg]; exact Nat.ne_of_lt (blk_lt (g := g1) (o := .cells #[.slice g.rA g.rl g.rc, .slice g.nA g.nl g.nc] 25 (0, 0)) (by (with_reducible repeat (first | refine blk_drewN ?_ _ | refine blk_drew ?_ | refine blk_alloc ?_ _)); exact BK1.out))) : g1 ≠ g3); have n6_ := Aside0.mk ((by rw [hg]; exact Nat.ne_of_lt (World.ownsMap.lt (b := m1) (by (with_reducible repeat (first | refine owns_drewN ?_ _ | refine owns_drew ?_ | refine owns_alloc ?_ _)); exact MP1.out))) : m1 ≠ g3); clear HB; clear BK1; clear MP1; have HB := n0_; have BK1 := n1_; have MP1 := n2_; have BK3 := n3_; have GE3 := n4_; have NE1_3 := n5_; have NM1_3 := n6_; clear n0_ n1_ n2_ n3_ n4_ n5_ n6_; clear hb hbox hg; have hc3_0 : w3_.cell? ⟨g3, 0, none⟩ = some (.map none) := (blk_cell BK3.out 0).trans rfl; have hf3_0 := blk_frozen BK3.out 0)
  generalize hw_ : (w3_.setCell ⟨g3, 0, none⟩ (.map (some m1))) = w4_
  have n0_ := Aside0.mk (show Below w.heap.size w w4_ from by rw [← hw_]; exact (by repeat (first | (with_reducible first | exact HB.out | apply below_alloc | apply pw_below_drewN | apply below_drew1 | refine below_set ?_ GE1.out | refine below_set ?_ GE3.out) | exact HB.out)))
  have n1_ := Aside0.mk (show w4_.heap[g1]? = some (.cells #[.slice g.rA g.rl g.rc, .slice g.nA g.nl g.nc] 25 (0, 0)) from by rw [← hw_]; refine blk_far ?_ NE1_3.out _; exact BK1.out)
  have n2_ := Aside0.mk (show w4_.heap[g3]? = some (.cells #[.map (some m1)] 46 (0, 0)) from by rw [← hw_]; exact (by (with_reducible repeat (first | refine blk_drewN ?_ _ | refine blk_drew ?_ | refine blk_alloc ?_ _)); refine blk_put (cs := #[.map none]) ?_ 0 _ rfl; (with_reducible repeat (first | refine blk_drewN ?_ _ | refine blk_drew ?_ | refine blk_alloc ?_ _)); exact BK3.out))
  have n3_ := Aside0.mk (show (w4_).ownsMap Try.prog 3 nR m1 0 (.map []) from by rw [← hw_]; refine owns_far ?_ NM1_3.out _; exact MP1.out)
  clear HB
  clear BK1
  clear BK3
  clear MP1
  have HB := n0_
  have BK1 := n1_
  have BK3 := n2_
  have MP1 := n3_
  clear n0_ n1_ n2_ n3_
  clear hw_
  have hc1_0 : w4_.cell? ⟨g1, 0, none⟩ = some (.slice g.rA g.rl g.rc) := (blk_cell BK1.out 0).trans rfl
  have hf1_0 := blk_frozen BK1.out 0
  have hc1_1 : w4_.cell? ⟨g1, 1, none⟩ = some (.slice g.nA g.nl g.nc) := (blk_cell BK1.out 1).trans rfl
  have hf1_1 := blk_frozen BK1.out 1
  go_wp2_with ((with_reducible refine gate_callee (f := 33) rfl ?_); refine goesL_ (some 12) rfl rfl Try.func33 (by kernel_rfl) rfl #[.slice g.nA g.nl g.nc] rfl (by (try simp only [List.map_toArray, List.map_cons, List.map_nil]); first | done | rfl | (simp only [List.length_drop, List.length_take]; rfl)) ?_; (with_reducible refine (Di.back_calls _ g.nA g.nl g.nc).mono ?_); rintro e w5_ ⟨g9, rfl, hk9, hg9, hb⟩; refine ⟨_, rfl, ?_⟩; have HB0 := HB; have NG39 := Aside0.mk (show g3 ≠ g9 from Nat.ne_of_lt (Nat.lt_of_lt_of_le (blk_lt BK3.out) hg9)); have NM19 := Aside0.mk (show m1 ≠ g9 from Nat.ne_of_lt (Nat.lt_of_lt_of_le (World.ownsMap.lt MP1.out) hg9)); have n0_ := Aside0.mk (below_step (by repeat (first | (with_reducible first | exact HB.out | apply below_alloc | apply pw_below_drewN | apply below_drew1 | refine below_set ?_ GE1.out | refine below_set ?_ GE3.out) | exact HB.out)) hb); have n1_ := Aside0.mk (blk_below (g := g1) (o := .cells #[.slice g.rA g.rl g.rc, .slice g.nA g.nl g.nc] 25 (0, 0)) (by (with_reducible repeat (first | refine blk_drewN ?_ _ | refine blk_drew ?_ | refine blk_alloc ?_ _)); exact BK1.out) hb); have n2_ := Aside0.mk (blk_below (g := g3) (o := .cells #[.map (some m1)] 46 (0, 0)) (by (with_reducible repeat (first | refine blk_drewN ?_ _ | refine blk_drew ?_ | refine blk_alloc ?_ _)); exact BK3.out) hb); have n3_ := Aside0.mk (owns_below (b := m1) (by (with_reducible repeat (first | refine owns_drewN ?_ _ | refine owns_drew ?_ | refine owns_alloc ?_ _)); exact MP1.out) hb); clear HB; clear BK1; clear BK3; clear MP1; have HB := n0_; have BK1 := n1_; have BK3 := n2_; have MP1 := n3_; clear n0_ n1_ n2_ n3_; clear hb; have BK9 := Aside0.mk hk9; have GE9 := Aside0.mk (Nat.le_trans (below_size HB0.out) hg9); clear hk9 hg9)
  refine (wpIn_wide (n := 20)).1 ?_
  have hm1 := World.ownsMap.lt MP1.out
  have hg3l := blk_lt BK3.out
  have hg1l := blk_lt BK1.out
  have hg9l := blk_lt BK9.out
  have hbs := HB.out.size
  refine wpIn_rangeFunc_ownH rfl (by decide) (gf := 52) (lb := #[.pointer (some ⟨g9, 0, none⟩)]) rfl trivial (enters_of Try.func52 (by kernel_rfl) rfl) (back_stops 19 (by decide) g9 B g.nl g.nc g.nA g.NS hlen w5_ (Nat.le_trans hB hbs) BK9.out (HG.out.nds.kept (fun k hk => HB.out.block k (by omega))))
    KpB.t (fun W l o o' hl _ _ _ k hk => World.putObj_heap_other (by rcases hk with hk | hk <;> omega)) (Below.refl _ _) (fun _ => rfl)
    (fun pre W => W.ownsMap Try.prog 3 nR m1 pre.length (MDp g.NS pre) ∧ W.heap[g3]? = some (.cells #[.map (some m1)] 46 (0, 0)) ∧ W.heap[g1]? = some (.cells #[.slice g.rA g.rl g.rc, .slice g.nA g.nl g.nc] 25 (0, 0)) ∧ Below w.heap.size w W ∧ w5_.heap.size ≤ W.heap.size) (fun _ _ _ => False) ?hI (fun _ _ _ _ _ hs _ _ => hs.elim) ⟨MP1.out, BK3.out, BK1.out, HB.out, Nat.le_refl _⟩
    (fun x a' W => ∃ Bx, w5_.heap.size ≤ Bx ∧ W.heap[Bx]? = some (.cells #[.int .i64 (g.NS.getD x default).adr, .int .i64 (g.NS.getD x default).refs, .int .i64 (g.NS.getD x default).sl, .int .i64 (g.NS.getD x default).words, .slice (g.NS.getD x default).A (g.NS.getD x default).m (g.NS.getD x default).c, .slice (g.NS.getD x default).B (g.NS.getD x default).n (g.NS.getD x default).d] 40 (0, 0)) ∧ a' = { tmps := #[.agg #[.slice g.rA g.rl g.rc, .slice g.nA g.nl g.nc], .pointer (some ⟨g1, 0, none⟩), .map none, .pointer (some ⟨g3, 0, none⟩), undef, .pointer (some ⟨Bx, 0, none⟩), undef, undef, undef, .map (some m1), .pointer (some ⟨g1, 1, none⟩), .slice g.nA g.nl g.nc, .func (.func 52) #[] #[.pointer (some ⟨g9, 0, none⟩)], .int .i64 (x : Int), .agg #[.int .i64 (g.NS.getD x default).adr, .int .i64 (g.NS.getD x default).refs, .int .i64 (g.NS.getD x default).sl, .int .i64 (g.NS.getD x default).words, .slice (g.NS.getD x default).A (g.NS.getD x default).m (g.NS.getD x default).c, .slice (g.NS.getD x default).B (g.NS.getD x default).n (g.NS.getD x default).d], undef, undef, undef, undef, undef, undef, undef, undef, undef, undef, undef, undef, undef, undef, undef, undef, undef, undef, undef], defers := [] }) ?hAx ?assign ?body ?done ?stop
  case hI =>
    rintro s W W' row ⟨h1, h2, h3, h4, h5⟩ hg hr
    have hne : ∀ k, k < w5_.heap.size → some k ≠ row := fun k hk e => by have := (hr k e.symm).1; omega
    exact ⟨h1.kept hg (hne _ hm1), (hg.block _ (blk_lt h2) (hne _ hg3l)).trans h2, (hg.block _ (blk_lt h3) (hne _ hg1l)).trans h3, h4.grown hg h4.size (fun k e => by have := (hr k e).1; omega), Nat.le_trans h5 hg.size⟩
  case hAx =>
    rintro x a' s W W' row ⟨Bx, hB1, hB2, hB3⟩ hg hr
    refine ⟨Bx, hB1, (hg.block _ (blk_lt hB2) (fun e => ?_)).trans hB2, hB3⟩
    obtain ⟨_, o, ho, hc⟩ := hr Bx e.symm
    rw [hB2] at ho
    cases ho
    cases hc
  case assign =>
    rintro l pre x W K ⟨h1, h2, h3, h4, h5⟩ hK
    have hs := h4.size
    gi_wp2
    exact hK _ _ ((KeepsOthers.alloc _ _).from _) (fun k hk => Below.heap_alloc W _ k (by rcases hk with hk | hk <;> omega)) ⟨h1.alloc _, blk_alloc h2 _, blk_alloc h3 _, below_alloc h4 _, by rw [World.size_alloc]; omega⟩ ⟨W.heap.size, h5, blk_new W _, rfl⟩
  case body =>
    rintro l pre x a' W hl ⟨r, hr⟩ ⟨h1, h2, h3, h4, h5⟩ ⟨Bx, hB1, hB2, rfl⟩ hlt
    have hwf := ok_at HG.out.ok x
    rw [List.getD_eq_getElem?_getD] at hwf
    simp only [List.getD_eq_getElem?_getD] at hB2 ⊢
    obtain ⟨q, hq⟩ : ∃ q, q = g.NS[x]?.getD default := ⟨_, rfl⟩
    rw [← hq] at hB2 hwf ⊢
    have HQ := Aside0.mk hq
    clear hq
    have hc3 : W.cell? ⟨g3, 0, none⟩ = some (.map (some m1)) := (blk_cell h2 0).trans rfl
    have hz0 : W.cell? ⟨Bx, 0, none⟩ = some (.int .i64 q.adr) := (blk_cell hB2 0).trans rfl
    have hz1 : W.cell? ⟨Bx, 1, none⟩ = some (.int .i64 q.refs) := (blk_cell hB2 1).trans rfl
    have hz2 : W.cell? ⟨Bx, 2, none⟩ = some (.int .i64 q.sl) := (blk_cell hB2 2).trans rfl
    have hz3 : W.cell? ⟨Bx, 3, none⟩ = some (.int .i64 q.words) := (blk_cell hB2 3).trans rfl
    have hz4 : W.cell? ⟨Bx, 4, none⟩ = some (.slice q.A q.m q.c) := (blk_cell hB2 4).trans rfl
    have hz5 : W.cell? ⟨Bx, 5, none⟩ = some (.slice q.B q.n q.d) := (blk_cell hB2 5).trans rfl
    have hmx : pre.length < maxLen := by unfold maxLen; omega
    gi_wp2_with (gi_at_mapUpdate; refine wpListIn_mapUpdate_own _ rfl _ _ _ 46 rfl 3 40 Di.keyed3 Try.underlying46 nR m1 pre.length _ rfl h1 hmx _ _ _ rfl rfl (keyOf3 hwf) (.held q.val) [] rfl ?_; intro w1 hown1 hgr)
    have hGM := GM1.out
    have hne9 := NM19.out
    have hs := h4.size
    have hgb := fun k (hk : k < W.heap.size) (hn : k ≠ m1) => hgr.block k hk (by simpa using hn)
    exact ⟨KeepsFrom.of_grownBy hgr (fun j e => by cases e; exact hm1), fun k hk => hgb k (by rcases hk with hk | hk <;> omega) (by rcases hk with hk | hk <;> omega), by rw [List.length_append, MDp_snoc, List.getD_eq_getElem?_getD, ← HQ.out]; exact hown1, (hgb g3 (blk_lt h2) NM1_3.out.symm).trans h2, (hgb g1 (blk_lt h3) NG1_1.out).trans h3, h4.grown hgr h4.size (fun k e => by cases e; exact hGM), Nat.le_trans h5 hgr.size⟩
  case done =>
    rintro D ys W hD rfl ⟨h1, h2, h3, h4, h5⟩ hK
    have hl := HG.out.nds.1
    rw [← hl, MDp_all, rv_len] at h1
    have HK := Aside0.mk hK
    have hc3 : W.cell? ⟨g3, 0, none⟩ = some (.map (some m1)) := (blk_cell h2 0).trans rfl
    have hD40 := hsm.n40
    have HB := Aside0.mk h4
    have BK3 := Aside0.mk h2
    have BK1 := Aside0.mk h3
    have MP1 := Aside0.mk (h1.mono (show g.NS.length - 0 ≤ 40 by omega))
    have HDB := Aside0.mk (show w.heap.size ≤ D by omega)
    have HNM := Aside0.mk (show m1 ≠ D by omega)
    clear h1 h2 h3 h4 h5 hK
    go_wp2
    rw [run_makeMap]
    obtain ⟨w1_, hw_⟩ : ∃ x, x = W.alloc (.map #[] 0) := ⟨_, rfl⟩
    obtain ⟨m2, hm_⟩ : ∃ x, x = W.heap.size := ⟨_, rfl⟩
    rw [← hw_, ← hm_]
    have hb : Below W.heap.size W w1_ := by rw [hw_]; exact below_alloc (Below.refl _ _) _
    have n0_ := Aside0.mk (below_step (by repeat (first | (with_reducible first | exact HB.out | apply below_alloc | apply pw_below_drewN | apply below_drew1 | refine below_set ?_ GE3.out | refine below_set ?_ GE1.out) | exact HB.out)) hb)
    have n1_ := Aside0.mk (blk_below (g := g3) (o := .cells #[.map (some m1)] 46 (0, 0)) (by (with_reducible repeat (first | refine blk_drewN ?_ _ | refine blk_drew ?_ | refine blk_alloc ?_ _)); exact BK3.out) hb)
    have n2_ := Aside0.mk (blk_below (g := g1) (o := .cells #[.slice g.rA g.rl g.rc, .slice g.nA g.nl g.nc] 25 (0, 0)) (by (with_reducible repeat (first | refine blk_drewN ?_ _ | refine blk_drew ?_ | refine blk_alloc ?_ _)); exact BK1.out) hb)
    have n3_ := Aside0.mk (owns_below (b := m1) (by (with_reducible repeat (first | refine owns_drewN ?_ _ | refine owns_drew ?_ | refine owns_alloc ?_ _)); exact MP1.out) hb)
    have n4_ := Aside0.mk (blk_below (g := D) (o := .deferred (some [])) (by (with_reducible repeat (first | refine blk_drewN ?_ _ | refine blk_drew ?_ | refine blk_alloc ?_ _)); exact HK.out) hb)
    have n5_ := Aside0.mk (show (w1_).ownsMap Try.prog 3 nR m2 0 (.map []) from by rw [hw_, hm_]; exact World.ownsMap_made _ _ _ _)
    have GM2 := Aside0.mk (show w.heap.size ≤ m2 from by rw [hm_]; exact below_size HB.out)
    have NG3_2 := Aside0.mk (show g3 ≠ m2 from by rw [hm_]; exact Nat.ne_of_lt (blk_lt BK3.out))
    have NG1_2 := Aside0.mk (show g1 ≠ m2 from by rw [hm_]; exact Nat.ne_of_lt (blk_lt BK1.out))
    have NMM1_2 := Aside0.mk (show m1 ≠ m2 from by rw [hm_]; exact Nat.ne_of_lt (World.ownsMap.lt MP1.out))
    have NMD2 := Aside0.mk (show m2 ≠ D from by rw [hm_]; exact (Nat.ne_of_lt (blk_lt HK.out)).symm)
    clear HB
    clear BK3
    clear BK1
    clear MP1
    clear HK
    have HB := n0_
    have BK3 := n1_
    have BK1 := n2_
    have MP1 := n3_
    have HK := n4_
    have MP2 := n5_
    clear n0_ n1_ n2_ n3_ n4_ n5_
    clear hb hw_ hm_
    have hc1_0 : w1_.cell? ⟨g1, 0, none⟩ = some (.slice g.rA g.rl g.rc) := (blk_cell BK1.out 0).trans rfl
    have hf1_0 := blk_frozen BK1.out 0
    have hc1_1 : w1_.cell? ⟨g1, 1, none⟩ = some (.slice g.nA g.nl g.nc) := (blk_cell BK1.out 1).trans rfl
    have hf1_1 := blk_frozen BK1.out 1
    go_wp2_with ((with_reducible refine gate_callee (f := 34) rfl ?_); refine goesL_ (some 21) rfl rfl Try.func34 (by kernel_rfl) rfl #[.agg #[.slice g.rA g.rl g.rc, .slice g.nA g.nl g.nc]] rfl (by (try simp only [List.map_toArray, List.map_cons, List.map_nil]); first | done | rfl | (simp only [List.length_drop, List.length_take]; rfl)) ?_; (with_reducible refine (walk_calls _ g B (Nat.le_trans hB HB.out.size) (Aside0.mk (HG.out.kept (fun k hk => HB.out.block k (by omega)))) hsm).mono ?_); rintro e w2_ ⟨v21, rfl, hv21, hb⟩; refine ⟨_, rfl, ?_⟩; have HB0 := HB; have n0_ := Aside0.mk (below_step (by repeat (first | (with_reducible first | exact HB.out | apply below_alloc | apply pw_below_drewN | apply below_drew1 | refine below_set ?_ GE3.out | refine below_set ?_ GE1.out) | exact HB.out)) hb); have n1_ := Aside0.mk (blk_below (g := g3) (o := .cells #[.map (some m1)] 46 (0, 0)) (by (with_reducible repeat (first | refine blk_drewN ?_ _ | refine blk_drew ?_ | refine blk_alloc ?_ _)); exact BK3.out) hb); have n2_ := Aside0.mk (blk_below (g := g1) (o := .cells #[.slice g.rA g.rl g.rc, .slice g.nA g.nl g.nc] 25 (0, 0)) (by (with_reducible repeat (first | refine blk_drewN ?_ _ | refine blk_drew ?_ | refine blk_alloc ?_ _)); exact BK1.out) hb); have n3_ := Aside0.mk (owns_below (b := m1) (by (with_reducible repeat (first | refine owns_drewN ?_ _ | refine owns_drew ?_ | refine owns_alloc ?_ _)); exact MP1.out) hb); have n4_ := Aside0.mk (owns_below (b := m2) (by (with_reducible repeat (first | refine owns_drewN ?_ _ | refine owns_drew ?_ | refine owns_alloc ?_ _)); exact MP2.out) hb); have n5_ := Aside0.mk (blk_below (g := D) (o := .deferred (some [])) (by (with_reducible repeat (first | refine blk_drewN ?_ _ | refine blk_drew ?_ | refine blk_alloc ?_ _)); exact HK.out) hb); clear HB; clear BK3; clear BK1; clear MP1; clear MP2; clear HK; have HB := n0_; have BK3 := n1_; have BK1 := n2_; have MP1 := n3_; have MP2 := n4_; have HK := n5_; clear n0_ n1_ n2_ n3_ n4_ n5_; clear hb; obtain ⟨a21, c21, rfl, hl21⟩ := row_form hv21; have HV := Aside0.mk (Di.row_mono hv21 (below_size HB0.out)); clear hv21)
    obtain ⟨L, hL⟩ : ∃ L, L = walkR g.NS g.R := ⟨_, rfl⟩
    have hL40 : L.length ≤ 40 := by rw [hL]; exact walk_len (W := w) (B := B) hl hsm.n40
    rw [← hL] at HV ⊢
    have HL := Aside0.mk (show ∀ x ∈ L, ∃ k, find g.NS x = some k from fun x hx => walkR_find (by rw [← hL]; exact hx))
    have HLW := Aside0.mk hL
    clear hL hl21
    have HMM := NMM1_2
    have HN3 := NG3_2
    have HND2 := NMD2
    go_loopw [23] (fun v wr => ∃ j : Nat, j ≤ L.length ∧ v = .int .i64 (j : Int) ∧ Aside0 (wr.ownsMap Try.prog 3 nR m2 j (OD g.NS (L.take j))) ∧ Aside0 (wr.ownsMap Try.prog 3 nR m1 40 (MD g.NS)) ∧ Aside0 (wr.heap[g3]? = some (.cells #[.map (some m1)] 46 (0, 0))) ∧ Aside0 (wr.ownsRow w.heap.size 3 1 (.slice a21 L.length c21) L.length (L.map (Value.int .i64))) ∧ Aside0 (wr.heap[D]? = some (.deferred (some []))) ∧ Aside0 (Below w.heap.size w wr)) (fun v _ => L.length - (intOf v).toNat)
    case atStart => exact ⟨0, by omega, rfl, MP2, MP1, BK3, HV, HK, HB⟩
    case round =>
      clear HB BK1 BK3 MP1 MP2 HV HK
      obtain ⟨j, hj, rfl, M2, M1, BK3, HV, HK, HB⟩ := hrel
      by_cases hgo : j < L.length
      · have hd : decide ((j : Int) < (L.length : Int)) = true := decide_eq_true (by omega)
        obtain ⟨y, e, hyc⟩ := row_cell HV.out j hgo
        subst e
        obtain ⟨x, hx_⟩ : ∃ x, x = L.getD j 0 := ⟨_, rfl⟩
        rw [← hx_] at hyc
        have hxm : x ∈ L := by rw [hx_, List.getD_eq_getElem?_getD, List.getElem?_eq_getElem hgo]; exact List.getElem_mem hgo
        obtain ⟨k, hk⟩ := HL.out x hxm
        have hwf : (Lit.int .i64 x).wf = true := by rw [← find_adr hk]; exact HG.out.ok k (find_mem hk)
        have hlk := look_val M1.out hwf hk
        have HX := Aside0.mk hx_
        have HK2 := Aside0.mk hk
        have HWF := Aside0.mk hwf
        clear hx_ hk hwf hxm
        have hc3 : wr.cell? ⟨g3, 0, none⟩ = some (.map (some m1)) := (blk_cell BK3.out 0).trans rfl
        have hj0 : (0 : Int) ≤ (j : Int) := by omega
        have hj1 : (j : Int) < (L.length : Int) := by omega
        have hmx : j < maxLen := by unfold maxLen; omega
        go_wp2_with (at_mapUpdate; refine wpList_mapUpdate_own _ rfl _ _ _ 46 rfl 3 40 Di.keyed3 Try.underlying46 nR m2 j _ rfl M2.out hmx _ _ _ rfl rfl (keyOf3 HWF.out) (.held k.val) [] rfl ?_; intro w9 hown9 hg9; have M2' := Aside0.mk hown9; have HG9 := Aside0.mk hg9; clear hown9 hg9)
        have hgm := GM2.out
        refine ⟨⟨j + 1, by omega, by push_cast; rfl, Aside0.mk (by rw [take_snoc hgo, OD_snoc, ← HX.out, HK2.out]; exact M2'.out), Aside0.mk (M1.out.kept HG9.out (by simpa using HMM.out)), Aside0.mk ((HG9.out.block g3 (blk_lt BK3.out) (by simpa using HN3.out)).trans BK3.out), Aside0.mk (row_map HV.out M2.out HG9.out), Aside0.mk ((HG9.out.block D (blk_lt HK.out) (by simpa using HND2.out.symm)).trans HK.out), Aside0.mk (HB.out.grown HG9.out HB.out.size (fun k e => by cases e; exact hgm))⟩, ?_⟩
        show L.length - ((j : Int) + 1).toNat < L.length - (j : Int).toNat
        omega
      · obtain rfl : j = L.length := by omega
        have hd : decide ((L.length : Int) < (L.length : Int)) = false := decide_eq_false (by omega)
        have M3 := Aside0.mk (show wr.ownsMap Try.prog 3 nR m2 40 (OD g.NS (walkR g.NS g.R)) by rw [← HLW.out]; have := M2.out; rw [List.take_of_length_le (Nat.le_refl _)] at this; exact this.mono hL40)
        clear M2
        go_wp2
        refine ⟨by simp, .inl ⟨_, _, rfl, run_takeDeferred HK.out, ?_⟩⟩
        exact ⟨_, results_tmp rfl _ _ _, m2, rfl, owns_put M3.out HND2.out _, GM2.out, HB.out.trans (belowK_b (w := w) (Nat.le_refl _) _ D _ _ HDB.out HK.out rfl rfl)⟩
  case stop => exact fun D c pre W _ _ h => h.elim
end Go.Proofs.Ytekggbmajemmhaa.Gr
