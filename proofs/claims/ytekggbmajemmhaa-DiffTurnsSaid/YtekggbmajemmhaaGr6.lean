/- Diff: graph.Walk's closure, by induction on how many places are left. Conditions: the graph lies in memory; at most 40 nodes, of at most 300 slots. -/
import Derived.Test.YtekggbmajemmhaaGr5
namespace Go.Proofs.Ytekggbmajemmhaa.Gr
open Go.RowKit Go.Shelf Go.Maps Go.ChangeMaps Go.MapKept Go.Proofs.YtekggbmajemmhaaW.PrintWords Go.Proofs.YtekggbmajemmhaaW.PrintLast Go.Proofs.YtekggbmajemmhaaW.PrintMore
set_option linter.unusedSimpArgs false
set_option linter.unusedVariables false
theorem stepR_ext (NS : List Nd) (f : Nat) (s : List Int) (x : Int) : ∃ t, stepR NS f s x = s ++ t := by
  unfold stepR
  cases hf : find NS x with
  | none => exact ⟨[], by simp⟩
  | some n =>
    by_cases hx : x ∈ s
    · exact ⟨[], by simp [hx]⟩
    · obtain ⟨t, e, _⟩ := visitR_ext NS f (s ++ [x]) n.S
      exact ⟨[x] ++ t, by simp [hx, e]⟩
theorem visitR_cnt (NS : List Nd) (N : Nat) : ∀ (f : Nat) (s l : List Int), s.length + left NS s ≤ N → (visitR NS f s l).length + left NS (visitR NS f s l) ≤ N
  | 0, s, l, h => h
  | f + 1, s, l, h => by
    rw [visitR_eq]
    induction l generalizing s with
    | nil => exact h
    | cons x l ih =>
      rw [List.foldl_cons]
      refine ih _ ?_
      unfold stepR
      cases hf : find NS x with
      | none => exact h
      | some n =>
        by_cases hx : x ∈ s
        · simpa [hx] using h
        · simp only [hx, if_false]
          refine visitR_cnt NS N f _ _ ?_
          have := left_lt hf hx
          rw [List.length_append, List.length_singleton]
          omega
theorem visitR_left (NS : List Nd) (f : Nat) (s l : List Int) : left NS (visitR NS f s l) ≤ left NS s := by
  obtain ⟨t, e, _⟩ := visitR_ext NS f s l
  rw [e]
  exact left_sub fun x hx => List.mem_append_left _ hx
theorem take_snoc {l : List Int} {j : Nat} (h : j < l.length) : l.take (j + 1) = l.take j ++ [l.getD j 0] := by
  rw [List.take_succ_eq_append_getElem h, List.getD_eq_getElem?_getD, List.getElem?_eq_getElem h]
  rfl
theorem info3 : (Try.prog.info? 3).map (fun i => (i.zero, i.size, i.bytes)) = some (some (.int .i64 0), 1, 8) := by kernel_rfl
theorem look_none {W : World} {b n : Nat} {L : List Nd} (h : W.ownsMap Try.prog 3 nR b n (MD L)) {x : Int} (hk : (Lit.int .i64 x).wf = true) (hf : find L x = none) : (Instr.lookup 46 (.map (some b)) (.int .i64 x) true).run Try.prog W = .ok (.tuple #[.agg #[.int .i64 0, .int .i64 0, .int .i64 0, .int .i64 0, .slice none 0 0, .slice none 0 0], .bool false]) W := by
  have := look_node h hk
  rw [hf] at this
  exact this
theorem look_some {W : World} {b n : Nat} {L : List Nd} (h : W.ownsMap Try.prog 3 nR b n (MD L)) {x : Int} (hk : (Lit.int .i64 x).wf = true) {k : Nd} (hf : find L x = some k) : (Instr.lookup 46 (.map (some b)) (.int .i64 x) true).run Try.prog W = .ok (.tuple #[.agg #[.int .i64 k.adr, .int .i64 k.refs, .int .i64 k.sl, .int .i64 k.words, .slice k.A k.m k.c, .slice k.B k.n k.d], .bool true]) W := by
  have := look_node h hk
  rw [hf] at this
  exact this
theorem seen_yes {W : World} {b n : Nat} {s : List Int} (h : W.ownsMap Try.prog 3 (plainElem Try.prog 4) b n (SD s)) {x : Int} (hk : (Lit.int .i64 x).wf = true) (hx : x ∈ s) : (Instr.lookup 90 (.map (some b)) (.int .i64 x) false).run Try.prog W = .ok (.bool true) W := by
  have := look_seen h hk
  rw [decide_eq_true hx] at this
  exact this
theorem seen_no {W : World} {b n : Nat} {s : List Int} (h : W.ownsMap Try.prog 3 (plainElem Try.prog 4) b n (SD s)) {x : Int} (hk : (Lit.int .i64 x).wf = true) (hx : x ∉ s) : (Instr.lookup 90 (.map (some b)) (.int .i64 x) false).run Try.prog W = .ok (.bool false) W := by
  have := look_seen h hk
  rw [decide_eq_false hx] at this
  exact this
set_option maxHeartbeats 8000000 in
set_option maxRecDepth 100000 in
theorem visit_calls (q : Vx) (g : Gd) (hsz : ∀ n ∈ g.NS, n.m ≤ 300 ∧ n.n ≤ 300) (hNS : g.NS.length ≤ 40) : ∀ (f : Nat) (W : World) (s l : List Int) (A : Option Addr) (m c : Nat) (HS : Aside0 (VS W q g s s)) (HL : Aside0 (IL .i64 W q.B A m l)) (hm : m ≤ 300) (hwl : Aside0 (∀ x ∈ l, (Lit.int .i64 x).wf = true)) (HF : Aside0 (left g.NS s < f)) (HC : Aside0 (s.length + left g.NS s ≤ g.NS.length)),
    Calls Try.prog 54 #[.slice A m c, .pointer (some ⟨q.b3, 0, none⟩), .pointer (some ⟨q.b5, 0, none⟩), .pointer (some ⟨q.b4, 0, none⟩), .pointer (some ⟨q.b6, 0, none⟩)] W fun e W' => (∃ v, e = .returned v) ∧ VS W' q g (visitR g.NS f s l) (visitR g.NS f s l) ∧ Below q.X W W' := by
  intro f
  induction f with
  | zero => intro W s l A m c HS HL hm hwl HF HC; exact absurd HF.out (by omega)
  | succ f ih =>
    intro W s l A m c HS HL hm hwl HF HC
    have IH := Aside0.mk ih
    clear ih
    obtain ⟨i0, hi, hz0, hz1, hz2⟩ := info_parts info3
    go_enter Try.func54, Try.ntmps54
    go_wp2
    go_loopw [12] (fun v wr => ∃ (j : Nat) (s' : List Int), j ≤ m ∧ v = .int .i64 (j : Int) ∧ Aside0 (s' = (l.take j).foldl (stepR g.NS f) s) ∧ Aside0 (VS wr q g s' s') ∧ Aside0 (Below q.X W wr) ∧ Aside0 (s'.length + left g.NS s' ≤ g.NS.length ∧ left g.NS s' ≤ left g.NS s)) (fun v _ => m - (intOf v).toNat)
    case atStart => exact ⟨0, s, by omega, rfl, Aside0.mk rfl, HS, Aside0.mk (Below.refl _ _), Aside0.mk ⟨HC.out, Nat.le_refl _⟩⟩
    case round =>
      have HGE := Aside0.mk HS.out.ge
      clear HS HC
      obtain ⟨j, s', hj, rfl, HE, HS, HBB, HC⟩ := hrel
      by_cases hgo : j < m
      · have hd : decide ((j : Int) < (m : Int)) = true := decide_eq_true (by omega)
        have hll : l.length = m := HL.out.1
        obtain ⟨y, e, hyb, hyc⟩ := (HL.out.kept (fun k hk => HBB.out.block k (by have := HGE.out; omega))).2 j hgo
        subst e
        obtain ⟨x, hx_⟩ : ∃ x, x = l.getD j 0 := ⟨_, rfl⟩
        rw [← hx_] at hyc
        have HX := Aside0.mk hx_
        have hwf : (Lit.int .i64 x).wf = true := by
          rw [hx_, List.getD_eq_getElem?_getD, List.getElem?_eq_getElem (by omega)]
          exact hwl.out _ (List.getElem_mem (by omega))
        clear hx_
        have HWF := Aside0.mk hwf
        clear hwf
        have hj0 : (0 : Int) ≤ (j : Int) := by omega
        have hj1 : (j : Int) < (m : Int) := by omega
        have hc3 : wr.cell? ⟨q.b3, 0, none⟩ = some (.map (some q.mb)) := (blk_cell HS.out.by_ 0).trans rfl
        have HB := Aside0.mk (Below.refl wr.heap.size wr)
        cases hf : find g.NS x with
        | none =>
          have hlk := look_none HS.out.mp HWF.out hf
          have HFN := Aside0.mk hf
          clear hf
          go_upto_region 4 with ((with_reducible refine gate_dst (N := 8) rfl ?_); refine box_event ?hg (N := 8) ?hd (cs := #[.int .i64 0, .int .i64 0, .int .i64 0, .int .i64 0, .slice none 0 0, .slice none 0 0]) (t := 40) ?hr ?_; (case hd => rfl); (case hg => rfl); (case hr => first | (go_simp; done) | (go_simp; rfl)); intro g8 hg w1_ hbox hb; have n0_ := Aside0.mk (below_step (by repeat (first | (with_reducible first | exact HB.out | apply below_alloc | apply pw_below_drewN | apply below_drew1) | exact HB.out)) hb); have n1_ := Aside0.mk hbox; have n2_ := Aside0.mk ((by rw [hg]; exact (below_size (by repeat (first | (with_reducible first | exact HB.out | apply below_alloc | apply pw_below_drewN | apply below_drew1) | exact HB.out)))) : wr.heap.size ≤ g8); clear HB; have HB := n0_; have BK8 := n1_; have GE8 := n2_; clear n0_ n1_ n2_; clear hb hbox hg; have hc8_0 : w1_.cell? ⟨g8, 0, none⟩ = some (.int .i64 0) := (blk_cell BK8.out 0).trans rfl; have hf8_0 := blk_frozen BK8.out 0; have hc8_1 : w1_.cell? ⟨g8, 1, none⟩ = some (.int .i64 0) := (blk_cell BK8.out 1).trans rfl; have hf8_1 := blk_frozen BK8.out 1; have hc8_2 : w1_.cell? ⟨g8, 2, none⟩ = some (.int .i64 0) := (blk_cell BK8.out 2).trans rfl; have hf8_2 := blk_frozen BK8.out 2; have hc8_3 : w1_.cell? ⟨g8, 3, none⟩ = some (.int .i64 0) := (blk_cell BK8.out 3).trans rfl; have hf8_3 := blk_frozen BK8.out 3; have hc8_4 : w1_.cell? ⟨g8, 4, none⟩ = some (.slice none 0 0) := (blk_cell BK8.out 4).trans rfl; have hf8_4 := blk_frozen BK8.out 4; have hc8_5 : w1_.cell? ⟨g8, 5, none⟩ = some (.slice none 0 0) := (blk_cell BK8.out 5).trans rfl; have hf8_5 := blk_frozen BK8.out 5)
          go_wp2
          refine ⟨⟨j + 1, s', by omega, by push_cast; rfl, Aside0.mk (by rw [take_snoc (by omega), List.foldl_append, ← HE.out]; show s' = stepR g.NS f s' (l.getD j 0); rw [← HX.out]; unfold stepR; rw [HFN.out]), Aside0.mk (HS.out.below (by repeat (first | (with_reducible first | exact HB.out | apply below_alloc | apply pw_below_drewN | apply below_drew1 | refine below_set ?_ GE8.out) | exact HB.out))), Aside0.mk (HBB.out.trans ((show Below wr.heap.size wr _ from (by repeat (first | (with_reducible first | exact HB.out | apply below_alloc | apply pw_below_drewN | apply below_drew1 | refine below_set ?_ GE8.out) | exact HB.out))).mono (by have := HGE.out; have := HBB.out.size; omega))), HC⟩, ?_⟩
          show m - ((j : Int) + 1).toNat < m - (j : Int).toNat
          omega
        | some k =>
          have hlk := look_some HS.out.mp HWF.out hf
          have HFN := Aside0.mk hf
          clear hf
          go_upto_region 4 with ((with_reducible refine gate_dst (N := 8) rfl ?_); refine box_event ?hg (N := 8) ?hd (cs := #[.int .i64 0, .int .i64 0, .int .i64 0, .int .i64 0, .slice none 0 0, .slice none 0 0]) (t := 40) ?hr ?_; (case hd => rfl); (case hg => rfl); (case hr => first | (go_simp; done) | (go_simp; rfl)); intro g8 hg w1_ hbox hb; have n0_ := Aside0.mk (below_step (by repeat (first | (with_reducible first | exact HB.out | apply below_alloc | apply pw_below_drewN | apply below_drew1) | exact HB.out)) hb); have n1_ := Aside0.mk hbox; have n2_ := Aside0.mk ((by rw [hg]; exact (below_size (by repeat (first | (with_reducible first | exact HB.out | apply below_alloc | apply pw_below_drewN | apply below_drew1) | exact HB.out)))) : wr.heap.size ≤ g8); clear HB; have HB := n0_; have BK8 := n1_; have GE8 := n2_; clear n0_ n1_ n2_; clear hb hbox hg; have hc8_0 : w1_.cell? ⟨g8, 0, none⟩ = some (.int .i64 0) := (blk_cell BK8.out 0).trans rfl; have hf8_0 := blk_frozen BK8.out 0; have hc8_1 : w1_.cell? ⟨g8, 1, none⟩ = some (.int .i64 0) := (blk_cell BK8.out 1).trans rfl; have hf8_1 := blk_frozen BK8.out 1; have hc8_2 : w1_.cell? ⟨g8, 2, none⟩ = some (.int .i64 0) := (blk_cell BK8.out 2).trans rfl; have hf8_2 := blk_frozen BK8.out 2; have hc8_3 : w1_.cell? ⟨g8, 3, none⟩ = some (.int .i64 0) := (blk_cell BK8.out 3).trans rfl; have hf8_3 := blk_frozen BK8.out 3; have hc8_4 : w1_.cell? ⟨g8, 4, none⟩ = some (.slice none 0 0) := (blk_cell BK8.out 4).trans rfl; have hf8_4 := blk_frozen BK8.out 4; have hc8_5 : w1_.cell? ⟨g8, 5, none⟩ = some (.slice none 0 0) := (blk_cell BK8.out 5).trans rfl; have hf8_5 := blk_frozen BK8.out 5)
          generalize hw_ : ((((((w1_.setCell ⟨g8, 0, none⟩ (.int .i64 k.adr)).setCell ⟨g8, 1, none⟩ (.int .i64 k.refs)).setCell ⟨g8, 2, none⟩ (.int .i64 k.sl)).setCell ⟨g8, 3, none⟩ (.int .i64 k.words)).setCell ⟨g8, 4, none⟩ (.slice k.A k.m k.c)).setCell ⟨g8, 5, none⟩ (.slice k.B k.n k.d)) = w2_
          have n0_ := Aside0.mk (show Below wr.heap.size wr w2_ from by rw [← hw_]; exact (by repeat (first | (with_reducible first | exact HB.out | apply below_alloc | apply pw_below_drewN | apply below_drew1 | refine below_set ?_ GE8.out) | exact HB.out)))
          have n1_ := Aside0.mk (show w2_.heap[g8]? = some (.cells #[.int .i64 k.adr, .int .i64 k.refs, .int .i64 k.sl, .int .i64 k.words, .slice k.A k.m k.c, .slice k.B k.n k.d] 40 (0, 0)) from by rw [← hw_]; exact (by (with_reducible repeat (first | refine blk_drewN ?_ _ | refine blk_drew ?_ | refine blk_alloc ?_ _)); refine blk_put (cs := #[.int .i64 k.adr, .int .i64 k.refs, .int .i64 k.sl, .int .i64 k.words, .slice k.A k.m k.c, .slice none 0 0]) ?_ 5 _ rfl; (with_reducible repeat (first | refine blk_drewN ?_ _ | refine blk_drew ?_ | refine blk_alloc ?_ _)); refine blk_put (cs := #[.int .i64 k.adr, .int .i64 k.refs, .int .i64 k.sl, .int .i64 k.words, .slice none 0 0, .slice none 0 0]) ?_ 4 _ rfl; (with_reducible repeat (first | refine blk_drewN ?_ _ | refine blk_drew ?_ | refine blk_alloc ?_ _)); refine blk_put (cs := #[.int .i64 k.adr, .int .i64 k.refs, .int .i64 k.sl, .int .i64 0, .slice none 0 0, .slice none 0 0]) ?_ 3 _ rfl; (with_reducible repeat (first | refine blk_drewN ?_ _ | refine blk_drew ?_ | refine blk_alloc ?_ _)); refine blk_put (cs := #[.int .i64 k.adr, .int .i64 k.refs, .int .i64 0, .int .i64 0, .slice none 0 0, .slice none 0 0]) ?_ 2 _ rfl; (with_reducible repeat (first | refine blk_drewN ?_ _ | refine blk_drew ?_ | refine blk_alloc ?_ _)); refine blk_put (cs := #[.int .i64 k.adr, .int .i64 0, .int .i64 0, .int .i64 0, .slice none 0 0, .slice none 0 0]) ?_ 1 _ rfl; (with_reducible repeat (first | refine blk_drewN ?_ _ | refine blk_drew ?_ | refine blk_alloc ?_ _)); refine blk_put (cs := #[.int .i64 0, .int .i64 0, .int .i64 0, .int .i64 0, .slice none 0 0, .slice none 0 0]) ?_ 0 _ rfl; (with_reducible repeat (first | refine blk_drewN ?_ _ | refine blk_drew ?_ | refine blk_alloc ?_ _)); exact BK8.out))
          clear HB
          clear BK8
          have HB := n0_
          have BK8 := n1_
          clear n0_ n1_
          clear hw_
          have hc8_0 : w2_.cell? ⟨g8, 0, none⟩ = some (.int .i64 k.adr) := (blk_cell BK8.out 0).trans rfl
          have hf8_0 := blk_frozen BK8.out 0
          have hc8_1 : w2_.cell? ⟨g8, 1, none⟩ = some (.int .i64 k.refs) := (blk_cell BK8.out 1).trans rfl
          have hf8_1 := blk_frozen BK8.out 1
          have hc8_2 : w2_.cell? ⟨g8, 2, none⟩ = some (.int .i64 k.sl) := (blk_cell BK8.out 2).trans rfl
          have hf8_2 := blk_frozen BK8.out 2
          have hc8_3 : w2_.cell? ⟨g8, 3, none⟩ = some (.int .i64 k.words) := (blk_cell BK8.out 3).trans rfl
          have hf8_3 := blk_frozen BK8.out 3
          have hc8_4 : w2_.cell? ⟨g8, 4, none⟩ = some (.slice k.A k.m k.c) := (blk_cell BK8.out 4).trans rfl
          have hf8_4 := blk_frozen BK8.out 4
          have hc8_5 : w2_.cell? ⟨g8, 5, none⟩ = some (.slice k.B k.n k.d) := (blk_cell BK8.out 5).trans rfl
          have hf8_5 := blk_frozen BK8.out 5
          have HS2 := Aside0.mk (HS.out.below HB.out)
          have HB2 := Aside0.mk (HBB.out.trans (HB.out.mono (by have := HGE.out; have := HBB.out.size; omega)))
          have hc5 : w2_.cell? ⟨q.b5, 0, none⟩ = some (.map (some q.ms)) := (blk_cell HS2.out.sb 0).trans rfl
          by_cases hin : x ∈ s'
          · have hsk := seen_yes HS2.out.sm HWF.out hin
            have HIN := Aside0.mk hin
            clear hin
            go_wp2
            refine ⟨⟨j + 1, s', by omega, by push_cast; rfl, Aside0.mk (by rw [take_snoc (by omega), List.foldl_append, ← HE.out]; show s' = stepR g.NS f s' (l.getD j 0); rw [← HX.out]; unfold stepR; rw [HFN.out]; simp [HIN.out]), Aside0.mk HS2.out, Aside0.mk HB2.out, HC⟩, ?_⟩
            show m - ((j : Int) + 1).toNat < m - (j : Int).toNat
            omega
          · have hsk := seen_no HS2.out.sm HWF.out hin
            have HIN := Aside0.mk hin
            clear hin
            have hmx : s'.length < maxLen := by unfold maxLen; have := HC.out; omega
            have hs40 : s'.length ≤ 40 := by have := HC.out; omega
            go_upto_region 6 with (at_mapUpdate; refine wpList_mapUpdate_own _ rfl _ _ _ 90 rfl 3 4 Di.keyed3 Try.underlying90 (plainElem Try.prog 4) q.ms s'.length _ rfl HS2.out.sm hmx _ _ _ rfl rfl (keyOf3 HWF.out) (.lit (.bool true)) [] (plainElem_bool Try.underlying4 true) ?_; intro w3 hown3 hg3)
            obtain ⟨hs3, hb3⟩ := HS2.out.seen hg3 hown3
            have BK8' := Aside0.mk ((hg3.block _ (blk_lt BK8.out) (by simpa using map_ne_cells HS2.out.sm BK8.out)).trans BK8.out)
            have HS3 := Aside0.mk hs3
            have HB3 := Aside0.mk (HB2.out.trans hb3)
            clear hg3 hown3 hs3 hb3
            obtain ⟨v, hv1, hv2⟩ := HS3.out.out
            have hc4 : w3.cell? ⟨q.b4, 0, none⟩ = some v := (blk_cell hv1 0).trans rfl
            have HV1 := Aside0.mk hv1
            have HV2 := Aside0.mk hv2
            clear hv1 hv2
            have hX3 := HS3.out.ge.2.2.2.2.2.2.2
            go_upto_region 7 with (at_builtin; refine wpList_append_own _ rfl (.tmp 31) (.tmp 33) 22 rfl q.X 3 i0 (.int .i64 0) 1 8 Try.underlying22 hi hz0 hz1 hz2 rfl (by decide) v s'.length (s'.map (Value.int .i64)) rfl (HV2.out.alloc _) ⟨w3.heap.size, 0, none⟩ 1 1 [.int .i64 x] rfl rfl (cell_one_new _ _ _) (by simp [Value.oneCell']) (by unfold maxLen; omega) (by omega) (by rw [World.size_alloc]; omega) ?_; intro v' w5 hown' hgrow _; obtain ⟨g', cap', rfl⟩ := ownsRow_succ hown'; obtain ⟨h54, hs6, hb6, hcs6⟩ := HS3.out.push HV1.out HV2.out hown' hgrow; have BK8w := Aside0.mk (hcs6 BK8'.out (by decide) (by decide)); have HS6 := Aside0.mk hs6; have HB6 := Aside0.mk (HB3.out.trans hb6); have hc54 := (blk_cell h54 0).trans rfl; have hf54 := blk_frozen h54 0; clear hs6 hb6 hcs6 h54 hown' hgrow)
            generalize hw_ : w5.setCell ⟨q.b4, 0, none⟩ (.slice (some ⟨g', 0, none⟩) (s'.length + 1) cap') = w6 at BK8w HS6 HB6 ⊢
            clear hw_ hc54 hf54 HV1 HV2 hc4
            have hc6 : w6.cell? ⟨q.b6, 0, none⟩ = some (.func (.func 54) #[] #[.pointer (some ⟨q.b3, 0, none⟩), .pointer (some ⟨q.b5, 0, none⟩), .pointer (some ⟨q.b4, 0, none⟩), .pointer (some ⟨q.b6, 0, none⟩)]) := (blk_cell HS6.out.vb 0).trans rfl
            have hc84 : w6.cell? ⟨g8, 4, none⟩ = some (.slice k.A k.m k.c) := (blk_cell BK8w.out 4).trans rfl
            have hmem := find_mem HFN.out
            have hkm := (hsz k hmem).1
            have HKL := Aside0.mk (HS6.out.gm.sub k hmem).1
            have HKW := Aside0.mk (HS6.out.gm.sok k hmem)
            have hlt := left_lt HFN.out HIN.out
            have HLF := Aside0.mk (show left g.NS (s' ++ [x]) < f by have := HF.out; have := HC.out; omega)
            have HCN := Aside0.mk (show (s' ++ [x]).length + left g.NS (s' ++ [x]) ≤ g.NS.length by have := HC.out; rw [List.length_append, List.length_singleton]; omega)
            have HLL := Aside0.mk (show left g.NS (visitR g.NS f (s' ++ [x]) k.S) ≤ left g.NS s by have := visitR_left g.NS f (s' ++ [x]) k.S; have := HC.out; omega)
            clear hlt hmem
            go_wp2_with (go_at_call 54; refine (IH.out w6 (s' ++ [x]) k.S k.A k.m k.c HS6 HKL hkm HKW HLF HCN).mono ?_; rintro e w7 ⟨⟨vv, rfl⟩, hs7, hb7⟩; have HS7 := Aside0.mk hs7; have HB7 := Aside0.mk (HB6.out.trans hb7); clear hs7 hb7)
            refine ⟨⟨j + 1, visitR g.NS f (s' ++ [x]) k.S, by omega, by push_cast; rfl, Aside0.mk (by rw [take_snoc (by omega), List.foldl_append, ← HE.out]; show _ = stepR g.NS f s' (l.getD j 0); rw [← HX.out]; unfold stepR; rw [HFN.out]; simp [HIN.out]), HS7, HB7, Aside0.mk ⟨visitR_cnt _ _ _ _ _ HCN.out, HLL.out⟩⟩, ?_⟩
            show m - ((j : Int) + 1).toNat < m - (j : Int).toNat
            omega
      · obtain rfl : j = m := by omega
        have hd : decide ((j : Int) < (j : Int)) = false := decide_eq_false (by omega)
        go_wp2
        go_end0
        have hll : l.length = j := HL.out.1
        refine ⟨⟨_, rfl⟩, ?_, HBB.out⟩
        rw [visitR_eq, show l = l.take j by rw [List.take_of_length_le (by omega)], ← HE.out]
        exact HS.out
end Go.Proofs.Ytekggbmajemmhaa.Gr
