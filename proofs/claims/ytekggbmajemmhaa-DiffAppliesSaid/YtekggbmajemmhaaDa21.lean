/- Parts of one proof, set together: Ap23. What each says stands at its head; no condition beyond theirs. -/
import Derived.Test.YtekggbmajemmhaaDa20
/- DiffApplies' walk. Condition: the graph and the changes lie in memory ahead of the walk. -/
namespace Go.Proofs.Ytekggbmajemmhaa.Di
open Go.ChangeShapes Go.WideShapes Go.ChangeAt Go.RowKit Go.Deep Go.Joins Go.Proofs.YtekggbmajemmhaaW.PrintWords
theorem open_changesW {H : Type} {enc : TypeId × Value → H} {P : Program} {w : World} {t e : TypeId} {f0 f1 f2 f3 f4 : Field} {fuel : Nat} {a : Option Addr} {len cap : Nat} {x : DataW H × List MemPlace} (ht : P.underlying t = some (.slice e)) (he : P.underlying e = some (.struct #[f0, f1, f2, f3, f4]))
    (ce : P.cellsOf e = 5) (o0 : f0.offset = 0) (o1 : f1.offset = 1) (o2 : f2.offset = 2) (o3 : f3.offset = 3) (o4 : f4.offset = 4) (c0 : P.cellsOf f0.type = 1) (c1 : P.cellsOf f1.type = 1) (c2 : P.cellsOf f2.type = 1) (c3 : P.cellsOf f3.type = 1) (c4 : P.cellsOf f4.type = 1) (t0 : P.underlying f0.type = some (.int .i64)) (t1 : P.underlying f1.type = some (.int .i64)) (t2 : P.underlying f2.type = some (.int .i64)) (t3 : P.underlying f3.type = some (.int .u64)) (t4 : P.underlying f4.type = some (.int .u64))
    (h : DataW.trod enc P w 0 (fun _ => true) true fuel t [.slice a len cap] = some x) :
    (∃ l : List Gr.Ch, Gr.CM w w.heap.size a len l ∧ Gr.CW l) ∧ len ≤ 9223372036854775807 := by
  rcases open_slice ht h with ⟨hcs, _⟩ | ⟨y, l, c, m, n, D, Pl, hcs, hb, hl, hm, hmm, rfl, hx⟩
  · simp at hcs
    obtain ⟨rfl, rfl, rfl⟩ := hcs
    exact ⟨⟨[], ⟨rfl, fun i hi => absurd hi (by omega)⟩, fun c hc => by cases hc⟩, by omega⟩
  · simp at hcs
    obtain ⟨rfl, rfl, rfl⟩ := hcs
    refine ⟨?_, by unfold maxLen at hm; omega⟩
    have each : ∀ i, i < len → ∃ q : Gr.Ch, w.cell? ((y.add (i * 5)).add 0) = some (.int .i64 q.k) ∧ w.cell? ((y.add (i * 5)).add 1) = some (.int .i64 q.a) ∧ w.cell? ((y.add (i * 5)).add 2) = some (.int .i64 q.i) ∧ w.cell? ((y.add (i * 5)).add 3) = some (.int .u64 q.was) ∧ w.cell? ((y.add (i * 5)).add 4) = some (.int .u64 q.is) ∧ (Lit.int .i64 q.a).wf = true ∧ (Lit.int .u64 q.is).wf = true := by
      intro i hi
      obtain ⟨cs', h1, h2⟩ := hx i (by rw [hmm, if_pos rfl]; omega)
      rw [ce] at h1
      obtain ⟨_, hlen, hcell⟩ := World.cells?_some h1
      obtain ⟨y0, y1, y2, y3, y4, k, g0, g1, g2, g3, g4⟩ := trod_struct5 he h2
      match cs', hlen with
      | [v0, v1, v2, v3, v4], _ =>
        rw [o0, c0] at g0
        rw [o1, c1] at g1
        rw [o2, c2] at g2
        rw [o3, c3] at g3
        rw [o4, c4] at g4
        obtain ⟨b0, hv0, _, _⟩ := DataW.trod_int t0 g0
        obtain ⟨b1, hv1, _, wf1⟩ := DataW.trod_int t1 g1
        obtain ⟨b2, hv2, _, _⟩ := DataW.trod_int t2 g2
        obtain ⟨b3, hv3, _, _⟩ := DataW.trod_int t3 g3
        obtain ⟨b4, hv4, _, wf4⟩ := DataW.trod_int t4 g4
        have d0 := hcell 0 (by omega)
        have d1 := hcell 1 (by omega)
        have d2 := hcell 2 (by omega)
        have d3 := hcell 3 (by omega)
        have d4 := hcell 4 (by omega)
        simp at hv0 hv1 hv2 hv3 hv4 d0 d1 d2 d3 d4
        subst_vars
        exact ⟨⟨b0, b1, b2, b3, b4⟩, d0, d1, d2, d3, d4, wf1, wf4⟩
    obtain ⟨q, hq⟩ := choose_lt each
    have hmem : ∀ n, n ∈ (List.range len).map q → ∃ i, i < len ∧ q i = n := fun n hn => by
      obtain ⟨i, hi, e⟩ := List.mem_map.1 hn
      exact ⟨i, List.mem_range.1 hi, e⟩
    refine ⟨(List.range len).map q, ⟨by simp, fun i hi => ⟨y, rfl, ?_, ?_⟩⟩, fun n hn => ?_⟩
    · have := cell_lt (hq i hi).1
      rwa [Gr.add_block, Gr.add_block] at this
    · have e : ((List.range len).map q).getD i default = q i := by simp [List.getD_eq_getElem?_getD, hi]
      rw [e]
      obtain ⟨h0, h1, h2, h3, h4, _⟩ := hq i hi
      exact ⟨h0, h1, h2, h3, h4⟩
    · obtain ⟨i, hi, rfl⟩ := hmem n hn
      exact (hq i hi).2.2.2.2.2
end Go.Proofs.Ytekggbmajemmhaa.Di
namespace Go.Proofs.Ytekggbmajemmhaa.Gr
open Go.RowKit Go.Shelf Go.Maps Go.ChangeMaps Go.MapKept Go.Proofs.YtekggbmajemmhaaW.PrintWords Go.Proofs.YtekggbmajemmhaaW.PrintLast Go.Proofs.YtekggbmajemmhaaW.PrintMore
set_option linter.unusedSimpArgs false
set_option linter.unusedVariables false
/-! ### How much there is -/
def Pq (P : List Pn) : Prop := ∀ p ∈ P, p.S.length ≤ 300 ∧ p.T.length ≤ 300
theorem getD_memP {P : List Pn} {i : Nat} (hi : i < P.length) : P.getD i default ∈ P := by
  rw [List.getD_eq_getElem?_getD, List.getElem?_eq_getElem hi]
  exact List.getElem_mem _
theorem step_bound {P P' : List Pn} {c : Ch} (h : stepP P c = some P') (hP : Pq P) : P'.length ≤ P.length + 1 ∧ Pq P' := by
  have hb : ∀ a x, (bareP a x).S.length ≤ 300 ∧ (bareP a x).T.length ≤ 300 := fun a x => by
    have := bareN_le x
    unfold bareP
    exact ⟨Nat.zero_le _, by simp only [List.length_replicate]; omega⟩
  have hset : ∀ (i : Nat) (x : Pn), x.S.length ≤ 300 ∧ x.T.length ≤ 300 → (P.set i x).length ≤ P.length + 1 ∧ Pq (P.set i x) := fun i x hx => by
    refine ⟨by rw [List.length_set]; exact Nat.le_succ _, fun p hp => ?_⟩
    rcases List.mem_or_eq_of_mem_set hp with h | h
    · exact hP p h
    · rw [h]; exact hx
  unfold stepP at h
  split at h
  · split at h
    · cases h
    · cases h
      refine ⟨by simp only [List.length_append, List.length_take, List.length_cons, List.length_drop]; omega, fun p hp => ?_⟩
      rcases List.mem_append.1 hp with h | h
      · exact hP p (List.mem_of_mem_take h)
      · rcases List.mem_cons.1 h with h | h
        · rw [h]; exact hb _ _
        · exact hP p (List.mem_of_mem_drop h)
  · split at h
    · cases h
    · rename_i i hi
      have hil : i < P.length := by
        have := (idx_some hi).1
        have := (List.getElem?_eq_some_iff.1 this).1
        simpa using this
      have hmem := hP _ (getD_memP hil)
      split at h
      · split at h
        · cases h
          exact ⟨by have := List.length_eraseIdx_le P i; omega, fun p hp => hP p (List.mem_of_mem_eraseIdx hp)⟩
        · cases h
      · split at h
        · split at h
          · cases h
            exact hset i _ (hb _ _)
          · cases h
        · split at h
          · cases hc : chgS (P.getD i default).S c with
            | none => rw [hc] at h; cases h
            | some S =>
              rw [hc] at h
              cases h
              exact hset i _ ⟨by have := chgS_len hc; show S.length ≤ 300; omega, hmem.2⟩
          · split at h
            · cases hc : chgT (P.getD i default).T c with
              | none => rw [hc] at h; cases h
              | some S =>
                rw [hc] at h
                cases h
                exact hset i _ ⟨hmem.1, by have := chgT_len hc; show S.length ≤ 300; omega⟩
            · cases h
theorem applyP_bound {s s' : List Int × List Pn} {c : Ch} (h : applyP s c = some s') (hP : Pq s.2) : s'.1.length = s.1.length ∧ s'.2.length ≤ s.2.length + 1 ∧ Pq s'.2 := by
  unfold applyP at h
  split at h
  · cases hc : chgS s.1 c with
    | none => rw [hc] at h; cases h
    | some R =>
      rw [hc] at h
      cases h
      exact ⟨chgS_len hc, Nat.le_succ _, hP⟩
  · cases hc : stepP s.2 c with
    | none => rw [hc] at h; cases h
    | some P =>
      rw [hc] at h
      cases h
      exact ⟨rfl, step_bound hc hP⟩
theorem applyAll_bound : ∀ (l : List Ch) (s s' : List Int × List Pn), applyAll s l = some s' → Pq s.2 → s'.1.length = s.1.length ∧ s'.2.length ≤ s.2.length + l.length ∧ Pq s'.2
  | [], s, s', h, hP => by
    cases h
    exact ⟨rfl, Nat.le_refl _, hP⟩
  | c :: l, s, s', h, hP => by
    unfold applyAll at h
    cases hc : applyP s c with
    | none => rw [hc] at h; cases h
    | some t =>
      rw [hc] at h
      obtain ⟨h1, h2, h3⟩ := applyP_bound hc hP
      obtain ⟨k1, k2, k3⟩ := applyAll_bound l t s' h h3
      exact ⟨k1.trans h1, by rw [List.length_cons]; omega, k3⟩
/-- Two outcomes of one. -/
theorem outs_same {r : Option (List Int × List Pn)} {R1 R2 : List Int} {M1 M2 : List Nd} {ok1 ok2 : Bool} (h1 : (r = none ∧ ok1 = false ∧ R1 = [] ∧ M1 = []) ∨ (r = some (R1, M1.map Nd.pn) ∧ ok1 = true)) (h2 : (r = none ∧ ok2 = false ∧ R2 = [] ∧ M2 = []) ∨ (r = some (R2, M2.map Nd.pn) ∧ ok2 = true)) : ok2 = ok1 ∧ R1 = R2 ∧ M1.map Nd.pn = M2.map Nd.pn := by
  rcases h1 with ⟨e1, o1, r1, m1⟩ | ⟨e1, o1⟩
  · rcases h2 with ⟨_, o2, r2, m2⟩ | ⟨e2, _⟩
    · subst r1 m1 r2 m2
      exact ⟨o2.trans o1.symm, rfl, rfl⟩
    · rw [e1] at e2; cases e2
  · rcases h2 with ⟨e2, _⟩ | ⟨e2, o2⟩
    · rw [e1] at e2; cases e2
    · rw [e1] at e2
      injection e2 with e2
      injection e2 with e3 e4
      exact ⟨o2.trans o1.symm, e3, e4⟩
theorem outs_bound {s r : Option (List Int × List Pn)} {s0 : List Int × List Pn} {l : List Ch} (hr : r = applyAll s0 l) (hP : Pq s0.2) {R : List Int} {M : List Nd} {ok : Bool} (h : (r = none ∧ ok = false ∧ R = [] ∧ M = []) ∨ (r = some (R, M.map Nd.pn) ∧ ok = true)) : R.length ≤ s0.1.length ∧ M.length ≤ s0.2.length + l.length ∧ ∀ q ∈ M, q.S.length ≤ 300 ∧ q.T.length ≤ 300 := by
  rcases h with ⟨_, _, r1, m1⟩ | ⟨e, _⟩
  · subst r1 m1
    exact ⟨Nat.zero_le _, Nat.zero_le _, fun q hq => by cases hq⟩
  · rw [hr] at e
    obtain ⟨h1, h2, h3⟩ := applyAll_bound l s0 _ e hP
    exact ⟨Nat.le_of_eq h1, by simpa using h2, fun q hq => h3 q.pn (List.mem_map.2 ⟨q, hq, rfl⟩)⟩
theorem NL_to {W W' : World} {a : Option Addr} {n : Nat} {M : List Nd} (h : NL W W.heap.size a n M) (hb : Below W.heap.size W W') : NL W' W'.heap.size a n M := by
  have h1 := h.kept (fun k hk => hb.block k hk)
  exact ⟨h1.1, fun i hi => by
    obtain ⟨y, e, hy, hc⟩ := h1.2 i hi
    exact ⟨y, e, Nat.lt_of_lt_of_le hy hb.size, hc⟩⟩
set_option maxHeartbeats 16000000 in
set_option maxRecDepth 100000 in
theorem applies_calls (W : World) (B : Nat) (hB : B ≤ W.heap.size) (g : Gd) (HG : Aside0 (GM W B g)) (hng : g.nl ≤ 9223372036854775807) (a : Option Addr) (len c : Nat) (l : List Ch) (HC : Aside0 (CM W B a len l)) (HW : Aside0 (CW l)) (hlen : len ≤ 9223372036854775807) : Calls Try.prog 3 #[.agg #[.slice g.rA g.rl g.rc, .slice g.nA g.nl g.nc], .slice a len c] W fun e W' => e = .returned (.bool true) ∧ Below W.heap.size W W' := by
  have HB := Aside0.mk (Below.refl W.heap.size W)
  go_enter Try.func3, Try.ntmps3
  go_upto_region 3 with (first | ((with_reducible refine gate_dst (N := 2) rfl ?_); refine box_event ?hg (N := 2) ?hd (cs := #[.slice g.rA g.rl g.rc, .slice g.nA g.nl g.nc]) (t := 25) ?hr ?_; (case hd => rfl); (case hg => rfl); (case hr => first | (go_simp; done) | (go_simp; rfl)); intro g2 hg w1_ hbox hb; have n0_ := Aside0.mk (below_step (by repeat (first | (with_reducible first | exact HB.out | apply below_alloc | apply pw_below_drewN | apply below_drew1) | exact HB.out)) hb); have n1_ := Aside0.mk hbox; have n2_ := Aside0.mk ((by rw [hg]; exact (below_size (by repeat (first | (with_reducible first | exact HB.out | apply below_alloc | apply pw_below_drewN | apply below_drew1) | exact HB.out)))) : W.heap.size ≤ g2); clear HB; have HB := n0_; have BK2 := n1_; have GE2 := n2_; clear n0_ n1_ n2_; clear hb hbox hg) | ((with_reducible refine gate_callee (f := 7) rfl ?_); refine goesL_ (some 9) rfl rfl Try.func7 (by kernel_rfl) rfl #[] rfl (by (try simp only [List.map_toArray, List.map_cons, List.map_nil]); first | done | rfl | (simp only [List.length_drop, List.length_take]; rfl)) ?_; (with_reducible refine (Di.alive_calls _).mono ?_); rintro e w2_ ⟨rfl, hb⟩; refine ⟨_, rfl, ?_⟩; have n0_ := Aside0.mk (below_step (by repeat (first | (with_reducible first | exact HB.out | apply below_alloc | apply pw_below_drewN | apply below_drew1 | refine below_set ?_ GE2.out) | exact HB.out)) hb); have n1_ := Aside0.mk (blk_below (g := g2) (o := .cells #[.slice g.rA g.rl g.rc, .slice g.nA g.nl g.nc] 25 (0, 0)) (by (with_reducible repeat (first | refine blk_drewN ?_ _ | refine blk_drew ?_ | refine blk_alloc ?_ _)); exact BK2.out) hb); clear HB; clear BK2; have HB := n0_; have BK2 := n1_; clear n0_ n1_; clear hb; have hc2_0 : w2_.cell? ⟨g2, 0, none⟩ = some (.slice g.rA g.rl g.rc) := (blk_cell BK2.out 0).trans rfl; have hf2_0 := blk_frozen BK2.out 0; have hc2_1 : w2_.cell? ⟨g2, 1, none⟩ = some (.slice g.nA g.nl g.nc) := (blk_cell BK2.out 1).trans rfl; have hf2_1 := blk_frozen BK2.out 1))
  by_cases hs : Small g
  · by_cases hl60 : len ≤ 60
    · have hd60 : decide ((len : Int) > 60) = false := decide_eq_false (by omega)
      have hd60' : decide ((60 : Int) < (len : Int)) = false := decide_eq_false (by omega)
      go_upto_region 5 with ((with_reducible refine gate_callee (f := 8) rfl ?_); refine goesL_ (some 12) rfl rfl Try.func8 (by kernel_rfl) rfl #[.agg #[.slice g.rA g.rl g.rc, .slice g.nA g.nl g.nc]] rfl (by (try simp only [List.map_toArray, List.map_cons, List.map_nil]); first | done | rfl | (simp only [List.length_drop, List.length_take]; rfl)) ?_; (with_reducible refine (great_no _ B (Nat.le_trans hB HB.out.size) g (Aside0.mk (HG.out.kept fun k hk => HB.out.block k (by omega))) hng hs).mono ?_); rintro e w3_ ⟨rfl, hb⟩; refine ⟨_, rfl, ?_⟩; have n0_ := Aside0.mk (below_step (by repeat (first | (with_reducible first | exact HB.out | apply below_alloc | apply pw_below_drewN | apply below_drew1 | refine below_set ?_ GE2.out) | exact HB.out)) hb); have n1_ := Aside0.mk (blk_below (g := g2) (o := .cells #[.slice g.rA g.rl g.rc, .slice g.nA g.nl g.nc] 25 (0, 0)) (by (with_reducible repeat (first | refine blk_drewN ?_ _ | refine blk_drew ?_ | refine blk_alloc ?_ _)); exact BK2.out) hb); clear HB; clear BK2; have HB := n0_; have BK2 := n1_; clear n0_ n1_; clear hb; have hc2_0 : w3_.cell? ⟨g2, 0, none⟩ = some (.slice g.rA g.rl g.rc) := (blk_cell BK2.out 0).trans rfl; have hf2_0 := blk_frozen BK2.out 0; have hc2_1 : w3_.cell? ⟨g2, 1, none⟩ = some (.slice g.nA g.nl g.nc) := (blk_cell BK2.out 1).trans rfl; have hf2_1 := blk_frozen BK2.out 1)
      go_upto_region 6 with (go_at_call 9; refine (dapply_calls _ B (Nat.le_trans hB HB.out.size) g hs (Aside0.mk (HG.out.kept fun k hk => HB.out.block k (by omega))) a len c l (Aside0.mk (HC.out.kept fun k hk => HB.out.block k (by omega))) HW hl60).mono ?_; rintro e w5 ⟨rA, rl, rc, nA, nl, nc, R1, M1, ok1, rfl, hor1, hR1, hN1, hD1, hb5⟩; have HOR1 := Aside0.mk hor1; have HR1 := Aside0.mk hR1; have HN1 := Aside0.mk hN1; have HD1 := Aside0.mk hD1; have HB5 := Aside0.mk (below_step HB.out hb5); have BK25 := Aside0.mk (blk_below BK2.out hb5); clear hor1 hR1 hN1 hD1 hb5)
      obtain ⟨g5, hg5⟩ : ∃ x, x = w5.heap.size := ⟨_, rfl⟩
      obtain ⟨w6, hw6⟩ : ∃ x, x = w5.alloc (.cells #[.slice rA rl rc, .slice nA nl nc] 25) := ⟨_, rfl⟩
      rw [← hg5, ← hw6]
      have hb6 : Below w5.heap.size w5 w6 := by rw [hw6]; exact below_alloc (Below.refl _ _) _
      have BK56 := Aside0.mk (show w6.heap[g5]? = some (.cells #[.slice rA rl rc, .slice nA nl nc] 25 (0, 0)) by rw [hw6, hg5]; exact blk_new _ _)
      have HB6 := Aside0.mk (below_step HB5.out hb6)
      have HR16 := Aside0.mk (HR1.out.to hb6)
      have HN16 := Aside0.mk (NL_to HN1.out hb6)
      have HD16 := Aside0.mk (fun q hq => (HD1.out q hq).to hb6 : ∀ q ∈ M1, DL w6 w6.heap.size q)
      have BK26 := Aside0.mk (blk_below BK25.out hb6)
      clear hb6 hw6 hg5 HB HB5 HR1 HN1 HD1 BK2 BK25
      have HB5 := HB6
      have hy2_0 : w6.cell? ⟨g2, 0, none⟩ = some (.slice g.rA g.rl g.rc) := (blk_cell BK26.out 0).trans rfl
      have hy2_1 : w6.cell? ⟨g2, 1, none⟩ = some (.slice g.nA g.nl g.nc) := (blk_cell BK26.out 1).trans rfl
      go_upto_region 7 with (go_at_call 10; refine (rapply_calls _ B (Nat.le_trans hB HB5.out.size) g hs (Aside0.mk (HG.out.kept fun k hk => HB5.out.block k (by omega))) a len c l (Aside0.mk (HC.out.kept fun k hk => HB5.out.block k (by omega))) HW hl60).mono ?_; rintro e w7 ⟨sA, sl, sc, mA, ml, mc, R2, M2, ok2, rfl, hor2, hR2, hN2, hD2, hb7⟩; have HOR2 := Aside0.mk hor2; have HR2 := Aside0.mk hR2; have HN2 := Aside0.mk hN2; have HD2 := Aside0.mk hD2; have HB7 := Aside0.mk (below_step HB5.out hb7); have HX7 := Aside0.mk hb7; clear hor2 hR2 hN2 hD2 hb7)
      obtain ⟨g7, hg7⟩ : ∃ x, x = w7.heap.size := ⟨_, rfl⟩
      obtain ⟨w8, hw8⟩ : ∃ x, x = w7.alloc (.cells #[.slice sA sl sc, .slice mA ml mc] 25) := ⟨_, rfl⟩
      rw [← hg7, ← hw8]
      have hb8 : Below w7.heap.size w7 w8 := by rw [hw8]; exact below_alloc (Below.refl _ _) _
      have BK78 := Aside0.mk (show w8.heap[g7]? = some (.cells #[.slice sA sl sc, .slice mA ml mc] 25 (0, 0)) by rw [hw8, hg7]; exact blk_new _ _)
      have hb68 := below_step HX7.out hb8
      have BK58 := Aside0.mk (blk_below BK56.out hb68)
      have HB8 := Aside0.mk (below_step HB7.out hb8)
      obtain ⟨ho, hRR, hMM⟩ := outs_same HOR1.out HOR2.out
      have hPq : Pq ((g.R, (sorted g.NS (walkR g.NS g.R)).map Nd.pn) : List Int × List Pn).2 := fun p hp => by
        obtain ⟨n, hn, e⟩ := List.mem_map.1 hp
        have hm := (sorted_walk g.NS g.R).mem n hn
        have h1 := hs.sz n hm
        have h2 := HG.out.sub n hm
        rw [← e]
        exact ⟨by show n.S.length ≤ 300; rw [h2.1.1]; exact h1.1, by show n.T.length ≤ 300; rw [h2.2.1]; exact h1.2⟩
      obtain ⟨b1, b2, b3⟩ := outs_bound (s := none) rfl hPq HOR1.out
      have hsl : (sorted g.NS (walkR g.NS g.R)).length ≤ 40 := by
        have h1 := (sorted_walk g.NS g.R).len
        have h2 := walkR_len g.NS g.R
        have h3 := HG.out.nds.1
        have h4 := hs.n40
        omega
      have hrl : rl = sl := by rw [← HR16.out.1, hRR, HR2.out.1]
      have hnl : nl = ml := by
        have h1 := HN16.out.1
        have h2 := HN2.out.1
        have h3 := congrArg List.length hMM
        rw [List.length_map, List.length_map] at h3
        omega
      subst ho
      subst hRR
      subst hrl
      subst hnl
      have hrl1 : rl ≤ 1000 := by
        have h1 := HR16.out.1
        have h2 : g.R.length = g.rl := HG.out.rts.1
        have h3 := hs.r40
        simp only at b1
        omega
      have hnl1 : nl ≤ 1000 := by
        have h1 := HN16.out.1
        have h2 : l.length = len := HC.out.1
        simp only [List.length_map] at b2
        omega
      have HSZ := Aside0.mk (fun q hq => by
        have h1 := b3 q hq
        have h2 := HD16.out q hq
        have h3 := h2.1.1
        have h4 := h2.2.1
        exact ⟨by omega, by omega⟩ : ∀ q ∈ M1, q.m ≤ 1000 ∧ q.n ≤ 1000)
      have HSAME := Aside0.mk (same0_yes w8 rA sA nA mA rl rc sc nl nc mc R1 M1 M2 (Aside0.mk (HR16.out.to hb68)) (Aside0.mk (HR2.out.to hb8)) (Aside0.mk (NL_to HN16.out hb68)) (Aside0.mk (NL_to HN2.out hb8)) (Aside0.mk fun q hq => (HD16.out q hq).to hb68) (Aside0.mk fun q hq => (HD2.out q hq).to hb8) (Aside0.mk hMM) hrl1 hnl1 HSZ)
      have hz5_0 : w8.cell? ⟨g5, 0, none⟩ = some (.slice rA rl rc) := (blk_cell BK58.out 0).trans rfl
      have hz5_1 : w8.cell? ⟨g5, 1, none⟩ = some (.slice nA nl nc) := (blk_cell BK58.out 1).trans rfl
      have hz7_0 : w8.cell? ⟨g7, 0, none⟩ = some (.slice sA rl sc) := (blk_cell BK78.out 0).trans rfl
      have hz7_1 : w8.cell? ⟨g7, 1, none⟩ = some (.slice mA nl mc) := (blk_cell BK78.out 1).trans rfl
      have hbb : decide (ok2 = ok2) = true := by simp
      have hbb' : (ok2 == ok2) = true := by simp
      clear hMM hPq b1 b2 b3 hsl hb8 hb68 hw8 hg7 hrl1 hnl1
      go_wp2_with (go_at_call 11; refine HSAME.out.mono ?_; rintro e w9 ⟨rfl, hb9⟩; have HB9 := Aside0.mk (below_step HB8.out hb9); clear hb9)
      go_ret
      exact ⟨rfl, HB9.out⟩
    · have hd60 : decide ((len : Int) > 60) = true := decide_eq_true (by omega)
      have hd60' : decide ((60 : Int) < (len : Int)) = true := decide_eq_true (by omega)
      go_wp2_with ((with_reducible refine gate_callee (f := 8) rfl ?_); refine goesL_ (some 12) rfl rfl Try.func8 (by kernel_rfl) rfl #[.agg #[.slice g.rA g.rl g.rc, .slice g.nA g.nl g.nc]] rfl (by (try simp only [List.map_toArray, List.map_cons, List.map_nil]); first | done | rfl | (simp only [List.length_drop, List.length_take]; rfl)) ?_; (with_reducible refine (great_no _ B (Nat.le_trans hB HB.out.size) g (Aside0.mk (HG.out.kept fun k hk => HB.out.block k (by omega))) hng hs).mono ?_); rintro e w3_ ⟨rfl, hb⟩; refine ⟨_, rfl, ?_⟩; have n0_ := Aside0.mk (below_step (by repeat (first | (with_reducible first | exact HB.out | apply below_alloc | apply pw_below_drewN | apply below_drew1 | refine below_set ?_ GE2.out) | exact HB.out)) hb); have n1_ := Aside0.mk (blk_below (g := g2) (o := .cells #[.slice g.rA g.rl g.rc, .slice g.nA g.nl g.nc] 25 (0, 0)) (by (with_reducible repeat (first | refine blk_drewN ?_ _ | refine blk_drew ?_ | refine blk_alloc ?_ _)); exact BK2.out) hb); clear HB; clear BK2; have HB := n0_; have BK2 := n1_; clear n0_ n1_; clear hb; have hc2_0 : w3_.cell? ⟨g2, 0, none⟩ = some (.slice g.rA g.rl g.rc) := (blk_cell BK2.out 0).trans rfl; have hf2_0 := blk_frozen BK2.out 0; have hc2_1 : w3_.cell? ⟨g2, 1, none⟩ = some (.slice g.nA g.nl g.nc) := (blk_cell BK2.out 1).trans rfl; have hf2_1 := blk_frozen BK2.out 1)
      go_ret
      exact ⟨rfl, HB.out⟩
  · go_wp2_with ((with_reducible refine gate_callee (f := 8) rfl ?_); refine goesL_ (some 12) rfl rfl Try.func8 (by kernel_rfl) rfl #[.agg #[.slice g.rA g.rl g.rc, .slice g.nA g.nl g.nc]] rfl (by (try simp only [List.map_toArray, List.map_cons, List.map_nil]); first | done | rfl | (simp only [List.length_drop, List.length_take]; rfl)) ?_; (with_reducible refine (great_yes _ B (Nat.le_trans hB HB.out.size) g (Aside0.mk (HG.out.kept fun k hk => HB.out.block k (by omega))) hng hs).mono ?_); rintro e w3_ ⟨rfl, hb⟩; refine ⟨_, rfl, ?_⟩; have n0_ := Aside0.mk (below_step (by repeat (first | (with_reducible first | exact HB.out | apply below_alloc | apply pw_below_drewN | apply below_drew1 | refine below_set ?_ GE2.out) | exact HB.out)) hb); have n1_ := Aside0.mk (blk_below (g := g2) (o := .cells #[.slice g.rA g.rl g.rc, .slice g.nA g.nl g.nc] 25 (0, 0)) (by (with_reducible repeat (first | refine blk_drewN ?_ _ | refine blk_drew ?_ | refine blk_alloc ?_ _)); exact BK2.out) hb); clear HB; clear BK2; have HB := n0_; have BK2 := n1_; clear n0_ n1_; clear hb; have hc2_0 : w3_.cell? ⟨g2, 0, none⟩ = some (.slice g.rA g.rl g.rc) := (blk_cell BK2.out 0).trans rfl; have hf2_0 := blk_frozen BK2.out 0; have hc2_1 : w3_.cell? ⟨g2, 1, none⟩ = some (.slice g.nA g.nl g.nc) := (blk_cell BK2.out 1).trans rfl; have hf2_1 := blk_frozen BK2.out 1)
    go_ret
    exact ⟨rfl, HB.out⟩
theorem applies_row (g : Gd) (a : Option Addr) (len c : Nat) (l : List Ch) (W : World) (wa : GM W W.heap.size g) (ya : g.nl ≤ 9223372036854775807) (wl : CM W W.heap.size a len l ∧ CW l) (yl : len ≤ 9223372036854775807) : Calls Try.prog 3 #[g.val, .slice a len c] W fun e w' => e = .returned (.bool true) ∧ Below W.heap.size W w' :=
  applies_calls W W.heap.size (Nat.le_refl _) g ⟨wa⟩ ya a len c l ⟨wl.1⟩ ⟨wl.2⟩ yl
end Go.Proofs.Ytekggbmajemmhaa.Gr
