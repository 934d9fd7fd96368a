/- DiffTurns' walk. Condition: both graphs lie in memory ahead of the walk. -/
import Derived.Test.YtekggbmajemmhaaGr17
namespace Go.Proofs.Ytekggbmajemmhaa.Gr
open Go.RowKit Go.Shelf Go.Maps Go.ChangeMaps Go.MapKept Go.Proofs.YtekggbmajemmhaaW.PrintWords Go.Proofs.YtekggbmajemmhaaW.PrintLast Go.Proofs.YtekggbmajemmhaaW.PrintMore
set_option linter.unusedSimpArgs false
set_option linter.unusedVariables false
theorem cell_lt {w : World} {a : Addr} {v : Value} (h : w.cell? a = some v) : a.block < w.heap.size := by
  rcases Nat.lt_or_ge a.block w.heap.size with h0 | h0
  · exact h0
  · have h3 : w.heap[a.block]? = none := Array.getElem?_eq_none h0
    simp [World.cell?, h3] at h
theorem row_max {W : World} {X n : Nat} {a : Option Addr} {c : Nat} {xs : List Value} (h : W.ownsRow X 44 5 (.slice a n c) n xs) : n ≤ 9223372036854775807 := by
  rcases h.2 with ⟨_, h0⟩ | ⟨g, cap, cur, e, _, _, h1, h2, _⟩
  · omega
  · unfold maxLen at h2
    omega
theorem turn_pair {L1 L2 : List Ch} (h : L1.map turn = L2) {i : Nat} {c : Ch} (hc : L1[i]? = some c) : L2[i]? = some (turn c) := by
  rw [← h, List.getElem?_map, hc]
  rfl
def o5.T5 : Bool × List (List Nat × List Nat) := (true, [([], []), ([], []), ([0, 1], [0, 1]), ([], []), ([], []), ([3, 4, 2], [3, 4]), ([2, 5, 0, 1, 2], [2]), ([5, 6, 0, 1, 2, 3, 4, 5, 6], [5])])
def o5.B5 : List Nat := [0, 0, 3, 0, 0, 31, 63, 127]
theorem o5.tab5 : rtab .any (opsOf Try.f5 5) = o5.T5 := by kernel_rfl
theorem o5.bits5 : waitsOk o5.T5.2 o5.B5 = true := by kernel_rfl
def o11.T11 : Bool × List (List Nat × List Nat) := (true, [([], []), ([], []), ([0, 1], [0, 1]), ([2], [2]), ([], []), ([], []), ([4, 5], [4, 5]), ([6], [6]), ([], []), ([], []), ([8, 3, 0, 1, 2, 3, 8, 9], [3, 8]), ([9, 7, 10, 0, 1, 2, 3, 4, 5, 6, 7, 8, 9, 10], [7, 9])])
def o11.B11 : List Nat := [0, 0, 3, 7, 0, 0, 48, 112, 0, 0, 783, 2047]
theorem o11.tab11 : rtab .any (opsOf Try.f5 11) = o11.T11 := by kernel_rfl
theorem o11.bits11 : waitsOk o11.T11.2 o11.B11 = true := by kernel_rfl
set_option maxHeartbeats 8000000 in
set_option maxRecDepth 100000 in
theorem turns_calls (w : World) (B : Nat) (hB : B ≤ w.heap.size) (ga gb : Gd) (HG : Aside0 (GM w B ga)) (HH : Aside0 (GM w B gb)) (hna : ga.nl ≤ 9223372036854775807) (hnb : gb.nl ≤ 9223372036854775807) : Calls Try.prog 5 #[.agg #[.slice ga.rA ga.rl ga.rc, .slice ga.nA ga.nl ga.nc], .agg #[.slice gb.rA gb.rl gb.rc, .slice gb.nA gb.nl gb.nc]] w fun e W' => e = .returned (.bool true) ∧ Below w.heap.size w W' := by
  have HB := Aside0.mk (Below.refl w.heap.size w)
  go_enter Try.func5, Try.ntmps5
  go_upto_region 3 with (first | ((with_reducible refine gate_dst (N := 2) rfl ?_); refine box_event ?hg (N := 2) ?hd (cs := #[.slice ga.rA ga.rl ga.rc, .slice ga.nA ga.nl ga.nc]) (t := 25) ?hr ?_; (case hd => rfl); (case hg => rfl); (case hr => first | (go_simp; done) | (go_simp; rfl)); intro g2 hg w1_ hbox hb; have n0_ := Aside0.mk (below_step (by repeat (first | (with_reducible first | exact HB.out | apply below_alloc | apply pw_below_drewN | apply below_drew1) | exact HB.out)) hb); have n1_ := Aside0.mk hbox; have n2_ := Aside0.mk ((by rw [hg]; exact (below_size (by repeat (first | (with_reducible first | exact HB.out | apply below_alloc | apply pw_below_drewN | apply below_drew1) | exact HB.out)))) : w.heap.size ≤ g2); clear HB; have HB := n0_; have BK2 := n1_; have GE2 := n2_; clear n0_ n1_ n2_; clear hb hbox hg) | ((with_reducible refine gate_dst (N := 3) rfl ?_); refine box_event ?hg (N := 3) ?hd (cs := #[.slice gb.rA gb.rl gb.rc, .slice gb.nA gb.nl gb.nc]) (t := 25) ?hr ?_; (case hd => rfl); (case hg => rfl); (case hr => first | (go_simp; done) | (go_simp; rfl)); intro g3 hg w2_ hbox hb; have n0_ := Aside0.mk (below_step (by repeat (first | (with_reducible first | exact HB.out | apply below_alloc | apply pw_below_drewN | apply below_drew1 | refine below_set ?_ GE2.out) | exact HB.out)) hb); have n1_ := Aside0.mk (blk_below (g := g2) (o := .cells #[.slice ga.rA ga.rl ga.rc, .slice ga.nA ga.nl ga.nc] 25 (0, 0)) (by (with_reducible repeat (first | refine blk_drewN ?_ _ | refine blk_drew ?_ | refine blk_alloc ?_ _)); exact BK2.out) hb); have n2_ := Aside0.mk hbox; have n3_ := Aside0.mk ((by rw [hg]; exact (below_size (by repeat (first | (with_reducible first | exact HB.out | apply below_alloc | apply pw_below_drewN | apply below_drew1 | refine below_set ?_ GE2.out) | exact HB.out)))) : w.heap.size ≤ g3); have n4_ := Aside0.mk ((by rw [hg]; exact Nat.ne_of_lt (blk_lt (g := g2) (o := .cells #[.slice ga.rA ga.rl ga.rc, .slice ga.nA ga.nl ga.nc] 25 (0, 0)) (by (with_reducible repeat (first | refine blk_drewN ?_ _ | refine blk_drew ?_ | refine blk_alloc ?_ _)); exact BK2.out))) : g2 ≠ g3); clear HB; clear BK2; have HB := n0_; have BK2 := n1_; have BK3 := n2_; have GE3 := n3_; have NE2_3 := n4_; clear n0_ n1_ n2_ n3_ n4_; clear hb hbox hg) | ((with_reducible refine gate_callee (f := 7) rfl ?_); refine goesL_ (some 11) rfl rfl Try.func7 (by kernel_rfl) rfl #[] rfl (by (try simp only [List.map_toArray, List.map_cons, List.map_nil]); first | done | rfl | (simp only [List.length_drop, List.length_take]; rfl)) ?_; (with_reducible refine (Di.alive_calls _).mono ?_); rintro e w3_ ⟨rfl, hb⟩; refine ⟨_, rfl, ?_⟩; have n0_ := Aside0.mk (below_step (by repeat (first | (with_reducible first | exact HB.out | apply below_alloc | apply pw_below_drewN | apply below_drew1 | refine below_set ?_ GE2.out | refine below_set ?_ GE3.out) | exact HB.out)) hb); have n1_ := Aside0.mk (blk_below (g := g2) (o := .cells #[.slice ga.rA ga.rl ga.rc, .slice ga.nA ga.nl ga.nc] 25 (0, 0)) (by (with_reducible repeat (first | refine blk_drewN ?_ _ | refine blk_drew ?_ | refine blk_alloc ?_ _)); exact BK2.out) hb); have n2_ := Aside0.mk (blk_below (g := g3) (o := .cells #[.slice gb.rA gb.rl gb.rc, .slice gb.nA gb.nl gb.nc] 25 (0, 0)) (by (with_reducible repeat (first | refine blk_drewN ?_ _ | refine blk_drew ?_ | refine blk_alloc ?_ _)); exact BK3.out) hb); clear HB; clear BK2; clear BK3; have HB := n0_; have BK2 := n1_; have BK3 := n2_; clear n0_ n1_ n2_; clear hb; have hc2_0 : w3_.cell? ⟨g2, 0, none⟩ = some (.slice ga.rA ga.rl ga.rc) := (blk_cell BK2.out 0).trans rfl; have hf2_0 := blk_frozen BK2.out 0; have hc2_1 : w3_.cell? ⟨g2, 1, none⟩ = some (.slice ga.nA ga.nl ga.nc) := (blk_cell BK2.out 1).trans rfl; have hf2_1 := blk_frozen BK2.out 1; have hc3_0 : w3_.cell? ⟨g3, 0, none⟩ = some (.slice gb.rA gb.rl gb.rc) := (blk_cell BK3.out 0).trans rfl; have hf3_0 := blk_frozen BK3.out 0; have hc3_1 : w3_.cell? ⟨g3, 1, none⟩ = some (.slice gb.nA gb.nl gb.nc) := (blk_cell BK3.out 1).trans rfl; have hf3_1 := blk_frozen BK3.out 1))
  by_cases hsa : Small ga
  · by_cases hsb : Small gb
    · go_upto_region 5 with (first | ((with_reducible refine gate_callee (f := 8) rfl ?_); refine goesL_ (some 14) rfl rfl Try.func8 (by kernel_rfl) rfl #[.agg #[.slice ga.rA ga.rl ga.rc, .slice ga.nA ga.nl ga.nc]] rfl (by (try simp only [List.map_toArray, List.map_cons, List.map_nil]); first | done | rfl | (simp only [List.length_drop, List.length_take]; rfl)) ?_; (with_reducible refine (great_no _ B (Nat.le_trans hB HB.out.size) ga (Aside0.mk (HG.out.kept fun k hk => HB.out.block k (by omega))) hna hsa).mono ?_); rintro e w4_ ⟨rfl, hb⟩; refine ⟨_, rfl, ?_⟩; have n0_ := Aside0.mk (below_step (by repeat (first | (with_reducible first | exact HB.out | apply below_alloc | apply pw_below_drewN | apply below_drew1 | refine below_set ?_ GE2.out | refine below_set ?_ GE3.out) | exact HB.out)) hb); have n1_ := Aside0.mk (blk_below (g := g2) (o := .cells #[.slice ga.rA ga.rl ga.rc, .slice ga.nA ga.nl ga.nc] 25 (0, 0)) (by (with_reducible repeat (first | refine blk_drewN ?_ _ | refine blk_drew ?_ | refine blk_alloc ?_ _)); exact BK2.out) hb); have n2_ := Aside0.mk (blk_below (g := g3) (o := .cells #[.slice gb.rA gb.rl gb.rc, .slice gb.nA gb.nl gb.nc] 25 (0, 0)) (by (with_reducible repeat (first | refine blk_drewN ?_ _ | refine blk_drew ?_ | refine blk_alloc ?_ _)); exact BK3.out) hb); clear HB; clear BK2; clear BK3; have HB := n0_; have BK2 := n1_; have BK3 := n2_; clear n0_ n1_ n2_; clear hb; have hc2_0 : w4_.cell? ⟨g2, 0, none⟩ = some (.slice ga.rA ga.rl ga.rc) := (blk_cell BK2.out 0).trans rfl; have hf2_0 := blk_frozen BK2.out 0; have hc2_1 : w4_.cell? ⟨g2, 1, none⟩ = some (.slice ga.nA ga.nl ga.nc) := (blk_cell BK2.out 1).trans rfl; have hf2_1 := blk_frozen BK2.out 1; have hc3_0 : w4_.cell? ⟨g3, 0, none⟩ = some (.slice gb.rA gb.rl gb.rc) := (blk_cell BK3.out 0).trans rfl; have hf3_0 := blk_frozen BK3.out 0; have hc3_1 : w4_.cell? ⟨g3, 1, none⟩ = some (.slice gb.nA gb.nl gb.nc) := (blk_cell BK3.out 1).trans rfl; have hf3_1 := blk_frozen BK3.out 1) | (go_at_call 8; (with_reducible refine (great_no _ B (Nat.le_trans hB HB.out.size) gb (Aside0.mk (HH.out.kept fun k hk => HB.out.block k (by omega))) hnb hsb).mono ?_); rintro e w5_ ⟨rfl, hb⟩; have n0_ := Aside0.mk (below_step (by repeat (first | (with_reducible first | exact HB.out | apply below_alloc | apply pw_below_drewN | apply below_drew1 | refine below_set ?_ GE2.out | refine below_set ?_ GE3.out) | exact HB.out)) hb); have n1_ := Aside0.mk (blk_below (g := g2) (o := .cells #[.slice ga.rA ga.rl ga.rc, .slice ga.nA ga.nl ga.nc] 25 (0, 0)) (by (with_reducible repeat (first | refine blk_drewN ?_ _ | refine blk_drew ?_ | refine blk_alloc ?_ _)); exact BK2.out) hb); have n2_ := Aside0.mk (blk_below (g := g3) (o := .cells #[.slice gb.rA gb.rl gb.rc, .slice gb.nA gb.nl gb.nc] 25 (0, 0)) (by (with_reducible repeat (first | refine blk_drewN ?_ _ | refine blk_drew ?_ | refine blk_alloc ?_ _)); exact BK3.out) hb); clear HB; clear BK2; clear BK3; have HB := n0_; have BK2 := n1_; have BK3 := n2_; clear n0_ n1_ n2_; clear hb; have hc2_0 : w5_.cell? ⟨g2, 0, none⟩ = some (.slice ga.rA ga.rl ga.rc) := (blk_cell BK2.out 0).trans rfl; have hf2_0 := blk_frozen BK2.out 0; have hc2_1 : w5_.cell? ⟨g2, 1, none⟩ = some (.slice ga.nA ga.nl ga.nc) := (blk_cell BK2.out 1).trans rfl; have hf2_1 := blk_frozen BK2.out 1; have hc3_0 : w5_.cell? ⟨g3, 0, none⟩ = some (.slice gb.rA gb.rl gb.rc) := (blk_cell BK3.out 0).trans rfl; have hf3_0 := blk_frozen BK3.out 0; have hc3_1 : w5_.cell? ⟨g3, 1, none⟩ = some (.slice gb.nA gb.nl gb.nc) := (blk_cell BK3.out 1).trans rfl; have hf3_1 := blk_frozen BK3.out 1))
      refine start_ (n := 8) (S := fun w' => True) (ds := []) #[false, false, false, false, false, false, false, false] (by kernel_rfl) rfl rfl trivial (fun hHeld => ?_)
      refine with_tabW o5.tab5 o5.bits5 (fun HT_ HW_ => ?_)
      refine inv_at [0, 1, 2, 3, 4, 5, 6, 7] (fun a0_ b a w' => ∃ (va : Value) (Ka : List Int) (vb : Value) (Kb : List Int) (m6_ : Value) (m7_ : Value), a = putSel a0_ b [(0, 19, .agg #[.slice ga.rA ga.rl ga.rc, .slice ga.nA ga.nl ga.nc]), (1, 20, .agg #[.slice gb.rA gb.rl gb.rc, .slice gb.nA gb.nl gb.nc]), (2, 21, va), (3, 22, .agg #[.slice gb.rA gb.rl gb.rc, .slice gb.nA gb.nl gb.nc]), (4, 23, .agg #[.slice ga.rA ga.rl ga.rc, .slice ga.nA ga.nl ga.nc]), (5, 24, vb), (6, 5, m6_), (7, 6, m7_)] ∧ (Below w.heap.size w w') ∧ (w'.heap[g2]? = some (.cells #[.slice ga.rA ga.rl ga.rc, .slice ga.nA ga.nl ga.nc] 25 (0, 0))) ∧ (w'.heap[g3]? = some (.cells #[.slice gb.rA gb.rl gb.rc, .slice gb.nA gb.nl gb.nc] 25 (0, 0))) ∧ (b 2 = true → Keys (walkR ga.NS ga.R) (walkR gb.NS gb.R) Ka ∧ w'.ownsRow w.heap.size 44 5 va (ofR ga.NS ga.R gb.NS gb.R Ka).length (chs (ofR ga.NS ga.R gb.NS gb.R Ka))) ∧ (b 5 = true → Keys (walkR gb.NS gb.R) (walkR ga.NS ga.R) Kb ∧ w'.ownsRow w.heap.size 44 5 vb (ofR gb.NS gb.R ga.NS ga.R Kb).length (chs (ofR gb.NS gb.R ga.NS ga.R Kb))) ∧ (b 6 = true → (m6_ : Value) = va) ∧ (b 7 = true → (m7_ : Value) = vb)) HT_.out HW_.out (by kernel_rfl) (by kernel_rfl) ?_ ?_ ?_
      · exact ⟨.bool false, [], .bool false, [], .bool false, .bool false, by simp only [putSel, Bool.false_eq_true, if_false], below_drew1 HB.out, BK2.out, BK3.out, fun h_ => absurd h_ (by decide), fun h_ => absurd h_ (by decide), fun h_ => absurd h_ (by decide), fun h_ => absurd h_ (by decide)⟩
      · skip
        clear BK2 BK3 HB
        refine steps_cons ?_ ?_
        · rintro b a w' ⟨va, Ka, vb, Kb, m6_, m7_, ha, Q_HB, Q_BK2, Q_BK3, Q_RA, Q_RB, Q_X6_, Q_X7_⟩ hb_ hon hoff
          refine ⟨_, rfl, fun K hK => ?_⟩
          have e2 : a.tmps[2]? = some (.pointer (some ⟨g2, 0, none⟩)) := by rw [ha]; exact (putSel_off rfl).trans rfl
          replace ha := Aside0.mk ha
          have HB := Aside0.mk Q_HB
          have BK2 := Aside0.mk Q_BK2
          have BK3 := Aside0.mk Q_BK3
          have hl19_0 : w'.cell? ⟨g2, 0, none⟩ = some (.slice ga.rA ga.rl ga.rc) := (blk_cell BK2.out 0).trans rfl
          have hl19_1 : w'.cell? ⟨g2, 1, none⟩ = some (.slice ga.nA ga.nl ga.nc) := (blk_cell BK2.out 1).trans rfl
          refine value_ (w1 := w') (v := .agg #[.slice ga.rA ga.rl ga.rc, .slice ga.nA ga.nl ga.nc]) (by rfl) rfl ?_ ?_
          · go_simp
            (try simp only [i64_w])
            try rfl
          refine hK.out _ _ ⟨va, Ka, vb, Kb, m6_, m7_, (by rw [ha.out]; exact putSel_upk 0 hb_ rfl rfl rfl), Q_HB, Q_BK2, Q_BK3, fun h0_ => absurd ((hoff 2 (by kernel_rfl)).symm.trans h0_) (by decide), fun h0_ => absurd ((hoff 5 (by kernel_rfl)).symm.trans h0_) (by decide), fun h0_ => absurd ((hoff 6 (by kernel_rfl)).symm.trans h0_) (by decide), fun h0_ => absurd ((hoff 7 (by kernel_rfl)).symm.trans h0_) (by decide)⟩
        refine steps_cons ?_ ?_
        · rintro b a w' ⟨va, Ka, vb, Kb, m6_, m7_, ha, Q_HB, Q_BK2, Q_BK3, Q_RA, Q_RB, Q_X6_, Q_X7_⟩ hb_ hon hoff
          refine ⟨_, rfl, fun K hK => ?_⟩
          have e3 : a.tmps[3]? = some (.pointer (some ⟨g3, 0, none⟩)) := by rw [ha]; exact (putSel_off rfl).trans rfl
          replace ha := Aside0.mk ha
          have HB := Aside0.mk Q_HB
          have BK2 := Aside0.mk Q_BK2
          have BK3 := Aside0.mk Q_BK3
          have hl20_0 : w'.cell? ⟨g3, 0, none⟩ = some (.slice gb.rA gb.rl gb.rc) := (blk_cell BK3.out 0).trans rfl
          have hl20_1 : w'.cell? ⟨g3, 1, none⟩ = some (.slice gb.nA gb.nl gb.nc) := (blk_cell BK3.out 1).trans rfl
          refine value_ (w1 := w') (v := .agg #[.slice gb.rA gb.rl gb.rc, .slice gb.nA gb.nl gb.nc]) (by rfl) rfl ?_ ?_
          · go_simp
            (try simp only [i64_w])
            try rfl
          refine hK.out _ _ ⟨va, Ka, vb, Kb, m6_, m7_, (by rw [ha.out]; exact putSel_upk 1 hb_ rfl rfl rfl), Q_HB, Q_BK2, Q_BK3, fun h0_ => absurd ((hoff 2 (by kernel_rfl)).symm.trans h0_) (by decide), fun h0_ => absurd ((hoff 5 (by kernel_rfl)).symm.trans h0_) (by decide), fun h0_ => absurd ((hoff 6 (by kernel_rfl)).symm.trans h0_) (by decide), fun h0_ => absurd ((hoff 7 (by kernel_rfl)).symm.trans h0_) (by decide)⟩
        refine steps_cons ?_ ?_
        · rintro b a w' ⟨va, Ka, vb, Kb, m6_, m7_, ha, Q_HB, Q_BK2, Q_BK3, Q_RA, Q_RB, Q_X6_, Q_X7_⟩ hb_ hon hoff
          refine ⟨_, rfl, fun K hK => ?_⟩
          have e19 : a.tmps[19]? = some (.agg #[.slice ga.rA ga.rl ga.rc, .slice ga.nA ga.nl ga.nc]) := by rw [ha]; exact putSel_on (e := (0, 19, .agg #[.slice ga.rA ga.rl ga.rc, .slice ga.nA ga.nl ga.nc])) 0 rfl rfl (hon 0 (by kernel_rfl)) rfl
          have e20 : a.tmps[20]? = some (.agg #[.slice gb.rA gb.rl gb.rc, .slice gb.nA gb.nl gb.nc]) := by rw [ha]; exact putSel_on (e := (1, 20, .agg #[.slice gb.rA gb.rl gb.rc, .slice gb.nA gb.nl gb.nc])) 1 rfl rfl (hon 1 (by kernel_rfl)) rfl
          replace ha := Aside0.mk ha
          have HB := Aside0.mk Q_HB
          have BK2 := Aside0.mk Q_BK2
          have BK3 := Aside0.mk Q_BK3
          refine goes_ Try.func12 (by kernel_rfl) rfl #[.agg #[.slice ga.rA ga.rl ga.rc, .slice ga.nA ga.nl ga.nc], .agg #[.slice gb.rA gb.rl gb.rc, .slice gb.nA gb.nl gb.nc]] (by rfl) rfl rfl (by first | (simp only [List.map_toArray, List.map_cons, List.map_nil, Act.eval, Array.getD_eq_getD_getElem?, Option.getD_some, e19, e20]; done) | (simp only [List.map_toArray, List.map_cons, List.map_nil, Act.eval, Array.getD_eq_getD_getElem?, Option.getD_some, e19, e20]; rfl)) ?_
          with_reducible refine (of_calls _ B (Nat.le_trans hB HB.out.size) ga gb hsa hsb (Aside0.mk (HG.out.kept fun k hk => HB.out.block k (by omega))) (Aside0.mk (HH.out.kept fun k hk => HB.out.block k (by omega)))).mono ?_
          rintro e w3 ⟨v3, K3, rfl, hk3, hr3, hb⟩
          refine ⟨_, rfl, ?_⟩
          refine hK.out _ _ ⟨v3, K3, vb, Kb, m6_, m7_, (by rw [ha.out]; exact putSel_upk 2 hb_ rfl rfl rfl), (below_step HB.out hb), (blk_below BK2.out hb), (blk_below BK3.out hb), fun _ => ⟨hk3, Di.row_mono hr3 (below_size HB.out)⟩, fun h0_ => absurd ((hoff 5 (by kernel_rfl)).symm.trans h0_) (by decide), fun h0_ => absurd ((hoff 6 (by kernel_rfl)).symm.trans h0_) (by decide), fun h0_ => absurd ((hoff 7 (by kernel_rfl)).symm.trans h0_) (by decide)⟩
        refine steps_cons ?_ ?_
        · rintro b a w' ⟨va, Ka, vb, Kb, m6_, m7_, ha, Q_HB, Q_BK2, Q_BK3, Q_RA, Q_RB, Q_X6_, Q_X7_⟩ hb_ hon hoff
          refine ⟨_, rfl, fun K hK => ?_⟩
          have e3 : a.tmps[3]? = some (.pointer (some ⟨g3, 0, none⟩)) := by rw [ha]; exact (putSel_off rfl).trans rfl
          replace ha := Aside0.mk ha
          have HB := Aside0.mk Q_HB
          have BK2 := Aside0.mk Q_BK2
          have BK3 := Aside0.mk Q_BK3
          have hl22_0 : w'.cell? ⟨g3, 0, none⟩ = some (.slice gb.rA gb.rl gb.rc) := (blk_cell BK3.out 0).trans rfl
          have hl22_1 : w'.cell? ⟨g3, 1, none⟩ = some (.slice gb.nA gb.nl gb.nc) := (blk_cell BK3.out 1).trans rfl
          refine value_ (w1 := w') (v := .agg #[.slice gb.rA gb.rl gb.rc, .slice gb.nA gb.nl gb.nc]) (by rfl) rfl ?_ ?_
          · go_simp
            (try simp only [i64_w])
            try rfl
          refine hK.out _ _ ⟨va, Ka, vb, Kb, m6_, m7_, (by rw [ha.out]; exact putSel_upk 3 hb_ rfl rfl rfl), Q_HB, Q_BK2, Q_BK3, Q_RA, fun h0_ => absurd ((hoff 5 (by kernel_rfl)).symm.trans h0_) (by decide), fun h0_ => absurd ((hoff 6 (by kernel_rfl)).symm.trans h0_) (by decide), fun h0_ => absurd ((hoff 7 (by kernel_rfl)).symm.trans h0_) (by decide)⟩
        refine steps_cons ?_ ?_
        · rintro b a w' ⟨va, Ka, vb, Kb, m6_, m7_, ha, Q_HB, Q_BK2, Q_BK3, Q_RA, Q_RB, Q_X6_, Q_X7_⟩ hb_ hon hoff
          refine ⟨_, rfl, fun K hK => ?_⟩
          have e2 : a.tmps[2]? = some (.pointer (some ⟨g2, 0, none⟩)) := by rw [ha]; exact (putSel_off rfl).trans rfl
          replace ha := Aside0.mk ha
          have HB := Aside0.mk Q_HB
          have BK2 := Aside0.mk Q_BK2
          have BK3 := Aside0.mk Q_BK3
          have hl23_0 : w'.cell? ⟨g2, 0, none⟩ = some (.slice ga.rA ga.rl ga.rc) := (blk_cell BK2.out 0).trans rfl
          have hl23_1 : w'.cell? ⟨g2, 1, none⟩ = some (.slice ga.nA ga.nl ga.nc) := (blk_cell BK2.out 1).trans rfl
          refine value_ (w1 := w') (v := .agg #[.slice ga.rA ga.rl ga.rc, .slice ga.nA ga.nl ga.nc]) (by rfl) rfl ?_ ?_
          · go_simp
            (try simp only [i64_w])
            try rfl
          refine hK.out _ _ ⟨va, Ka, vb, Kb, m6_, m7_, (by rw [ha.out]; exact putSel_upk 4 hb_ rfl rfl rfl), Q_HB, Q_BK2, Q_BK3, Q_RA, fun h0_ => absurd ((hoff 5 (by kernel_rfl)).symm.trans h0_) (by decide), fun h0_ => absurd ((hoff 6 (by kernel_rfl)).symm.trans h0_) (by decide), fun h0_ => absurd ((hoff 7 (by kernel_rfl)).symm.trans h0_) (by decide)⟩
        refine steps_cons ?_ ?_
        · rintro b a w' ⟨va, Ka, vb, Kb, m6_, m7_, ha, Q_HB, Q_BK2, Q_BK3, Q_RA, Q_RB, Q_X6_, Q_X7_⟩ hb_ hon hoff
          refine ⟨_, rfl, fun K hK => ?_⟩
          have e22 : a.tmps[22]? = some (.agg #[.slice gb.rA gb.rl gb.rc, .slice gb.nA gb.nl gb.nc]) := by rw [ha]; exact putSel_on (e := (3, 22, .agg #[.slice gb.rA gb.rl gb.rc, .slice gb.nA gb.nl gb.nc])) 3 rfl rfl (hon 3 (by kernel_rfl)) rfl
          have e23 : a.tmps[23]? = some (.agg #[.slice ga.rA ga.rl ga.rc, .slice ga.nA ga.nl ga.nc]) := by rw [ha]; exact putSel_on (e := (4, 23, .agg #[.slice ga.rA ga.rl ga.rc, .slice ga.nA ga.nl ga.nc])) 4 rfl rfl (hon 4 (by kernel_rfl)) rfl
          replace ha := Aside0.mk ha
          have HB := Aside0.mk Q_HB
          have BK2 := Aside0.mk Q_BK2
          have BK3 := Aside0.mk Q_BK3
          have RA := Aside0.mk (Q_RA (hon 2 (by kernel_rfl)))
          refine goes_ Try.func12 (by kernel_rfl) rfl #[.agg #[.slice gb.rA gb.rl gb.rc, .slice gb.nA gb.nl gb.nc], .agg #[.slice ga.rA ga.rl ga.rc, .slice ga.nA ga.nl ga.nc]] (by rfl) rfl rfl (by first | (simp only [List.map_toArray, List.map_cons, List.map_nil, Act.eval, Array.getD_eq_getD_getElem?, Option.getD_some, e22, e23]; done) | (simp only [List.map_toArray, List.map_cons, List.map_nil, Act.eval, Array.getD_eq_getD_getElem?, Option.getD_some, e22, e23]; rfl)) ?_
          with_reducible refine (of_calls _ B (Nat.le_trans hB HB.out.size) gb ga hsb hsa (Aside0.mk (HH.out.kept fun k hk => HB.out.block k (by omega))) (Aside0.mk (HG.out.kept fun k hk => HB.out.block k (by omega)))).mono ?_
          rintro e w3 ⟨v3, K3, rfl, hk3, hr3, hb⟩
          refine ⟨_, rfl, ?_⟩
          refine hK.out _ _ ⟨va, Ka, v3, K3, m6_, m7_, (by rw [ha.out]; exact putSel_upk 5 hb_ rfl rfl rfl), (below_step HB.out hb), (blk_below BK2.out hb), (blk_below BK3.out hb), fun _ => ⟨RA.out.1, Di.row_below RA.out.2 hb⟩, fun _ => ⟨hk3, Di.row_mono hr3 (below_size HB.out)⟩, fun h0_ => absurd ((hoff 6 (by kernel_rfl)).symm.trans h0_) (by decide), fun h0_ => absurd ((hoff 7 (by kernel_rfl)).symm.trans h0_) (by decide)⟩
        refine steps_cons ?_ ?_
        · rintro b a w' ⟨va, Ka, vb, Kb, m6_, m7_, ha, Q_HB, Q_BK2, Q_BK3, Q_RA, Q_RB, Q_X6_, Q_X7_⟩ hb_ hon hoff
          refine ⟨_, rfl, fun K hK => ?_⟩
          have e21 : a.tmps[21]? = some (va) := by rw [ha]; exact putSel_on (e := (2, 21, va)) 2 rfl rfl (hon 2 (by kernel_rfl)) rfl
          replace ha := Aside0.mk ha
          have HB := Aside0.mk Q_HB
          have BK2 := Aside0.mk Q_BK2
          have BK3 := Aside0.mk Q_BK3
          have RA := Aside0.mk (Q_RA (hon 2 (by kernel_rfl)))
          have RB := Aside0.mk (Q_RB (hon 5 (by kernel_rfl)))
          refine value_ (w1 := w') (v := va) (by rfl) rfl ?_ ?_
          · go_simp
            (try simp only [i64_w])
            try rfl
          refine hK.out _ _ ⟨va, Ka, vb, Kb, (va), m7_, (by rw [ha.out]; exact putSel_upk 6 hb_ rfl rfl rfl), Q_HB, Q_BK2, Q_BK3, Q_RA, Q_RB, fun _ => rfl, fun h0_ => absurd ((hoff 7 (by kernel_rfl)).symm.trans h0_) (by decide)⟩
        refine steps_cons ?_ ?_
        · rintro b a w' ⟨va, Ka, vb, Kb, m6_, m7_, ha, Q_HB, Q_BK2, Q_BK3, Q_RA, Q_RB, Q_X6_, Q_X7_⟩ hb_ hon hoff
          refine ⟨_, rfl, fun K hK => ?_⟩
          have e24 : a.tmps[24]? = some (vb) := by rw [ha]; exact putSel_on (e := (5, 24, vb)) 5 rfl rfl (hon 5 (by kernel_rfl)) rfl
          replace ha := Aside0.mk ha
          have HB := Aside0.mk Q_HB
          have BK2 := Aside0.mk Q_BK2
          have BK3 := Aside0.mk Q_BK3
          have RA := Aside0.mk (Q_RA (hon 2 (by kernel_rfl)))
          have RB := Aside0.mk (Q_RB (hon 5 (by kernel_rfl)))
          refine value_ (w1 := w') (v := vb) (by rfl) rfl ?_ ?_
          · go_simp
            (try simp only [i64_w])
            try rfl
          refine hK.out _ _ ⟨va, Ka, vb, Kb, m6_, (vb), (by rw [ha.out]; exact putSel_upk 7 hb_ rfl rfl rfl), Q_HB, Q_BK2, Q_BK3, Q_RA, Q_RB, Q_X6_, fun _ => rfl⟩
        exact steps_nil
      rintro b a wf hall ⟨va, Ka, vb, Kb, m6_, m7_, ha, Q_HB, Q_BK2, Q_BK3, Q_RA, Q_RB, Q_X6_, Q_X7_⟩
      clear BK2 BK3 HB
      have hb0_ := hall 0 (by kernel_rfl)
      have hb1_ := hall 1 (by kernel_rfl)
      have hb2_ := hall 2 (by kernel_rfl)
      have hb3_ := hall 3 (by kernel_rfl)
      have hb4_ := hall 4 (by kernel_rfl)
      have hb5_ := hall 5 (by kernel_rfl)
      have hb6_ := hall 6 (by kernel_rfl)
      have hb7_ := hall 7 (by kernel_rfl)
      subst ha
      obtain rfl := Q_X6_ hb6_
      obtain rfl := Q_X7_ hb7_
      simp only [putSel, hb0_, hb1_, hb2_, hb3_, hb4_, hb5_, hb6_, hb7_, if_true, Act.put, List.setIfInBounds_toArray, List.set_cons_zero, List.set_cons_succ]
      have HB := Aside0.mk Q_HB
      clear Q_HB
      have BK2 := Aside0.mk Q_BK2
      clear Q_BK2
      have BK3 := Aside0.mk Q_BK3
      clear Q_BK3
      have RA := Aside0.mk (Q_RA hb2_)
      clear Q_RA
      have RB := Aside0.mk (Q_RB hb5_)
      clear Q_RB
      clear hall hb0_ hb1_ hb2_ hb3_ hb4_ hb5_ hb6_ hb7_
      obtain ⟨hka, hra⟩ := RA.out
      obtain ⟨hkb, hrb⟩ := RB.out
      have ht := of_turn _ _ _ _ _ _ hka hkb
      clear RA RB
      obtain ⟨L1, hL1⟩ : ∃ L, L = (ofR ga.NS ga.R gb.NS gb.R Ka) := ⟨_, rfl⟩
      obtain ⟨L2, hL2⟩ : ∃ L, L = (ofR gb.NS gb.R ga.NS ga.R Kb) := ⟨_, rfl⟩
      rw [← hL1] at hra ht
      rw [← hL2] at hrb ht
      have HT := Aside0.mk ht
      have hl12 : L2.length = L1.length := by rw [← ht, List.length_map]
      clear hL1 hL2 ht hka hkb
      rw [hl12] at hrb
      obtain ⟨n, hn⟩ : ∃ n, n = L1.length := ⟨_, rfl⟩
      rw [← hn] at hra hrb
      have HN := Aside0.mk hn
      clear hn hl12
      obtain ⟨a1, c1, rfl⟩ := row44_slice hra
      obtain ⟨a2, c2, rfl⟩ := row44_slice hrb
      have hmx := row_max hra
      have RA := Aside0.mk hra
      have RB := Aside0.mk hrb
      clear hra hrb BK2 BK3
      go_wp2
      go_loopw [7] (fun v wr => ∃ i : Nat, i ≤ n ∧ v = .int .i64 (i : Int) ∧ Aside0 (Below w.heap.size w wr) ∧ Aside0 (wr.ownsRow w.heap.size 44 5 (.slice a1 n c1) n (chs L1)) ∧ Aside0 (wr.ownsRow w.heap.size 44 5 (.slice a2 n c2) n (chs L2))) (fun v _ => n - (intOf v).toNat)
      case atStart => exact ⟨0, by omega, rfl, HB, RA, RB⟩
      case round =>
        clear HB RA RB
        obtain ⟨i, hi_, rfl, HB, RA, RB⟩ := hrel
        by_cases hgo : i < n
        · have hd : decide ((i : Int) < (n : Int)) = true := decide_eq_true (by omega)
          obtain ⟨c, hc⟩ : ∃ c, L1[i]? = some c := ⟨_, List.getElem?_eq_getElem (show i < L1.length by rw [← HN.out]; exact hgo)⟩
          have hc' := turn_pair HT.out hc
          obtain ⟨y1, ey1, hc10, hc11, hc12, hc13, hc14⟩ := row44_five RA.out hc hgo
          obtain ⟨y2, ey2, hc20, hc21, hc22, hc23, hc24⟩ := row44_five RB.out hc' hgo
          clear hc hc'
          obtain ⟨ck, ca, ci, cw, cs⟩ := c
          obtain ⟨k2, hk2⟩ : ∃ k, k = if ck = 1 then 2 else if ck = 2 then 1 else ck := ⟨_, rfl⟩
          simp only [turn, ← hk2] at hc10 hc11 hc12 hc13 hc14 hc20 hc21 hc22 hc23 hc24
          subst ey1
          subst ey2
          have hl1 : (y1.add (i * 5)).block < wr.heap.size := cell_lt hc10
          have hl2 : (y2.add (i * 5)).block < wr.heap.size := cell_lt hc20
          have HK2 := Aside0.mk hk2
          clear hk2
          have hi0 : (0 : Int) ≤ (i : Int) := by omega
          have hi1 : (i : Int) < (n : Int) := by omega
          have hwr : wrap64 ((i : Int) + 1) = ((i + 1 : Nat) : Int) := by unfold wrap64; omega
          go_upto_region 11 with fail
          have HR := Aside0.mk (Below.refl wr.heap.size wr)
          have US := Aside0.mk (show 0 < wr.drew.heap.size from Nat.lt_of_le_of_lt (Nat.zero_le _) hl1)
          have U8 := US
          have U9 := US
          refine start_ (n := 12) (S := fun w' => True) (ds := []) #[false, false, false, false, false, false, false, false, false, false, false, false] (by kernel_rfl) rfl rfl trivial (fun hHeld => ?_)
          refine with_tabW o11.tab11 o11.bits11 (fun HT_ HW_ => ?_)
          refine inv_at [0, 1, 2, 3, 4, 5, 6, 7, 8, 9, 10, 11] (fun a0_ b a w' => ∃ (g8 : Nat) (g9 : Nat) (m8_ : Value) (m9_ : Value), a = putSel a0_ b [(0, 36, .slice (some y1) n c1), (1, 37, .int .i64 (i : Int)), (2, 38, .pointer (some (y1.add (i * 5)))), (3, 39, .agg #[.int .i64 ck, .int .i64 ca, .int .i64 ci, .int .u64 cw, .int .u64 cs]), (4, 40, .slice (some y2) n c2), (5, 41, .int .i64 (i : Int)), (6, 42, .pointer (some (y2.add (i * 5)))), (7, 43, .agg #[.int .i64 k2, .int .i64 ca, .int .i64 ci, .int .u64 cs, .int .u64 cw]), (8, 8, m8_), (9, 9, m9_)] ∧ (Below wr.heap.size wr w') ∧ (b 8 = true → b 10 = false → w'.heap[g8]? = some (.cells #[.int .i64 0, .int .i64 0, .int .i64 0, .int .u64 0, .int .u64 0] 44 (0, 0)) ∧ wr.heap.size ≤ g8) ∧ (b 9 = true → b 11 = false → w'.heap[g9]? = some (.cells #[.int .i64 0, .int .i64 0, .int .i64 0, .int .u64 0, .int .u64 0] 44 (0, 0)) ∧ wr.heap.size ≤ g9) ∧ (b 10 = true → w'.heap[g8]? = some (.cells #[.int .i64 ck, .int .i64 ca, .int .i64 ci, .int .u64 cw, .int .u64 cs] 44 (0, 0)) ∧ wr.heap.size ≤ g8) ∧ (b 11 = true → w'.heap[g9]? = some (.cells #[.int .i64 k2, .int .i64 ca, .int .i64 ci, .int .u64 cs, .int .u64 cw] 44 (0, 0)) ∧ wr.heap.size ≤ g9) ∧ (b 8 = true → b 9 = true → g8 ≠ g9) ∧ (g8 < w'.heap.size) ∧ (g9 < w'.heap.size) ∧ (b 8 = true → (m8_ : Value) = .pointer (some ⟨g8, 0, none⟩)) ∧ (b 9 = true → (m9_ : Value) = .pointer (some ⟨g9, 0, none⟩))) HT_.out HW_.out (by kernel_rfl) (by kernel_rfl) ?_ ?_ ?_
          · exact ⟨0, 0, .bool false, .bool false, by simp only [putSel, Bool.false_eq_true, if_false], below_drew1 HR.out, fun h_ => absurd h_ (by decide), fun h_ => absurd h_ (by decide), fun h_ => absurd h_ (by decide), fun h_ => absurd h_ (by decide), fun h_ => absurd h_ (by decide), US.out, US.out, fun h_ => absurd h_ (by decide), fun h_ => absurd h_ (by decide)⟩
          · skip
            clear HR U8 U9
            refine steps_cons ?_ ?_
            · rintro b a w' ⟨g8, g9, m8_, m9_, ha, Q_HR, Q_BA8, Q_BA9, Q_BX8, Q_BX9, Q_NE, Q_U8, Q_U9, Q_X8_, Q_X9_⟩ hb_ hon hoff
              refine ⟨_, rfl, fun K hK => ?_⟩
              have e5 : a.tmps[5]? = some (.slice (some y1) n c1) := by rw [ha]; exact (putSel_off rfl).trans rfl
              replace ha := Aside0.mk ha
              have HR := Aside0.mk Q_HR
              have U8 := Aside0.mk Q_U8
              have U9 := Aside0.mk Q_U9
              refine value_ (w1 := w') (v := .slice (some y1) n c1) (by rfl) rfl ?_ ?_
              · go_simp
                (try simp only [i64_w])
                try rfl
              refine hK.out _ _ ⟨g8, g9, m8_, m9_, (by rw [ha.out]; exact putSel_upk 0 hb_ rfl rfl rfl), Q_HR, Q_BA8, Q_BA9, fun h0_ => absurd ((hoff 10 (by kernel_rfl)).symm.trans h0_) (by decide), fun h0_ => absurd ((hoff 11 (by kernel_rfl)).symm.trans h0_) (by decide), Q_NE, Q_U8, Q_U9, Q_X8_, Q_X9_⟩
            refine steps_cons ?_ ?_
            · rintro b a w' ⟨g8, g9, m8_, m9_, ha, Q_HR, Q_BA8, Q_BA9, Q_BX8, Q_BX9, Q_NE, Q_U8, Q_U9, Q_X8_, Q_X9_⟩ hb_ hon hoff
              refine ⟨_, rfl, fun K hK => ?_⟩
              have e7 : a.tmps[7]? = some (.int .i64 (i : Int)) := by rw [ha]; exact (putSel_off rfl).trans rfl
              replace ha := Aside0.mk ha
              have HR := Aside0.mk Q_HR
              have U8 := Aside0.mk Q_U8
              have U9 := Aside0.mk Q_U9
              refine value_ (w1 := w') (v := .int .i64 (i : Int)) (by rfl) rfl ?_ ?_
              · go_simp
                (try simp only [i64_w])
                try rfl
              refine hK.out _ _ ⟨g8, g9, m8_, m9_, (by rw [ha.out]; exact putSel_upk 1 hb_ rfl rfl rfl), Q_HR, Q_BA8, Q_BA9, fun h0_ => absurd ((hoff 10 (by kernel_rfl)).symm.trans h0_) (by decide), fun h0_ => absurd ((hoff 11 (by kernel_rfl)).symm.trans h0_) (by decide), Q_NE, Q_U8, Q_U9, Q_X8_, Q_X9_⟩
            refine steps_cons ?_ ?_
            · rintro b a w' ⟨g8, g9, m8_, m9_, ha, Q_HR, Q_BA8, Q_BA9, Q_BX8, Q_BX9, Q_NE, Q_U8, Q_U9, Q_X8_, Q_X9_⟩ hb_ hon hoff
              refine ⟨_, rfl, fun K hK => ?_⟩
              have e36 : a.tmps[36]? = some (.slice (some y1) n c1) := by rw [ha]; exact putSel_on (e := (0, 36, .slice (some y1) n c1)) 0 rfl rfl (hon 0 (by kernel_rfl)) rfl
              have e37 : a.tmps[37]? = some (.int .i64 (i : Int)) := by rw [ha]; exact putSel_on (e := (1, 37, .int .i64 (i : Int))) 1 rfl rfl (hon 1 (by kernel_rfl)) rfl
              replace ha := Aside0.mk ha
              have HR := Aside0.mk Q_HR
              have U8 := Aside0.mk Q_U8
              have U9 := Aside0.mk Q_U9
              refine value_ (w1 := w') (v := .pointer (some (y1.add (i * 5)))) (by rfl) rfl ?_ ?_
              · go_simp
                (try simp only [i64_w])
                try rfl
              refine hK.out _ _ ⟨g8, g9, m8_, m9_, (by rw [ha.out]; exact putSel_upk 2 hb_ rfl rfl rfl), Q_HR, Q_BA8, Q_BA9, fun h0_ => absurd ((hoff 10 (by kernel_rfl)).symm.trans h0_) (by decide), fun h0_ => absurd ((hoff 11 (by kernel_rfl)).symm.trans h0_) (by decide), Q_NE, Q_U8, Q_U9, Q_X8_, Q_X9_⟩
            refine steps_cons ?_ ?_
            · rintro b a w' ⟨g8, g9, m8_, m9_, ha, Q_HR, Q_BA8, Q_BA9, Q_BX8, Q_BX9, Q_NE, Q_U8, Q_U9, Q_X8_, Q_X9_⟩ hb_ hon hoff
              refine ⟨_, rfl, fun K hK => ?_⟩
              have e38 : a.tmps[38]? = some (.pointer (some (y1.add (i * 5)))) := by rw [ha]; exact putSel_on (e := (2, 38, .pointer (some (y1.add (i * 5))))) 2 rfl rfl (hon 2 (by kernel_rfl)) rfl
              replace ha := Aside0.mk ha
              have HR := Aside0.mk Q_HR
              have U8 := Aside0.mk Q_U8
              have U9 := Aside0.mk Q_U9
              have hz39_0 : w'.cell? (y1.add (i * 5)) = some (.int .i64 ck) := (HR.out.cell (p := (y1.add (i * 5))) hl1).trans hc10
              have hz39_1 : w'.cell? { block := (y1.add (i * 5)).block, off := (y1.add (i * 5)).off + 1 } = some (.int .i64 ca) := (HR.out.cell (p := { block := (y1.add (i * 5)).block, off := (y1.add (i * 5)).off + 1 }) hl1).trans hc11
              have hz39_2 : w'.cell? { block := (y1.add (i * 5)).block, off := (y1.add (i * 5)).off + 2 } = some (.int .i64 ci) := (HR.out.cell (p := { block := (y1.add (i * 5)).block, off := (y1.add (i * 5)).off + 2 }) hl1).trans hc12
              have hz39_3 : w'.cell? { block := (y1.add (i * 5)).block, off := (y1.add (i * 5)).off + 3 } = some (.int .u64 cw) := (HR.out.cell (p := { block := (y1.add (i * 5)).block, off := (y1.add (i * 5)).off + 3 }) hl1).trans hc13
              have hz39_4 : w'.cell? { block := (y1.add (i * 5)).block, off := (y1.add (i * 5)).off + 4 } = some (.int .u64 cs) := (HR.out.cell (p := { block := (y1.add (i * 5)).block, off := (y1.add (i * 5)).off + 4 }) hl1).trans hc14
              refine value_ (w1 := w') (v := .agg #[.int .i64 ck, .int .i64 ca, .int .i64 ci, .int .u64 cw, .int .u64 cs]) (by rfl) rfl ?_ ?_
              · go_simp
                (try simp only [i64_w])
                try rfl
              refine hK.out _ _ ⟨g8, g9, m8_, m9_, (by rw [ha.out]; exact putSel_upk 3 hb_ rfl rfl rfl), Q_HR, Q_BA8, Q_BA9, fun h0_ => absurd ((hoff 10 (by kernel_rfl)).symm.trans h0_) (by decide), fun h0_ => absurd ((hoff 11 (by kernel_rfl)).symm.trans h0_) (by decide), Q_NE, Q_U8, Q_U9, Q_X8_, Q_X9_⟩
            refine steps_cons ?_ ?_
            · rintro b a w' ⟨g8, g9, m8_, m9_, ha, Q_HR, Q_BA8, Q_BA9, Q_BX8, Q_BX9, Q_NE, Q_U8, Q_U9, Q_X8_, Q_X9_⟩ hb_ hon hoff
              refine ⟨_, rfl, fun K hK => ?_⟩
              have e6 : a.tmps[6]? = some (.slice (some y2) n c2) := by rw [ha]; exact (putSel_off rfl).trans rfl
              replace ha := Aside0.mk ha
              have HR := Aside0.mk Q_HR
              have U8 := Aside0.mk Q_U8
              have U9 := Aside0.mk Q_U9
              refine value_ (w1 := w') (v := .slice (some y2) n c2) (by rfl) rfl ?_ ?_
              · go_simp
                (try simp only [i64_w])
                try rfl
              refine hK.out _ _ ⟨g8, g9, m8_, m9_, (by rw [ha.out]; exact putSel_upk 4 hb_ rfl rfl rfl), Q_HR, Q_BA8, Q_BA9, Q_BX8, fun h0_ => absurd ((hoff 11 (by kernel_rfl)).symm.trans h0_) (by decide), Q_NE, Q_U8, Q_U9, Q_X8_, Q_X9_⟩
            refine steps_cons ?_ ?_
            · rintro b a w' ⟨g8, g9, m8_, m9_, ha, Q_HR, Q_BA8, Q_BA9, Q_BX8, Q_BX9, Q_NE, Q_U8, Q_U9, Q_X8_, Q_X9_⟩ hb_ hon hoff
              refine ⟨_, rfl, fun K hK => ?_⟩
              have e7 : a.tmps[7]? = some (.int .i64 (i : Int)) := by rw [ha]; exact (putSel_off rfl).trans rfl
              replace ha := Aside0.mk ha
              have HR := Aside0.mk Q_HR
              have U8 := Aside0.mk Q_U8
              have U9 := Aside0.mk Q_U9
              refine value_ (w1 := w') (v := .int .i64 (i : Int)) (by rfl) rfl ?_ ?_
              · go_simp
                (try simp only [i64_w])
                try rfl
              refine hK.out _ _ ⟨g8, g9, m8_, m9_, (by rw [ha.out]; exact putSel_upk 5 hb_ rfl rfl rfl), Q_HR, Q_BA8, Q_BA9, Q_BX8, fun h0_ => absurd ((hoff 11 (by kernel_rfl)).symm.trans h0_) (by decide), Q_NE, Q_U8, Q_U9, Q_X8_, Q_X9_⟩
            refine steps_cons ?_ ?_
            · rintro b a w' ⟨g8, g9, m8_, m9_, ha, Q_HR, Q_BA8, Q_BA9, Q_BX8, Q_BX9, Q_NE, Q_U8, Q_U9, Q_X8_, Q_X9_⟩ hb_ hon hoff
              refine ⟨_, rfl, fun K hK => ?_⟩
              have e40 : a.tmps[40]? = some (.slice (some y2) n c2) := by rw [ha]; exact putSel_on (e := (4, 40, .slice (some y2) n c2)) 4 rfl rfl (hon 4 (by kernel_rfl)) rfl
              have e41 : a.tmps[41]? = some (.int .i64 (i : Int)) := by rw [ha]; exact putSel_on (e := (5, 41, .int .i64 (i : Int))) 5 rfl rfl (hon 5 (by kernel_rfl)) rfl
              replace ha := Aside0.mk ha
              have HR := Aside0.mk Q_HR
              have U8 := Aside0.mk Q_U8
              have U9 := Aside0.mk Q_U9
              refine value_ (w1 := w') (v := .pointer (some (y2.add (i * 5)))) (by rfl) rfl ?_ ?_
              · go_simp
                (try simp only [i64_w])
                try rfl
              refine hK.out _ _ ⟨g8, g9, m8_, m9_, (by rw [ha.out]; exact putSel_upk 6 hb_ rfl rfl rfl), Q_HR, Q_BA8, Q_BA9, Q_BX8, fun h0_ => absurd ((hoff 11 (by kernel_rfl)).symm.trans h0_) (by decide), Q_NE, Q_U8, Q_U9, Q_X8_, Q_X9_⟩
            refine steps_cons ?_ ?_
            · rintro b a w' ⟨g8, g9, m8_, m9_, ha, Q_HR, Q_BA8, Q_BA9, Q_BX8, Q_BX9, Q_NE, Q_U8, Q_U9, Q_X8_, Q_X9_⟩ hb_ hon hoff
              refine ⟨_, rfl, fun K hK => ?_⟩
              have e42 : a.tmps[42]? = some (.pointer (some (y2.add (i * 5)))) := by rw [ha]; exact putSel_on (e := (6, 42, .pointer (some (y2.add (i * 5))))) 6 rfl rfl (hon 6 (by kernel_rfl)) rfl
              replace ha := Aside0.mk ha
              have HR := Aside0.mk Q_HR
              have U8 := Aside0.mk Q_U8
              have U9 := Aside0.mk Q_U9
              have hz43_0 : w'.cell? (y2.add (i * 5)) = some (.int .i64 k2) := (HR.out.cell (p := (y2.add (i * 5))) hl2).trans hc20
              have hz43_1 : w'.cell? { block := (y2.add (i * 5)).block, off := (y2.add (i * 5)).off + 1 } = some (.int .i64 ca) := (HR.out.cell (p := { block := (y2.add (i * 5)).block, off := (y2.add (i * 5)).off + 1 }) hl2).trans hc21
              have hz43_2 : w'.cell? { block := (y2.add (i * 5)).block, off := (y2.add (i * 5)).off + 2 } = some (.int .i64 ci) := (HR.out.cell (p := { block := (y2.add (i * 5)).block, off := (y2.add (i * 5)).off + 2 }) hl2).trans hc22
              have hz43_3 : w'.cell? { block := (y2.add (i * 5)).block, off := (y2.add (i * 5)).off + 3 } = some (.int .u64 cs) := (HR.out.cell (p := { block := (y2.add (i * 5)).block, off := (y2.add (i * 5)).off + 3 }) hl2).trans hc23
              have hz43_4 : w'.cell? { block := (y2.add (i * 5)).block, off := (y2.add (i * 5)).off + 4 } = some (.int .u64 cw) := (HR.out.cell (p := { block := (y2.add (i * 5)).block, off := (y2.add (i * 5)).off + 4 }) hl2).trans hc24
              refine value_ (w1 := w') (v := .agg #[.int .i64 k2, .int .i64 ca, .int .i64 ci, .int .u64 cs, .int .u64 cw]) (by rfl) rfl ?_ ?_
              · go_simp
                (try simp only [i64_w])
                try rfl
              refine hK.out _ _ ⟨g8, g9, m8_, m9_, (by rw [ha.out]; exact putSel_upk 7 hb_ rfl rfl rfl), Q_HR, Q_BA8, Q_BA9, Q_BX8, fun h0_ => absurd ((hoff 11 (by kernel_rfl)).symm.trans h0_) (by decide), Q_NE, Q_U8, Q_U9, Q_X8_, Q_X9_⟩
            refine steps_cons ?_ ?_
            · rintro b a w' ⟨g8, g9, m8_, m9_, ha, Q_HR, Q_BA8, Q_BA9, Q_BX8, Q_BX9, Q_NE, Q_U8, Q_U9, Q_X8_, Q_X9_⟩ hb_ hon hoff
              refine ⟨_, rfl, fun K hK => ?_⟩
              replace ha := Aside0.mk ha
              have HR := Aside0.mk Q_HR
              have U8 := Aside0.mk Q_U8
              have U9 := Aside0.mk Q_U9
              refine value_ (w1 := ?_) (v := ?_) (by rfl) rfl ?_ ?_
              rotate_left 2
              · go_simp
                constructor
                · rfl
                · rfl
              have hb := below_alloc (Below.refl w'.heap.size w') (.cells #[.int .i64 0, .int .i64 0, .int .i64 0, .int .u64 0, .int .u64 0] 44)
              refine hK.out _ _ ⟨w'.heap.size, g9, (.pointer (some ⟨w'.heap.size, 0, none⟩)), m9_, (by rw [ha.out]; exact putSel_upk 8 hb_ rfl rfl rfl), (below_step HR.out hb), fun _ _ => ⟨blk_new w' (.cells #[.int .i64 0, .int .i64 0, .int .i64 0, .int .u64 0, .int .u64 0] 44), below_size HR.out⟩, fun h0_ h1_ => ⟨blk_below (Q_BA9 h0_ h1_).1 hb, (Q_BA9 h0_ h1_).2⟩, fun h0_ => absurd ((hoff 10 (by kernel_rfl)).symm.trans h0_) (by decide), fun h0_ => absurd ((hoff 11 (by kernel_rfl)).symm.trans h0_) (by decide), fun _ _ => (Nat.ne_of_gt U9.out), (by rw [World.size_alloc]; exact Nat.lt_succ_self _), (Nat.lt_of_lt_of_le U9.out hb.size), fun _ => rfl, Q_X9_⟩
            refine steps_cons ?_ ?_
            · rintro b a w' ⟨g8, g9, m8_, m9_, ha, Q_HR, Q_BA8, Q_BA9, Q_BX8, Q_BX9, Q_NE, Q_U8, Q_U9, Q_X8_, Q_X9_⟩ hb_ hon hoff
              refine ⟨_, rfl, fun K hK => ?_⟩
              replace ha := Aside0.mk ha
              have HR := Aside0.mk Q_HR
              have U8 := Aside0.mk Q_U8
              have U9 := Aside0.mk Q_U9
              refine value_ (w1 := ?_) (v := ?_) (by rfl) rfl ?_ ?_
              rotate_left 2
              · go_simp
                constructor
                · rfl
                · rfl
              have hb := below_alloc (Below.refl w'.heap.size w') (.cells #[.int .i64 0, .int .i64 0, .int .i64 0, .int .u64 0, .int .u64 0] 44)
              refine hK.out _ _ ⟨g8, w'.heap.size, m8_, (.pointer (some ⟨w'.heap.size, 0, none⟩)), (by rw [ha.out]; exact putSel_upk 9 hb_ rfl rfl rfl), (below_step HR.out hb), fun h0_ h1_ => ⟨blk_below (Q_BA8 h0_ h1_).1 hb, (Q_BA8 h0_ h1_).2⟩, fun _ _ => ⟨blk_new w' (.cells #[.int .i64 0, .int .i64 0, .int .i64 0, .int .u64 0, .int .u64 0] 44), below_size HR.out⟩, fun h0_ => absurd ((hoff 10 (by kernel_rfl)).symm.trans h0_) (by decide), fun h0_ => absurd ((hoff 11 (by kernel_rfl)).symm.trans h0_) (by decide), fun _ _ => (Nat.ne_of_lt U8.out), (Nat.lt_of_lt_of_le U8.out hb.size), (by rw [World.size_alloc]; exact Nat.lt_succ_self _), Q_X8_, fun _ => rfl⟩
            refine steps_cons ?_ ?_
            · rintro b a w' ⟨g8, g9, m8_, m9_, ha, Q_HR, Q_BA8, Q_BA9, Q_BX8, Q_BX9, Q_NE, Q_U8, Q_U9, Q_X8_, Q_X9_⟩ hb_ hon hoff
              refine ⟨_, rfl, fun K hK => ?_⟩
              have e8 : a.tmps[8]? = some (m8_) := by rw [ha]; exact putSel_on (e := (8, 8, m8_)) 8 rfl rfl (hon 8 (by kernel_rfl)) rfl
              rw [Q_X8_ (hon 8 (by kernel_rfl))] at e8
              have e39 : a.tmps[39]? = some (.agg #[.int .i64 ck, .int .i64 ca, .int .i64 ci, .int .u64 cw, .int .u64 cs]) := by rw [ha]; exact putSel_on (e := (3, 39, .agg #[.int .i64 ck, .int .i64 ca, .int .i64 ci, .int .u64 cw, .int .u64 cs])) 3 rfl rfl (hon 3 (by kernel_rfl)) rfl
              replace ha := Aside0.mk ha
              have HR := Aside0.mk Q_HR
              have BA8 := Aside0.mk (Q_BA8 (hon 8 (by kernel_rfl)) hb_)
              have BA9 := Aside0.mk (Q_BA9 (hon 9 (by kernel_rfl)) (hoff 11 (by kernel_rfl)))
              have NE := Aside0.mk (Q_NE (hon 8 (by kernel_rfl)) (hon 9 (by kernel_rfl)))
              have U8 := Aside0.mk Q_U8
              have U9 := Aside0.mk Q_U9
              have hq8_0 : w'.cell? ⟨g8, 0, none⟩ = some (.int .i64 0) := (blk_cell BA8.out.1 0).trans rfl
              have hq8_1 : w'.cell? ⟨g8, 1, none⟩ = some (.int .i64 0) := (blk_cell BA8.out.1 1).trans rfl
              have hq8_2 : w'.cell? ⟨g8, 2, none⟩ = some (.int .i64 0) := (blk_cell BA8.out.1 2).trans rfl
              have hq8_3 : w'.cell? ⟨g8, 3, none⟩ = some (.int .u64 0) := (blk_cell BA8.out.1 3).trans rfl
              have hq8_4 : w'.cell? ⟨g8, 4, none⟩ = some (.int .u64 0) := (blk_cell BA8.out.1 4).trans rfl
              have hf8_0 := blk_frozen BA8.out.1 0
              have hf8_1 := blk_frozen BA8.out.1 1
              have hf8_2 := blk_frozen BA8.out.1 2
              have hf8_3 := blk_frozen BA8.out.1 3
              have hf8_4 := blk_frozen BA8.out.1 4
              refine skip_ (w1 := ?_) (by rfl) rfl ?_ ?_
              rotate_left
              · go_simp
                rfl
              refine hK.out _ _ ⟨g8, g9, m8_, m9_, (by rw [ha.out]; exact putSel_none (v := undef) rfl), (by (repeat (refine below_set ?_ BA8.out.2)); exact HR.out), fun _ h1_ => absurd ((up_self b 10).symm.trans h1_) (by decide), fun _ _ => ⟨(by refine blk_far ?_ NE.out.symm _; refine blk_far ?_ NE.out.symm _; refine blk_far ?_ NE.out.symm _; refine blk_far ?_ NE.out.symm _; refine blk_far ?_ NE.out.symm _; exact BA9.out.1), BA9.out.2⟩, fun _ => ⟨(by (with_reducible repeat (first | refine blk_drewN ?_ _ | refine blk_drew ?_ | refine blk_alloc ?_ _)); refine blk_put (cs := #[.int .i64 ck, .int .i64 ca, .int .i64 ci, .int .u64 cw, .int .u64 0]) ?_ 4 _ rfl; (with_reducible repeat (first | refine blk_drewN ?_ _ | refine blk_drew ?_ | refine blk_alloc ?_ _)); refine blk_put (cs := #[.int .i64 ck, .int .i64 ca, .int .i64 ci, .int .u64 0, .int .u64 0]) ?_ 3 _ rfl; (with_reducible repeat (first | refine blk_drewN ?_ _ | refine blk_drew ?_ | refine blk_alloc ?_ _)); refine blk_put (cs := #[.int .i64 ck, .int .i64 ca, .int .i64 0, .int .u64 0, .int .u64 0]) ?_ 2 _ rfl; (with_reducible repeat (first | refine blk_drewN ?_ _ | refine blk_drew ?_ | refine blk_alloc ?_ _)); refine blk_put (cs := #[.int .i64 ck, .int .i64 0, .int .i64 0, .int .u64 0, .int .u64 0]) ?_ 1 _ rfl; (with_reducible repeat (first | refine blk_drewN ?_ _ | refine blk_drew ?_ | refine blk_alloc ?_ _)); refine blk_put (cs := #[.int .i64 0, .int .i64 0, .int .i64 0, .int .u64 0, .int .u64 0]) ?_ 0 _ rfl; (with_reducible repeat (first | refine blk_drewN ?_ _ | refine blk_drew ?_ | refine blk_alloc ?_ _)); exact BA8.out.1), BA8.out.2⟩, fun h0_ => absurd ((hoff 11 (by kernel_rfl)).symm.trans h0_) (by decide), fun _ _ => NE.out, (by simpa [World.setCell] using U8.out), (by simpa [World.setCell] using U9.out), Q_X8_, Q_X9_⟩
            refine steps_cons ?_ ?_
            · rintro b a w' ⟨g8, g9, m8_, m9_, ha, Q_HR, Q_BA8, Q_BA9, Q_BX8, Q_BX9, Q_NE, Q_U8, Q_U9, Q_X8_, Q_X9_⟩ hb_ hon hoff
              refine ⟨_, rfl, fun K hK => ?_⟩
              have e9 : a.tmps[9]? = some (m9_) := by rw [ha]; exact putSel_on (e := (9, 9, m9_)) 9 rfl rfl (hon 9 (by kernel_rfl)) rfl
              rw [Q_X9_ (hon 9 (by kernel_rfl))] at e9
              have e43 : a.tmps[43]? = some (.agg #[.int .i64 k2, .int .i64 ca, .int .i64 ci, .int .u64 cs, .int .u64 cw]) := by rw [ha]; exact putSel_on (e := (7, 43, .agg #[.int .i64 k2, .int .i64 ca, .int .i64 ci, .int .u64 cs, .int .u64 cw])) 7 rfl rfl (hon 7 (by kernel_rfl)) rfl
              replace ha := Aside0.mk ha
              have HR := Aside0.mk Q_HR
              have BA9 := Aside0.mk (Q_BA9 (hon 9 (by kernel_rfl)) hb_)
              have BX8 := Aside0.mk (Q_BX8 (hon 10 (by kernel_rfl)))
              have NE := Aside0.mk (Q_NE (hon 8 (by kernel_rfl)) (hon 9 (by kernel_rfl)))
              have U8 := Aside0.mk Q_U8
              have U9 := Aside0.mk Q_U9
              have hq9_0 : w'.cell? ⟨g9, 0, none⟩ = some (.int .i64 0) := (blk_cell BA9.out.1 0).trans rfl
              have hq9_1 : w'.cell? ⟨g9, 1, none⟩ = some (.int .i64 0) := (blk_cell BA9.out.1 1).trans rfl
              have hq9_2 : w'.cell? ⟨g9, 2, none⟩ = some (.int .i64 0) := (blk_cell BA9.out.1 2).trans rfl
              have hq9_3 : w'.cell? ⟨g9, 3, none⟩ = some (.int .u64 0) := (blk_cell BA9.out.1 3).trans rfl
              have hq9_4 : w'.cell? ⟨g9, 4, none⟩ = some (.int .u64 0) := (blk_cell BA9.out.1 4).trans rfl
              have hf9_0 := blk_frozen BA9.out.1 0
              have hf9_1 := blk_frozen BA9.out.1 1
              have hf9_2 := blk_frozen BA9.out.1 2
              have hf9_3 := blk_frozen BA9.out.1 3
              have hf9_4 := blk_frozen BA9.out.1 4
              refine skip_ (w1 := ?_) (by rfl) rfl ?_ ?_
              rotate_left
              · go_simp
                rfl
              refine hK.out _ _ ⟨g8, g9, m8_, m9_, (by rw [ha.out]; exact putSel_none (v := undef) rfl), (by (repeat (refine below_set ?_ BA9.out.2)); exact HR.out), fun _ h1_ => absurd ((hon 10 (by kernel_rfl)).symm.trans h1_) (by decide), fun _ h1_ => absurd ((up_self b 11).symm.trans h1_) (by decide), fun _ => ⟨(by refine blk_far ?_ NE.out _; refine blk_far ?_ NE.out _; refine blk_far ?_ NE.out _; refine blk_far ?_ NE.out _; refine blk_far ?_ NE.out _; exact BX8.out.1), BX8.out.2⟩, fun _ => ⟨(by (with_reducible repeat (first | refine blk_drewN ?_ _ | refine blk_drew ?_ | refine blk_alloc ?_ _)); refine blk_put (cs := #[.int .i64 k2, .int .i64 ca, .int .i64 ci, .int .u64 cs, .int .u64 0]) ?_ 4 _ rfl; (with_reducible repeat (first | refine blk_drewN ?_ _ | refine blk_drew ?_ | refine blk_alloc ?_ _)); refine blk_put (cs := #[.int .i64 k2, .int .i64 ca, .int .i64 ci, .int .u64 0, .int .u64 0]) ?_ 3 _ rfl; (with_reducible repeat (first | refine blk_drewN ?_ _ | refine blk_drew ?_ | refine blk_alloc ?_ _)); refine blk_put (cs := #[.int .i64 k2, .int .i64 ca, .int .i64 0, .int .u64 0, .int .u64 0]) ?_ 2 _ rfl; (with_reducible repeat (first | refine blk_drewN ?_ _ | refine blk_drew ?_ | refine blk_alloc ?_ _)); refine blk_put (cs := #[.int .i64 k2, .int .i64 0, .int .i64 0, .int .u64 0, .int .u64 0]) ?_ 1 _ rfl; (with_reducible repeat (first | refine blk_drewN ?_ _ | refine blk_drew ?_ | refine blk_alloc ?_ _)); refine blk_put (cs := #[.int .i64 0, .int .i64 0, .int .i64 0, .int .u64 0, .int .u64 0]) ?_ 0 _ rfl; (with_reducible repeat (first | refine blk_drewN ?_ _ | refine blk_drew ?_ | refine blk_alloc ?_ _)); exact BA9.out.1), BA9.out.2⟩, fun _ _ => NE.out, (by simpa [World.setCell] using U8.out), (by simpa [World.setCell] using U9.out), Q_X8_, Q_X9_⟩
            exact steps_nil
          rintro b a wx hall ⟨g8, g9, m8_, m9_, ha, Q_HR, Q_BA8, Q_BA9, Q_BX8, Q_BX9, Q_NE, Q_U8, Q_U9, Q_X8_, Q_X9_⟩
          clear HR U8 U9
          have hb0_ := hall 0 (by kernel_rfl)
          have hb1_ := hall 1 (by kernel_rfl)
          have hb2_ := hall 2 (by kernel_rfl)
          have hb3_ := hall 3 (by kernel_rfl)
          have hb4_ := hall 4 (by kernel_rfl)
          have hb5_ := hall 5 (by kernel_rfl)
          have hb6_ := hall 6 (by kernel_rfl)
          have hb7_ := hall 7 (by kernel_rfl)
          have hb8_ := hall 8 (by kernel_rfl)
          have hb9_ := hall 9 (by kernel_rfl)
          have hb10_ := hall 10 (by kernel_rfl)
          have hb11_ := hall 11 (by kernel_rfl)
          subst ha
          obtain rfl := Q_X8_ hb8_
          obtain rfl := Q_X9_ hb9_
          simp only [putSel, hb0_, hb1_, hb2_, hb3_, hb4_, hb5_, hb6_, hb7_, hb8_, hb9_, hb10_, hb11_, if_true, Act.put, List.setIfInBounds_toArray, List.set_cons_zero, List.set_cons_succ]
          have HR := Aside0.mk Q_HR
          clear Q_HR
          clear Q_BA8
          clear Q_BA9
          have BX8 := Aside0.mk (Q_BX8 hb10_)
          clear Q_BX8
          have BX9 := Aside0.mk (Q_BX9 hb11_)
          clear Q_BX9
          have NE := Aside0.mk (Q_NE hb8_ hb9_)
          clear Q_NE
          have U8 := Aside0.mk Q_U8
          clear Q_U8
          have U9 := Aside0.mk Q_U9
          clear Q_U9
          clear hall hb0_ hb1_ hb2_ hb3_ hb4_ hb5_ hb6_ hb7_ hb8_ hb9_ hb10_ hb11_
          have HB2 := Aside0.mk (below_step HB.out HR.out)
          have RA2 := Aside0.mk (Di.row_below RA.out HR.out)
          have RB2 := Aside0.mk (Di.row_below RB.out HR.out)
          clear HB RA RB HR
          have hx8_0 : wx.cell? ⟨g8, 0, none⟩ = some (.int .i64 ck) := (blk_cell BX8.out.1 0).trans rfl
          have hx8_1 : wx.cell? ⟨g8, 1, none⟩ = some (.int .i64 ca) := (blk_cell BX8.out.1 1).trans rfl
          have hx8_2 : wx.cell? ⟨g8, 2, none⟩ = some (.int .i64 ci) := (blk_cell BX8.out.1 2).trans rfl
          have hx8_3 : wx.cell? ⟨g8, 3, none⟩ = some (.int .u64 cw) := (blk_cell BX8.out.1 3).trans rfl
          have hx8_4 : wx.cell? ⟨g8, 4, none⟩ = some (.int .u64 cs) := (blk_cell BX8.out.1 4).trans rfl
          have hx9_0 : wx.cell? ⟨g9, 0, none⟩ = some (.int .i64 k2) := (blk_cell BX9.out.1 0).trans rfl
          have hx9_1 : wx.cell? ⟨g9, 1, none⟩ = some (.int .i64 ca) := (blk_cell BX9.out.1 1).trans rfl
          have hx9_2 : wx.cell? ⟨g9, 2, none⟩ = some (.int .i64 ci) := (blk_cell BX9.out.1 2).trans rfl
          have hx9_3 : wx.cell? ⟨g9, 3, none⟩ = some (.int .u64 cs) := (blk_cell BX9.out.1 3).trans rfl
          have hx9_4 : wx.cell? ⟨g9, 4, none⟩ = some (.int .u64 cw) := (blk_cell BX9.out.1 4).trans rfl
          clear BX8 BX9 NE
          rcases (by omega : ck = 1 ∨ ck = 2 ∨ (¬ ck = 1 ∧ ¬ ck = 2)) with rfl | rfl | ⟨hk1, hk2⟩
          · obtain rfl : k2 = 2 := HK2.out
            clear HK2
            go_wp2
            go_roundw
            case measure => (try rw [hwr]); simp [intOf]; omega
            case rel => exact ⟨i + 1, by omega, by first | rfl | rw [hwr], HB2, RA2, RB2⟩
          · obtain rfl : k2 = 1 := HK2.out
            clear HK2
            go_wp2
            go_roundw
            case measure => (try rw [hwr]); simp [intOf]; omega
            case rel => exact ⟨i + 1, by omega, by first | rfl | rw [hwr], HB2, RA2, RB2⟩
          · obtain rfl : k2 = ck := by rw [HK2.out, if_neg hk1, if_neg hk2]
            clear HK2
            have hd1 : decide (k2 = 1) = false := decide_eq_false hk1
            have hd2 : decide (k2 = 2) = false := decide_eq_false hk2
            go_wp2
            go_roundw
            case measure => (try rw [hwr]); simp [intOf]; omega
            case rel => exact ⟨i + 1, by omega, by first | rfl | rw [hwr], HB2, RA2, RB2⟩
        · obtain rfl : i = n := by omega
          have hd : decide ((i : Int) < (i : Int)) = false := decide_eq_false (by omega)
          go_wp2
          go_ret
          exact ⟨rfl, HB.out⟩
    · go_wp2_with (first | ((with_reducible refine gate_callee (f := 8) rfl ?_); refine goesL_ (some 14) rfl rfl Try.func8 (by kernel_rfl) rfl #[.agg #[.slice ga.rA ga.rl ga.rc, .slice ga.nA ga.nl ga.nc]] rfl (by (try simp only [List.map_toArray, List.map_cons, List.map_nil]); first | done | rfl | (simp only [List.length_drop, List.length_take]; rfl)) ?_; (with_reducible refine (great_no _ B (Nat.le_trans hB HB.out.size) ga (Aside0.mk (HG.out.kept fun k hk => HB.out.block k (by omega))) hna hsa).mono ?_); rintro e w4_ ⟨rfl, hb⟩; refine ⟨_, rfl, ?_⟩; have n0_ := Aside0.mk (below_step (by repeat (first | (with_reducible first | exact HB.out | apply below_alloc | apply pw_below_drewN | apply below_drew1 | refine below_set ?_ GE2.out | refine below_set ?_ GE3.out) | exact HB.out)) hb); have n1_ := Aside0.mk (blk_below (g := g2) (o := .cells #[.slice ga.rA ga.rl ga.rc, .slice ga.nA ga.nl ga.nc] 25 (0, 0)) (by (with_reducible repeat (first | refine blk_drewN ?_ _ | refine blk_drew ?_ | refine blk_alloc ?_ _)); exact BK2.out) hb); have n2_ := Aside0.mk (blk_below (g := g3) (o := .cells #[.slice gb.rA gb.rl gb.rc, .slice gb.nA gb.nl gb.nc] 25 (0, 0)) (by (with_reducible repeat (first | refine blk_drewN ?_ _ | refine blk_drew ?_ | refine blk_alloc ?_ _)); exact BK3.out) hb); clear HB; clear BK2; clear BK3; have HB := n0_; have BK2 := n1_; have BK3 := n2_; clear n0_ n1_ n2_; clear hb; have hc2_0 : w4_.cell? ⟨g2, 0, none⟩ = some (.slice ga.rA ga.rl ga.rc) := (blk_cell BK2.out 0).trans rfl; have hf2_0 := blk_frozen BK2.out 0; have hc2_1 : w4_.cell? ⟨g2, 1, none⟩ = some (.slice ga.nA ga.nl ga.nc) := (blk_cell BK2.out 1).trans rfl; have hf2_1 := blk_frozen BK2.out 1; have hc3_0 : w4_.cell? ⟨g3, 0, none⟩ = some (.slice gb.rA gb.rl gb.rc) := (blk_cell BK3.out 0).trans rfl; have hf3_0 := blk_frozen BK3.out 0; have hc3_1 : w4_.cell? ⟨g3, 1, none⟩ = some (.slice gb.nA gb.nl gb.nc) := (blk_cell BK3.out 1).trans rfl; have hf3_1 := blk_frozen BK3.out 1) | (go_at_call 8; (with_reducible refine (great_yes _ B (Nat.le_trans hB HB.out.size) gb (Aside0.mk (HH.out.kept fun k hk => HB.out.block k (by omega))) hnb hsb).mono ?_); rintro e w5_ ⟨rfl, hb⟩; have n0_ := Aside0.mk (below_step (by repeat (first | (with_reducible first | exact HB.out | apply below_alloc | apply pw_below_drewN | apply below_drew1 | refine below_set ?_ GE2.out | refine below_set ?_ GE3.out) | exact HB.out)) hb); have n1_ := Aside0.mk (blk_below (g := g2) (o := .cells #[.slice ga.rA ga.rl ga.rc, .slice ga.nA ga.nl ga.nc] 25 (0, 0)) (by (with_reducible repeat (first | refine blk_drewN ?_ _ | refine blk_drew ?_ | refine blk_alloc ?_ _)); exact BK2.out) hb); have n2_ := Aside0.mk (blk_below (g := g3) (o := .cells #[.slice gb.rA gb.rl gb.rc, .slice gb.nA gb.nl gb.nc] 25 (0, 0)) (by (with_reducible repeat (first | refine blk_drewN ?_ _ | refine blk_drew ?_ | refine blk_alloc ?_ _)); exact BK3.out) hb); clear HB; clear BK2; clear BK3; have HB := n0_; have BK2 := n1_; have BK3 := n2_; clear n0_ n1_ n2_; clear hb; have hc2_0 : w5_.cell? ⟨g2, 0, none⟩ = some (.slice ga.rA ga.rl ga.rc) := (blk_cell BK2.out 0).trans rfl; have hf2_0 := blk_frozen BK2.out 0; have hc2_1 : w5_.cell? ⟨g2, 1, none⟩ = some (.slice ga.nA ga.nl ga.nc) := (blk_cell BK2.out 1).trans rfl; have hf2_1 := blk_frozen BK2.out 1; have hc3_0 : w5_.cell? ⟨g3, 0, none⟩ = some (.slice gb.rA gb.rl gb.rc) := (blk_cell BK3.out 0).trans rfl; have hf3_0 := blk_frozen BK3.out 0; have hc3_1 : w5_.cell? ⟨g3, 1, none⟩ = some (.slice gb.nA gb.nl gb.nc) := (blk_cell BK3.out 1).trans rfl; have hf3_1 := blk_frozen BK3.out 1))
      go_ret
      exact ⟨rfl, HB.out⟩
  · go_wp2_with ((with_reducible refine gate_callee (f := 8) rfl ?_); refine goesL_ (some 14) rfl rfl Try.func8 (by kernel_rfl) rfl #[.agg #[.slice ga.rA ga.rl ga.rc, .slice ga.nA ga.nl ga.nc]] rfl (by (try simp only [List.map_toArray, List.map_cons, List.map_nil]); first | done | rfl | (simp only [List.length_drop, List.length_take]; rfl)) ?_; (with_reducible refine (great_yes _ B (Nat.le_trans hB HB.out.size) ga (Aside0.mk (HG.out.kept fun k hk => HB.out.block k (by omega))) hna hsa).mono ?_); rintro e w4_ ⟨rfl, hb⟩; refine ⟨_, rfl, ?_⟩; have n0_ := Aside0.mk (below_step (by repeat (first | (with_reducible first | exact HB.out | apply below_alloc | apply pw_below_drewN | apply below_drew1 | refine below_set ?_ GE2.out | refine below_set ?_ GE3.out) | exact HB.out)) hb); have n1_ := Aside0.mk (blk_below (g := g2) (o := .cells #[.slice ga.rA ga.rl ga.rc, .slice ga.nA ga.nl ga.nc] 25 (0, 0)) (by (with_reducible repeat (first | refine blk_drewN ?_ _ | refine blk_drew ?_ | refine blk_alloc ?_ _)); exact BK2.out) hb); have n2_ := Aside0.mk (blk_below (g := g3) (o := .cells #[.slice gb.rA gb.rl gb.rc, .slice gb.nA gb.nl gb.nc] 25 (0, 0)) (by (with_reducible repeat (first | refine blk_drewN ?_ _ | refine blk_drew ?_ | refine blk_alloc ?_ _)); exact BK3.out) hb); clear HB; clear BK2; clear BK3; have HB := n0_; have BK2 := n1_; have BK3 := n2_; clear n0_ n1_ n2_; clear hb; have hc2_0 : w4_.cell? ⟨g2, 0, none⟩ = some (.slice ga.rA ga.rl ga.rc) := (blk_cell BK2.out 0).trans rfl; have hf2_0 := blk_frozen BK2.out 0; have hc2_1 : w4_.cell? ⟨g2, 1, none⟩ = some (.slice ga.nA ga.nl ga.nc) := (blk_cell BK2.out 1).trans rfl; have hf2_1 := blk_frozen BK2.out 1; have hc3_0 : w4_.cell? ⟨g3, 0, none⟩ = some (.slice gb.rA gb.rl gb.rc) := (blk_cell BK3.out 0).trans rfl; have hf3_0 := blk_frozen BK3.out 0; have hc3_1 : w4_.cell? ⟨g3, 1, none⟩ = some (.slice gb.nA gb.nl gb.nc) := (blk_cell BK3.out 1).trans rfl; have hf3_1 := blk_frozen BK3.out 1)
    go_ret
    exact ⟨rfl, HB.out⟩
end Go.Proofs.Ytekggbmajemmhaa.Gr
