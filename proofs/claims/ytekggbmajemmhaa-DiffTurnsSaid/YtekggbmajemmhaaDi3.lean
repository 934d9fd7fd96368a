/- Diff: changes between two graphs without nodes. Conditions: each graph has no nodes, one root. -/
import Derived.Test.YtekggbmajemmhaaDi2
import Derived.Test.YtekggbmajemmhaaWTab
import Derived.Test.YtekggbmajemmhaaWInvWords
import Derived.Test.YtekggbmajemmhaaWInv
namespace Go.Proofs.Ytekggbmajemmhaa.Di
open Go.RowKit Go.Shelf Go.Maps Go.ChangeMaps Go.MapKept Go.Proofs.YtekggbmajemmhaaW.PrintWords Go.Proofs.YtekggbmajemmhaaW.PrintLast Go.Proofs.YtekggbmajemmhaaW.PrintMore
set_option linter.unusedSimpArgs false
set_option linter.unusedVariables false
def c1.T0 : Bool × List (List Nat × List Nat) := (true, [([], []), ([0], [0]), ([], []), ([2, 1], [2]), ([1, 3, 0, 1], [1]), ([3, 4, 0, 1, 2, 3, 4], [3])])
def c1.B0 : List Nat := [0, 1, 0, 7, 15, 31]
theorem c1.tab0 : rtab .any (opsOf Try.f43 0) = c1.T0 := by kernel_rfl
theorem c1.bits0 : waitsOk c1.T0.2 c1.B0 = true := by kernel_rfl
set_option maxHeartbeats 8000000 in
set_option maxRecDepth 100000 in
theorem changes1_calls (w : World) (l g1 g2 xa xb : Nat) (va vb : Int) (hkxa : keyOf Try.prog 3 (.int .i64 va) = some (.int .i64 va)) (hkxb : keyOf Try.prog 3 (.int .i64 vb) = some (.int .i64 vb)) (hcxa : w.cell? ⟨xa, 0, none⟩ = some (.int .i64 va)) (hcxb : w.cell? ⟨xb, 0, none⟩ = some (.int .i64 vb)) (hlxa : xa < w.heap.size) (hlxb : xb < w.heap.size) (hg1 : w.heap[g1]? = some (.cells #[.slice (some ⟨xa, 0, none⟩) 1 1, .slice none 0 0] 25 (0, 0))) (hg2 : w.heap[g2]? = some (.cells #[.slice (some ⟨xb, 0, none⟩) 1 1, .slice none 0 0] 25 (0, 0))) : Calls Try.prog 43 #[.func (.yield l) #[] #[], .pointer (some ⟨g1, 0, none⟩), .pointer (some ⟨g2, 0, none⟩)] w fun e W' => (∃ v, e = .returned v) ∧ Below w.heap.size w W' := by
  have HB := Aside0.mk (Below.refl w.heap.size w)
  have BK1 := Aside0.mk hg1
  have BK2 := Aside0.mk hg2
  clear hg1 hg2
  go_enter Try.func43, Try.ntmps43
  go_upto_region 0 with fail
  refine start_ (n := 6) (S := fun w' => True) (ds := []) #[false, false, false, false, false, false] (by kernel_rfl) rfl rfl trivial (fun hHeld => ?_)
  refine with_tabW c1.tab0 c1.bits0 (fun HT_ HW_ => ?_)
  refine inv_at [0, 1, 2, 3, 4, 5] (fun a0_ b a w' => ∃ (m17 : Nat) (m19 : Nat) (m1_ : Value) (m3_ : Value) (m4_ : Value) (m5_ : Value), a = putSel a0_ b [(0, 16, .agg #[.slice (some ⟨xa, 0, none⟩) 1 1, .slice none 0 0]), (1, 17, m1_), (2, 18, .agg #[.slice (some ⟨xb, 0, none⟩) 1 1, .slice none 0 0]), (3, 19, m3_), (4, 4, m4_), (5, 5, m5_)] ∧ (Below w.heap.size w w') ∧ (w'.heap[g1]? = some (.cells #[.slice (some ⟨xa, 0, none⟩) 1 1, .slice none 0 0] 25 (0, 0))) ∧ (w'.heap[g2]? = some (.cells #[.slice (some ⟨xb, 0, none⟩) 1 1, .slice none 0 0] 25 (0, 0))) ∧ (b 1 = true → EM w' m17) ∧ (b 3 = true → EM w' m19) ∧ (b 1 = true → (m1_ : Value) = .map (some m17)) ∧ (b 3 = true → (m3_ : Value) = .map (some m19)) ∧ (b 4 = true → (m4_ : Value) = .map (some m17)) ∧ (b 5 = true → (m5_ : Value) = .map (some m19))) HT_.out HW_.out (by kernel_rfl) (by kernel_rfl) ?_ ?_ ?_
  · exact ⟨0, 0, .bool false, .bool false, .bool false, .bool false, by simp only [putSel, Bool.false_eq_true, if_false], below_drew1 HB.out, BK1.out, BK2.out, fun h_ => absurd h_ (by decide), fun h_ => absurd h_ (by decide), fun h_ => absurd h_ (by decide), fun h_ => absurd h_ (by decide), fun h_ => absurd h_ (by decide), fun h_ => absurd h_ (by decide)⟩
  · skip
    clear BK1 BK2 HB
    refine steps_cons ?_ ?_
    · rintro b a w' ⟨m17, m19, m1_, m3_, m4_, m5_, ha, Q_HB, Q_BK1, Q_BK2, Q_MP17, Q_MP19, Q_X1_, Q_X3_, Q_X4_, Q_X5_⟩ hb_ hon hoff
      refine ⟨_, rfl, fun K hK => ?_⟩
      have e1 : a.tmps[1]? = some (.pointer (some ⟨g1, 0, none⟩)) := by rw [ha]; exact (putSel_off rfl).trans rfl
      replace ha := Aside0.mk ha
      have HB := Aside0.mk Q_HB
      have BK1 := Aside0.mk Q_BK1
      have BK2 := Aside0.mk Q_BK2
      have hl1_0 : w'.cell? ⟨g1, 0, none⟩ = some (.slice (some ⟨xa, 0, none⟩) 1 1) := (blk_cell BK1.out 0).trans rfl
      have hl1_1 : w'.cell? ⟨g1, 1, none⟩ = some (.slice none 0 0) := (blk_cell BK1.out 1).trans rfl
      refine value_ (w1 := w') (v := .agg #[.slice (some ⟨xa, 0, none⟩) 1 1, .slice none 0 0]) (by rfl) rfl ?_ ?_
      · go_simp
        (try simp only [i64_w])
        try rfl
      refine hK.out _ _ ⟨m17, m19, m1_, m3_, m4_, m5_, (by rw [ha.out]; exact putSel_upk 0 hb_ rfl rfl rfl), Q_HB, Q_BK1, Q_BK2, fun h0_ => absurd ((hoff 1 (by kernel_rfl)).symm.trans h0_) (by decide), fun h0_ => absurd ((hoff 3 (by kernel_rfl)).symm.trans h0_) (by decide), fun h0_ => absurd ((hoff 1 (by kernel_rfl)).symm.trans h0_) (by decide), fun h0_ => absurd ((hoff 3 (by kernel_rfl)).symm.trans h0_) (by decide), fun h0_ => absurd ((hoff 4 (by kernel_rfl)).symm.trans h0_) (by decide), fun h0_ => absurd ((hoff 5 (by kernel_rfl)).symm.trans h0_) (by decide)⟩
    refine steps_cons ?_ ?_
    · rintro b a w' ⟨m17, m19, m1_, m3_, m4_, m5_, ha, Q_HB, Q_BK1, Q_BK2, Q_MP17, Q_MP19, Q_X1_, Q_X3_, Q_X4_, Q_X5_⟩ hb_ hon hoff
      refine ⟨_, rfl, fun K hK => ?_⟩
      have e16 : a.tmps[16]? = some (.agg #[.slice (some ⟨xa, 0, none⟩) 1 1, .slice none 0 0]) := by rw [ha]; exact putSel_on (e := (0, 16, .agg #[.slice (some ⟨xa, 0, none⟩) 1 1, .slice none 0 0])) 0 rfl rfl (hon 0 (by kernel_rfl)) rfl
      replace ha := Aside0.mk ha
      have HB := Aside0.mk Q_HB
      have BK1 := Aside0.mk Q_BK1
      have BK2 := Aside0.mk Q_BK2
      refine goes_ Try.func16 (by kernel_rfl) rfl #[.agg #[.slice (some ⟨xa, 0, none⟩) 1 1, .slice none 0 0]] (by rfl) rfl rfl (by first | (simp only [List.map_toArray, List.map_cons, List.map_nil, Act.eval, Array.getD_eq_getD_getElem?, Option.getD_some, e16]; done) | (simp only [List.map_toArray, List.map_cons, List.map_nil, Act.eval, Array.getD_eq_getD_getElem?, Option.getD_some, e16]; rfl)) ?_
      with_reducible refine (dnodes_calls _ xa va hkxa ((HB.out.cell (p := ⟨xa, 0, none⟩) hlxa).trans hcxa) (Nat.lt_of_lt_of_le hlxa HB.out.size)).mono ?_
      rintro e w3 ⟨m3, rfl, hm3, hg3, hb⟩
      refine ⟨_, rfl, ?_⟩
      refine hK.out _ _ ⟨m3, m19, (.map (some m3)), m3_, m4_, m5_, (by rw [ha.out]; exact putSel_upk 1 hb_ rfl rfl rfl), (below_step HB.out hb), (blk_below BK1.out hb), (blk_below BK2.out hb), fun _ => hm3, fun h0_ => absurd ((hoff 3 (by kernel_rfl)).symm.trans h0_) (by decide), fun _ => rfl, fun h0_ => absurd ((hoff 3 (by kernel_rfl)).symm.trans h0_) (by decide), fun h0_ => absurd ((hoff 4 (by kernel_rfl)).symm.trans h0_) (by decide), fun h0_ => absurd ((hoff 5 (by kernel_rfl)).symm.trans h0_) (by decide)⟩
    refine steps_cons ?_ ?_
    · rintro b a w' ⟨m17, m19, m1_, m3_, m4_, m5_, ha, Q_HB, Q_BK1, Q_BK2, Q_MP17, Q_MP19, Q_X1_, Q_X3_, Q_X4_, Q_X5_⟩ hb_ hon hoff
      refine ⟨_, rfl, fun K hK => ?_⟩
      have e2 : a.tmps[2]? = some (.pointer (some ⟨g2, 0, none⟩)) := by rw [ha]; exact (putSel_off rfl).trans rfl
      replace ha := Aside0.mk ha
      have HB := Aside0.mk Q_HB
      have BK1 := Aside0.mk Q_BK1
      have BK2 := Aside0.mk Q_BK2
      have hl2_0 : w'.cell? ⟨g2, 0, none⟩ = some (.slice (some ⟨xb, 0, none⟩) 1 1) := (blk_cell BK2.out 0).trans rfl
      have hl2_1 : w'.cell? ⟨g2, 1, none⟩ = some (.slice none 0 0) := (blk_cell BK2.out 1).trans rfl
      refine value_ (w1 := w') (v := .agg #[.slice (some ⟨xb, 0, none⟩) 1 1, .slice none 0 0]) (by rfl) rfl ?_ ?_
      · go_simp
        (try simp only [i64_w])
        try rfl
      refine hK.out _ _ ⟨m17, m19, m1_, m3_, m4_, m5_, (by rw [ha.out]; exact putSel_upk 2 hb_ rfl rfl rfl), Q_HB, Q_BK1, Q_BK2, Q_MP17, fun h0_ => absurd ((hoff 3 (by kernel_rfl)).symm.trans h0_) (by decide), Q_X1_, fun h0_ => absurd ((hoff 3 (by kernel_rfl)).symm.trans h0_) (by decide), fun h0_ => absurd ((hoff 4 (by kernel_rfl)).symm.trans h0_) (by decide), fun h0_ => absurd ((hoff 5 (by kernel_rfl)).symm.trans h0_) (by decide)⟩
    refine steps_cons ?_ ?_
    · rintro b a w' ⟨m17, m19, m1_, m3_, m4_, m5_, ha, Q_HB, Q_BK1, Q_BK2, Q_MP17, Q_MP19, Q_X1_, Q_X3_, Q_X4_, Q_X5_⟩ hb_ hon hoff
      refine ⟨_, rfl, fun K hK => ?_⟩
      have e18 : a.tmps[18]? = some (.agg #[.slice (some ⟨xb, 0, none⟩) 1 1, .slice none 0 0]) := by rw [ha]; exact putSel_on (e := (2, 18, .agg #[.slice (some ⟨xb, 0, none⟩) 1 1, .slice none 0 0])) 2 rfl rfl (hon 2 (by kernel_rfl)) rfl
      replace ha := Aside0.mk ha
      have HB := Aside0.mk Q_HB
      have BK1 := Aside0.mk Q_BK1
      have BK2 := Aside0.mk Q_BK2
      have MP17 := Aside0.mk (Q_MP17 (hon 1 (by kernel_rfl)))
      refine goes_ Try.func16 (by kernel_rfl) rfl #[.agg #[.slice (some ⟨xb, 0, none⟩) 1 1, .slice none 0 0]] (by rfl) rfl rfl (by first | (simp only [List.map_toArray, List.map_cons, List.map_nil, Act.eval, Array.getD_eq_getD_getElem?, Option.getD_some, e18]; done) | (simp only [List.map_toArray, List.map_cons, List.map_nil, Act.eval, Array.getD_eq_getD_getElem?, Option.getD_some, e18]; rfl)) ?_
      with_reducible refine (dnodes_calls _ xb vb hkxb ((HB.out.cell (p := ⟨xb, 0, none⟩) hlxb).trans hcxb) (Nat.lt_of_lt_of_le hlxb HB.out.size)).mono ?_
      rintro e w3 ⟨m3, rfl, hm3, hg3, hb⟩
      refine ⟨_, rfl, ?_⟩
      refine hK.out _ _ ⟨m17, m3, m1_, (.map (some m3)), m4_, m5_, (by rw [ha.out]; exact putSel_upk 3 hb_ rfl rfl rfl), (below_step HB.out hb), (blk_below BK1.out hb), (blk_below BK2.out hb), fun _ => (EM.below MP17.out hb), fun _ => hm3, Q_X1_, fun _ => rfl, fun h0_ => absurd ((hoff 4 (by kernel_rfl)).symm.trans h0_) (by decide), fun h0_ => absurd ((hoff 5 (by kernel_rfl)).symm.trans h0_) (by decide)⟩
    refine steps_cons ?_ ?_
    · rintro b a w' ⟨m17, m19, m1_, m3_, m4_, m5_, ha, Q_HB, Q_BK1, Q_BK2, Q_MP17, Q_MP19, Q_X1_, Q_X3_, Q_X4_, Q_X5_⟩ hb_ hon hoff
      refine ⟨_, rfl, fun K hK => ?_⟩
      have e17 : a.tmps[17]? = some (m1_) := by rw [ha]; exact putSel_on (e := (1, 17, m1_)) 1 rfl rfl (hon 1 (by kernel_rfl)) rfl
      rw [Q_X1_ (hon 1 (by kernel_rfl))] at e17
      replace ha := Aside0.mk ha
      have HB := Aside0.mk Q_HB
      have BK1 := Aside0.mk Q_BK1
      have BK2 := Aside0.mk Q_BK2
      have MP17 := Aside0.mk (Q_MP17 (hon 1 (by kernel_rfl)))
      have MP19 := Aside0.mk (Q_MP19 (hon 3 (by kernel_rfl)))
      refine value_ (w1 := w') (v := .map (some m17)) (by rfl) rfl ?_ ?_
      · go_simp
        (try simp only [i64_w])
        try rfl
      refine hK.out _ _ ⟨m17, m19, m1_, m3_, (.map (some m17)), m5_, (by rw [ha.out]; exact putSel_upk 4 hb_ rfl rfl rfl), Q_HB, Q_BK1, Q_BK2, Q_MP17, Q_MP19, Q_X1_, Q_X3_, fun _ => rfl, fun h0_ => absurd ((hoff 5 (by kernel_rfl)).symm.trans h0_) (by decide)⟩
    refine steps_cons ?_ ?_
    · rintro b a w' ⟨m17, m19, m1_, m3_, m4_, m5_, ha, Q_HB, Q_BK1, Q_BK2, Q_MP17, Q_MP19, Q_X1_, Q_X3_, Q_X4_, Q_X5_⟩ hb_ hon hoff
      refine ⟨_, rfl, fun K hK => ?_⟩
      have e19 : a.tmps[19]? = some (m3_) := by rw [ha]; exact putSel_on (e := (3, 19, m3_)) 3 rfl rfl (hon 3 (by kernel_rfl)) rfl
      rw [Q_X3_ (hon 3 (by kernel_rfl))] at e19
      replace ha := Aside0.mk ha
      have HB := Aside0.mk Q_HB
      have BK1 := Aside0.mk Q_BK1
      have BK2 := Aside0.mk Q_BK2
      have MP17 := Aside0.mk (Q_MP17 (hon 1 (by kernel_rfl)))
      have MP19 := Aside0.mk (Q_MP19 (hon 3 (by kernel_rfl)))
      refine value_ (w1 := w') (v := .map (some m19)) (by rfl) rfl ?_ ?_
      · go_simp
        (try simp only [i64_w])
        try rfl
      refine hK.out _ _ ⟨m17, m19, m1_, m3_, m4_, (.map (some m19)), (by rw [ha.out]; exact putSel_upk 5 hb_ rfl rfl rfl), Q_HB, Q_BK1, Q_BK2, Q_MP17, Q_MP19, Q_X1_, Q_X3_, Q_X4_, fun _ => rfl⟩
    exact steps_nil
  rintro b a wz hall ⟨m17, m19, m1_, m3_, m4_, m5_, ha, Q_HB, Q_BK1, Q_BK2, Q_MP17, Q_MP19, Q_X1_, Q_X3_, Q_X4_, Q_X5_⟩
  clear BK1 BK2 HB
  have hb0_ := hall 0 (by kernel_rfl)
  have hb1_ := hall 1 (by kernel_rfl)
  have hb2_ := hall 2 (by kernel_rfl)
  have hb3_ := hall 3 (by kernel_rfl)
  have hb4_ := hall 4 (by kernel_rfl)
  have hb5_ := hall 5 (by kernel_rfl)
  subst ha
  obtain rfl := Q_X1_ hb1_
  obtain rfl := Q_X3_ hb3_
  obtain rfl := Q_X4_ hb4_
  obtain rfl := Q_X5_ hb5_
  simp only [putSel, hb0_, hb1_, hb2_, hb3_, hb4_, hb5_, if_true, Act.put, List.setIfInBounds_toArray, List.set_cons_zero, List.set_cons_succ]
  have HB := Aside0.mk Q_HB
  clear Q_HB
  have BK1 := Aside0.mk Q_BK1
  clear Q_BK1
  have BK2 := Aside0.mk Q_BK2
  clear Q_BK2
  have MP17 := Aside0.mk (Q_MP17 hb1_)
  clear Q_MP17
  have MP19 := Aside0.mk (Q_MP19 hb3_)
  clear Q_MP19
  clear hall hb0_ hb1_ hb2_ hb3_ hb4_ hb5_
  go_upto_region 2 with (first | ((with_reducible refine gate_callee (f := 46) rfl ?_); refine goesL_ (some 21) rfl rfl Try.func46 (by kernel_rfl) rfl #[.map (some m17)] rfl (by (try simp only [List.map_toArray, List.map_cons, List.map_nil]); first | done | rfl | (simp only [List.length_drop, List.length_take]; rfl)) ?_; (with_reducible refine (keys_calls _ (some m17)).mono ?_); rintro e w1_ ⟨g21, rfl, hk21, hg21, hb⟩; refine ⟨_, rfl, ?_⟩; have n0_ := Aside0.mk (below_step (by repeat (first | (with_reducible first | exact HB.out | apply below_alloc | apply pw_below_drewN | apply below_drew1 | refine below_set ?_ GE1.out | refine below_set ?_ GE2.out) | exact HB.out)) hb); have n1_ := Aside0.mk (blk_below (g := g1) (o := .cells #[.slice (some ⟨xa, 0, none⟩) 1 1, .slice none 0 0] 25 (0, 0)) (by (with_reducible repeat (first | refine blk_drewN ?_ _ | refine blk_drew ?_ | refine blk_alloc ?_ _)); exact BK1.out) hb); have n2_ := Aside0.mk (blk_below (g := g2) (o := .cells #[.slice (some ⟨xb, 0, none⟩) 1 1, .slice none 0 0] 25 (0, 0)) (by (with_reducible repeat (first | refine blk_drewN ?_ _ | refine blk_drew ?_ | refine blk_alloc ?_ _)); exact BK2.out) hb); have n3_ := Aside0.mk (EM.below (b := m17) (by (with_reducible repeat (first | refine EM_drewN ?_ _ | refine EM_drew ?_ | refine EM_alloc ?_ _)); exact MP17.out) hb); have n4_ := Aside0.mk (EM.below (b := m19) (by (with_reducible repeat (first | refine EM_drewN ?_ _ | refine EM_drew ?_ | refine EM_alloc ?_ _)); exact MP19.out) hb); clear HB; clear BK1; clear BK2; clear MP17; clear MP19; have HB := n0_; have BK1 := n1_; have BK2 := n2_; have MP17 := n3_; have MP19 := n4_; clear n0_ n1_ n2_ n3_ n4_; clear hb; have BK21 := Aside0.mk hk21; clear hk21) | ((with_reducible refine gate_callee (f := 45) rfl ?_); refine goesL_ (some 22) rfl rfl Try.func45 (by kernel_rfl) rfl #[.func (.func 59) #[] #[.pointer (some ⟨g21, 0, none⟩)]] rfl (by (try simp only [List.map_toArray, List.map_cons, List.map_nil]); first | done | rfl | (simp only [List.length_drop, List.length_take]; rfl)) ?_; (with_reducible refine (collect_calls _ g21 m17 BK21.out MP17.out).mono ?_); rintro e w2_ ⟨rfl, hb⟩; refine ⟨_, rfl, ?_⟩; have n0_ := Aside0.mk (below_step (by repeat (first | (with_reducible first | exact HB.out | apply below_alloc | apply pw_below_drewN | apply below_drew1 | refine below_set ?_ GE1.out | refine below_set ?_ GE2.out | refine below_set ?_ GE21.out) | exact HB.out)) hb); have n1_ := Aside0.mk (blk_below (g := g1) (o := .cells #[.slice (some ⟨xa, 0, none⟩) 1 1, .slice none 0 0] 25 (0, 0)) (by (with_reducible repeat (first | refine blk_drewN ?_ _ | refine blk_drew ?_ | refine blk_alloc ?_ _)); exact BK1.out) hb); have n2_ := Aside0.mk (blk_below (g := g2) (o := .cells #[.slice (some ⟨xb, 0, none⟩) 1 1, .slice none 0 0] 25 (0, 0)) (by (with_reducible repeat (first | refine blk_drewN ?_ _ | refine blk_drew ?_ | refine blk_alloc ?_ _)); exact BK2.out) hb); have n3_ := Aside0.mk (blk_below (g := g21) (o := .cells #[.map (some m17)] 46 (0, 0)) (by (with_reducible repeat (first | refine blk_drewN ?_ _ | refine blk_drew ?_ | refine blk_alloc ?_ _)); exact BK21.out) hb); have n4_ := Aside0.mk (EM.below (b := m17) (by (with_reducible repeat (first | refine EM_drewN ?_ _ | refine EM_drew ?_ | refine EM_alloc ?_ _)); exact MP17.out) hb); have n5_ := Aside0.mk (EM.below (b := m19) (by (with_reducible repeat (first | refine EM_drewN ?_ _ | refine EM_drew ?_ | refine EM_alloc ?_ _)); exact MP19.out) hb); clear HB; clear BK1; clear BK2; clear BK21; clear MP17; clear MP19; have HB := n0_; have BK1 := n1_; have BK2 := n2_; have BK21 := n3_; have MP17 := n4_; have MP19 := n5_; clear n0_ n1_ n2_ n3_ n4_ n5_; clear hb) | ((with_reducible refine gate_callee (f := 46) rfl ?_); refine goesL_ (some 24) rfl rfl Try.func46 (by kernel_rfl) rfl #[.map (some m19)] rfl (by (try simp only [List.map_toArray, List.map_cons, List.map_nil]); first | done | rfl | (simp only [List.length_drop, List.length_take]; rfl)) ?_; (with_reducible refine (keys_calls _ (some m19)).mono ?_); rintro e w3_ ⟨g24, rfl, hk24, hg24, hb⟩; refine ⟨_, rfl, ?_⟩; have n0_ := Aside0.mk (below_step (by repeat (first | (with_reducible first | exact HB.out | apply below_alloc | apply pw_below_drewN | apply below_drew1 | refine below_set ?_ GE1.out | refine below_set ?_ GE2.out | refine below_set ?_ GE21.out) | exact HB.out)) hb); have n1_ := Aside0.mk (blk_below (g := g1) (o := .cells #[.slice (some ⟨xa, 0, none⟩) 1 1, .slice none 0 0] 25 (0, 0)) (by (with_reducible repeat (first | refine blk_drewN ?_ _ | refine blk_drew ?_ | refine blk_alloc ?_ _)); exact BK1.out) hb); have n2_ := Aside0.mk (blk_below (g := g2) (o := .cells #[.slice (some ⟨xb, 0, none⟩) 1 1, .slice none 0 0] 25 (0, 0)) (by (with_reducible repeat (first | refine blk_drewN ?_ _ | refine blk_drew ?_ | refine blk_alloc ?_ _)); exact BK2.out) hb); have n3_ := Aside0.mk (blk_below (g := g21) (o := .cells #[.map (some m17)] 46 (0, 0)) (by (with_reducible repeat (first | refine blk_drewN ?_ _ | refine blk_drew ?_ | refine blk_alloc ?_ _)); exact BK21.out) hb); have n4_ := Aside0.mk (EM.below (b := m17) (by (with_reducible repeat (first | refine EM_drewN ?_ _ | refine EM_drew ?_ | refine EM_alloc ?_ _)); exact MP17.out) hb); have n5_ := Aside0.mk (EM.below (b := m19) (by (with_reducible repeat (first | refine EM_drewN ?_ _ | refine EM_drew ?_ | refine EM_alloc ?_ _)); exact MP19.out) hb); clear HB; clear BK1; clear BK2; clear BK21; clear MP17; clear MP19; have HB := n0_; have BK1 := n1_; have BK2 := n2_; have BK21 := n3_; have MP17 := n4_; have MP19 := n5_; clear n0_ n1_ n2_ n3_ n4_ n5_; clear hb; have BK24 := Aside0.mk hk24; clear hk24) | ((with_reducible refine gate_callee (f := 44) rfl ?_); refine goesL_ (some 25) rfl rfl Try.func44 (by kernel_rfl) rfl #[.slice none 0 0, .func (.func 59) #[] #[.pointer (some ⟨g24, 0, none⟩)]] rfl (by (try simp only [List.map_toArray, List.map_cons, List.map_nil]); first | done | rfl | (simp only [List.length_drop, List.length_take]; rfl)) ?_; (with_reducible refine (appkeys_calls _ g24 m19 BK24.out MP19.out).mono ?_); rintro e w4_ ⟨rfl, hb⟩; refine ⟨_, rfl, ?_⟩; have n0_ := Aside0.mk (below_step (by repeat (first | (with_reducible first | exact HB.out | apply below_alloc | apply pw_below_drewN | apply below_drew1 | refine below_set ?_ GE1.out | refine below_set ?_ GE2.out | refine below_set ?_ GE21.out | refine below_set ?_ GE24.out) | exact HB.out)) hb); have n1_ := Aside0.mk (blk_below (g := g1) (o := .cells #[.slice (some ⟨xa, 0, none⟩) 1 1, .slice none 0 0] 25 (0, 0)) (by (with_reducible repeat (first | refine blk_drewN ?_ _ | refine blk_drew ?_ | refine blk_alloc ?_ _)); exact BK1.out) hb); have n2_ := Aside0.mk (blk_below (g := g2) (o := .cells #[.slice (some ⟨xb, 0, none⟩) 1 1, .slice none 0 0] 25 (0, 0)) (by (with_reducible repeat (first | refine blk_drewN ?_ _ | refine blk_drew ?_ | refine blk_alloc ?_ _)); exact BK2.out) hb); have n3_ := Aside0.mk (blk_below (g := g21) (o := .cells #[.map (some m17)] 46 (0, 0)) (by (with_reducible repeat (first | refine blk_drewN ?_ _ | refine blk_drew ?_ | refine blk_alloc ?_ _)); exact BK21.out) hb); have n4_ := Aside0.mk (blk_below (g := g24) (o := .cells #[.map (some m19)] 46 (0, 0)) (by (with_reducible repeat (first | refine blk_drewN ?_ _ | refine blk_drew ?_ | refine blk_alloc ?_ _)); exact BK24.out) hb); have n5_ := Aside0.mk (EM.below (b := m17) (by (with_reducible repeat (first | refine EM_drewN ?_ _ | refine EM_drew ?_ | refine EM_alloc ?_ _)); exact MP17.out) hb); have n6_ := Aside0.mk (EM.below (b := m19) (by (with_reducible repeat (first | refine EM_drewN ?_ _ | refine EM_drew ?_ | refine EM_alloc ?_ _)); exact MP19.out) hb); clear HB; clear BK1; clear BK2; clear BK21; clear BK24; clear MP17; clear MP19; have HB := n0_; have BK1 := n1_; have BK2 := n2_; have BK21 := n3_; have BK24 := n4_; have MP17 := n5_; have MP19 := n6_; clear n0_ n1_ n2_ n3_ n4_ n5_ n6_; clear hb))
  go_wp2_with (first | (go_at_call 47; refine (sort_calls _).mono ?_; rintro e w' ⟨⟨v, rfl⟩, hw⟩; obtain rfl := hw.symm) | (go_at_call 48; refine (compact_calls _).mono ?_; rintro e w' ⟨rfl, hw⟩; obtain rfl := hw.symm))
  go_loopw [31] (fun v wr => v = .int .i64 0 ∧ wr = w4_) (fun _ _ => 0)
  case atStart => exact ⟨rfl, rfl⟩
  case round =>
    obtain ⟨rfl, hwr⟩ := hrel
    obtain rfl := hwr.symm
    go_wp2
    go_end0
    exact ⟨⟨_, rfl⟩, HB.out⟩
end Go.Proofs.Ytekggbmajemmhaa.Di
