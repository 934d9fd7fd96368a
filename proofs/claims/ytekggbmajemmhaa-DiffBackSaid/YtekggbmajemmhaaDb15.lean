/- Parts of one proof, set together: Gr14, Gr15. What each says stands at its head; no condition beyond theirs. -/
import Derived.Test.YtekggbmajemmhaaDb14
/- Diff: the changes' iterator. Conditions: both graphs lie in memory and are small. -/
namespace Go.Proofs.Ytekggbmajemmhaa.Gr
open Go.RowKit Go.Shelf Go.Maps Go.ChangeMaps Go.MapKept Go.Proofs.YtekggbmajemmhaaW.PrintWords Go.Proofs.YtekggbmajemmhaaW.PrintLast Go.Proofs.YtekggbmajemmhaaW.PrintMore
set_option linter.unusedSimpArgs false
set_option linter.unusedVariables false
attribute [local go_sem] Oper.semAt_some
abbrev encC (c : Ch) : Array Value := #[.agg #[.int .i64 c.k, .int .i64 c.a, .int .i64 c.i, .int .u64 c.was, .int .u64 c.is]]
theorem row44_five {W : World} {X n cap : Nat} {a : Option Addr} {L : List Ch} (h : W.ownsRow X 44 5 (.slice a n cap) n (chs L)) {i : Nat} {c : Ch} (hc : L[i]? = some c) (hi : i < n) :
    ∃ y, a = some y ∧ W.cell? (y.add (i * 5)) = some (.int .i64 c.k) ∧ W.cell? { block := (y.add (i * 5)).block, off := (y.add (i * 5)).off + 1 } = some (.int .i64 c.a) ∧ W.cell? { block := (y.add (i * 5)).block, off := (y.add (i * 5)).off + 2 } = some (.int .i64 c.i) ∧ W.cell? { block := (y.add (i * 5)).block, off := (y.add (i * 5)).off + 3 } = some (.int .u64 c.was) ∧ W.cell? { block := (y.add (i * 5)).block, off := (y.add (i * 5)).off + 4 } = some (.int .u64 c.is) := by
  rcases row44_form h with ⟨_, h0⟩ | ⟨g, cap', e⟩
  · omega
  · cases e
    have h0 := row44_cell h hc 0 (by decide) (.int .i64 c.k) rfl
    have h1 := row44_cell h hc 1 (by decide) (.int .i64 c.a) rfl
    have h2 := row44_cell h hc 2 (by decide) (.int .i64 c.i) rfl
    have h3 := row44_cell h hc 3 (by decide) (.int .u64 c.was) rfl
    have h4 := row44_cell h hc 4 (by decide) (.int .u64 c.is) rfl
    rw [Nat.add_zero] at h0
    have ea : (⟨g, 0, none⟩ : Addr).add (i * 5) = ⟨g, i * 5, none⟩ := by unfold Addr.add; split <;> simp_all
    refine ⟨_, rfl, ?_⟩
    rw [ea]
    exact ⟨h0, h1, h2, h3, h4⟩
def z0.T0 : Bool × List (List Nat × List Nat) := (true, [([], []), ([0], [0]), ([], []), ([2, 1], [2]), ([1, 3, 0, 1], [1]), ([3, 4, 0, 1, 2, 3, 4], [3])])
def z0.B0 : List Nat := [0, 1, 0, 7, 15, 31]
theorem z0.tab0 : rtab .any (opsOf Try.f43 0) = z0.T0 := by kernel_rfl
theorem z0.bits0 : waitsOk z0.T0.2 z0.B0 = true := by kernel_rfl
set_option maxHeartbeats 8000000 in
set_option maxRecDepth 100000 in
theorem changes1_in (n : Nat) (hn : 3 ≤ n) (l g1 g2 B Bo : Nat) (ga gb : Gd) (hsa : Small ga) (hsb : Small gb) (J Jx : List Ch → World → Prop)
    (hY : ∀ pre x W, J pre W → pre.length < 48000 → YieldAt Fence.wide (n - 1) Try.prog l (encC x) W fun e W' =>
      (e = .returned (.bool true) ∧ J (pre ++ [x]) W' ∧ KpC B Bo W W') ∨ (e = .returned (.bool false) ∧ Jx (pre ++ [x]) W'))
    (w : World) (hJ : AbidesFrom w.heap.size J) (hB : B ≤ w.heap.size) (v0 : Value) (hbox : w.heap[Bo]? = some (.cells #[v0] 26 (0, 0))) (hown : ∀ k, v0.ownBlock = some k → k < w.heap.size)
    (hg1 : w.heap[g1]? = some (.cells #[.slice ga.rA ga.rl ga.rc, .slice ga.nA ga.nl ga.nc] 25 (0, 0))) (hg2 : w.heap[g2]? = some (.cells #[.slice gb.rA gb.rl gb.rc, .slice gb.nA gb.nl gb.nc] 25 (0, 0))) (HGA : Aside0 (GM w B ga)) (HGB : Aside0 (GM w B gb)) (h0 : J [] w) :
    CallsIn Fence.wide n Try.prog 43 #[.func (.yield l) #[] #[], .pointer (some ⟨g1, 0, none⟩), .pointer (some ⟨g2, 0, none⟩)] w fun e W' => (∃ v, e = .returned v) ∧
      ((∃ ys, (∃ K, Keys (walkR ga.NS ga.R) (walkR gb.NS gb.R) K ∧ ys = K.flatMap (changeR ga.NS (walkR ga.NS ga.R) gb.NS (walkR gb.NS gb.R))) ∧ J ys W') ∨ (∃ pre, True ∧ Jx pre W')) := by
  refine callsIn_of_wp Try.func43 rfl trivial ?_ rfl
  simp only [Try.ntmps43, List.size_toArray, List.length_cons, List.length_nil, Nat.reduceAdd, Nat.reduceSub, Array.replicate_succ, Array.replicate_zero, List.push_toArray, List.append_toArray, List.nil_append, List.cons_append]
  refine wpIn_wide.2 ?_
  have h1n : 1 ≤ n := by omega
  have HY := Aside0.mk hY
  have HJ := Aside0.mk hJ
  have HJ0 := Aside0.mk h0
  have HB := Aside0.mk (Below.refl w.heap.size w)
  have BK1 := Aside0.mk hg1
  have BK2 := Aside0.mk hg2
  have HBOX := Aside0.mk hbox
  have HOWN := Aside0.mk hown
  clear hY hJ h0 hg1 hg2 hbox hown
  go_upto_region 0 with fail
  refine start_ (n := 6) (S := fun w' => True) (ds := []) #[false, false, false, false, false, false] (by kernel_rfl) rfl rfl trivial (fun hHeld => ?_)
  refine with_tabW z0.tab0 z0.bits0 (fun HT_ HW_ => ?_)
  refine inv_at [0, 1, 2, 3, 4, 5] (fun a0_ b a w' => ∃ (m17 : Nat) (m19 : Nat) (m1_ : Value) (m3_ : Value) (m4_ : Value) (m5_ : Value), a = putSel a0_ b [(0, 16, .agg #[.slice ga.rA ga.rl ga.rc, .slice ga.nA ga.nl ga.nc]), (1, 17, m1_), (2, 18, .agg #[.slice gb.rA gb.rl gb.rc, .slice gb.nA gb.nl gb.nc]), (3, 19, m3_), (4, 4, m4_), (5, 5, m5_)] ∧ (Below w.heap.size w w') ∧ (w'.heap[g1]? = some (.cells #[.slice ga.rA ga.rl ga.rc, .slice ga.nA ga.nl ga.nc] 25 (0, 0))) ∧ (w'.heap[g2]? = some (.cells #[.slice gb.rA gb.rl gb.rc, .slice gb.nA gb.nl gb.nc] 25 (0, 0))) ∧ (b 1 = true → w'.ownsMap Try.prog 3 nR m17 40 (OD ga.NS (walkR ga.NS ga.R)) ∧ w.heap.size ≤ m17) ∧ (b 3 = true → w'.ownsMap Try.prog 3 nR m19 40 (OD gb.NS (walkR gb.NS gb.R)) ∧ w.heap.size ≤ m19) ∧ (b 1 = true → (m1_ : Value) = .map (some m17)) ∧ (b 3 = true → (m3_ : Value) = .map (some m19)) ∧ (b 4 = true → (m4_ : Value) = .map (some m17)) ∧ (b 5 = true → (m5_ : Value) = .map (some m19))) HT_.out HW_.out (by kernel_rfl) (by kernel_rfl) ?_ ?_ ?_
  · exact ⟨0, 0, .bool false, .bool false, .bool false, .bool false, by simp only [putSel, Bool.false_eq_true, if_false], below_drew1 HB.out, BK1.out, BK2.out, fun h_ => absurd h_ (by decide), fun h_ => absurd h_ (by decide), fun h_ => absurd h_ (by decide), fun h_ => absurd h_ (by decide), fun h_ => absurd h_ (by decide), fun h_ => absurd h_ (by decide)⟩
  · skip
    clear BK1 BK2 HB
    refine steps_cons ?_ ?_
    · rintro b a w' ⟨m17, m19, m1_, m3_, m4_, m5_, ha, Q_HB, Q_BK1, Q_BK2, Q_MP17, Q_MP19, Q_X1_, Q_X3_, Q_X4_, Q_X5_⟩ hb_ hon hoff
      refine ⟨_, rfl, fun K hK => ?_⟩
      have e1 : a.tmps[1]? = some (.pointer (some ⟨g1, 0, none⟩)) := by rw [ha]; exact (putSel_off rfl).trans rfl
      replace ha := Aside0.mk ha
      have HB := Aside0.mk Q_HB
      have BK1 := Aside0.mk Q_BK1
      have BK2 := Aside0.mk Q_BK2
      have hl1_0 : w'.cell? ⟨g1, 0, none⟩ = some (.slice ga.rA ga.rl ga.rc) := (blk_cell BK1.out 0).trans rfl
      have hl1_1 : w'.cell? ⟨g1, 1, none⟩ = some (.slice ga.nA ga.nl ga.nc) := (blk_cell BK1.out 1).trans rfl
      refine value_ (w1 := w') (v := .agg #[.slice ga.rA ga.rl ga.rc, .slice ga.nA ga.nl ga.nc]) (by rfl) rfl ?_ ?_
      · go_simp
        (try simp only [i64_w])
        try rfl
      refine hK.out _ _ ⟨m17, m19, m1_, m3_, m4_, m5_, (by rw [ha.out]; exact putSel_upk 0 hb_ rfl rfl rfl), Q_HB, Q_BK1, Q_BK2, fun h0_ => absurd ((hoff 1 (by kernel_rfl)).symm.trans h0_) (by decide), fun h0_ => absurd ((hoff 3 (by kernel_rfl)).symm.trans h0_) (by decide), fun h0_ => absurd ((hoff 1 (by kernel_rfl)).symm.trans h0_) (by decide), fun h0_ => absurd ((hoff 3 (by kernel_rfl)).symm.trans h0_) (by decide), fun h0_ => absurd ((hoff 4 (by kernel_rfl)).symm.trans h0_) (by decide), fun h0_ => absurd ((hoff 5 (by kernel_rfl)).symm.trans h0_) (by decide)⟩
    refine steps_cons ?_ ?_
    · rintro b a w' ⟨m17, m19, m1_, m3_, m4_, m5_, ha, Q_HB, Q_BK1, Q_BK2, Q_MP17, Q_MP19, Q_X1_, Q_X3_, Q_X4_, Q_X5_⟩ hb_ hon hoff
      refine ⟨_, rfl, fun K hK => ?_⟩
      have e16 : a.tmps[16]? = some (.agg #[.slice ga.rA ga.rl ga.rc, .slice ga.nA ga.nl ga.nc]) := by rw [ha]; exact putSel_on (e := (0, 16, .agg #[.slice ga.rA ga.rl ga.rc, .slice ga.nA ga.nl ga.nc])) 0 rfl rfl (hon 0 (by kernel_rfl)) rfl
      replace ha := Aside0.mk ha
      have HB := Aside0.mk Q_HB
      have BK1 := Aside0.mk Q_BK1
      have BK2 := Aside0.mk Q_BK2
      refine goes_ Try.func16 (by kernel_rfl) rfl #[.agg #[.slice ga.rA ga.rl ga.rc, .slice ga.nA ga.nl ga.nc]] (by rfl) rfl rfl (by first | (simp only [List.map_toArray, List.map_cons, List.map_nil, Act.eval, Array.getD_eq_getD_getElem?, Option.getD_some, e16]; done) | (simp only [List.map_toArray, List.map_cons, List.map_nil, Act.eval, Array.getD_eq_getD_getElem?, Option.getD_some, e16]; rfl)) ?_
      with_reducible refine (dnodes_calls _ ga B (Nat.le_trans hB HB.out.size) (Aside0.mk (HGA.out.kept (fun k hk => HB.out.block k (by omega)))) hsa).mono ?_
      rintro e w3 ⟨m3, rfl, hm3, hg3, hb⟩
      refine ⟨_, rfl, ?_⟩
      refine hK.out _ _ ⟨m3, m19, (.map (some m3)), m3_, m4_, m5_, (by rw [ha.out]; exact putSel_upk 1 hb_ rfl rfl rfl), (below_step HB.out hb), (blk_below BK1.out hb), (blk_below BK2.out hb), fun _ => ⟨hm3, Nat.le_trans (below_size HB.out) hg3⟩, fun h0_ => absurd ((hoff 3 (by kernel_rfl)).symm.trans h0_) (by decide), fun _ => rfl, fun h0_ => absurd ((hoff 3 (by kernel_rfl)).symm.trans h0_) (by decide), fun h0_ => absurd ((hoff 4 (by kernel_rfl)).symm.trans h0_) (by decide), fun h0_ => absurd ((hoff 5 (by kernel_rfl)).symm.trans h0_) (by decide)⟩
    refine steps_cons ?_ ?_
    · rintro b a w' ⟨m17, m19, m1_, m3_, m4_, m5_, ha, Q_HB, Q_BK1, Q_BK2, Q_MP17, Q_MP19, Q_X1_, Q_X3_, Q_X4_, Q_X5_⟩ hb_ hon hoff
      refine ⟨_, rfl, fun K hK => ?_⟩
      have e2 : a.tmps[2]? = some (.pointer (some ⟨g2, 0, none⟩)) := by rw [ha]; exact (putSel_off rfl).trans rfl
      replace ha := Aside0.mk ha
      have HB := Aside0.mk Q_HB
      have BK1 := Aside0.mk Q_BK1
      have BK2 := Aside0.mk Q_BK2
      have hl2_0 : w'.cell? ⟨g2, 0, none⟩ = some (.slice gb.rA gb.rl gb.rc) := (blk_cell BK2.out 0).trans rfl
      have hl2_1 : w'.cell? ⟨g2, 1, none⟩ = some (.slice gb.nA gb.nl gb.nc) := (blk_cell BK2.out 1).trans rfl
      refine value_ (w1 := w') (v := .agg #[.slice gb.rA gb.rl gb.rc, .slice gb.nA gb.nl gb.nc]) (by rfl) rfl ?_ ?_
      · go_simp
        (try simp only [i64_w])
        try rfl
      refine hK.out _ _ ⟨m17, m19, m1_, m3_, m4_, m5_, (by rw [ha.out]; exact putSel_upk 2 hb_ rfl rfl rfl), Q_HB, Q_BK1, Q_BK2, Q_MP17, fun h0_ => absurd ((hoff 3 (by kernel_rfl)).symm.trans h0_) (by decide), Q_X1_, fun h0_ => absurd ((hoff 3 (by kernel_rfl)).symm.trans h0_) (by decide), fun h0_ => absurd ((hoff 4 (by kernel_rfl)).symm.trans h0_) (by decide), fun h0_ => absurd ((hoff 5 (by kernel_rfl)).symm.trans h0_) (by decide)⟩
    refine steps_cons ?_ ?_
    · rintro b a w' ⟨m17, m19, m1_, m3_, m4_, m5_, ha, Q_HB, Q_BK1, Q_BK2, Q_MP17, Q_MP19, Q_X1_, Q_X3_, Q_X4_, Q_X5_⟩ hb_ hon hoff
      refine ⟨_, rfl, fun K hK => ?_⟩
      have e18 : a.tmps[18]? = some (.agg #[.slice gb.rA gb.rl gb.rc, .slice gb.nA gb.nl gb.nc]) := by rw [ha]; exact putSel_on (e := (2, 18, .agg #[.slice gb.rA gb.rl gb.rc, .slice gb.nA gb.nl gb.nc])) 2 rfl rfl (hon 2 (by kernel_rfl)) rfl
      replace ha := Aside0.mk ha
      have HB := Aside0.mk Q_HB
      have BK1 := Aside0.mk Q_BK1
      have BK2 := Aside0.mk Q_BK2
      have MP17 := Aside0.mk (Q_MP17 (hon 1 (by kernel_rfl)))
      refine goes_ Try.func16 (by kernel_rfl) rfl #[.agg #[.slice gb.rA gb.rl gb.rc, .slice gb.nA gb.nl gb.nc]] (by rfl) rfl rfl (by first | (simp only [List.map_toArray, List.map_cons, List.map_nil, Act.eval, Array.getD_eq_getD_getElem?, Option.getD_some, e18]; done) | (simp only [List.map_toArray, List.map_cons, List.map_nil, Act.eval, Array.getD_eq_getD_getElem?, Option.getD_some, e18]; rfl)) ?_
      with_reducible refine (dnodes_calls _ gb B (Nat.le_trans hB HB.out.size) (Aside0.mk (HGB.out.kept (fun k hk => HB.out.block k (by omega)))) hsb).mono ?_
      rintro e w3 ⟨m3, rfl, hm3, hg3, hb⟩
      refine ⟨_, rfl, ?_⟩
      refine hK.out _ _ ⟨m17, m3, m1_, (.map (some m3)), m4_, m5_, (by rw [ha.out]; exact putSel_upk 3 hb_ rfl rfl rfl), (below_step HB.out hb), (blk_below BK1.out hb), (blk_below BK2.out hb), fun _ => ⟨owns_below MP17.out.1 hb, MP17.out.2⟩, fun _ => ⟨hm3, Nat.le_trans (below_size HB.out) hg3⟩, Q_X1_, fun _ => rfl, fun h0_ => absurd ((hoff 4 (by kernel_rfl)).symm.trans h0_) (by decide), fun h0_ => absurd ((hoff 5 (by kernel_rfl)).symm.trans h0_) (by decide)⟩
    refine steps_cons ?_ ?_
    · rintro b a w' ⟨m17, m19, m1_, m3_, m4_, m5_, ha, Q_HB, Q_BK1, Q_BK2, Q_MP17, Q_MP19, Q_X1_, Q_X3_, Q_X4_, Q_X5_⟩ hb_ hon hoff
      refine ⟨_, rfl, fun K hK => ?_⟩
      have e17 : a.tmps[17]? = some (m1_) := by rw [ha]; exact putSel_on (e := (1, 17, m1_)) 1 rfl rfl (hon 1 (by kernel_rfl)) rfl
      rw [Q_X1_ (hon 1 (by kernel_rfl))] at e17
      replace ha := Aside0.mk ha
      have HB := Aside0.mk Q_HB
      have BK1 := Aside0.mk Q_BK1
      have BK2 := Aside0.mk Q_BK2
      have MP17 := Aside0.mk (Q_MP17 (hon 1 (by kernel_rfl)))
      have MP19 := Aside0.mk (Q_MP19 (hon 3 (by kernel_rfl)))
      refine value_ (w1 := w') (v := .map (some m17)) (by rfl) rfl ?_ ?_
      · go_simp
        (try simp only [i64_w])
        try rfl
      refine hK.out _ _ ⟨m17, m19, m1_, m3_, (.map (some m17)), m5_, (by rw [ha.out]; exact putSel_upk 4 hb_ rfl rfl rfl), Q_HB, Q_BK1, Q_BK2, Q_MP17, Q_MP19, Q_X1_, Q_X3_, fun _ => rfl, fun h0_ => absurd ((hoff 5 (by kernel_rfl)).symm.trans h0_) (by decide)⟩
    refine steps_cons ?_ ?_
    · rintro b a w' ⟨m17, m19, m1_, m3_, m4_, m5_, ha, Q_HB, Q_BK1, Q_BK2, Q_MP17, Q_MP19, Q_X1_, Q_X3_, Q_X4_, Q_X5_⟩ hb_ hon hoff
      refine ⟨_, rfl, fun K hK => ?_⟩
      have e19 : a.tmps[19]? = some (m3_) := by rw [ha]; exact putSel_on (e := (3, 19, m3_)) 3 rfl rfl (hon 3 (by kernel_rfl)) rfl
      rw [Q_X3_ (hon 3 (by kernel_rfl))] at e19
      replace ha := Aside0.mk ha
      have HB := Aside0.mk Q_HB
      have BK1 := Aside0.mk Q_BK1
      have BK2 := Aside0.mk Q_BK2
      have MP17 := Aside0.mk (Q_MP17 (hon 1 (by kernel_rfl)))
      have MP19 := Aside0.mk (Q_MP19 (hon 3 (by kernel_rfl)))
      refine value_ (w1 := w') (v := .map (some m19)) (by rfl) rfl ?_ ?_
      · go_simp
        (try simp only [i64_w])
        try rfl
      refine hK.out _ _ ⟨m17, m19, m1_, m3_, m4_, (.map (some m19)), (by rw [ha.out]; exact putSel_upk 5 hb_ rfl rfl rfl), Q_HB, Q_BK1, Q_BK2, Q_MP17, Q_MP19, Q_X1_, Q_X3_, Q_X4_, fun _ => rfl⟩
    exact steps_nil
  rintro b a wz hall ⟨m17, m19, m1_, m3_, m4_, m5_, ha, Q_HB, Q_BK1, Q_BK2, Q_MP17, Q_MP19, Q_X1_, Q_X3_, Q_X4_, Q_X5_⟩
  clear BK1 BK2 HB
  have hb0_ := hall 0 (by kernel_rfl)
  have hb1_ := hall 1 (by kernel_rfl)
  have hb2_ := hall 2 (by kernel_rfl)
  have hb3_ := hall 3 (by kernel_rfl)
  have hb4_ := hall 4 (by kernel_rfl)
  have hb5_ := hall 5 (by kernel_rfl)
  subst ha
  obtain rfl := Q_X1_ hb1_
  obtain rfl := Q_X3_ hb3_
  obtain rfl := Q_X4_ hb4_
  obtain rfl := Q_X5_ hb5_
  simp only [putSel, hb0_, hb1_, hb2_, hb3_, hb4_, hb5_, if_true, Act.put, List.setIfInBounds_toArray, List.set_cons_zero, List.set_cons_succ]
  have HB := Aside0.mk Q_HB
  clear Q_HB
  have BK1 := Aside0.mk Q_BK1
  clear Q_BK1
  have BK2 := Aside0.mk Q_BK2
  clear Q_BK2
  have MP17 := Aside0.mk (Q_MP17 hb1_)
  clear Q_MP17
  have MP19 := Aside0.mk (Q_MP19 hb3_)
  clear Q_MP19
  clear hall hb0_ hb1_ hb2_ hb3_ hb4_ hb5_
  have GM17 := Aside0.mk MP17.out.2
  have GM19 := Aside0.mk MP19.out.2
  have MP17 := Aside0.mk MP17.out.1
  have MP19 := Aside0.mk MP19.out.1
  clear BK1 BK2
  go_upto_region 2 with (first | ((with_reducible refine gate_callee (f := 46) rfl ?_); refine goesL_ (some 21) rfl rfl Try.func46 (by kernel_rfl) rfl #[.map (some m17)] rfl (by (try simp only [List.map_toArray, List.map_cons, List.map_nil]); first | done | rfl | (simp only [List.length_drop, List.length_take]; rfl)) ?_; (with_reducible refine (keys_calls _ (some m17)).mono ?_); rintro e w1_ ⟨g21, rfl, hk21, hg21, hb⟩; refine ⟨_, rfl, ?_⟩; have n0_ := Aside0.mk (below_step (by repeat (first | (with_reducible first | exact HB.out | apply below_alloc | apply pw_below_drewN | apply below_drew1) | exact HB.out)) hb); have n1_ := Aside0.mk (owns_below (b := m17) (by (with_reducible repeat (first | refine owns_drewN ?_ _ | refine owns_drew ?_ | refine owns_alloc ?_ _)); exact MP17.out) hb); have n2_ := Aside0.mk (owns_below (b := m19) (by (with_reducible repeat (first | refine owns_drewN ?_ _ | refine owns_drew ?_ | refine owns_alloc ?_ _)); exact MP19.out) hb); clear HB; clear MP17; clear MP19; have HB := n0_; have MP17 := n1_; have MP19 := n2_; clear n0_ n1_ n2_; clear hb; have BK21 := Aside0.mk hk21; clear hk21) | ((with_reducible refine gate_callee (f := 45) rfl ?_); refine goesL_ (some 22) rfl rfl Try.func45 (by kernel_rfl) rfl #[.func (.func 59) #[] #[.pointer (some ⟨g21, 0, none⟩)]] rfl (by (try simp only [List.map_toArray, List.map_cons, List.map_nil]); first | done | rfl | (simp only [List.length_drop, List.length_take]; rfl)) ?_; (with_reducible refine (collect_calls _ _ (Nat.le_refl _) g21 m17 40 _ BK21.out MP17.out (World.ownsMap.size_le MP17.out)).mono ?_); rintro e w2_ ⟨v22, ss1, rfl, hs1, hl1, hr1, hb, _⟩; refine ⟨_, rfl, ?_⟩; have HB0 := HB; have n0_ := Aside0.mk (below_step (by repeat (first | (with_reducible first | exact HB.out | apply below_alloc | apply pw_below_drewN | apply below_drew1 | refine below_set ?_ GE21.out) | exact HB.out)) hb); have n1_ := Aside0.mk (blk_below (g := g21) (o := .cells #[.map (some m17)] 46 (0, 0)) (by (with_reducible repeat (first | refine blk_drewN ?_ _ | refine blk_drew ?_ | refine blk_alloc ?_ _)); exact BK21.out) hb); have n2_ := Aside0.mk (owns_below (b := m17) (by (with_reducible repeat (first | refine owns_drewN ?_ _ | refine owns_drew ?_ | refine owns_alloc ?_ _)); exact MP17.out) hb); have n3_ := Aside0.mk (owns_below (b := m19) (by (with_reducible repeat (first | refine owns_drewN ?_ _ | refine owns_drew ?_ | refine owns_alloc ?_ _)); exact MP19.out) hb); clear HB; clear BK21; clear MP17; clear MP19; have HB := n0_; have BK21 := n1_; have MP17 := n2_; have MP19 := n3_; clear n0_ n1_ n2_ n3_; clear hb; obtain ⟨a22, c22, rfl, _⟩ := row_form hr1; have RW1 := Aside0.mk (Di.row_mono hr1 (below_size HB0.out)); have HS1 := Aside0.mk hs1; have HL1 := Aside0.mk hl1; clear hr1 hs1 hl1) | ((with_reducible refine gate_callee (f := 46) rfl ?_); refine goesL_ (some 24) rfl rfl Try.func46 (by kernel_rfl) rfl #[.map (some m19)] rfl (by (try simp only [List.map_toArray, List.map_cons, List.map_nil]); first | done | rfl | (simp only [List.length_drop, List.length_take]; rfl)) ?_; (with_reducible refine (keys_calls _ (some m19)).mono ?_); rintro e w3_ ⟨g24, rfl, hk24, hg24, hb⟩; refine ⟨_, rfl, ?_⟩; have hbR := hb; have n0_ := Aside0.mk (below_step (by repeat (first | (with_reducible first | exact HB.out | apply below_alloc | apply pw_below_drewN | apply below_drew1 | refine below_set ?_ GE21.out) | exact HB.out)) hb); have n1_ := Aside0.mk (blk_below (g := g21) (o := .cells #[.map (some m17)] 46 (0, 0)) (by (with_reducible repeat (first | refine blk_drewN ?_ _ | refine blk_drew ?_ | refine blk_alloc ?_ _)); exact BK21.out) hb); have n2_ := Aside0.mk (owns_below (b := m17) (by (with_reducible repeat (first | refine owns_drewN ?_ _ | refine owns_drew ?_ | refine owns_alloc ?_ _)); exact MP17.out) hb); have n3_ := Aside0.mk (owns_below (b := m19) (by (with_reducible repeat (first | refine owns_drewN ?_ _ | refine owns_drew ?_ | refine owns_alloc ?_ _)); exact MP19.out) hb); clear HB; clear BK21; clear MP17; clear MP19; have HB := n0_; have BK21 := n1_; have MP17 := n2_; have MP19 := n3_; clear n0_ n1_ n2_ n3_; clear hb; have BK24 := Aside0.mk hk24; clear hk24; have RW2 := Aside0.mk (Di.row_below RW1.out hbR)) | ((with_reducible refine gate_callee (f := 44) rfl ?_); refine goesL_ (some 25) rfl rfl Try.func44 (by kernel_rfl) rfl #[.slice a22 ss1.length c22, .func (.func 59) #[] #[.pointer (some ⟨g24, 0, none⟩)]] rfl (by (try simp only [List.map_toArray, List.map_cons, List.map_nil]); first | done | rfl) ?_; (with_reducible refine (appkeys_calls _ w.heap.size HB.out.size a22 ss1.length c22 ss1 RW2.out HL1.out g24 m19 40 _ BK24.out MP19.out (World.ownsMap.size_le MP19.out)).mono ?_); rintro e w25 ⟨v25, ss2, rfl, hs2, hl2, hr2, hb25, hko⟩; refine ⟨_, rfl, ?_⟩; obtain ⟨nk, hnk⟩ : ∃ q, q = (ss1 ++ ss2).length := ⟨_, rfl⟩; rw [← hnk] at hr2; have HNK0 := Aside0.mk hnk; clear hnk; obtain ⟨a25, c25, rfl, _⟩ := row_form hr2; have RW := Aside0.mk hr2; have HS2 := Aside0.mk hs2; have HL2 := Aside0.mk hl2; have HBN := Aside0.mk (HB.out.trans hb25); have M1N := Aside0.mk (map_same MP17.out (fun o ho hw => hko.same _ o ho (Obj.not_cells_of_walk hw))); have M2N := Aside0.mk (map_same MP19.out (fun o ho hw => hko.same _ o ho (Obj.not_cells_of_walk hw))); clear hs2 hl2 hr2 hb25 hko))
  have hnl : nk ≤ 80 := by have := HL1.out; have := HL2.out; rw [HNK0.out, List.length_append]; omega
  obtain ⟨all, hall⟩ : ∃ l, l = ss1 ++ ss2 := ⟨_, rfl⟩
  rw [← hall] at RW
  have HNK := Aside0.mk (show nk = all.length by rw [hall]; exact HNK0.out)
  have HALL := Aside0.mk (show ∀ x, x ∈ all ↔ x ∈ walkR ga.NS ga.R ∨ x ∈ walkR gb.NS gb.R from fun x => by
    rw [hall, List.mem_append, HS1.out x, HS2.out x, show (Lit.int .i64 x) = key x from rfl, OD_has, OD_has, decide_eq_true_iff, decide_eq_true_iff])
  clear hall
  go_upto_region 3 with (go_at_call 47; refine (sort_calls _ w.heap.size HBN.out.size a25 nk c25 all RW.out hnl).mono ?_; rintro e w26 ⟨⟨v26, rfl⟩, hr, hb, hko⟩; have RWS := Aside0.mk hr; have HB6 := Aside0.mk (HBN.out.trans hb); have M16 := Aside0.mk (map_same M1N.out (fun o ho hw => hko.same _ o ho (Obj.not_cells_of_walk hw))); have M26 := Aside0.mk (map_same M2N.out (fun o ho hw => hko.same _ o ho (Obj.not_cells_of_walk hw))); clear hr hb hko)
  have HKEYS := Aside0.mk (keys_of HALL.out)
  obtain ⟨K, hK⟩ : ∃ K, K = Lib.compact (srt all) := ⟨_, rfl⟩
  have hKn : K.length ≤ 80 := by rw [hK]; have := Lib.compact_length_le (srt all); have := srt_len all; have := HNK.out; omega
  have HCC := Aside0.mk (show _ from compact_calls w26 w.heap.size HB6.out.size a25 nk c25 (srt all) RWS.out hnl)
  rw [← hK] at HKEYS HCC
  clear hK
  have HXB := Aside0.mk (show ∀ k, v0.ownBlock = some k → k < w.heap.size from HOWN.out)
  go_upto_region 4 with (go_at_call 48; refine HCC.out.mono ?_; rintro e w27 ⟨rfl, hr, hb, hko⟩; have RWK := Aside0.mk hr; have HB7 := Aside0.mk (HB6.out.trans hb); have M17 := Aside0.mk (map_same M16.out (fun o ho hw => hko.same _ o ho (Obj.not_cells_of_walk hw))); have M27 := Aside0.mk (map_same M26.out (fun o ho hw => hko.same _ o ho (Obj.not_cells_of_walk hw))); clear hr hb hko)
  have hBoLt := blk_lt HBOX.out
  have HCS := Aside0.mk (show CS w27 ⟨w.heap.size, B, Bo, m17, m19, a25, c25⟩ ga gb K v0 from ⟨M17.out, M27.out, RWK.out, HGA.out.kept (fun k hk => HB7.out.block k (by omega)), HGB.out.kept (fun k hk => HB7.out.block k (by omega)), (HB7.out.block Bo hBoLt).trans HBOX.out, fun k hk => by
    have h1 := HXB.out k hk
    have h2 := HB7.out.size
    have h3 := GM17.out
    have h4 := GM19.out
    exact ⟨by omega, by show k ≠ m17; omega, by show k ≠ m19; omega, fun e => by have := (RWK.out.lt k e).1; omega⟩, Nat.le_trans hB HB7.out.size⟩)
  have HJ1 := Aside0.mk (show J ((K.take 0).flatMap (changeR ga.NS (walkR ga.NS ga.R) gb.NS (walkR gb.NS gb.R))) w27 from HJ.out [] w w27 none HJ0.out (grown_of_below HB7.out) (fun r e => by cases e))
  have HWS := Aside0.mk HB7.out.size
  have HWA := Aside0.mk (show ∀ x ∈ K, (Lit.int .i64 x).wf = true from fun x hx => by
    rcases (HKEYS.out.2 x).1 hx with h | h
    · obtain ⟨n_, hn_⟩ := walkR_find h
      rw [← find_adr hn_]
      exact HGA.out.ok n_ (find_mem hn_)
    · obtain ⟨n_, hn_⟩ := walkR_find h
      rw [← find_adr hn_]
      exact HGB.out.ok n_ (find_mem hn_))
  clear M17 M27 RWK HB7 HXB HOWN HBOX HGA HGB HJ0 M16 M26 HB6 RWS HCC HALL HNK HNK0 RW HS1 HS2 HL1 HL2 RW1 RW2 MP17 MP19 M1N M2N HBN HB BK21 BK24 HB0 hbR hBoLt
  go_loopw [31] (fun v wr => ∃ (j : Nat) (vb : Value), j ≤ K.length ∧ v = .int .i64 (j : Int) ∧ Aside0 (J ((K.take j).flatMap (changeR ga.NS (walkR ga.NS ga.R) gb.NS (walkR gb.NS gb.R))) wr) ∧ Aside0 (CS wr ⟨w.heap.size, B, Bo, m17, m19, a25, c25⟩ ga gb K vb) ∧ Aside0 (w.heap.size ≤ wr.heap.size)) (fun v _ => K.length - (intOf v).toNat)
  case atStart => exact ⟨0, v0, by omega, rfl, HJ1, HCS, HWS⟩
  case round =>
    clear HJ1 HCS HWS
    obtain ⟨j, vb, hj, rfl, HJ1, HCS, HWS⟩ := hrel
    by_cases hgo : j < K.length
    · have hd : decide ((j : Int) < (K.length : Int)) = true := decide_eq_true (by omega)
      have hj0 : (0 : Int) ≤ (j : Int) := by omega
      have hj1 : (j : Int) < (K.length : Int) := by omega
      obtain ⟨y0, e, hyc⟩ := row_cell HCS.out.row j hgo
      replace e : a25 = some y0 := e
      subst e
      obtain ⟨k, hk_⟩ : ∃ x, x = K.getD j 0 := ⟨_, rfl⟩
      rw [← hk_] at hyc
      have hkm : k ∈ K := by rw [hk_, List.getD_eq_getElem?_getD, List.getElem?_eq_getElem hgo]; exact List.getElem_mem hgo
      have hwf := HWA.out k hkm
      have HKM := Aside0.mk hkm
      have HKJ := Aside0.mk hk_
      clear hk_ hkm
      obtain ⟨x, hx_⟩ : ∃ x, x = nd ga.NS (walkR ga.NS ga.R) k := ⟨_, rfl⟩
      obtain ⟨y, hy_⟩ : ∃ x, x = nd gb.NS (walkR gb.NS gb.R) k := ⟨_, rfl⟩
      obtain ⟨was, hwas⟩ : ∃ x, x = decide (k ∈ walkR ga.NS ga.R) := ⟨_, rfl⟩
      obtain ⟨isb, hisb⟩ : ∃ x, x = decide (k ∈ walkR gb.NS gb.R) := ⟨_, rfl⟩
      have hl1 := look_out HCS.out.o1 hwf
      rw [← hx_, ← hwas] at hl1
      replace hl1 : (Instr.lookup 46 (.map (some m17)) (.int .i64 k) true).run Try.prog wr = .ok (.tuple #[.agg #[.int .i64 x.adr, .int .i64 x.refs, .int .i64 x.sl, .int .i64 x.words, .slice x.A x.m x.c, .slice x.B x.n x.d], .bool was]) wr := hl1
      have HDX := Aside0.mk (show DL wr B x by rw [hx_]; exact nd_DL HCS.out.ga _ k)
      have HDY := Aside0.mk (show DL wr B y by rw [hy_]; exact nd_DL HCS.out.gb _ k)
      have hxs : x.m ≤ 300 ∧ x.n ≤ 300 := by rw [hx_]; exact nd_small hsa _ k
      have HXE := Aside0.mk hx_
      have HYE := Aside0.mk hy_
      have HWE := Aside0.mk hwas
      have HIE := Aside0.mk hisb
      have HWF := Aside0.mk hwf
      clear hx_ hy_ hwas hisb hwf
      have HBS := Aside0.mk HCS.out.hB
      have HB := Aside0.mk (Below.refl wr.heap.size wr)
      go_upto_region 7 with ((with_reducible refine gate_dst (N := 9) rfl ?_); refine box_event ?hg (N := 9) ?hd (cs := #[.int .i64 0, .int .i64 0, .int .i64 0, .int .i64 0, .slice none 0 0, .slice none 0 0]) (t := 40) ?hr ?_; (case hd => rfl); (case hg => rfl); (case hr => first | (go_simp; done) | (go_simp; rfl)); intro g9 hg w1_ hbox hb; have n0_ := Aside0.mk (below_step (by repeat (first | (with_reducible first | exact HB.out | apply below_alloc | apply pw_below_drewN | apply below_drew1) | exact HB.out)) hb); have n1_ := Aside0.mk hbox; have n2_ := Aside0.mk ((by rw [hg]; exact (below_size (by repeat (first | (with_reducible first | exact HB.out | apply below_alloc | apply pw_below_drewN | apply below_drew1) | exact HB.out)))) : wr.heap.size ≤ g9); clear HB; have HB := n0_; have BK9 := n1_; have GE9 := n2_; clear n0_ n1_ n2_; clear hb hbox hg; have hc9_0 : w1_.cell? ⟨g9, 0, none⟩ = some (.int .i64 0) := (blk_cell BK9.out 0).trans rfl; have hf9_0 := blk_frozen BK9.out 0; have hc9_1 : w1_.cell? ⟨g9, 1, none⟩ = some (.int .i64 0) := (blk_cell BK9.out 1).trans rfl; have hf9_1 := blk_frozen BK9.out 1; have hc9_2 : w1_.cell? ⟨g9, 2, none⟩ = some (.int .i64 0) := (blk_cell BK9.out 2).trans rfl; have hf9_2 := blk_frozen BK9.out 2; have hc9_3 : w1_.cell? ⟨g9, 3, none⟩ = some (.int .i64 0) := (blk_cell BK9.out 3).trans rfl; have hf9_3 := blk_frozen BK9.out 3; have hc9_4 : w1_.cell? ⟨g9, 4, none⟩ = some (.slice none 0 0) := (blk_cell BK9.out 4).trans rfl; have hf9_4 := blk_frozen BK9.out 4; have hc9_5 : w1_.cell? ⟨g9, 5, none⟩ = some (.slice none 0 0) := (blk_cell BK9.out 5).trans rfl; have hf9_5 := blk_frozen BK9.out 5)
      generalize hw_ : ((((((w1_.setCell ⟨g9, 0, none⟩ (.int .i64 x.adr)).setCell ⟨g9, 1, none⟩ (.int .i64 x.refs)).setCell ⟨g9, 2, none⟩ (.int .i64 x.sl)).setCell ⟨g9, 3, none⟩ (.int .i64 x.words)).setCell ⟨g9, 4, none⟩ (.slice x.A x.m x.c)).setCell ⟨g9, 5, none⟩ (.slice x.B x.n x.d)) = w2_
      have n0_ := Aside0.mk (show Below wr.heap.size wr w2_ from by rw [← hw_]; exact (by repeat (first | (with_reducible first | exact HB.out | apply below_alloc | apply pw_below_drewN | apply below_drew1 | refine below_set ?_ GE9.out) | exact HB.out)))
      have n1_ := Aside0.mk (show w2_.heap[g9]? = some (.cells #[.int .i64 x.adr, .int .i64 x.refs, .int .i64 x.sl, .int .i64 x.words, .slice x.A x.m x.c, .slice x.B x.n x.d] 40 (0, 0)) from by rw [← hw_]; exact (by (with_reducible repeat (first | refine blk_drewN ?_ _ | refine blk_drew ?_ | refine blk_alloc ?_ _)); refine blk_put (cs := #[.int .i64 x.adr, .int .i64 x.refs, .int .i64 x.sl, .int .i64 x.words, .slice x.A x.m x.c, .slice none 0 0]) ?_ 5 _ rfl; (with_reducible repeat (first | refine blk_drewN ?_ _ | refine blk_drew ?_ | refine blk_alloc ?_ _)); refine blk_put (cs := #[.int .i64 x.adr, .int .i64 x.refs, .int .i64 x.sl, .int .i64 x.words, .slice none 0 0, .slice none 0 0]) ?_ 4 _ rfl; (with_reducible repeat (first | refine blk_drewN ?_ _ | refine blk_drew ?_ | refine blk_alloc ?_ _)); refine blk_put (cs := #[.int .i64 x.adr, .int .i64 x.refs, .int .i64 x.sl, .int .i64 0, .slice none 0 0, .slice none 0 0]) ?_ 3 _ rfl; (with_reducible repeat (first | refine blk_drewN ?_ _ | refine blk_drew ?_ | refine blk_alloc ?_ _)); refine blk_put (cs := #[.int .i64 x.adr, .int .i64 x.refs, .int .i64 0, .int .i64 0, .slice none 0 0, .slice none 0 0]) ?_ 2 _ rfl; (with_reducible repeat (first | refine blk_drewN ?_ _ | refine blk_drew ?_ | refine blk_alloc ?_ _)); refine blk_put (cs := #[.int .i64 x.adr, .int .i64 0, .int .i64 0, .int .i64 0, .slice none 0 0, .slice none 0 0]) ?_ 1 _ rfl; (with_reducible repeat (first | refine blk_drewN ?_ _ | refine blk_drew ?_ | refine blk_alloc ?_ _)); refine blk_put (cs := #[.int .i64 0, .int .i64 0, .int .i64 0, .int .i64 0, .slice none 0 0, .slice none 0 0]) ?_ 0 _ rfl; (with_reducible repeat (first | refine blk_drewN ?_ _ | refine blk_drew ?_ | refine blk_alloc ?_ _)); exact BK9.out))
      clear HB
      clear BK9
      have HB := n0_
      have BK9 := n1_
      clear n0_ n1_
      clear hw_
      have hl2 : (Instr.lookup 46 (.map (some m19)) (.int .i64 k) true).run Try.prog w2_ = .ok (.tuple #[.agg #[.int .i64 y.adr, .int .i64 y.refs, .int .i64 y.sl, .int .i64 y.words, .slice y.A y.m y.c, .slice y.B y.n y.d], .bool isb]) w2_ := by
        have h := look_out (owns_below HCS.out.o2 HB.out) HWF.out
        rw [← HYE.out, ← HIE.out] at h
        exact h
      clear hl1
      go_upto_region 8 with ((with_reducible refine gate_dst (N := 11) rfl ?_); refine box_event ?hg (N := 11) ?hd (cs := #[.int .i64 0, .int .i64 0, .int .i64 0, .int .i64 0, .slice none 0 0, .slice none 0 0]) (t := 40) ?hr ?_; (case hd => rfl); (case hg => rfl); (case hr => first | (go_simp; done) | (go_simp; rfl)); intro g11 hg w3_ hbox hb; have n0_ := Aside0.mk (below_step (by repeat (first | (with_reducible first | exact HB.out | apply below_alloc | apply pw_below_drewN | apply below_drew1 | refine below_set ?_ GE9.out) | exact HB.out)) hb); have n1_ := Aside0.mk (blk_below (g := g9) (o := .cells #[.int .i64 x.adr, .int .i64 x.refs, .int .i64 x.sl, .int .i64 x.words, .slice x.A x.m x.c, .slice x.B x.n x.d] 40 (0, 0)) (by (with_reducible repeat (first | refine blk_drewN ?_ _ | refine blk_drew ?_ | refine blk_alloc ?_ _)); exact BK9.out) hb); have n2_ := Aside0.mk hbox; have n3_ := Aside0.mk ((by rw [hg]; exact (below_size (by repeat (first | (with_reducible first | exact HB.out | apply below_alloc | apply pw_below_drewN | apply below_drew1 | refine below_set ?_ GE9.out) | exact HB.out)))) : wr.heap.size ≤ g11); have n4_ := Aside0.mk ((by rw [hg]; exact Nat.ne_of_lt (blk_lt (g := g9) (o := .cells #[.int .i64 x.adr, .int .i64 x.refs, .int .i64 x.sl, .int .i64 x.words, .slice x.A x.m x.c, .slice x.B x.n x.d] 40 (0, 0)) (by (with_reducible repeat (first | refine blk_drewN ?_ _ | refine blk_drew ?_ | refine blk_alloc ?_ _)); exact BK9.out))) : g9 ≠ g11); clear HB; clear BK9; have HB := n0_; have BK9 := n1_; have BK11 := n2_; have GE11 := n3_; have NE9_11 := n4_; clear n0_ n1_ n2_ n3_ n4_; clear hb hbox hg; have hc11_0 : w3_.cell? ⟨g11, 0, none⟩ = some (.int .i64 0) := (blk_cell BK11.out 0).trans rfl; have hf11_0 := blk_frozen BK11.out 0; have hc11_1 : w3_.cell? ⟨g11, 1, none⟩ = some (.int .i64 0) := (blk_cell BK11.out 1).trans rfl; have hf11_1 := blk_frozen BK11.out 1; have hc11_2 : w3_.cell? ⟨g11, 2, none⟩ = some (.int .i64 0) := (blk_cell BK11.out 2).trans rfl; have hf11_2 := blk_frozen BK11.out 2; have hc11_3 : w3_.cell? ⟨g11, 3, none⟩ = some (.int .i64 0) := (blk_cell BK11.out 3).trans rfl; have hf11_3 := blk_frozen BK11.out 3; have hc11_4 : w3_.cell? ⟨g11, 4, none⟩ = some (.slice none 0 0) := (blk_cell BK11.out 4).trans rfl; have hf11_4 := blk_frozen BK11.out 4; have hc11_5 : w3_.cell? ⟨g11, 5, none⟩ = some (.slice none 0 0) := (blk_cell BK11.out 5).trans rfl; have hf11_5 := blk_frozen BK11.out 5)
      generalize hw_ : ((((((w3_.setCell ⟨g11, 0, none⟩ (.int .i64 y.adr)).setCell ⟨g11, 1, none⟩ (.int .i64 y.refs)).setCell ⟨g11, 2, none⟩ (.int .i64 y.sl)).setCell ⟨g11, 3, none⟩ (.int .i64 y.words)).setCell ⟨g11, 4, none⟩ (.slice y.A y.m y.c)).setCell ⟨g11, 5, none⟩ (.slice y.B y.n y.d)) = w4_
      have n0_ := Aside0.mk (show Below wr.heap.size wr w4_ from by rw [← hw_]; exact (by repeat (first | (with_reducible first | exact HB.out | apply below_alloc | apply pw_below_drewN | apply below_drew1 | refine below_set ?_ GE9.out | refine below_set ?_ GE11.out) | exact HB.out)))
      have n1_ := Aside0.mk (show w4_.heap[g9]? = some (.cells #[.int .i64 x.adr, .int .i64 x.refs, .int .i64 x.sl, .int .i64 x.words, .slice x.A x.m x.c, .slice x.B x.n x.d] 40 (0, 0)) from by rw [← hw_]; refine blk_far ?_ NE9_11.out _; refine blk_far ?_ NE9_11.out _; refine blk_far ?_ NE9_11.out _; refine blk_far ?_ NE9_11.out _; refine blk_far ?_ NE9_11.out _; refine blk_far ?_ NE9_11.out _; exact BK9.out)
      have n2_ := Aside0.mk (show w4_.heap[g11]? = some (.cells #[.int .i64 y.adr, .int .i64 y.refs, .int .i64 y.sl, .int .i64 y.words, .slice y.A y.m y.c, .slice y.B y.n y.d] 40 (0, 0)) from by rw [← hw_]; exact (by (with_reducible repeat (first | refine blk_drewN ?_ _ | refine blk_drew ?_ | refine blk_alloc ?_ _)); refine blk_put (cs := #[.int .i64 y.adr, .int .i64 y.refs, .int .i64 y.sl, .int .i64 y.words, .slice y.A y.m y.c, .slice none 0 0]) ?_ 5 _ rfl; (with_reducible repeat (first | refine blk_drewN ?_ _ | refine blk_drew ?_ | refine blk_alloc ?_ _)); refine blk_put (cs := #[.int .i64 y.adr, .int .i64 y.refs, .int .i64 y.sl, .int .i64 y.words, .slice none 0 0, .slice none 0 0]) ?_ 4 _ rfl; (with_reducible repeat (first | refine blk_drewN ?_ _ | refine blk_drew ?_ | refine blk_alloc ?_ _)); refine blk_put (cs := #[.int .i64 y.adr, .int .i64 y.refs, .int .i64 y.sl, .int .i64 0, .slice none 0 0, .slice none 0 0]) ?_ 3 _ rfl; (with_reducible repeat (first | refine blk_drewN ?_ _ | refine blk_drew ?_ | refine blk_alloc ?_ _)); refine blk_put (cs := #[.int .i64 y.adr, .int .i64 y.refs, .int .i64 0, .int .i64 0, .slice none 0 0, .slice none 0 0]) ?_ 2 _ rfl; (with_reducible repeat (first | refine blk_drewN ?_ _ | refine blk_drew ?_ | refine blk_alloc ?_ _)); refine blk_put (cs := #[.int .i64 y.adr, .int .i64 0, .int .i64 0, .int .i64 0, .slice none 0 0, .slice none 0 0]) ?_ 1 _ rfl; (with_reducible repeat (first | refine blk_drewN ?_ _ | refine blk_drew ?_ | refine blk_alloc ?_ _)); refine blk_put (cs := #[.int .i64 0, .int .i64 0, .int .i64 0, .int .i64 0, .slice none 0 0, .slice none 0 0]) ?_ 0 _ rfl; (with_reducible repeat (first | refine blk_drewN ?_ _ | refine blk_drew ?_ | refine blk_alloc ?_ _)); exact BK11.out))
      clear HB
      clear BK9
      clear BK11
      have HB := n0_
      have BK9 := n1_
      have BK11 := n2_
      clear n0_ n1_ n2_
      clear hw_
      have hc9_0 : w4_.cell? ⟨g9, 0, none⟩ = some (.int .i64 x.adr) := (blk_cell BK9.out 0).trans rfl
      have hf9_0 := blk_frozen BK9.out 0
      have hc9_1 : w4_.cell? ⟨g9, 1, none⟩ = some (.int .i64 x.refs) := (blk_cell BK9.out 1).trans rfl
      have hf9_1 := blk_frozen BK9.out 1
      have hc9_2 : w4_.cell? ⟨g9, 2, none⟩ = some (.int .i64 x.sl) := (blk_cell BK9.out 2).trans rfl
      have hf9_2 := blk_frozen BK9.out 2
      have hc9_3 : w4_.cell? ⟨g9, 3, none⟩ = some (.int .i64 x.words) := (blk_cell BK9.out 3).trans rfl
      have hf9_3 := blk_frozen BK9.out 3
      have hc9_4 : w4_.cell? ⟨g9, 4, none⟩ = some (.slice x.A x.m x.c) := (blk_cell BK9.out 4).trans rfl
      have hf9_4 := blk_frozen BK9.out 4
      have hc9_5 : w4_.cell? ⟨g9, 5, none⟩ = some (.slice x.B x.n x.d) := (blk_cell BK9.out 5).trans rfl
      have hf9_5 := blk_frozen BK9.out 5
      have hc11_0 : w4_.cell? ⟨g11, 0, none⟩ = some (.int .i64 y.adr) := (blk_cell BK11.out 0).trans rfl
      have hf11_0 := blk_frozen BK11.out 0
      have hc11_1 : w4_.cell? ⟨g11, 1, none⟩ = some (.int .i64 y.refs) := (blk_cell BK11.out 1).trans rfl
      have hf11_1 := blk_frozen BK11.out 1
      have hc11_2 : w4_.cell? ⟨g11, 2, none⟩ = some (.int .i64 y.sl) := (blk_cell BK11.out 2).trans rfl
      have hf11_2 := blk_frozen BK11.out 2
      have hc11_3 : w4_.cell? ⟨g11, 3, none⟩ = some (.int .i64 y.words) := (blk_cell BK11.out 3).trans rfl
      have hf11_3 := blk_frozen BK11.out 3
      have hc11_4 : w4_.cell? ⟨g11, 4, none⟩ = some (.slice y.A y.m y.c) := (blk_cell BK11.out 4).trans rfl
      have hf11_4 := blk_frozen BK11.out 4
      have hc11_5 : w4_.cell? ⟨g11, 5, none⟩ = some (.slice y.B y.n y.d) := (blk_cell BK11.out 5).trans rfl
      have hf11_5 := blk_frozen BK11.out 5
      clear hl2
      obtain ⟨LI, hLI⟩ : ∃ L, L = insideR x y := ⟨_, rfl⟩
      have HLI := Aside0.mk hLI
      clear hLI
      go_upto_region 9 with (go_at_call 49; (with_reducible refine (inside_nd _ B (Nat.le_trans HBS.out HB.out.size) x y (Aside0.mk (HDX.out.kept (fun q_ hq_ => HB.out.block q_ (by have := HBS.out; omega)))) (Aside0.mk (HDY.out.kept (fun q_ hq_ => HB.out.block q_ (by have := HBS.out; omega)))) hxs LI HLI.out).mono ?_); have HBP := HB; rintro e w5_ ⟨v13, rfl, hr13, hb⟩; have n0_ := Aside0.mk (below_step (by repeat (first | (with_reducible first | exact HB.out | apply below_alloc | apply pw_below_drewN | apply below_drew1 | refine below_set ?_ GE9.out | refine below_set ?_ GE11.out) | exact HB.out)) hb); have n1_ := Aside0.mk (blk_below (g := g9) (o := .cells #[.int .i64 x.adr, .int .i64 x.refs, .int .i64 x.sl, .int .i64 x.words, .slice x.A x.m x.c, .slice x.B x.n x.d] 40 (0, 0)) (by (with_reducible repeat (first | refine blk_drewN ?_ _ | refine blk_drew ?_ | refine blk_alloc ?_ _)); exact BK9.out) hb); have n2_ := Aside0.mk (blk_below (g := g11) (o := .cells #[.int .i64 y.adr, .int .i64 y.refs, .int .i64 y.sl, .int .i64 y.words, .slice y.A y.m y.c, .slice y.B y.n y.d] 40 (0, 0)) (by (with_reducible repeat (first | refine blk_drewN ?_ _ | refine blk_drew ?_ | refine blk_alloc ?_ _)); exact BK11.out) hb); clear HB; clear BK9; clear BK11; have HB := n0_; have BK9 := n1_; have BK11 := n2_; clear n0_ n1_ n2_; clear hb; have hc9_0 : w5_.cell? ⟨g9, 0, none⟩ = some (.int .i64 x.adr) := (blk_cell BK9.out 0).trans rfl; have hf9_0 := blk_frozen BK9.out 0; have hc9_1 : w5_.cell? ⟨g9, 1, none⟩ = some (.int .i64 x.refs) := (blk_cell BK9.out 1).trans rfl; have hf9_1 := blk_frozen BK9.out 1; have hc9_2 : w5_.cell? ⟨g9, 2, none⟩ = some (.int .i64 x.sl) := (blk_cell BK9.out 2).trans rfl; have hf9_2 := blk_frozen BK9.out 2; have hc9_3 : w5_.cell? ⟨g9, 3, none⟩ = some (.int .i64 x.words) := (blk_cell BK9.out 3).trans rfl; have hf9_3 := blk_frozen BK9.out 3; have hc9_4 : w5_.cell? ⟨g9, 4, none⟩ = some (.slice x.A x.m x.c) := (blk_cell BK9.out 4).trans rfl; have hf9_4 := blk_frozen BK9.out 4; have hc9_5 : w5_.cell? ⟨g9, 5, none⟩ = some (.slice x.B x.n x.d) := (blk_cell BK9.out 5).trans rfl; have hf9_5 := blk_frozen BK9.out 5; have hc11_0 : w5_.cell? ⟨g11, 0, none⟩ = some (.int .i64 y.adr) := (blk_cell BK11.out 0).trans rfl; have hf11_0 := blk_frozen BK11.out 0; have hc11_1 : w5_.cell? ⟨g11, 1, none⟩ = some (.int .i64 y.refs) := (blk_cell BK11.out 1).trans rfl; have hf11_1 := blk_frozen BK11.out 1; have hc11_2 : w5_.cell? ⟨g11, 2, none⟩ = some (.int .i64 y.sl) := (blk_cell BK11.out 2).trans rfl; have hf11_2 := blk_frozen BK11.out 2; have hc11_3 : w5_.cell? ⟨g11, 3, none⟩ = some (.int .i64 y.words) := (blk_cell BK11.out 3).trans rfl; have hf11_3 := blk_frozen BK11.out 3; have hc11_4 : w5_.cell? ⟨g11, 4, none⟩ = some (.slice y.A y.m y.c) := (blk_cell BK11.out 4).trans rfl; have hf11_4 := blk_frozen BK11.out 4; have hc11_5 : w5_.cell? ⟨g11, 5, none⟩ = some (.slice y.B y.n y.d) := (blk_cell BK11.out 5).trans rfl; have hf11_5 := blk_frozen BK11.out 5; have ROW := Aside0.mk (Di.row_mono hr13 (below_size HBP.out)); clear hr13)
      cases isb with
      | false =>
        go_upto_region 13 with (go_at_call 35; (with_reducible refine (words_calls _ x.adr x.refs x.sl x.words x.A x.m x.c x.B x.n x.d).mono ?_); rintro e w6_ ⟨rfl, hb⟩; have n0_ := Aside0.mk (below_step (by repeat (first | (with_reducible first | exact HB.out | apply below_alloc | apply pw_below_drewN | apply below_drew1 | refine below_set ?_ GE9.out | refine below_set ?_ GE11.out) | exact HB.out)) hb); have n1_ := Aside0.mk (blk_below (g := g9) (o := .cells #[.int .i64 x.adr, .int .i64 x.refs, .int .i64 x.sl, .int .i64 x.words, .slice x.A x.m x.c, .slice x.B x.n x.d] 40 (0, 0)) (by (with_reducible repeat (first | refine blk_drewN ?_ _ | refine blk_drew ?_ | refine blk_alloc ?_ _)); exact BK9.out) hb); have n2_ := Aside0.mk (blk_below (g := g11) (o := .cells #[.int .i64 y.adr, .int .i64 y.refs, .int .i64 y.sl, .int .i64 y.words, .slice y.A y.m y.c, .slice y.B y.n y.d] 40 (0, 0)) (by (with_reducible repeat (first | refine blk_drewN ?_ _ | refine blk_drew ?_ | refine blk_alloc ?_ _)); exact BK11.out) hb); clear HB; clear BK9; clear BK11; have HB := n0_; have BK9 := n1_; have BK11 := n2_; clear n0_ n1_ n2_; clear hb)
        generalize hw_ : w6_.alloc (.cells #[.int .i64 1, .int .i64 k, .int .i64 0, .int .u64 (IntKind.u64.wrap x.words), .int .u64 0] 44) = wq
        obtain ⟨gq, hgq⟩ : ∃ g_, g_ = w6_.heap.size := ⟨_, rfl⟩
        rw [← hgq]
        obtain ⟨al, hal⟩ : ∃ a_ : Option Addr, a_ = some ⟨gq, 0, none⟩ := ⟨_, rfl⟩
        rw [← hal]
        obtain ⟨L, hL⟩ : ∃ L, L = [(⟨1, k, 0, (IntKind.u64.wrap x.words), 0⟩ : Ch)] := ⟨_, rfl⟩
        have HBq := Aside0.mk (show Below wr.heap.size wr wq from by rw [← hw_]; exact below_alloc HB.out _)
        have ROWq := Aside0.mk (show wq.ownsRow wr.heap.size 44 5 (.slice al 1 1) 1 (chs L) from by rw [hal, hL]; exact row_one (by rw [← hw_, hgq]; exact blk_new _ _) (by rw [hgq]; exact HB.out.size))
        have HNE := Aside0.mk (show L.length = 1 by rw [hL]; rfl)
        have HLL := Aside0.mk (show L = (changeR ga.NS (walkR ga.NS ga.R) gb.NS (walkR gb.NS gb.R)) k by
          rw [hL]
          unfold changeR
          rw [if_pos (of_decide_eq_false HIE.out.symm), ← HXE.out])
        clear hw_ hal hgq hL
        obtain ⟨wo, hwo⟩ : ∃ x_, x_ = wr := ⟨_, rfl⟩
        subst hwo
        have HS2 := Aside0.mk (HCS.out.below HBq.out)
        have HJq := Aside0.mk (HJ.out _ wo wq none HJ1.out (grown_of_below HBq.out) (fun r e => by cases e))
        have HDS := Aside0.mk (show ∀ j_, (Value.slice al 1 1).ownBlock = some j_ → vb.ownBlock ≠ some j_ ∧ j_ ≠ Bo from fun j_ hj_ => by
          have h1 := (ROWq.out.lt j_ hj_).1
          have h2 := fun e => (HCS.out.own j_ e).1
          have h3 := blk_lt HCS.out.box
          exact ⟨fun e => by have := h2 e; omega, fun e => by rw [e] at h1; have h3' : Bo < wo.heap.size := h3; omega⟩)
        have HWq := Aside0.mk (show w.heap.size ≤ wq.heap.size by have := HBq.out.size; have := HWS.out; omega)
        obtain ⟨pre0, hpre0⟩ : ∃ p, p = (K.take j).flatMap (changeR ga.NS (walkR ga.NS ga.R) gb.NS (walkR gb.NS gb.R)) := ⟨_, rfl⟩
        rw [← hpre0] at HJq
        have HPRE := Aside0.mk hpre0
        have hplen : pre0.length ≤ j * 600 := by
          rw [hpre0]
          have := flat_le (K.take j) (changeR ga.NS (walkR ga.NS ga.R) gb.NS (walkR gb.NS gb.R)) 600 (fun x_ _ => change_le hsa x_)
          rw [List.length_take] at this
          exact Nat.le_trans this (Nat.mul_le_mul_right _ (Nat.min_le_left _ _))
        have hl6 : L.length ≤ 600 := by rw [HLL.out]; exact change_le hsa k
        have hnb : 1 ≤ 600 := by have := HNE.out; omega
        clear hpre0
        obtain ⟨wb0, hwb0⟩ : ∃ x_, x_ = wo.heap.size := ⟨_, rfl⟩
        rw [← hwb0] at ROWq
        clear hwb0
        go_wp2
        go_loopw [68] (fun v wr => ∃ (i : Nat) (vc : Value), i ≤ 1 ∧ v = .int .i64 (i : Int) ∧ Aside0 (J (pre0 ++ L.take i) wr) ∧ Aside0 (CS wr ⟨w.heap.size, B, Bo, m17, m19, some y0, c25⟩ ga gb K vc) ∧ Aside0 (wr.ownsRow wb0 44 5 (.slice al 1 1) 1 (chs L)) ∧ Aside0 (∀ j_, (Value.slice al 1 1).ownBlock = some j_ → vc.ownBlock ≠ some j_ ∧ j_ ≠ Bo) ∧ Aside0 (w.heap.size ≤ wr.heap.size)) (fun v _ => 1 - (intOf v).toNat)
        case atStart => exact ⟨0, vb, by omega, rfl, Aside0.mk (by rw [List.take_zero, List.append_nil]; exact HJq.out), HS2, ROWq, HDS, HWq⟩
        case round =>
          clear HS2 HJq ROWq HDS HWq HJ1 HCS HBq
          obtain ⟨i, vc, hi, rfl, HJ1, HCS, ROWq, HDS, HWS⟩ := hrel
          by_cases hgi : i < 1
          · have hdi : decide ((i : Int) < (1 : Int)) = true := decide_eq_true (by omega)
            have hi0 : (0 : Int) ≤ (i : Int) := by omega
            have hi1 : (i : Int) < (1 : Int) := by omega
            obtain ⟨c, hc⟩ : ∃ c, L[i]? = some c := ⟨_, List.getElem?_eq_getElem (show i < L.length by rw [HNE.out]; exact hgi)⟩
            obtain ⟨y1, ey1, hz0, hz1, hz2, hz3, hz4⟩ := row44_five ROWq.out hc hgi
            subst ey1
            have HCI := Aside0.mk hc
            clear hc
            have HB := Aside0.mk (Below.refl wr.heap.size wr)
            go_upto_region 16 with ((with_reducible refine gate_dst (N := 15) rfl ?_); refine box_event ?hg (N := 15) ?hd (cs := #[.int .i64 0, .int .i64 0, .int .i64 0, .int .u64 0, .int .u64 0]) (t := 44) ?hr ?_; (case hd => rfl); (case hg => rfl); (case hr => first | (go_simp; done) | (go_simp; rfl)); intro g15 hg w1_ hbox hb; have n0_ := Aside0.mk (below_step (by repeat (first | (with_reducible first | exact HB.out | apply below_alloc | apply pw_below_drewN | apply below_drew1) | exact HB.out)) hb); have n1_ := Aside0.mk hbox; have n2_ := Aside0.mk ((by rw [hg]; exact (below_size (by repeat (first | (with_reducible first | exact HB.out | apply below_alloc | apply pw_below_drewN | apply below_drew1) | exact HB.out)))) : wr.heap.size ≤ g15); clear HB; have HB := n0_; have BK15 := n1_; have GE15 := n2_; clear n0_ n1_ n2_; clear hb hbox hg; have hc15_0 : w1_.cell? ⟨g15, 0, none⟩ = some (.int .i64 0) := (blk_cell BK15.out 0).trans rfl; have hf15_0 := blk_frozen BK15.out 0; have hc15_1 : w1_.cell? ⟨g15, 1, none⟩ = some (.int .i64 0) := (blk_cell BK15.out 1).trans rfl; have hf15_1 := blk_frozen BK15.out 1; have hc15_2 : w1_.cell? ⟨g15, 2, none⟩ = some (.int .i64 0) := (blk_cell BK15.out 2).trans rfl; have hf15_2 := blk_frozen BK15.out 2; have hc15_3 : w1_.cell? ⟨g15, 3, none⟩ = some (.int .u64 0) := (blk_cell BK15.out 3).trans rfl; have hf15_3 := blk_frozen BK15.out 3; have hc15_4 : w1_.cell? ⟨g15, 4, none⟩ = some (.int .u64 0) := (blk_cell BK15.out 4).trans rfl; have hf15_4 := blk_frozen BK15.out 4)
            generalize hw_ : (((((w1_.setCell ⟨g15, 0, none⟩ (.int .i64 c.k)).setCell ⟨g15, 1, none⟩ (.int .i64 c.a)).setCell ⟨g15, 2, none⟩ (.int .i64 c.i)).setCell ⟨g15, 3, none⟩ (.int .u64 c.was)).setCell ⟨g15, 4, none⟩ (.int .u64 c.is)) = w2_
            have n0_ := Aside0.mk (show Below wr.heap.size wr w2_ from by rw [← hw_]; exact (by repeat (first | (with_reducible first | exact HB.out | apply below_alloc | apply pw_below_drewN | apply below_drew1 | refine below_set ?_ GE15.out) | exact HB.out)))
            have n1_ := Aside0.mk (show w2_.heap[g15]? = some (.cells #[.int .i64 c.k, .int .i64 c.a, .int .i64 c.i, .int .u64 c.was, .int .u64 c.is] 44 (0, 0)) from by rw [← hw_]; exact (by (with_reducible repeat (first | refine blk_drewN ?_ _ | refine blk_drew ?_ | refine blk_alloc ?_ _)); refine blk_put (cs := #[.int .i64 c.k, .int .i64 c.a, .int .i64 c.i, .int .u64 c.was, .int .u64 0]) ?_ 4 _ rfl; (with_reducible repeat (first | refine blk_drewN ?_ _ | refine blk_drew ?_ | refine blk_alloc ?_ _)); refine blk_put (cs := #[.int .i64 c.k, .int .i64 c.a, .int .i64 c.i, .int .u64 0, .int .u64 0]) ?_ 3 _ rfl; (with_reducible repeat (first | refine blk_drewN ?_ _ | refine blk_drew ?_ | refine blk_alloc ?_ _)); refine blk_put (cs := #[.int .i64 c.k, .int .i64 c.a, .int .i64 0, .int .u64 0, .int .u64 0]) ?_ 2 _ rfl; (with_reducible repeat (first | refine blk_drewN ?_ _ | refine blk_drew ?_ | refine blk_alloc ?_ _)); refine blk_put (cs := #[.int .i64 c.k, .int .i64 0, .int .i64 0, .int .u64 0, .int .u64 0]) ?_ 1 _ rfl; (with_reducible repeat (first | refine blk_drewN ?_ _ | refine blk_drew ?_ | refine blk_alloc ?_ _)); refine blk_put (cs := #[.int .i64 0, .int .i64 0, .int .i64 0, .int .u64 0, .int .u64 0]) ?_ 0 _ rfl; (with_reducible repeat (first | refine blk_drewN ?_ _ | refine blk_drew ?_ | refine blk_alloc ?_ _)); exact BK15.out))
            clear HB
            clear BK15
            have HB := n0_
            have BK15 := n1_
            clear n0_ n1_
            clear hw_
            have hc15_0 : w2_.cell? ⟨g15, 0, none⟩ = some (.int .i64 c.k) := (blk_cell BK15.out 0).trans rfl
            have hf15_0 := blk_frozen BK15.out 0
            have hc15_1 : w2_.cell? ⟨g15, 1, none⟩ = some (.int .i64 c.a) := (blk_cell BK15.out 1).trans rfl
            have hf15_1 := blk_frozen BK15.out 1
            have hc15_2 : w2_.cell? ⟨g15, 2, none⟩ = some (.int .i64 c.i) := (blk_cell BK15.out 2).trans rfl
            have hf15_2 := blk_frozen BK15.out 2
            have hc15_3 : w2_.cell? ⟨g15, 3, none⟩ = some (.int .u64 c.was) := (blk_cell BK15.out 3).trans rfl
            have hf15_3 := blk_frozen BK15.out 3
            have hc15_4 : w2_.cell? ⟨g15, 4, none⟩ = some (.int .u64 c.is) := (blk_cell BK15.out 4).trans rfl
            have hf15_4 := blk_frozen BK15.out 4
            have HSS := Aside0.mk (HCS.out.below HB.out)
            have hRS := Di.row_below ROWq.out HB.out
            have hJS := HJ.out _ wr w2_ none HJ1.out (grown_of_below HB.out) (fun r e => by cases e)
            have hlb : (pre0 ++ L.take i).length < 48000 := by have h1 := HNE.out; rw [List.length_append, List.length_take]; omega
            obtain ⟨fn, tmps, assign, body, hy, hR⟩ := HY.out _ c w2_ hJS hlb
            dsimp only [encC] at hy
            have HRS := Aside0.mk hRS
            have HR_ := Aside0.mk hR
            clear hRS hJS hR hz0 hz1 hz2 hz3 hz4
            refine (wpIn_wide (n := n)).1 ?_
            gi_wp2
            refine HR_.out.mono ?_
            rintro e W3 (⟨rfl, hJ3, hk3⟩ | ⟨rfl, hJx3⟩)
            · obtain ⟨vc', hcs', hrow'⟩ := HSS.out.round hk3
              obtain ⟨hr2, hd2⟩ := hrow' HRS.out HDS.out
              have HC3 := Aside0.mk hcs'
              have HR3 := Aside0.mk hr2
              have HD3 := Aside0.mk hd2
              have HJ3 := Aside0.mk hJ3
              have HW3 := Aside0.mk (show w.heap.size ≤ W3.heap.size by have h1 := (hk3.2 _ HSS.out.box); obtain ⟨_, _, _, _, h4, _⟩ := h1; have := HB.out.size; have := HWS.out; omega)
              clear hcs' hr2 hd2 hJ3 hk3 hrow'
              gi_wp2
              go_wp2
              refine ⟨⟨i + 1, vc', by omega, by push_cast; rfl, Aside0.mk (by
                have e1 : L.take (i + 1) = L.take i ++ [c] := by
                  rw [List.take_succ_eq_append_getElem (by rw [HNE.out]; exact hgi)]
                  have := HCI.out
                  rw [List.getElem?_eq_getElem (by rw [HNE.out]; exact hgi)] at this
                  rw [Option.some.inj this]
                rw [e1, ← List.append_assoc]
                exact HJ3.out), HC3, HR3, HD3, HW3⟩, ?_⟩
              show 1 - ((i : Int) + 1).toNat < 1 - (i : Int).toNat
              omega
            · gi_wp2
              go_wp2
              (try simp only [Exit.inBlock, Exit.then])
              refine bodyPost_ret (results_none rfl _ _ _) rfl ?_
              exact ⟨⟨_, rfl⟩, .inr ⟨_, trivial, hJx3⟩⟩
          · have hdi : decide ((i : Int) < (1 : Int)) = false := decide_eq_false (by omega)
            have hie : i = L.length := by rw [HNE.out]; omega
            have HJe := Aside0.mk (show J ((K.take (j + 1)).flatMap (changeR ga.NS (walkR ga.NS ga.R) gb.NS (walkR gb.NS gb.R))) wr by
              have := HJ1.out
              rw [hie, List.take_length, HPRE.out, HLL.out] at this
              rw [take_snoc hgo, List.flatMap_append, ← HKJ.out, List.flatMap_cons, List.flatMap_nil, List.append_nil]
              exact this)
            clear hie
            go_wp2
            refine ⟨⟨j + 1, vc, by omega, by push_cast; rfl, HJe, HCS, HWS⟩, ?_⟩
            show K.length - ((j : Int) + 1).toNat < K.length - (j : Int).toNat
            omega
      | true =>
        cases was with
        | false =>
          go_upto_region 13 with (go_at_call 35; (with_reducible refine (words_calls _ y.adr y.refs y.sl y.words y.A y.m y.c y.B y.n y.d).mono ?_); rintro e w6_ ⟨rfl, hb⟩; have n0_ := Aside0.mk (below_step (by repeat (first | (with_reducible first | exact HB.out | apply below_alloc | apply pw_below_drewN | apply below_drew1 | refine below_set ?_ GE9.out | refine below_set ?_ GE11.out) | exact HB.out)) hb); have n1_ := Aside0.mk (blk_below (g := g9) (o := .cells #[.int .i64 x.adr, .int .i64 x.refs, .int .i64 x.sl, .int .i64 x.words, .slice x.A x.m x.c, .slice x.B x.n x.d] 40 (0, 0)) (by (with_reducible repeat (first | refine blk_drewN ?_ _ | refine blk_drew ?_ | refine blk_alloc ?_ _)); exact BK9.out) hb); have n2_ := Aside0.mk (blk_below (g := g11) (o := .cells #[.int .i64 y.adr, .int .i64 y.refs, .int .i64 y.sl, .int .i64 y.words, .slice y.A y.m y.c, .slice y.B y.n y.d] 40 (0, 0)) (by (with_reducible repeat (first | refine blk_drewN ?_ _ | refine blk_drew ?_ | refine blk_alloc ?_ _)); exact BK11.out) hb); clear HB; clear BK9; clear BK11; have HB := n0_; have BK9 := n1_; have BK11 := n2_; clear n0_ n1_ n2_; clear hb)
          generalize hw_ : w6_.alloc (.cells #[.int .i64 2, .int .i64 k, .int .i64 0, .int .u64 0, .int .u64 (IntKind.u64.wrap y.words)] 44) = wq
          obtain ⟨gq, hgq⟩ : ∃ g_, g_ = w6_.heap.size := ⟨_, rfl⟩
          rw [← hgq]
          obtain ⟨al, hal⟩ : ∃ a_ : Option Addr, a_ = some ⟨gq, 0, none⟩ := ⟨_, rfl⟩
          rw [← hal]
          obtain ⟨L, hL⟩ : ∃ L, L = [(⟨2, k, 0, 0, (IntKind.u64.wrap y.words)⟩ : Ch)] := ⟨_, rfl⟩
          have HBq := Aside0.mk (show Below wr.heap.size wr wq from by rw [← hw_]; exact below_alloc HB.out _)
          have ROWq := Aside0.mk (show wq.ownsRow wr.heap.size 44 5 (.slice al 1 1) 1 (chs L) from by rw [hal, hL]; exact row_one (by rw [← hw_, hgq]; exact blk_new _ _) (by rw [hgq]; exact HB.out.size))
          have HNE := Aside0.mk (show L.length = 1 by rw [hL]; rfl)
          have HLL := Aside0.mk (show L = (changeR ga.NS (walkR ga.NS ga.R) gb.NS (walkR gb.NS gb.R)) k by
            rw [hL]
            unfold changeR
            rw [if_neg (fun h_ => h_ (of_decide_eq_true HIE.out.symm)), if_pos (of_decide_eq_false HWE.out.symm), ← HYE.out])
          clear hw_ hal hgq hL
          obtain ⟨wo, hwo⟩ : ∃ x_, x_ = wr := ⟨_, rfl⟩
          subst hwo
          have HS2 := Aside0.mk (HCS.out.below HBq.out)
          have HJq := Aside0.mk (HJ.out _ wo wq none HJ1.out (grown_of_below HBq.out) (fun r e => by cases e))
          have HDS := Aside0.mk (show ∀ j_, (Value.slice al 1 1).ownBlock = some j_ → vb.ownBlock ≠ some j_ ∧ j_ ≠ Bo from fun j_ hj_ => by
            have h1 := (ROWq.out.lt j_ hj_).1
            have h2 := fun e => (HCS.out.own j_ e).1
            have h3 := blk_lt HCS.out.box
            exact ⟨fun e => by have := h2 e; omega, fun e => by rw [e] at h1; have h3' : Bo < wo.heap.size := h3; omega⟩)
          have HWq := Aside0.mk (show w.heap.size ≤ wq.heap.size by have := HBq.out.size; have := HWS.out; omega)
          obtain ⟨pre0, hpre0⟩ : ∃ p, p = (K.take j).flatMap (changeR ga.NS (walkR ga.NS ga.R) gb.NS (walkR gb.NS gb.R)) := ⟨_, rfl⟩
          rw [← hpre0] at HJq
          have HPRE := Aside0.mk hpre0
          have hplen : pre0.length ≤ j * 600 := by
            rw [hpre0]
            have := flat_le (K.take j) (changeR ga.NS (walkR ga.NS ga.R) gb.NS (walkR gb.NS gb.R)) 600 (fun x_ _ => change_le hsa x_)
            rw [List.length_take] at this
            exact Nat.le_trans this (Nat.mul_le_mul_right _ (Nat.min_le_left _ _))
          have hl6 : L.length ≤ 600 := by rw [HLL.out]; exact change_le hsa k
          have hnb : 1 ≤ 600 := by have := HNE.out; omega
          clear hpre0
          obtain ⟨wb0, hwb0⟩ : ∃ x_, x_ = wo.heap.size := ⟨_, rfl⟩
          rw [← hwb0] at ROWq
          clear hwb0
          go_wp2
          go_loopw [68] (fun v wr => ∃ (i : Nat) (vc : Value), i ≤ 1 ∧ v = .int .i64 (i : Int) ∧ Aside0 (J (pre0 ++ L.take i) wr) ∧ Aside0 (CS wr ⟨w.heap.size, B, Bo, m17, m19, some y0, c25⟩ ga gb K vc) ∧ Aside0 (wr.ownsRow wb0 44 5 (.slice al 1 1) 1 (chs L)) ∧ Aside0 (∀ j_, (Value.slice al 1 1).ownBlock = some j_ → vc.ownBlock ≠ some j_ ∧ j_ ≠ Bo) ∧ Aside0 (w.heap.size ≤ wr.heap.size)) (fun v _ => 1 - (intOf v).toNat)
          case atStart => exact ⟨0, vb, by omega, rfl, Aside0.mk (by rw [List.take_zero, List.append_nil]; exact HJq.out), HS2, ROWq, HDS, HWq⟩
          case round =>
            clear HS2 HJq ROWq HDS HWq HJ1 HCS HBq
            obtain ⟨i, vc, hi, rfl, HJ1, HCS, ROWq, HDS, HWS⟩ := hrel
            by_cases hgi : i < 1
            · have hdi : decide ((i : Int) < (1 : Int)) = true := decide_eq_true (by omega)
              have hi0 : (0 : Int) ≤ (i : Int) := by omega
              have hi1 : (i : Int) < (1 : Int) := by omega
              obtain ⟨c, hc⟩ : ∃ c, L[i]? = some c := ⟨_, List.getElem?_eq_getElem (show i < L.length by rw [HNE.out]; exact hgi)⟩
              obtain ⟨y1, ey1, hz0, hz1, hz2, hz3, hz4⟩ := row44_five ROWq.out hc hgi
              subst ey1
              have HCI := Aside0.mk hc
              clear hc
              have HB := Aside0.mk (Below.refl wr.heap.size wr)
              go_upto_region 16 with ((with_reducible refine gate_dst (N := 15) rfl ?_); refine box_event ?hg (N := 15) ?hd (cs := #[.int .i64 0, .int .i64 0, .int .i64 0, .int .u64 0, .int .u64 0]) (t := 44) ?hr ?_; (case hd => rfl); (case hg => rfl); (case hr => first | (go_simp; done) | (go_simp; rfl)); intro g15 hg w1_ hbox hb; have n0_ := Aside0.mk (below_step (by repeat (first | (with_reducible first | exact HB.out | apply below_alloc | apply pw_below_drewN | apply below_drew1) | exact HB.out)) hb); have n1_ := Aside0.mk hbox; have n2_ := Aside0.mk ((by rw [hg]; exact (below_size (by repeat (first | (with_reducible first | exact HB.out | apply below_alloc | apply pw_below_drewN | apply below_drew1) | exact HB.out)))) : wr.heap.size ≤ g15); clear HB; have HB := n0_; have BK15 := n1_; have GE15 := n2_; clear n0_ n1_ n2_; clear hb hbox hg; have hc15_0 : w1_.cell? ⟨g15, 0, none⟩ = some (.int .i64 0) := (blk_cell BK15.out 0).trans rfl; have hf15_0 := blk_frozen BK15.out 0; have hc15_1 : w1_.cell? ⟨g15, 1, none⟩ = some (.int .i64 0) := (blk_cell BK15.out 1).trans rfl; have hf15_1 := blk_frozen BK15.out 1; have hc15_2 : w1_.cell? ⟨g15, 2, none⟩ = some (.int .i64 0) := (blk_cell BK15.out 2).trans rfl; have hf15_2 := blk_frozen BK15.out 2; have hc15_3 : w1_.cell? ⟨g15, 3, none⟩ = some (.int .u64 0) := (blk_cell BK15.out 3).trans rfl; have hf15_3 := blk_frozen BK15.out 3; have hc15_4 : w1_.cell? ⟨g15, 4, none⟩ = some (.int .u64 0) := (blk_cell BK15.out 4).trans rfl; have hf15_4 := blk_frozen BK15.out 4)
              generalize hw_ : (((((w1_.setCell ⟨g15, 0, none⟩ (.int .i64 c.k)).setCell ⟨g15, 1, none⟩ (.int .i64 c.a)).setCell ⟨g15, 2, none⟩ (.int .i64 c.i)).setCell ⟨g15, 3, none⟩ (.int .u64 c.was)).setCell ⟨g15, 4, none⟩ (.int .u64 c.is)) = w2_
              have n0_ := Aside0.mk (show Below wr.heap.size wr w2_ from by rw [← hw_]; exact (by repeat (first | (with_reducible first | exact HB.out | apply below_alloc | apply pw_below_drewN | apply below_drew1 | refine below_set ?_ GE15.out) | exact HB.out)))
              have n1_ := Aside0.mk (show w2_.heap[g15]? = some (.cells #[.int .i64 c.k, .int .i64 c.a, .int .i64 c.i, .int .u64 c.was, .int .u64 c.is] 44 (0, 0)) from by rw [← hw_]; exact (by (with_reducible repeat (first | refine blk_drewN ?_ _ | refine blk_drew ?_ | refine blk_alloc ?_ _)); refine blk_put (cs := #[.int .i64 c.k, .int .i64 c.a, .int .i64 c.i, .int .u64 c.was, .int .u64 0]) ?_ 4 _ rfl; (with_reducible repeat (first | refine blk_drewN ?_ _ | refine blk_drew ?_ | refine blk_alloc ?_ _)); refine blk_put (cs := #[.int .i64 c.k, .int .i64 c.a, .int .i64 c.i, .int .u64 0, .int .u64 0]) ?_ 3 _ rfl; (with_reducible repeat (first | refine blk_drewN ?_ _ | refine blk_drew ?_ | refine blk_alloc ?_ _)); refine blk_put (cs := #[.int .i64 c.k, .int .i64 c.a, .int .i64 0, .int .u64 0, .int .u64 0]) ?_ 2 _ rfl; (with_reducible repeat (first | refine blk_drewN ?_ _ | refine blk_drew ?_ | refine blk_alloc ?_ _)); refine blk_put (cs := #[.int .i64 c.k, .int .i64 0, .int .i64 0, .int .u64 0, .int .u64 0]) ?_ 1 _ rfl; (with_reducible repeat (first | refine blk_drewN ?_ _ | refine blk_drew ?_ | refine blk_alloc ?_ _)); refine blk_put (cs := #[.int .i64 0, .int .i64 0, .int .i64 0, .int .u64 0, .int .u64 0]) ?_ 0 _ rfl; (with_reducible repeat (first | refine blk_drewN ?_ _ | refine blk_drew ?_ | refine blk_alloc ?_ _)); exact BK15.out))
              clear HB
              clear BK15
              have HB := n0_
              have BK15 := n1_
              clear n0_ n1_
              clear hw_
              have hc15_0 : w2_.cell? ⟨g15, 0, none⟩ = some (.int .i64 c.k) := (blk_cell BK15.out 0).trans rfl
              have hf15_0 := blk_frozen BK15.out 0
              have hc15_1 : w2_.cell? ⟨g15, 1, none⟩ = some (.int .i64 c.a) := (blk_cell BK15.out 1).trans rfl
              have hf15_1 := blk_frozen BK15.out 1
              have hc15_2 : w2_.cell? ⟨g15, 2, none⟩ = some (.int .i64 c.i) := (blk_cell BK15.out 2).trans rfl
              have hf15_2 := blk_frozen BK15.out 2
              have hc15_3 : w2_.cell? ⟨g15, 3, none⟩ = some (.int .u64 c.was) := (blk_cell BK15.out 3).trans rfl
              have hf15_3 := blk_frozen BK15.out 3
              have hc15_4 : w2_.cell? ⟨g15, 4, none⟩ = some (.int .u64 c.is) := (blk_cell BK15.out 4).trans rfl
              have hf15_4 := blk_frozen BK15.out 4
              have HSS := Aside0.mk (HCS.out.below HB.out)
              have hRS := Di.row_below ROWq.out HB.out
              have hJS := HJ.out _ wr w2_ none HJ1.out (grown_of_below HB.out) (fun r e => by cases e)
              have hlb : (pre0 ++ L.take i).length < 48000 := by have h1 := HNE.out; rw [List.length_append, List.length_take]; omega
              obtain ⟨fn, tmps, assign, body, hy, hR⟩ := HY.out _ c w2_ hJS hlb
              dsimp only [encC] at hy
              have HRS := Aside0.mk hRS
              have HR_ := Aside0.mk hR
              clear hRS hJS hR hz0 hz1 hz2 hz3 hz4
              refine (wpIn_wide (n := n)).1 ?_
              gi_wp2
              refine HR_.out.mono ?_
              rintro e W3 (⟨rfl, hJ3, hk3⟩ | ⟨rfl, hJx3⟩)
              · obtain ⟨vc', hcs', hrow'⟩ := HSS.out.round hk3
                obtain ⟨hr2, hd2⟩ := hrow' HRS.out HDS.out
                have HC3 := Aside0.mk hcs'
                have HR3 := Aside0.mk hr2
                have HD3 := Aside0.mk hd2
                have HJ3 := Aside0.mk hJ3
                have HW3 := Aside0.mk (show w.heap.size ≤ W3.heap.size by have h1 := (hk3.2 _ HSS.out.box); obtain ⟨_, _, _, _, h4, _⟩ := h1; have := HB.out.size; have := HWS.out; omega)
                clear hcs' hr2 hd2 hJ3 hk3 hrow'
                gi_wp2
                go_wp2
                refine ⟨⟨i + 1, vc', by omega, by push_cast; rfl, Aside0.mk (by
                  have e1 : L.take (i + 1) = L.take i ++ [c] := by
                    rw [List.take_succ_eq_append_getElem (by rw [HNE.out]; exact hgi)]
                    have := HCI.out
                    rw [List.getElem?_eq_getElem (by rw [HNE.out]; exact hgi)] at this
                    rw [Option.some.inj this]
                  rw [e1, ← List.append_assoc]
                  exact HJ3.out), HC3, HR3, HD3, HW3⟩, ?_⟩
                show 1 - ((i : Int) + 1).toNat < 1 - (i : Int).toNat
                omega
              · gi_wp2
                go_wp2
                (try simp only [Exit.inBlock, Exit.then])
                refine bodyPost_ret (results_none rfl _ _ _) rfl ?_
                exact ⟨⟨_, rfl⟩, .inr ⟨_, trivial, hJx3⟩⟩
            · have hdi : decide ((i : Int) < (1 : Int)) = false := decide_eq_false (by omega)
              have hie : i = L.length := by rw [HNE.out]; omega
              have HJe := Aside0.mk (show J ((K.take (j + 1)).flatMap (changeR ga.NS (walkR ga.NS ga.R) gb.NS (walkR gb.NS gb.R))) wr by
                have := HJ1.out
                rw [hie, List.take_length, HPRE.out, HLL.out] at this
                rw [take_snoc hgo, List.flatMap_append, ← HKJ.out, List.flatMap_cons, List.flatMap_nil, List.append_nil]
                exact this)
              clear hie
              go_wp2
              refine ⟨⟨j + 1, vc, by omega, by push_cast; rfl, HJe, HCS, HWS⟩, ?_⟩
              show K.length - ((j : Int) + 1).toNat < K.length - (j : Int).toNat
              omega
        | true =>
          obtain ⟨n13, hn13⟩ : ∃ n_, n_ = LI.length := ⟨_, rfl⟩
          rw [← hn13] at ROW
          obtain ⟨al, cl, hv13⟩ : ∃ al cl, v13 = .slice al n13 cl := by
            rcases row44_form ROW.out with ⟨e_, h0⟩ | ⟨g_, cap_, e_⟩
            · exact ⟨none, 0, by rw [e_, h0]⟩
            · exact ⟨_, _, e_⟩
          subst hv13
          have HNE := Aside0.mk (show LI.length = n13 from hn13.symm)
          have HLL := Aside0.mk (show LI = (changeR ga.NS (walkR ga.NS ga.R) gb.NS (walkR gb.NS gb.R)) k by
            unfold changeR
            rw [if_neg (fun h_ => h_ (of_decide_eq_true HIE.out.symm)), if_neg (fun h_ => h_ (of_decide_eq_true HWE.out.symm)), ← HXE.out, ← HYE.out]
            exact HLI.out)
          have HBq := HB
          have ROWq := ROW
          clear hn13 ROW
          obtain ⟨wo, hwo⟩ : ∃ x_, x_ = wr := ⟨_, rfl⟩
          subst hwo
          have HS2 := Aside0.mk (HCS.out.below HBq.out)
          have HJq := Aside0.mk (HJ.out _ wo w5_ none HJ1.out (grown_of_below HBq.out) (fun r e => by cases e))
          have HDS := Aside0.mk (show ∀ j_, (Value.slice al n13 cl).ownBlock = some j_ → vb.ownBlock ≠ some j_ ∧ j_ ≠ Bo from fun j_ hj_ => by
            have h1 := (ROWq.out.lt j_ hj_).1
            have h2 := fun e => (HCS.out.own j_ e).1
            have h3 := blk_lt HCS.out.box
            exact ⟨fun e => by have := h2 e; omega, fun e => by rw [e] at h1; have h3' : Bo < wo.heap.size := h3; omega⟩)
          have HWq := Aside0.mk (show w.heap.size ≤ w5_.heap.size by have := HBq.out.size; have := HWS.out; omega)
          obtain ⟨pre0, hpre0⟩ : ∃ p, p = (K.take j).flatMap (changeR ga.NS (walkR ga.NS ga.R) gb.NS (walkR gb.NS gb.R)) := ⟨_, rfl⟩
          rw [← hpre0] at HJq
          have HPRE := Aside0.mk hpre0
          have hplen : pre0.length ≤ j * 600 := by
            rw [hpre0]
            have := flat_le (K.take j) (changeR ga.NS (walkR ga.NS ga.R) gb.NS (walkR gb.NS gb.R)) 600 (fun x_ _ => change_le hsa x_)
            rw [List.length_take] at this
            exact Nat.le_trans this (Nat.mul_le_mul_right _ (Nat.min_le_left _ _))
          have hl6 : LI.length ≤ 600 := by rw [HLL.out]; exact change_le hsa k
          have hnb : n13 ≤ 600 := by have := HNE.out; omega
          clear hpre0
          obtain ⟨wb0, hwb0⟩ : ∃ x_, x_ = wo.heap.size := ⟨_, rfl⟩
          rw [← hwb0] at ROWq
          clear hwb0
          go_wp2
          go_loopw [68] (fun v wr => ∃ (i : Nat) (vc : Value), i ≤ n13 ∧ v = .int .i64 (i : Int) ∧ Aside0 (J (pre0 ++ LI.take i) wr) ∧ Aside0 (CS wr ⟨w.heap.size, B, Bo, m17, m19, some y0, c25⟩ ga gb K vc) ∧ Aside0 (wr.ownsRow wb0 44 5 (.slice al n13 cl) n13 (chs LI)) ∧ Aside0 (∀ j_, (Value.slice al n13 cl).ownBlock = some j_ → vc.ownBlock ≠ some j_ ∧ j_ ≠ Bo) ∧ Aside0 (w.heap.size ≤ wr.heap.size)) (fun v _ => n13 - (intOf v).toNat)
          case atStart => exact ⟨0, vb, by omega, rfl, Aside0.mk (by rw [List.take_zero, List.append_nil]; exact HJq.out), HS2, ROWq, HDS, HWq⟩
          case round =>
            clear HS2 HJq ROWq HDS HWq HJ1 HCS HBq
            obtain ⟨i, vc, hi, rfl, HJ1, HCS, ROWq, HDS, HWS⟩ := hrel
            by_cases hgi : i < n13
            · have hdi : decide ((i : Int) < (n13 : Int)) = true := decide_eq_true (by omega)
              have hi0 : (0 : Int) ≤ (i : Int) := by omega
              have hi1 : (i : Int) < (n13 : Int) := by omega
              obtain ⟨c, hc⟩ : ∃ c, LI[i]? = some c := ⟨_, List.getElem?_eq_getElem (show i < LI.length by rw [HNE.out]; exact hgi)⟩
              obtain ⟨y1, ey1, hz0, hz1, hz2, hz3, hz4⟩ := row44_five ROWq.out hc hgi
              subst ey1
              have HCI := Aside0.mk hc
              clear hc
              have HB := Aside0.mk (Below.refl wr.heap.size wr)
              go_upto_region 16 with ((with_reducible refine gate_dst (N := 15) rfl ?_); refine box_event ?hg (N := 15) ?hd (cs := #[.int .i64 0, .int .i64 0, .int .i64 0, .int .u64 0, .int .u64 0]) (t := 44) ?hr ?_; (case hd => rfl); (case hg => rfl); (case hr => first | (go_simp; done) | (go_simp; rfl)); intro g15 hg w1_ hbox hb; have n0_ := Aside0.mk (below_step (by repeat (first | (with_reducible first | exact HB.out | apply below_alloc | apply pw_below_drewN | apply below_drew1) | exact HB.out)) hb); have n1_ := Aside0.mk hbox; have n2_ := Aside0.mk ((by rw [hg]; exact (below_size (by repeat (first | (with_reducible first | exact HB.out | apply below_alloc | apply pw_below_drewN | apply below_drew1) | exact HB.out)))) : wr.heap.size ≤ g15); clear HB; have HB := n0_; have BK15 := n1_; have GE15 := n2_; clear n0_ n1_ n2_; clear hb hbox hg; have hc15_0 : w1_.cell? ⟨g15, 0, none⟩ = some (.int .i64 0) := (blk_cell BK15.out 0).trans rfl; have hf15_0 := blk_frozen BK15.out 0; have hc15_1 : w1_.cell? ⟨g15, 1, none⟩ = some (.int .i64 0) := (blk_cell BK15.out 1).trans rfl; have hf15_1 := blk_frozen BK15.out 1; have hc15_2 : w1_.cell? ⟨g15, 2, none⟩ = some (.int .i64 0) := (blk_cell BK15.out 2).trans rfl; have hf15_2 := blk_frozen BK15.out 2; have hc15_3 : w1_.cell? ⟨g15, 3, none⟩ = some (.int .u64 0) := (blk_cell BK15.out 3).trans rfl; have hf15_3 := blk_frozen BK15.out 3; have hc15_4 : w1_.cell? ⟨g15, 4, none⟩ = some (.int .u64 0) := (blk_cell BK15.out 4).trans rfl; have hf15_4 := blk_frozen BK15.out 4)
              generalize hw_ : (((((w1_.setCell ⟨g15, 0, none⟩ (.int .i64 c.k)).setCell ⟨g15, 1, none⟩ (.int .i64 c.a)).setCell ⟨g15, 2, none⟩ (.int .i64 c.i)).setCell ⟨g15, 3, none⟩ (.int .u64 c.was)).setCell ⟨g15, 4, none⟩ (.int .u64 c.is)) = w2_
              have n0_ := Aside0.mk (show Below wr.heap.size wr w2_ from by rw [← hw_]; exact (by repeat (first | (with_reducible first | exact HB.out | apply below_alloc | apply pw_below_drewN | apply below_drew1 | refine below_set ?_ GE15.out) | exact HB.out)))
              have n1_ := Aside0.mk (show w2_.heap[g15]? = some (.cells #[.int .i64 c.k, .int .i64 c.a, .int .i64 c.i, .int .u64 c.was, .int .u64 c.is] 44 (0, 0)) from by rw [← hw_]; exact (by (with_reducible repeat (first | refine blk_drewN ?_ _ | refine blk_drew ?_ | refine blk_alloc ?_ _)); refine blk_put (cs := #[.int .i64 c.k, .int .i64 c.a, .int .i64 c.i, .int .u64 c.was, .int .u64 0]) ?_ 4 _ rfl; (with_reducible repeat (first | refine blk_drewN ?_ _ | refine blk_drew ?_ | refine blk_alloc ?_ _)); refine blk_put (cs := #[.int .i64 c.k, .int .i64 c.a, .int .i64 c.i, .int .u64 0, .int .u64 0]) ?_ 3 _ rfl; (with_reducible repeat (first | refine blk_drewN ?_ _ | refine blk_drew ?_ | refine blk_alloc ?_ _)); refine blk_put (cs := #[.int .i64 c.k, .int .i64 c.a, .int .i64 0, .int .u64 0, .int .u64 0]) ?_ 2 _ rfl; (with_reducible repeat (first | refine blk_drewN ?_ _ | refine blk_drew ?_ | refine blk_alloc ?_ _)); refine blk_put (cs := #[.int .i64 c.k, .int .i64 0, .int .i64 0, .int .u64 0, .int .u64 0]) ?_ 1 _ rfl; (with_reducible repeat (first | refine blk_drewN ?_ _ | refine blk_drew ?_ | refine blk_alloc ?_ _)); refine blk_put (cs := #[.int .i64 0, .int .i64 0, .int .i64 0, .int .u64 0, .int .u64 0]) ?_ 0 _ rfl; (with_reducible repeat (first | refine blk_drewN ?_ _ | refine blk_drew ?_ | refine blk_alloc ?_ _)); exact BK15.out))
              clear HB
              clear BK15
              have HB := n0_
              have BK15 := n1_
              clear n0_ n1_
              clear hw_
              have hc15_0 : w2_.cell? ⟨g15, 0, none⟩ = some (.int .i64 c.k) := (blk_cell BK15.out 0).trans rfl
              have hf15_0 := blk_frozen BK15.out 0
              have hc15_1 : w2_.cell? ⟨g15, 1, none⟩ = some (.int .i64 c.a) := (blk_cell BK15.out 1).trans rfl
              have hf15_1 := blk_frozen BK15.out 1
              have hc15_2 : w2_.cell? ⟨g15, 2, none⟩ = some (.int .i64 c.i) := (blk_cell BK15.out 2).trans rfl
              have hf15_2 := blk_frozen BK15.out 2
              have hc15_3 : w2_.cell? ⟨g15, 3, none⟩ = some (.int .u64 c.was) := (blk_cell BK15.out 3).trans rfl
              have hf15_3 := blk_frozen BK15.out 3
              have hc15_4 : w2_.cell? ⟨g15, 4, none⟩ = some (.int .u64 c.is) := (blk_cell BK15.out 4).trans rfl
              have hf15_4 := blk_frozen BK15.out 4
              have HSS := Aside0.mk (HCS.out.below HB.out)
              have hRS := Di.row_below ROWq.out HB.out
              have hJS := HJ.out _ wr w2_ none HJ1.out (grown_of_below HB.out) (fun r e => by cases e)
              have hlb : (pre0 ++ LI.take i).length < 48000 := by have h1 := HNE.out; rw [List.length_append, List.length_take]; omega
              obtain ⟨fn, tmps, assign, body, hy, hR⟩ := HY.out _ c w2_ hJS hlb
              dsimp only [encC] at hy
              have HRS := Aside0.mk hRS
              have HR_ := Aside0.mk hR
              clear hRS hJS hR hz0 hz1 hz2 hz3 hz4
              refine (wpIn_wide (n := n)).1 ?_
              gi_wp2
              refine HR_.out.mono ?_
              rintro e W3 (⟨rfl, hJ3, hk3⟩ | ⟨rfl, hJx3⟩)
              · obtain ⟨vc', hcs', hrow'⟩ := HSS.out.round hk3
                obtain ⟨hr2, hd2⟩ := hrow' HRS.out HDS.out
                have HC3 := Aside0.mk hcs'
                have HR3 := Aside0.mk hr2
                have HD3 := Aside0.mk hd2
                have HJ3 := Aside0.mk hJ3
                have HW3 := Aside0.mk (show w.heap.size ≤ W3.heap.size by have h1 := (hk3.2 _ HSS.out.box); obtain ⟨_, _, _, _, h4, _⟩ := h1; have := HB.out.size; have := HWS.out; omega)
                clear hcs' hr2 hd2 hJ3 hk3 hrow'
                gi_wp2
                go_wp2
                refine ⟨⟨i + 1, vc', by omega, by push_cast; rfl, Aside0.mk (by
                  have e1 : LI.take (i + 1) = LI.take i ++ [c] := by
                    rw [List.take_succ_eq_append_getElem (by rw [HNE.out]; exact hgi)]
                    have := HCI.out
                    rw [List.getElem?_eq_getElem (by rw [HNE.out]; exact hgi)] at this
                    rw [Option.some.inj this]
                  rw [e1, ← List.append_assoc]
                  exact HJ3.out), HC3, HR3, HD3, HW3⟩, ?_⟩
                show n13 - ((i : Int) + 1).toNat < n13 - (i : Int).toNat
                omega
              · gi_wp2
                go_wp2
                (try simp only [Exit.inBlock, Exit.then])
                refine bodyPost_ret (results_none rfl _ _ _) rfl ?_
                exact ⟨⟨_, rfl⟩, .inr ⟨_, trivial, hJx3⟩⟩
            · have hdi : decide ((i : Int) < (n13 : Int)) = false := decide_eq_false (by omega)
              have hie : i = LI.length := by rw [HNE.out]; omega
              have HJe := Aside0.mk (show J ((K.take (j + 1)).flatMap (changeR ga.NS (walkR ga.NS ga.R) gb.NS (walkR gb.NS gb.R))) wr by
                have := HJ1.out
                rw [hie, List.take_length, HPRE.out, HLL.out] at this
                rw [take_snoc hgo, List.flatMap_append, ← HKJ.out, List.flatMap_cons, List.flatMap_nil, List.append_nil]
                exact this)
              clear hie
              go_wp2
              refine ⟨⟨j + 1, vc, by omega, by push_cast; rfl, HJe, HCS, HWS⟩, ?_⟩
              show K.length - ((j : Int) + 1).toNat < K.length - (j : Int).toNat
              omega
    · have hd : decide ((j : Int) < (K.length : Int)) = false := decide_eq_false (by omega)
      have hje : K.take j = K := List.take_of_length_le (by omega)
      rw [hje] at HJ1
      clear hje
      go_wp2
      go_end0
      exact ⟨⟨_, rfl⟩, .inl ⟨_, ⟨K, HKEYS.out, rfl⟩, HJ1.out⟩⟩
end Go.Proofs.Ytekggbmajemmhaa.Gr
/- Diff: slices.AppendSeq of changes. Conditions: both graphs lie in memory and are small. -/
namespace Go.Proofs.Ytekggbmajemmhaa.Gr
open Go.RowKit Go.Shelf Go.Maps Go.ChangeMaps Go.MapKept Go.Proofs.YtekggbmajemmhaaW.PrintWords Go.Proofs.YtekggbmajemmhaaW.PrintLast Go.Proofs.YtekggbmajemmhaaW.PrintMore
set_option linter.unusedSimpArgs false
set_option linter.unusedVariables false
attribute [local go_sem] Oper.semAt_some
theorem changes_stops (n : Nat) (hn : 3 ≤ n) (g1 g2 B Bo : Nat) (ga gb : Gd) (hsa : Small ga) (hsb : Small gb) (w : World) (hB : B ≤ w.heap.size) (v0 : Value) (hbox : w.heap[Bo]? = some (.cells #[v0] 26 (0, 0))) (hown : ∀ k, v0.ownBlock = some k → k < w.heap.size)
    (hg1 : w.heap[g1]? = some (.cells #[.slice ga.rA ga.rl ga.rc, .slice ga.nA ga.nl ga.nc] 25 (0, 0))) (hg2 : w.heap[g2]? = some (.cells #[.slice gb.rA gb.rl gb.rc, .slice gb.nA gb.nl gb.nc] 25 (0, 0))) (HGA : Aside0 (GM w B ga)) (HGB : Aside0 (GM w B gb)) :
    SeqStopsK Fence.wide n Try.prog 43 #[.pointer (some ⟨g1, 0, none⟩), .pointer (some ⟨g2, 0, none⟩)] encC (KpC B Bo) (fun ys => ∃ K, Keys (walkR ga.NS ga.R) (walkR gb.NS gb.R) K ∧ ys = K.flatMap (changeR ga.NS (walkR ga.NS ga.R) gb.NS (walkR gb.NS gb.R))) (fun _ => True) 48000 w := fun l J Jx W hW hJ _ hY h0 =>
  changes1_in n hn l g1 g2 B Bo ga gb hsa hsb J Jx hY W hJ (Nat.le_trans hB hW.size) v0 (blk_below hbox hW) (fun k hk => Nat.lt_of_lt_of_le (hown k hk) hW.size) (blk_below hg1 hW) (blk_below hg2 hW) (Aside0.mk (HGA.out.kept fun k hk => hW.block k (by omega))) (Aside0.mk (HGB.out.kept fun k hk => hW.block k (by omega))) h0
theorem KpC.alloc {B Bo : Nat} (W : World) (o : Obj) (hB : B ≤ W.heap.size) : KpC B Bo W (W.alloc o) :=
  ⟨fun k hk => Below.heap_alloc W o k (by omega), fun v hv => ⟨v, blk_alloc hv o, Or.inl rfl, fun k hk => Or.inl hk, by rw [World.size_alloc]; omega, fun k q hk _ _ _ => blk_alloc hk o⟩⟩
theorem KpC.push {B Bo X n m : Nat} {W w1 : World} {v v' : Value} {tmp : Obj} {xs ys : List Value} (hB : B ≤ X) (hX : X ≤ Bo) (hXs : X ≤ W.heap.size) (hv : W.heap[Bo]? = some (.cells #[v] 26 (0, 0))) (hv1 : w1.heap[Bo]? = some (.cells #[v] 26 (0, 0))) (hrow : W.ownsRow X 44 5 v n xs) (hown' : w1.ownsRow X 44 5 v' m ys) (hg : (W.alloc tmp).grownBy w1 v.ownBlock) (hat : v'.ownBlock = v.ownBlock ∨ v'.ownBlock = some (W.alloc tmp).heap.size) : KpC B Bo W (w1.setCell ⟨Bo, 0, none⟩ v') := by
  have hs := hg.size
  rw [World.size_alloc] at hs hat
  have hss := (KeepsWalks.setCell w1 ⟨Bo, 0, none⟩ v').size
  have hback : (w1.setCell ⟨Bo, 0, none⟩ v').heap.size = w1.heap.size := by simp [World.setCell]
  refine ⟨fun k hk => ?_, fun v2 hv2 => ?_⟩
  · rw [show (w1.setCell ⟨Bo, 0, none⟩ v').heap[k]? = w1.heap[k]? from Below.heap_setCell w1 ⟨Bo, 0, none⟩ v' k (by show k ≠ Bo; omega), hg.block k (by rw [World.size_alloc]; omega) (fun e => by have := (hrow.lt k e.symm).1; omega), Below.heap_alloc W tmp k (by omega)]
  · rw [hv] at hv2
    cases hv2
    refine ⟨v', Boxed.set v' (show Boxed w1 Bo 26 v from hv1), ?_, fun k hk => Or.inr (by rw [hback]; exact (hown'.lt k hk).2), by omega, fun k o hk _ hne hnv => ?_⟩
    · rcases hat with e | e
      · exact Or.inl e
      · exact Or.inr ⟨_, e, by omega⟩
    · have hkl := blk_lt hk
      rw [show (w1.setCell ⟨Bo, 0, none⟩ v').heap[k]? = w1.heap[k]? from Below.heap_setCell w1 ⟨Bo, 0, none⟩ v' k hne, hg.block k (by rw [World.size_alloc]; omega) (fun e => hnv e.symm), Below.heap_alloc W tmp k hkl]
      exact hk
set_option maxRecDepth 100000 in
set_option maxHeartbeats 8000000 in
theorem appch_calls (w : World) (X B : Nat) (hBX : B ≤ X) (hX : X ≤ w.heap.size) (g1 g2 : Nat) (ga gb : Gd) (hsa : Small ga) (hsb : Small gb) (hg1 : w.heap[g1]? = some (.cells #[.slice ga.rA ga.rl ga.rc, .slice ga.nA ga.nl ga.nc] 25 (0, 0))) (hg2 : w.heap[g2]? = some (.cells #[.slice gb.rA gb.rl gb.rc, .slice gb.nA gb.nl gb.nc] 25 (0, 0))) (HGA : Aside0 (GM w B ga)) (HGB : Aside0 (GM w B gb)) (a0 : Option Addr) (n0 c0 : Nat) (l0 : List Ch) (hrow0 : w.ownsRow X 44 5 (.slice a0 n0 c0) n0 (chs l0)) (hn0 : n0 ≤ 40) :
    Calls Try.prog 26 #[.slice a0 n0 c0, .func (.func 43) #[] #[.pointer (some ⟨g1, 0, none⟩), .pointer (some ⟨g2, 0, none⟩)]] w fun e W' => ∃ (v : Value) (K : List Int), e = .returned v ∧ Keys (walkR ga.NS ga.R) (walkR gb.NS gb.R) K ∧ W'.ownsRow X 44 5 v (l0 ++ K.flatMap (changeR ga.NS (walkR ga.NS ga.R) gb.NS (walkR gb.NS gb.R))).length (chs (l0 ++ K.flatMap (changeR ga.NS (walkR ga.NS ga.R) gb.NS (walkR gb.NS gb.R)))) ∧ Below X w W' := by
  obtain ⟨i0, hi, hz0, hz1, hz2⟩ := info_parts Di.info44
  have hl0 : l0.length = n0 := by have := hrow0.1; rw [chs_len] at this; omega
  refine (callsIn_wide (n := 20)).1 ?_
  refine callsIn_of_wp_marks Try.func26 rfl trivial ?_ rfl
  simp only [Try.ntmps26, List.size_toArray, List.length_cons, List.length_nil, Nat.reduceAdd, Nat.reduceSub, Array.replicate_succ, Array.replicate_zero, List.push_toArray, List.append_toArray, List.nil_append, List.cons_append]
  gi_wp2
  have bO := Boxed.new w 26 (.slice a0 n0 c0)
  have hB0 : Below X w (w.alloc (.cells #[.slice a0 n0 c0] 26)) := (Below.refl _ w).alloc hX _
  have hbw : Below w.heap.size w (w.alloc (.cells #[.slice a0 n0 c0] 26)) := below_alloc (Below.refl _ w) _
  refine wpIn_rangeFunc_ownH rfl (by decide) (gf := 43) (lb := #[.pointer (some ⟨g1, 0, none⟩), .pointer (some ⟨g2, 0, none⟩)]) rfl trivial (enters_of Try.func43 (by kernel_rfl) rfl)
    (changes_stops 19 (by decide) g1 g2 B w.heap.size ga gb hsa hsb (w.alloc (.cells #[.slice a0 n0 c0] 26)) (by simp; omega) _ bO (fun k hk => by have := (hrow0.lt k hk).2; simp; omega) (blk_alloc hg1 _) (blk_alloc hg2 _) (Aside0.mk (HGA.out.kept fun k hk => hbw.block k (by omega))) (Aside0.mk (HGB.out.kept fun k hk => hbw.block k (by omega))))
    KpC.t (KpC.b (by simp; omega)) (Below.refl _ _) (fun _ => rfl)
    (fun pre W => (∃ v, Boxed W w.heap.size 26 v ∧ W.ownsRow X 44 5 v (l0 ++ pre).length (chs (l0 ++ pre)) ∧ True) ∧ Below X w W)
    (fun _ _ _ => False)
    (OwnFrom.and (Own.from (holdsRow_own X w.heap.size 26 44 5 (fun pre : List Ch => (l0 ++ pre).length) (fun pre => chs (l0 ++ pre)) (fun pre v => True)) _) (ownFrom_below hX (by simp; omega)))
    (fun _ _ _ _ _ hs _ _ => hs.elim)
    ⟨⟨_, bO, by rw [List.append_nil, hl0]; exact hrow0.alloc _, trivial⟩, hB0⟩
    (fun x a' W => ∃ Bx, (w.alloc (.cells #[.slice a0 n0 c0] 26)).heap.size ≤ Bx ∧ W.heap[Bx]? = some (.cells #[.int .i64 x.k, .int .i64 x.a, .int .i64 x.i, .int .u64 x.was, .int .u64 x.is] 44 (0, 0)) ∧ a' = { tmps := #[.slice a0 n0 c0, .func (.func 43) #[] #[.pointer (some ⟨g1, 0, none⟩), .pointer (some ⟨g2, 0, none⟩)], .pointer (some ⟨w.heap.size, 0, none⟩), undef, .slice none 0 0, .pointer (some ⟨Bx, 0, none⟩), .func (.func 43) #[] #[.pointer (some ⟨g1, 0, none⟩), .pointer (some ⟨g2, 0, none⟩)], .agg #[.int .i64 x.k, .int .i64 x.a, .int .i64 x.i, .int .u64 x.was, .int .u64 x.is], undef, undef, undef, undef, undef], defers := [] }) ?hAx ?assign ?body ?done ?stop
  case hAx =>
    rintro x a' s W W' row ⟨Bx, h1, h2, h3⟩ hg hr
    refine ⟨Bx, h1, (hg.block _ (blk_lt h2) (fun e => ?_)).trans h2, h3⟩
    obtain ⟨_, o, ho, hc⟩ := hr Bx e.symm
    rw [h2] at ho
    cases ho
    cases hc
  case assign =>
    rintro l pre x W K ⟨⟨v, hv, hrow, _⟩, hB⟩ hK
    have hs := hB.size
    have hbl : w.heap.size < W.heap.size := blk_lt hv
    gi_wp2
    exact hK _ _ ((KeepsOthers.alloc _ _).from _) (KpC.alloc _ _ (by omega)) ⟨⟨v, hv.alloc _, hrow.alloc _, trivial⟩, hB.alloc (by omega) _⟩ ⟨W.heap.size, by simp; omega, blk_new W _, rfl⟩
  case body =>
    rintro l pre x a' W hl ⟨r, hr⟩ ⟨⟨v, hv, hrow, _⟩, hB⟩ ⟨Bx, hB1, hB2, rfl⟩ hlt
    have hc := hv.cell
    have hs := hB.size
    have hz0 : W.cell? ⟨Bx, 0, none⟩ = some (.int .i64 x.k) := (blk_cell hB2 0).trans rfl
    have hz1 : W.cell? ⟨Bx, 1, none⟩ = some (.int .i64 x.a) := (blk_cell hB2 1).trans rfl
    have hz2' : W.cell? ⟨Bx, 2, none⟩ = some (.int .i64 x.i) := (blk_cell hB2 2).trans rfl
    have hz3 : W.cell? ⟨Bx, 3, none⟩ = some (.int .u64 x.was) := (blk_cell hB2 3).trans rfl
    have hz4 : W.cell? ⟨Bx, 4, none⟩ = some (.int .u64 x.is) := (blk_cell hB2 4).trans rfl
    have hln : (l0 ++ pre).length ≤ 48040 := by rw [List.length_append]; omega
    obtain ⟨q, hq⟩ : ∃ q, q = (l0 ++ pre).length := ⟨_, rfl⟩
    rw [← hq] at hrow hln
    have HQ := Aside0.mk hq
    clear hq hl0
    gi_wp2_with (gi_at_builtin; refine wpListIn_append_own_at _ rfl _ _ 26 rfl X 44 i0 (.agg #[.int .i64 0, .int .i64 0, .int .i64 0, .int .u64 0, .int .u64 0]) 5 40 Try.underlying26 hi (by assumption) (by assumption) (by assumption) rfl (by decide) _ _ _ rfl (hrow.alloc _) ⟨W.heap.size, 0, none⟩ 1 1 [.int .i64 x.k, .int .i64 x.a, .int .i64 x.i, .int .u64 x.was, .int .u64 x.is] rfl rfl (ch_cells (blk_new W _)) (by intro u hu; simp at hu; rcases hu with rfl | rfl | rfl | rfl | rfl <;> rfl) (by unfold maxLen; omega) (by omega) (by simp; omega) ?_; intro v' w1 hown' hgrow _ hat; obtain ⟨g', cap', rfl⟩ := ownsRow_succ hown'; obtain ⟨hv1, hv2, hr2, hk2, hb2⟩ := hv.appended (by decide) hrow (by omega) hX hown' hgrow; have hkp := KpC.push (B := B) hBX hX (by omega) hv hv1 hrow hown' hgrow hat; have hc1 := hv1.cell; have hf1 := hv1.frozen)
    exact ⟨hk2.from _, hkp, ⟨_, hv2, by rw [← List.append_assoc, List.length_append, chs_snoc, ← HQ.out]; exact hr2, trivial⟩, hB.trans hb2⟩
  case done =>
    rintro D ys W hD ⟨K, hK1, rfl⟩ ⟨⟨v, hv, hrow, _⟩, hB⟩ hK
    have hc := hv.cell
    have HK1 := Aside0.mk hK1
    have HROW := Aside0.mk hrow
    have HBB := Aside0.mk hB
    clear hK1 hrow hB
    gi_wp2
    refine ⟨by simp, .inl ⟨_, _, rfl, run_takeDeferred hK, ?_⟩⟩
    exact ⟨_, results_tmp rfl _ _ _, v, K, rfl, HK1.out, ownsRow_putObj HROW.out _ hK rfl, HBB.out.trans (belowK_b (w := w) hX W D _ _ (by simp at hD; omega) hK rfl rfl)⟩
  case stop =>
    rintro D c pre W _ _ h _
    exact h.elim
end Go.Proofs.Ytekggbmajemmhaa.Gr
