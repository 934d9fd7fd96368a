/- Parts of one proof, set together: Gr16, Gr17, Gr18. What each says stands at its head; no condition beyond theirs. -/
import Derived.Test.YtekggbmajemmhaaDb15
/- Diff: Of. Conditions: both graphs lie in memory and are small. -/
namespace Go.Proofs.Ytekggbmajemmhaa.Gr
open Go.RowKit Go.Shelf Go.Maps Go.ChangeMaps Go.MapKept Go.Proofs.YtekggbmajemmhaaW.PrintWords Go.Proofs.YtekggbmajemmhaaW.PrintLast Go.Proofs.YtekggbmajemmhaaW.PrintMore
set_option linter.unusedSimpArgs false
set_option linter.unusedVariables false
theorem changesg_calls (W : World) (ga gb : Gd) : Calls Try.prog 28 #[.agg #[.slice ga.rA ga.rl ga.rc, .slice ga.nA ga.nl ga.nc], .agg #[.slice gb.rA gb.rl gb.rc, .slice gb.nA gb.nl gb.nc]] W fun e W' => ∃ q1 q2, e = .returned (.func (.func 43) #[] #[.pointer (some ⟨q1, 0, none⟩), .pointer (some ⟨q2, 0, none⟩)]) ∧ W'.heap[q1]? = some (.cells #[.slice ga.rA ga.rl ga.rc, .slice ga.nA ga.nl ga.nc] 25 (0, 0)) ∧ W'.heap[q2]? = some (.cells #[.slice gb.rA gb.rl gb.rc, .slice gb.nA gb.nl gb.nc] 25 (0, 0)) ∧ Below W.heap.size W W' := by
  go_enter Try.func28, Try.ntmps28
  go_wp2
  go_ret
  have h1 := blk_new W (.cells #[.slice ga.rA ga.rl ga.rc, .slice ga.nA ga.nl ga.nc] 25)
  have h2 := blk_new (W.alloc (.cells #[.slice ga.rA ga.rl ga.rc, .slice ga.nA ga.nl ga.nc] 25)) (.cells #[.slice gb.rA gb.rl gb.rc, .slice gb.nA gb.nl gb.nc] 25)
  rw [World.size_alloc] at h2
  exact ⟨_, _, rfl, blk_alloc h1 _, h2, below_alloc (below_alloc (Below.refl _ _) _) _⟩
theorem row44_slice {W : World} {X n : Nat} {v : Value} {xs : List Value} (h : W.ownsRow X 44 5 v n xs) : ∃ a0 c0, v = .slice a0 n c0 := by
  rcases row44_form h with ⟨rfl, rfl⟩ | ⟨g, cap, rfl⟩
  · exact ⟨none, 0, rfl⟩
  · exact ⟨_, _, rfl⟩
theorem roots2_calls (w : World) (B nr : Nat) (hB : B ≤ w.heap.size) (ga gb : Gd) (HG : Aside0 (GM w B ga)) (HH : Aside0 (GM w B gb)) (hg40 : ga.rl ≤ 40) (hh40 : gb.rl ≤ 40) (hnr : Aside0 (nr = (rootsTo ga.R gb.R (max ga.rl gb.rl)).length)) : Calls Try.prog 27 #[.agg #[.slice ga.rA ga.rl ga.rc, .slice ga.nA ga.nl ga.nc], .agg #[.slice gb.rA gb.rl gb.rc, .slice gb.nA gb.nl gb.nc]] w fun e W' => ∃ a3 c3, e = .returned (.slice a3 nr c3) ∧ W'.ownsRow w.heap.size 44 5 (.slice a3 nr c3) nr (chs (rootsTo ga.R gb.R (max ga.rl gb.rl))) ∧ Below w.heap.size w W' := by
  refine (roots_calls w B hB ga gb HG HH hg40 hh40).mono ?_
  rintro e w3 ⟨v, rfl, hr, hb⟩
  rw [← hnr.out] at hr
  obtain ⟨a0, c0, rfl⟩ := row44_slice hr
  exact ⟨a0, c0, rfl, hr, hb⟩
theorem appch2_calls (w : World) (X B nr : Nat) (hBX : B ≤ X) (hX : X ≤ w.heap.size) (q1 q2 : Nat) (ga gb : Gd) (hsa : Small ga) (hsb : Small gb) (hg1 : w.heap[q1]? = some (.cells #[.slice ga.rA ga.rl ga.rc, .slice ga.nA ga.nl ga.nc] 25 (0, 0))) (hg2 : w.heap[q2]? = some (.cells #[.slice gb.rA gb.rl gb.rc, .slice gb.nA gb.nl gb.nc] 25 (0, 0))) (HGA : Aside0 (GM w B ga)) (HGB : Aside0 (GM w B gb)) (a0 : Option Addr) (c0 : Nat) (hrow0 : w.ownsRow X 44 5 (.slice a0 nr c0) nr (chs (rootsTo ga.R gb.R (max ga.rl gb.rl)))) (hnr : Aside0 (nr = (rootsTo ga.R gb.R (max ga.rl gb.rl)).length)) :
    Calls Try.prog 26 #[.slice a0 nr c0, .func (.func 43) #[] #[.pointer (some ⟨q1, 0, none⟩), .pointer (some ⟨q2, 0, none⟩)]] w fun e W' => ∃ (v3 : Value) (K3 : List Int), e = .returned v3 ∧ (Keys (walkR ga.NS ga.R) (walkR gb.NS gb.R) K3 ∧ W'.ownsRow X 44 5 v3 (ofR ga.NS ga.R gb.NS gb.R K3).length (chs (ofR ga.NS ga.R gb.NS gb.R K3))) ∧ Below X w W' := by
  have h40 : nr ≤ 40 := by rw [hnr.out]; have := rootsTo_le ga.R gb.R (max ga.rl gb.rl); have := hsa.r40; have := hsb.r40; omega
  refine (appch_calls w X B hBX hX q1 q2 ga gb hsa hsb hg1 hg2 HGA HGB a0 nr c0 _ hrow0 h40).mono ?_
  rintro e w3 ⟨v, K, rfl, hK, hr, hb⟩
  refine ⟨v, K, rfl, ⟨hK, ?_⟩, hb⟩
  unfold ofR
  rw [HGA.out.rts.1, HGB.out.rts.1]
  exact hr
def o2.T1 : Bool × List (List Nat × List Nat) := (true, [([], []), ([], []), ([0, 1], [0, 1]), ([], []), ([], []), ([3, 4, 2], [3, 4]), ([2, 5, 5], [2, 5]), ([6, 6, 0, 1, 2, 3, 4, 5, 6], [6])])
def o2.B1 : List Nat := [0, 0, 3, 0, 0, 31, 63, 127]
theorem o2.tab1 : rtab .any (opsOf Try.f12 1) = o2.T1 := by kernel_rfl
theorem o2.bits1 : waitsOk o2.T1.2 o2.B1 = true := by kernel_rfl
set_option maxHeartbeats 8000000 in
set_option maxRecDepth 100000 in
theorem of_calls (w : World) (B : Nat) (hB : B ≤ w.heap.size) (ga gb : Gd) (hsa : Small ga) (hsb : Small gb) (HG : Aside0 (GM w B ga)) (HH : Aside0 (GM w B gb)) : Calls Try.prog 12 #[.agg #[.slice ga.rA ga.rl ga.rc, .slice ga.nA ga.nl ga.nc], .agg #[.slice gb.rA gb.rl gb.rc, .slice gb.nA gb.nl gb.nc]] w fun e W' => ∃ (vv : Value) (KK : List Int), e = .returned vv ∧ Keys (walkR ga.NS ga.R) (walkR gb.NS gb.R) KK ∧ W'.ownsRow w.heap.size 44 5 vv (ofR ga.NS ga.R gb.NS gb.R KK).length (chs (ofR ga.NS ga.R gb.NS gb.R KK)) ∧ Below w.heap.size w W' := by
  have HB := Aside0.mk (Below.refl w.heap.size w)
  obtain ⟨nr, hnr⟩ : ∃ n, n = (rootsTo ga.R gb.R (max ga.rl gb.rl)).length := ⟨_, rfl⟩
  have HNR := Aside0.mk hnr
  clear hnr
  go_enter Try.func12, Try.ntmps12
  go_upto_region 1 with (first | ((with_reducible refine gate_dst (N := 2) rfl ?_); refine box_event ?hg (N := 2) ?hd (cs := #[.slice ga.rA ga.rl ga.rc, .slice ga.nA ga.nl ga.nc]) (t := 25) ?hr ?_; (case hd => rfl); (case hg => rfl); (case hr => first | (go_simp; done) | (go_simp; rfl)); intro g2 hg w1_ hbox hb; have n0_ := Aside0.mk (below_step (by repeat (first | (with_reducible first | exact HB.out | apply below_alloc | apply pw_below_drewN | apply below_drew1) | exact HB.out)) hb); have n1_ := Aside0.mk hbox; have n2_ := Aside0.mk ((by rw [hg]; exact (below_size (by repeat (first | (with_reducible first | exact HB.out | apply below_alloc | apply pw_below_drewN | apply below_drew1) | exact HB.out)))) : w.heap.size ≤ g2); clear HB; have HB := n0_; have BK2 := n1_; have GE2 := n2_; clear n0_ n1_ n2_; clear hb hbox hg) | ((with_reducible refine gate_dst (N := 3) rfl ?_); refine box_event ?hg (N := 3) ?hd (cs := #[.slice gb.rA gb.rl gb.rc, .slice gb.nA gb.nl gb.nc]) (t := 25) ?hr ?_; (case hd => rfl); (case hg => rfl); (case hr => first | (go_simp; done) | (go_simp; rfl)); intro g3 hg w2_ hbox hb; have n0_ := Aside0.mk (below_step (by repeat (first | (with_reducible first | exact HB.out | apply below_alloc | apply pw_below_drewN | apply below_drew1 | refine below_set ?_ GE2.out) | exact HB.out)) hb); have n1_ := Aside0.mk (blk_below (g := g2) (o := .cells #[.slice ga.rA ga.rl ga.rc, .slice ga.nA ga.nl ga.nc] 25 (0, 0)) (by (with_reducible repeat (first | refine blk_drewN ?_ _ | refine blk_drew ?_ | refine blk_alloc ?_ _)); exact BK2.out) hb); have n2_ := Aside0.mk hbox; have n3_ := Aside0.mk ((by rw [hg]; exact (below_size (by repeat (first | (with_reducible first | exact HB.out | apply below_alloc | apply pw_below_drewN | apply below_drew1 | refine below_set ?_ GE2.out) | exact HB.out)))) : w.heap.size ≤ g3); have n4_ := Aside0.mk ((by rw [hg]; exact Nat.ne_of_lt (blk_lt (g := g2) (o := .cells #[.slice ga.rA ga.rl ga.rc, .slice ga.nA ga.nl ga.nc] 25 (0, 0)) (by (with_reducible repeat (first | refine blk_drewN ?_ _ | refine blk_drew ?_ | refine blk_alloc ?_ _)); exact BK2.out))) : g2 ≠ g3); clear HB; clear BK2; have HB := n0_; have BK2 := n1_; have BK3 := n2_; have GE3 := n3_; have NE2_3 := n4_; clear n0_ n1_ n2_ n3_ n4_; clear hb hbox hg))
  refine start_ (n := 8) (S := fun w' => True) (ds := []) #[false, false, false, false, false, false, false, false] (by kernel_rfl) rfl rfl trivial (fun hHeld => ?_)
  refine with_tabW o2.tab1 o2.bits1 (fun HT_ HW_ => ?_)
  refine inv_at [0, 1, 2, 3, 4, 5, 6, 7] (fun a0_ b a w' => ∃ (a0 : Option Addr) (c0 : Nat) (q1 : Nat) (q2 : Nat) (vv : Value) (KK : List Int) (m2_ : Value) (m5_ : Value) (m7_ : Value), a = putSel a0_ b [(0, 5, .agg #[.slice ga.rA ga.rl ga.rc, .slice ga.nA ga.nl ga.nc]), (1, 6, .agg #[.slice gb.rA gb.rl gb.rc, .slice gb.nA gb.nl gb.nc]), (2, 7, m2_), (3, 8, .agg #[.slice ga.rA ga.rl ga.rc, .slice ga.nA ga.nl ga.nc]), (4, 9, .agg #[.slice gb.rA gb.rl gb.rc, .slice gb.nA gb.nl gb.nc]), (5, 10, m5_), (6, 11, vv), (7, 4, m7_)] ∧ (Below w.heap.size w w') ∧ (b 6 = false → w'.heap[g2]? = some (.cells #[.slice ga.rA ga.rl ga.rc, .slice ga.nA ga.nl ga.nc] 25 (0, 0))) ∧ (b 6 = false → w'.heap[g3]? = some (.cells #[.slice gb.rA gb.rl gb.rc, .slice gb.nA gb.nl gb.nc] 25 (0, 0))) ∧ (b 2 = true → b 6 = false → w'.ownsRow w.heap.size 44 5 (.slice a0 nr c0) nr (chs (rootsTo ga.R gb.R (max ga.rl gb.rl)))) ∧ (b 5 = true → b 6 = false → w'.heap[q1]? = some (.cells #[.slice ga.rA ga.rl ga.rc, .slice ga.nA ga.nl ga.nc] 25 (0, 0))) ∧ (b 5 = true → b 6 = false → w'.heap[q2]? = some (.cells #[.slice gb.rA gb.rl gb.rc, .slice gb.nA gb.nl gb.nc] 25 (0, 0))) ∧ (b 6 = true → Keys (walkR ga.NS ga.R) (walkR gb.NS gb.R) KK ∧ w'.ownsRow w.heap.size 44 5 vv (ofR ga.NS ga.R gb.NS gb.R KK).length (chs (ofR ga.NS ga.R gb.NS gb.R KK))) ∧ (b 2 = true → (m2_ : Value) = .slice a0 nr c0) ∧ (b 5 = true → (m5_ : Value) = .func (.func 43) #[] #[.pointer (some ⟨q1, 0, none⟩), .pointer (some ⟨q2, 0, none⟩)]) ∧ (b 7 = true → (m7_ : Value) = vv)) HT_.out HW_.out (by kernel_rfl) (by kernel_rfl) ?_ ?_ ?_
  · exact ⟨none, 0, 0, 0, .bool false, [], .bool false, .bool false, .bool false, by simp only [putSel, Bool.false_eq_true, if_false], below_drew1 HB.out, fun _ => BK2.out, fun _ => BK3.out, fun h_ => absurd h_ (by decide), fun h_ => absurd h_ (by decide), fun h_ => absurd h_ (by decide), fun h_ => absurd h_ (by decide), fun h_ => absurd h_ (by decide), fun h_ => absurd h_ (by decide), fun h_ => absurd h_ (by decide)⟩
  · skip
    clear BK2 BK3 HB
    refine steps_cons ?_ ?_
    · rintro b a w' ⟨a0, c0, q1, q2, vv, KK, m2_, m5_, m7_, ha, Q_HB, Q_BK2, Q_BK3, Q_ROW, Q_BQ1, Q_BQ2, Q_RES, Q_X2_, Q_X5_, Q_X7_⟩ hb_ hon hoff
      refine ⟨_, rfl, fun K hK => ?_⟩
      have e2 : a.tmps[2]? = some (.pointer (some ⟨g2, 0, none⟩)) := by rw [ha]; exact (putSel_off rfl).trans rfl
      replace ha := Aside0.mk ha
      have HB := Aside0.mk Q_HB
      have BK2 := Aside0.mk (Q_BK2 (hoff 6 (by kernel_rfl)))
      have BK3 := Aside0.mk (Q_BK3 (hoff 6 (by kernel_rfl)))
      have hl5_0 : w'.cell? ⟨g2, 0, none⟩ = some (.slice ga.rA ga.rl ga.rc) := (blk_cell BK2.out 0).trans rfl
      have hl5_1 : w'.cell? ⟨g2, 1, none⟩ = some (.slice ga.nA ga.nl ga.nc) := (blk_cell BK2.out 1).trans rfl
      refine value_ (w1 := w') (v := .agg #[.slice ga.rA ga.rl ga.rc, .slice ga.nA ga.nl ga.nc]) (by rfl) rfl ?_ ?_
      · go_simp
        (try simp only [i64_w])
        try rfl
      refine hK.out _ _ ⟨a0, c0, q1, q2, vv, KK, m2_, m5_, m7_, (by rw [ha.out]; exact putSel_upk 0 hb_ rfl rfl rfl), Q_HB, Q_BK2, Q_BK3, fun h0_ _ => absurd ((hoff 2 (by kernel_rfl)).symm.trans h0_) (by decide), fun h0_ _ => absurd ((hoff 5 (by kernel_rfl)).symm.trans h0_) (by decide), fun h0_ _ => absurd ((hoff 5 (by kernel_rfl)).symm.trans h0_) (by decide), fun h0_ => absurd ((hoff 6 (by kernel_rfl)).symm.trans h0_) (by decide), fun h0_ => absurd ((hoff 2 (by kernel_rfl)).symm.trans h0_) (by decide), fun h0_ => absurd ((hoff 5 (by kernel_rfl)).symm.trans h0_) (by decide), fun h0_ => absurd ((hoff 7 (by kernel_rfl)).symm.trans h0_) (by decide)⟩
    refine steps_cons ?_ ?_
    · rintro b a w' ⟨a0, c0, q1, q2, vv, KK, m2_, m5_, m7_, ha, Q_HB, Q_BK2, Q_BK3, Q_ROW, Q_BQ1, Q_BQ2, Q_RES, Q_X2_, Q_X5_, Q_X7_⟩ hb_ hon hoff
      refine ⟨_, rfl, fun K hK => ?_⟩
      have e3 : a.tmps[3]? = some (.pointer (some ⟨g3, 0, none⟩)) := by rw [ha]; exact (putSel_off rfl).trans rfl
      replace ha := Aside0.mk ha
      have HB := Aside0.mk Q_HB
      have BK2 := Aside0.mk (Q_BK2 (hoff 6 (by kernel_rfl)))
      have BK3 := Aside0.mk (Q_BK3 (hoff 6 (by kernel_rfl)))
      have hl6_0 : w'.cell? ⟨g3, 0, none⟩ = some (.slice gb.rA gb.rl gb.rc) := (blk_cell BK3.out 0).trans rfl
      have hl6_1 : w'.cell? ⟨g3, 1, none⟩ = some (.slice gb.nA gb.nl gb.nc) := (blk_cell BK3.out 1).trans rfl
      refine value_ (w1 := w') (v := .agg #[.slice gb.rA gb.rl gb.rc, .slice gb.nA gb.nl gb.nc]) (by rfl) rfl ?_ ?_
      · go_simp
        (try simp only [i64_w])
        try rfl
      refine hK.out _ _ ⟨a0, c0, q1, q2, vv, KK, m2_, m5_, m7_, (by rw [ha.out]; exact putSel_upk 1 hb_ rfl rfl rfl), Q_HB, Q_BK2, Q_BK3, fun h0_ _ => absurd ((hoff 2 (by kernel_rfl)).symm.trans h0_) (by decide), fun h0_ _ => absurd ((hoff 5 (by kernel_rfl)).symm.trans h0_) (by decide), fun h0_ _ => absurd ((hoff 5 (by kernel_rfl)).symm.trans h0_) (by decide), fun h0_ => absurd ((hoff 6 (by kernel_rfl)).symm.trans h0_) (by decide), fun h0_ => absurd ((hoff 2 (by kernel_rfl)).symm.trans h0_) (by decide), fun h0_ => absurd ((hoff 5 (by kernel_rfl)).symm.trans h0_) (by decide), fun h0_ => absurd ((hoff 7 (by kernel_rfl)).symm.trans h0_) (by decide)⟩
    refine steps_cons ?_ ?_
    · rintro b a w' ⟨a0, c0, q1, q2, vv, KK, m2_, m5_, m7_, ha, Q_HB, Q_BK2, Q_BK3, Q_ROW, Q_BQ1, Q_BQ2, Q_RES, Q_X2_, Q_X5_, Q_X7_⟩ hb_ hon hoff
      refine ⟨_, rfl, fun K hK => ?_⟩
      have e5 : a.tmps[5]? = some (.agg #[.slice ga.rA ga.rl ga.rc, .slice ga.nA ga.nl ga.nc]) := by rw [ha]; exact putSel_on (e := (0, 5, .agg #[.slice ga.rA ga.rl ga.rc, .slice ga.nA ga.nl ga.nc])) 0 rfl rfl (hon 0 (by kernel_rfl)) rfl
      have e6 : a.tmps[6]? = some (.agg #[.slice gb.rA gb.rl gb.rc, .slice gb.nA gb.nl gb.nc]) := by rw [ha]; exact putSel_on (e := (1, 6, .agg #[.slice gb.rA gb.rl gb.rc, .slice gb.nA gb.nl gb.nc])) 1 rfl rfl (hon 1 (by kernel_rfl)) rfl
      replace ha := Aside0.mk ha
      have HB := Aside0.mk Q_HB
      have BK2 := Aside0.mk (Q_BK2 (hoff 6 (by kernel_rfl)))
      have BK3 := Aside0.mk (Q_BK3 (hoff 6 (by kernel_rfl)))
      refine goes_ Try.func27 (by kernel_rfl) rfl #[.agg #[.slice ga.rA ga.rl ga.rc, .slice ga.nA ga.nl ga.nc], .agg #[.slice gb.rA gb.rl gb.rc, .slice gb.nA gb.nl gb.nc]] (by rfl) rfl rfl (by first | (simp only [List.map_toArray, List.map_cons, List.map_nil, Act.eval, Array.getD_eq_getD_getElem?, Option.getD_some, e5, e6]; done) | (simp only [List.map_toArray, List.map_cons, List.map_nil, Act.eval, Array.getD_eq_getD_getElem?, Option.getD_some, e5, e6]; rfl)) ?_
      with_reducible refine (roots2_calls _ B nr (Nat.le_trans hB HB.out.size) ga gb (Aside0.mk (HG.out.kept fun k hk => HB.out.block k (by omega))) (Aside0.mk (HH.out.kept fun k hk => HB.out.block k (by omega))) hsa.r40 hsb.r40 HNR).mono ?_
      rintro e w3 ⟨a3, c3, rfl, hr3, hb⟩
      refine ⟨_, rfl, ?_⟩
      refine hK.out _ _ ⟨a3, c3, q1, q2, vv, KK, (.slice a3 nr c3), m5_, m7_, (by rw [ha.out]; exact putSel_upk 2 hb_ rfl rfl rfl), (below_step HB.out hb), fun _ => (blk_below BK2.out hb), fun _ => (blk_below BK3.out hb), fun _ _ => (Di.row_mono hr3 (below_size HB.out)), fun h0_ _ => absurd ((hoff 5 (by kernel_rfl)).symm.trans h0_) (by decide), fun h0_ _ => absurd ((hoff 5 (by kernel_rfl)).symm.trans h0_) (by decide), fun h0_ => absurd ((hoff 6 (by kernel_rfl)).symm.trans h0_) (by decide), fun _ => rfl, fun h0_ => absurd ((hoff 5 (by kernel_rfl)).symm.trans h0_) (by decide), fun h0_ => absurd ((hoff 7 (by kernel_rfl)).symm.trans h0_) (by decide)⟩
    refine steps_cons ?_ ?_
    · rintro b a w' ⟨a0, c0, q1, q2, vv, KK, m2_, m5_, m7_, ha, Q_HB, Q_BK2, Q_BK3, Q_ROW, Q_BQ1, Q_BQ2, Q_RES, Q_X2_, Q_X5_, Q_X7_⟩ hb_ hon hoff
      refine ⟨_, rfl, fun K hK => ?_⟩
      have e2 : a.tmps[2]? = some (.pointer (some ⟨g2, 0, none⟩)) := by rw [ha]; exact (putSel_off rfl).trans rfl
      replace ha := Aside0.mk ha
      have HB := Aside0.mk Q_HB
      have BK2 := Aside0.mk (Q_BK2 (hoff 6 (by kernel_rfl)))
      have BK3 := Aside0.mk (Q_BK3 (hoff 6 (by kernel_rfl)))
      have hl8_0 : w'.cell? ⟨g2, 0, none⟩ = some (.slice ga.rA ga.rl ga.rc) := (blk_cell BK2.out 0).trans rfl
      have hl8_1 : w'.cell? ⟨g2, 1, none⟩ = some (.slice ga.nA ga.nl ga.nc) := (blk_cell BK2.out 1).trans rfl
      refine value_ (w1 := w') (v := .agg #[.slice ga.rA ga.rl ga.rc, .slice ga.nA ga.nl ga.nc]) (by rfl) rfl ?_ ?_
      · go_simp
        (try simp only [i64_w])
        try rfl
      refine hK.out _ _ ⟨a0, c0, q1, q2, vv, KK, m2_, m5_, m7_, (by rw [ha.out]; exact putSel_upk 3 hb_ rfl rfl rfl), Q_HB, Q_BK2, Q_BK3, Q_ROW, fun h0_ _ => absurd ((hoff 5 (by kernel_rfl)).symm.trans h0_) (by decide), fun h0_ _ => absurd ((hoff 5 (by kernel_rfl)).symm.trans h0_) (by decide), fun h0_ => absurd ((hoff 6 (by kernel_rfl)).symm.trans h0_) (by decide), Q_X2_, fun h0_ => absurd ((hoff 5 (by kernel_rfl)).symm.trans h0_) (by decide), fun h0_ => absurd ((hoff 7 (by kernel_rfl)).symm.trans h0_) (by decide)⟩
    refine steps_cons ?_ ?_
    · rintro b a w' ⟨a0, c0, q1, q2, vv, KK, m2_, m5_, m7_, ha, Q_HB, Q_BK2, Q_BK3, Q_ROW, Q_BQ1, Q_BQ2, Q_RES, Q_X2_, Q_X5_, Q_X7_⟩ hb_ hon hoff
      refine ⟨_, rfl, fun K hK => ?_⟩
      have e3 : a.tmps[3]? = some (.pointer (some ⟨g3, 0, none⟩)) := by rw [ha]; exact (putSel_off rfl).trans rfl
      replace ha := Aside0.mk ha
      have HB := Aside0.mk Q_HB
      have BK2 := Aside0.mk (Q_BK2 (hoff 6 (by kernel_rfl)))
      have BK3 := Aside0.mk (Q_BK3 (hoff 6 (by kernel_rfl)))
      have hl9_0 : w'.cell? ⟨g3, 0, none⟩ = some (.slice gb.rA gb.rl gb.rc) := (blk_cell BK3.out 0).trans rfl
      have hl9_1 : w'.cell? ⟨g3, 1, none⟩ = some (.slice gb.nA gb.nl gb.nc) := (blk_cell BK3.out 1).trans rfl
      refine value_ (w1 := w') (v := .agg #[.slice gb.rA gb.rl gb.rc, .slice gb.nA gb.nl gb.nc]) (by rfl) rfl ?_ ?_
      · go_simp
        (try simp only [i64_w])
        try rfl
      refine hK.out _ _ ⟨a0, c0, q1, q2, vv, KK, m2_, m5_, m7_, (by rw [ha.out]; exact putSel_upk 4 hb_ rfl rfl rfl), Q_HB, Q_BK2, Q_BK3, Q_ROW, fun h0_ _ => absurd ((hoff 5 (by kernel_rfl)).symm.trans h0_) (by decide), fun h0_ _ => absurd ((hoff 5 (by kernel_rfl)).symm.trans h0_) (by decide), fun h0_ => absurd ((hoff 6 (by kernel_rfl)).symm.trans h0_) (by decide), Q_X2_, fun h0_ => absurd ((hoff 5 (by kernel_rfl)).symm.trans h0_) (by decide), fun h0_ => absurd ((hoff 7 (by kernel_rfl)).symm.trans h0_) (by decide)⟩
    refine steps_cons ?_ ?_
    · rintro b a w' ⟨a0, c0, q1, q2, vv, KK, m2_, m5_, m7_, ha, Q_HB, Q_BK2, Q_BK3, Q_ROW, Q_BQ1, Q_BQ2, Q_RES, Q_X2_, Q_X5_, Q_X7_⟩ hb_ hon hoff
      refine ⟨_, rfl, fun K hK => ?_⟩
      have e8 : a.tmps[8]? = some (.agg #[.slice ga.rA ga.rl ga.rc, .slice ga.nA ga.nl ga.nc]) := by rw [ha]; exact putSel_on (e := (3, 8, .agg #[.slice ga.rA ga.rl ga.rc, .slice ga.nA ga.nl ga.nc])) 3 rfl rfl (hon 3 (by kernel_rfl)) rfl
      have e9 : a.tmps[9]? = some (.agg #[.slice gb.rA gb.rl gb.rc, .slice gb.nA gb.nl gb.nc]) := by rw [ha]; exact putSel_on (e := (4, 9, .agg #[.slice gb.rA gb.rl gb.rc, .slice gb.nA gb.nl gb.nc])) 4 rfl rfl (hon 4 (by kernel_rfl)) rfl
      replace ha := Aside0.mk ha
      have HB := Aside0.mk Q_HB
      have BK2 := Aside0.mk (Q_BK2 (hoff 6 (by kernel_rfl)))
      have BK3 := Aside0.mk (Q_BK3 (hoff 6 (by kernel_rfl)))
      have ROW := Aside0.mk (Q_ROW (hon 2 (by kernel_rfl)) (hoff 6 (by kernel_rfl)))
      refine goes_ Try.func28 (by kernel_rfl) rfl #[.agg #[.slice ga.rA ga.rl ga.rc, .slice ga.nA ga.nl ga.nc], .agg #[.slice gb.rA gb.rl gb.rc, .slice gb.nA gb.nl gb.nc]] (by rfl) rfl rfl (by first | (simp only [List.map_toArray, List.map_cons, List.map_nil, Act.eval, Array.getD_eq_getD_getElem?, Option.getD_some, e8, e9]; done) | (simp only [List.map_toArray, List.map_cons, List.map_nil, Act.eval, Array.getD_eq_getD_getElem?, Option.getD_some, e8, e9]; rfl)) ?_
      with_reducible refine (changesg_calls _ ga gb).mono ?_
      rintro e w3 ⟨q3, p3, rfl, hq3, hp3, hb⟩
      refine ⟨_, rfl, ?_⟩
      refine hK.out _ _ ⟨a0, c0, q3, p3, vv, KK, m2_, (.func (.func 43) #[] #[.pointer (some ⟨q3, 0, none⟩), .pointer (some ⟨p3, 0, none⟩)]), m7_, (by rw [ha.out]; exact putSel_upk 5 hb_ rfl rfl rfl), (below_step HB.out hb), fun _ => (blk_below BK2.out hb), fun _ => (blk_below BK3.out hb), fun _ _ => (Di.row_below ROW.out hb), fun _ _ => hq3, fun _ _ => hp3, fun h0_ => absurd ((hoff 6 (by kernel_rfl)).symm.trans h0_) (by decide), Q_X2_, fun _ => rfl, fun h0_ => absurd ((hoff 7 (by kernel_rfl)).symm.trans h0_) (by decide)⟩
    refine steps_cons ?_ ?_
    · rintro b a w' ⟨a0, c0, q1, q2, vv, KK, m2_, m5_, m7_, ha, Q_HB, Q_BK2, Q_BK3, Q_ROW, Q_BQ1, Q_BQ2, Q_RES, Q_X2_, Q_X5_, Q_X7_⟩ hb_ hon hoff
      refine ⟨_, rfl, fun K hK => ?_⟩
      have e7 : a.tmps[7]? = some (m2_) := by rw [ha]; exact putSel_on (e := (2, 7, m2_)) 2 rfl rfl (hon 2 (by kernel_rfl)) rfl
      rw [Q_X2_ (hon 2 (by kernel_rfl))] at e7
      have e10 : a.tmps[10]? = some (m5_) := by rw [ha]; exact putSel_on (e := (5, 10, m5_)) 5 rfl rfl (hon 5 (by kernel_rfl)) rfl
      rw [Q_X5_ (hon 5 (by kernel_rfl))] at e10
      replace ha := Aside0.mk ha
      have HB := Aside0.mk Q_HB
      have BK2 := Aside0.mk (Q_BK2 hb_)
      have BK3 := Aside0.mk (Q_BK3 hb_)
      have ROW := Aside0.mk (Q_ROW (hon 2 (by kernel_rfl)) hb_)
      have BQ1 := Aside0.mk (Q_BQ1 (hon 5 (by kernel_rfl)) hb_)
      have BQ2 := Aside0.mk (Q_BQ2 (hon 5 (by kernel_rfl)) hb_)
      refine goes_ Try.func26 (by kernel_rfl) rfl #[.slice a0 nr c0, .func (.func 43) #[] #[.pointer (some ⟨q1, 0, none⟩), .pointer (some ⟨q2, 0, none⟩)]] (by rfl) rfl rfl (by first | (simp only [List.map_toArray, List.map_cons, List.map_nil, Act.eval, Array.getD_eq_getD_getElem?, Option.getD_some, e7, e10]; done) | (simp only [List.map_toArray, List.map_cons, List.map_nil, Act.eval, Array.getD_eq_getD_getElem?, Option.getD_some, e7, e10]; rfl)) ?_
      with_reducible refine (appch2_calls _ _ B nr hB (HB.out.size) q1 q2 ga gb hsa hsb BQ1.out BQ2.out (Aside0.mk (HG.out.kept fun k hk => HB.out.block k (by omega))) (Aside0.mk (HH.out.kept fun k hk => HB.out.block k (by omega))) a0 c0 ROW.out HNR).mono ?_
      rintro e w3 ⟨v3, K3, rfl, hr3, hb⟩
      refine ⟨_, rfl, ?_⟩
      refine hK.out _ _ ⟨a0, c0, q1, q2, v3, K3, m2_, m5_, m7_, (by rw [ha.out]; exact putSel_upk 6 hb_ rfl rfl rfl), HB.out.trans hb, fun h0_ => absurd ((up_self b 6).symm.trans h0_) (by decide), fun h0_ => absurd ((up_self b 6).symm.trans h0_) (by decide), fun _ h1_ => absurd ((up_self b 6).symm.trans h1_) (by decide), fun _ h1_ => absurd ((up_self b 6).symm.trans h1_) (by decide), fun _ h1_ => absurd ((up_self b 6).symm.trans h1_) (by decide), fun _ => hr3, Q_X2_, Q_X5_, fun h0_ => absurd ((hoff 7 (by kernel_rfl)).symm.trans h0_) (by decide)⟩
    refine steps_cons ?_ ?_
    · rintro b a w' ⟨a0, c0, q1, q2, vv, KK, m2_, m5_, m7_, ha, Q_HB, Q_BK2, Q_BK3, Q_ROW, Q_BQ1, Q_BQ2, Q_RES, Q_X2_, Q_X5_, Q_X7_⟩ hb_ hon hoff
      refine ⟨_, rfl, fun K hK => ?_⟩
      have e11 : a.tmps[11]? = some (vv) := by rw [ha]; exact putSel_on (e := (6, 11, vv)) 6 rfl rfl (hon 6 (by kernel_rfl)) rfl
      replace ha := Aside0.mk ha
      have HB := Aside0.mk Q_HB
      have RES := Aside0.mk (Q_RES (hon 6 (by kernel_rfl)))
      refine value_ (w1 := w') (v := vv) (by rfl) rfl ?_ ?_
      · go_simp
        (try simp only [i64_w])
        try rfl
      refine hK.out _ _ ⟨a0, c0, q1, q2, vv, KK, m2_, m5_, (vv), (by rw [ha.out]; exact putSel_upk 7 hb_ rfl rfl rfl), Q_HB, fun h0_ => absurd ((hon 6 (by kernel_rfl)).symm.trans h0_) (by decide), fun h0_ => absurd ((hon 6 (by kernel_rfl)).symm.trans h0_) (by decide), fun _ h1_ => absurd ((hon 6 (by kernel_rfl)).symm.trans h1_) (by decide), fun _ h1_ => absurd ((hon 6 (by kernel_rfl)).symm.trans h1_) (by decide), fun _ h1_ => absurd ((hon 6 (by kernel_rfl)).symm.trans h1_) (by decide), Q_RES, Q_X2_, Q_X5_, fun _ => rfl⟩
    exact steps_nil
  rintro b a wz hall ⟨a0, c0, q1, q2, vv, KK, m2_, m5_, m7_, ha, Q_HB, Q_BK2, Q_BK3, Q_ROW, Q_BQ1, Q_BQ2, Q_RES, Q_X2_, Q_X5_, Q_X7_⟩
  clear BK2 BK3 HB
  have hb0_ := hall 0 (by kernel_rfl)
  have hb1_ := hall 1 (by kernel_rfl)
  have hb2_ := hall 2 (by kernel_rfl)
  have hb3_ := hall 3 (by kernel_rfl)
  have hb4_ := hall 4 (by kernel_rfl)
  have hb5_ := hall 5 (by kernel_rfl)
  have hb6_ := hall 6 (by kernel_rfl)
  have hb7_ := hall 7 (by kernel_rfl)
  subst ha
  obtain rfl := Q_X2_ hb2_
  obtain rfl := Q_X5_ hb5_
  obtain rfl := Q_X7_ hb7_
  simp only [putSel, hb0_, hb1_, hb2_, hb3_, hb4_, hb5_, hb6_, hb7_, if_true, Act.put, List.setIfInBounds_toArray, List.set_cons_zero, List.set_cons_succ]
  have HB := Aside0.mk Q_HB
  clear Q_HB
  clear Q_BK2
  clear Q_BK3
  clear Q_ROW
  clear Q_BQ1
  clear Q_BQ2
  have RES := Aside0.mk (Q_RES hb6_)
  clear Q_RES
  clear hall hb0_ hb1_ hb2_ hb3_ hb4_ hb5_ hb6_ hb7_
  go_wp2
  go_ret
  exact ⟨_, rfl, KK, RES.out.1, RES.out.2, HB.out⟩
end Go.Proofs.Ytekggbmajemmhaa.Gr
/- Diff: whether a graph is great. Condition: its nodes lie in memory. -/
namespace Go.Proofs.Ytekggbmajemmhaa.Gr
open Go.RowKit Go.Shelf Go.Maps Go.ChangeMaps Go.MapKept Go.Proofs.YtekggbmajemmhaaW.PrintWords Go.Proofs.YtekggbmajemmhaaW.PrintLast Go.Proofs.YtekggbmajemmhaaW.PrintMore
set_option linter.unusedSimpArgs false
set_option linter.unusedVariables false
set_option maxHeartbeats 8000000 in
set_option maxRecDepth 100000 in
theorem great_calls (w : World) (B : Nat) (hB : B ≤ w.heap.size) (rA nA : Option Addr) (rl rc nl nc : Nat) (NS : List Nd) (HN : Aside0 (NL w B nA nl NS)) (hnl : nl ≤ 9223372036854775807) : Calls Try.prog 8 #[.agg #[.slice rA rl rc, .slice nA nl nc]] w (fun (e : Ending) (W' : World) => ∃ b : Bool, e = .returned (.bool b) ∧ (b = false ↔ nl ≤ 40 ∧ rl ≤ 40 ∧ ∀ i, i < nl → (NS.getD i default).m ≤ 300 ∧ (NS.getD i default).n ≤ 300) ∧ Below w.heap.size w W') := by
  have HB := Aside0.mk (Below.refl w.heap.size w)
  go_enter Try.func8, Try.ntmps8
  go_upto_region 1 with ((with_reducible refine gate_dst (N := 1) rfl ?_); refine box_event ?hg (N := 1) ?hd (cs := #[.slice rA rl rc, .slice nA nl nc]) (t := 25) ?hr ?_; (case hd => rfl); (case hg => rfl); (case hr => first | (go_simp; done) | (go_simp; rfl)); intro g1 hg w1_ hbox hb; have n0_ := Aside0.mk (below_step (by repeat (first | (with_reducible first | exact HB.out | apply below_alloc | apply pw_below_drewN | apply below_drew1) | exact HB.out)) hb); have n1_ := Aside0.mk hbox; have n2_ := Aside0.mk ((by rw [hg]; exact (below_size (by repeat (first | (with_reducible first | exact HB.out | apply below_alloc | apply pw_below_drewN | apply below_drew1) | exact HB.out)))) : w.heap.size ≤ g1); clear HB; have HB := n0_; have BK1 := n1_; have GE1 := n2_; clear n0_ n1_ n2_; clear hb hbox hg)
  go_upto_region 2 with fail
  go_loopw [3] (fun v wr => ∃ i : Nat, i ≤ nl ∧ v = .int .i64 (i : Int) ∧ Aside0 (∀ j, j < i → (NS.getD j default).m ≤ 300 ∧ (NS.getD j default).n ≤ 300) ∧ Aside0 (Below w.heap.size w wr) ∧ Aside0 (wr.heap[g1]? = some (.cells #[.slice rA rl rc, .slice nA nl nc] 25 (0, 0)))) (fun v _ => nl - (intOf v).toNat)
  case atStart => exact ⟨0, by omega, rfl, Aside0.mk (fun j hj => absurd hj (by omega)), HB, BK1⟩
  case round =>
    clear HB BK1
    obtain ⟨i, hi_, rfl, SZ, HB, BK1⟩ := hrel
    have hc1_0 : wr.cell? ⟨g1, 0, none⟩ = some (.slice rA rl rc) := (blk_cell BK1.out 0).trans rfl
    have hc1_1 : wr.cell? ⟨g1, 1, none⟩ = some (.slice nA nl nc) := (blk_cell BK1.out 1).trans rfl
    by_cases hgo : i < nl
    · have hd : decide ((i : Int) < (nl : Int)) = true := decide_eq_true (by omega)
      obtain ⟨y, e, hy, h0, h1, h2, h3, h4, h5⟩ := (HN.out.kept (fun k hk => HB.out.block k (by omega)) : NL wr B nA nl NS).2 i hgo
      subst e
      have hS := SZ.out
      obtain ⟨q, hq⟩ : ∃ q, q = NS.getD i default := ⟨_, rfl⟩
      rw [← hq] at h0 h1 h2 h3 h4 h5
      have HQ := Aside0.mk hq
      have hz4 : wr.cell? ⟨(y.add (i * 6)).block, (y.add (i * 6)).off + 4, none⟩ = some (.slice q.A q.m q.c) := h4
      have hz5 : wr.cell? ⟨(y.add (i * 6)).block, (y.add (i * 6)).off + 5, none⟩ = some (.slice q.B q.n q.d) := h5
      clear h4 h5
      clear hq h0 h1 h2 h3 hS
      have hi0 : (0 : Int) ≤ (i : Int) := by omega
      have hi1 : (i : Int) < (nl : Int) := by omega
      by_cases hm : 300 < q.m
      · have hdm : decide ((q.m : Int) > 300) = true := decide_eq_true (by omega)
        have hdm' : decide ((300 : Int) < (q.m : Int)) = true := decide_eq_true (by omega)
        go_wp2
        go_ret
        exact ⟨true, rfl, ⟨fun h => absurd h (by decide), fun h => absurd (h.2.2 i hgo) (by rw [← HQ.out]; omega)⟩, HB.out⟩
      · have hdm : decide ((q.m : Int) > 300) = false := decide_eq_false (by omega)
        have hdm' : decide ((300 : Int) < (q.m : Int)) = false := decide_eq_false (by omega)
        by_cases hn : 300 < q.n
        · have hdn : decide ((q.n : Int) > 300) = true := decide_eq_true (by omega)
          have hdn' : decide ((300 : Int) < (q.n : Int)) = true := decide_eq_true (by omega)
          go_wp2
          go_ret
          exact ⟨true, rfl, ⟨fun h => absurd h (by decide), fun h => absurd (h.2.2 i hgo) (by rw [← HQ.out]; omega)⟩, HB.out⟩
        · have hdn : decide ((q.n : Int) > 300) = false := decide_eq_false (by omega)
          have hdn' : decide ((300 : Int) < (q.n : Int)) = false := decide_eq_false (by omega)
          have hwr : wrap64 ((i : Int) + 1) = ((i + 1 : Nat) : Int) := by unfold wrap64; omega
          go_wp2
          go_roundw
          case measure => (try rw [hwr]); simp [intOf]; omega
          case rel => exact ⟨i + 1, by omega, by first | rfl | rw [hwr], Aside0.mk (fun j hj => by rcases Nat.lt_succ_iff_lt_or_eq.1 hj with h | rfl; exact SZ.out j h; rw [← HQ.out]; omega), HB, BK1⟩
    · have hd : decide ((i : Int) < (nl : Int)) = false := decide_eq_false (by omega)
      have hin : i = nl := by omega
      by_cases hm : 40 < nl
      · have hdm : decide ((nl : Int) > 40) = true := decide_eq_true (by omega)
        have hdm' : decide ((40 : Int) < (nl : Int)) = true := decide_eq_true (by omega)
        go_wp2
        go_ret
        exact ⟨true, rfl, ⟨fun h => absurd h (by decide), fun h => by omega⟩, HB.out⟩
      · have hdm : decide ((nl : Int) > 40) = false := decide_eq_false (by omega)
        have hdm' : decide ((40 : Int) < (nl : Int)) = false := decide_eq_false (by omega)
        by_cases hn : 40 < rl
        · have hdn : decide ((rl : Int) > 40) = true := decide_eq_true (by omega)
          have hdn' : decide ((40 : Int) < (rl : Int)) = true := decide_eq_true (by omega)
          go_wp2
          go_ret
          exact ⟨true, rfl, ⟨fun h => absurd h (by decide), fun h => by omega⟩, HB.out⟩
        · have hdn : decide ((rl : Int) > 40) = false := decide_eq_false (by omega)
          have hdn' : decide ((40 : Int) < (rl : Int)) = false := decide_eq_false (by omega)
          go_wp2
          go_ret
          exact ⟨false, rfl, ⟨fun _ => ⟨by omega, by omega, fun j hj => SZ.out j (by omega)⟩, fun _ => rfl⟩, HB.out⟩
theorem great_iff {W : World} {B : Nat} {g : Gd} (HG : Aside0 (GM W B g)) : (g.nl ≤ 40 ∧ g.rl ≤ 40 ∧ ∀ i, i < g.nl → (g.NS.getD i default).m ≤ 300 ∧ (g.NS.getD i default).n ≤ 300) ↔ Small g := by
  have hl := HG.out.nds.1
  refine ⟨fun ⟨h1, h2, h3⟩ => ⟨h1, h2, fun n hn => ?_⟩, fun h => ⟨h.n40, h.r40, fun i hi => ?_⟩⟩
  · obtain ⟨i, hi, rfl⟩ := List.mem_iff_getElem.1 hn
    have := h3 i (by omega)
    rw [List.getD_eq_getElem?_getD, List.getElem?_eq_getElem hi] at this
    exact this
  · rw [List.getD_eq_getElem?_getD, List.getElem?_eq_getElem (show i < g.NS.length by omega)]
    exact h.sz _ (List.getElem_mem _)
theorem great_no (w : World) (B : Nat) (hB : B ≤ w.heap.size) (g : Gd) (HG : Aside0 (GM w B g)) (hnl : g.nl ≤ 9223372036854775807) (hs : Small g) : Calls Try.prog 8 #[.agg #[.slice g.rA g.rl g.rc, .slice g.nA g.nl g.nc]] w fun e W' => e = .returned (.bool false) ∧ Below w.heap.size w W' := by
  refine (great_calls w B hB g.rA g.nA g.rl g.rc g.nl g.nc g.NS (Aside0.mk HG.out.nds) hnl).mono ?_
  rintro e W' ⟨b, rfl, h, hb⟩
  rw [h.2 ((great_iff HG).2 hs)]
  exact ⟨rfl, hb⟩
theorem great_yes (w : World) (B : Nat) (hB : B ≤ w.heap.size) (g : Gd) (HG : Aside0 (GM w B g)) (hnl : g.nl ≤ 9223372036854775807) (hs : ¬ Small g) : Calls Try.prog 8 #[.agg #[.slice g.rA g.rl g.rc, .slice g.nA g.nl g.nc]] w fun e W' => e = .returned (.bool true) ∧ Below w.heap.size w W' := by
  refine (great_calls w B hB g.rA g.nA g.rl g.rc g.nl g.nc g.NS (Aside0.mk HG.out.nds) hnl).mono ?_
  rintro e W' ⟨b, rfl, h, hb⟩
  cases b with
  | true => exact ⟨rfl, hb⟩
  | false => exact absurd ((great_iff HG).1 (h.1 rfl)) hs
end Go.Proofs.Ytekggbmajemmhaa.Gr
/- DiffTurns' walk. Condition: both graphs lie in memory ahead of the walk. -/
namespace Go.Proofs.Ytekggbmajemmhaa.Gr
open Go.RowKit Go.Shelf Go.Maps Go.ChangeMaps Go.MapKept Go.Proofs.YtekggbmajemmhaaW.PrintWords Go.Proofs.YtekggbmajemmhaaW.PrintLast Go.Proofs.YtekggbmajemmhaaW.PrintMore
set_option linter.unusedSimpArgs false
set_option linter.unusedVariables false
theorem cell_lt {w : World} {a : Addr} {v : Value} (h : w.cell? a = some v) : a.block < w.heap.size := by
  rcases Nat.lt_or_ge a.block w.heap.size with h0 | h0
  · exact h0
  · have h3 : w.heap[a.block]? = none := Array.getElem?_eq_none h0
    simp [World.cell?, h3] at h
theorem row_max {W : World} {X n : Nat} {a : Option Addr} {c : Nat} {xs : List Value} (h : W.ownsRow X 44 5 (.slice a n c) n xs) : n ≤ 9223372036854775807 := by
  rcases h.2 with ⟨_, h0⟩ | ⟨g, cap, cur, e, _, _, h1, h2, _⟩
  · omega
  · unfold maxLen at h2
    omega
def o5.T5 : Bool × List (List Nat × List Nat) := (true, [([], []), ([], []), ([0, 1], [0, 1]), ([], []), ([], []), ([3, 4, 2], [3, 4]), ([2, 5, 0, 1, 2], [2]), ([5, 6, 0, 1, 2, 3, 4, 5, 6], [5])])
def o5.B5 : List Nat := [0, 0, 3, 0, 0, 31, 63, 127]
theorem o5.tab5 : rtab .any (opsOf Try.f5 5) = o5.T5 := by kernel_rfl
theorem o5.bits5 : waitsOk o5.T5.2 o5.B5 = true := by kernel_rfl
end Go.Proofs.Ytekggbmajemmhaa.Gr
