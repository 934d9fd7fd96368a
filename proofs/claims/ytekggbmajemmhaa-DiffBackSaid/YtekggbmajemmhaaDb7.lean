/- Parts of one proof, set together: Di5. What each says stands at its head; no condition beyond theirs. -/
import Derived.Test.YtekggbmajemmhaaDb6
/- Diff: the document's example holds. No condition. -/
namespace Go.Proofs.Ytekggbmajemmhaa.Di
open Go.RowKit Go.Shelf Go.Maps Go.ChangeMaps Go.MapKept Go.Proofs.YtekggbmajemmhaaW.PrintWords Go.Proofs.YtekggbmajemmhaaW.PrintLast Go.Proofs.YtekggbmajemmhaaW.PrintMore
set_option linter.unusedSimpArgs false
set_option linter.unusedVariables false
theorem row_below {W W' : World} {b : Nat} {e : TypeId} {s : Nat} {v : Value} {k : Nat} {xs : List Value} (h : W.ownsRow b e s v k xs) (hb : Below W.heap.size W W') : W'.ownsRow b e s v k xs :=
  h.kept (row := none) ⟨hb.os, hb.tape, hb.output, hb.size, fun k hk _ => hb.block k hk⟩ (by cases v.ownBlock <;> simp)
theorem row_mono {W : World} {b b' : Nat} {e : TypeId} {s : Nat} {v : Value} {k : Nat} {xs : List Value} (h : W.ownsRow b e s v k xs) (hb : b' ≤ b) : W.ownsRow b' e s v k xs := ⟨h.1, h.2.imp_right fun ⟨g, cap, cur, e1, h1, rest⟩ => ⟨g, cap, cur, e1, Nat.le_trans hb h1, rest⟩⟩
theorem key_at (v : Int) (h0 : -9223372036854775808 ≤ v) (h1 : v ≤ 9223372036854775807) : keyOf Try.prog 3 (.int .i64 v) = some (.int .i64 v) := Maps.keyOf_int_mk Try.underlying3 (by
  have h2 : (decide (-9223372036854775808 ≤ v) && decide (v ≤ 9223372036854775807)) = true := by rw [decide_eq_true h0, decide_eq_true h1]; rfl
  exact h2)
def o1.T1 : Bool × List (List Nat × List Nat) := (true, [([], []), ([], []), ([0, 1], [0, 1]), ([], []), ([], []), ([3, 4, 2], [3, 4]), ([2, 5, 5], [2, 5]), ([6, 6, 0, 1, 2, 3, 4, 5, 6], [6])])
def o1.B1 : List Nat := [0, 0, 3, 0, 0, 31, 63, 127]
theorem o1.tab1 : rtab .any (opsOf Try.f12 1) = o1.T1 := by kernel_rfl
theorem o1.bits1 : waitsOk o1.T1.2 o1.B1 = true := by kernel_rfl
set_option maxHeartbeats 8000000 in
set_option maxRecDepth 100000 in
theorem of_calls (w : World) (xa xb : Nat) (hcxa : w.cell? ⟨xa, 0, none⟩ = some (.int .i64 0)) (hcxb : w.cell? ⟨xb, 0, none⟩ = some (.int .i64 9)) (hlxa : xa < w.heap.size) (hlxb : xb < w.heap.size) : Calls Try.prog 12 #[.agg #[.slice (some ⟨xa, 0, none⟩) 1 1, .slice none 0 0], .agg #[.slice (some ⟨xb, 0, none⟩) 1 1, .slice none 0 0]] w fun e W' => ∃ gs c, e = .returned (.slice (some ⟨gs, 0, none⟩) 1 c) ∧ W'.ownsRow w.heap.size 44 5 (.slice (some ⟨gs, 0, none⟩) 1 c) 1 [Value.int .i64 4, .int .i64 0, .int .i64 0, .int .u64 0, .int .u64 9] ∧ Below w.heap.size w W' := by
  have HB := Aside0.mk (Below.refl w.heap.size w)
  go_enter Try.func12, Try.ntmps12
  go_upto_region 1 with (first | ((with_reducible refine gate_dst (N := 2) rfl ?_); refine box_event ?hg (N := 2) ?hd (cs := #[.slice (some ⟨xa, 0, none⟩) 1 1, .slice none 0 0]) (t := 25) ?hr ?_; (case hd => rfl); (case hg => rfl); (case hr => first | (go_simp; done) | (go_simp; rfl)); intro g2 hg w1_ hbox hb; have n0_ := Aside0.mk (below_step (by repeat (first | (with_reducible first | exact HB.out | apply below_alloc | apply pw_below_drewN | apply below_drew1) | exact HB.out)) hb); have n1_ := Aside0.mk hbox; have n2_ := Aside0.mk ((by rw [hg]; exact (below_size (by repeat (first | (with_reducible first | exact HB.out | apply below_alloc | apply pw_below_drewN | apply below_drew1) | exact HB.out)))) : w.heap.size ≤ g2); clear HB; have HB := n0_; have BK2 := n1_; have GE2 := n2_; clear n0_ n1_ n2_; clear hb hbox hg) | ((with_reducible refine gate_dst (N := 3) rfl ?_); refine box_event ?hg (N := 3) ?hd (cs := #[.slice (some ⟨xb, 0, none⟩) 1 1, .slice none 0 0]) (t := 25) ?hr ?_; (case hd => rfl); (case hg => rfl); (case hr => first | (go_simp; done) | (go_simp; rfl)); intro g3 hg w2_ hbox hb; have n0_ := Aside0.mk (below_step (by repeat (first | (with_reducible first | exact HB.out | apply below_alloc | apply pw_below_drewN | apply below_drew1 | refine below_set ?_ GE2.out) | exact HB.out)) hb); have n1_ := Aside0.mk (blk_below (g := g2) (o := .cells #[.slice (some ⟨xa, 0, none⟩) 1 1, .slice none 0 0] 25 (0, 0)) (by (with_reducible repeat (first | refine blk_drewN ?_ _ | refine blk_drew ?_ | refine blk_alloc ?_ _)); exact BK2.out) hb); have n2_ := Aside0.mk hbox; have n3_ := Aside0.mk ((by rw [hg]; exact (below_size (by repeat (first | (with_reducible first | exact HB.out | apply below_alloc | apply pw_below_drewN | apply below_drew1 | refine below_set ?_ GE2.out) | exact HB.out)))) : w.heap.size ≤ g3); have n4_ := Aside0.mk ((by rw [hg]; exact Nat.ne_of_lt (blk_lt (g := g2) (o := .cells #[.slice (some ⟨xa, 0, none⟩) 1 1, .slice none 0 0] 25 (0, 0)) (by (with_reducible repeat (first | refine blk_drewN ?_ _ | refine blk_drew ?_ | refine blk_alloc ?_ _)); exact BK2.out))) : g2 ≠ g3); clear HB; clear BK2; have HB := n0_; have BK2 := n1_; have BK3 := n2_; have GE3 := n3_; have NE2_3 := n4_; clear n0_ n1_ n2_ n3_ n4_; clear hb hbox hg))
  refine start_ (n := 8) (S := fun w' => True) (ds := []) #[false, false, false, false, false, false, false, false] (by kernel_rfl) rfl rfl trivial (fun hHeld => ?_)
  refine with_tabW o1.tab1 o1.bits1 (fun HT_ HW_ => ?_)
  refine inv_at [0, 1, 2, 3, 4, 5, 6, 7] (fun a0_ b a w' => ∃ (gs : Nat) (c : Nat) (q1 : Nat) (q2 : Nat) (m2_ : Value) (m5_ : Value) (m6_ : Value) (m7_ : Value), a = putSel a0_ b [(0, 5, .agg #[.slice (some ⟨xa, 0, none⟩) 1 1, .slice none 0 0]), (1, 6, .agg #[.slice (some ⟨xb, 0, none⟩) 1 1, .slice none 0 0]), (2, 7, m2_), (3, 8, .agg #[.slice (some ⟨xa, 0, none⟩) 1 1, .slice none 0 0]), (4, 9, .agg #[.slice (some ⟨xb, 0, none⟩) 1 1, .slice none 0 0]), (5, 10, m5_), (6, 11, m6_), (7, 4, m7_)] ∧ (Below w.heap.size w w') ∧ (w'.heap[g2]? = some (.cells #[.slice (some ⟨xa, 0, none⟩) 1 1, .slice none 0 0] 25 (0, 0))) ∧ (w'.heap[g3]? = some (.cells #[.slice (some ⟨xb, 0, none⟩) 1 1, .slice none 0 0] 25 (0, 0))) ∧ (b 2 = true → w'.ownsRow w.heap.size 44 5 (.slice (some ⟨gs, 0, none⟩) 1 c) 1 [Value.int .i64 4, .int .i64 0, .int .i64 0, .int .u64 0, .int .u64 9]) ∧ (b 5 = true → w'.heap[q1]? = some (.cells #[.slice (some ⟨xa, 0, none⟩) 1 1, .slice none 0 0] 25 (0, 0))) ∧ (b 5 = true → w'.heap[q2]? = some (.cells #[.slice (some ⟨xb, 0, none⟩) 1 1, .slice none 0 0] 25 (0, 0))) ∧ (b 2 = true → (m2_ : Value) = .slice (some ⟨gs, 0, none⟩) 1 c) ∧ (b 5 = true → (m5_ : Value) = .func (.func 43) #[] #[.pointer (some ⟨q1, 0, none⟩), .pointer (some ⟨q2, 0, none⟩)]) ∧ (b 6 = true → (m6_ : Value) = .slice (some ⟨gs, 0, none⟩) 1 c) ∧ (b 7 = true → (m7_ : Value) = .slice (some ⟨gs, 0, none⟩) 1 c)) HT_.out HW_.out (by kernel_rfl) (by kernel_rfl) ?_ ?_ ?_
  · exact ⟨0, 0, 0, 0, .bool false, .bool false, .bool false, .bool false, by simp only [putSel, Bool.false_eq_true, if_false], below_drew1 HB.out, BK2.out, BK3.out, fun h_ => absurd h_ (by decide), fun h_ => absurd h_ (by decide), fun h_ => absurd h_ (by decide), fun h_ => absurd h_ (by decide), fun h_ => absurd h_ (by decide), fun h_ => absurd h_ (by decide), fun h_ => absurd h_ (by decide)⟩
  · skip
    clear BK2 BK3 HB
    refine steps_cons ?_ ?_
    · rintro b a w' ⟨gs, c, q1, q2, m2_, m5_, m6_, m7_, ha, Q_HB, Q_BK2, Q_BK3, Q_ROW, Q_BQ1, Q_BQ2, Q_X2_, Q_X5_, Q_X6_, Q_X7_⟩ hb_ hon hoff
      refine ⟨_, rfl, fun K hK => ?_⟩
      have e2 : a.tmps[2]? = some (.pointer (some ⟨g2, 0, none⟩)) := by rw [ha]; exact (putSel_off rfl).trans rfl
      replace ha := Aside0.mk ha
      have HB := Aside0.mk Q_HB
      have BK2 := Aside0.mk Q_BK2
      have BK3 := Aside0.mk Q_BK3
      have hl2_0 : w'.cell? ⟨g2, 0, none⟩ = some (.slice (some ⟨xa, 0, none⟩) 1 1) := (blk_cell BK2.out 0).trans rfl
      have hl2_1 : w'.cell? ⟨g2, 1, none⟩ = some (.slice none 0 0) := (blk_cell BK2.out 1).trans rfl
      refine value_ (w1 := w') (v := .agg #[.slice (some ⟨xa, 0, none⟩) 1 1, .slice none 0 0]) (by rfl) rfl ?_ ?_
      · go_simp
        (try simp only [i64_w])
        try rfl
      refine hK.out _ _ ⟨gs, c, q1, q2, m2_, m5_, m6_, m7_, (by rw [ha.out]; exact putSel_upk 0 hb_ rfl rfl rfl), Q_HB, Q_BK2, Q_BK3, fun h0_ => absurd ((hoff 2 (by kernel_rfl)).symm.trans h0_) (by decide), fun h0_ => absurd ((hoff 5 (by kernel_rfl)).symm.trans h0_) (by decide), fun h0_ => absurd ((hoff 5 (by kernel_rfl)).symm.trans h0_) (by decide), fun h0_ => absurd ((hoff 2 (by kernel_rfl)).symm.trans h0_) (by decide), fun h0_ => absurd ((hoff 5 (by kernel_rfl)).symm.trans h0_) (by decide), fun h0_ => absurd ((hoff 6 (by kernel_rfl)).symm.trans h0_) (by decide), fun h0_ => absurd ((hoff 7 (by kernel_rfl)).symm.trans h0_) (by decide)⟩
    refine steps_cons ?_ ?_
    · rintro b a w' ⟨gs, c, q1, q2, m2_, m5_, m6_, m7_, ha, Q_HB, Q_BK2, Q_BK3, Q_ROW, Q_BQ1, Q_BQ2, Q_X2_, Q_X5_, Q_X6_, Q_X7_⟩ hb_ hon hoff
      refine ⟨_, rfl, fun K hK => ?_⟩
      have e3 : a.tmps[3]? = some (.pointer (some ⟨g3, 0, none⟩)) := by rw [ha]; exact (putSel_off rfl).trans rfl
      replace ha := Aside0.mk ha
      have HB := Aside0.mk Q_HB
      have BK2 := Aside0.mk Q_BK2
      have BK3 := Aside0.mk Q_BK3
      have hl3_0 : w'.cell? ⟨g3, 0, none⟩ = some (.slice (some ⟨xb, 0, none⟩) 1 1) := (blk_cell BK3.out 0).trans rfl
      have hl3_1 : w'.cell? ⟨g3, 1, none⟩ = some (.slice none 0 0) := (blk_cell BK3.out 1).trans rfl
      refine value_ (w1 := w') (v := .agg #[.slice (some ⟨xb, 0, none⟩) 1 1, .slice none 0 0]) (by rfl) rfl ?_ ?_
      · go_simp
        (try simp only [i64_w])
        try rfl
      refine hK.out _ _ ⟨gs, c, q1, q2, m2_, m5_, m6_, m7_, (by rw [ha.out]; exact putSel_upk 1 hb_ rfl rfl rfl), Q_HB, Q_BK2, Q_BK3, fun h0_ => absurd ((hoff 2 (by kernel_rfl)).symm.trans h0_) (by decide), fun h0_ => absurd ((hoff 5 (by kernel_rfl)).symm.trans h0_) (by decide), fun h0_ => absurd ((hoff 5 (by kernel_rfl)).symm.trans h0_) (by decide), fun h0_ => absurd ((hoff 2 (by kernel_rfl)).symm.trans h0_) (by decide), fun h0_ => absurd ((hoff 5 (by kernel_rfl)).symm.trans h0_) (by decide), fun h0_ => absurd ((hoff 6 (by kernel_rfl)).symm.trans h0_) (by decide), fun h0_ => absurd ((hoff 7 (by kernel_rfl)).symm.trans h0_) (by decide)⟩
    refine steps_cons ?_ ?_
    · rintro b a w' ⟨gs, c, q1, q2, m2_, m5_, m6_, m7_, ha, Q_HB, Q_BK2, Q_BK3, Q_ROW, Q_BQ1, Q_BQ2, Q_X2_, Q_X5_, Q_X6_, Q_X7_⟩ hb_ hon hoff
      refine ⟨_, rfl, fun K hK => ?_⟩
      have e5 : a.tmps[5]? = some (.agg #[.slice (some ⟨xa, 0, none⟩) 1 1, .slice none 0 0]) := by rw [ha]; exact putSel_on (e := (0, 5, .agg #[.slice (some ⟨xa, 0, none⟩) 1 1, .slice none 0 0])) 0 rfl rfl (hon 0 (by kernel_rfl)) rfl
      have e6 : a.tmps[6]? = some (.agg #[.slice (some ⟨xb, 0, none⟩) 1 1, .slice none 0 0]) := by rw [ha]; exact putSel_on (e := (1, 6, .agg #[.slice (some ⟨xb, 0, none⟩) 1 1, .slice none 0 0])) 1 rfl rfl (hon 1 (by kernel_rfl)) rfl
      replace ha := Aside0.mk ha
      have HB := Aside0.mk Q_HB
      have BK2 := Aside0.mk Q_BK2
      have BK3 := Aside0.mk Q_BK3
      refine goes_ Try.func27 (by kernel_rfl) rfl #[.agg #[.slice (some ⟨xa, 0, none⟩) 1 1, .slice none 0 0], .agg #[.slice (some ⟨xb, 0, none⟩) 1 1, .slice none 0 0]] (by rfl) rfl rfl (by first | (simp only [List.map_toArray, List.map_cons, List.map_nil, Act.eval, Array.getD_eq_getD_getElem?, Option.getD_some, e5, e6]; done) | (simp only [List.map_toArray, List.map_cons, List.map_nil, Act.eval, Array.getD_eq_getD_getElem?, Option.getD_some, e5, e6]; rfl)) ?_
      with_reducible refine (roots_calls _ xa xb ((HB.out.cell (p := ⟨xa, 0, none⟩) hlxa).trans hcxa) ((HB.out.cell (p := ⟨xb, 0, none⟩) hlxb).trans hcxb) (Nat.lt_of_lt_of_le hlxa HB.out.size) (Nat.lt_of_lt_of_le hlxb HB.out.size)).mono ?_
      rintro e w3 ⟨gs3, c3, rfl, hr3, hb⟩
      refine ⟨_, rfl, ?_⟩
      refine hK.out _ _ ⟨gs3, c3, q1, q2, (.slice (some ⟨gs3, 0, none⟩) 1 c3), m5_, m6_, m7_, (by rw [ha.out]; exact putSel_upk 2 hb_ rfl rfl rfl), (below_step HB.out hb), (blk_below BK2.out hb), (blk_below BK3.out hb), fun _ => (row_mono hr3 (below_size HB.out)), fun h0_ => absurd ((hoff 5 (by kernel_rfl)).symm.trans h0_) (by decide), fun h0_ => absurd ((hoff 5 (by kernel_rfl)).symm.trans h0_) (by decide), fun _ => rfl, fun h0_ => absurd ((hoff 5 (by kernel_rfl)).symm.trans h0_) (by decide), fun h0_ => absurd ((hoff 6 (by kernel_rfl)).symm.trans h0_) (by decide), fun h0_ => absurd ((hoff 7 (by kernel_rfl)).symm.trans h0_) (by decide)⟩
    refine steps_cons ?_ ?_
    · rintro b a w' ⟨gs, c, q1, q2, m2_, m5_, m6_, m7_, ha, Q_HB, Q_BK2, Q_BK3, Q_ROW, Q_BQ1, Q_BQ2, Q_X2_, Q_X5_, Q_X6_, Q_X7_⟩ hb_ hon hoff
      refine ⟨_, rfl, fun K hK => ?_⟩
      have e2 : a.tmps[2]? = some (.pointer (some ⟨g2, 0, none⟩)) := by rw [ha]; exact (putSel_off rfl).trans rfl
      replace ha := Aside0.mk ha
      have HB := Aside0.mk Q_HB
      have BK2 := Aside0.mk Q_BK2
      have BK3 := Aside0.mk Q_BK3
      have hl2_0 : w'.cell? ⟨g2, 0, none⟩ = some (.slice (some ⟨xa, 0, none⟩) 1 1) := (blk_cell BK2.out 0).trans rfl
      have hl2_1 : w'.cell? ⟨g2, 1, none⟩ = some (.slice none 0 0) := (blk_cell BK2.out 1).trans rfl
      refine value_ (w1 := w') (v := .agg #[.slice (some ⟨xa, 0, none⟩) 1 1, .slice none 0 0]) (by rfl) rfl ?_ ?_
      · go_simp
        (try simp only [i64_w])
        try rfl
      refine hK.out _ _ ⟨gs, c, q1, q2, m2_, m5_, m6_, m7_, (by rw [ha.out]; exact putSel_upk 3 hb_ rfl rfl rfl), Q_HB, Q_BK2, Q_BK3, Q_ROW, fun h0_ => absurd ((hoff 5 (by kernel_rfl)).symm.trans h0_) (by decide), fun h0_ => absurd ((hoff 5 (by kernel_rfl)).symm.trans h0_) (by decide), Q_X2_, fun h0_ => absurd ((hoff 5 (by kernel_rfl)).symm.trans h0_) (by decide), fun h0_ => absurd ((hoff 6 (by kernel_rfl)).symm.trans h0_) (by decide), fun h0_ => absurd ((hoff 7 (by kernel_rfl)).symm.trans h0_) (by decide)⟩
    refine steps_cons ?_ ?_
    · rintro b a w' ⟨gs, c, q1, q2, m2_, m5_, m6_, m7_, ha, Q_HB, Q_BK2, Q_BK3, Q_ROW, Q_BQ1, Q_BQ2, Q_X2_, Q_X5_, Q_X6_, Q_X7_⟩ hb_ hon hoff
      refine ⟨_, rfl, fun K hK => ?_⟩
      have e3 : a.tmps[3]? = some (.pointer (some ⟨g3, 0, none⟩)) := by rw [ha]; exact (putSel_off rfl).trans rfl
      replace ha := Aside0.mk ha
      have HB := Aside0.mk Q_HB
      have BK2 := Aside0.mk Q_BK2
      have BK3 := Aside0.mk Q_BK3
      have hl3_0 : w'.cell? ⟨g3, 0, none⟩ = some (.slice (some ⟨xb, 0, none⟩) 1 1) := (blk_cell BK3.out 0).trans rfl
      have hl3_1 : w'.cell? ⟨g3, 1, none⟩ = some (.slice none 0 0) := (blk_cell BK3.out 1).trans rfl
      refine value_ (w1 := w') (v := .agg #[.slice (some ⟨xb, 0, none⟩) 1 1, .slice none 0 0]) (by rfl) rfl ?_ ?_
      · go_simp
        (try simp only [i64_w])
        try rfl
      refine hK.out _ _ ⟨gs, c, q1, q2, m2_, m5_, m6_, m7_, (by rw [ha.out]; exact putSel_upk 4 hb_ rfl rfl rfl), Q_HB, Q_BK2, Q_BK3, Q_ROW, fun h0_ => absurd ((hoff 5 (by kernel_rfl)).symm.trans h0_) (by decide), fun h0_ => absurd ((hoff 5 (by kernel_rfl)).symm.trans h0_) (by decide), Q_X2_, fun h0_ => absurd ((hoff 5 (by kernel_rfl)).symm.trans h0_) (by decide), fun h0_ => absurd ((hoff 6 (by kernel_rfl)).symm.trans h0_) (by decide), fun h0_ => absurd ((hoff 7 (by kernel_rfl)).symm.trans h0_) (by decide)⟩
    refine steps_cons ?_ ?_
    · rintro b a w' ⟨gs, c, q1, q2, m2_, m5_, m6_, m7_, ha, Q_HB, Q_BK2, Q_BK3, Q_ROW, Q_BQ1, Q_BQ2, Q_X2_, Q_X5_, Q_X6_, Q_X7_⟩ hb_ hon hoff
      refine ⟨_, rfl, fun K hK => ?_⟩
      have e8 : a.tmps[8]? = some (.agg #[.slice (some ⟨xa, 0, none⟩) 1 1, .slice none 0 0]) := by rw [ha]; exact putSel_on (e := (3, 8, .agg #[.slice (some ⟨xa, 0, none⟩) 1 1, .slice none 0 0])) 3 rfl rfl (hon 3 (by kernel_rfl)) rfl
      have e9 : a.tmps[9]? = some (.agg #[.slice (some ⟨xb, 0, none⟩) 1 1, .slice none 0 0]) := by rw [ha]; exact putSel_on (e := (4, 9, .agg #[.slice (some ⟨xb, 0, none⟩) 1 1, .slice none 0 0])) 4 rfl rfl (hon 4 (by kernel_rfl)) rfl
      replace ha := Aside0.mk ha
      have HB := Aside0.mk Q_HB
      have BK2 := Aside0.mk Q_BK2
      have BK3 := Aside0.mk Q_BK3
      have ROW := Aside0.mk (Q_ROW (hon 2 (by kernel_rfl)))
      refine goes_ Try.func28 (by kernel_rfl) rfl #[.agg #[.slice (some ⟨xa, 0, none⟩) 1 1, .slice none 0 0], .agg #[.slice (some ⟨xb, 0, none⟩) 1 1, .slice none 0 0]] (by rfl) rfl rfl (by first | (simp only [List.map_toArray, List.map_cons, List.map_nil, Act.eval, Array.getD_eq_getD_getElem?, Option.getD_some, e8, e9]; done) | (simp only [List.map_toArray, List.map_cons, List.map_nil, Act.eval, Array.getD_eq_getD_getElem?, Option.getD_some, e8, e9]; rfl)) ?_
      with_reducible refine (changes_calls _ (some ⟨xa, 0, none⟩) (some ⟨xb, 0, none⟩) 1 1 1 1).mono ?_
      rintro e w3 ⟨q3, p3, rfl, hq3, hp3, hb⟩
      refine ⟨_, rfl, ?_⟩
      refine hK.out _ _ ⟨gs, c, q3, p3, m2_, (.func (.func 43) #[] #[.pointer (some ⟨q3, 0, none⟩), .pointer (some ⟨p3, 0, none⟩)]), m6_, m7_, (by rw [ha.out]; exact putSel_upk 5 hb_ rfl rfl rfl), (below_step HB.out hb), (blk_below BK2.out hb), (blk_below BK3.out hb), fun _ => (row_below ROW.out hb), fun _ => hq3, fun _ => hp3, Q_X2_, fun _ => rfl, fun h0_ => absurd ((hoff 6 (by kernel_rfl)).symm.trans h0_) (by decide), fun h0_ => absurd ((hoff 7 (by kernel_rfl)).symm.trans h0_) (by decide)⟩
    refine steps_cons ?_ ?_
    · rintro b a w' ⟨gs, c, q1, q2, m2_, m5_, m6_, m7_, ha, Q_HB, Q_BK2, Q_BK3, Q_ROW, Q_BQ1, Q_BQ2, Q_X2_, Q_X5_, Q_X6_, Q_X7_⟩ hb_ hon hoff
      refine ⟨_, rfl, fun K hK => ?_⟩
      have e7 : a.tmps[7]? = some (m2_) := by rw [ha]; exact putSel_on (e := (2, 7, m2_)) 2 rfl rfl (hon 2 (by kernel_rfl)) rfl
      rw [Q_X2_ (hon 2 (by kernel_rfl))] at e7
      have e10 : a.tmps[10]? = some (m5_) := by rw [ha]; exact putSel_on (e := (5, 10, m5_)) 5 rfl rfl (hon 5 (by kernel_rfl)) rfl
      rw [Q_X5_ (hon 5 (by kernel_rfl))] at e10
      replace ha := Aside0.mk ha
      have HB := Aside0.mk Q_HB
      have BK2 := Aside0.mk Q_BK2
      have BK3 := Aside0.mk Q_BK3
      have ROW := Aside0.mk (Q_ROW (hon 2 (by kernel_rfl)))
      have BQ1 := Aside0.mk (Q_BQ1 (hon 5 (by kernel_rfl)))
      have BQ2 := Aside0.mk (Q_BQ2 (hon 5 (by kernel_rfl)))
      refine goes_ Try.func26 (by kernel_rfl) rfl #[.slice (some ⟨gs, 0, none⟩) 1 c, .func (.func 43) #[] #[.pointer (some ⟨q1, 0, none⟩), .pointer (some ⟨q2, 0, none⟩)]] (by rfl) rfl rfl (by first | (simp only [List.map_toArray, List.map_cons, List.map_nil, Act.eval, Array.getD_eq_getD_getElem?, Option.getD_some, e7, e10]; done) | (simp only [List.map_toArray, List.map_cons, List.map_nil, Act.eval, Array.getD_eq_getD_getElem?, Option.getD_some, e7, e10]; rfl)) ?_
      with_reducible refine (appch_calls _ q1 q2 xa xb 0 9 (key_at 0 (by decide) (by decide)) (key_at 9 (by decide) (by decide)) ((HB.out.cell (p := ⟨xa, 0, none⟩) hlxa).trans hcxa) ((HB.out.cell (p := ⟨xb, 0, none⟩) hlxb).trans hcxb) (Nat.lt_of_lt_of_le hlxa HB.out.size) (Nat.lt_of_lt_of_le hlxb HB.out.size) BQ1.out BQ2.out (some ⟨gs, 0, none⟩) 1 c).mono ?_
      rintro e w3 ⟨rfl, hb⟩
      refine ⟨_, rfl, ?_⟩
      refine hK.out _ _ ⟨gs, c, q1, q2, m2_, m5_, (.slice (some ⟨gs, 0, none⟩) 1 c), m7_, (by rw [ha.out]; exact putSel_upk 6 hb_ rfl rfl rfl), (below_step HB.out hb), (blk_below BK2.out hb), (blk_below BK3.out hb), fun _ => (row_below ROW.out hb), fun _ => (blk_below BQ1.out hb), fun _ => (blk_below BQ2.out hb), Q_X2_, Q_X5_, fun _ => rfl, fun h0_ => absurd ((hoff 7 (by kernel_rfl)).symm.trans h0_) (by decide)⟩
    refine steps_cons ?_ ?_
    · rintro b a w' ⟨gs, c, q1, q2, m2_, m5_, m6_, m7_, ha, Q_HB, Q_BK2, Q_BK3, Q_ROW, Q_BQ1, Q_BQ2, Q_X2_, Q_X5_, Q_X6_, Q_X7_⟩ hb_ hon hoff
      refine ⟨_, rfl, fun K hK => ?_⟩
      have e11 : a.tmps[11]? = some (m6_) := by rw [ha]; exact putSel_on (e := (6, 11, m6_)) 6 rfl rfl (hon 6 (by kernel_rfl)) rfl
      rw [Q_X6_ (hon 6 (by kernel_rfl))] at e11
      replace ha := Aside0.mk ha
      have HB := Aside0.mk Q_HB
      have BK2 := Aside0.mk Q_BK2
      have BK3 := Aside0.mk Q_BK3
      have ROW := Aside0.mk (Q_ROW (hon 2 (by kernel_rfl)))
      have BQ1 := Aside0.mk (Q_BQ1 (hon 5 (by kernel_rfl)))
      have BQ2 := Aside0.mk (Q_BQ2 (hon 5 (by kernel_rfl)))
      refine value_ (w1 := w') (v := .slice (some ⟨gs, 0, none⟩) 1 c) (by rfl) rfl ?_ ?_
      · go_simp
        (try simp only [i64_w])
        try rfl
      refine hK.out _ _ ⟨gs, c, q1, q2, m2_, m5_, m6_, (.slice (some ⟨gs, 0, none⟩) 1 c), (by rw [ha.out]; exact putSel_upk 7 hb_ rfl rfl rfl), Q_HB, Q_BK2, Q_BK3, Q_ROW, Q_BQ1, Q_BQ2, Q_X2_, Q_X5_, Q_X6_, fun _ => rfl⟩
    exact steps_nil
  rintro b a wz hall ⟨gs, c, q1, q2, m2_, m5_, m6_, m7_, ha, Q_HB, Q_BK2, Q_BK3, Q_ROW, Q_BQ1, Q_BQ2, Q_X2_, Q_X5_, Q_X6_, Q_X7_⟩
  clear BK2 BK3 HB
  have hb0_ := hall 0 (by kernel_rfl)
  have hb1_ := hall 1 (by kernel_rfl)
  have hb2_ := hall 2 (by kernel_rfl)
  have hb3_ := hall 3 (by kernel_rfl)
  have hb4_ := hall 4 (by kernel_rfl)
  have hb5_ := hall 5 (by kernel_rfl)
  have hb6_ := hall 6 (by kernel_rfl)
  have hb7_ := hall 7 (by kernel_rfl)
  subst ha
  obtain rfl := Q_X2_ hb2_
  obtain rfl := Q_X5_ hb5_
  obtain rfl := Q_X6_ hb6_
  obtain rfl := Q_X7_ hb7_
  simp only [putSel, hb0_, hb1_, hb2_, hb3_, hb4_, hb5_, hb6_, hb7_, if_true, Act.put, List.setIfInBounds_toArray, List.set_cons_zero, List.set_cons_succ]
  have HB := Aside0.mk Q_HB
  clear Q_HB
  have BK2 := Aside0.mk Q_BK2
  clear Q_BK2
  have BK3 := Aside0.mk Q_BK3
  clear Q_BK3
  have ROW := Aside0.mk (Q_ROW hb2_)
  clear Q_ROW
  have BQ1 := Aside0.mk (Q_BQ1 hb5_)
  clear Q_BQ1
  have BQ2 := Aside0.mk (Q_BQ2 hb5_)
  clear Q_BQ2
  clear hall hb0_ hb1_ hb2_ hb3_ hb4_ hb5_ hb6_ hb7_
  go_wp2
  go_ret
  exact ⟨gs, c, rfl, ROW.out, HB.out⟩
set_option maxHeartbeats 4000000 in
theorem alive_calls (w : World) : Calls Try.prog 7 #[] w fun e W' => e = .returned (.bool true) ∧ Below w.heap.size w W' := by
  have h1 : ((w.alloc (.cells #[.int .i64 0] 3)).alloc (.cells #[.int .i64 9] 3)).cell? ⟨w.heap.size, 0, none⟩ = some (.int .i64 0) := (blk_cell (blk_alloc (blk_new w (.cells #[.int .i64 0] 3)) _) 0).trans rfl
  have h2 : ((w.alloc (.cells #[.int .i64 0] 3)).alloc (.cells #[.int .i64 9] 3)).cell? ⟨w.heap.size + 1, 0, none⟩ = some (.int .i64 9) := by
    have := blk_new (w.alloc (.cells #[.int .i64 0] 3)) (.cells #[.int .i64 9] 3)
    rw [World.size_alloc] at this
    exact (blk_cell this 0).trans rfl
  go_enter Try.func7, Try.ntmps7
  go_wp2_with (go_at_call 12; refine (of_calls _ w.heap.size (w.heap.size + 1) h1 h2 (by simp; omega) (by simp)).mono ?_; rintro e w3 ⟨gs, c, rfl, hr, hb⟩; have hc0 : w3.cell? ⟨gs, 0, none⟩ = some (.int .i64 4) := hr.cells rfl 0 _ rfl; have hc1 : w3.cell? ⟨gs, 1, none⟩ = some (.int .i64 0) := hr.cells rfl 1 _ rfl; have hc2 : w3.cell? ⟨gs, 2, none⟩ = some (.int .i64 0) := hr.cells rfl 2 _ rfl; have hc3 : w3.cell? ⟨gs, 3, none⟩ = some (.int .u64 0) := hr.cells rfl 3 _ rfl; have hc4 : w3.cell? ⟨gs, 4, none⟩ = some (.int .u64 9) := hr.cells rfl 4 _ rfl; have HB := Aside0.mk ((below_alloc (below_alloc (Below.refl w.heap.size w) (.cells #[.int .i64 0] 3)) (.cells #[.int .i64 9] 3)).trans (hb.mono (by simp; omega))); clear hr hb)
  go_ret
  exact ⟨rfl, HB.out⟩
end Go.Proofs.Ytekggbmajemmhaa.Di
