/- Block: Word. No condition. -/
import Derived.Test.YtoooapknoobkiaaBl2
namespace Go.Proofs.Ytoooapknoobkiaa.Bl
open Go.RowKit Go.Proofs.YtoooapknoobkiaaW.PrintWords Go.Proofs.YtoooapknoobkiaaW.PrintLast Go.Proofs.YtoooapknoobkiaaW.PrintMore Go.Proofs.Ytoooapknoobkiaa.Pk Go.Proofs.Ytoooapknoobkiaa.Jo Go.Proofs.Ytoooapknoobkiaa.Sp Go.Proofs.Ytoooapknoobkiaa.Pl
set_option linter.unusedVariables false
set_option linter.unusedSimpArgs false
abbrev obj (r s q : Int) : Value := .agg #[.int .i64 r, .int .i64 s, .int .i64 q]
theorem may_calls (r s q : Int) (w : World) : Calls Try.prog 19 #[obj r s q] w fun e w' => e = .returned (.bool (mayO r s q)) ∧ Below w.heap.size w w' :=
  PBlockWords.block_may.calls 10 r s q _ w (b_may r s q)
theorem widths_calls (w : World) : Calls Try.prog 21 #[] w fun e w' => ∃ A c, e = .returned (.slice A 3 c) ∧ Kd.C (Kd.int .i64) w' A 3 [16, 8, 8] ∧ Below w.heap.size w w' := by
  refine (PBlockWords.block_widths.calls [16, 8, 8] w rfl).mono ?_
  rintro e w' ⟨v, rfl, hR, hb⟩
  obtain ⟨A, c, rfl, _, hr⟩ := Kd.R_reads hR
  exact ⟨A, c, rfl, hr, hb⟩
def wordR (r s q : Int) : Int × Bool := if r = 0 ∧ s = 0 ∧ q = 0 then (0, true) else if mayO r s q = true then (wordV r s q, true) else (0, false)
theorem joinW_calls (r s q : Int) (hm : mayO r s q = true) (A A1 : Option Addr) (c c1 : Nat) (w : World) (h : Kd.C (Kd.int .i64) w A 3 [16, 8, 8]) (h1 : Kd.C (Kd.int .u64) w A1 3 [r, s, q]) :
    Calls Try.prog 20 #[.slice A 3 c, .slice A1 3 c1] w fun e w' => e = .returned (.tuple #[.int .u64 (wordV r s q), .bool true]) ∧ Below w.heap.size w w' := by
  obtain ⟨b1, b2, b3, b4, b5, b6⟩ := mayO_iff.1 hm
  have := join_calls A 3 c [16, 8, 8] A1 3 c1 [r, s, q] w rfl rfl h h1 (fun i => by rcases i with _ | _ | _ | i <;> simp) (by decide) (by decide)
  have e := join_word r.toNat s.toNat q.toNat (by omega) (by omega) (by omega)
  rw [Int.toNat_of_nonneg b5, Int.toNat_of_nonneg b3, Int.toNat_of_nonneg (by omega)] at e
  rw [e] at this
  exact this

def bw.T5 : Bool × List (List Nat × List Nat) := (true, [([], []), ([], []), ([1], [1]), ([2], [2]), ([], []), ([4], [4]), ([5], [5]), ([], []), ([7], [7]), ([8], [8]), ([3, 6, 9], [3, 6, 9]), ([0, 10, 0], [0, 10]), ([11], [11]), ([11], [11]), ([12, 11, 0, 1, 2, 3, 4, 5, 6, 7, 8, 9, 10, 11, 12, 13], [12]), ([13, 14, 0, 1, 2, 3, 4, 5, 6, 7, 8, 9, 10, 11, 12, 13, 14], [13])])
def bw.B5 : List Nat := [0, 0, 2, 6, 0, 16, 48, 0, 128, 384, 1022, 2047, 4095, 4095, 16383, 32767]
theorem bw.tab5 : rtab .any (opsOf Try.f14 5) = bw.T5 := by kernel_rfl
theorem bw.bits5 : waitsOk bw.T5.2 bw.B5 = true := by kernel_rfl
set_option maxHeartbeats 8000000 in
theorem word_zero (w : World) : Calls Try.prog 14 #[obj 0 0 0] w fun e w' => e = .returned (.tuple #[.int .u64 0, .bool true]) ∧ Below w.heap.size w w' := by
  have hu23 := Try.underlying23
  have HB := Aside0.mk (Below.refl w.heap.size w)
  go_enter Try.func14, Try.ntmps14
  go_wp2_with ((with_reducible refine gate_dst (N := 1) rfl ?_); refine box_event ?hg (N := 1) ?hd (cs := #[.int .i64 0, .int .i64 0, .int .i64 0]) (t := 23) ?hr ?_; (case hd => rfl); (case hg => rfl); (case hr => first | (go_simp; done) | (go_simp; rfl)); intro g1 hg w1_ hbox hb; have n0_ := Aside0.mk (below_step (by repeat (first | (with_reducible first | exact HB.out | apply below_alloc | apply pw_below_drewN | apply below_drew1) | exact HB.out)) hb); have n1_ := Aside0.mk hbox; have n2_ := Aside0.mk ((by rw [hg]; exact (below_size (by repeat (first | (with_reducible first | exact HB.out | apply below_alloc | apply pw_below_drewN | apply below_drew1) | exact HB.out)))) : w.heap.size ≤ g1); clear HB; have HB := n0_; have BK1 := n1_; have GE1 := n2_; clear n0_ n1_ n2_; clear hb hbox hg; have hc1_0 : w1_.cell? ⟨g1, 0, none⟩ = some (.int .i64 0) := (blk_cell BK1.out 0).trans rfl; have hf1_0 := blk_frozen BK1.out 0; have hc1_1 : w1_.cell? ⟨g1, 1, none⟩ = some (.int .i64 0) := (blk_cell BK1.out 1).trans rfl; have hf1_1 := blk_frozen BK1.out 1; have hc1_2 : w1_.cell? ⟨g1, 2, none⟩ = some (.int .i64 0) := (blk_cell BK1.out 2).trans rfl; have hf1_2 := blk_frozen BK1.out 2)
  go_ret2
  exact ⟨rfl, HB.out⟩

set_option maxHeartbeats 8000000 in
set_option maxRecDepth 100000 in
theorem word_no_a (r s q : Int) (w : World) (h1 : ¬ r = 0) (hm : mayO r s q = false) : Calls Try.prog 14 #[obj r s q] w fun e w' => e = .returned (.tuple #[.int .u64 0, .bool false]) ∧ Below w.heap.size w w' := by
  have hu23 := Try.underlying23
  have HB := Aside0.mk (Below.refl w.heap.size w)
  go_enter Try.func14, Try.ntmps14
  go_wp2_with (first | ((with_reducible refine gate_dst (N := 1) rfl ?_); refine box_event ?hg (N := 1) ?hd (cs := #[.int .i64 r, .int .i64 s, .int .i64 q]) (t := 23) ?hr ?_; (case hd => rfl); (case hg => rfl); (case hr => first | (go_simp; done) | (go_simp; rfl)); intro g1 hg w1_ hbox hb; have n0_ := Aside0.mk (below_step (by repeat (first | (with_reducible first | exact HB.out | apply below_alloc | apply pw_below_drewN | apply below_drew1) | exact HB.out)) hb); have n1_ := Aside0.mk hbox; have n2_ := Aside0.mk ((by rw [hg]; exact (below_size (by repeat (first | (with_reducible first | exact HB.out | apply below_alloc | apply pw_below_drewN | apply below_drew1) | exact HB.out)))) : w.heap.size ≤ g1); clear HB; have HB := n0_; have BK1 := n1_; have GE1 := n2_; clear n0_ n1_ n2_; clear hb hbox hg; have hc1_0 : w1_.cell? ⟨g1, 0, none⟩ = some (.int .i64 r) := (blk_cell BK1.out 0).trans rfl; have hf1_0 := blk_frozen BK1.out 0; have hc1_1 : w1_.cell? ⟨g1, 1, none⟩ = some (.int .i64 s) := (blk_cell BK1.out 1).trans rfl; have hf1_1 := blk_frozen BK1.out 1; have hc1_2 : w1_.cell? ⟨g1, 2, none⟩ = some (.int .i64 q) := (blk_cell BK1.out 2).trans rfl; have hf1_2 := blk_frozen BK1.out 2) | ((with_reducible refine gate_callee (f := 19) rfl ?_); refine goesL_ (some 10) rfl rfl Try.func19 (by kernel_rfl) rfl #[obj r s q] rfl (by (try simp only [List.map_toArray, List.map_cons, List.map_nil]); first | done | rfl | (simp only [List.length_drop, List.length_take]; rfl)) ?_; (with_reducible refine (may_calls r s q _).mono ?_); rintro e w2_ ⟨rfl, hb⟩; refine ⟨_, rfl, ?_⟩; have n0_ := Aside0.mk (below_step (by repeat (first | (with_reducible first | exact HB.out | apply below_alloc | apply pw_below_drewN | apply below_drew1 | refine below_set ?_ GE1.out) | exact HB.out)) hb); have n1_ := Aside0.mk (blk_below (g := g1) (o := .cells #[.int .i64 r, .int .i64 s, .int .i64 q] 23 (0, 0)) (by (with_reducible repeat (first | refine blk_drewN ?_ _ | refine blk_drew ?_ | refine blk_alloc ?_ _)); exact BK1.out) hb); clear HB; clear BK1; have HB := n0_; have BK1 := n1_; clear n0_ n1_; clear hb; rw [hm]))
  go_ret2
  exact ⟨rfl, HB.out⟩

set_option maxHeartbeats 8000000 in
set_option maxRecDepth 100000 in
theorem word_yes_a (r s q : Int) (w : World) (h1 : ¬ r = 0) (hm : mayO r s q = true) (wr : IntKind.u64.wrap r = r) (ws : IntKind.u64.wrap s = s) (wq : IntKind.u64.wrap q = q) : Calls Try.prog 14 #[obj r s q] w fun e w' => e = .returned (.tuple #[.int .u64 (wordV r s q), .bool true]) ∧ Below w.heap.size w w' := by
  have hu23 := Try.underlying23
  have HB := Aside0.mk (Below.refl w.heap.size w)
  go_enter Try.func14, Try.ntmps14
  have HM := Aside0.mk hm
  go_upto_region 5 with (first | ((with_reducible refine gate_dst (N := 1) rfl ?_); refine box_event ?hg (N := 1) ?hd (cs := #[.int .i64 r, .int .i64 s, .int .i64 q]) (t := 23) ?hr ?_; (case hd => rfl); (case hg => rfl); (case hr => first | (go_simp; done) | (go_simp; rfl)); intro g1 hg w1_ hbox hb; have n0_ := Aside0.mk (below_step (by repeat (first | (with_reducible first | exact HB.out | apply below_alloc | apply pw_below_drewN | apply below_drew1) | exact HB.out)) hb); have n1_ := Aside0.mk hbox; have n2_ := Aside0.mk ((by rw [hg]; exact (below_size (by repeat (first | (with_reducible first | exact HB.out | apply below_alloc | apply pw_below_drewN | apply below_drew1) | exact HB.out)))) : w.heap.size ≤ g1); clear HB; have HB := n0_; have BK1 := n1_; have GE1 := n2_; clear n0_ n1_ n2_; clear hb hbox hg; have hc1_0 : w1_.cell? ⟨g1, 0, none⟩ = some (.int .i64 r) := (blk_cell BK1.out 0).trans rfl; have hf1_0 := blk_frozen BK1.out 0; have hc1_1 : w1_.cell? ⟨g1, 1, none⟩ = some (.int .i64 s) := (blk_cell BK1.out 1).trans rfl; have hf1_1 := blk_frozen BK1.out 1; have hc1_2 : w1_.cell? ⟨g1, 2, none⟩ = some (.int .i64 q) := (blk_cell BK1.out 2).trans rfl; have hf1_2 := blk_frozen BK1.out 2) | ((with_reducible refine gate_callee (f := 19) rfl ?_); refine goesL_ (some 10) rfl rfl Try.func19 (by kernel_rfl) rfl #[obj r s q] rfl (by (try simp only [List.map_toArray, List.map_cons, List.map_nil]); first | done | rfl | (simp only [List.length_drop, List.length_take]; rfl)) ?_; (with_reducible refine (may_calls r s q _).mono ?_); rintro e w2_ ⟨rfl, hb⟩; refine ⟨_, rfl, ?_⟩; have n0_ := Aside0.mk (below_step (by repeat (first | (with_reducible first | exact HB.out | apply below_alloc | apply pw_below_drewN | apply below_drew1 | refine below_set ?_ GE1.out) | exact HB.out)) hb); have n1_ := Aside0.mk (blk_below (g := g1) (o := .cells #[.int .i64 r, .int .i64 s, .int .i64 q] 23 (0, 0)) (by (with_reducible repeat (first | refine blk_drewN ?_ _ | refine blk_drew ?_ | refine blk_alloc ?_ _)); exact BK1.out) hb); clear HB; clear BK1; have HB := n0_; have BK1 := n1_; clear n0_ n1_; clear hb; rw [hm]))
  refine start_ (n := 16) (S := fun w' => True) (ds := []) #[false, false, false, false, false, false, false, false, false, false, false, false, false, false, false, false] (by kernel_rfl) rfl rfl trivial (fun hHeld => ?_)
  refine with_tabW bw.tab5 bw.bits5 (fun HT_ HW_ => ?_)
  refine inv_at [0, 1, 2, 3, 4, 5, 6, 7, 8, 9, 10, 11, 12, 13, 14, 15] (fun a0_ b a w' => ∃ (A12 : Option Addr) (c12 : Nat) (A22 : Option Addr) (m0_ : Value) (m10_ : Value), a = putSel a0_ b [(0, 12, m0_), (1, 13, .pointer (some ⟨g1, 0, none⟩)), (2, 14, .int .i64 r), (3, 15, .int .u64 r), (4, 16, .pointer (some ⟨g1, 1, none⟩)), (5, 17, .int .i64 s), (6, 18, .int .u64 s), (7, 19, .pointer (some ⟨g1, 2, none⟩)), (8, 20, .int .i64 q), (9, 21, .int .u64 q), (10, 22, m10_), (11, 23, .tuple #[.int .u64 (wordV r s q), .bool true]), (12, 24, .int .u64 (wordV r s q)), (13, 25, .bool true), (14, 2, .int .u64 (wordV r s q)), (15, 3, .bool true)] ∧ (Below w.heap.size w w') ∧ (w'.heap[g1]? = some (.cells #[.int .i64 r, .int .i64 s, .int .i64 q] 23 (0, 0))) ∧ (b 0 = true → Kd.C (Kd.int .i64) w' A12 3 [16, 8, 8]) ∧ (b 10 = true → Kd.C (Kd.int .u64) w' A22 3 [r, s, q]) ∧ (b 0 = true → (m0_ : Value) = .slice A12 3 c12) ∧ (b 10 = true → (m10_ : Value) = .slice A22 3 3)) HT_.out HW_.out (by kernel_rfl) (by kernel_rfl) ?_ ?_ ?_
  · exact ⟨none, 0, none, .bool false, .bool false, by simp only [putSel, Bool.false_eq_true, if_false], below_drew1 HB.out, BK1.out, fun h_ => absurd h_ (by decide), fun h_ => absurd h_ (by decide), fun h_ => absurd h_ (by decide), fun h_ => absurd h_ (by decide)⟩
  · skip
    clear BK1 HB
    refine steps_cons ?_ ?_
    · rintro b a w' ⟨A12, c12, A22, m0_, m10_, ha, Q_HB, Q_BK1, Q_K12, Q_K22, Q_X0_, Q_X10_⟩ hb_ hon hoff
      refine ⟨_, rfl, fun K hK => ?_⟩
      replace ha := Aside0.mk ha
      have HB := Aside0.mk Q_HB
      have BK1 := Aside0.mk Q_BK1
      refine goes_ Try.func21 (by kernel_rfl) rfl #[] (by rfl) rfl rfl (by first | (simp only [List.map_toArray, List.map_cons, List.map_nil, Act.eval, Array.getD_eq_getD_getElem?, Option.getD_some]; done) | (simp only [List.map_toArray, List.map_cons, List.map_nil, Act.eval, Array.getD_eq_getD_getElem?, Option.getD_some]; rfl)) ?_
      with_reducible refine (widths_calls _).mono ?_
      rintro e w3 ⟨A3, c3, rfl, hK12, hb⟩
      refine ⟨_, rfl, ?_⟩
      refine hK.out _ _ ⟨A3, c3, A22, (.slice A3 3 c3), m10_, (by rw [ha.out]; exact putSel_upk 0 hb_ rfl rfl rfl), (below_step HB.out hb), (blk_below BK1.out hb), fun _ => hK12, fun h0_ => (Kd.C_below (Q_K22 h0_) hb), fun _ => rfl, Q_X10_⟩
    refine steps_cons ?_ ?_
    · rintro b a w' ⟨A12, c12, A22, m0_, m10_, ha, Q_HB, Q_BK1, Q_K12, Q_K22, Q_X0_, Q_X10_⟩ hb_ hon hoff
      refine ⟨_, rfl, fun K hK => ?_⟩
      have e1 : a.tmps[1]? = some (.pointer (some ⟨g1, 0, none⟩)) := by rw [ha]; exact (putSel_off rfl).trans rfl
      replace ha := Aside0.mk ha
      have HB := Aside0.mk Q_HB
      have BK1 := Aside0.mk Q_BK1
      refine value_ (w1 := w') (v := .pointer (some ⟨g1, 0, none⟩)) (by rfl) rfl ?_ ?_
      · go_simp
        (try simp only [i64_w])
        try rfl
      refine hK.out _ _ ⟨A12, c12, A22, m0_, m10_, (by rw [ha.out]; exact putSel_upk 1 hb_ rfl rfl rfl), Q_HB, Q_BK1, Q_K12, fun h0_ => absurd ((hoff 10 (by kernel_rfl)).symm.trans h0_) (by decide), Q_X0_, fun h0_ => absurd ((hoff 10 (by kernel_rfl)).symm.trans h0_) (by decide)⟩
    refine steps_cons ?_ ?_
    · rintro b a w' ⟨A12, c12, A22, m0_, m10_, ha, Q_HB, Q_BK1, Q_K12, Q_K22, Q_X0_, Q_X10_⟩ hb_ hon hoff
      refine ⟨_, rfl, fun K hK => ?_⟩
      have e13 : a.tmps[13]? = some (.pointer (some ⟨g1, 0, none⟩)) := by rw [ha]; exact putSel_on (e := (1, 13, .pointer (some ⟨g1, 0, none⟩))) 1 rfl rfl (hon 1 (by kernel_rfl)) rfl
      replace ha := Aside0.mk ha
      have HB := Aside0.mk Q_HB
      have BK1 := Aside0.mk Q_BK1
      have hc1_0 : w'.cell? ⟨g1, 0, none⟩ = some (.int .i64 r) := (blk_cell BK1.out 0).trans rfl
      refine value_ (w1 := w') (v := .int .i64 r) (by rfl) rfl ?_ ?_
      · go_simp
        (try simp only [i64_w])
        try rfl
      refine hK.out _ _ ⟨A12, c12, A22, m0_, m10_, (by rw [ha.out]; exact putSel_upk 2 hb_ rfl rfl rfl), Q_HB, Q_BK1, Q_K12, fun h0_ => absurd ((hoff 10 (by kernel_rfl)).symm.trans h0_) (by decide), Q_X0_, fun h0_ => absurd ((hoff 10 (by kernel_rfl)).symm.trans h0_) (by decide)⟩
    refine steps_cons ?_ ?_
    · rintro b a w' ⟨A12, c12, A22, m0_, m10_, ha, Q_HB, Q_BK1, Q_K12, Q_K22, Q_X0_, Q_X10_⟩ hb_ hon hoff
      refine ⟨_, rfl, fun K hK => ?_⟩
      have e14 : a.tmps[14]? = some (.int .i64 r) := by rw [ha]; exact putSel_on (e := (2, 14, .int .i64 r)) 2 rfl rfl (hon 2 (by kernel_rfl)) rfl
      replace ha := Aside0.mk ha
      have HB := Aside0.mk Q_HB
      have BK1 := Aside0.mk Q_BK1
      refine value_ (w1 := w') (v := .int .u64 r) (by rfl) rfl ?_ ?_
      · go_simp
        (try simp only [i64_w])
        try rfl
      refine hK.out _ _ ⟨A12, c12, A22, m0_, m10_, (by rw [ha.out]; exact putSel_upk 3 hb_ rfl rfl rfl), Q_HB, Q_BK1, Q_K12, fun h0_ => absurd ((hoff 10 (by kernel_rfl)).symm.trans h0_) (by decide), Q_X0_, fun h0_ => absurd ((hoff 10 (by kernel_rfl)).symm.trans h0_) (by decide)⟩
    refine steps_cons ?_ ?_
    · rintro b a w' ⟨A12, c12, A22, m0_, m10_, ha, Q_HB, Q_BK1, Q_K12, Q_K22, Q_X0_, Q_X10_⟩ hb_ hon hoff
      refine ⟨_, rfl, fun K hK => ?_⟩
      have e1 : a.tmps[1]? = some (.pointer (some ⟨g1, 0, none⟩)) := by rw [ha]; exact (putSel_off rfl).trans rfl
      replace ha := Aside0.mk ha
      have HB := Aside0.mk Q_HB
      have BK1 := Aside0.mk Q_BK1
      refine value_ (w1 := w') (v := .pointer (some ⟨g1, 1, none⟩)) (by rfl) rfl ?_ ?_
      · go_simp
        (try simp only [i64_w])
        try rfl
      refine hK.out _ _ ⟨A12, c12, A22, m0_, m10_, (by rw [ha.out]; exact putSel_upk 4 hb_ rfl rfl rfl), Q_HB, Q_BK1, Q_K12, fun h0_ => absurd ((hoff 10 (by kernel_rfl)).symm.trans h0_) (by decide), Q_X0_, fun h0_ => absurd ((hoff 10 (by kernel_rfl)).symm.trans h0_) (by decide)⟩
    refine steps_cons ?_ ?_
    · rintro b a w' ⟨A12, c12, A22, m0_, m10_, ha, Q_HB, Q_BK1, Q_K12, Q_K22, Q_X0_, Q_X10_⟩ hb_ hon hoff
      refine ⟨_, rfl, fun K hK => ?_⟩
      have e16 : a.tmps[16]? = some (.pointer (some ⟨g1, 1, none⟩)) := by rw [ha]; exact putSel_on (e := (4, 16, .pointer (some ⟨g1, 1, none⟩))) 4 rfl rfl (hon 4 (by kernel_rfl)) rfl
      replace ha := Aside0.mk ha
      have HB := Aside0.mk Q_HB
      have BK1 := Aside0.mk Q_BK1
      have hc1_1 : w'.cell? ⟨g1, 1, none⟩ = some (.int .i64 s) := (blk_cell BK1.out 1).trans rfl
      refine value_ (w1 := w') (v := .int .i64 s) (by rfl) rfl ?_ ?_
      · go_simp
        (try simp only [i64_w])
        try rfl
      refine hK.out _ _ ⟨A12, c12, A22, m0_, m10_, (by rw [ha.out]; exact putSel_upk 5 hb_ rfl rfl rfl), Q_HB, Q_BK1, Q_K12, fun h0_ => absurd ((hoff 10 (by kernel_rfl)).symm.trans h0_) (by decide), Q_X0_, fun h0_ => absurd ((hoff 10 (by kernel_rfl)).symm.trans h0_) (by decide)⟩
    refine steps_cons ?_ ?_
    · rintro b a w' ⟨A12, c12, A22, m0_, m10_, ha, Q_HB, Q_BK1, Q_K12, Q_K22, Q_X0_, Q_X10_⟩ hb_ hon hoff
      refine ⟨_, rfl, fun K hK => ?_⟩
      have e17 : a.tmps[17]? = some (.int .i64 s) := by rw [ha]; exact putSel_on (e := (5, 17, .int .i64 s)) 5 rfl rfl (hon 5 (by kernel_rfl)) rfl
      replace ha := Aside0.mk ha
      have HB := Aside0.mk Q_HB
      have BK1 := Aside0.mk Q_BK1
      refine value_ (w1 := w') (v := .int .u64 s) (by rfl) rfl ?_ ?_
      · go_simp
        (try simp only [i64_w])
        try rfl
      refine hK.out _ _ ⟨A12, c12, A22, m0_, m10_, (by rw [ha.out]; exact putSel_upk 6 hb_ rfl rfl rfl), Q_HB, Q_BK1, Q_K12, fun h0_ => absurd ((hoff 10 (by kernel_rfl)).symm.trans h0_) (by decide), Q_X0_, fun h0_ => absurd ((hoff 10 (by kernel_rfl)).symm.trans h0_) (by decide)⟩
    refine steps_cons ?_ ?_
    · rintro b a w' ⟨A12, c12, A22, m0_, m10_, ha, Q_HB, Q_BK1, Q_K12, Q_K22, Q_X0_, Q_X10_⟩ hb_ hon hoff
      refine ⟨_, rfl, fun K hK => ?_⟩
      have e1 : a.tmps[1]? = some (.pointer (some ⟨g1, 0, none⟩)) := by rw [ha]; exact (putSel_off rfl).trans rfl
      replace ha := Aside0.mk ha
      have HB := Aside0.mk Q_HB
      have BK1 := Aside0.mk Q_BK1
      refine value_ (w1 := w') (v := .pointer (some ⟨g1, 2, none⟩)) (by rfl) rfl ?_ ?_
      · go_simp
        (try simp only [i64_w])
        try rfl
      refine hK.out _ _ ⟨A12, c12, A22, m0_, m10_, (by rw [ha.out]; exact putSel_upk 7 hb_ rfl rfl rfl), Q_HB, Q_BK1, Q_K12, fun h0_ => absurd ((hoff 10 (by kernel_rfl)).symm.trans h0_) (by decide), Q_X0_, fun h0_ => absurd ((hoff 10 (by kernel_rfl)).symm.trans h0_) (by decide)⟩
    refine steps_cons ?_ ?_
    · rintro b a w' ⟨A12, c12, A22, m0_, m10_, ha, Q_HB, Q_BK1, Q_K12, Q_K22, Q_X0_, Q_X10_⟩ hb_ hon hoff
      refine ⟨_, rfl, fun K hK => ?_⟩
      have e19 : a.tmps[19]? = some (.pointer (some ⟨g1, 2, none⟩)) := by rw [ha]; exact putSel_on (e := (7, 19, .pointer (some ⟨g1, 2, none⟩))) 7 rfl rfl (hon 7 (by kernel_rfl)) rfl
      replace ha := Aside0.mk ha
      have HB := Aside0.mk Q_HB
      have BK1 := Aside0.mk Q_BK1
      have hc1_2 : w'.cell? ⟨g1, 2, none⟩ = some (.int .i64 q) := (blk_cell BK1.out 2).trans rfl
      refine value_ (w1 := w') (v := .int .i64 q) (by rfl) rfl ?_ ?_
      · go_simp
        (try simp only [i64_w])
        try rfl
      refine hK.out _ _ ⟨A12, c12, A22, m0_, m10_, (by rw [ha.out]; exact putSel_upk 8 hb_ rfl rfl rfl), Q_HB, Q_BK1, Q_K12, fun h0_ => absurd ((hoff 10 (by kernel_rfl)).symm.trans h0_) (by decide), Q_X0_, fun h0_ => absurd ((hoff 10 (by kernel_rfl)).symm.trans h0_) (by decide)⟩
    refine steps_cons ?_ ?_
    · rintro b a w' ⟨A12, c12, A22, m0_, m10_, ha, Q_HB, Q_BK1, Q_K12, Q_K22, Q_X0_, Q_X10_⟩ hb_ hon hoff
      refine ⟨_, rfl, fun K hK => ?_⟩
      have e20 : a.tmps[20]? = some (.int .i64 q) := by rw [ha]; exact putSel_on (e := (8, 20, .int .i64 q)) 8 rfl rfl (hon 8 (by kernel_rfl)) rfl
      replace ha := Aside0.mk ha
      have HB := Aside0.mk Q_HB
      have BK1 := Aside0.mk Q_BK1
      refine value_ (w1 := w') (v := .int .u64 q) (by rfl) rfl ?_ ?_
      · go_simp
        (try simp only [i64_w])
        try rfl
      refine hK.out _ _ ⟨A12, c12, A22, m0_, m10_, (by rw [ha.out]; exact putSel_upk 9 hb_ rfl rfl rfl), Q_HB, Q_BK1, Q_K12, fun h0_ => absurd ((hoff 10 (by kernel_rfl)).symm.trans h0_) (by decide), Q_X0_, fun h0_ => absurd ((hoff 10 (by kernel_rfl)).symm.trans h0_) (by decide)⟩
    refine steps_cons ?_ ?_
    · rintro b a w' ⟨A12, c12, A22, m0_, m10_, ha, Q_HB, Q_BK1, Q_K12, Q_K22, Q_X0_, Q_X10_⟩ hb_ hon hoff
      refine ⟨_, rfl, fun K hK => ?_⟩
      have e15 : a.tmps[15]? = some (.int .u64 r) := by rw [ha]; exact putSel_on (e := (3, 15, .int .u64 r)) 3 rfl rfl (hon 3 (by kernel_rfl)) rfl
      have e18 : a.tmps[18]? = some (.int .u64 s) := by rw [ha]; exact putSel_on (e := (6, 18, .int .u64 s)) 6 rfl rfl (hon 6 (by kernel_rfl)) rfl
      have e21 : a.tmps[21]? = some (.int .u64 q) := by rw [ha]; exact putSel_on (e := (9, 21, .int .u64 q)) 9 rfl rfl (hon 9 (by kernel_rfl)) rfl
      replace ha := Aside0.mk ha
      have HB := Aside0.mk Q_HB
      have BK1 := Aside0.mk Q_BK1
      refine value_ (w1 := ?_) (v := ?_) (by rfl) rfl ?_ ?_
      rotate_left 2
      · go_simp
        constructor
        · rfl
        · rfl
      have hb := below_alloc (Below.refl w'.heap.size w') (.cells #[.int .u64 r, .int .u64 s, .int .u64 q] 33)
      refine hK.out _ _ ⟨A12, c12, (some ⟨w'.heap.size, 0, none⟩), m0_, (.slice (some ⟨w'.heap.size, 0, none⟩) 3 3), (by rw [ha.out]; exact putSel_upk 10 hb_ rfl rfl rfl), (below_step HB.out hb), (blk_below BK1.out hb), fun h0_ => (Kd.C_below (Q_K12 h0_) hb), fun _ => (C_cells _ _ [r, s, q] (by simp) (fun j hj => by rcases j with _ | _ | _ | j <;> first | (simp [go_sem]; done) | (simp at hj; omega))), Q_X0_, fun _ => rfl⟩
    refine steps_cons ?_ ?_
    · rintro b a w' ⟨A12, c12, A22, m0_, m10_, ha, Q_HB, Q_BK1, Q_K12, Q_K22, Q_X0_, Q_X10_⟩ hb_ hon hoff
      refine ⟨_, rfl, fun K hK => ?_⟩
      have e12 : a.tmps[12]? = some (m0_) := by rw [ha]; exact putSel_on (e := (0, 12, m0_)) 0 rfl rfl (hon 0 (by kernel_rfl)) rfl
      rw [Q_X0_ (hon 0 (by kernel_rfl))] at e12
      have e22 : a.tmps[22]? = some (m10_) := by rw [ha]; exact putSel_on (e := (10, 22, m10_)) 10 rfl rfl (hon 10 (by kernel_rfl)) rfl
      rw [Q_X10_ (hon 10 (by kernel_rfl))] at e22
      replace ha := Aside0.mk ha
      have HB := Aside0.mk Q_HB
      have BK1 := Aside0.mk Q_BK1
      have K12 := Aside0.mk (Q_K12 (hon 0 (by kernel_rfl)))
      have K22 := Aside0.mk (Q_K22 (hon 10 (by kernel_rfl)))
      refine goes_ Try.func20 (by kernel_rfl) rfl #[.slice A12 3 c12, .slice A22 3 3] (by rfl) rfl rfl (by first | (simp only [List.map_toArray, List.map_cons, List.map_nil, Act.eval, Array.getD_eq_getD_getElem?, Option.getD_some, e12, e22]; done) | (simp only [List.map_toArray, List.map_cons, List.map_nil, Act.eval, Array.getD_eq_getD_getElem?, Option.getD_some, e12, e22]; rfl)) ?_
      with_reducible refine (joinW_calls r s q HM.out A12 A22 c12 3 _ K12.out K22.out).mono ?_
      rintro e w3 ⟨rfl, hb⟩
      refine ⟨_, rfl, ?_⟩
      refine hK.out _ _ ⟨A12, c12, A22, m0_, m10_, (by rw [ha.out]; exact putSel_upk 11 hb_ rfl rfl rfl), (below_step HB.out hb), (blk_below BK1.out hb), fun _ => (Kd.C_below K12.out hb), fun _ => (Kd.C_below K22.out hb), Q_X0_, Q_X10_⟩
    refine steps_cons ?_ ?_
    · rintro b a w' ⟨A12, c12, A22, m0_, m10_, ha, Q_HB, Q_BK1, Q_K12, Q_K22, Q_X0_, Q_X10_⟩ hb_ hon hoff
      refine ⟨_, rfl, fun K hK => ?_⟩
      have e23 : a.tmps[23]? = some (.tuple #[.int .u64 (wordV r s q), .bool true]) := by rw [ha]; exact putSel_on (e := (11, 23, .tuple #[.int .u64 (wordV r s q), .bool true])) 11 rfl rfl (hon 11 (by kernel_rfl)) rfl
      replace ha := Aside0.mk ha
      have HB := Aside0.mk Q_HB
      have BK1 := Aside0.mk Q_BK1
      have K12 := Aside0.mk (Q_K12 (hon 0 (by kernel_rfl)))
      have K22 := Aside0.mk (Q_K22 (hon 10 (by kernel_rfl)))
      refine value_ (w1 := w') (v := .int .u64 (wordV r s q)) (by rfl) rfl ?_ ?_
      · go_simp
        (try simp only [i64_w])
        try rfl
      refine hK.out _ _ ⟨A12, c12, A22, m0_, m10_, (by rw [ha.out]; exact putSel_upk 12 hb_ rfl rfl rfl), Q_HB, Q_BK1, Q_K12, Q_K22, Q_X0_, Q_X10_⟩
    refine steps_cons ?_ ?_
    · rintro b a w' ⟨A12, c12, A22, m0_, m10_, ha, Q_HB, Q_BK1, Q_K12, Q_K22, Q_X0_, Q_X10_⟩ hb_ hon hoff
      refine ⟨_, rfl, fun K hK => ?_⟩
      have e23 : a.tmps[23]? = some (.tuple #[.int .u64 (wordV r s q), .bool true]) := by rw [ha]; exact putSel_on (e := (11, 23, .tuple #[.int .u64 (wordV r s q), .bool true])) 11 rfl rfl (hon 11 (by kernel_rfl)) rfl
      replace ha := Aside0.mk ha
      have HB := Aside0.mk Q_HB
      have BK1 := Aside0.mk Q_BK1
      have K12 := Aside0.mk (Q_K12 (hon 0 (by kernel_rfl)))
      have K22 := Aside0.mk (Q_K22 (hon 10 (by kernel_rfl)))
      refine value_ (w1 := w') (v := .bool true) (by rfl) rfl ?_ ?_
      · go_simp
        (try simp only [i64_w])
        try rfl
      refine hK.out _ _ ⟨A12, c12, A22, m0_, m10_, (by rw [ha.out]; exact putSel_upk 13 hb_ rfl rfl rfl), Q_HB, Q_BK1, Q_K12, Q_K22, Q_X0_, Q_X10_⟩
    refine steps_cons ?_ ?_
    · rintro b a w' ⟨A12, c12, A22, m0_, m10_, ha, Q_HB, Q_BK1, Q_K12, Q_K22, Q_X0_, Q_X10_⟩ hb_ hon hoff
      refine ⟨_, rfl, fun K hK => ?_⟩
      have e24 : a.tmps[24]? = some (.int .u64 (wordV r s q)) := by rw [ha]; exact putSel_on (e := (12, 24, .int .u64 (wordV r s q))) 12 rfl rfl (hon 12 (by kernel_rfl)) rfl
      replace ha := Aside0.mk ha
      have HB := Aside0.mk Q_HB
      have BK1 := Aside0.mk Q_BK1
      have K12 := Aside0.mk (Q_K12 (hon 0 (by kernel_rfl)))
      have K22 := Aside0.mk (Q_K22 (hon 10 (by kernel_rfl)))
      refine value_ (w1 := w') (v := .int .u64 (wordV r s q)) (by rfl) rfl ?_ ?_
      · go_simp
        (try simp only [i64_w])
        try rfl
      refine hK.out _ _ ⟨A12, c12, A22, m0_, m10_, (by rw [ha.out]; exact putSel_upk 14 hb_ rfl rfl rfl), Q_HB, Q_BK1, Q_K12, Q_K22, Q_X0_, Q_X10_⟩
    refine steps_cons ?_ ?_
    · rintro b a w' ⟨A12, c12, A22, m0_, m10_, ha, Q_HB, Q_BK1, Q_K12, Q_K22, Q_X0_, Q_X10_⟩ hb_ hon hoff
      refine ⟨_, rfl, fun K hK => ?_⟩
      have e25 : a.tmps[25]? = some (.bool true) := by rw [ha]; exact putSel_on (e := (13, 25, .bool true)) 13 rfl rfl (hon 13 (by kernel_rfl)) rfl
      replace ha := Aside0.mk ha
      have HB := Aside0.mk Q_HB
      have BK1 := Aside0.mk Q_BK1
      have K12 := Aside0.mk (Q_K12 (hon 0 (by kernel_rfl)))
      have K22 := Aside0.mk (Q_K22 (hon 10 (by kernel_rfl)))
      refine value_ (w1 := w') (v := .bool true) (by rfl) rfl ?_ ?_
      · go_simp
        (try simp only [i64_w])
        try rfl
      refine hK.out _ _ ⟨A12, c12, A22, m0_, m10_, (by rw [ha.out]; exact putSel_upk 15 hb_ rfl rfl rfl), Q_HB, Q_BK1, Q_K12, Q_K22, Q_X0_, Q_X10_⟩
    exact steps_nil
  rintro b a wz hall ⟨A12, c12, A22, m0_, m10_, ha, Q_HB, Q_BK1, Q_K12, Q_K22, Q_X0_, Q_X10_⟩
  clear BK1 HB
  have hb0_ := hall 0 (by kernel_rfl)
  have hb1_ := hall 1 (by kernel_rfl)
  have hb2_ := hall 2 (by kernel_rfl)
  have hb3_ := hall 3 (by kernel_rfl)
  have hb4_ := hall 4 (by kernel_rfl)
  have hb5_ := hall 5 (by kernel_rfl)
  have hb6_ := hall 6 (by kernel_rfl)
  have hb7_ := hall 7 (by kernel_rfl)
  have hb8_ := hall 8 (by kernel_rfl)
  have hb9_ := hall 9 (by kernel_rfl)
  have hb10_ := hall 10 (by kernel_rfl)
  have hb11_ := hall 11 (by kernel_rfl)
  have hb12_ := hall 12 (by kernel_rfl)
  have hb13_ := hall 13 (by kernel_rfl)
  have hb14_ := hall 14 (by kernel_rfl)
  have hb15_ := hall 15 (by kernel_rfl)
  subst ha
  obtain rfl := Q_X0_ hb0_
  obtain rfl := Q_X10_ hb10_
  simp only [putSel, hb0_, hb1_, hb2_, hb3_, hb4_, hb5_, hb6_, hb7_, hb8_, hb9_, hb10_, hb11_, hb12_, hb13_, hb14_, hb15_, if_true, Act.put, List.setIfInBounds_toArray, List.set_cons_zero, List.set_cons_succ]
  have HB := Aside0.mk Q_HB
  clear Q_HB
  have BK1 := Aside0.mk Q_BK1
  clear Q_BK1
  have K12 := Aside0.mk (Q_K12 hb0_)
  clear Q_K12
  have K22 := Aside0.mk (Q_K22 hb10_)
  clear Q_K22
  clear hall hb0_ hb1_ hb2_ hb3_ hb4_ hb5_ hb6_ hb7_ hb8_ hb9_ hb10_ hb11_ hb12_ hb13_ hb14_ hb15_
  go_wp2
  go_ret2
  exact ⟨rfl, HB.out⟩

set_option maxHeartbeats 8000000 in
set_option maxRecDepth 100000 in
theorem word_no_b (s q : Int) (w : World) (h2 : ¬ s = 0) (hm : mayO 0 s q = false) : Calls Try.prog 14 #[obj 0 s q] w fun e w' => e = .returned (.tuple #[.int .u64 0, .bool false]) ∧ Below w.heap.size w w' := by
  have hu23 := Try.underlying23
  have HB := Aside0.mk (Below.refl w.heap.size w)
  go_enter Try.func14, Try.ntmps14
  go_wp2_with (first | ((with_reducible refine gate_dst (N := 1) rfl ?_); refine box_event ?hg (N := 1) ?hd (cs := #[.int .i64 0, .int .i64 s, .int .i64 q]) (t := 23) ?hr ?_; (case hd => rfl); (case hg => rfl); (case hr => first | (go_simp; done) | (go_simp; rfl)); intro g1 hg w1_ hbox hb; have n0_ := Aside0.mk (below_step (by repeat (first | (with_reducible first | exact HB.out | apply below_alloc | apply pw_below_drewN | apply below_drew1) | exact HB.out)) hb); have n1_ := Aside0.mk hbox; have n2_ := Aside0.mk ((by rw [hg]; exact (below_size (by repeat (first | (with_reducible first | exact HB.out | apply below_alloc | apply pw_below_drewN | apply below_drew1) | exact HB.out)))) : w.heap.size ≤ g1); clear HB; have HB := n0_; have BK1 := n1_; have GE1 := n2_; clear n0_ n1_ n2_; clear hb hbox hg; have hc1_0 : w1_.cell? ⟨g1, 0, none⟩ = some (.int .i64 0) := (blk_cell BK1.out 0).trans rfl; have hf1_0 := blk_frozen BK1.out 0; have hc1_1 : w1_.cell? ⟨g1, 1, none⟩ = some (.int .i64 s) := (blk_cell BK1.out 1).trans rfl; have hf1_1 := blk_frozen BK1.out 1; have hc1_2 : w1_.cell? ⟨g1, 2, none⟩ = some (.int .i64 q) := (blk_cell BK1.out 2).trans rfl; have hf1_2 := blk_frozen BK1.out 2) | ((with_reducible refine gate_callee (f := 19) rfl ?_); refine goesL_ (some 10) rfl rfl Try.func19 (by kernel_rfl) rfl #[obj 0 s q] rfl (by (try simp only [List.map_toArray, List.map_cons, List.map_nil]); first | done | rfl | (simp only [List.length_drop, List.length_take]; rfl)) ?_; (with_reducible refine (may_calls 0 s q _).mono ?_); rintro e w2_ ⟨rfl, hb⟩; refine ⟨_, rfl, ?_⟩; have n0_ := Aside0.mk (below_step (by repeat (first | (with_reducible first | exact HB.out | apply below_alloc | apply pw_below_drewN | apply below_drew1 | refine below_set ?_ GE1.out) | exact HB.out)) hb); have n1_ := Aside0.mk (blk_below (g := g1) (o := .cells #[.int .i64 0, .int .i64 s, .int .i64 q] 23 (0, 0)) (by (with_reducible repeat (first | refine blk_drewN ?_ _ | refine blk_drew ?_ | refine blk_alloc ?_ _)); exact BK1.out) hb); clear HB; clear BK1; have HB := n0_; have BK1 := n1_; clear n0_ n1_; clear hb; rw [hm]))
  go_ret2
  exact ⟨rfl, HB.out⟩

set_option maxHeartbeats 8000000 in
set_option maxRecDepth 100000 in
theorem word_yes_b (s q : Int) (w : World) (h2 : ¬ s = 0) (hm : mayO 0 s q = true) (wr : IntKind.u64.wrap 0 = 0) (ws : IntKind.u64.wrap s = s) (wq : IntKind.u64.wrap q = q) : Calls Try.prog 14 #[obj 0 s q] w fun e w' => e = .returned (.tuple #[.int .u64 (wordV 0 s q), .bool true]) ∧ Below w.heap.size w w' := by
  have hu23 := Try.underlying23
  have HB := Aside0.mk (Below.refl w.heap.size w)
  go_enter Try.func14, Try.ntmps14
  have HM := Aside0.mk hm
  go_upto_region 5 with (first | ((with_reducible refine gate_dst (N := 1) rfl ?_); refine box_event ?hg (N := 1) ?hd (cs := #[.int .i64 0, .int .i64 s, .int .i64 q]) (t := 23) ?hr ?_; (case hd => rfl); (case hg => rfl); (case hr => first | (go_simp; done) | (go_simp; rfl)); intro g1 hg w1_ hbox hb; have n0_ := Aside0.mk (below_step (by repeat (first | (with_reducible first | exact HB.out | apply below_alloc | apply pw_below_drewN | apply below_drew1) | exact HB.out)) hb); have n1_ := Aside0.mk hbox; have n2_ := Aside0.mk ((by rw [hg]; exact (below_size (by repeat (first | (with_reducible first | exact HB.out | apply below_alloc | apply pw_below_drewN | apply below_drew1) | exact HB.out)))) : w.heap.size ≤ g1); clear HB; have HB := n0_; have BK1 := n1_; have GE1 := n2_; clear n0_ n1_ n2_; clear hb hbox hg; have hc1_0 : w1_.cell? ⟨g1, 0, none⟩ = some (.int .i64 0) := (blk_cell BK1.out 0).trans rfl; have hf1_0 := blk_frozen BK1.out 0; have hc1_1 : w1_.cell? ⟨g1, 1, none⟩ = some (.int .i64 s) := (blk_cell BK1.out 1).trans rfl; have hf1_1 := blk_frozen BK1.out 1; have hc1_2 : w1_.cell? ⟨g1, 2, none⟩ = some (.int .i64 q) := (blk_cell BK1.out 2).trans rfl; have hf1_2 := blk_frozen BK1.out 2) | ((with_reducible refine gate_callee (f := 19) rfl ?_); refine goesL_ (some 10) rfl rfl Try.func19 (by kernel_rfl) rfl #[obj 0 s q] rfl (by (try simp only [List.map_toArray, List.map_cons, List.map_nil]); first | done | rfl | (simp only [List.length_drop, List.length_take]; rfl)) ?_; (with_reducible refine (may_calls 0 s q _).mono ?_); rintro e w2_ ⟨rfl, hb⟩; refine ⟨_, rfl, ?_⟩; have n0_ := Aside0.mk (below_step (by repeat (first | (with_reducible first | exact HB.out | apply below_alloc | apply pw_below_drewN | apply below_drew1 | refine below_set ?_ GE1.out) | exact HB.out)) hb); have n1_ := Aside0.mk (blk_below (g := g1) (o := .cells #[.int .i64 0, .int .i64 s, .int .i64 q] 23 (0, 0)) (by (with_reducible repeat (first | refine blk_drewN ?_ _ | refine blk_drew ?_ | refine blk_alloc ?_ _)); exact BK1.out) hb); clear HB; clear BK1; have HB := n0_; have BK1 := n1_; clear n0_ n1_; clear hb; rw [hm]))
  refine start_ (n := 16) (S := fun w' => True) (ds := []) #[false, false, false, false, false, false, false, false, false, false, false, false, false, false, false, false] (by kernel_rfl) rfl rfl trivial (fun hHeld => ?_)
  refine with_tabW bw.tab5 bw.bits5 (fun HT_ HW_ => ?_)
  refine inv_at [0, 1, 2, 3, 4, 5, 6, 7, 8, 9, 10, 11, 12, 13, 14, 15] (fun a0_ b a w' => ∃ (A12 : Option Addr) (c12 : Nat) (A22 : Option Addr) (m0_ : Value) (m10_ : Value), a = putSel a0_ b [(0, 12, m0_), (1, 13, .pointer (some ⟨g1, 0, none⟩)), (2, 14, .int .i64 0), (3, 15, .int .u64 0), (4, 16, .pointer (some ⟨g1, 1, none⟩)), (5, 17, .int .i64 s), (6, 18, .int .u64 s), (7, 19, .pointer (some ⟨g1, 2, none⟩)), (8, 20, .int .i64 q), (9, 21, .int .u64 q), (10, 22, m10_), (11, 23, .tuple #[.int .u64 (wordV 0 s q), .bool true]), (12, 24, .int .u64 (wordV 0 s q)), (13, 25, .bool true), (14, 2, .int .u64 (wordV 0 s q)), (15, 3, .bool true)] ∧ (Below w.heap.size w w') ∧ (w'.heap[g1]? = some (.cells #[.int .i64 0, .int .i64 s, .int .i64 q] 23 (0, 0))) ∧ (b 0 = true → Kd.C (Kd.int .i64) w' A12 3 [16, 8, 8]) ∧ (b 10 = true → Kd.C (Kd.int .u64) w' A22 3 [0, s, q]) ∧ (b 0 = true → (m0_ : Value) = .slice A12 3 c12) ∧ (b 10 = true → (m10_ : Value) = .slice A22 3 3)) HT_.out HW_.out (by kernel_rfl) (by kernel_rfl) ?_ ?_ ?_
  · exact ⟨none, 0, none, .bool false, .bool false, by simp only [putSel, Bool.false_eq_true, if_false], below_drew1 HB.out, BK1.out, fun h_ => absurd h_ (by decide), fun h_ => absurd h_ (by decide), fun h_ => absurd h_ (by decide), fun h_ => absurd h_ (by decide)⟩
  · skip
    clear BK1 HB
    refine steps_cons ?_ ?_
    · rintro b a w' ⟨A12, c12, A22, m0_, m10_, ha, Q_HB, Q_BK1, Q_K12, Q_K22, Q_X0_, Q_X10_⟩ hb_ hon hoff
      refine ⟨_, rfl, fun K hK => ?_⟩
      replace ha := Aside0.mk ha
      have HB := Aside0.mk Q_HB
      have BK1 := Aside0.mk Q_BK1
      refine goes_ Try.func21 (by kernel_rfl) rfl #[] (by rfl) rfl rfl (by first | (simp only [List.map_toArray, List.map_cons, List.map_nil, Act.eval, Array.getD_eq_getD_getElem?, Option.getD_some]; done) | (simp only [List.map_toArray, List.map_cons, List.map_nil, Act.eval, Array.getD_eq_getD_getElem?, Option.getD_some]; rfl)) ?_
      with_reducible refine (widths_calls _).mono ?_
      rintro e w3 ⟨A3, c3, rfl, hK12, hb⟩
      refine ⟨_, rfl, ?_⟩
      refine hK.out _ _ ⟨A3, c3, A22, (.slice A3 3 c3), m10_, (by rw [ha.out]; exact putSel_upk 0 hb_ rfl rfl rfl), (below_step HB.out hb), (blk_below BK1.out hb), fun _ => hK12, fun h0_ => (Kd.C_below (Q_K22 h0_) hb), fun _ => rfl, Q_X10_⟩
    refine steps_cons ?_ ?_
    · rintro b a w' ⟨A12, c12, A22, m0_, m10_, ha, Q_HB, Q_BK1, Q_K12, Q_K22, Q_X0_, Q_X10_⟩ hb_ hon hoff
      refine ⟨_, rfl, fun K hK => ?_⟩
      have e1 : a.tmps[1]? = some (.pointer (some ⟨g1, 0, none⟩)) := by rw [ha]; exact (putSel_off rfl).trans rfl
      replace ha := Aside0.mk ha
      have HB := Aside0.mk Q_HB
      have BK1 := Aside0.mk Q_BK1
      refine value_ (w1 := w') (v := .pointer (some ⟨g1, 0, none⟩)) (by rfl) rfl ?_ ?_
      · go_simp
        (try simp only [i64_w])
        try rfl
      refine hK.out _ _ ⟨A12, c12, A22, m0_, m10_, (by rw [ha.out]; exact putSel_upk 1 hb_ rfl rfl rfl), Q_HB, Q_BK1, Q_K12, fun h0_ => absurd ((hoff 10 (by kernel_rfl)).symm.trans h0_) (by decide), Q_X0_, fun h0_ => absurd ((hoff 10 (by kernel_rfl)).symm.trans h0_) (by decide)⟩
    refine steps_cons ?_ ?_
    · rintro b a w' ⟨A12, c12, A22, m0_, m10_, ha, Q_HB, Q_BK1, Q_K12, Q_K22, Q_X0_, Q_X10_⟩ hb_ hon hoff
      refine ⟨_, rfl, fun K hK => ?_⟩
      have e13 : a.tmps[13]? = some (.pointer (some ⟨g1, 0, none⟩)) := by rw [ha]; exact putSel_on (e := (1, 13, .pointer (some ⟨g1, 0, none⟩))) 1 rfl rfl (hon 1 (by kernel_rfl)) rfl
      replace ha := Aside0.mk ha
      have HB := Aside0.mk Q_HB
      have BK1 := Aside0.mk Q_BK1
      have hc1_0 : w'.cell? ⟨g1, 0, none⟩ = some (.int .i64 0) := (blk_cell BK1.out 0).trans rfl
      refine value_ (w1 := w') (v := .int .i64 0) (by rfl) rfl ?_ ?_
      · go_simp
        (try simp only [i64_w])
        try rfl
      refine hK.out _ _ ⟨A12, c12, A22, m0_, m10_, (by rw [ha.out]; exact putSel_upk 2 hb_ rfl rfl rfl), Q_HB, Q_BK1, Q_K12, fun h0_ => absurd ((hoff 10 (by kernel_rfl)).symm.trans h0_) (by decide), Q_X0_, fun h0_ => absurd ((hoff 10 (by kernel_rfl)).symm.trans h0_) (by decide)⟩
    refine steps_cons ?_ ?_
    · rintro b a w' ⟨A12, c12, A22, m0_, m10_, ha, Q_HB, Q_BK1, Q_K12, Q_K22, Q_X0_, Q_X10_⟩ hb_ hon hoff
      refine ⟨_, rfl, fun K hK => ?_⟩
      have e14 : a.tmps[14]? = some (.int .i64 0) := by rw [ha]; exact putSel_on (e := (2, 14, .int .i64 0)) 2 rfl rfl (hon 2 (by kernel_rfl)) rfl
      replace ha := Aside0.mk ha
      have HB := Aside0.mk Q_HB
      have BK1 := Aside0.mk Q_BK1
      refine value_ (w1 := w') (v := .int .u64 0) (by rfl) rfl ?_ ?_
      · go_simp
        (try simp only [i64_w])
        try rfl
      refine hK.out _ _ ⟨A12, c12, A22, m0_, m10_, (by rw [ha.out]; exact putSel_upk 3 hb_ rfl rfl rfl), Q_HB, Q_BK1, Q_K12, fun h0_ => absurd ((hoff 10 (by kernel_rfl)).symm.trans h0_) (by decide), Q_X0_, fun h0_ => absurd ((hoff 10 (by kernel_rfl)).symm.trans h0_) (by decide)⟩
    refine steps_cons ?_ ?_
    · rintro b a w' ⟨A12, c12, A22, m0_, m10_, ha, Q_HB, Q_BK1, Q_K12, Q_K22, Q_X0_, Q_X10_⟩ hb_ hon hoff
      refine ⟨_, rfl, fun K hK => ?_⟩
      have e1 : a.tmps[1]? = some (.pointer (some ⟨g1, 0, none⟩)) := by rw [ha]; exact (putSel_off rfl).trans rfl
      replace ha := Aside0.mk ha
      have HB := Aside0.mk Q_HB
      have BK1 := Aside0.mk Q_BK1
      refine value_ (w1 := w') (v := .pointer (some ⟨g1, 1, none⟩)) (by rfl) rfl ?_ ?_
      · go_simp
        (try simp only [i64_w])
        try rfl
      refine hK.out _ _ ⟨A12, c12, A22, m0_, m10_, (by rw [ha.out]; exact putSel_upk 4 hb_ rfl rfl rfl), Q_HB, Q_BK1, Q_K12, fun h0_ => absurd ((hoff 10 (by kernel_rfl)).symm.trans h0_) (by decide), Q_X0_, fun h0_ => absurd ((hoff 10 (by kernel_rfl)).symm.trans h0_) (by decide)⟩
    refine steps_cons ?_ ?_
    · rintro b a w' ⟨A12, c12, A22, m0_, m10_, ha, Q_HB, Q_BK1, Q_K12, Q_K22, Q_X0_, Q_X10_⟩ hb_ hon hoff
      refine ⟨_, rfl, fun K hK => ?_⟩
      have e16 : a.tmps[16]? = some (.pointer (some ⟨g1, 1, none⟩)) := by rw [ha]; exact putSel_on (e := (4, 16, .pointer (some ⟨g1, 1, none⟩))) 4 rfl rfl (hon 4 (by kernel_rfl)) rfl
      replace ha := Aside0.mk ha
      have HB := Aside0.mk Q_HB
      have BK1 := Aside0.mk Q_BK1
      have hc1_1 : w'.cell? ⟨g1, 1, none⟩ = some (.int .i64 s) := (blk_cell BK1.out 1).trans rfl
      refine value_ (w1 := w') (v := .int .i64 s) (by rfl) rfl ?_ ?_
      · go_simp
        (try simp only [i64_w])
        try rfl
      refine hK.out _ _ ⟨A12, c12, A22, m0_, m10_, (by rw [ha.out]; exact putSel_upk 5 hb_ rfl rfl rfl), Q_HB, Q_BK1, Q_K12, fun h0_ => absurd ((hoff 10 (by kernel_rfl)).symm.trans h0_) (by decide), Q_X0_, fun h0_ => absurd ((hoff 10 (by kernel_rfl)).symm.trans h0_) (by decide)⟩
    refine steps_cons ?_ ?_
    · rintro b a w' ⟨A12, c12, A22, m0_, m10_, ha, Q_HB, Q_BK1, Q_K12, Q_K22, Q_X0_, Q_X10_⟩ hb_ hon hoff
      refine ⟨_, rfl, fun K hK => ?_⟩
      have e17 : a.tmps[17]? = some (.int .i64 s) := by rw [ha]; exact putSel_on (e := (5, 17, .int .i64 s)) 5 rfl rfl (hon 5 (by kernel_rfl)) rfl
      replace ha := Aside0.mk ha
      have HB := Aside0.mk Q_HB
      have BK1 := Aside0.mk Q_BK1
      refine value_ (w1 := w') (v := .int .u64 s) (by rfl) rfl ?_ ?_
      · go_simp
        (try simp only [i64_w])
        try rfl
      refine hK.out _ _ ⟨A12, c12, A22, m0_, m10_, (by rw [ha.out]; exact putSel_upk 6 hb_ rfl rfl rfl), Q_HB, Q_BK1, Q_K12, fun h0_ => absurd ((hoff 10 (by kernel_rfl)).symm.trans h0_) (by decide), Q_X0_, fun h0_ => absurd ((hoff 10 (by kernel_rfl)).symm.trans h0_) (by decide)⟩
    refine steps_cons ?_ ?_
    · rintro b a w' ⟨A12, c12, A22, m0_, m10_, ha, Q_HB, Q_BK1, Q_K12, Q_K22, Q_X0_, Q_X10_⟩ hb_ hon hoff
      refine ⟨_, rfl, fun K hK => ?_⟩
      have e1 : a.tmps[1]? = some (.pointer (some ⟨g1, 0, none⟩)) := by rw [ha]; exact (putSel_off rfl).trans rfl
      replace ha := Aside0.mk ha
      have HB := Aside0.mk Q_HB
      have BK1 := Aside0.mk Q_BK1
      refine value_ (w1 := w') (v := .pointer (some ⟨g1, 2, none⟩)) (by rfl) rfl ?_ ?_
      · go_simp
        (try simp only [i64_w])
        try rfl
      refine hK.out _ _ ⟨A12, c12, A22, m0_, m10_, (by rw [ha.out]; exact putSel_upk 7 hb_ rfl rfl rfl), Q_HB, Q_BK1, Q_K12, fun h0_ => absurd ((hoff 10 (by kernel_rfl)).symm.trans h0_) (by decide), Q_X0_, fun h0_ => absurd ((hoff 10 (by kernel_rfl)).symm.trans h0_) (by decide)⟩
    refine steps_cons ?_ ?_
    · rintro b a w' ⟨A12, c12, A22, m0_, m10_, ha, Q_HB, Q_BK1, Q_K12, Q_K22, Q_X0_, Q_X10_⟩ hb_ hon hoff
      refine ⟨_, rfl, fun K hK => ?_⟩
      have e19 : a.tmps[19]? = some (.pointer (some ⟨g1, 2, none⟩)) := by rw [ha]; exact putSel_on (e := (7, 19, .pointer (some ⟨g1, 2, none⟩))) 7 rfl rfl (hon 7 (by kernel_rfl)) rfl
      replace ha := Aside0.mk ha
      have HB := Aside0.mk Q_HB
      have BK1 := Aside0.mk Q_BK1
      have hc1_2 : w'.cell? ⟨g1, 2, none⟩ = some (.int .i64 q) := (blk_cell BK1.out 2).trans rfl
      refine value_ (w1 := w') (v := .int .i64 q) (by rfl) rfl ?_ ?_
      · go_simp
        (try simp only [i64_w])
        try rfl
      refine hK.out _ _ ⟨A12, c12, A22, m0_, m10_, (by rw [ha.out]; exact putSel_upk 8 hb_ rfl rfl rfl), Q_HB, Q_BK1, Q_K12, fun h0_ => absurd ((hoff 10 (by kernel_rfl)).symm.trans h0_) (by decide), Q_X0_, fun h0_ => absurd ((hoff 10 (by kernel_rfl)).symm.trans h0_) (by decide)⟩
    refine steps_cons ?_ ?_
    · rintro b a w' ⟨A12, c12, A22, m0_, m10_, ha, Q_HB, Q_BK1, Q_K12, Q_K22, Q_X0_, Q_X10_⟩ hb_ hon hoff
      refine ⟨_, rfl, fun K hK => ?_⟩
      have e20 : a.tmps[20]? = some (.int .i64 q) := by rw [ha]; exact putSel_on (e := (8, 20, .int .i64 q)) 8 rfl rfl (hon 8 (by kernel_rfl)) rfl
      replace ha := Aside0.mk ha
      have HB := Aside0.mk Q_HB
      have BK1 := Aside0.mk Q_BK1
      refine value_ (w1 := w') (v := .int .u64 q) (by rfl) rfl ?_ ?_
      · go_simp
        (try simp only [i64_w])
        try rfl
      refine hK.out _ _ ⟨A12, c12, A22, m0_, m10_, (by rw [ha.out]; exact putSel_upk 9 hb_ rfl rfl rfl), Q_HB, Q_BK1, Q_K12, fun h0_ => absurd ((hoff 10 (by kernel_rfl)).symm.trans h0_) (by decide), Q_X0_, fun h0_ => absurd ((hoff 10 (by kernel_rfl)).symm.trans h0_) (by decide)⟩
    refine steps_cons ?_ ?_
    · rintro b a w' ⟨A12, c12, A22, m0_, m10_, ha, Q_HB, Q_BK1, Q_K12, Q_K22, Q_X0_, Q_X10_⟩ hb_ hon hoff
      refine ⟨_, rfl, fun K hK => ?_⟩
      have e15 : a.tmps[15]? = some (.int .u64 0) := by rw [ha]; exact putSel_on (e := (3, 15, .int .u64 0)) 3 rfl rfl (hon 3 (by kernel_rfl)) rfl
      have e18 : a.tmps[18]? = some (.int .u64 s) := by rw [ha]; exact putSel_on (e := (6, 18, .int .u64 s)) 6 rfl rfl (hon 6 (by kernel_rfl)) rfl
      have e21 : a.tmps[21]? = some (.int .u64 q) := by rw [ha]; exact putSel_on (e := (9, 21, .int .u64 q)) 9 rfl rfl (hon 9 (by kernel_rfl)) rfl
      replace ha := Aside0.mk ha
      have HB := Aside0.mk Q_HB
      have BK1 := Aside0.mk Q_BK1
      refine value_ (w1 := ?_) (v := ?_) (by rfl) rfl ?_ ?_
      rotate_left 2
      · go_simp
        constructor
        · rfl
        · rfl
      have hb := below_alloc (Below.refl w'.heap.size w') (.cells #[.int .u64 0, .int .u64 s, .int .u64 q] 33)
      refine hK.out _ _ ⟨A12, c12, (some ⟨w'.heap.size, 0, none⟩), m0_, (.slice (some ⟨w'.heap.size, 0, none⟩) 3 3), (by rw [ha.out]; exact putSel_upk 10 hb_ rfl rfl rfl), (below_step HB.out hb), (blk_below BK1.out hb), fun h0_ => (Kd.C_below (Q_K12 h0_) hb), fun _ => (C_cells _ _ [0, s, q] (by simp) (fun j hj => by rcases j with _ | _ | _ | j <;> first | (simp [go_sem]; done) | (simp at hj; omega))), Q_X0_, fun _ => rfl⟩
    refine steps_cons ?_ ?_
    · rintro b a w' ⟨A12, c12, A22, m0_, m10_, ha, Q_HB, Q_BK1, Q_K12, Q_K22, Q_X0_, Q_X10_⟩ hb_ hon hoff
      refine ⟨_, rfl, fun K hK => ?_⟩
      have e12 : a.tmps[12]? = some (m0_) := by rw [ha]; exact putSel_on (e := (0, 12, m0_)) 0 rfl rfl (hon 0 (by kernel_rfl)) rfl
      rw [Q_X0_ (hon 0 (by kernel_rfl))] at e12
      have e22 : a.tmps[22]? = some (m10_) := by rw [ha]; exact putSel_on (e := (10, 22, m10_)) 10 rfl rfl (hon 10 (by kernel_rfl)) rfl
      rw [Q_X10_ (hon 10 (by kernel_rfl))] at e22
      replace ha := Aside0.mk ha
      have HB := Aside0.mk Q_HB
      have BK1 := Aside0.mk Q_BK1
      have K12 := Aside0.mk (Q_K12 (hon 0 (by kernel_rfl)))
      have K22 := Aside0.mk (Q_K22 (hon 10 (by kernel_rfl)))
      refine goes_ Try.func20 (by kernel_rfl) rfl #[.slice A12 3 c12, .slice A22 3 3] (by rfl) rfl rfl (by first | (simp only [List.map_toArray, List.map_cons, List.map_nil, Act.eval, Array.getD_eq_getD_getElem?, Option.getD_some, e12, e22]; done) | (simp only [List.map_toArray, List.map_cons, List.map_nil, Act.eval, Array.getD_eq_getD_getElem?, Option.getD_some, e12, e22]; rfl)) ?_
      with_reducible refine (joinW_calls 0 s q HM.out A12 A22 c12 3 _ K12.out K22.out).mono ?_
      rintro e w3 ⟨rfl, hb⟩
      refine ⟨_, rfl, ?_⟩
      refine hK.out _ _ ⟨A12, c12, A22, m0_, m10_, (by rw [ha.out]; exact putSel_upk 11 hb_ rfl rfl rfl), (below_step HB.out hb), (blk_below BK1.out hb), fun _ => (Kd.C_below K12.out hb), fun _ => (Kd.C_below K22.out hb), Q_X0_, Q_X10_⟩
    refine steps_cons ?_ ?_
    · rintro b a w' ⟨A12, c12, A22, m0_, m10_, ha, Q_HB, Q_BK1, Q_K12, Q_K22, Q_X0_, Q_X10_⟩ hb_ hon hoff
      refine ⟨_, rfl, fun K hK => ?_⟩
      have e23 : a.tmps[23]? = some (.tuple #[.int .u64 (wordV 0 s q), .bool true]) := by rw [ha]; exact putSel_on (e := (11, 23, .tuple #[.int .u64 (wordV 0 s q), .bool true])) 11 rfl rfl (hon 11 (by kernel_rfl)) rfl
      replace ha := Aside0.mk ha
      have HB := Aside0.mk Q_HB
      have BK1 := Aside0.mk Q_BK1
      have K12 := Aside0.mk (Q_K12 (hon 0 (by kernel_rfl)))
      have K22 := Aside0.mk (Q_K22 (hon 10 (by kernel_rfl)))
      refine value_ (w1 := w') (v := .int .u64 (wordV 0 s q)) (by rfl) rfl ?_ ?_
      · go_simp
        (try simp only [i64_w])
        try rfl
      refine hK.out _ _ ⟨A12, c12, A22, m0_, m10_, (by rw [ha.out]; exact putSel_upk 12 hb_ rfl rfl rfl), Q_HB, Q_BK1, Q_K12, Q_K22, Q_X0_, Q_X10_⟩
    refine steps_cons ?_ ?_
    · rintro b a w' ⟨A12, c12, A22, m0_, m10_, ha, Q_HB, Q_BK1, Q_K12, Q_K22, Q_X0_, Q_X10_⟩ hb_ hon hoff
      refine ⟨_, rfl, fun K hK => ?_⟩
      have e23 : a.tmps[23]? = some (.tuple #[.int .u64 (wordV 0 s q), .bool true]) := by rw [ha]; exact putSel_on (e := (11, 23, .tuple #[.int .u64 (wordV 0 s q), .bool true])) 11 rfl rfl (hon 11 (by kernel_rfl)) rfl
      replace ha := Aside0.mk ha
      have HB := Aside0.mk Q_HB
      have BK1 := Aside0.mk Q_BK1
      have K12 := Aside0.mk (Q_K12 (hon 0 (by kernel_rfl)))
      have K22 := Aside0.mk (Q_K22 (hon 10 (by kernel_rfl)))
      refine value_ (w1 := w') (v := .bool true) (by rfl) rfl ?_ ?_
      · go_simp
        (try simp only [i64_w])
        try rfl
      refine hK.out _ _ ⟨A12, c12, A22, m0_, m10_, (by rw [ha.out]; exact putSel_upk 13 hb_ rfl rfl rfl), Q_HB, Q_BK1, Q_K12, Q_K22, Q_X0_, Q_X10_⟩
    refine steps_cons ?_ ?_
    · rintro b a w' ⟨A12, c12, A22, m0_, m10_, ha, Q_HB, Q_BK1, Q_K12, Q_K22, Q_X0_, Q_X10_⟩ hb_ hon hoff
      refine ⟨_, rfl, fun K hK => ?_⟩
      have e24 : a.tmps[24]? = some (.int .u64 (wordV 0 s q)) := by rw [ha]; exact putSel_on (e := (12, 24, .int .u64 (wordV 0 s q))) 12 rfl rfl (hon 12 (by kernel_rfl)) rfl
      replace ha := Aside0.mk ha
      have HB := Aside0.mk Q_HB
      have BK1 := Aside0.mk Q_BK1
      have K12 := Aside0.mk (Q_K12 (hon 0 (by kernel_rfl)))
      have K22 := Aside0.mk (Q_K22 (hon 10 (by kernel_rfl)))
      refine value_ (w1 := w') (v := .int .u64 (wordV 0 s q)) (by rfl) rfl ?_ ?_
      · go_simp
        (try simp only [i64_w])
        try rfl
      refine hK.out _ _ ⟨A12, c12, A22, m0_, m10_, (by rw [ha.out]; exact putSel_upk 14 hb_ rfl rfl rfl), Q_HB, Q_BK1, Q_K12, Q_K22, Q_X0_, Q_X10_⟩
    refine steps_cons ?_ ?_
    · rintro b a w' ⟨A12, c12, A22, m0_, m10_, ha, Q_HB, Q_BK1, Q_K12, Q_K22, Q_X0_, Q_X10_⟩ hb_ hon hoff
      refine ⟨_, rfl, fun K hK => ?_⟩
      have e25 : a.tmps[25]? = some (.bool true) := by rw [ha]; exact putSel_on (e := (13, 25, .bool true)) 13 rfl rfl (hon 13 (by kernel_rfl)) rfl
      replace ha := Aside0.mk ha
      have HB := Aside0.mk Q_HB
      have BK1 := Aside0.mk Q_BK1
      have K12 := Aside0.mk (Q_K12 (hon 0 (by kernel_rfl)))
      have K22 := Aside0.mk (Q_K22 (hon 10 (by kernel_rfl)))
      refine value_ (w1 := w') (v := .bool true) (by rfl) rfl ?_ ?_
      · go_simp
        (try simp only [i64_w])
        try rfl
      refine hK.out _ _ ⟨A12, c12, A22, m0_, m10_, (by rw [ha.out]; exact putSel_upk 15 hb_ rfl rfl rfl), Q_HB, Q_BK1, Q_K12, Q_K22, Q_X0_, Q_X10_⟩
    exact steps_nil
  rintro b a wz hall ⟨A12, c12, A22, m0_, m10_, ha, Q_HB, Q_BK1, Q_K12, Q_K22, Q_X0_, Q_X10_⟩
  clear BK1 HB
  have hb0_ := hall 0 (by kernel_rfl)
  have hb1_ := hall 1 (by kernel_rfl)
  have hb2_ := hall 2 (by kernel_rfl)
  have hb3_ := hall 3 (by kernel_rfl)
  have hb4_ := hall 4 (by kernel_rfl)
  have hb5_ := hall 5 (by kernel_rfl)
  have hb6_ := hall 6 (by kernel_rfl)
  have hb7_ := hall 7 (by kernel_rfl)
  have hb8_ := hall 8 (by kernel_rfl)
  have hb9_ := hall 9 (by kernel_rfl)
  have hb10_ := hall 10 (by kernel_rfl)
  have hb11_ := hall 11 (by kernel_rfl)
  have hb12_ := hall 12 (by kernel_rfl)
  have hb13_ := hall 13 (by kernel_rfl)
  have hb14_ := hall 14 (by kernel_rfl)
  have hb15_ := hall 15 (by kernel_rfl)
  subst ha
  obtain rfl := Q_X0_ hb0_
  obtain rfl := Q_X10_ hb10_
  simp only [putSel, hb0_, hb1_, hb2_, hb3_, hb4_, hb5_, hb6_, hb7_, hb8_, hb9_, hb10_, hb11_, hb12_, hb13_, hb14_, hb15_, if_true, Act.put, List.setIfInBounds_toArray, List.set_cons_zero, List.set_cons_succ]
  have HB := Aside0.mk Q_HB
  clear Q_HB
  have BK1 := Aside0.mk Q_BK1
  clear Q_BK1
  have K12 := Aside0.mk (Q_K12 hb0_)
  clear Q_K12
  have K22 := Aside0.mk (Q_K22 hb10_)
  clear Q_K22
  clear hall hb0_ hb1_ hb2_ hb3_ hb4_ hb5_ hb6_ hb7_ hb8_ hb9_ hb10_ hb11_ hb12_ hb13_ hb14_ hb15_
  go_wp2
  go_ret2
  exact ⟨rfl, HB.out⟩

set_option maxHeartbeats 8000000 in
set_option maxRecDepth 100000 in
theorem word_no_c (q : Int) (w : World) (h3 : ¬ q = 0) (hm : mayO 0 0 q = false) : Calls Try.prog 14 #[obj 0 0 q] w fun e w' => e = .returned (.tuple #[.int .u64 0, .bool false]) ∧ Below w.heap.size w w' := by
  have hu23 := Try.underlying23
  have HB := Aside0.mk (Below.refl w.heap.size w)
  go_enter Try.func14, Try.ntmps14
  go_wp2_with (first | ((with_reducible refine gate_dst (N := 1) rfl ?_); refine box_event ?hg (N := 1) ?hd (cs := #[.int .i64 0, .int .i64 0, .int .i64 q]) (t := 23) ?hr ?_; (case hd => rfl); (case hg => rfl); (case hr => first | (go_simp; done) | (go_simp; rfl)); intro g1 hg w1_ hbox hb; have n0_ := Aside0.mk (below_step (by repeat (first | (with_reducible first | exact HB.out | apply below_alloc | apply pw_below_drewN | apply below_drew1) | exact HB.out)) hb); have n1_ := Aside0.mk hbox; have n2_ := Aside0.mk ((by rw [hg]; exact (below_size (by repeat (first | (with_reducible first | exact HB.out | apply below_alloc | apply pw_below_drewN | apply below_drew1) | exact HB.out)))) : w.heap.size ≤ g1); clear HB; have HB := n0_; have BK1 := n1_; have GE1 := n2_; clear n0_ n1_ n2_; clear hb hbox hg; have hc1_0 : w1_.cell? ⟨g1, 0, none⟩ = some (.int .i64 0) := (blk_cell BK1.out 0).trans rfl; have hf1_0 := blk_frozen BK1.out 0; have hc1_1 : w1_.cell? ⟨g1, 1, none⟩ = some (.int .i64 0) := (blk_cell BK1.out 1).trans rfl; have hf1_1 := blk_frozen BK1.out 1; have hc1_2 : w1_.cell? ⟨g1, 2, none⟩ = some (.int .i64 q) := (blk_cell BK1.out 2).trans rfl; have hf1_2 := blk_frozen BK1.out 2) | ((with_reducible refine gate_callee (f := 19) rfl ?_); refine goesL_ (some 10) rfl rfl Try.func19 (by kernel_rfl) rfl #[obj 0 0 q] rfl (by (try simp only [List.map_toArray, List.map_cons, List.map_nil]); first | done | rfl | (simp only [List.length_drop, List.length_take]; rfl)) ?_; (with_reducible refine (may_calls 0 0 q _).mono ?_); rintro e w2_ ⟨rfl, hb⟩; refine ⟨_, rfl, ?_⟩; have n0_ := Aside0.mk (below_step (by repeat (first | (with_reducible first | exact HB.out | apply below_alloc | apply pw_below_drewN | apply below_drew1 | refine below_set ?_ GE1.out) | exact HB.out)) hb); have n1_ := Aside0.mk (blk_below (g := g1) (o := .cells #[.int .i64 0, .int .i64 0, .int .i64 q] 23 (0, 0)) (by (with_reducible repeat (first | refine blk_drewN ?_ _ | refine blk_drew ?_ | refine blk_alloc ?_ _)); exact BK1.out) hb); clear HB; clear BK1; have HB := n0_; have BK1 := n1_; clear n0_ n1_; clear hb; rw [hm]))
  go_ret2
  exact ⟨rfl, HB.out⟩

set_option maxHeartbeats 8000000 in
set_option maxRecDepth 100000 in
theorem word_yes_c (q : Int) (w : World) (h3 : ¬ q = 0) (hm : mayO 0 0 q = true) (wr : IntKind.u64.wrap 0 = 0) (ws : IntKind.u64.wrap 0 = 0) (wq : IntKind.u64.wrap q = q) : Calls Try.prog 14 #[obj 0 0 q] w fun e w' => e = .returned (.tuple #[.int .u64 (wordV 0 0 q), .bool true]) ∧ Below w.heap.size w w' := by
  have hu23 := Try.underlying23
  have HB := Aside0.mk (Below.refl w.heap.size w)
  go_enter Try.func14, Try.ntmps14
  have HM := Aside0.mk hm
  go_upto_region 5 with (first | ((with_reducible refine gate_dst (N := 1) rfl ?_); refine box_event ?hg (N := 1) ?hd (cs := #[.int .i64 0, .int .i64 0, .int .i64 q]) (t := 23) ?hr ?_; (case hd => rfl); (case hg => rfl); (case hr => first | (go_simp; done) | (go_simp; rfl)); intro g1 hg w1_ hbox hb; have n0_ := Aside0.mk (below_step (by repeat (first | (with_reducible first | exact HB.out | apply below_alloc | apply pw_below_drewN | apply below_drew1) | exact HB.out)) hb); have n1_ := Aside0.mk hbox; have n2_ := Aside0.mk ((by rw [hg]; exact (below_size (by repeat (first | (with_reducible first | exact HB.out | apply below_alloc | apply pw_below_drewN | apply below_drew1) | exact HB.out)))) : w.heap.size ≤ g1); clear HB; have HB := n0_; have BK1 := n1_; have GE1 := n2_; clear n0_ n1_ n2_; clear hb hbox hg; have hc1_0 : w1_.cell? ⟨g1, 0, none⟩ = some (.int .i64 0) := (blk_cell BK1.out 0).trans rfl; have hf1_0 := blk_frozen BK1.out 0; have hc1_1 : w1_.cell? ⟨g1, 1, none⟩ = some (.int .i64 0) := (blk_cell BK1.out 1).trans rfl; have hf1_1 := blk_frozen BK1.out 1; have hc1_2 : w1_.cell? ⟨g1, 2, none⟩ = some (.int .i64 q) := (blk_cell BK1.out 2).trans rfl; have hf1_2 := blk_frozen BK1.out 2) | ((with_reducible refine gate_callee (f := 19) rfl ?_); refine goesL_ (some 10) rfl rfl Try.func19 (by kernel_rfl) rfl #[obj 0 0 q] rfl (by (try simp only [List.map_toArray, List.map_cons, List.map_nil]); first | done | rfl | (simp only [List.length_drop, List.length_take]; rfl)) ?_; (with_reducible refine (may_calls 0 0 q _).mono ?_); rintro e w2_ ⟨rfl, hb⟩; refine ⟨_, rfl, ?_⟩; have n0_ := Aside0.mk (below_step (by repeat (first | (with_reducible first | exact HB.out | apply below_alloc | apply pw_below_drewN | apply below_drew1 | refine below_set ?_ GE1.out) | exact HB.out)) hb); have n1_ := Aside0.mk (blk_below (g := g1) (o := .cells #[.int .i64 0, .int .i64 0, .int .i64 q] 23 (0, 0)) (by (with_reducible repeat (first | refine blk_drewN ?_ _ | refine blk_drew ?_ | refine blk_alloc ?_ _)); exact BK1.out) hb); clear HB; clear BK1; have HB := n0_; have BK1 := n1_; clear n0_ n1_; clear hb; rw [hm]))
  refine start_ (n := 16) (S := fun w' => True) (ds := []) #[false, false, false, false, false, false, false, false, false, false, false, false, false, false, false, false] (by kernel_rfl) rfl rfl trivial (fun hHeld => ?_)
  refine with_tabW bw.tab5 bw.bits5 (fun HT_ HW_ => ?_)
  refine inv_at [0, 1, 2, 3, 4, 5, 6, 7, 8, 9, 10, 11, 12, 13, 14, 15] (fun a0_ b a w' => ∃ (A12 : Option Addr) (c12 : Nat) (A22 : Option Addr) (m0_ : Value) (m10_ : Value), a = putSel a0_ b [(0, 12, m0_), (1, 13, .pointer (some ⟨g1, 0, none⟩)), (2, 14, .int .i64 0), (3, 15, .int .u64 0), (4, 16, .pointer (some ⟨g1, 1, none⟩)), (5, 17, .int .i64 0), (6, 18, .int .u64 0), (7, 19, .pointer (some ⟨g1, 2, none⟩)), (8, 20, .int .i64 q), (9, 21, .int .u64 q), (10, 22, m10_), (11, 23, .tuple #[.int .u64 (wordV 0 0 q), .bool true]), (12, 24, .int .u64 (wordV 0 0 q)), (13, 25, .bool true), (14, 2, .int .u64 (wordV 0 0 q)), (15, 3, .bool true)] ∧ (Below w.heap.size w w') ∧ (w'.heap[g1]? = some (.cells #[.int .i64 0, .int .i64 0, .int .i64 q] 23 (0, 0))) ∧ (b 0 = true → Kd.C (Kd.int .i64) w' A12 3 [16, 8, 8]) ∧ (b 10 = true → Kd.C (Kd.int .u64) w' A22 3 [0, 0, q]) ∧ (b 0 = true → (m0_ : Value) = .slice A12 3 c12) ∧ (b 10 = true → (m10_ : Value) = .slice A22 3 3)) HT_.out HW_.out (by kernel_rfl) (by kernel_rfl) ?_ ?_ ?_
  · exact ⟨none, 0, none, .bool false, .bool false, by simp only [putSel, Bool.false_eq_true, if_false], below_drew1 HB.out, BK1.out, fun h_ => absurd h_ (by decide), fun h_ => absurd h_ (by decide), fun h_ => absurd h_ (by decide), fun h_ => absurd h_ (by decide)⟩
  · skip
    clear BK1 HB
    refine steps_cons ?_ ?_
    · rintro b a w' ⟨A12, c12, A22, m0_, m10_, ha, Q_HB, Q_BK1, Q_K12, Q_K22, Q_X0_, Q_X10_⟩ hb_ hon hoff
      refine ⟨_, rfl, fun K hK => ?_⟩
      replace ha := Aside0.mk ha
      have HB := Aside0.mk Q_HB
      have BK1 := Aside0.mk Q_BK1
      refine goes_ Try.func21 (by kernel_rfl) rfl #[] (by rfl) rfl rfl (by first | (simp only [List.map_toArray, List.map_cons, List.map_nil, Act.eval, Array.getD_eq_getD_getElem?, Option.getD_some]; done) | (simp only [List.map_toArray, List.map_cons, List.map_nil, Act.eval, Array.getD_eq_getD_getElem?, Option.getD_some]; rfl)) ?_
      with_reducible refine (widths_calls _).mono ?_
      rintro e w3 ⟨A3, c3, rfl, hK12, hb⟩
      refine ⟨_, rfl, ?_⟩
      refine hK.out _ _ ⟨A3, c3, A22, (.slice A3 3 c3), m10_, (by rw [ha.out]; exact putSel_upk 0 hb_ rfl rfl rfl), (below_step HB.out hb), (blk_below BK1.out hb), fun _ => hK12, fun h0_ => (Kd.C_below (Q_K22 h0_) hb), fun _ => rfl, Q_X10_⟩
    refine steps_cons ?_ ?_
    · rintro b a w' ⟨A12, c12, A22, m0_, m10_, ha, Q_HB, Q_BK1, Q_K12, Q_K22, Q_X0_, Q_X10_⟩ hb_ hon hoff
      refine ⟨_, rfl, fun K hK => ?_⟩
      have e1 : a.tmps[1]? = some (.pointer (some ⟨g1, 0, none⟩)) := by rw [ha]; exact (putSel_off rfl).trans rfl
      replace ha := Aside0.mk ha
      have HB := Aside0.mk Q_HB
      have BK1 := Aside0.mk Q_BK1
      refine value_ (w1 := w') (v := .pointer (some ⟨g1, 0, none⟩)) (by rfl) rfl ?_ ?_
      · go_simp
        (try simp only [i64_w])
        try rfl
      refine hK.out _ _ ⟨A12, c12, A22, m0_, m10_, (by rw [ha.out]; exact putSel_upk 1 hb_ rfl rfl rfl), Q_HB, Q_BK1, Q_K12, fun h0_ => absurd ((hoff 10 (by kernel_rfl)).symm.trans h0_) (by decide), Q_X0_, fun h0_ => absurd ((hoff 10 (by kernel_rfl)).symm.trans h0_) (by decide)⟩
    refine steps_cons ?_ ?_
    · rintro b a w' ⟨A12, c12, A22, m0_, m10_, ha, Q_HB, Q_BK1, Q_K12, Q_K22, Q_X0_, Q_X10_⟩ hb_ hon hoff
      refine ⟨_, rfl, fun K hK => ?_⟩
      have e13 : a.tmps[13]? = some (.pointer (some ⟨g1, 0, none⟩)) := by rw [ha]; exact putSel_on (e := (1, 13, .pointer (some ⟨g1, 0, none⟩))) 1 rfl rfl (hon 1 (by kernel_rfl)) rfl
      replace ha := Aside0.mk ha
      have HB := Aside0.mk Q_HB
      have BK1 := Aside0.mk Q_BK1
      have hc1_0 : w'.cell? ⟨g1, 0, none⟩ = some (.int .i64 0) := (blk_cell BK1.out 0).trans rfl
      refine value_ (w1 := w') (v := .int .i64 0) (by rfl) rfl ?_ ?_
      · go_simp
        (try simp only [i64_w])
        try rfl
      refine hK.out _ _ ⟨A12, c12, A22, m0_, m10_, (by rw [ha.out]; exact putSel_upk 2 hb_ rfl rfl rfl), Q_HB, Q_BK1, Q_K12, fun h0_ => absurd ((hoff 10 (by kernel_rfl)).symm.trans h0_) (by decide), Q_X0_, fun h0_ => absurd ((hoff 10 (by kernel_rfl)).symm.trans h0_) (by decide)⟩
    refine steps_cons ?_ ?_
    · rintro b a w' ⟨A12, c12, A22, m0_, m10_, ha, Q_HB, Q_BK1, Q_K12, Q_K22, Q_X0_, Q_X10_⟩ hb_ hon hoff
      refine ⟨_, rfl, fun K hK => ?_⟩
      have e14 : a.tmps[14]? = some (.int .i64 0) := by rw [ha]; exact putSel_on (e := (2, 14, .int .i64 0)) 2 rfl rfl (hon 2 (by kernel_rfl)) rfl
      replace ha := Aside0.mk ha
      have HB := Aside0.mk Q_HB
      have BK1 := Aside0.mk Q_BK1
      refine value_ (w1 := w') (v := .int .u64 0) (by rfl) rfl ?_ ?_
      · go_simp
        (try simp only [i64_w])
        try rfl
      refine hK.out _ _ ⟨A12, c12, A22, m0_, m10_, (by rw [ha.out]; exact putSel_upk 3 hb_ rfl rfl rfl), Q_HB, Q_BK1, Q_K12, fun h0_ => absurd ((hoff 10 (by kernel_rfl)).symm.trans h0_) (by decide), Q_X0_, fun h0_ => absurd ((hoff 10 (by kernel_rfl)).symm.trans h0_) (by decide)⟩
    refine steps_cons ?_ ?_
    · rintro b a w' ⟨A12, c12, A22, m0_, m10_, ha, Q_HB, Q_BK1, Q_K12, Q_K22, Q_X0_, Q_X10_⟩ hb_ hon hoff
      refine ⟨_, rfl, fun K hK => ?_⟩
      have e1 : a.tmps[1]? = some (.pointer (some ⟨g1, 0, none⟩)) := by rw [ha]; exact (putSel_off rfl).trans rfl
      replace ha := Aside0.mk ha
      have HB := Aside0.mk Q_HB
      have BK1 := Aside0.mk Q_BK1
      refine value_ (w1 := w') (v := .pointer (some ⟨g1, 1, none⟩)) (by rfl) rfl ?_ ?_
      · go_simp
        (try simp only [i64_w])
        try rfl
      refine hK.out _ _ ⟨A12, c12, A22, m0_, m10_, (by rw [ha.out]; exact putSel_upk 4 hb_ rfl rfl rfl), Q_HB, Q_BK1, Q_K12, fun h0_ => absurd ((hoff 10 (by kernel_rfl)).symm.trans h0_) (by decide), Q_X0_, fun h0_ => absurd ((hoff 10 (by kernel_rfl)).symm.trans h0_) (by decide)⟩
    refine steps_cons ?_ ?_
    · rintro b a w' ⟨A12, c12, A22, m0_, m10_, ha, Q_HB, Q_BK1, Q_K12, Q_K22, Q_X0_, Q_X10_⟩ hb_ hon hoff
      refine ⟨_, rfl, fun K hK => ?_⟩
      have e16 : a.tmps[16]? = some (.pointer (some ⟨g1, 1, none⟩)) := by rw [ha]; exact putSel_on (e := (4, 16, .pointer (some ⟨g1, 1, none⟩))) 4 rfl rfl (hon 4 (by kernel_rfl)) rfl
      replace ha := Aside0.mk ha
      have HB := Aside0.mk Q_HB
      have BK1 := Aside0.mk Q_BK1
      have hc1_1 : w'.cell? ⟨g1, 1, none⟩ = some (.int .i64 0) := (blk_cell BK1.out 1).trans rfl
      refine value_ (w1 := w') (v := .int .i64 0) (by rfl) rfl ?_ ?_
      · go_simp
        (try simp only [i64_w])
        try rfl
      refine hK.out _ _ ⟨A12, c12, A22, m0_, m10_, (by rw [ha.out]; exact putSel_upk 5 hb_ rfl rfl rfl), Q_HB, Q_BK1, Q_K12, fun h0_ => absurd ((hoff 10 (by kernel_rfl)).symm.trans h0_) (by decide), Q_X0_, fun h0_ => absurd ((hoff 10 (by kernel_rfl)).symm.trans h0_) (by decide)⟩
    refine steps_cons ?_ ?_
    · rintro b a w' ⟨A12, c12, A22, m0_, m10_, ha, Q_HB, Q_BK1, Q_K12, Q_K22, Q_X0_, Q_X10_⟩ hb_ hon hoff
      refine ⟨_, rfl, fun K hK => ?_⟩
      have e17 : a.tmps[17]? = some (.int .i64 0) := by rw [ha]; exact putSel_on (e := (5, 17, .int .i64 0)) 5 rfl rfl (hon 5 (by kernel_rfl)) rfl
      replace ha := Aside0.mk ha
      have HB := Aside0.mk Q_HB
      have BK1 := Aside0.mk Q_BK1
      refine value_ (w1 := w') (v := .int .u64 0) (by rfl) rfl ?_ ?_
      · go_simp
        (try simp only [i64_w])
        try rfl
      refine hK.out _ _ ⟨A12, c12, A22, m0_, m10_, (by rw [ha.out]; exact putSel_upk 6 hb_ rfl rfl rfl), Q_HB, Q_BK1, Q_K12, fun h0_ => absurd ((hoff 10 (by kernel_rfl)).symm.trans h0_) (by decide), Q_X0_, fun h0_ => absurd ((hoff 10 (by kernel_rfl)).symm.trans h0_) (by decide)⟩
    refine steps_cons ?_ ?_
    · rintro b a w' ⟨A12, c12, A22, m0_, m10_, ha, Q_HB, Q_BK1, Q_K12, Q_K22, Q_X0_, Q_X10_⟩ hb_ hon hoff
      refine ⟨_, rfl, fun K hK => ?_⟩
      have e1 : a.tmps[1]? = some (.pointer (some ⟨g1, 0, none⟩)) := by rw [ha]; exact (putSel_off rfl).trans rfl
      replace ha := Aside0.mk ha
      have HB := Aside0.mk Q_HB
      have BK1 := Aside0.mk Q_BK1
      refine value_ (w1 := w') (v := .pointer (some ⟨g1, 2, none⟩)) (by rfl) rfl ?_ ?_
      · go_simp
        (try simp only [i64_w])
        try rfl
      refine hK.out _ _ ⟨A12, c12, A22, m0_, m10_, (by rw [ha.out]; exact putSel_upk 7 hb_ rfl rfl rfl), Q_HB, Q_BK1, Q_K12, fun h0_ => absurd ((hoff 10 (by kernel_rfl)).symm.trans h0_) (by decide), Q_X0_, fun h0_ => absurd ((hoff 10 (by kernel_rfl)).symm.trans h0_) (by decide)⟩
    refine steps_cons ?_ ?_
    · rintro b a w' ⟨A12, c12, A22, m0_, m10_, ha, Q_HB, Q_BK1, Q_K12, Q_K22, Q_X0_, Q_X10_⟩ hb_ hon hoff
      refine ⟨_, rfl, fun K hK => ?_⟩
      have e19 : a.tmps[19]? = some (.pointer (some ⟨g1, 2, none⟩)) := by rw [ha]; exact putSel_on (e := (7, 19, .pointer (some ⟨g1, 2, none⟩))) 7 rfl rfl (hon 7 (by kernel_rfl)) rfl
      replace ha := Aside0.mk ha
      have HB := Aside0.mk Q_HB
      have BK1 := Aside0.mk Q_BK1
      have hc1_2 : w'.cell? ⟨g1, 2, none⟩ = some (.int .i64 q) := (blk_cell BK1.out 2).trans rfl
      refine value_ (w1 := w') (v := .int .i64 q) (by rfl) rfl ?_ ?_
      · go_simp
        (try simp only [i64_w])
        try rfl
      refine hK.out _ _ ⟨A12, c12, A22, m0_, m10_, (by rw [ha.out]; exact putSel_upk 8 hb_ rfl rfl rfl), Q_HB, Q_BK1, Q_K12, fun h0_ => absurd ((hoff 10 (by kernel_rfl)).symm.trans h0_) (by decide), Q_X0_, fun h0_ => absurd ((hoff 10 (by kernel_rfl)).symm.trans h0_) (by decide)⟩
    refine steps_cons ?_ ?_
    · rintro b a w' ⟨A12, c12, A22, m0_, m10_, ha, Q_HB, Q_BK1, Q_K12, Q_K22, Q_X0_, Q_X10_⟩ hb_ hon hoff
      refine ⟨_, rfl, fun K hK => ?_⟩
      have e20 : a.tmps[20]? = some (.int .i64 q) := by rw [ha]; exact putSel_on (e := (8, 20, .int .i64 q)) 8 rfl rfl (hon 8 (by kernel_rfl)) rfl
      replace ha := Aside0.mk ha
      have HB := Aside0.mk Q_HB
      have BK1 := Aside0.mk Q_BK1
      refine value_ (w1 := w') (v := .int .u64 q) (by rfl) rfl ?_ ?_
      · go_simp
        (try simp only [i64_w])
        try rfl
      refine hK.out _ _ ⟨A12, c12, A22, m0_, m10_, (by rw [ha.out]; exact putSel_upk 9 hb_ rfl rfl rfl), Q_HB, Q_BK1, Q_K12, fun h0_ => absurd ((hoff 10 (by kernel_rfl)).symm.trans h0_) (by decide), Q_X0_, fun h0_ => absurd ((hoff 10 (by kernel_rfl)).symm.trans h0_) (by decide)⟩
    refine steps_cons ?_ ?_
    · rintro b a w' ⟨A12, c12, A22, m0_, m10_, ha, Q_HB, Q_BK1, Q_K12, Q_K22, Q_X0_, Q_X10_⟩ hb_ hon hoff
      refine ⟨_, rfl, fun K hK => ?_⟩
      have e15 : a.tmps[15]? = some (.int .u64 0) := by rw [ha]; exact putSel_on (e := (3, 15, .int .u64 0)) 3 rfl rfl (hon 3 (by kernel_rfl)) rfl
      have e18 : a.tmps[18]? = some (.int .u64 0) := by rw [ha]; exact putSel_on (e := (6, 18, .int .u64 0)) 6 rfl rfl (hon 6 (by kernel_rfl)) rfl
      have e21 : a.tmps[21]? = some (.int .u64 q) := by rw [ha]; exact putSel_on (e := (9, 21, .int .u64 q)) 9 rfl rfl (hon 9 (by kernel_rfl)) rfl
      replace ha := Aside0.mk ha
      have HB := Aside0.mk Q_HB
      have BK1 := Aside0.mk Q_BK1
      refine value_ (w1 := ?_) (v := ?_) (by rfl) rfl ?_ ?_
      rotate_left 2
      · go_simp
        constructor
        · rfl
        · rfl
      have hb := below_alloc (Below.refl w'.heap.size w') (.cells #[.int .u64 0, .int .u64 0, .int .u64 q] 33)
      refine hK.out _ _ ⟨A12, c12, (some ⟨w'.heap.size, 0, none⟩), m0_, (.slice (some ⟨w'.heap.size, 0, none⟩) 3 3), (by rw [ha.out]; exact putSel_upk 10 hb_ rfl rfl rfl), (below_step HB.out hb), (blk_below BK1.out hb), fun h0_ => (Kd.C_below (Q_K12 h0_) hb), fun _ => (C_cells _ _ [0, 0, q] (by simp) (fun j hj => by rcases j with _ | _ | _ | j <;> first | (simp [go_sem]; done) | (simp at hj; omega))), Q_X0_, fun _ => rfl⟩
    refine steps_cons ?_ ?_
    · rintro b a w' ⟨A12, c12, A22, m0_, m10_, ha, Q_HB, Q_BK1, Q_K12, Q_K22, Q_X0_, Q_X10_⟩ hb_ hon hoff
      refine ⟨_, rfl, fun K hK => ?_⟩
      have e12 : a.tmps[12]? = some (m0_) := by rw [ha]; exact putSel_on (e := (0, 12, m0_)) 0 rfl rfl (hon 0 (by kernel_rfl)) rfl
      rw [Q_X0_ (hon 0 (by kernel_rfl))] at e12
      have e22 : a.tmps[22]? = some (m10_) := by rw [ha]; exact putSel_on (e := (10, 22, m10_)) 10 rfl rfl (hon 10 (by kernel_rfl)) rfl
      rw [Q_X10_ (hon 10 (by kernel_rfl))] at e22
      replace ha := Aside0.mk ha
      have HB := Aside0.mk Q_HB
      have BK1 := Aside0.mk Q_BK1
      have K12 := Aside0.mk (Q_K12 (hon 0 (by kernel_rfl)))
      have K22 := Aside0.mk (Q_K22 (hon 10 (by kernel_rfl)))
      refine goes_ Try.func20 (by kernel_rfl) rfl #[.slice A12 3 c12, .slice A22 3 3] (by rfl) rfl rfl (by first | (simp only [List.map_toArray, List.map_cons, List.map_nil, Act.eval, Array.getD_eq_getD_getElem?, Option.getD_some, e12, e22]; done) | (simp only [List.map_toArray, List.map_cons, List.map_nil, Act.eval, Array.getD_eq_getD_getElem?, Option.getD_some, e12, e22]; rfl)) ?_
      with_reducible refine (joinW_calls 0 0 q HM.out A12 A22 c12 3 _ K12.out K22.out).mono ?_
      rintro e w3 ⟨rfl, hb⟩
      refine ⟨_, rfl, ?_⟩
      refine hK.out _ _ ⟨A12, c12, A22, m0_, m10_, (by rw [ha.out]; exact putSel_upk 11 hb_ rfl rfl rfl), (below_step HB.out hb), (blk_below BK1.out hb), fun _ => (Kd.C_below K12.out hb), fun _ => (Kd.C_below K22.out hb), Q_X0_, Q_X10_⟩
    refine steps_cons ?_ ?_
    · rintro b a w' ⟨A12, c12, A22, m0_, m10_, ha, Q_HB, Q_BK1, Q_K12, Q_K22, Q_X0_, Q_X10_⟩ hb_ hon hoff
      refine ⟨_, rfl, fun K hK => ?_⟩
      have e23 : a.tmps[23]? = some (.tuple #[.int .u64 (wordV 0 0 q), .bool true]) := by rw [ha]; exact putSel_on (e := (11, 23, .tuple #[.int .u64 (wordV 0 0 q), .bool true])) 11 rfl rfl (hon 11 (by kernel_rfl)) rfl
      replace ha := Aside0.mk ha
      have HB := Aside0.mk Q_HB
      have BK1 := Aside0.mk Q_BK1
      have K12 := Aside0.mk (Q_K12 (hon 0 (by kernel_rfl)))
      have K22 := Aside0.mk (Q_K22 (hon 10 (by kernel_rfl)))
      refine value_ (w1 := w') (v := .int .u64 (wordV 0 0 q)) (by rfl) rfl ?_ ?_
      · go_simp
        (try simp only [i64_w])
        try rfl
      refine hK.out _ _ ⟨A12, c12, A22, m0_, m10_, (by rw [ha.out]; exact putSel_upk 12 hb_ rfl rfl rfl), Q_HB, Q_BK1, Q_K12, Q_K22, Q_X0_, Q_X10_⟩
    refine steps_cons ?_ ?_
    · rintro b a w' ⟨A12, c12, A22, m0_, m10_, ha, Q_HB, Q_BK1, Q_K12, Q_K22, Q_X0_, Q_X10_⟩ hb_ hon hoff
      refine ⟨_, rfl, fun K hK => ?_⟩
      have e23 : a.tmps[23]? = some (.tuple #[.int .u64 (wordV 0 0 q), .bool true]) := by rw [ha]; exact putSel_on (e := (11, 23, .tuple #[.int .u64 (wordV 0 0 q), .bool true])) 11 rfl rfl (hon 11 (by kernel_rfl)) rfl
      replace ha := Aside0.mk ha
      have HB := Aside0.mk Q_HB
      have BK1 := Aside0.mk Q_BK1
      have K12 := Aside0.mk (Q_K12 (hon 0 (by kernel_rfl)))
      have K22 := Aside0.mk (Q_K22 (hon 10 (by kernel_rfl)))
      refine value_ (w1 := w') (v := .bool true) (by rfl) rfl ?_ ?_
      · go_simp
        (try simp only [i64_w])
        try rfl
      refine hK.out _ _ ⟨A12, c12, A22, m0_, m10_, (by rw [ha.out]; exact putSel_upk 13 hb_ rfl rfl rfl), Q_HB, Q_BK1, Q_K12, Q_K22, Q_X0_, Q_X10_⟩
    refine steps_cons ?_ ?_
    · rintro b a w' ⟨A12, c12, A22, m0_, m10_, ha, Q_HB, Q_BK1, Q_K12, Q_K22, Q_X0_, Q_X10_⟩ hb_ hon hoff
      refine ⟨_, rfl, fun K hK => ?_⟩
      have e24 : a.tmps[24]? = some (.int .u64 (wordV 0 0 q)) := by rw [ha]; exact putSel_on (e := (12, 24, .int .u64 (wordV 0 0 q))) 12 rfl rfl (hon 12 (by kernel_rfl)) rfl
      replace ha := Aside0.mk ha
      have HB := Aside0.mk Q_HB
      have BK1 := Aside0.mk Q_BK1
      have K12 := Aside0.mk (Q_K12 (hon 0 (by kernel_rfl)))
      have K22 := Aside0.mk (Q_K22 (hon 10 (by kernel_rfl)))
      refine value_ (w1 := w') (v := .int .u64 (wordV 0 0 q)) (by rfl) rfl ?_ ?_
      · go_simp
        (try simp only [i64_w])
        try rfl
      refine hK.out _ _ ⟨A12, c12, A22, m0_, m10_, (by rw [ha.out]; exact putSel_upk 14 hb_ rfl rfl rfl), Q_HB, Q_BK1, Q_K12, Q_K22, Q_X0_, Q_X10_⟩
    refine steps_cons ?_ ?_
    · rintro b a w' ⟨A12, c12, A22, m0_, m10_, ha, Q_HB, Q_BK1, Q_K12, Q_K22, Q_X0_, Q_X10_⟩ hb_ hon hoff
      refine ⟨_, rfl, fun K hK => ?_⟩
      have e25 : a.tmps[25]? = some (.bool true) := by rw [ha]; exact putSel_on (e := (13, 25, .bool true)) 13 rfl rfl (hon 13 (by kernel_rfl)) rfl
      replace ha := Aside0.mk ha
      have HB := Aside0.mk Q_HB
      have BK1 := Aside0.mk Q_BK1
      have K12 := Aside0.mk (Q_K12 (hon 0 (by kernel_rfl)))
      have K22 := Aside0.mk (Q_K22 (hon 10 (by kernel_rfl)))
      refine value_ (w1 := w') (v := .bool true) (by rfl) rfl ?_ ?_
      · go_simp
        (try simp only [i64_w])
        try rfl
      refine hK.out _ _ ⟨A12, c12, A22, m0_, m10_, (by rw [ha.out]; exact putSel_upk 15 hb_ rfl rfl rfl), Q_HB, Q_BK1, Q_K12, Q_K22, Q_X0_, Q_X10_⟩
    exact steps_nil
  rintro b a wz hall ⟨A12, c12, A22, m0_, m10_, ha, Q_HB, Q_BK1, Q_K12, Q_K22, Q_X0_, Q_X10_⟩
  clear BK1 HB
  have hb0_ := hall 0 (by kernel_rfl)
  have hb1_ := hall 1 (by kernel_rfl)
  have hb2_ := hall 2 (by kernel_rfl)
  have hb3_ := hall 3 (by kernel_rfl)
  have hb4_ := hall 4 (by kernel_rfl)
  have hb5_ := hall 5 (by kernel_rfl)
  have hb6_ := hall 6 (by kernel_rfl)
  have hb7_ := hall 7 (by kernel_rfl)
  have hb8_ := hall 8 (by kernel_rfl)
  have hb9_ := hall 9 (by kernel_rfl)
  have hb10_ := hall 10 (by kernel_rfl)
  have hb11_ := hall 11 (by kernel_rfl)
  have hb12_ := hall 12 (by kernel_rfl)
  have hb13_ := hall 13 (by kernel_rfl)
  have hb14_ := hall 14 (by kernel_rfl)
  have hb15_ := hall 15 (by kernel_rfl)
  subst ha
  obtain rfl := Q_X0_ hb0_
  obtain rfl := Q_X10_ hb10_
  simp only [putSel, hb0_, hb1_, hb2_, hb3_, hb4_, hb5_, hb6_, hb7_, hb8_, hb9_, hb10_, hb11_, hb12_, hb13_, hb14_, hb15_, if_true, Act.put, List.setIfInBounds_toArray, List.set_cons_zero, List.set_cons_succ]
  have HB := Aside0.mk Q_HB
  clear Q_HB
  have BK1 := Aside0.mk Q_BK1
  clear Q_BK1
  have K12 := Aside0.mk (Q_K12 hb0_)
  clear Q_K12
  have K22 := Aside0.mk (Q_K22 hb10_)
  clear Q_K22
  clear hall hb0_ hb1_ hb2_ hb3_ hb4_ hb5_ hb6_ hb7_ hb8_ hb9_ hb10_ hb11_ hb12_ hb13_ hb14_ hb15_
  go_wp2
  go_ret2
  exact ⟨rfl, HB.out⟩

theorem word_calls (r s q : Int) (hr : -9223372036854775808 ≤ r ∧ r ≤ 9223372036854775807) (w : World) : Calls Try.prog 14 #[obj r s q] w fun e w' => e = .returned (.tuple #[.int .u64 (wordR r s q).1, .bool (wordR r s q).2]) ∧ Below w.heap.size w w' := by
  by_cases hz : r = 0 ∧ s = 0 ∧ q = 0
  · obtain ⟨rfl, rfl, rfl⟩ := hz
    exact word_zero w
  · have hn (h : mayO r s q = false) : wordR r s q = (0, false) := by rw [wordR, if_neg hz, h, if_neg (by decide)]
    have hy (h : mayO r s q = true) : wordR r s q = (wordV r s q, true) := by rw [wordR, if_neg hz, if_pos h]
    cases hm : mayO r s q with
    | false =>
      rw [hn hm]
      by_cases h1 : r = 0
      · by_cases h2 : s = 0
        · subst h1 h2; exact word_no_c q w (fun h3 => hz ⟨rfl, rfl, h3⟩) hm
        · subst h1; exact word_no_b s q w h2 hm
      · exact word_no_a r s q w h1 hm
    | true =>
      rw [hy hm]
      obtain ⟨b1, b2, b3, b4, b5, b6⟩ := mayO_iff.1 hm
      have wr := u64w (n := r) (by omega) (by omega)
      have ws := u64w (n := s) (by omega) (by omega)
      have wq := u64w (n := q) (by omega) (by omega)
      by_cases h1 : r = 0
      · by_cases h2 : s = 0
        · subst h1 h2; exact word_yes_c q w (fun h3 => hz ⟨rfl, rfl, h3⟩) hm wr ws wq
        · subst h1; exact word_yes_b s q w h2 hm wr ws wq
      · exact word_yes_a r s q w h1 hm wr ws wq

end Go.Proofs.Ytoooapknoobkiaa.Bl
