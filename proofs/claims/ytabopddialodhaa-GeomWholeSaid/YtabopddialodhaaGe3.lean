/- Geom: Root, Lane, Head, Span, Entry and their answers by the document; the example. No condition. -/
import Derived.Test.YtabopddialodhaaGe2
namespace Go.Proofs.Ytabopddialodhaa.Ge
open Go.RowKit Go.Proofs.YtabopddialodhaaW.PrintWords Go.Proofs.YtabopddialodhaaW.PrintLast Go.Proofs.YtabopddialodhaaW.PrintMore Go.Proofs.Ytabopddialodhaa.PGeomParts
set_option linter.unusedVariables false
set_option linter.unusedSimpArgs false
def laneV (s l r i : Int) : Int := partV (may s l r) l 40 16 i
def headV (s l r i : Int) : Int := partV (may s l r) s 8 (16 + 40 * l) i
def spanV (s l r i : Int) : Int := partV (may s l r) s 64 (16 + 40 * l + 8 * s) i
def rootV (s l r i : Int) : Int := if may s l r = true ∧ 0 ≤ i ∧ i < r then 8 + i else -1
def entryV (s l r i k : Int) : Int := if may s l r = true ∧ 0 ≤ i ∧ i < l ∧ 0 ≤ k ∧ k ≤ 15 then 16 + i * 40 + 8 + 2 * k else -1
theorem laneV_neg {s l r i : Int} : laneV s l r i < 0 ↔ ¬ (may s l r = true ∧ 0 ≤ i ∧ i < l) := by
  unfold laneV partV
  by_cases h : may s l r = true ∧ 0 ≤ i ∧ i < l
  · rw [if_pos h]; exact ⟨fun h1 => by omega, fun h1 => absurd h h1⟩
  · rw [if_neg h]; exact ⟨fun _ => h, fun _ => by decide⟩
theorem r_total (s l r : Int) : trencherref05_Total.f s l r = some (total s l r) := by
  unfold trencherref05_Total.f total
  rw [r_may]
  cases hm : may s l r with
  | false => rfl
  | true =>
    obtain ⟨b1, b2, b3, b4, b5, b6⟩ := may_iff.1 hm
    simp only [Option.bind_some, if_true]
    rw [w64 (n := 40 * l) (by omega) (by omega), w64 (n := 72 * s) (by omega) (by omega), w64 (n := 16 + 40 * l) (by omega) (by omega), w64 (by omega) (by omega)]

set_option maxHeartbeats 2000000 in
theorem lane_calls (s l r i : Int) (w : World) : Calls Try.prog 14 #[geo s l r, .int .i64 i] w fun e w' => e = .returned (.int .i64 (laneV s l r i)) ∧ Below w.heap.size w w' := by
  have hu23 := Try.underlying23
  have HB := Aside0.mk (Below.refl w.heap.size w)
  go_enter Try.func14, Try.ntmps14
  go_wp2_with (first | ((with_reducible refine gate_dst (N := 2) rfl ?_); refine box_event ?hg (N := 2) ?hd (cs := #[.int .i64 s, .int .i64 l, .int .i64 r]) (t := 23) ?hr ?_; (case hd => rfl); (case hg => rfl); (case hr => first | (go_simp; done) | (go_simp; rfl)); intro g2 hg w1_ hbox hb; have n0_ := Aside0.mk (below_step (by repeat (first | (with_reducible first | exact HB.out | apply below_alloc | apply pw_below_drewN | apply below_drew1) | exact HB.out)) hb); have n1_ := Aside0.mk hbox; have n2_ := Aside0.mk ((by rw [hg]; exact (below_size (by repeat (first | (with_reducible first | exact HB.out | apply below_alloc | apply pw_below_drewN | apply below_drew1) | exact HB.out)))) : w.heap.size ≤ g2); clear HB; have HB := n0_; have BK2 := n1_; have GE2 := n2_; clear n0_ n1_ n2_; clear hb hbox hg; skip; have hc2_0 : w1_.cell? ⟨g2, 0, none⟩ = some (.int .i64 s) := (blk_cell BK2.out 0).trans rfl; have hf2_0 := blk_frozen BK2.out 0; have hc2_1 : w1_.cell? ⟨g2, 1, none⟩ = some (.int .i64 l) := (blk_cell BK2.out 1).trans rfl; have hf2_1 := blk_frozen BK2.out 1; have hc2_2 : w1_.cell? ⟨g2, 2, none⟩ = some (.int .i64 r) := (blk_cell BK2.out 2).trans rfl; have hf2_2 := blk_frozen BK2.out 2) | ((with_reducible refine gate_callee (f := 26) rfl ?_); refine goesL_ (some 7) rfl rfl Try.func26 (by kernel_rfl) rfl #[geo s l r, .int .i64 2, .int .i64 i] rfl (by (try simp only [List.map_toArray, List.map_cons, List.map_nil]); first | done | rfl | (simp only [List.length_drop, List.length_take]; rfl)) ?_; (with_reducible refine (part2_calls s l r i _).mono ?_); rintro e w2_ ⟨rfl, hb⟩; refine ⟨_, rfl, ?_⟩; have n0_ := Aside0.mk (below_step (by repeat (first | (with_reducible first | exact HB.out | apply below_alloc | apply pw_below_drewN | apply below_drew1 | refine below_set ?_ GE2.out) | exact HB.out)) hb); have n1_ := Aside0.mk (blk_below (g := g2) (o := .cells #[.int .i64 s, .int .i64 l, .int .i64 r] 23 (0, 0)) (by (with_reducible repeat (first | refine blk_drewN ?_ _ | refine blk_drew ?_ | refine blk_alloc ?_ _)); exact BK2.out) hb); clear HB; clear BK2; have HB := n0_; have BK2 := n1_; clear n0_ n1_; clear hb))
  go_ret
  exact ⟨rfl, HB.out⟩

set_option maxHeartbeats 2000000 in
theorem head_calls (s l r i : Int) (w : World) : Calls Try.prog 16 #[geo s l r, .int .i64 i] w fun e w' => e = .returned (.int .i64 (headV s l r i)) ∧ Below w.heap.size w w' := by
  have hu23 := Try.underlying23
  have HB := Aside0.mk (Below.refl w.heap.size w)
  go_enter Try.func16, Try.ntmps16
  go_wp2_with (first | ((with_reducible refine gate_dst (N := 2) rfl ?_); refine box_event ?hg (N := 2) ?hd (cs := #[.int .i64 s, .int .i64 l, .int .i64 r]) (t := 23) ?hr ?_; (case hd => rfl); (case hg => rfl); (case hr => first | (go_simp; done) | (go_simp; rfl)); intro g2 hg w1_ hbox hb; have n0_ := Aside0.mk (below_step (by repeat (first | (with_reducible first | exact HB.out | apply below_alloc | apply pw_below_drewN | apply below_drew1) | exact HB.out)) hb); have n1_ := Aside0.mk hbox; have n2_ := Aside0.mk ((by rw [hg]; exact (below_size (by repeat (first | (with_reducible first | exact HB.out | apply below_alloc | apply pw_below_drewN | apply below_drew1) | exact HB.out)))) : w.heap.size ≤ g2); clear HB; have HB := n0_; have BK2 := n1_; have GE2 := n2_; clear n0_ n1_ n2_; clear hb hbox hg; skip; have hc2_0 : w1_.cell? ⟨g2, 0, none⟩ = some (.int .i64 s) := (blk_cell BK2.out 0).trans rfl; have hf2_0 := blk_frozen BK2.out 0; have hc2_1 : w1_.cell? ⟨g2, 1, none⟩ = some (.int .i64 l) := (blk_cell BK2.out 1).trans rfl; have hf2_1 := blk_frozen BK2.out 1; have hc2_2 : w1_.cell? ⟨g2, 2, none⟩ = some (.int .i64 r) := (blk_cell BK2.out 2).trans rfl; have hf2_2 := blk_frozen BK2.out 2) | ((with_reducible refine gate_callee (f := 26) rfl ?_); refine goesL_ (some 7) rfl rfl Try.func26 (by kernel_rfl) rfl #[geo s l r, .int .i64 3, .int .i64 i] rfl (by (try simp only [List.map_toArray, List.map_cons, List.map_nil]); first | done | rfl | (simp only [List.length_drop, List.length_take]; rfl)) ?_; (with_reducible refine (part3_calls s l r i _).mono ?_); rintro e w2_ ⟨rfl, hb⟩; refine ⟨_, rfl, ?_⟩; have n0_ := Aside0.mk (below_step (by repeat (first | (with_reducible first | exact HB.out | apply below_alloc | apply pw_below_drewN | apply below_drew1 | refine below_set ?_ GE2.out) | exact HB.out)) hb); have n1_ := Aside0.mk (blk_below (g := g2) (o := .cells #[.int .i64 s, .int .i64 l, .int .i64 r] 23 (0, 0)) (by (with_reducible repeat (first | refine blk_drewN ?_ _ | refine blk_drew ?_ | refine blk_alloc ?_ _)); exact BK2.out) hb); clear HB; clear BK2; have HB := n0_; have BK2 := n1_; clear n0_ n1_; clear hb))
  go_ret
  exact ⟨rfl, HB.out⟩

set_option maxHeartbeats 2000000 in
theorem span_calls (s l r i : Int) (w : World) : Calls Try.prog 18 #[geo s l r, .int .i64 i] w fun e w' => e = .returned (.int .i64 (spanV s l r i)) ∧ Below w.heap.size w w' := by
  have hu23 := Try.underlying23
  have HB := Aside0.mk (Below.refl w.heap.size w)
  go_enter Try.func18, Try.ntmps18
  go_wp2_with (first | ((with_reducible refine gate_dst (N := 2) rfl ?_); refine box_event ?hg (N := 2) ?hd (cs := #[.int .i64 s, .int .i64 l, .int .i64 r]) (t := 23) ?hr ?_; (case hd => rfl); (case hg => rfl); (case hr => first | (go_simp; done) | (go_simp; rfl)); intro g2 hg w1_ hbox hb; have n0_ := Aside0.mk (below_step (by repeat (first | (with_reducible first | exact HB.out | apply below_alloc | apply pw_below_drewN | apply below_drew1) | exact HB.out)) hb); have n1_ := Aside0.mk hbox; have n2_ := Aside0.mk ((by rw [hg]; exact (below_size (by repeat (first | (with_reducible first | exact HB.out | apply below_alloc | apply pw_below_drewN | apply below_drew1) | exact HB.out)))) : w.heap.size ≤ g2); clear HB; have HB := n0_; have BK2 := n1_; have GE2 := n2_; clear n0_ n1_ n2_; clear hb hbox hg; skip; have hc2_0 : w1_.cell? ⟨g2, 0, none⟩ = some (.int .i64 s) := (blk_cell BK2.out 0).trans rfl; have hf2_0 := blk_frozen BK2.out 0; have hc2_1 : w1_.cell? ⟨g2, 1, none⟩ = some (.int .i64 l) := (blk_cell BK2.out 1).trans rfl; have hf2_1 := blk_frozen BK2.out 1; have hc2_2 : w1_.cell? ⟨g2, 2, none⟩ = some (.int .i64 r) := (blk_cell BK2.out 2).trans rfl; have hf2_2 := blk_frozen BK2.out 2) | ((with_reducible refine gate_callee (f := 26) rfl ?_); refine goesL_ (some 7) rfl rfl Try.func26 (by kernel_rfl) rfl #[geo s l r, .int .i64 4, .int .i64 i] rfl (by (try simp only [List.map_toArray, List.map_cons, List.map_nil]); first | done | rfl | (simp only [List.length_drop, List.length_take]; rfl)) ?_; (with_reducible refine (part4_calls s l r i _).mono ?_); rintro e w2_ ⟨rfl, hb⟩; refine ⟨_, rfl, ?_⟩; have n0_ := Aside0.mk (below_step (by repeat (first | (with_reducible first | exact HB.out | apply below_alloc | apply pw_below_drewN | apply below_drew1 | refine below_set ?_ GE2.out) | exact HB.out)) hb); have n1_ := Aside0.mk (blk_below (g := g2) (o := .cells #[.int .i64 s, .int .i64 l, .int .i64 r] 23 (0, 0)) (by (with_reducible repeat (first | refine blk_drewN ?_ _ | refine blk_drew ?_ | refine blk_alloc ?_ _)); exact BK2.out) hb); clear HB; clear BK2; have HB := n0_; have BK2 := n1_; clear n0_ n1_; clear hb))
  go_ret
  exact ⟨rfl, HB.out⟩

theorem r_root (s l r i : Int) (hi : -9223372036854775808 ≤ i ∧ i ≤ 9223372036854775807) : trencherref05_Root.f s l r i = some (rootV s l r i) := by
  unfold trencherref05_Root.f rootV
  rw [r_may]
  cases hm : may s l r with
  | false => rfl
  | true =>
    obtain ⟨b1, b2, b3, b4, b5, b6⟩ := may_iff.1 hm
    simp only [Option.bind_some, if_true]
    by_cases h0 : i < 0
    · rw [if_pos h0, if_neg (fun h => by omega)]
    · rw [if_neg h0]
      by_cases h1 : i ≥ r
      · rw [if_pos h1, if_neg (fun h => by omega)]
      · rw [if_neg h1, if_pos ⟨trivial, by omega, by omega⟩, w64 (n := 8 + i) (by omega) (by omega)]
        try (congr 1; omega)

theorem r_lane (s l r i : Int) (hi : -9223372036854775808 ≤ i ∧ i ≤ 9223372036854775807) : trencherref05_Lane.f s l r i = some (laneV s l r i) := by
  unfold trencherref05_Lane.f laneV partV
  rw [r_may]
  cases hm : may s l r with
  | false => rfl
  | true =>
    obtain ⟨b1, b2, b3, b4, b5, b6⟩ := may_iff.1 hm
    simp only [Option.bind_some, if_true]
    by_cases h0 : i < 0
    · rw [if_pos h0, if_neg (fun h => by omega)]
    · rw [if_neg h0]
      by_cases h1 : i ≥ l
      · rw [if_pos h1, if_neg (fun h => by omega)]
      · rw [if_neg h1, if_pos ⟨trivial, by omega, by omega⟩, w64 (n := 40 * i) (by omega) (by omega), w64 (n := 16 + 40 * i) (by omega) (by omega)]
        try (congr 1; omega)

theorem r_head (s l r i : Int) (hi : -9223372036854775808 ≤ i ∧ i ≤ 9223372036854775807) : trencherref05_Head.f s l r i = some (headV s l r i) := by
  unfold trencherref05_Head.f headV partV
  rw [r_may]
  cases hm : may s l r with
  | false => rfl
  | true =>
    obtain ⟨b1, b2, b3, b4, b5, b6⟩ := may_iff.1 hm
    simp only [Option.bind_some, if_true]
    by_cases h0 : i < 0
    · rw [if_pos h0, if_neg (fun h => by omega)]
    · rw [if_neg h0]
      by_cases h1 : i ≥ s
      · rw [if_pos h1, if_neg (fun h => by omega)]
      · rw [if_neg h1, if_pos ⟨trivial, by omega, by omega⟩, w64 (n := 40 * l) (by omega) (by omega), w64 (n := 16 + 40 * l) (by omega) (by omega), w64 (n := 8 * i) (by omega) (by omega), w64 (n := 16 + 40 * l + 8 * i) (by omega) (by omega)]
        try (congr 1; omega)

theorem r_span (s l r i : Int) (hi : -9223372036854775808 ≤ i ∧ i ≤ 9223372036854775807) : trencherref05_Span.f s l r i = some (spanV s l r i) := by
  unfold trencherref05_Span.f spanV partV
  rw [r_may]
  cases hm : may s l r with
  | false => rfl
  | true =>
    obtain ⟨b1, b2, b3, b4, b5, b6⟩ := may_iff.1 hm
    simp only [Option.bind_some, if_true]
    by_cases h0 : i < 0
    · rw [if_pos h0, if_neg (fun h => by omega)]
    · rw [if_neg h0]
      by_cases h1 : i ≥ s
      · rw [if_pos h1, if_neg (fun h => by omega)]
      · rw [if_neg h1, if_pos ⟨trivial, by omega, by omega⟩, w64 (n := 40 * l) (by omega) (by omega), w64 (n := 16 + 40 * l) (by omega) (by omega), w64 (n := 8 * s) (by omega) (by omega), w64 (n := 16 + 40 * l + 8 * s) (by omega) (by omega), w64 (n := 64 * i) (by omega) (by omega), w64 (n := 16 + 40 * l + 8 * s + 64 * i) (by omega) (by omega)]
        try (congr 1; omega)

set_option maxHeartbeats 2000000 in
theorem root_calls (s l r i : Int) (w : World) : Calls Try.prog 12 #[geo s l r, .int .i64 i] w fun e w' => e = .returned (.int .i64 (rootV s l r i)) ∧ Below w.heap.size w w' := by
  have hu23 := Try.underlying23
  have HB := Aside0.mk (Below.refl w.heap.size w)
  obtain ⟨v, hv⟩ : ∃ v, rootV s l r i = v := ⟨_, rfl⟩
  rw [hv]
  by_cases h0 : i < 0
  · have hd0 : decide (i < 0) = true := decide_eq_true h0
    have HV := Aside0.mk (show -1 = v from by rw [← hv, rootV, if_neg (fun h => by omega)])
    clear hv
    go_enter Try.func12, Try.ntmps12
    go_wp2_with (first | ((with_reducible refine gate_dst (N := 2) rfl ?_); refine box_event ?hg (N := 2) ?hd (cs := #[.int .i64 s, .int .i64 l, .int .i64 r]) (t := 23) ?hr ?_; (case hd => rfl); (case hg => rfl); (case hr => first | (go_simp; done) | (go_simp; rfl)); intro g2 hg w1_ hbox hb; have n0_ := Aside0.mk (below_step (by repeat (first | (with_reducible first | exact HB.out | apply below_alloc | apply pw_below_drewN | apply below_drew1) | exact HB.out)) hb); have n1_ := Aside0.mk hbox; have n2_ := Aside0.mk ((by rw [hg]; exact (below_size (by repeat (first | (with_reducible first | exact HB.out | apply below_alloc | apply pw_below_drewN | apply below_drew1) | exact HB.out)))) : w.heap.size ≤ g2); clear HB; have HB := n0_; have BK2 := n1_; have GE2 := n2_; clear n0_ n1_ n2_; clear hb hbox hg; have hc2_0 : w1_.cell? ⟨g2, 0, none⟩ = some (.int .i64 s) := (blk_cell BK2.out 0).trans rfl; have hf2_0 := blk_frozen BK2.out 0; have hc2_1 : w1_.cell? ⟨g2, 1, none⟩ = some (.int .i64 l) := (blk_cell BK2.out 1).trans rfl; have hf2_1 := blk_frozen BK2.out 1; have hc2_2 : w1_.cell? ⟨g2, 2, none⟩ = some (.int .i64 r) := (blk_cell BK2.out 2).trans rfl; have hf2_2 := blk_frozen BK2.out 2))
    go_ret
    exact ⟨congrArg (fun x => Ending.returned (.int .i64 x)) HV.out, HB.out⟩
  · have hd0 : decide (i < 0) = false := decide_eq_false h0
    by_cases h1 : r ≤ i
    · have hd1 : decide (r ≤ i) = true := decide_eq_true h1
      have HV := Aside0.mk (show -1 = v from by rw [← hv, rootV, if_neg (fun h => by omega)])
      clear hv
      go_enter Try.func12, Try.ntmps12
      go_wp2_with (first | ((with_reducible refine gate_dst (N := 2) rfl ?_); refine box_event ?hg (N := 2) ?hd (cs := #[.int .i64 s, .int .i64 l, .int .i64 r]) (t := 23) ?hr ?_; (case hd => rfl); (case hg => rfl); (case hr => first | (go_simp; done) | (go_simp; rfl)); intro g2 hg w1_ hbox hb; have n0_ := Aside0.mk (below_step (by repeat (first | (with_reducible first | exact HB.out | apply below_alloc | apply pw_below_drewN | apply below_drew1) | exact HB.out)) hb); have n1_ := Aside0.mk hbox; have n2_ := Aside0.mk ((by rw [hg]; exact (below_size (by repeat (first | (with_reducible first | exact HB.out | apply below_alloc | apply pw_below_drewN | apply below_drew1) | exact HB.out)))) : w.heap.size ≤ g2); clear HB; have HB := n0_; have BK2 := n1_; have GE2 := n2_; clear n0_ n1_ n2_; clear hb hbox hg; have hc2_0 : w1_.cell? ⟨g2, 0, none⟩ = some (.int .i64 s) := (blk_cell BK2.out 0).trans rfl; have hf2_0 := blk_frozen BK2.out 0; have hc2_1 : w1_.cell? ⟨g2, 1, none⟩ = some (.int .i64 l) := (blk_cell BK2.out 1).trans rfl; have hf2_1 := blk_frozen BK2.out 1; have hc2_2 : w1_.cell? ⟨g2, 2, none⟩ = some (.int .i64 r) := (blk_cell BK2.out 2).trans rfl; have hf2_2 := blk_frozen BK2.out 2))
      go_ret
      exact ⟨congrArg (fun x => Ending.returned (.int .i64 x)) HV.out, HB.out⟩
    · have hd1 : decide (r ≤ i) = false := decide_eq_false h1
      cases hm : may s l r with
      | false =>
        have HV := Aside0.mk (show -1 = v from by rw [← hv, rootV, hm, if_neg (fun h => absurd h.1 (by decide))])
        clear hv
        go_enter Try.func12, Try.ntmps12
        go_wp2_with (first | ((with_reducible refine gate_dst (N := 2) rfl ?_); refine box_event ?hg (N := 2) ?hd (cs := #[.int .i64 s, .int .i64 l, .int .i64 r]) (t := 23) ?hr ?_; (case hd => rfl); (case hg => rfl); (case hr => first | (go_simp; done) | (go_simp; rfl)); intro g2 hg w1_ hbox hb; have n0_ := Aside0.mk (below_step (by repeat (first | (with_reducible first | exact HB.out | apply below_alloc | apply pw_below_drewN | apply below_drew1) | exact HB.out)) hb); have n1_ := Aside0.mk hbox; have n2_ := Aside0.mk ((by rw [hg]; exact (below_size (by repeat (first | (with_reducible first | exact HB.out | apply below_alloc | apply pw_below_drewN | apply below_drew1) | exact HB.out)))) : w.heap.size ≤ g2); clear HB; have HB := n0_; have BK2 := n1_; have GE2 := n2_; clear n0_ n1_ n2_; clear hb hbox hg; have hc2_0 : w1_.cell? ⟨g2, 0, none⟩ = some (.int .i64 s) := (blk_cell BK2.out 0).trans rfl; have hf2_0 := blk_frozen BK2.out 0; have hc2_1 : w1_.cell? ⟨g2, 1, none⟩ = some (.int .i64 l) := (blk_cell BK2.out 1).trans rfl; have hf2_1 := blk_frozen BK2.out 1; have hc2_2 : w1_.cell? ⟨g2, 2, none⟩ = some (.int .i64 r) := (blk_cell BK2.out 2).trans rfl; have hf2_2 := blk_frozen BK2.out 2) | (go_at_call 8; (with_reducible refine (may_calls s l r _).mono ?_); rintro e w2_ ⟨rfl, hb⟩; have n0_ := Aside0.mk (below_step (by repeat (first | (with_reducible first | exact HB.out | apply below_alloc | apply pw_below_drewN | apply below_drew1 | refine below_set ?_ GE2.out) | exact HB.out)) hb); have n1_ := Aside0.mk (blk_below (g := g2) (o := .cells #[.int .i64 s, .int .i64 l, .int .i64 r] 23 (0, 0)) (by (with_reducible repeat (first | refine blk_drewN ?_ _ | refine blk_drew ?_ | refine blk_alloc ?_ _)); exact BK2.out) hb); clear HB; clear BK2; have HB := n0_; have BK2 := n1_; clear n0_ n1_; clear hb; have hc2_0 : w2_.cell? ⟨g2, 0, none⟩ = some (.int .i64 s) := (blk_cell BK2.out 0).trans rfl; have hf2_0 := blk_frozen BK2.out 0; have hc2_1 : w2_.cell? ⟨g2, 1, none⟩ = some (.int .i64 l) := (blk_cell BK2.out 1).trans rfl; have hf2_1 := blk_frozen BK2.out 1; have hc2_2 : w2_.cell? ⟨g2, 2, none⟩ = some (.int .i64 r) := (blk_cell BK2.out 2).trans rfl; have hf2_2 := blk_frozen BK2.out 2; rw [hm]))
        go_ret
        exact ⟨congrArg (fun x => Ending.returned (.int .i64 x)) HV.out, HB.out⟩
      | true =>
        obtain ⟨b1, b2, b3, b4, b5, b6⟩ := may_iff.1 hm
        have hp : partV (may s l r) 1 8 (pre s l 1) 0 = 8 := by rw [partV, hm, if_pos ⟨rfl, by decide, by decide⟩]; rfl
        have HV := Aside0.mk (show 8 + i = v from by rw [← hv, rootV, hm, if_pos ⟨rfl, by omega, by omega⟩])
        clear hv
        go_enter Try.func12, Try.ntmps12
        go_wp2_with (first | ((with_reducible refine gate_dst (N := 2) rfl ?_); refine box_event ?hg (N := 2) ?hd (cs := #[.int .i64 s, .int .i64 l, .int .i64 r]) (t := 23) ?hr ?_; (case hd => rfl); (case hg => rfl); (case hr => first | (go_simp; done) | (go_simp; rfl)); intro g2 hg w1_ hbox hb; have n0_ := Aside0.mk (below_step (by repeat (first | (with_reducible first | exact HB.out | apply below_alloc | apply pw_below_drewN | apply below_drew1) | exact HB.out)) hb); have n1_ := Aside0.mk hbox; have n2_ := Aside0.mk ((by rw [hg]; exact (below_size (by repeat (first | (with_reducible first | exact HB.out | apply below_alloc | apply pw_below_drewN | apply below_drew1) | exact HB.out)))) : w.heap.size ≤ g2); clear HB; have HB := n0_; have BK2 := n1_; have GE2 := n2_; clear n0_ n1_ n2_; clear hb hbox hg; have hc2_0 : w1_.cell? ⟨g2, 0, none⟩ = some (.int .i64 s) := (blk_cell BK2.out 0).trans rfl; have hf2_0 := blk_frozen BK2.out 0; have hc2_1 : w1_.cell? ⟨g2, 1, none⟩ = some (.int .i64 l) := (blk_cell BK2.out 1).trans rfl; have hf2_1 := blk_frozen BK2.out 1; have hc2_2 : w1_.cell? ⟨g2, 2, none⟩ = some (.int .i64 r) := (blk_cell BK2.out 2).trans rfl; have hf2_2 := blk_frozen BK2.out 2) | (go_at_call 8; (with_reducible refine (may_calls s l r _).mono ?_); rintro e w2_ ⟨rfl, hb⟩; have n0_ := Aside0.mk (below_step (by repeat (first | (with_reducible first | exact HB.out | apply below_alloc | apply pw_below_drewN | apply below_drew1 | refine below_set ?_ GE2.out) | exact HB.out)) hb); have n1_ := Aside0.mk (blk_below (g := g2) (o := .cells #[.int .i64 s, .int .i64 l, .int .i64 r] 23 (0, 0)) (by (with_reducible repeat (first | refine blk_drewN ?_ _ | refine blk_drew ?_ | refine blk_alloc ?_ _)); exact BK2.out) hb); clear HB; clear BK2; have HB := n0_; have BK2 := n1_; clear n0_ n1_; clear hb; have hc2_0 : w2_.cell? ⟨g2, 0, none⟩ = some (.int .i64 s) := (blk_cell BK2.out 0).trans rfl; have hf2_0 := blk_frozen BK2.out 0; have hc2_1 : w2_.cell? ⟨g2, 1, none⟩ = some (.int .i64 l) := (blk_cell BK2.out 1).trans rfl; have hf2_1 := blk_frozen BK2.out 1; have hc2_2 : w2_.cell? ⟨g2, 2, none⟩ = some (.int .i64 r) := (blk_cell BK2.out 2).trans rfl; have hf2_2 := blk_frozen BK2.out 2; rw [hm]) | ((with_reducible refine gate_callee (f := 26) rfl ?_); refine goesL_ (some 19) rfl rfl Try.func26 (by kernel_rfl) rfl #[geo s l r, .int .i64 1, .int .i64 0] rfl (by (try simp only [List.map_toArray, List.map_cons, List.map_nil]); first | done | rfl | (simp only [List.length_drop, List.length_take]; rfl)) ?_; (with_reducible refine (part1_calls s l r 0 _).mono ?_); rintro e w3_ ⟨rfl, hb⟩; refine ⟨_, rfl, ?_⟩; have n0_ := Aside0.mk (below_step (by repeat (first | (with_reducible first | exact HB.out | apply below_alloc | apply pw_below_drewN | apply below_drew1 | refine below_set ?_ GE2.out) | exact HB.out)) hb); have n1_ := Aside0.mk (blk_below (g := g2) (o := .cells #[.int .i64 s, .int .i64 l, .int .i64 r] 23 (0, 0)) (by (with_reducible repeat (first | refine blk_drewN ?_ _ | refine blk_drew ?_ | refine blk_alloc ?_ _)); exact BK2.out) hb); clear HB; clear BK2; have HB := n0_; have BK2 := n1_; clear n0_ n1_; clear hb; rw [hp]))
        go_ret
        exact ⟨congrArg (fun x => Ending.returned (.int .i64 x)) HV.out, HB.out⟩

set_option maxHeartbeats 2000000 in
theorem entry_calls (s l r i k : Int) (w : World) : Calls Try.prog 20 #[geo s l r, .int .i64 i, .int .i64 k] w fun e w' => e = .returned (.int .i64 (entryV s l r i k)) ∧ Below w.heap.size w w' := by
  have hu23 := Try.underlying23
  have HB := Aside0.mk (Below.refl w.heap.size w)
  obtain ⟨v, hv⟩ : ∃ v, entryV s l r i k = v := ⟨_, rfl⟩
  obtain ⟨q, hp⟩ : ∃ q, laneV s l r i = q := ⟨_, rfl⟩
  rw [hv]
  by_cases h0 : q < 0
  · have hd0 : decide (q < 0) = true := decide_eq_true h0
    rw [← hp] at h0
    have HV := Aside0.mk (show -1 = v from by rw [← hv, entryV, if_neg (fun h => laneV_neg.1 h0 ⟨h.1, h.2.1, h.2.2.1⟩)])
    clear hv h0
    go_enter Try.func20, Try.ntmps20
    go_wp2_with (first | ((with_reducible refine gate_dst (N := 3) rfl ?_); refine box_event ?hg (N := 3) ?hd (cs := #[.int .i64 s, .int .i64 l, .int .i64 r]) (t := 23) ?hr ?_; (case hd => rfl); (case hg => rfl); (case hr => first | (go_simp; done) | (go_simp; rfl)); intro g3 hg w1_ hbox hb; have n0_ := Aside0.mk (below_step (by repeat (first | (with_reducible first | exact HB.out | apply below_alloc | apply pw_below_drewN | apply below_drew1) | exact HB.out)) hb); have n1_ := Aside0.mk hbox; have n2_ := Aside0.mk ((by rw [hg]; exact (below_size (by repeat (first | (with_reducible first | exact HB.out | apply below_alloc | apply pw_below_drewN | apply below_drew1) | exact HB.out)))) : w.heap.size ≤ g3); clear HB; have HB := n0_; have BK3 := n1_; have GE3 := n2_; clear n0_ n1_ n2_; clear hb hbox hg; have hc3_0 : w1_.cell? ⟨g3, 0, none⟩ = some (.int .i64 s) := (blk_cell BK3.out 0).trans rfl; have hf3_0 := blk_frozen BK3.out 0; have hc3_1 : w1_.cell? ⟨g3, 1, none⟩ = some (.int .i64 l) := (blk_cell BK3.out 1).trans rfl; have hf3_1 := blk_frozen BK3.out 1; have hc3_2 : w1_.cell? ⟨g3, 2, none⟩ = some (.int .i64 r) := (blk_cell BK3.out 2).trans rfl; have hf3_2 := blk_frozen BK3.out 2) | ((with_reducible refine gate_callee (f := 14) rfl ?_); refine goesL_ (some 10) rfl rfl Try.func14 (by kernel_rfl) rfl #[geo s l r, .int .i64 i] rfl (by (try simp only [List.map_toArray, List.map_cons, List.map_nil]); first | done | rfl | (simp only [List.length_drop, List.length_take]; rfl)) ?_; (with_reducible refine (lane_calls s l r i _).mono ?_); rintro e w2_ ⟨rfl, hb⟩; refine ⟨_, rfl, ?_⟩; have n0_ := Aside0.mk (below_step (by repeat (first | (with_reducible first | exact HB.out | apply below_alloc | apply pw_below_drewN | apply below_drew1 | refine below_set ?_ GE3.out) | exact HB.out)) hb); have n1_ := Aside0.mk (blk_below (g := g3) (o := .cells #[.int .i64 s, .int .i64 l, .int .i64 r] 23 (0, 0)) (by (with_reducible repeat (first | refine blk_drewN ?_ _ | refine blk_drew ?_ | refine blk_alloc ?_ _)); exact BK3.out) hb); clear HB; clear BK3; have HB := n0_; have BK3 := n1_; clear n0_ n1_; clear hb; rw [hp]))
    go_ret
    exact ⟨congrArg (fun x => Ending.returned (.int .i64 x)) HV.out, HB.out⟩
  · have hd0 : decide (q < 0) = false := decide_eq_false h0
    have hq : may s l r = true ∧ 0 ≤ i ∧ i < l := by
      rw [← hp, laneV_neg] at h0
      exact Classical.not_not.1 h0
    by_cases h1 : k < 0
    · have hd1 : decide (k < 0) = true := decide_eq_true h1
      have HV := Aside0.mk (show -1 = v from by rw [← hv, entryV, if_neg (fun h => by omega)])
      clear hv
      go_enter Try.func20, Try.ntmps20
      go_wp2_with (first | ((with_reducible refine gate_dst (N := 3) rfl ?_); refine box_event ?hg (N := 3) ?hd (cs := #[.int .i64 s, .int .i64 l, .int .i64 r]) (t := 23) ?hr ?_; (case hd => rfl); (case hg => rfl); (case hr => first | (go_simp; done) | (go_simp; rfl)); intro g3 hg w1_ hbox hb; have n0_ := Aside0.mk (below_step (by repeat (first | (with_reducible first | exact HB.out | apply below_alloc | apply pw_below_drewN | apply below_drew1) | exact HB.out)) hb); have n1_ := Aside0.mk hbox; have n2_ := Aside0.mk ((by rw [hg]; exact (below_size (by repeat (first | (with_reducible first | exact HB.out | apply below_alloc | apply pw_below_drewN | apply below_drew1) | exact HB.out)))) : w.heap.size ≤ g3); clear HB; have HB := n0_; have BK3 := n1_; have GE3 := n2_; clear n0_ n1_ n2_; clear hb hbox hg; have hc3_0 : w1_.cell? ⟨g3, 0, none⟩ = some (.int .i64 s) := (blk_cell BK3.out 0).trans rfl; have hf3_0 := blk_frozen BK3.out 0; have hc3_1 : w1_.cell? ⟨g3, 1, none⟩ = some (.int .i64 l) := (blk_cell BK3.out 1).trans rfl; have hf3_1 := blk_frozen BK3.out 1; have hc3_2 : w1_.cell? ⟨g3, 2, none⟩ = some (.int .i64 r) := (blk_cell BK3.out 2).trans rfl; have hf3_2 := blk_frozen BK3.out 2) | ((with_reducible refine gate_callee (f := 14) rfl ?_); refine goesL_ (some 10) rfl rfl Try.func14 (by kernel_rfl) rfl #[geo s l r, .int .i64 i] rfl (by (try simp only [List.map_toArray, List.map_cons, List.map_nil]); first | done | rfl | (simp only [List.length_drop, List.length_take]; rfl)) ?_; (with_reducible refine (lane_calls s l r i _).mono ?_); rintro e w2_ ⟨rfl, hb⟩; refine ⟨_, rfl, ?_⟩; have n0_ := Aside0.mk (below_step (by repeat (first | (with_reducible first | exact HB.out | apply below_alloc | apply pw_below_drewN | apply below_drew1 | refine below_set ?_ GE3.out) | exact HB.out)) hb); have n1_ := Aside0.mk (blk_below (g := g3) (o := .cells #[.int .i64 s, .int .i64 l, .int .i64 r] 23 (0, 0)) (by (with_reducible repeat (first | refine blk_drewN ?_ _ | refine blk_drew ?_ | refine blk_alloc ?_ _)); exact BK3.out) hb); clear HB; clear BK3; have HB := n0_; have BK3 := n1_; clear n0_ n1_; clear hb; rw [hp]))
      go_ret
      exact ⟨congrArg (fun x => Ending.returned (.int .i64 x)) HV.out, HB.out⟩
    · have hd1 : decide (k < 0) = false := decide_eq_false h1
      by_cases h2 : 16 ≤ k
      · have hd2 : decide (16 ≤ k) = true := decide_eq_true h2
        have HV := Aside0.mk (show -1 = v from by rw [← hv, entryV, if_neg (fun h => by omega)])
        clear hv
        go_enter Try.func20, Try.ntmps20
        go_wp2_with (first | ((with_reducible refine gate_dst (N := 3) rfl ?_); refine box_event ?hg (N := 3) ?hd (cs := #[.int .i64 s, .int .i64 l, .int .i64 r]) (t := 23) ?hr ?_; (case hd => rfl); (case hg => rfl); (case hr => first | (go_simp; done) | (go_simp; rfl)); intro g3 hg w1_ hbox hb; have n0_ := Aside0.mk (below_step (by repeat (first | (with_reducible first | exact HB.out | apply below_alloc | apply pw_below_drewN | apply below_drew1) | exact HB.out)) hb); have n1_ := Aside0.mk hbox; have n2_ := Aside0.mk ((by rw [hg]; exact (below_size (by repeat (first | (with_reducible first | exact HB.out | apply below_alloc | apply pw_below_drewN | apply below_drew1) | exact HB.out)))) : w.heap.size ≤ g3); clear HB; have HB := n0_; have BK3 := n1_; have GE3 := n2_; clear n0_ n1_ n2_; clear hb hbox hg; have hc3_0 : w1_.cell? ⟨g3, 0, none⟩ = some (.int .i64 s) := (blk_cell BK3.out 0).trans rfl; have hf3_0 := blk_frozen BK3.out 0; have hc3_1 : w1_.cell? ⟨g3, 1, none⟩ = some (.int .i64 l) := (blk_cell BK3.out 1).trans rfl; have hf3_1 := blk_frozen BK3.out 1; have hc3_2 : w1_.cell? ⟨g3, 2, none⟩ = some (.int .i64 r) := (blk_cell BK3.out 2).trans rfl; have hf3_2 := blk_frozen BK3.out 2) | ((with_reducible refine gate_callee (f := 14) rfl ?_); refine goesL_ (some 10) rfl rfl Try.func14 (by kernel_rfl) rfl #[geo s l r, .int .i64 i] rfl (by (try simp only [List.map_toArray, List.map_cons, List.map_nil]); first | done | rfl | (simp only [List.length_drop, List.length_take]; rfl)) ?_; (with_reducible refine (lane_calls s l r i _).mono ?_); rintro e w2_ ⟨rfl, hb⟩; refine ⟨_, rfl, ?_⟩; have n0_ := Aside0.mk (below_step (by repeat (first | (with_reducible first | exact HB.out | apply below_alloc | apply pw_below_drewN | apply below_drew1 | refine below_set ?_ GE3.out) | exact HB.out)) hb); have n1_ := Aside0.mk (blk_below (g := g3) (o := .cells #[.int .i64 s, .int .i64 l, .int .i64 r] 23 (0, 0)) (by (with_reducible repeat (first | refine blk_drewN ?_ _ | refine blk_drew ?_ | refine blk_alloc ?_ _)); exact BK3.out) hb); clear HB; clear BK3; have HB := n0_; have BK3 := n1_; clear n0_ n1_; clear hb; rw [hp]))
        go_ret
        exact ⟨congrArg (fun x => Ending.returned (.int .i64 x)) HV.out, HB.out⟩
      · have hd2 : decide (16 ≤ k) = false := decide_eq_false h2
        obtain ⟨b1, b2, b3, b4, b5, b6⟩ := may_iff.1 hq.1
        have hq2 : q = 16 + i * 40 := by rw [← hp, laneV, partV, if_pos hq]
        have HV := Aside0.mk (show q + 8 + 2 * k = v from by rw [← hv, entryV, if_pos ⟨hq.1, hq.2.1, hq.2.2, by omega, by omega⟩, hq2])
        have hq3 : 0 ≤ q ∧ q ≤ 200 := by have := hq.2; omega
        clear hv hq2
        go_enter Try.func20, Try.ntmps20
        go_wp2_with (first | ((with_reducible refine gate_dst (N := 3) rfl ?_); refine box_event ?hg (N := 3) ?hd (cs := #[.int .i64 s, .int .i64 l, .int .i64 r]) (t := 23) ?hr ?_; (case hd => rfl); (case hg => rfl); (case hr => first | (go_simp; done) | (go_simp; rfl)); intro g3 hg w1_ hbox hb; have n0_ := Aside0.mk (below_step (by repeat (first | (with_reducible first | exact HB.out | apply below_alloc | apply pw_below_drewN | apply below_drew1) | exact HB.out)) hb); have n1_ := Aside0.mk hbox; have n2_ := Aside0.mk ((by rw [hg]; exact (below_size (by repeat (first | (with_reducible first | exact HB.out | apply below_alloc | apply pw_below_drewN | apply below_drew1) | exact HB.out)))) : w.heap.size ≤ g3); clear HB; have HB := n0_; have BK3 := n1_; have GE3 := n2_; clear n0_ n1_ n2_; clear hb hbox hg; have hc3_0 : w1_.cell? ⟨g3, 0, none⟩ = some (.int .i64 s) := (blk_cell BK3.out 0).trans rfl; have hf3_0 := blk_frozen BK3.out 0; have hc3_1 : w1_.cell? ⟨g3, 1, none⟩ = some (.int .i64 l) := (blk_cell BK3.out 1).trans rfl; have hf3_1 := blk_frozen BK3.out 1; have hc3_2 : w1_.cell? ⟨g3, 2, none⟩ = some (.int .i64 r) := (blk_cell BK3.out 2).trans rfl; have hf3_2 := blk_frozen BK3.out 2) | ((with_reducible refine gate_callee (f := 14) rfl ?_); refine goesL_ (some 10) rfl rfl Try.func14 (by kernel_rfl) rfl #[geo s l r, .int .i64 i] rfl (by (try simp only [List.map_toArray, List.map_cons, List.map_nil]); first | done | rfl | (simp only [List.length_drop, List.length_take]; rfl)) ?_; (with_reducible refine (lane_calls s l r i _).mono ?_); rintro e w2_ ⟨rfl, hb⟩; refine ⟨_, rfl, ?_⟩; have n0_ := Aside0.mk (below_step (by repeat (first | (with_reducible first | exact HB.out | apply below_alloc | apply pw_below_drewN | apply below_drew1 | refine below_set ?_ GE3.out) | exact HB.out)) hb); have n1_ := Aside0.mk (blk_below (g := g3) (o := .cells #[.int .i64 s, .int .i64 l, .int .i64 r] 23 (0, 0)) (by (with_reducible repeat (first | refine blk_drewN ?_ _ | refine blk_drew ?_ | refine blk_alloc ?_ _)); exact BK3.out) hb); clear HB; clear BK3; have HB := n0_; have BK3 := n1_; clear n0_ n1_; clear hb; rw [hp]))
        go_ret
        exact ⟨congrArg (fun x => Ending.returned (.int .i64 x)) HV.out, HB.out⟩
theorem r_entry (s l r i k : Int) (hi : -9223372036854775808 ≤ i ∧ i ≤ 9223372036854775807) : trencherref05_Entry.f s l r i k = some (entryV s l r i k) := by
  unfold trencherref05_Entry.f entryV
  rw [r_lane s l r i hi]
  simp only [Option.bind_some]
  by_cases h0 : laneV s l r i < 0
  · rw [if_pos h0, if_neg (fun h => laneV_neg.1 h0 ⟨h.1, h.2.1, h.2.2.1⟩)]
  · rw [if_neg h0]
    have hq : may s l r = true ∧ 0 ≤ i ∧ i < l := by
      rw [laneV_neg] at h0
      exact Classical.not_not.1 h0
    obtain ⟨b1, b2, b3, b4, b5, b6⟩ := may_iff.1 hq.1
    by_cases h1 : k < 0
    · rw [if_pos h1, if_neg (fun h => by omega)]
    · rw [if_neg h1]
      by_cases h2 : k > 15
      · rw [if_pos h2, if_neg (fun h => by omega)]
      · rw [if_neg h2, if_pos ⟨hq.1, hq.2.1, hq.2.2, by omega, by omega⟩]
        have : laneV s l r i = 16 + i * 40 := by rw [laneV, partV, if_pos hq]
        rw [this, w64 (n := 16 + i * 40 + 8) (by omega) (by omega), w64 (n := 2 * k) (by omega) (by omega), w64 (by omega) (by omega)]

set_option maxHeartbeats 2000000 in
theorem alive_calls (w : World) : Calls Try.prog 7 #[] w fun e w' => e = .returned (.bool true) ∧ Below w.heap.size w w' := by
  have hu23 := Try.underlying23
  have HB := Aside0.mk (Below.refl w.heap.size w)
  go_enter Try.func7, Try.ntmps7
  go_upto_region 2 with ((with_reducible refine gate_dst (N := 1) rfl ?_); refine box_event ?hg (N := 1) ?hd (cs := #[.int .i64 0, .int .i64 0, .int .i64 0]) (t := 23) ?hr ?_; (case hd => rfl); (case hg => rfl); (case hr => first | (go_simp; done) | (go_simp; rfl)); intro g1 hg w1_ hbox hb; have n0_ := Aside0.mk (below_step (by repeat (first | (with_reducible first | exact HB.out | apply below_alloc | apply pw_below_drewN | apply below_drew1) | exact HB.out)) hb); have n1_ := Aside0.mk hbox; have n2_ := Aside0.mk ((by rw [hg]; exact (below_size (by repeat (first | (with_reducible first | exact HB.out | apply below_alloc | apply pw_below_drewN | apply below_drew1) | exact HB.out)))) : w.heap.size ≤ g1); clear HB; have HB := n0_; have BK1 := n1_; have GE1 := n2_; clear n0_ n1_ n2_; clear hb hbox hg; have hc1_0 : w1_.cell? ⟨g1, 0, none⟩ = some (.int .i64 0) := (blk_cell BK1.out 0).trans rfl; have hf1_0 := blk_frozen BK1.out 0; have hc1_1 : w1_.cell? ⟨g1, 1, none⟩ = some (.int .i64 0) := (blk_cell BK1.out 1).trans rfl; have hf1_1 := blk_frozen BK1.out 1; have hc1_2 : w1_.cell? ⟨g1, 2, none⟩ = some (.int .i64 0) := (blk_cell BK1.out 2).trans rfl; have hf1_2 := blk_frozen BK1.out 2)
  clear hc1_0 hf1_0 hc1_1 hf1_1 hc1_2 hf1_2
  generalize hw_ : (((w1_.setCell ⟨g1, 0, none⟩ (.int .i64 1)).setCell ⟨g1, 1, none⟩ (.int .i64 1)).setCell ⟨g1, 2, none⟩ (.int .i64 1)) = w2_
  have n0_ := Aside0.mk (show Below w.heap.size w w2_ from by rw [← hw_]; exact (by repeat (first | (with_reducible first | exact HB.out | apply below_alloc | apply pw_below_drewN | apply below_drew1 | refine below_set ?_ GE1.out) | exact HB.out)))
  have n1_ := Aside0.mk (show w2_.heap[g1]? = some (.cells #[.int .i64 1, .int .i64 1, .int .i64 1] 23 (0, 0)) from by rw [← hw_]; exact (by (with_reducible repeat (first | refine blk_drewN ?_ _ | refine blk_drew ?_ | refine blk_alloc ?_ _)); refine blk_put (cs := #[.int .i64 1, .int .i64 1, .int .i64 0]) ?_ 2 _ rfl; (with_reducible repeat (first | refine blk_drewN ?_ _ | refine blk_drew ?_ | refine blk_alloc ?_ _)); refine blk_put (cs := #[.int .i64 1, .int .i64 0, .int .i64 0]) ?_ 1 _ rfl; (with_reducible repeat (first | refine blk_drewN ?_ _ | refine blk_drew ?_ | refine blk_alloc ?_ _)); refine blk_put (cs := #[.int .i64 0, .int .i64 0, .int .i64 0]) ?_ 0 _ rfl; (with_reducible repeat (first | refine blk_drewN ?_ _ | refine blk_drew ?_ | refine blk_alloc ?_ _)); exact BK1.out))
  clear HB
  clear BK1
  have HB := n0_
  have BK1 := n1_
  clear n0_ n1_
  clear hw_
  have hc1_0 : w2_.cell? ⟨g1, 0, none⟩ = some (.int .i64 1) := (blk_cell BK1.out 0).trans rfl
  have hf1_0 := blk_frozen BK1.out 0
  have hc1_1 : w2_.cell? ⟨g1, 1, none⟩ = some (.int .i64 1) := (blk_cell BK1.out 1).trans rfl
  have hf1_1 := blk_frozen BK1.out 1
  have hc1_2 : w2_.cell? ⟨g1, 2, none⟩ = some (.int .i64 1) := (blk_cell BK1.out 2).trans rfl
  have hf1_2 := blk_frozen BK1.out 2
  go_wp2_with (first | ((with_reducible refine gate_callee (f := 10) rfl ?_); refine goesL_ (some 4) rfl rfl Try.func10 (by kernel_rfl) rfl #[geo 1 1 1] rfl (by (try simp only [List.map_toArray, List.map_cons, List.map_nil]); first | done | rfl | (simp only [List.length_drop, List.length_take]; rfl)) ?_; (with_reducible refine (total_calls 1 1 1  _).mono ?_); rintro e w3_ ⟨rfl, hb⟩; refine ⟨_, rfl, ?_⟩; have n0_ := Aside0.mk (below_step (by repeat (first | (with_reducible first | exact HB.out | apply below_alloc | apply pw_below_drewN | apply below_drew1 | refine below_set ?_ GE1.out) | exact HB.out)) hb); have n1_ := Aside0.mk (blk_below (g := g1) (o := .cells #[.int .i64 1, .int .i64 1, .int .i64 1] 23 (0, 0)) (by (with_reducible repeat (first | refine blk_drewN ?_ _ | refine blk_drew ?_ | refine blk_alloc ?_ _)); exact BK1.out) hb); clear HB; clear BK1; have HB := n0_; have BK1 := n1_; clear n0_ n1_; clear hb; have hc1_0 : w3_.cell? ⟨g1, 0, none⟩ = some (.int .i64 1) := (blk_cell BK1.out 0).trans rfl; have hf1_0 := blk_frozen BK1.out 0; have hc1_1 : w3_.cell? ⟨g1, 1, none⟩ = some (.int .i64 1) := (blk_cell BK1.out 1).trans rfl; have hf1_1 := blk_frozen BK1.out 1; have hc1_2 : w3_.cell? ⟨g1, 2, none⟩ = some (.int .i64 1) := (blk_cell BK1.out 2).trans rfl; have hf1_2 := blk_frozen BK1.out 2; rw [show total 1 1 1  = 128 from by decide]) | (go_at_call 12; (with_reducible refine (root_calls 1 1 1 0 _).mono ?_); rintro e w4_ ⟨rfl, hb⟩; have n0_ := Aside0.mk (below_step (by repeat (first | (with_reducible first | exact HB.out | apply below_alloc | apply pw_below_drewN | apply below_drew1 | refine below_set ?_ GE1.out) | exact HB.out)) hb); have n1_ := Aside0.mk (blk_below (g := g1) (o := .cells #[.int .i64 1, .int .i64 1, .int .i64 1] 23 (0, 0)) (by (with_reducible repeat (first | refine blk_drewN ?_ _ | refine blk_drew ?_ | refine blk_alloc ?_ _)); exact BK1.out) hb); clear HB; clear BK1; have HB := n0_; have BK1 := n1_; clear n0_ n1_; clear hb; have hc1_0 : w4_.cell? ⟨g1, 0, none⟩ = some (.int .i64 1) := (blk_cell BK1.out 0).trans rfl; have hf1_0 := blk_frozen BK1.out 0; have hc1_1 : w4_.cell? ⟨g1, 1, none⟩ = some (.int .i64 1) := (blk_cell BK1.out 1).trans rfl; have hf1_1 := blk_frozen BK1.out 1; have hc1_2 : w4_.cell? ⟨g1, 2, none⟩ = some (.int .i64 1) := (blk_cell BK1.out 2).trans rfl; have hf1_2 := blk_frozen BK1.out 2; rw [show rootV 1 1 1 0 = 8 from by decide]) | (go_at_call 14; (with_reducible refine (lane_calls 1 1 1 0 _).mono ?_); rintro e w5_ ⟨rfl, hb⟩; have n0_ := Aside0.mk (below_step (by repeat (first | (with_reducible first | exact HB.out | apply below_alloc | apply pw_below_drewN | apply below_drew1 | refine below_set ?_ GE1.out) | exact HB.out)) hb); have n1_ := Aside0.mk (blk_below (g := g1) (o := .cells #[.int .i64 1, .int .i64 1, .int .i64 1] 23 (0, 0)) (by (with_reducible repeat (first | refine blk_drewN ?_ _ | refine blk_drew ?_ | refine blk_alloc ?_ _)); exact BK1.out) hb); clear HB; clear BK1; have HB := n0_; have BK1 := n1_; clear n0_ n1_; clear hb; have hc1_0 : w5_.cell? ⟨g1, 0, none⟩ = some (.int .i64 1) := (blk_cell BK1.out 0).trans rfl; have hf1_0 := blk_frozen BK1.out 0; have hc1_1 : w5_.cell? ⟨g1, 1, none⟩ = some (.int .i64 1) := (blk_cell BK1.out 1).trans rfl; have hf1_1 := blk_frozen BK1.out 1; have hc1_2 : w5_.cell? ⟨g1, 2, none⟩ = some (.int .i64 1) := (blk_cell BK1.out 2).trans rfl; have hf1_2 := blk_frozen BK1.out 2; rw [show laneV 1 1 1 0 = 16 from by decide]) | (go_at_call 16; (with_reducible refine (head_calls 1 1 1 0 _).mono ?_); rintro e w6_ ⟨rfl, hb⟩; have n0_ := Aside0.mk (below_step (by repeat (first | (with_reducible first | exact HB.out | apply below_alloc | apply pw_below_drewN | apply below_drew1 | refine below_set ?_ GE1.out) | exact HB.out)) hb); have n1_ := Aside0.mk (blk_below (g := g1) (o := .cells #[.int .i64 1, .int .i64 1, .int .i64 1] 23 (0, 0)) (by (with_reducible repeat (first | refine blk_drewN ?_ _ | refine blk_drew ?_ | refine blk_alloc ?_ _)); exact BK1.out) hb); clear HB; clear BK1; have HB := n0_; have BK1 := n1_; clear n0_ n1_; clear hb; have hc1_0 : w6_.cell? ⟨g1, 0, none⟩ = some (.int .i64 1) := (blk_cell BK1.out 0).trans rfl; have hf1_0 := blk_frozen BK1.out 0; have hc1_1 : w6_.cell? ⟨g1, 1, none⟩ = some (.int .i64 1) := (blk_cell BK1.out 1).trans rfl; have hf1_1 := blk_frozen BK1.out 1; have hc1_2 : w6_.cell? ⟨g1, 2, none⟩ = some (.int .i64 1) := (blk_cell BK1.out 2).trans rfl; have hf1_2 := blk_frozen BK1.out 2; rw [show headV 1 1 1 0 = 56 from by decide]) | (go_at_call 18; (with_reducible refine (span_calls 1 1 1 0 _).mono ?_); rintro e w7_ ⟨rfl, hb⟩; have n0_ := Aside0.mk (below_step (by repeat (first | (with_reducible first | exact HB.out | apply below_alloc | apply pw_below_drewN | apply below_drew1 | refine below_set ?_ GE1.out) | exact HB.out)) hb); have n1_ := Aside0.mk (blk_below (g := g1) (o := .cells #[.int .i64 1, .int .i64 1, .int .i64 1] 23 (0, 0)) (by (with_reducible repeat (first | refine blk_drewN ?_ _ | refine blk_drew ?_ | refine blk_alloc ?_ _)); exact BK1.out) hb); clear HB; clear BK1; have HB := n0_; have BK1 := n1_; clear n0_ n1_; clear hb; have hc1_0 : w7_.cell? ⟨g1, 0, none⟩ = some (.int .i64 1) := (blk_cell BK1.out 0).trans rfl; have hf1_0 := blk_frozen BK1.out 0; have hc1_1 : w7_.cell? ⟨g1, 1, none⟩ = some (.int .i64 1) := (blk_cell BK1.out 1).trans rfl; have hf1_1 := blk_frozen BK1.out 1; have hc1_2 : w7_.cell? ⟨g1, 2, none⟩ = some (.int .i64 1) := (blk_cell BK1.out 2).trans rfl; have hf1_2 := blk_frozen BK1.out 2; rw [show spanV 1 1 1 0 = 64 from by decide]))
  go_ret
  exact ⟨rfl, HB.out⟩

end Go.Proofs.Ytabopddialodhaa.Ge
