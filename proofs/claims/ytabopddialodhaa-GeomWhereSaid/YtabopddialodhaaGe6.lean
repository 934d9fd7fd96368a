/- GeomWhere, the walk; Where's answer by the document. No condition beyond what the row gives. -/
import Derived.Test.YtabopddialodhaaGe5
import Derived.Test.YtabopddialodhaaPGeomWherex1
namespace Go.Proofs.Ytabopddialodhaa.Ge
open Go.RowKit Go.Proofs.YtabopddialodhaaW.PrintWords Go.Proofs.YtabopddialodhaaW.PrintLast Go.Proofs.YtabopddialodhaaW.PrintMore
set_option linter.unusedVariables false
set_option linter.unusedSimpArgs false
theorem r_may2 (s l r : Int) : PGeomWhere.trencherref05_May.f s l r = some (may s l r) := by
  unfold PGeomWhere.trencherref05_May.f may
  by_cases h1 : s ≥ 1 <;> by_cases h2 : s ≤ 16 <;> by_cases h3 : l ≥ 1 <;> by_cases h4 : l ≤ 4 <;> by_cases h5 : r ≥ 1 <;> by_cases h6 : r ≤ 8 <;> simp [*]
theorem r_total2 (s l r : Int) : PGeomWhere.trencherref05_Total.f s l r = some (total s l r) := by
  unfold PGeomWhere.trencherref05_Total.f total
  rw [r_may2]
  cases hm : may s l r with
  | false => rfl
  | true =>
    obtain ⟨b1, b2, b3, b4, b5, b6⟩ := may_iff.1 hm
    simp only [Option.bind_some, if_true]
    rw [w64 (n := 40 * l) (by omega) (by omega), w64 (n := 72 * s) (by omega) (by omega), w64 (n := 16 + 40 * l) (by omega) (by omega), w64 (by omega) (by omega)]
theorem td {x m : Int} (h : 0 ≤ x) (h1 : x ≤ 100000) (hm : 0 < m) : wrap64 (Int.tdiv x m) = x / m := by
  rw [Int.tdiv_eq_ediv_of_nonneg h]
  have := Int.ediv_nonneg h (Int.le_of_lt hm)
  have := Int.ediv_le_self m h
  exact w64 (by omega) (by omega)
theorem tm {x m : Int} (h : 0 ≤ x) : Int.tmod x m = x % m := Int.tmod_eq_emod_of_nonneg h
theorem r_where (s l r a : Int) (ha : -9223372036854775808 ≤ a ∧ a ≤ 9223372036854775807) : PGeomWhere.trencherref05_Where.f 1 s l r a = some (whereV s l r a) := by
  unfold PGeomWhere.trencherref05_Where.f whereV
  rw [r_may2, r_total2]
  simp only [PGeomWhere.trencherref05_Where.j0, Option.bind_some]
  cases hm : may s l r with
  | false => simp
  | true =>
    obtain ⟨b1, b2, b3, b4, b5, b6⟩ := may_iff.1 hm
    have ht : total s l r = 16 + 40 * l + 72 * s := by rw [total, if_pos hm]
    rw [ht, if_pos rfl]
    by_cases h0 : a < 0
    · rw [if_pos h0, if_pos trivial, if_neg (fun h => by omega)]
    · rw [if_neg h0]
      by_cases h1 : a < 16 + 40 * l + 72 * s
      · rw [if_neg (by simp; omega), if_pos (show true = true ∧ 0 ≤ a ∧ a < 16 + 40 * l + 72 * s from ⟨rfl, by omega, h1⟩)]
        by_cases c1 : a < 8
        · rw [if_pos c1, if_pos c1]
        · rw [if_neg c1, if_neg c1, w64 (n := 8 + r) (by omega) (by omega), w64 (n := a - 8) (by omega) (by omega)]
          by_cases c2 : a < 16
          · by_cases c3 : a < 8 + r
            · rw [if_pos c3, if_pos c2, if_pos (by omega)]
            · rw [if_neg c3, if_pos c2, if_pos c2, if_neg (by omega)]
          · rw [if_neg (show ¬ a < 8 + r by omega), if_neg c2, if_neg c2, w64 (n := a - 16) (by omega) (by omega), w64 (n := 40 * l) (by omega) (by omega), w64 (n := 8 * s) (by omega) (by omega), w64 (n := a - 16 - 40 * l) (by omega) (by omega), w64 (n := a - 16 - 40 * l - 8 * s) (by omega) (by omega)]
            by_cases c4 : a < 16 + 40 * l
            · rw [if_pos (show a - 16 < 40 * l by omega), if_pos c4, td (by omega) (by omega) (by decide), tm (by omega)]
            · rw [if_neg (show ¬ a - 16 < 40 * l by omega), if_neg c4]
              by_cases c5 : a < 16 + 40 * l + 8 * s
              · rw [if_pos (show a - 16 - 40 * l < 8 * s by omega), if_pos c5, td (by omega) (by omega) (by decide), tm (by omega), show a - 16 - 40 * l = a - (16 + 40 * l) by omega]
              · rw [if_neg (show ¬ a - 16 - 40 * l < 8 * s by omega), if_neg c5, td (by omega) (by omega) (by decide), tm (by omega), show a - 16 - 40 * l - 8 * s = a - (16 + 40 * l + 8 * s) by omega]
      · rw [if_pos (by simp; omega), if_neg (fun h => h1 h.2.2)]
theorem rwhere_calls (s l r a : Int) (ha : -9223372036854775808 ≤ a ∧ a ≤ 9223372036854775807) {p q o : Int} (h : whereV s l r a = (p, q, o)) (w : World) :
    Calls Try.prog 23 #[geo s l r, .int .i64 a] w fun e w' => e = .returned (.agg #[.int .i64 p, .int .i64 q, .int .i64 o]) ∧ Below w.heap.size w w' :=
  PGeomWhere.trencherref05_Where.calls 1 s l r a p q o w (by rw [r_where s l r a ha, h])
theorem where_at {s l r a p q o : Int} (ha : -9223372036854775808 ≤ a ∧ a ≤ 9223372036854775807) (h : whereV s l r a = (p, q, o)) (w : World) :
    Calls Try.prog 22 #[geo s l r, .int .i64 a] w fun e w' => e = .returned (.agg #[.int .i64 p, .int .i64 q, .int .i64 o]) ∧ Below w.heap.size w w' := by
  have := where_calls s l r a ha w
  rw [h] at this
  exact this

def gw.T1 : Bool × List (List Nat × List Nat) := (true, [([], []), ([0, 0], [0]), ([1], [1]), ([1], [1]), ([2, 3, 1, 1], [1, 2, 3]), ([1], [1]), ([1], [1]), ([5, 6, 4, 1], [1, 5, 6]), ([4, 7, 1], [1, 4, 7]), ([1, 8], [1, 8]), ([9, 7, 0, 1, 2, 3, 4, 5, 6, 7, 8, 9], [9])])
def gw.B1 : List Nat := [0, 1, 3, 3, 15, 3, 3, 127, 255, 511, 1023]
theorem gw.tab1 : rtab .any (opsOf Try.f5 1) = gw.T1 := by kernel_rfl
theorem gw.bits1 : waitsOk gw.T1.2 gw.B1 = true := by kernel_rfl
set_option maxHeartbeats 8000000 in
set_option maxRecDepth 100000 in
theorem where_walk (s l r xa : Int) (w : World) (_ : (Lit.int .i64 s).wf = true) (_ : (Lit.int .i64 l).wf = true) (_ : (Lit.int .i64 r).wf = true) (wi : (Lit.int .i64 xa).wf = true) :
    Calls Try.prog 5 #[geo s l r, .int .i64 xa] w fun e w' => e = .returned (.bool true) ∧ Below w.heap.size w w' := by
  have hu23 := Try.underlying23
  have hu31 := Try.underlying31
  have HXA := Aside0.mk (show -9223372036854775808 ≤ xa ∧ xa ≤ 9223372036854775807 from by simp [Lit.wf, IntKind.min, IntKind.max, IntKind.signed, IntKind.bits] at wi; omega)
  have HB := Aside0.mk (Below.refl w.heap.size w)
  clear wi
  obtain ⟨p, q, o, hw⟩ : ∃ p q o, whereV s l r xa = (p, q, o) := ⟨_, _, _, rfl⟩
  have HW := Aside0.mk hw
  clear hw
  go_enter Try.func5, Try.ntmps5
  go_upto_region 1 with ((with_reducible refine gate_dst (N := 2) rfl ?_); refine box_event ?hg (N := 2) ?hd (cs := #[.int .i64 s, .int .i64 l, .int .i64 r]) (t := 23) ?hr ?_; (case hd => rfl); (case hg => rfl); (case hr => first | (go_simp; done) | (go_simp; rfl)); intro g2 hg w1_ hbox hb; have n0_ := Aside0.mk (below_step (by repeat (first | (with_reducible first | exact HB.out | apply below_alloc | apply pw_below_drewN | apply below_drew1) | exact HB.out)) hb); have n1_ := Aside0.mk hbox; have n2_ := Aside0.mk ((by rw [hg]; exact (below_size (by repeat (first | (with_reducible first | exact HB.out | apply below_alloc | apply pw_below_drewN | apply below_drew1) | exact HB.out)))) : w.heap.size ≤ g2); clear HB; have HB := n0_; have BK2 := n1_; have GE2 := n2_; clear n0_ n1_ n2_; clear hb hbox hg)
  refine start_ (n := 11) (S := fun w' => True) (ds := []) #[false, false, false, false, false, false, false, false, false, false, false] (by kernel_rfl) rfl rfl trivial (fun hHeld => ?_)
  refine with_tabW gw.tab1 gw.bits1 (fun HT_ HW_ => ?_)
  refine inv_at [0, 1, 2, 3, 4, 5, 6, 7, 8, 9, 10] (fun a0_ b a w' => a = putSel a0_ b [(0, 5, .bool true), (1, 6, .bool true), (2, 7, .agg #[.int .i64 s, .int .i64 l, .int .i64 r]), (3, 8, .int .i64 xa), (4, 9, .agg #[.int .i64 p, .int .i64 q, .int .i64 o]), (5, 10, .agg #[.int .i64 s, .int .i64 l, .int .i64 r]), (6, 11, .int .i64 xa), (7, 12, .agg #[.int .i64 p, .int .i64 q, .int .i64 o]), (8, 13, .bool true), (9, 14, .bool true), (10, 4, .bool true)] ∧ (Below w.heap.size w w') ∧ (w'.heap[g2]? = some (.cells #[.int .i64 s, .int .i64 l, .int .i64 r] 23 (0, 0)))) HT_.out HW_.out (by kernel_rfl) (by kernel_rfl) ?_ ?_ ?_
  · exact ⟨by simp only [putSel, Bool.false_eq_true, if_false], below_drew1 HB.out, BK2.out⟩
  · skip
    clear BK2 HB
    refine steps_cons ?_ ?_
    · rintro b a w' ⟨ha, Q_HB, Q_BK2⟩ hb_ hon hoff
      refine ⟨_, rfl, fun K hK => ?_⟩
      replace ha := Aside0.mk ha
      have HB := Aside0.mk Q_HB
      have BK2 := Aside0.mk Q_BK2
      refine goes_ Try.func7 (by kernel_rfl) rfl #[] (by rfl) rfl rfl (by first | (simp only [List.map_toArray, List.map_cons, List.map_nil, Act.eval, Array.getD_eq_getD_getElem?, Option.getD_some]; done) | (simp only [List.map_toArray, List.map_cons, List.map_nil, Act.eval, Array.getD_eq_getD_getElem?, Option.getD_some]; rfl)) ?_
      with_reducible refine (alive_calls _).mono ?_
      rintro e w3 ⟨rfl, hb⟩
      refine ⟨_, rfl, ?_⟩
      refine hK.out _ _ ⟨(by rw [ha.out]; exact putSel_upk 0 hb_ rfl rfl rfl), (below_step HB.out hb), (blk_below BK2.out hb)⟩
    refine steps_cons ?_ ?_
    · rintro b a w' ⟨ha, Q_HB, Q_BK2⟩ hb_ hon hoff
      refine ⟨_, rfl, fun K hK => ?_⟩
      have e5 : a.tmps[5]? = some (.bool true) := by rw [ha]; exact putSel_on (e := (0, 5, .bool true)) 0 rfl rfl (hon 0 (by kernel_rfl)) rfl
      replace ha := Aside0.mk ha
      have HB := Aside0.mk Q_HB
      have BK2 := Aside0.mk Q_BK2
      refine value_ (w1 := w') (v := .bool true) (by rfl) rfl ?_ ?_
      · go_simp
        (try simp only [i64_w])
        try rfl
      refine hK.out _ _ ⟨(by rw [ha.out]; exact putSel_upk 1 hb_ rfl rfl rfl), Q_HB, Q_BK2⟩
    refine steps_cons ?_ ?_
    · rintro b a w' ⟨ha, Q_HB, Q_BK2⟩ hb_ hon hoff
      refine ⟨_, rfl, fun K hK => ?_⟩
      have e2 : a.tmps[2]? = some (.pointer (some ⟨g2, 0, none⟩)) := by rw [ha]; exact (putSel_off rfl).trans rfl
      have e6 : a.tmps[6]? = some (.bool true) := by rw [ha]; exact putSel_on (e := (1, 6, .bool true)) 1 rfl rfl (hon 1 (by kernel_rfl)) rfl
      replace ha := Aside0.mk ha
      have HB := Aside0.mk Q_HB
      have BK2 := Aside0.mk Q_BK2
      have hc2_0 : w'.cell? ⟨g2, 0, none⟩ = some (.int .i64 s) := (blk_cell BK2.out 0).trans rfl
      have hc2_1 : w'.cell? ⟨g2, 1, none⟩ = some (.int .i64 l) := (blk_cell BK2.out 1).trans rfl
      have hc2_2 : w'.cell? ⟨g2, 2, none⟩ = some (.int .i64 r) := (blk_cell BK2.out 2).trans rfl
      refine value_ (w1 := w') (v := .agg #[.int .i64 s, .int .i64 l, .int .i64 r]) (wanted_on rfl rfl rfl (e6.trans (by first | rfl | (simp [*]; done)))) rfl ?_ ?_
      · go_simp
        (try simp only [i64_w])
        try rfl
      refine hK.out _ _ ⟨(by rw [ha.out]; exact putSel_upk 2 hb_ rfl rfl rfl), Q_HB, Q_BK2⟩
    refine steps_cons ?_ ?_
    · rintro b a w' ⟨ha, Q_HB, Q_BK2⟩ hb_ hon hoff
      refine ⟨_, rfl, fun K hK => ?_⟩
      have e1 : a.tmps[1]? = some (.int .i64 xa) := by rw [ha]; exact (putSel_off rfl).trans rfl
      have e6 : a.tmps[6]? = some (.bool true) := by rw [ha]; exact putSel_on (e := (1, 6, .bool true)) 1 rfl rfl (hon 1 (by kernel_rfl)) rfl
      replace ha := Aside0.mk ha
      have HB := Aside0.mk Q_HB
      have BK2 := Aside0.mk Q_BK2
      refine value_ (w1 := w') (v := .int .i64 xa) (wanted_on rfl rfl rfl (e6.trans (by first | rfl | (simp [*]; done)))) rfl ?_ ?_
      · go_simp
        (try simp only [i64_w])
        try rfl
      refine hK.out _ _ ⟨(by rw [ha.out]; exact putSel_upk 3 hb_ rfl rfl rfl), Q_HB, Q_BK2⟩
    refine steps_cons ?_ ?_
    · rintro b a w' ⟨ha, Q_HB, Q_BK2⟩ hb_ hon hoff
      refine ⟨_, rfl, fun K hK => ?_⟩
      have e7 : a.tmps[7]? = some (.agg #[.int .i64 s, .int .i64 l, .int .i64 r]) := by rw [ha]; exact putSel_on (e := (2, 7, .agg #[.int .i64 s, .int .i64 l, .int .i64 r])) 2 rfl rfl (hon 2 (by kernel_rfl)) rfl
      have e8 : a.tmps[8]? = some (.int .i64 xa) := by rw [ha]; exact putSel_on (e := (3, 8, .int .i64 xa)) 3 rfl rfl (hon 3 (by kernel_rfl)) rfl
      have e6 : a.tmps[6]? = some (.bool true) := by rw [ha]; exact putSel_on (e := (1, 6, .bool true)) 1 rfl rfl (hon 1 (by kernel_rfl)) rfl
      replace ha := Aside0.mk ha
      have HB := Aside0.mk Q_HB
      have BK2 := Aside0.mk Q_BK2
      refine goes_ Try.func22 (by kernel_rfl) rfl #[geo s l r, .int .i64 xa] (wanted_on rfl rfl rfl (e6.trans (by first | rfl | (simp [*]; done)))) rfl rfl (by first | (simp only [List.map_toArray, List.map_cons, List.map_nil, Act.eval, Array.getD_eq_getD_getElem?, Option.getD_some, e7, e8, e6]; done) | (simp only [List.map_toArray, List.map_cons, List.map_nil, Act.eval, Array.getD_eq_getD_getElem?, Option.getD_some, e7, e8, e6]; rfl)) ?_
      with_reducible refine (where_at HXA.out HW.out _).mono ?_
      rintro e w3 ⟨rfl, hb⟩
      refine ⟨_, rfl, ?_⟩
      refine hK.out _ _ ⟨(by rw [ha.out]; exact putSel_upk 4 hb_ rfl rfl rfl), (below_step HB.out hb), (blk_below BK2.out hb)⟩
    refine steps_cons ?_ ?_
    · rintro b a w' ⟨ha, Q_HB, Q_BK2⟩ hb_ hon hoff
      refine ⟨_, rfl, fun K hK => ?_⟩
      have e2 : a.tmps[2]? = some (.pointer (some ⟨g2, 0, none⟩)) := by rw [ha]; exact (putSel_off rfl).trans rfl
      have e6 : a.tmps[6]? = some (.bool true) := by rw [ha]; exact putSel_on (e := (1, 6, .bool true)) 1 rfl rfl (hon 1 (by kernel_rfl)) rfl
      replace ha := Aside0.mk ha
      have HB := Aside0.mk Q_HB
      have BK2 := Aside0.mk Q_BK2
      have hc2_0 : w'.cell? ⟨g2, 0, none⟩ = some (.int .i64 s) := (blk_cell BK2.out 0).trans rfl
      have hc2_1 : w'.cell? ⟨g2, 1, none⟩ = some (.int .i64 l) := (blk_cell BK2.out 1).trans rfl
      have hc2_2 : w'.cell? ⟨g2, 2, none⟩ = some (.int .i64 r) := (blk_cell BK2.out 2).trans rfl
      refine value_ (w1 := w') (v := .agg #[.int .i64 s, .int .i64 l, .int .i64 r]) (wanted_on rfl rfl rfl (e6.trans (by first | rfl | (simp [*]; done)))) rfl ?_ ?_
      · go_simp
        (try simp only [i64_w])
        try rfl
      refine hK.out _ _ ⟨(by rw [ha.out]; exact putSel_upk 5 hb_ rfl rfl rfl), Q_HB, Q_BK2⟩
    refine steps_cons ?_ ?_
    · rintro b a w' ⟨ha, Q_HB, Q_BK2⟩ hb_ hon hoff
      refine ⟨_, rfl, fun K hK => ?_⟩
      have e1 : a.tmps[1]? = some (.int .i64 xa) := by rw [ha]; exact (putSel_off rfl).trans rfl
      have e6 : a.tmps[6]? = some (.bool true) := by rw [ha]; exact putSel_on (e := (1, 6, .bool true)) 1 rfl rfl (hon 1 (by kernel_rfl)) rfl
      replace ha := Aside0.mk ha
      have HB := Aside0.mk Q_HB
      have BK2 := Aside0.mk Q_BK2
      refine value_ (w1 := w') (v := .int .i64 xa) (wanted_on rfl rfl rfl (e6.trans (by first | rfl | (simp [*]; done)))) rfl ?_ ?_
      · go_simp
        (try simp only [i64_w])
        try rfl
      refine hK.out _ _ ⟨(by rw [ha.out]; exact putSel_upk 6 hb_ rfl rfl rfl), Q_HB, Q_BK2⟩
    refine steps_cons ?_ ?_
    · rintro b a w' ⟨ha, Q_HB, Q_BK2⟩ hb_ hon hoff
      refine ⟨_, rfl, fun K hK => ?_⟩
      have e10 : a.tmps[10]? = some (.agg #[.int .i64 s, .int .i64 l, .int .i64 r]) := by rw [ha]; exact putSel_on (e := (5, 10, .agg #[.int .i64 s, .int .i64 l, .int .i64 r])) 5 rfl rfl (hon 5 (by kernel_rfl)) rfl
      have e11 : a.tmps[11]? = some (.int .i64 xa) := by rw [ha]; exact putSel_on (e := (6, 11, .int .i64 xa)) 6 rfl rfl (hon 6 (by kernel_rfl)) rfl
      have e6 : a.tmps[6]? = some (.bool true) := by rw [ha]; exact putSel_on (e := (1, 6, .bool true)) 1 rfl rfl (hon 1 (by kernel_rfl)) rfl
      replace ha := Aside0.mk ha
      have HB := Aside0.mk Q_HB
      have BK2 := Aside0.mk Q_BK2
      refine goes_ Try.func23 (by kernel_rfl) rfl #[geo s l r, .int .i64 xa] (wanted_on rfl rfl rfl (e6.trans (by first | rfl | (simp [*]; done)))) rfl rfl (by first | (simp only [List.map_toArray, List.map_cons, List.map_nil, Act.eval, Array.getD_eq_getD_getElem?, Option.getD_some, e10, e11, e6]; done) | (simp only [List.map_toArray, List.map_cons, List.map_nil, Act.eval, Array.getD_eq_getD_getElem?, Option.getD_some, e10, e11, e6]; rfl)) ?_
      with_reducible refine (rwhere_calls s l r xa HXA.out HW.out _).mono ?_
      rintro e w3 ⟨rfl, hb⟩
      refine ⟨_, rfl, ?_⟩
      refine hK.out _ _ ⟨(by rw [ha.out]; exact putSel_upk 7 hb_ rfl rfl rfl), (below_step HB.out hb), (blk_below BK2.out hb)⟩
    refine steps_cons ?_ ?_
    · rintro b a w' ⟨ha, Q_HB, Q_BK2⟩ hb_ hon hoff
      refine ⟨_, rfl, fun K hK => ?_⟩
      have e9 : a.tmps[9]? = some (.agg #[.int .i64 p, .int .i64 q, .int .i64 o]) := by rw [ha]; exact putSel_on (e := (4, 9, .agg #[.int .i64 p, .int .i64 q, .int .i64 o])) 4 rfl rfl (hon 4 (by kernel_rfl)) rfl
      have e12 : a.tmps[12]? = some (.agg #[.int .i64 p, .int .i64 q, .int .i64 o]) := by rw [ha]; exact putSel_on (e := (7, 12, .agg #[.int .i64 p, .int .i64 q, .int .i64 o])) 7 rfl rfl (hon 7 (by kernel_rfl)) rfl
      have e6 : a.tmps[6]? = some (.bool true) := by rw [ha]; exact putSel_on (e := (1, 6, .bool true)) 1 rfl rfl (hon 1 (by kernel_rfl)) rfl
      replace ha := Aside0.mk ha
      have HB := Aside0.mk Q_HB
      have BK2 := Aside0.mk Q_BK2
      refine value_ (w1 := w') (v := .bool true) (wanted_on rfl rfl rfl (e6.trans (by first | rfl | (simp [*]; done)))) rfl ?_ ?_
      · go_simp
        (try simp only [i64_w])
        try rfl
      refine hK.out _ _ ⟨(by rw [ha.out]; exact putSel_upk 8 hb_ rfl rfl rfl), Q_HB, Q_BK2⟩
    refine steps_cons ?_ ?_
    · rintro b a w' ⟨ha, Q_HB, Q_BK2⟩ hb_ hon hoff
      refine ⟨_, rfl, fun K hK => ?_⟩
      have e6 : a.tmps[6]? = some (.bool true) := by rw [ha]; exact putSel_on (e := (1, 6, .bool true)) 1 rfl rfl (hon 1 (by kernel_rfl)) rfl
      have e13 : a.tmps[13]? = some (.bool true) := by rw [ha]; exact putSel_on (e := (8, 13, .bool true)) 8 rfl rfl (hon 8 (by kernel_rfl)) rfl
      replace ha := Aside0.mk ha
      have HB := Aside0.mk Q_HB
      have BK2 := Aside0.mk Q_BK2
      refine value_ (w1 := w') (v := .bool true) (by rfl) rfl ?_ ?_
      · go_simp
        (try simp only [i64_w])
        try rfl
      refine hK.out _ _ ⟨(by rw [ha.out]; exact putSel_upk 9 hb_ rfl rfl rfl), Q_HB, Q_BK2⟩
    refine steps_cons ?_ ?_
    · rintro b a w' ⟨ha, Q_HB, Q_BK2⟩ hb_ hon hoff
      refine ⟨_, rfl, fun K hK => ?_⟩
      have e14 : a.tmps[14]? = some (.bool true) := by rw [ha]; exact putSel_on (e := (9, 14, .bool true)) 9 rfl rfl (hon 9 (by kernel_rfl)) rfl
      replace ha := Aside0.mk ha
      have HB := Aside0.mk Q_HB
      have BK2 := Aside0.mk Q_BK2
      refine value_ (w1 := w') (v := .bool true) (by rfl) rfl ?_ ?_
      · go_simp
        (try simp only [i64_w])
        try rfl
      refine hK.out _ _ ⟨(by rw [ha.out]; exact putSel_upk 10 hb_ rfl rfl rfl), Q_HB, Q_BK2⟩
    exact steps_nil
  rintro b a wz hall ⟨ha, Q_HB, Q_BK2⟩
  clear BK2 HB
  have hb0_ := hall 0 (by kernel_rfl)
  have hb1_ := hall 1 (by kernel_rfl)
  have hb2_ := hall 2 (by kernel_rfl)
  have hb3_ := hall 3 (by kernel_rfl)
  have hb4_ := hall 4 (by kernel_rfl)
  have hb5_ := hall 5 (by kernel_rfl)
  have hb6_ := hall 6 (by kernel_rfl)
  have hb7_ := hall 7 (by kernel_rfl)
  have hb8_ := hall 8 (by kernel_rfl)
  have hb9_ := hall 9 (by kernel_rfl)
  have hb10_ := hall 10 (by kernel_rfl)
  subst ha
  simp only [putSel, hb0_, hb1_, hb2_, hb3_, hb4_, hb5_, hb6_, hb7_, hb8_, hb9_, hb10_, if_true, Act.put, List.setIfInBounds_toArray, List.set_cons_zero, List.set_cons_succ]
  have HB := Aside0.mk Q_HB
  clear Q_HB
  have BK2 := Aside0.mk Q_BK2
  clear Q_BK2
  clear hall hb0_ hb1_ hb2_ hb3_ hb4_ hb5_ hb6_ hb7_ hb8_ hb9_ hb10_
  go_wp2
  go_ret
  exact ⟨rfl, HB.out⟩

end Go.Proofs.Ytabopddialodhaa.Ge
