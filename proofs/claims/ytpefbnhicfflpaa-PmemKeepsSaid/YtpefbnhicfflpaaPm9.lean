/- Pmem: Evict's closure. Conditions: the region lies as 'Rg' says. -/
import Derived.Test.YtpefbnhicfflpaaPm8
namespace Go.Proofs.Ytpefbnhicfflpaa.Pm
open Go.RowKit Go.Maps Go.ChangeMaps Go.MapKept Go.WideElems Go.Proofs.YtpefbnhicfflpaaW.PrintWords Go.Proofs.YtpefbnhicfflpaaW.PrintLast Go.Proofs.YtpefbnhicfflpaaW.PrintMore
set_option linter.unusedSimpArgs false
set_option linter.unusedVariables false
theorem look_note {W : World} {bm n : Nat} {D : DataW Unit} (h : W.ownsMap Try.prog 3 noteR bm n D) (i : Nat) (hi : i ≤ 64) : ∃ c : Note8, (Instr.lookup 66 (.map (some bm)) (.int .i64 (i : Int)) true).run Try.prog W = .ok (.tuple #[c.val, .bool (has D (key i))]) W ∧ (has D (key i) = true → ∃ y, noteR c.val = some y ∧ ∀ zd, D.atKey (key i) zd = y.1) := by
  obtain ⟨es, clock, hb, F, hs, rfl⟩ := h
  rcases fit_look (w := W) true keyed3 Try.underlying66 (Try.zeroValue70 W) hb F (key_at i hi) with ⟨hrun, _, hat⟩ | ⟨e0, y, _, _, hrun, hRv, hat, _⟩
  · refine ⟨⟨0, 0, 0, 0, 0, 0, 0, 0⟩, ?_, ?_⟩
    · rw [has_false_of_atKey hat]
      exact hrun
    · intro ht
      rw [has_false_of_atKey hat] at ht
      cases ht
  · obtain ⟨c, hc⟩ := note_inv e0.val y hRv
    refine ⟨c, ?_, fun _ => ⟨y, by rw [← hc]; exact hRv, hat⟩⟩
    rw [has_true_of_atKey hat, ← hc]
    exact hrun
theorem look_ok {W : World} {bm n : Nat} {D : DataW Unit} (h : W.ownsMap Try.prog 3 noteR bm n D) (i : Nat) (hi : i ≤ 64) : ∃ c : Note8, (Instr.lookup 66 (.map (some bm)) (.int .i64 (i : Int)) true).run Try.prog W = .ok (.tuple #[.agg #[.int .u64 c.y0, .int .u64 c.y1, .int .u64 c.y2, .int .u64 c.y3, .int .u64 c.y4, .int .u64 c.y5, .int .u64 c.y6, .int .u64 c.y7], .bool (has D (key i))]) W := let ⟨c, h1, _⟩ := look_note h i hi; ⟨c, h1⟩

def e1.T1 : Bool × List (List Nat × List Nat) := (true, [([], []), ([], []), ([], []), ([], []), ([2, 3], [2, 3]), ([0, 1, 4, 4], [0, 1, 4])])
def e1.B1 : List Nat := [0, 0, 0, 0, 12, 31]
theorem e1.tab1 : rtab .any (opsOf Try.f41 1) = e1.T1 := by kernel_rfl
theorem e1.bits1 : waitsOk e1.T1.2 e1.B1 = true := by kernel_rfl
def e4.T4 : Bool × List (List Nat × List Nat) := (true, [([], []), ([0], [0]), ([1], [1]), ([2], [2]), ([], []), ([], []), ([], []), ([5, 6], [5, 6]), ([3, 4, 7, 7, 0, 1, 2, 3, 4, 5, 6, 7], [3, 4, 7])])
def e4.B4 : List Nat := [0, 1, 3, 7, 0, 0, 0, 96, 255]
theorem e4.tab4 : rtab .any (opsOf Try.f41 4) = e4.T4 := by kernel_rfl
theorem e4.bits4 : waitsOk e4.T4.2 e4.B4 = true := by kernel_rfl
set_option maxHeartbeats 8000000 in
set_option maxRecDepth 100000 in
theorem evict1_no (W : World) (i : Nat) {p gs gk bm N cs ck n : Nat} {SS KK : List Int} {D : DataW Unit} (h : Rg W p gs gk bm N cs ck n SS KK D) (hn : n < maxLen) (hD : has D (key i) = false) (aa : Int) (ha64 : 0 ≤ aa ∧ aa < 64) (HL : Aside0 (aa - aa % 8 = i)) (hi : i + 8 ≤ N) (hN : N ≤ 64) (y0 y1 y2 y3 y4 y5 y6 y7 : Int) (HE : Aside0 (Eight SS i y0 y1 y2 y3 y4 y5 y6 y7)) (br ba : Nat) (hr : W.heap[br]? = some (.cells #[.pointer (some ⟨p, 0, none⟩)] 37 (0, 0))) (haa : W.heap[ba]? = some (.cells #[.int .i64 aa] 3 (0, 0))) (hne : br ≠ p ∧ br ≠ gs ∧ br ≠ gk ∧ br ≠ bm) (B : Nat) (hB : B ≤ W.heap.size) (hBk : B ≤ gk) (hBm : B ≤ bm) :
    Calls Try.prog 41 #[.pointer (some ⟨ba, 0, none⟩), .pointer (some ⟨br, 0, none⟩)] W fun e w' => (∃ v, e = .returned v) ∧ Rg w' p gs gk bm N cs ck n SS (putL KK i [y0, y1, y2, y3, y4, y5, y6, y7]) D ∧ Below B W w' := by
  have hu := Try.underlying68
  have hu7 := Try.underlying70
  have hca : W.cell? ⟨ba, 0, none⟩ = some (.int .i64 aa) := (blk_cell haa 0).trans rfl
  have HB := Aside0.mk (Below.refl B W)
  have CR := Aside0.mk hr
  have RG := Aside0.mk h
  have HD := Aside0.mk hD
  clear h hr hD
  go_enter Try.func41, Try.ntmps41
  go_upto_region 1 with (go_at_call 33; refine (line_calls aa ha64 _).mono ?_; rintro e w' ⟨rfl, hw⟩; obtain rfl := hw.symm; rw [HL.out])
  refine start_ (n := 6) (S := fun w' => True) (ds := []) #[false, false, false, false, false, false] (by kernel_rfl) rfl rfl trivial (fun hHeld => ?_)
  refine with_tabW e1.tab1 e1.bits1 (fun HT_ HW_ => ?_)
  refine inv_at [0, 1, 2, 3, 4, 5] (fun a0_ b a w' => ∃ (v12 : Value), a = putSel a0_ b [(0, 7, .pointer (some ⟨p, 0, none⟩)), (1, 8, .int .i64 (i : Int)), (2, 9, .pointer (some ⟨p, 0, none⟩)), (3, 10, .int .i64 (i : Int)), (4, 11, .agg #[.int .u64 y0, .int .u64 y1, .int .u64 y2, .int .u64 y3, .int .u64 y4, .int .u64 y5, .int .u64 y6, .int .u64 y7]), (5, 12, v12)] ∧ (Below B W w') ∧ (w'.heap[br]? = some (.cells #[.pointer (some ⟨p, 0, none⟩)] 37 (0, 0))) ∧ (b 5 = false → Rg w' p gs gk bm N cs ck n SS KK D) ∧ (b 5 = true → Rg w' p gs gk bm N cs ck n SS (putL KK i [y0, y1, y2, y3, y4, y5, y6, y7]) D)) HT_.out HW_.out (by kernel_rfl) (by kernel_rfl) ?_ ?_ ?_
  · exact ⟨undef, by simp only [putSel, Bool.false_eq_true, if_false], (below_drew1 HB.out), CR.out, fun _ => (RG.out.drewN 1), fun h_ => absurd h_ (by decide)⟩
  · skip
    clear CR HB RG
    refine steps_cons ?_ ?_
    · rintro b a w' ⟨v12, ha, Q_HB, Q_CR, Q_RG, Q_RG2⟩ hb_ hon hoff
      refine ⟨_, rfl, fun K hK => ?_⟩
      have e1 : a.tmps[1]? = some (.pointer (some ⟨br, 0, none⟩)) := by rw [ha]; exact (putSel_off rfl).trans rfl
      replace ha := Aside0.mk ha
      have HB := Aside0.mk Q_HB
      have CR := Aside0.mk Q_CR
      have RG := Aside0.mk (Q_RG (hoff 5 (by kernel_rfl)))
      have hcr : w'.cell? ⟨br, 0, none⟩ = some (.pointer (some ⟨p, 0, none⟩)) := (blk_cell CR.out 0).trans rfl
      refine value_ (w1 := w') (v := .pointer (some ⟨p, 0, none⟩)) (by rfl) rfl ?_ ?_
      · go_simp
        (try simp only [i64_w])
        try rfl
      refine hK.out _ _ ⟨v12, (by rw [ha.out]; exact putSel_upk 0 hb_ rfl rfl rfl), Q_HB, Q_CR, Q_RG, fun h0_ => absurd ((hoff 5 (by kernel_rfl)).symm.trans h0_) (by decide)⟩
    refine steps_cons ?_ ?_
    · rintro b a w' ⟨v12, ha, Q_HB, Q_CR, Q_RG, Q_RG2⟩ hb_ hon hoff
      refine ⟨_, rfl, fun K hK => ?_⟩
      have e2 : a.tmps[2]? = some (.int .i64 (i : Int)) := by rw [ha]; exact (putSel_off rfl).trans rfl
      replace ha := Aside0.mk ha
      have HB := Aside0.mk Q_HB
      have CR := Aside0.mk Q_CR
      have RG := Aside0.mk (Q_RG (hoff 5 (by kernel_rfl)))
      refine value_ (w1 := w') (v := .int .i64 (i : Int)) (by rfl) rfl ?_ ?_
      · go_simp
        (try simp only [i64_w])
        try rfl
      refine hK.out _ _ ⟨v12, (by rw [ha.out]; exact putSel_upk 1 hb_ rfl rfl rfl), Q_HB, Q_CR, Q_RG, fun h0_ => absurd ((hoff 5 (by kernel_rfl)).symm.trans h0_) (by decide)⟩
    refine steps_cons ?_ ?_
    · rintro b a w' ⟨v12, ha, Q_HB, Q_CR, Q_RG, Q_RG2⟩ hb_ hon hoff
      refine ⟨_, rfl, fun K hK => ?_⟩
      have e1 : a.tmps[1]? = some (.pointer (some ⟨br, 0, none⟩)) := by rw [ha]; exact (putSel_off rfl).trans rfl
      replace ha := Aside0.mk ha
      have HB := Aside0.mk Q_HB
      have CR := Aside0.mk Q_CR
      have RG := Aside0.mk (Q_RG (hoff 5 (by kernel_rfl)))
      have hcr : w'.cell? ⟨br, 0, none⟩ = some (.pointer (some ⟨p, 0, none⟩)) := (blk_cell CR.out 0).trans rfl
      refine value_ (w1 := w') (v := .pointer (some ⟨p, 0, none⟩)) (by rfl) rfl ?_ ?_
      · go_simp
        (try simp only [i64_w])
        try rfl
      refine hK.out _ _ ⟨v12, (by rw [ha.out]; exact putSel_upk 2 hb_ rfl rfl rfl), Q_HB, Q_CR, Q_RG, fun h0_ => absurd ((hoff 5 (by kernel_rfl)).symm.trans h0_) (by decide)⟩
    refine steps_cons ?_ ?_
    · rintro b a w' ⟨v12, ha, Q_HB, Q_CR, Q_RG, Q_RG2⟩ hb_ hon hoff
      refine ⟨_, rfl, fun K hK => ?_⟩
      have e2 : a.tmps[2]? = some (.int .i64 (i : Int)) := by rw [ha]; exact (putSel_off rfl).trans rfl
      replace ha := Aside0.mk ha
      have HB := Aside0.mk Q_HB
      have CR := Aside0.mk Q_CR
      have RG := Aside0.mk (Q_RG (hoff 5 (by kernel_rfl)))
      refine value_ (w1 := w') (v := .int .i64 (i : Int)) (by rfl) rfl ?_ ?_
      · go_simp
        (try simp only [i64_w])
        try rfl
      refine hK.out _ _ ⟨v12, (by rw [ha.out]; exact putSel_upk 3 hb_ rfl rfl rfl), Q_HB, Q_CR, Q_RG, fun h0_ => absurd ((hoff 5 (by kernel_rfl)).symm.trans h0_) (by decide)⟩
    refine steps_cons ?_ ?_
    · rintro b a w' ⟨v12, ha, Q_HB, Q_CR, Q_RG, Q_RG2⟩ hb_ hon hoff
      refine ⟨_, rfl, fun K hK => ?_⟩
      have e9 : a.tmps[9]? = some (.pointer (some ⟨p, 0, none⟩)) := by rw [ha]; exact putSel_on (e := (2, 9, .pointer (some ⟨p, 0, none⟩))) 2 rfl rfl (hon 2 (by kernel_rfl)) rfl
      have e10 : a.tmps[10]? = some (.int .i64 (i : Int)) := by rw [ha]; exact putSel_on (e := (3, 10, .int .i64 (i : Int))) 3 rfl rfl (hon 3 (by kernel_rfl)) rfl
      replace ha := Aside0.mk ha
      have HB := Aside0.mk Q_HB
      have CR := Aside0.mk Q_CR
      have RG := Aside0.mk (Q_RG (hoff 5 (by kernel_rfl)))
      refine goes_ Try.func32 (by kernel_rfl) rfl #[.pointer (some ⟨p, 0, none⟩), .int .i64 (i : Int)] (by rfl) rfl rfl (by first | (simp only [List.map_toArray, List.map_cons, List.map_nil, Act.eval, Array.getD_eq_getD_getElem?, Option.getD_some, e9, e10]; done) | (simp only [List.map_toArray, List.map_cons, List.map_nil, Act.eval, Array.getD_eq_getD_getElem?, Option.getD_some, e9, e10]; rfl)) ?_
      with_reducible refine (noted_calls _ RG.out i hi hN y0 y1 y2 y3 y4 y5 y6 y7 HE).mono ?_
      rintro e w3 ⟨rfl, hb⟩
      refine ⟨_, rfl, ?_⟩
      refine hK.out _ _ ⟨v12, (by rw [ha.out]; exact putSel_upk 4 hb_ rfl rfl rfl), (HB.out.trans (hb.mono (Nat.le_trans hB HB.out.size))), (blk_below CR.out hb), fun _ => (RG.out.below hb), fun h0_ => absurd ((hoff 5 (by kernel_rfl)).symm.trans h0_) (by decide)⟩
    refine steps_cons ?_ ?_
    · rintro b a w' ⟨v12, ha, Q_HB, Q_CR, Q_RG, Q_RG2⟩ hb_ hon hoff
      refine ⟨_, rfl, fun K hK => ?_⟩
      have e7 : a.tmps[7]? = some (.pointer (some ⟨p, 0, none⟩)) := by rw [ha]; exact putSel_on (e := (0, 7, .pointer (some ⟨p, 0, none⟩))) 0 rfl rfl (hon 0 (by kernel_rfl)) rfl
      have e8 : a.tmps[8]? = some (.int .i64 (i : Int)) := by rw [ha]; exact putSel_on (e := (1, 8, .int .i64 (i : Int))) 1 rfl rfl (hon 1 (by kernel_rfl)) rfl
      have e11 : a.tmps[11]? = some (.agg #[.int .u64 y0, .int .u64 y1, .int .u64 y2, .int .u64 y3, .int .u64 y4, .int .u64 y5, .int .u64 y6, .int .u64 y7]) := by rw [ha]; exact putSel_on (e := (4, 11, .agg #[.int .u64 y0, .int .u64 y1, .int .u64 y2, .int .u64 y3, .int .u64 y4, .int .u64 y5, .int .u64 y6, .int .u64 y7])) 4 rfl rfl (hon 4 (by kernel_rfl)) rfl
      replace ha := Aside0.mk ha
      have HB := Aside0.mk Q_HB
      have CR := Aside0.mk Q_CR
      have RG := Aside0.mk (Q_RG hb_)
      refine goes_ Try.func35 (by kernel_rfl) rfl #[.pointer (some ⟨p, 0, none⟩), .int .i64 (i : Int), .agg #[.int .u64 y0, .int .u64 y1, .int .u64 y2, .int .u64 y3, .int .u64 y4, .int .u64 y5, .int .u64 y6, .int .u64 y7]] (by rfl) rfl rfl (by first | (simp only [List.map_toArray, List.map_cons, List.map_nil, Act.eval, Array.getD_eq_getD_getElem?, Option.getD_some, e7, e8, e11]; done) | (simp only [List.map_toArray, List.map_cons, List.map_nil, Act.eval, Array.getD_eq_getD_getElem?, Option.getD_some, e7, e8, e11]; rfl)) ?_
      with_reducible refine (keep_calls _ RG.out i hi hN y0 y1 y2 y3 y4 y5 y6 y7).mono ?_
      rintro e w3 ⟨⟨v, rfl⟩, hR, hg⟩
      refine ⟨_, rfl, ?_⟩
      refine hK.out _ _ ⟨v, (by rw [ha.out]; exact putSel_upk 5 hb_ rfl rfl rfl), (HB.out.grown hg (Nat.le_trans hB HB.out.size) (fun k e => by cases e; exact hBk)), ((hg.block br (blk_lt CR.out) (by simp; exact hne.2.2.1)).trans CR.out), fun h0_ => absurd ((up_self b 5).symm.trans h0_) (by decide), fun _ => hR⟩
    exact steps_nil
  rintro b a wz hall ⟨v12, ha, Q_HB, Q_CR, Q_RG, Q_RG2⟩
  clear CR HB RG
  have hb0_ := hall 0 (by kernel_rfl)
  have hb1_ := hall 1 (by kernel_rfl)
  have hb2_ := hall 2 (by kernel_rfl)
  have hb3_ := hall 3 (by kernel_rfl)
  have hb4_ := hall 4 (by kernel_rfl)
  have hb5_ := hall 5 (by kernel_rfl)
  subst ha
  simp only [putSel, hb0_, hb1_, hb2_, hb3_, hb4_, hb5_, if_true, Act.put, List.setIfInBounds_toArray, List.set_cons_zero, List.set_cons_succ]
  have HB := Aside0.mk Q_HB
  clear Q_HB
  have CR := Aside0.mk Q_CR
  clear Q_CR
  clear Q_RG
  have RG2 := Aside0.mk (Q_RG2 hb5_)
  clear Q_RG2
  clear hall hb0_ hb1_ hb2_ hb3_ hb4_ hb5_
  have hcr : wz.cell? ⟨br, 0, none⟩ = some (.pointer (some ⟨p, 0, none⟩)) := (blk_cell CR.out 0).trans rfl
  have hcm : wz.cell? ⟨p, 2, none⟩ = some (.map (some bm)) := RG2.out.mapcell
  obtain ⟨c, hrun⟩ := look_ok RG2.out.mp i (by omega)
  rw [HD.out] at hrun
  have HBB := HB
  clear HB
  obtain ⟨wk, hwk⟩ : ∃ wk, wk = wz := ⟨_, rfl⟩
  subst hwk
  have HB := Aside0.mk (Below.refl wk.heap.size wk)
  go_upto_region 3 with (first | ((with_reducible refine gate_dst (N := 3) rfl ?_); refine box_event ?hg (N := 3) ?hd (cs := #[.int .u64 0, .int .u64 0, .int .u64 0, .int .u64 0, .int .u64 0, .int .u64 0, .int .u64 0, .int .u64 0]) (t := 70) ?hr ?_; (case hd => rfl); (case hg => rfl); (case hr => first | (go_simp; done) | (go_simp; rfl)); intro g3 hg w1_ hbox hb; have n0_ := Aside0.mk (below_step (by repeat (first | (with_reducible first | exact HB.out | apply below_alloc | apply pw_below_drewN | apply below_drew1) | exact HB.out)) hb); have n1_ := Aside0.mk hbox; have n2_ := Aside0.mk ((by rw [hg]; exact (below_size (by repeat (first | (with_reducible first | exact HB.out | apply below_alloc | apply pw_below_drewN | apply below_drew1) | exact HB.out)))) : wk.heap.size ≤ g3); clear HB; have HB := n0_; have BK3 := n1_; have GE3 := n2_; clear n0_ n1_ n2_; clear hb hbox hg; have hc3_0 : w1_.cell? ⟨g3, 0, none⟩ = some (.int .u64 0) := (blk_cell BK3.out 0).trans rfl; have hf3_0 := blk_frozen BK3.out 0; have hc3_1 : w1_.cell? ⟨g3, 1, none⟩ = some (.int .u64 0) := (blk_cell BK3.out 1).trans rfl; have hf3_1 := blk_frozen BK3.out 1; have hc3_2 : w1_.cell? ⟨g3, 2, none⟩ = some (.int .u64 0) := (blk_cell BK3.out 2).trans rfl; have hf3_2 := blk_frozen BK3.out 2; have hc3_3 : w1_.cell? ⟨g3, 3, none⟩ = some (.int .u64 0) := (blk_cell BK3.out 3).trans rfl; have hf3_3 := blk_frozen BK3.out 3; have hc3_4 : w1_.cell? ⟨g3, 4, none⟩ = some (.int .u64 0) := (blk_cell BK3.out 4).trans rfl; have hf3_4 := blk_frozen BK3.out 4; have hc3_5 : w1_.cell? ⟨g3, 5, none⟩ = some (.int .u64 0) := (blk_cell BK3.out 5).trans rfl; have hf3_5 := blk_frozen BK3.out 5; have hc3_6 : w1_.cell? ⟨g3, 6, none⟩ = some (.int .u64 0) := (blk_cell BK3.out 6).trans rfl; have hf3_6 := blk_frozen BK3.out 6; have hc3_7 : w1_.cell? ⟨g3, 7, none⟩ = some (.int .u64 0) := (blk_cell BK3.out 7).trans rfl; have hf3_7 := blk_frozen BK3.out 7))
  generalize hw_ : ((((((((w1_.setCell ⟨g3, 0, none⟩ (.int .u64 c.y0)).setCell ⟨g3, 1, none⟩ (.int .u64 c.y1)).setCell ⟨g3, 2, none⟩ (.int .u64 c.y2)).setCell ⟨g3, 3, none⟩ (.int .u64 c.y3)).setCell ⟨g3, 4, none⟩ (.int .u64 c.y4)).setCell ⟨g3, 5, none⟩ (.int .u64 c.y5)).setCell ⟨g3, 6, none⟩ (.int .u64 c.y6)).setCell ⟨g3, 7, none⟩ (.int .u64 c.y7)) = w2_
  have n0_ := Aside0.mk (show Below wk.heap.size wk w2_ from by rw [← hw_]; exact (by repeat (first | (with_reducible first | exact HB.out | apply below_alloc | apply pw_below_drewN | apply below_drew1 | refine below_set ?_ GE3.out) | exact HB.out)))
  have n1_ := Aside0.mk (show w2_.heap[g3]? = some (.cells #[.int .u64 c.y0, .int .u64 c.y1, .int .u64 c.y2, .int .u64 c.y3, .int .u64 c.y4, .int .u64 c.y5, .int .u64 c.y6, .int .u64 c.y7] 70 (0, 0)) from by rw [← hw_]; exact (by (with_reducible repeat (first | refine blk_drewN ?_ _ | refine blk_drew ?_ | refine blk_alloc ?_ _)); refine blk_put (cs := #[.int .u64 c.y0, .int .u64 c.y1, .int .u64 c.y2, .int .u64 c.y3, .int .u64 c.y4, .int .u64 c.y5, .int .u64 c.y6, .int .u64 0]) ?_ 7 _ rfl; (with_reducible repeat (first | refine blk_drewN ?_ _ | refine blk_drew ?_ | refine blk_alloc ?_ _)); refine blk_put (cs := #[.int .u64 c.y0, .int .u64 c.y1, .int .u64 c.y2, .int .u64 c.y3, .int .u64 c.y4, .int .u64 c.y5, .int .u64 0, .int .u64 0]) ?_ 6 _ rfl; (with_reducible repeat (first | refine blk_drewN ?_ _ | refine blk_drew ?_ | refine blk_alloc ?_ _)); refine blk_put (cs := #[.int .u64 c.y0, .int .u64 c.y1, .int .u64 c.y2, .int .u64 c.y3, .int .u64 c.y4, .int .u64 0, .int .u64 0, .int .u64 0]) ?_ 5 _ rfl; (with_reducible repeat (first | refine blk_drewN ?_ _ | refine blk_drew ?_ | refine blk_alloc ?_ _)); refine blk_put (cs := #[.int .u64 c.y0, .int .u64 c.y1, .int .u64 c.y2, .int .u64 c.y3, .int .u64 0, .int .u64 0, .int .u64 0, .int .u64 0]) ?_ 4 _ rfl; (with_reducible repeat (first | refine blk_drewN ?_ _ | refine blk_drew ?_ | refine blk_alloc ?_ _)); refine blk_put (cs := #[.int .u64 c.y0, .int .u64 c.y1, .int .u64 c.y2, .int .u64 0, .int .u64 0, .int .u64 0, .int .u64 0, .int .u64 0]) ?_ 3 _ rfl; (with_reducible repeat (first | refine blk_drewN ?_ _ | refine blk_drew ?_ | refine blk_alloc ?_ _)); refine blk_put (cs := #[.int .u64 c.y0, .int .u64 c.y1, .int .u64 0, .int .u64 0, .int .u64 0, .int .u64 0, .int .u64 0, .int .u64 0]) ?_ 2 _ rfl; (with_reducible repeat (first | refine blk_drewN ?_ _ | refine blk_drew ?_ | refine blk_alloc ?_ _)); refine blk_put (cs := #[.int .u64 c.y0, .int .u64 0, .int .u64 0, .int .u64 0, .int .u64 0, .int .u64 0, .int .u64 0, .int .u64 0]) ?_ 1 _ rfl; (with_reducible repeat (first | refine blk_drewN ?_ _ | refine blk_drew ?_ | refine blk_alloc ?_ _)); refine blk_put (cs := #[.int .u64 0, .int .u64 0, .int .u64 0, .int .u64 0, .int .u64 0, .int .u64 0, .int .u64 0, .int .u64 0]) ?_ 0 _ rfl; (with_reducible repeat (first | refine blk_drewN ?_ _ | refine blk_drew ?_ | refine blk_alloc ?_ _)); exact BK3.out))
  clear HB
  clear BK3
  have HB := n0_
  have BK3 := n1_
  clear n0_ n1_
  clear hw_
  have n8_ := Aside0.mk (HBB.out.trans (HB.out.mono (Nat.le_trans hB HBB.out.size)))
  have n9_ := Aside0.mk (RG2.out.below HB.out)
  have n7_ := Aside0.mk (blk_below CR.out HB.out)
  clear HB HBB RG2 CR hcr hcm hrun
  have HB := n8_
  have RG := n9_
  have CR := n7_
  clear n7_ n8_ n9_
  go_wp2
  go_end0
  exact ⟨⟨_, rfl⟩, RG.out, HB.out⟩

set_option maxHeartbeats 8000000 in
set_option maxRecDepth 100000 in
theorem evict1_yes (W : World) (i : Nat) {p gs gk bm N cs ck n : Nat} {SS KK : List Int} {D : DataW Unit} (h : Rg W p gs gk bm N cs ck n SS KK D) (hn : n < maxLen) (hD : has D (key i) = true) (aa : Int) (ha64 : 0 ≤ aa ∧ aa < 64) (HL : Aside0 (aa - aa % 8 = i)) (hi : i + 8 ≤ N) (hN : N ≤ 64) (y0 y1 y2 y3 y4 y5 y6 y7 : Int) (HE : Aside0 (Eight SS i y0 y1 y2 y3 y4 y5 y6 y7)) (br ba : Nat) (hr : W.heap[br]? = some (.cells #[.pointer (some ⟨p, 0, none⟩)] 37 (0, 0))) (haa : W.heap[ba]? = some (.cells #[.int .i64 aa] 3 (0, 0))) (hne : br ≠ p ∧ br ≠ gs ∧ br ≠ gk ∧ br ≠ bm) (B : Nat) (hB : B ≤ W.heap.size) (hBk : B ≤ gk) (hBm : B ≤ bm) :
    Calls Try.prog 41 #[.pointer (some ⟨ba, 0, none⟩), .pointer (some ⟨br, 0, none⟩)] W fun e w' => (∃ v, e = .returned v) ∧ Rg w' p gs gk bm N cs ck (n + 1) SS (putL KK i [y0, y1, y2, y3, y4, y5, y6, y7]) (D.put (.int .i64 (i : Int)) (.agg [.lit (.int .u64 y0), .lit (.int .u64 y1), .lit (.int .u64 y2), .lit (.int .u64 y3), .lit (.int .u64 y4), .lit (.int .u64 y5), .lit (.int .u64 y6), .lit (.int .u64 y7)])) ∧ Below B W w' := by
  have hu := Try.underlying68
  have hu7 := Try.underlying70
  have hca : W.cell? ⟨ba, 0, none⟩ = some (.int .i64 aa) := (blk_cell haa 0).trans rfl
  have HB := Aside0.mk (Below.refl B W)
  have CR := Aside0.mk hr
  have RG := Aside0.mk h
  have HD := Aside0.mk hD
  clear h hr hD
  go_enter Try.func41, Try.ntmps41
  go_upto_region 1 with (go_at_call 33; refine (line_calls aa ha64 _).mono ?_; rintro e w' ⟨rfl, hw⟩; obtain rfl := hw.symm; rw [HL.out])
  refine start_ (n := 6) (S := fun w' => True) (ds := []) #[false, false, false, false, false, false] (by kernel_rfl) rfl rfl trivial (fun hHeld => ?_)
  refine with_tabW e1.tab1 e1.bits1 (fun HT_ HW_ => ?_)
  refine inv_at [0, 1, 2, 3, 4, 5] (fun a0_ b a w' => ∃ (v12 : Value), a = putSel a0_ b [(0, 7, .pointer (some ⟨p, 0, none⟩)), (1, 8, .int .i64 (i : Int)), (2, 9, .pointer (some ⟨p, 0, none⟩)), (3, 10, .int .i64 (i : Int)), (4, 11, .agg #[.int .u64 y0, .int .u64 y1, .int .u64 y2, .int .u64 y3, .int .u64 y4, .int .u64 y5, .int .u64 y6, .int .u64 y7]), (5, 12, v12)] ∧ (Below B W w') ∧ (w'.heap[br]? = some (.cells #[.pointer (some ⟨p, 0, none⟩)] 37 (0, 0))) ∧ (b 5 = false → Rg w' p gs gk bm N cs ck n SS KK D) ∧ (b 5 = true → Rg w' p gs gk bm N cs ck n SS (putL KK i [y0, y1, y2, y3, y4, y5, y6, y7]) D)) HT_.out HW_.out (by kernel_rfl) (by kernel_rfl) ?_ ?_ ?_
  · exact ⟨undef, by simp only [putSel, Bool.false_eq_true, if_false], (below_drew1 HB.out), CR.out, fun _ => (RG.out.drewN 1), fun h_ => absurd h_ (by decide)⟩
  · skip
    clear CR HB RG
    refine steps_cons ?_ ?_
    · rintro b a w' ⟨v12, ha, Q_HB, Q_CR, Q_RG, Q_RG2⟩ hb_ hon hoff
      refine ⟨_, rfl, fun K hK => ?_⟩
      have e1 : a.tmps[1]? = some (.pointer (some ⟨br, 0, none⟩)) := by rw [ha]; exact (putSel_off rfl).trans rfl
      replace ha := Aside0.mk ha
      have HB := Aside0.mk Q_HB
      have CR := Aside0.mk Q_CR
      have RG := Aside0.mk (Q_RG (hoff 5 (by kernel_rfl)))
      have hcr : w'.cell? ⟨br, 0, none⟩ = some (.pointer (some ⟨p, 0, none⟩)) := (blk_cell CR.out 0).trans rfl
      refine value_ (w1 := w') (v := .pointer (some ⟨p, 0, none⟩)) (by rfl) rfl ?_ ?_
      · go_simp
        (try simp only [i64_w])
        try rfl
      refine hK.out _ _ ⟨v12, (by rw [ha.out]; exact putSel_upk 0 hb_ rfl rfl rfl), Q_HB, Q_CR, Q_RG, fun h0_ => absurd ((hoff 5 (by kernel_rfl)).symm.trans h0_) (by decide)⟩
    refine steps_cons ?_ ?_
    · rintro b a w' ⟨v12, ha, Q_HB, Q_CR, Q_RG, Q_RG2⟩ hb_ hon hoff
      refine ⟨_, rfl, fun K hK => ?_⟩
      have e2 : a.tmps[2]? = some (.int .i64 (i : Int)) := by rw [ha]; exact (putSel_off rfl).trans rfl
      replace ha := Aside0.mk ha
      have HB := Aside0.mk Q_HB
      have CR := Aside0.mk Q_CR
      have RG := Aside0.mk (Q_RG (hoff 5 (by kernel_rfl)))
      refine value_ (w1 := w') (v := .int .i64 (i : Int)) (by rfl) rfl ?_ ?_
      · go_simp
        (try simp only [i64_w])
        try rfl
      refine hK.out _ _ ⟨v12, (by rw [ha.out]; exact putSel_upk 1 hb_ rfl rfl rfl), Q_HB, Q_CR, Q_RG, fun h0_ => absurd ((hoff 5 (by kernel_rfl)).symm.trans h0_) (by decide)⟩
    refine steps_cons ?_ ?_
    · rintro b a w' ⟨v12, ha, Q_HB, Q_CR, Q_RG, Q_RG2⟩ hb_ hon hoff
      refine ⟨_, rfl, fun K hK => ?_⟩
      have e1 : a.tmps[1]? = some (.pointer (some ⟨br, 0, none⟩)) := by rw [ha]; exact (putSel_off rfl).trans rfl
      replace ha := Aside0.mk ha
      have HB := Aside0.mk Q_HB
      have CR := Aside0.mk Q_CR
      have RG := Aside0.mk (Q_RG (hoff 5 (by kernel_rfl)))
      have hcr : w'.cell? ⟨br, 0, none⟩ = some (.pointer (some ⟨p, 0, none⟩)) := (blk_cell CR.out 0).trans rfl
      refine value_ (w1 := w') (v := .pointer (some ⟨p, 0, none⟩)) (by rfl) rfl ?_ ?_
      · go_simp
        (try simp only [i64_w])
        try rfl
      refine hK.out _ _ ⟨v12, (by rw [ha.out]; exact putSel_upk 2 hb_ rfl rfl rfl), Q_HB, Q_CR, Q_RG, fun h0_ => absurd ((hoff 5 (by kernel_rfl)).symm.trans h0_) (by decide)⟩
    refine steps_cons ?_ ?_
    · rintro b a w' ⟨v12, ha, Q_HB, Q_CR, Q_RG, Q_RG2⟩ hb_ hon hoff
      refine ⟨_, rfl, fun K hK => ?_⟩
      have e2 : a.tmps[2]? = some (.int .i64 (i : Int)) := by rw [ha]; exact (putSel_off rfl).trans rfl
      replace ha := Aside0.mk ha
      have HB := Aside0.mk Q_HB
      have CR := Aside0.mk Q_CR
      have RG := Aside0.mk (Q_RG (hoff 5 (by kernel_rfl)))
      refine value_ (w1 := w') (v := .int .i64 (i : Int)) (by rfl) rfl ?_ ?_
      · go_simp
        (try simp only [i64_w])
        try rfl
      refine hK.out _ _ ⟨v12, (by rw [ha.out]; exact putSel_upk 3 hb_ rfl rfl rfl), Q_HB, Q_CR, Q_RG, fun h0_ => absurd ((hoff 5 (by kernel_rfl)).symm.trans h0_) (by decide)⟩
    refine steps_cons ?_ ?_
    · rintro b a w' ⟨v12, ha, Q_HB, Q_CR, Q_RG, Q_RG2⟩ hb_ hon hoff
      refine ⟨_, rfl, fun K hK => ?_⟩
      have e9 : a.tmps[9]? = some (.pointer (some ⟨p, 0, none⟩)) := by rw [ha]; exact putSel_on (e := (2, 9, .pointer (some ⟨p, 0, none⟩))) 2 rfl rfl (hon 2 (by kernel_rfl)) rfl
      have e10 : a.tmps[10]? = some (.int .i64 (i : Int)) := by rw [ha]; exact putSel_on (e := (3, 10, .int .i64 (i : Int))) 3 rfl rfl (hon 3 (by kernel_rfl)) rfl
      replace ha := Aside0.mk ha
      have HB := Aside0.mk Q_HB
      have CR := Aside0.mk Q_CR
      have RG := Aside0.mk (Q_RG (hoff 5 (by kernel_rfl)))
      refine goes_ Try.func32 (by kernel_rfl) rfl #[.pointer (some ⟨p, 0, none⟩), .int .i64 (i : Int)] (by rfl) rfl rfl (by first | (simp only [List.map_toArray, List.map_cons, List.map_nil, Act.eval, Array.getD_eq_getD_getElem?, Option.getD_some, e9, e10]; done) | (simp only [List.map_toArray, List.map_cons, List.map_nil, Act.eval, Array.getD_eq_getD_getElem?, Option.getD_some, e9, e10]; rfl)) ?_
      with_reducible refine (noted_calls _ RG.out i hi hN y0 y1 y2 y3 y4 y5 y6 y7 HE).mono ?_
      rintro e w3 ⟨rfl, hb⟩
      refine ⟨_, rfl, ?_⟩
      refine hK.out _ _ ⟨v12, (by rw [ha.out]; exact putSel_upk 4 hb_ rfl rfl rfl), (HB.out.trans (hb.mono (Nat.le_trans hB HB.out.size))), (blk_below CR.out hb), fun _ => (RG.out.below hb), fun h0_ => absurd ((hoff 5 (by kernel_rfl)).symm.trans h0_) (by decide)⟩
    refine steps_cons ?_ ?_
    · rintro b a w' ⟨v12, ha, Q_HB, Q_CR, Q_RG, Q_RG2⟩ hb_ hon hoff
      refine ⟨_, rfl, fun K hK => ?_⟩
      have e7 : a.tmps[7]? = some (.pointer (some ⟨p, 0, none⟩)) := by rw [ha]; exact putSel_on (e := (0, 7, .pointer (some ⟨p, 0, none⟩))) 0 rfl rfl (hon 0 (by kernel_rfl)) rfl
      have e8 : a.tmps[8]? = some (.int .i64 (i : Int)) := by rw [ha]; exact putSel_on (e := (1, 8, .int .i64 (i : Int))) 1 rfl rfl (hon 1 (by kernel_rfl)) rfl
      have e11 : a.tmps[11]? = some (.agg #[.int .u64 y0, .int .u64 y1, .int .u64 y2, .int .u64 y3, .int .u64 y4, .int .u64 y5, .int .u64 y6, .int .u64 y7]) := by rw [ha]; exact putSel_on (e := (4, 11, .agg #[.int .u64 y0, .int .u64 y1, .int .u64 y2, .int .u64 y3, .int .u64 y4, .int .u64 y5, .int .u64 y6, .int .u64 y7])) 4 rfl rfl (hon 4 (by kernel_rfl)) rfl
      replace ha := Aside0.mk ha
      have HB := Aside0.mk Q_HB
      have CR := Aside0.mk Q_CR
      have RG := Aside0.mk (Q_RG hb_)
      refine goes_ Try.func35 (by kernel_rfl) rfl #[.pointer (some ⟨p, 0, none⟩), .int .i64 (i : Int), .agg #[.int .u64 y0, .int .u64 y1, .int .u64 y2, .int .u64 y3, .int .u64 y4, .int .u64 y5, .int .u64 y6, .int .u64 y7]] (by rfl) rfl rfl (by first | (simp only [List.map_toArray, List.map_cons, List.map_nil, Act.eval, Array.getD_eq_getD_getElem?, Option.getD_some, e7, e8, e11]; done) | (simp only [List.map_toArray, List.map_cons, List.map_nil, Act.eval, Array.getD_eq_getD_getElem?, Option.getD_some, e7, e8, e11]; rfl)) ?_
      with_reducible refine (keep_calls _ RG.out i hi hN y0 y1 y2 y3 y4 y5 y6 y7).mono ?_
      rintro e w3 ⟨⟨v, rfl⟩, hR, hg⟩
      refine ⟨_, rfl, ?_⟩
      refine hK.out _ _ ⟨v, (by rw [ha.out]; exact putSel_upk 5 hb_ rfl rfl rfl), (HB.out.grown hg (Nat.le_trans hB HB.out.size) (fun k e => by cases e; exact hBk)), ((hg.block br (blk_lt CR.out) (by simp; exact hne.2.2.1)).trans CR.out), fun h0_ => absurd ((up_self b 5).symm.trans h0_) (by decide), fun _ => hR⟩
    exact steps_nil
  rintro b a wz hall ⟨v12, ha, Q_HB, Q_CR, Q_RG, Q_RG2⟩
  clear CR HB RG
  have hb0_ := hall 0 (by kernel_rfl)
  have hb1_ := hall 1 (by kernel_rfl)
  have hb2_ := hall 2 (by kernel_rfl)
  have hb3_ := hall 3 (by kernel_rfl)
  have hb4_ := hall 4 (by kernel_rfl)
  have hb5_ := hall 5 (by kernel_rfl)
  subst ha
  simp only [putSel, hb0_, hb1_, hb2_, hb3_, hb4_, hb5_, if_true, Act.put, List.setIfInBounds_toArray, List.set_cons_zero, List.set_cons_succ]
  have HB := Aside0.mk Q_HB
  clear Q_HB
  have CR := Aside0.mk Q_CR
  clear Q_CR
  clear Q_RG
  have RG2 := Aside0.mk (Q_RG2 hb5_)
  clear Q_RG2
  clear hall hb0_ hb1_ hb2_ hb3_ hb4_ hb5_
  have hcr : wz.cell? ⟨br, 0, none⟩ = some (.pointer (some ⟨p, 0, none⟩)) := (blk_cell CR.out 0).trans rfl
  have hcm : wz.cell? ⟨p, 2, none⟩ = some (.map (some bm)) := RG2.out.mapcell
  obtain ⟨c, hrun⟩ := look_ok RG2.out.mp i (by omega)
  rw [HD.out] at hrun
  have HBB := HB
  clear HB
  obtain ⟨wk, hwk⟩ : ∃ wk, wk = wz := ⟨_, rfl⟩
  subst hwk
  have HB := Aside0.mk (Below.refl wk.heap.size wk)
  go_upto_region 3 with (first | ((with_reducible refine gate_dst (N := 3) rfl ?_); refine box_event ?hg (N := 3) ?hd (cs := #[.int .u64 0, .int .u64 0, .int .u64 0, .int .u64 0, .int .u64 0, .int .u64 0, .int .u64 0, .int .u64 0]) (t := 70) ?hr ?_; (case hd => rfl); (case hg => rfl); (case hr => first | (go_simp; done) | (go_simp; rfl)); intro g3 hg w1_ hbox hb; have n0_ := Aside0.mk (below_step (by repeat (first | (with_reducible first | exact HB.out | apply below_alloc | apply pw_below_drewN | apply below_drew1) | exact HB.out)) hb); have n1_ := Aside0.mk hbox; have n2_ := Aside0.mk ((by rw [hg]; exact (below_size (by repeat (first | (with_reducible first | exact HB.out | apply below_alloc | apply pw_below_drewN | apply below_drew1) | exact HB.out)))) : wk.heap.size ≤ g3); clear HB; have HB := n0_; have BK3 := n1_; have GE3 := n2_; clear n0_ n1_ n2_; clear hb hbox hg; have hc3_0 : w1_.cell? ⟨g3, 0, none⟩ = some (.int .u64 0) := (blk_cell BK3.out 0).trans rfl; have hf3_0 := blk_frozen BK3.out 0; have hc3_1 : w1_.cell? ⟨g3, 1, none⟩ = some (.int .u64 0) := (blk_cell BK3.out 1).trans rfl; have hf3_1 := blk_frozen BK3.out 1; have hc3_2 : w1_.cell? ⟨g3, 2, none⟩ = some (.int .u64 0) := (blk_cell BK3.out 2).trans rfl; have hf3_2 := blk_frozen BK3.out 2; have hc3_3 : w1_.cell? ⟨g3, 3, none⟩ = some (.int .u64 0) := (blk_cell BK3.out 3).trans rfl; have hf3_3 := blk_frozen BK3.out 3; have hc3_4 : w1_.cell? ⟨g3, 4, none⟩ = some (.int .u64 0) := (blk_cell BK3.out 4).trans rfl; have hf3_4 := blk_frozen BK3.out 4; have hc3_5 : w1_.cell? ⟨g3, 5, none⟩ = some (.int .u64 0) := (blk_cell BK3.out 5).trans rfl; have hf3_5 := blk_frozen BK3.out 5; have hc3_6 : w1_.cell? ⟨g3, 6, none⟩ = some (.int .u64 0) := (blk_cell BK3.out 6).trans rfl; have hf3_6 := blk_frozen BK3.out 6; have hc3_7 : w1_.cell? ⟨g3, 7, none⟩ = some (.int .u64 0) := (blk_cell BK3.out 7).trans rfl; have hf3_7 := blk_frozen BK3.out 7))
  generalize hw_ : ((((((((w1_.setCell ⟨g3, 0, none⟩ (.int .u64 c.y0)).setCell ⟨g3, 1, none⟩ (.int .u64 c.y1)).setCell ⟨g3, 2, none⟩ (.int .u64 c.y2)).setCell ⟨g3, 3, none⟩ (.int .u64 c.y3)).setCell ⟨g3, 4, none⟩ (.int .u64 c.y4)).setCell ⟨g3, 5, none⟩ (.int .u64 c.y5)).setCell ⟨g3, 6, none⟩ (.int .u64 c.y6)).setCell ⟨g3, 7, none⟩ (.int .u64 c.y7)) = w2_
  have n0_ := Aside0.mk (show Below wk.heap.size wk w2_ from by rw [← hw_]; exact (by repeat (first | (with_reducible first | exact HB.out | apply below_alloc | apply pw_below_drewN | apply below_drew1 | refine below_set ?_ GE3.out) | exact HB.out)))
  have n1_ := Aside0.mk (show w2_.heap[g3]? = some (.cells #[.int .u64 c.y0, .int .u64 c.y1, .int .u64 c.y2, .int .u64 c.y3, .int .u64 c.y4, .int .u64 c.y5, .int .u64 c.y6, .int .u64 c.y7] 70 (0, 0)) from by rw [← hw_]; exact (by (with_reducible repeat (first | refine blk_drewN ?_ _ | refine blk_drew ?_ | refine blk_alloc ?_ _)); refine blk_put (cs := #[.int .u64 c.y0, .int .u64 c.y1, .int .u64 c.y2, .int .u64 c.y3, .int .u64 c.y4, .int .u64 c.y5, .int .u64 c.y6, .int .u64 0]) ?_ 7 _ rfl; (with_reducible repeat (first | refine blk_drewN ?_ _ | refine blk_drew ?_ | refine blk_alloc ?_ _)); refine blk_put (cs := #[.int .u64 c.y0, .int .u64 c.y1, .int .u64 c.y2, .int .u64 c.y3, .int .u64 c.y4, .int .u64 c.y5, .int .u64 0, .int .u64 0]) ?_ 6 _ rfl; (with_reducible repeat (first | refine blk_drewN ?_ _ | refine blk_drew ?_ | refine blk_alloc ?_ _)); refine blk_put (cs := #[.int .u64 c.y0, .int .u64 c.y1, .int .u64 c.y2, .int .u64 c.y3, .int .u64 c.y4, .int .u64 0, .int .u64 0, .int .u64 0]) ?_ 5 _ rfl; (with_reducible repeat (first | refine blk_drewN ?_ _ | refine blk_drew ?_ | refine blk_alloc ?_ _)); refine blk_put (cs := #[.int .u64 c.y0, .int .u64 c.y1, .int .u64 c.y2, .int .u64 c.y3, .int .u64 0, .int .u64 0, .int .u64 0, .int .u64 0]) ?_ 4 _ rfl; (with_reducible repeat (first | refine blk_drewN ?_ _ | refine blk_drew ?_ | refine blk_alloc ?_ _)); refine blk_put (cs := #[.int .u64 c.y0, .int .u64 c.y1, .int .u64 c.y2, .int .u64 0, .int .u64 0, .int .u64 0, .int .u64 0, .int .u64 0]) ?_ 3 _ rfl; (with_reducible repeat (first | refine blk_drewN ?_ _ | refine blk_drew ?_ | refine blk_alloc ?_ _)); refine blk_put (cs := #[.int .u64 c.y0, .int .u64 c.y1, .int .u64 0, .int .u64 0, .int .u64 0, .int .u64 0, .int .u64 0, .int .u64 0]) ?_ 2 _ rfl; (with_reducible repeat (first | refine blk_drewN ?_ _ | refine blk_drew ?_ | refine blk_alloc ?_ _)); refine blk_put (cs := #[.int .u64 c.y0, .int .u64 0, .int .u64 0, .int .u64 0, .int .u64 0, .int .u64 0, .int .u64 0, .int .u64 0]) ?_ 1 _ rfl; (with_reducible repeat (first | refine blk_drewN ?_ _ | refine blk_drew ?_ | refine blk_alloc ?_ _)); refine blk_put (cs := #[.int .u64 0, .int .u64 0, .int .u64 0, .int .u64 0, .int .u64 0, .int .u64 0, .int .u64 0, .int .u64 0]) ?_ 0 _ rfl; (with_reducible repeat (first | refine blk_drewN ?_ _ | refine blk_drew ?_ | refine blk_alloc ?_ _)); exact BK3.out))
  clear HB
  clear BK3
  have HB := n0_
  have BK3 := n1_
  clear n0_ n1_
  clear hw_
  have n8_ := Aside0.mk (HBB.out.trans (HB.out.mono (Nat.le_trans hB HBB.out.size)))
  have n9_ := Aside0.mk (RG2.out.below HB.out)
  have n7_ := Aside0.mk (blk_below CR.out HB.out)
  clear HB HBB RG2 CR hcr hcm hrun
  have HB := n8_
  have RG := n9_
  have CR := n7_
  clear n7_ n8_ n9_
  go_upto_region 4 with fail
  refine start_ (n := 9) (S := fun w' => True) (ds := []) #[false, false, false, false, false, false, false, false, false] (by kernel_rfl) rfl rfl trivial (fun hHeld => ?_)
  refine with_tabW e4.tab4 e4.bits4 (fun HT_ HW_ => ?_)
  refine inv_at [0, 1, 2, 3, 4, 5, 6, 7, 8] (fun a0_ b a w' => a = putSel a0_ b [(0, 23, .pointer (some ⟨p, 0, none⟩)), (1, 24, .pointer (some ⟨p, 0, none⟩)), (2, 25, .pointer (some ⟨p, 2, none⟩)), (3, 26, .map (some bm)), (4, 27, .int .i64 (i : Int)), (5, 28, .pointer (some ⟨p, 0, none⟩)), (6, 29, .int .i64 (i : Int)), (7, 30, .agg #[.int .u64 y0, .int .u64 y1, .int .u64 y2, .int .u64 y3, .int .u64 y4, .int .u64 y5, .int .u64 y6, .int .u64 y7])] ∧ (Below B W w') ∧ (w'.heap[br]? = some (.cells #[.pointer (some ⟨p, 0, none⟩)] 37 (0, 0))) ∧ (b 8 = false → Rg w' p gs gk bm N cs ck n SS (putL KK i [y0, y1, y2, y3, y4, y5, y6, y7]) D) ∧ (b 8 = true → Rg w' p gs gk bm N cs ck (n + 1) SS (putL KK i [y0, y1, y2, y3, y4, y5, y6, y7]) (D.put (.int .i64 (i : Int)) (.agg [.lit (.int .u64 y0), .lit (.int .u64 y1), .lit (.int .u64 y2), .lit (.int .u64 y3), .lit (.int .u64 y4), .lit (.int .u64 y5), .lit (.int .u64 y6), .lit (.int .u64 y7)])))) HT_.out HW_.out (by kernel_rfl) (by kernel_rfl) ?_ ?_ ?_
  · exact ⟨by simp only [putSel, Bool.false_eq_true, if_false], (below_drew1 HB.out), CR.out, fun _ => (RG.out.drewN 1), fun h_ => absurd h_ (by decide)⟩
  · skip
    clear CR HB RG
    refine steps_cons ?_ ?_
    · rintro b a w' ⟨ha, Q_HB, Q_CR, Q_RG, Q_RG2⟩ hb_ hon hoff
      refine ⟨_, rfl, fun K hK => ?_⟩
      have e1 : a.tmps[1]? = some (.pointer (some ⟨br, 0, none⟩)) := by rw [ha]; exact (putSel_off rfl).trans rfl
      replace ha := Aside0.mk ha
      have HB := Aside0.mk Q_HB
      have CR := Aside0.mk Q_CR
      have RG := Aside0.mk (Q_RG (hoff 8 (by kernel_rfl)))
      have hcr : w'.cell? ⟨br, 0, none⟩ = some (.pointer (some ⟨p, 0, none⟩)) := (blk_cell CR.out 0).trans rfl
      refine value_ (w1 := w') (v := .pointer (some ⟨p, 0, none⟩)) (by rfl) rfl ?_ ?_
      · go_simp
        (try simp only [i64_w])
        try rfl
      refine hK.out _ _ ⟨(by rw [ha.out]; exact putSel_upk 0 hb_ rfl rfl rfl), Q_HB, Q_CR, Q_RG, fun h0_ => absurd ((hoff 8 (by kernel_rfl)).symm.trans h0_) (by decide)⟩
    refine steps_cons ?_ ?_
    · rintro b a w' ⟨ha, Q_HB, Q_CR, Q_RG, Q_RG2⟩ hb_ hon hoff
      refine ⟨_, rfl, fun K hK => ?_⟩
      have e23 : a.tmps[23]? = some (.pointer (some ⟨p, 0, none⟩)) := by rw [ha]; exact putSel_on (e := (0, 23, .pointer (some ⟨p, 0, none⟩))) 0 rfl rfl (hon 0 (by kernel_rfl)) rfl
      replace ha := Aside0.mk ha
      have HB := Aside0.mk Q_HB
      have CR := Aside0.mk Q_CR
      have RG := Aside0.mk (Q_RG (hoff 8 (by kernel_rfl)))
      refine value_ (w1 := w') (v := .pointer (some ⟨p, 0, none⟩)) (by rfl) rfl ?_ ?_
      · go_simp
        (try simp only [i64_w])
        try rfl
      refine hK.out _ _ ⟨(by rw [ha.out]; exact putSel_upk 1 hb_ rfl rfl rfl), Q_HB, Q_CR, Q_RG, fun h0_ => absurd ((hoff 8 (by kernel_rfl)).symm.trans h0_) (by decide)⟩
    refine steps_cons ?_ ?_
    · rintro b a w' ⟨ha, Q_HB, Q_CR, Q_RG, Q_RG2⟩ hb_ hon hoff
      refine ⟨_, rfl, fun K hK => ?_⟩
      have e24 : a.tmps[24]? = some (.pointer (some ⟨p, 0, none⟩)) := by rw [ha]; exact putSel_on (e := (1, 24, .pointer (some ⟨p, 0, none⟩))) 1 rfl rfl (hon 1 (by kernel_rfl)) rfl
      replace ha := Aside0.mk ha
      have HB := Aside0.mk Q_HB
      have CR := Aside0.mk Q_CR
      have RG := Aside0.mk (Q_RG (hoff 8 (by kernel_rfl)))
      refine value_ (w1 := w') (v := .pointer (some ⟨p, 2, none⟩)) (by rfl) rfl ?_ ?_
      · go_simp
        (try simp only [i64_w])
        try rfl
      refine hK.out _ _ ⟨(by rw [ha.out]; exact putSel_upk 2 hb_ rfl rfl rfl), Q_HB, Q_CR, Q_RG, fun h0_ => absurd ((hoff 8 (by kernel_rfl)).symm.trans h0_) (by decide)⟩
    refine steps_cons ?_ ?_
    · rintro b a w' ⟨ha, Q_HB, Q_CR, Q_RG, Q_RG2⟩ hb_ hon hoff
      refine ⟨_, rfl, fun K hK => ?_⟩
      have e25 : a.tmps[25]? = some (.pointer (some ⟨p, 2, none⟩)) := by rw [ha]; exact putSel_on (e := (2, 25, .pointer (some ⟨p, 2, none⟩))) 2 rfl rfl (hon 2 (by kernel_rfl)) rfl
      replace ha := Aside0.mk ha
      have HB := Aside0.mk Q_HB
      have CR := Aside0.mk Q_CR
      have RG := Aside0.mk (Q_RG (hoff 8 (by kernel_rfl)))
      have hcm : w'.cell? ⟨p, 2, none⟩ = some (.map (some bm)) := RG.out.mapcell
      refine value_ (w1 := w') (v := .map (some bm)) (by rfl) rfl ?_ ?_
      · go_simp
        (try simp only [i64_w])
        try rfl
      refine hK.out _ _ ⟨(by rw [ha.out]; exact putSel_upk 3 hb_ rfl rfl rfl), Q_HB, Q_CR, Q_RG, fun h0_ => absurd ((hoff 8 (by kernel_rfl)).symm.trans h0_) (by decide)⟩
    refine steps_cons ?_ ?_
    · rintro b a w' ⟨ha, Q_HB, Q_CR, Q_RG, Q_RG2⟩ hb_ hon hoff
      refine ⟨_, rfl, fun K hK => ?_⟩
      have e2 : a.tmps[2]? = some (.int .i64 (i : Int)) := by rw [ha]; exact (putSel_off rfl).trans rfl
      replace ha := Aside0.mk ha
      have HB := Aside0.mk Q_HB
      have CR := Aside0.mk Q_CR
      have RG := Aside0.mk (Q_RG (hoff 8 (by kernel_rfl)))
      refine value_ (w1 := w') (v := .int .i64 (i : Int)) (by rfl) rfl ?_ ?_
      · go_simp
        (try simp only [i64_w])
        try rfl
      refine hK.out _ _ ⟨(by rw [ha.out]; exact putSel_upk 4 hb_ rfl rfl rfl), Q_HB, Q_CR, Q_RG, fun h0_ => absurd ((hoff 8 (by kernel_rfl)).symm.trans h0_) (by decide)⟩
    refine steps_cons ?_ ?_
    · rintro b a w' ⟨ha, Q_HB, Q_CR, Q_RG, Q_RG2⟩ hb_ hon hoff
      refine ⟨_, rfl, fun K hK => ?_⟩
      have e1 : a.tmps[1]? = some (.pointer (some ⟨br, 0, none⟩)) := by rw [ha]; exact (putSel_off rfl).trans rfl
      replace ha := Aside0.mk ha
      have HB := Aside0.mk Q_HB
      have CR := Aside0.mk Q_CR
      have RG := Aside0.mk (Q_RG (hoff 8 (by kernel_rfl)))
      have hcr : w'.cell? ⟨br, 0, none⟩ = some (.pointer (some ⟨p, 0, none⟩)) := (blk_cell CR.out 0).trans rfl
      refine value_ (w1 := w') (v := .pointer (some ⟨p, 0, none⟩)) (by rfl) rfl ?_ ?_
      · go_simp
        (try simp only [i64_w])
        try rfl
      refine hK.out _ _ ⟨(by rw [ha.out]; exact putSel_upk 5 hb_ rfl rfl rfl), Q_HB, Q_CR, Q_RG, fun h0_ => absurd ((hoff 8 (by kernel_rfl)).symm.trans h0_) (by decide)⟩
    refine steps_cons ?_ ?_
    · rintro b a w' ⟨ha, Q_HB, Q_CR, Q_RG, Q_RG2⟩ hb_ hon hoff
      refine ⟨_, rfl, fun K hK => ?_⟩
      have e2 : a.tmps[2]? = some (.int .i64 (i : Int)) := by rw [ha]; exact (putSel_off rfl).trans rfl
      replace ha := Aside0.mk ha
      have HB := Aside0.mk Q_HB
      have CR := Aside0.mk Q_CR
      have RG := Aside0.mk (Q_RG (hoff 8 (by kernel_rfl)))
      refine value_ (w1 := w') (v := .int .i64 (i : Int)) (by rfl) rfl ?_ ?_
      · go_simp
        (try simp only [i64_w])
        try rfl
      refine hK.out _ _ ⟨(by rw [ha.out]; exact putSel_upk 6 hb_ rfl rfl rfl), Q_HB, Q_CR, Q_RG, fun h0_ => absurd ((hoff 8 (by kernel_rfl)).symm.trans h0_) (by decide)⟩
    refine steps_cons ?_ ?_
    · rintro b a w' ⟨ha, Q_HB, Q_CR, Q_RG, Q_RG2⟩ hb_ hon hoff
      refine ⟨_, rfl, fun K hK => ?_⟩
      have e28 : a.tmps[28]? = some (.pointer (some ⟨p, 0, none⟩)) := by rw [ha]; exact putSel_on (e := (5, 28, .pointer (some ⟨p, 0, none⟩))) 5 rfl rfl (hon 5 (by kernel_rfl)) rfl
      have e29 : a.tmps[29]? = some (.int .i64 (i : Int)) := by rw [ha]; exact putSel_on (e := (6, 29, .int .i64 (i : Int))) 6 rfl rfl (hon 6 (by kernel_rfl)) rfl
      replace ha := Aside0.mk ha
      have HB := Aside0.mk Q_HB
      have CR := Aside0.mk Q_CR
      have RG := Aside0.mk (Q_RG (hoff 8 (by kernel_rfl)))
      refine goes_ Try.func32 (by kernel_rfl) rfl #[.pointer (some ⟨p, 0, none⟩), .int .i64 (i : Int)] (by rfl) rfl rfl (by first | (simp only [List.map_toArray, List.map_cons, List.map_nil, Act.eval, Array.getD_eq_getD_getElem?, Option.getD_some, e28, e29]; done) | (simp only [List.map_toArray, List.map_cons, List.map_nil, Act.eval, Array.getD_eq_getD_getElem?, Option.getD_some, e28, e29]; rfl)) ?_
      with_reducible refine (noted_calls _ RG.out i hi hN y0 y1 y2 y3 y4 y5 y6 y7 HE).mono ?_
      rintro e w3 ⟨rfl, hb⟩
      refine ⟨_, rfl, ?_⟩
      refine hK.out _ _ ⟨(by rw [ha.out]; exact putSel_upk 7 hb_ rfl rfl rfl), (HB.out.trans (hb.mono (Nat.le_trans hB HB.out.size))), (blk_below CR.out hb), fun _ => (RG.out.below hb), fun h0_ => absurd ((hoff 8 (by kernel_rfl)).symm.trans h0_) (by decide)⟩
    refine steps_cons ?_ ?_
    · rintro b a w' ⟨ha, Q_HB, Q_CR, Q_RG, Q_RG2⟩ hb_ hon hoff
      refine ⟨_, rfl, fun K hK => ?_⟩
      have e26 : a.tmps[26]? = some (.map (some bm)) := by rw [ha]; exact putSel_on (e := (3, 26, .map (some bm))) 3 rfl rfl (hon 3 (by kernel_rfl)) rfl
      have e27 : a.tmps[27]? = some (.int .i64 (i : Int)) := by rw [ha]; exact putSel_on (e := (4, 27, .int .i64 (i : Int))) 4 rfl rfl (hon 4 (by kernel_rfl)) rfl
      have e30 : a.tmps[30]? = some (.agg #[.int .u64 y0, .int .u64 y1, .int .u64 y2, .int .u64 y3, .int .u64 y4, .int .u64 y5, .int .u64 y6, .int .u64 y7]) := by rw [ha]; exact putSel_on (e := (7, 30, .agg #[.int .u64 y0, .int .u64 y1, .int .u64 y2, .int .u64 y3, .int .u64 y4, .int .u64 y5, .int .u64 y6, .int .u64 y7])) 7 rfl rfl (hon 7 (by kernel_rfl)) rfl
      replace ha := Aside0.mk ha
      have HB := Aside0.mk Q_HB
      have CR := Aside0.mk Q_CR
      have RG := Aside0.mk (Q_RG hb_)
      obtain ⟨w9, hrun9, hown9, hgr9⟩ := World.ownsMap.update RG.out.mp keyed3 Try.underlying66 hn (key := .int .i64 (i : Int)) (val := .agg #[.int .u64 y0, .int .u64 y1, .int .u64 y2, .int .u64 y3, .int .u64 y4, .int .u64 y5, .int .u64 y6, .int .u64 y7]) (kl := .int .i64 (i : Int)) (d := (.agg [.lit (.int .u64 y0), .lit (.int .u64 y1), .lit (.int .u64 y2), .lit (.int .u64 y3), .lit (.int .u64 y4), .lit (.int .u64 y5), .lit (.int .u64 y6), .lit (.int .u64 y7)])) (ps := []) (key_at i (by omega)) rfl
      refine skip_ (w1 := w9) (by rfl) rfl ?_ ?_
      · simp [execOp, Act.eval, hrun9, Result.andThen, e26, e27, e30]
      have hb9 := HB.out.grown hgr9 (Nat.le_trans hB HB.out.size) (fun k e => by cases e; exact hBm)
      refine hK.out _ _ ⟨(by rw [ha.out]; exact putSel_none (v := undef) rfl), hb9, ((hgr9.block br (blk_lt CR.out) (by simp; exact hne.2.2.2)).trans CR.out), fun h0_ => absurd ((up_self b 8).symm.trans h0_) (by decide), fun _ => (RG.out.upd hgr9 hown9)⟩
    exact steps_nil
  rintro b a wz hall ⟨ha, Q_HB, Q_CR, Q_RG, Q_RG2⟩
  clear CR HB RG
  have hb0_ := hall 0 (by kernel_rfl)
  have hb1_ := hall 1 (by kernel_rfl)
  have hb2_ := hall 2 (by kernel_rfl)
  have hb3_ := hall 3 (by kernel_rfl)
  have hb4_ := hall 4 (by kernel_rfl)
  have hb5_ := hall 5 (by kernel_rfl)
  have hb6_ := hall 6 (by kernel_rfl)
  have hb7_ := hall 7 (by kernel_rfl)
  have hb8_ := hall 8 (by kernel_rfl)
  subst ha
  simp only [putSel, hb0_, hb1_, hb2_, hb3_, hb4_, hb5_, hb6_, hb7_, hb8_, if_true, Act.put, List.setIfInBounds_toArray, List.set_cons_zero, List.set_cons_succ]
  have HB := Aside0.mk Q_HB
  clear Q_HB
  have CR := Aside0.mk Q_CR
  clear Q_CR
  clear Q_RG
  have RG2 := Aside0.mk (Q_RG2 hb8_)
  clear Q_RG2
  clear hall hb0_ hb1_ hb2_ hb3_ hb4_ hb5_ hb6_ hb7_ hb8_
  go_end0
  exact ⟨⟨_, rfl⟩, RG2.out, HB.out⟩

end Go.Proofs.Ytpefbnhicfflpaa.Pm
