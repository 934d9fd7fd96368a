/- Pmem: Flush. Conditions: the region lies as 'Rg' says. -/
import Derived.Test.YtpefbnhicfflpaaPm3
import Derived.Test.YtpefbnhicfflpaaWInv
import Derived.Test.YtpefbnhicfflpaaWInvWords
import Derived.Test.YtpefbnhicfflpaaWTab
namespace Go.Proofs.Ytpefbnhicfflpaa.Pm
open Go.RowKit Go.Proofs.YtpefbnhicfflpaaW.PrintWords Go.Proofs.YtpefbnhicfflpaaW.PrintLast Go.Proofs.YtpefbnhicfflpaaW.PrintMore
set_option linter.unusedSimpArgs false
set_option linter.unusedVariables false
theorem keyed3 : Maps.Keyed Try.prog 3 := Maps.int_keyed Try.underlying3
theorem key_at (i : Nat) (h : i ≤ 64) : keyOf Try.prog 3 (.int .i64 (i : Int)) = some (.int .i64 (i : Int)) := Maps.keyOf_int_mk Try.underlying3 (by
  have h2 : (decide (-9223372036854775808 ≤ (i : Int)) && decide ((i : Int) ≤ 9223372036854775807)) = true := by rw [decide_eq_true (by omega), decide_eq_true (by omega)]; rfl
  exact h2)
theorem line_at (a : Int) (i : Nat) (hi : a - a % 8 = i) (ha : 0 ≤ a ∧ a < 64) (W : World) : Calls Try.prog 33 #[.int .i64 a] W fun e w' => e = .returned (.int .i64 (i : Int)) ∧ Below W.heap.size W w' := by
  refine (line_calls a ha W).mono ?_
  rintro e w' ⟨rfl, rfl⟩
  exact ⟨by rw [hi], Below.refl _ _⟩
theorem Rg.mapcell {p gs gk bm N cs ck n : Nat} {S K : List Int} {D : DataW Unit} {W : World} (h : Rg W p gs gk bm N cs ck n S K D) : W.cell? ⟨p, 2, none⟩ = some (.map (some bm)) := let ⟨st, h1⟩ := h.tp; (blk_cell h1 2).trans rfl
theorem Rg.upd {p gs gk bm N cs ck n : Nat} {S K : List Int} {D : DataW Unit} {W W' : World} {n' : Nat} {D' : DataW Unit} (h : Rg W p gs gk bm N cs ck n S K D) (hg : W.grownBy W' (some bm)) (ho : W'.ownsMap Try.prog 3 noteR bm n' D') : Rg W' p gs gk bm N cs ck n' S K D' := by
  obtain ⟨n1, n2, n3, n4, n5, n6⟩ := h.ne
  obtain ⟨l1, l2, l3, l4⟩ := h.lt
  refine ⟨let ⟨st, h1⟩ := h.tp; ⟨st, (hg.block p l1 (fun e => n4 (by cases e; rfl))).trans h1⟩, ⟨h.rs.len, ?_⟩, ⟨h.rk.len, ?_⟩, ho, h.ne⟩
  · obtain ⟨c, h1, h2⟩ := h.rs.cur
    exact ⟨c, (hg.block gs l2 (fun e => n5 (by cases e; rfl))).trans h1, h2⟩
  · obtain ⟨c, h1, h2⟩ := h.rk.cur
    exact ⟨c, (hg.block gk l3 (fun e => n6 (by cases e; rfl))).trans h1, h2⟩

def f1.T0 : Bool × List (List Nat × List Nat) := (true, [([], []), ([0], [0]), ([1], [1]), ([2], [2]), ([], []), ([4], [4]), ([], []), ([], []), ([7, 5], [7]), ([6, 8, 8], [6, 8]), ([3, 5, 9, 9, 0, 1, 2, 3, 4, 5, 6, 7, 8, 9], [3, 5, 9])])
def f1.B0 : List Nat := [0, 1, 3, 7, 0, 16, 0, 0, 176, 496, 1023]
theorem f1.tab0 : rtab .any (opsOf Try.f31 0) = f1.T0 := by kernel_rfl
theorem f1.bits0 : waitsOk f1.T0.2 f1.B0 = true := by kernel_rfl
set_option maxHeartbeats 8000000 in
set_option maxRecDepth 100000 in
theorem flush1 (W : World) {p gs gk bm N cs ck n : Nat} {SS KK : List Int} {D : DataW Unit} (h : Rg W p gs gk bm N cs ck n SS KK D) (hn : n < maxLen) (aa : Int) (ha64 : 0 ≤ aa ∧ aa < 64) (i : Nat) (HL : Aside0 (aa - aa % 8 = i)) (hi : i + 8 ≤ N) (hN : N ≤ 64) (y0 y1 y2 y3 y4 y5 y6 y7 : Int) (HE : Aside0 (Eight SS i y0 y1 y2 y3 y4 y5 y6 y7)) (br ba : Nat) (hr : W.heap[br]? = some (.cells #[.pointer (some ⟨p, 0, none⟩)] 37 (0, 0))) (haa : W.heap[ba]? = some (.cells #[.int .i64 aa] 3 (0, 0))) (hne : br ≠ bm ∧ ba ≠ bm) (B : Nat) (hB : B ≤ W.heap.size) (hBm : B ≤ bm) :
    Calls Try.prog 31 #[.pointer (some ⟨br, 0, none⟩), .pointer (some ⟨ba, 0, none⟩)] W fun e w' => (∃ v, e = .returned v) ∧ Rg w' p gs gk bm N cs ck (n + 1) SS KK (D.put (.int .i64 (i : Int)) (.agg [.lit (.int .u64 y0), .lit (.int .u64 y1), .lit (.int .u64 y2), .lit (.int .u64 y3), .lit (.int .u64 y4), .lit (.int .u64 y5), .lit (.int .u64 y6), .lit (.int .u64 y7)])) ∧ Below B W w' := by
  have hu := Try.underlying68
  have HB := Aside0.mk (Below.refl B W)
  have CR := Aside0.mk hr
  have CA := Aside0.mk haa
  have RG := Aside0.mk h
  clear h hr haa
  go_enter Try.func31, Try.ntmps31
  refine start_ (n := 11) (S := fun w' => True) (ds := []) #[false, false, false, false, false, false, false, false, false, false, false] (by kernel_rfl) rfl rfl trivial (fun hHeld => ?_)
  refine with_tabW f1.tab0 f1.bits0 (fun HT_ HW_ => ?_)
  refine inv_at [0, 1, 2, 3, 4, 5, 6, 7, 8, 9, 10] (fun a0_ b a w' => a = putSel a0_ b [(0, 2, .pointer (some ⟨p, 0, none⟩)), (1, 3, .pointer (some ⟨p, 0, none⟩)), (2, 4, .pointer (some ⟨p, 2, none⟩)), (3, 5, .map (some bm)), (4, 6, .int .i64 aa), (5, 7, .int .i64 (i : Int)), (6, 8, .pointer (some ⟨p, 0, none⟩)), (7, 9, .int .i64 aa), (8, 10, .int .i64 (i : Int)), (9, 11, .agg #[.int .u64 y0, .int .u64 y1, .int .u64 y2, .int .u64 y3, .int .u64 y4, .int .u64 y5, .int .u64 y6, .int .u64 y7])] ∧ (Below B W w') ∧ (w'.heap[br]? = some (.cells #[.pointer (some ⟨p, 0, none⟩)] 37 (0, 0))) ∧ (w'.heap[ba]? = some (.cells #[.int .i64 aa] 3 (0, 0))) ∧ (b 10 = false → Rg w' p gs gk bm N cs ck n SS KK D) ∧ (b 10 = true → Rg w' p gs gk bm N cs ck (n + 1) SS KK (D.put (.int .i64 (i : Int)) (.agg [.lit (.int .u64 y0), .lit (.int .u64 y1), .lit (.int .u64 y2), .lit (.int .u64 y3), .lit (.int .u64 y4), .lit (.int .u64 y5), .lit (.int .u64 y6), .lit (.int .u64 y7)])))) HT_.out HW_.out (by kernel_rfl) (by kernel_rfl) ?_ ?_ ?_
  · exact ⟨by simp only [putSel, Bool.false_eq_true, if_false], (below_drew1 HB.out), CR.out, CA.out, fun _ => (RG.out.drewN 1), fun h_ => absurd h_ (by decide)⟩
  · skip
    clear CA CR HB RG
    refine steps_cons ?_ ?_
    · rintro b a w' ⟨ha, Q_HB, Q_CR, Q_CA, Q_RG, Q_RG2⟩ hb_ hon hoff
      refine ⟨_, rfl, fun K hK => ?_⟩
      have e0 : a.tmps[0]? = some (.pointer (some ⟨br, 0, none⟩)) := by rw [ha]; exact (putSel_off rfl).trans rfl
      replace ha := Aside0.mk ha
      have HB := Aside0.mk Q_HB
      have CR := Aside0.mk Q_CR
      have CA := Aside0.mk Q_CA
      have RG := Aside0.mk (Q_RG (hoff 10 (by kernel_rfl)))
      have hcr : w'.cell? ⟨br, 0, none⟩ = some (.pointer (some ⟨p, 0, none⟩)) := (blk_cell CR.out 0).trans rfl
      refine value_ (w1 := w') (v := .pointer (some ⟨p, 0, none⟩)) (by rfl) rfl ?_ ?_
      · go_simp
        (try simp only [i64_w])
        try rfl
      refine hK.out _ _ ⟨(by rw [ha.out]; exact putSel_upk 0 hb_ rfl rfl rfl), Q_HB, Q_CR, Q_CA, Q_RG, fun h0_ => absurd ((hoff 10 (by kernel_rfl)).symm.trans h0_) (by decide)⟩
    refine steps_cons ?_ ?_
    · rintro b a w' ⟨ha, Q_HB, Q_CR, Q_CA, Q_RG, Q_RG2⟩ hb_ hon hoff
      refine ⟨_, rfl, fun K hK => ?_⟩
      have e2 : a.tmps[2]? = some (.pointer (some ⟨p, 0, none⟩)) := by rw [ha]; exact putSel_on (e := (0, 2, .pointer (some ⟨p, 0, none⟩))) 0 rfl rfl (hon 0 (by kernel_rfl)) rfl
      replace ha := Aside0.mk ha
      have HB := Aside0.mk Q_HB
      have CR := Aside0.mk Q_CR
      have CA := Aside0.mk Q_CA
      have RG := Aside0.mk (Q_RG (hoff 10 (by kernel_rfl)))
      refine value_ (w1 := w') (v := .pointer (some ⟨p, 0, none⟩)) (by rfl) rfl ?_ ?_
      · go_simp
        (try simp only [i64_w])
        try rfl
      refine hK.out _ _ ⟨(by rw [ha.out]; exact putSel_upk 1 hb_ rfl rfl rfl), Q_HB, Q_CR, Q_CA, Q_RG, fun h0_ => absurd ((hoff 10 (by kernel_rfl)).symm.trans h0_) (by decide)⟩
    refine steps_cons ?_ ?_
    · rintro b a w' ⟨ha, Q_HB, Q_CR, Q_CA, Q_RG, Q_RG2⟩ hb_ hon hoff
      refine ⟨_, rfl, fun K hK => ?_⟩
      have e3 : a.tmps[3]? = some (.pointer (some ⟨p, 0, none⟩)) := by rw [ha]; exact putSel_on (e := (1, 3, .pointer (some ⟨p, 0, none⟩))) 1 rfl rfl (hon 1 (by kernel_rfl)) rfl
      replace ha := Aside0.mk ha
      have HB := Aside0.mk Q_HB
      have CR := Aside0.mk Q_CR
      have CA := Aside0.mk Q_CA
      have RG := Aside0.mk (Q_RG (hoff 10 (by kernel_rfl)))
      refine value_ (w1 := w') (v := .pointer (some ⟨p, 2, none⟩)) (by rfl) rfl ?_ ?_
      · go_simp
        (try simp only [i64_w])
        try rfl
      refine hK.out _ _ ⟨(by rw [ha.out]; exact putSel_upk 2 hb_ rfl rfl rfl), Q_HB, Q_CR, Q_CA, Q_RG, fun h0_ => absurd ((hoff 10 (by kernel_rfl)).symm.trans h0_) (by decide)⟩
    refine steps_cons ?_ ?_
    · rintro b a w' ⟨ha, Q_HB, Q_CR, Q_CA, Q_RG, Q_RG2⟩ hb_ hon hoff
      refine ⟨_, rfl, fun K hK => ?_⟩
      have e4 : a.tmps[4]? = some (.pointer (some ⟨p, 2, none⟩)) := by rw [ha]; exact putSel_on (e := (2, 4, .pointer (some ⟨p, 2, none⟩))) 2 rfl rfl (hon 2 (by kernel_rfl)) rfl
      replace ha := Aside0.mk ha
      have HB := Aside0.mk Q_HB
      have CR := Aside0.mk Q_CR
      have CA := Aside0.mk Q_CA
      have RG := Aside0.mk (Q_RG (hoff 10 (by kernel_rfl)))
      have hcm : w'.cell? ⟨p, 2, none⟩ = some (.map (some bm)) := RG.out.mapcell
      refine value_ (w1 := w') (v := .map (some bm)) (by rfl) rfl ?_ ?_
      · go_simp
        (try simp only [i64_w])
        try rfl
      refine hK.out _ _ ⟨(by rw [ha.out]; exact putSel_upk 3 hb_ rfl rfl rfl), Q_HB, Q_CR, Q_CA, Q_RG, fun h0_ => absurd ((hoff 10 (by kernel_rfl)).symm.trans h0_) (by decide)⟩
    refine steps_cons ?_ ?_
    · rintro b a w' ⟨ha, Q_HB, Q_CR, Q_CA, Q_RG, Q_RG2⟩ hb_ hon hoff
      refine ⟨_, rfl, fun K hK => ?_⟩
      have e1 : a.tmps[1]? = some (.pointer (some ⟨ba, 0, none⟩)) := by rw [ha]; exact (putSel_off rfl).trans rfl
      replace ha := Aside0.mk ha
      have HB := Aside0.mk Q_HB
      have CR := Aside0.mk Q_CR
      have CA := Aside0.mk Q_CA
      have RG := Aside0.mk (Q_RG (hoff 10 (by kernel_rfl)))
      have hca : w'.cell? ⟨ba, 0, none⟩ = some (.int .i64 aa) := (blk_cell CA.out 0).trans rfl
      refine value_ (w1 := w') (v := .int .i64 aa) (by rfl) rfl ?_ ?_
      · go_simp
        (try simp only [i64_w])
        try rfl
      refine hK.out _ _ ⟨(by rw [ha.out]; exact putSel_upk 4 hb_ rfl rfl rfl), Q_HB, Q_CR, Q_CA, Q_RG, fun h0_ => absurd ((hoff 10 (by kernel_rfl)).symm.trans h0_) (by decide)⟩
    refine steps_cons ?_ ?_
    · rintro b a w' ⟨ha, Q_HB, Q_CR, Q_CA, Q_RG, Q_RG2⟩ hb_ hon hoff
      refine ⟨_, rfl, fun K hK => ?_⟩
      have e6 : a.tmps[6]? = some (.int .i64 aa) := by rw [ha]; exact putSel_on (e := (4, 6, .int .i64 aa)) 4 rfl rfl (hon 4 (by kernel_rfl)) rfl
      replace ha := Aside0.mk ha
      have HB := Aside0.mk Q_HB
      have CR := Aside0.mk Q_CR
      have CA := Aside0.mk Q_CA
      have RG := Aside0.mk (Q_RG (hoff 10 (by kernel_rfl)))
      refine goes_ Try.func33 (by kernel_rfl) rfl #[.int .i64 aa] (by rfl) rfl rfl (by first | (simp only [List.map_toArray, List.map_cons, List.map_nil, Act.eval, Array.getD_eq_getD_getElem?, Option.getD_some, e6]; done) | (simp only [List.map_toArray, List.map_cons, List.map_nil, Act.eval, Array.getD_eq_getD_getElem?, Option.getD_some, e6]; rfl)) ?_
      with_reducible refine (line_at aa i HL.out ha64 _).mono ?_
      rintro e w3 ⟨rfl, hb⟩
      refine ⟨_, rfl, ?_⟩
      refine hK.out _ _ ⟨(by rw [ha.out]; exact putSel_upk 5 hb_ rfl rfl rfl), (HB.out.trans (hb.mono (Nat.le_trans hB HB.out.size))), (blk_below CR.out hb), (blk_below CA.out hb), fun _ => (RG.out.below hb), fun h0_ => absurd ((hoff 10 (by kernel_rfl)).symm.trans h0_) (by decide)⟩
    refine steps_cons ?_ ?_
    · rintro b a w' ⟨ha, Q_HB, Q_CR, Q_CA, Q_RG, Q_RG2⟩ hb_ hon hoff
      refine ⟨_, rfl, fun K hK => ?_⟩
      have e0 : a.tmps[0]? = some (.pointer (some ⟨br, 0, none⟩)) := by rw [ha]; exact (putSel_off rfl).trans rfl
      replace ha := Aside0.mk ha
      have HB := Aside0.mk Q_HB
      have CR := Aside0.mk Q_CR
      have CA := Aside0.mk Q_CA
      have RG := Aside0.mk (Q_RG (hoff 10 (by kernel_rfl)))
      have hcr : w'.cell? ⟨br, 0, none⟩ = some (.pointer (some ⟨p, 0, none⟩)) := (blk_cell CR.out 0).trans rfl
      refine value_ (w1 := w') (v := .pointer (some ⟨p, 0, none⟩)) (by rfl) rfl ?_ ?_
      · go_simp
        (try simp only [i64_w])
        try rfl
      refine hK.out _ _ ⟨(by rw [ha.out]; exact putSel_upk 6 hb_ rfl rfl rfl), Q_HB, Q_CR, Q_CA, Q_RG, fun h0_ => absurd ((hoff 10 (by kernel_rfl)).symm.trans h0_) (by decide)⟩
    refine steps_cons ?_ ?_
    · rintro b a w' ⟨ha, Q_HB, Q_CR, Q_CA, Q_RG, Q_RG2⟩ hb_ hon hoff
      refine ⟨_, rfl, fun K hK => ?_⟩
      have e1 : a.tmps[1]? = some (.pointer (some ⟨ba, 0, none⟩)) := by rw [ha]; exact (putSel_off rfl).trans rfl
      replace ha := Aside0.mk ha
      have HB := Aside0.mk Q_HB
      have CR := Aside0.mk Q_CR
      have CA := Aside0.mk Q_CA
      have RG := Aside0.mk (Q_RG (hoff 10 (by kernel_rfl)))
      have hca : w'.cell? ⟨ba, 0, none⟩ = some (.int .i64 aa) := (blk_cell CA.out 0).trans rfl
      refine value_ (w1 := w') (v := .int .i64 aa) (by rfl) rfl ?_ ?_
      · go_simp
        (try simp only [i64_w])
        try rfl
      refine hK.out _ _ ⟨(by rw [ha.out]; exact putSel_upk 7 hb_ rfl rfl rfl), Q_HB, Q_CR, Q_CA, Q_RG, fun h0_ => absurd ((hoff 10 (by kernel_rfl)).symm.trans h0_) (by decide)⟩
    refine steps_cons ?_ ?_
    · rintro b a w' ⟨ha, Q_HB, Q_CR, Q_CA, Q_RG, Q_RG2⟩ hb_ hon hoff
      refine ⟨_, rfl, fun K hK => ?_⟩
      have e9 : a.tmps[9]? = some (.int .i64 aa) := by rw [ha]; exact putSel_on (e := (7, 9, .int .i64 aa)) 7 rfl rfl (hon 7 (by kernel_rfl)) rfl
      replace ha := Aside0.mk ha
      have HB := Aside0.mk Q_HB
      have CR := Aside0.mk Q_CR
      have CA := Aside0.mk Q_CA
      have RG := Aside0.mk (Q_RG (hoff 10 (by kernel_rfl)))
      refine goes_ Try.func33 (by kernel_rfl) rfl #[.int .i64 aa] (by rfl) rfl rfl (by first | (simp only [List.map_toArray, List.map_cons, List.map_nil, Act.eval, Array.getD_eq_getD_getElem?, Option.getD_some, e9]; done) | (simp only [List.map_toArray, List.map_cons, List.map_nil, Act.eval, Array.getD_eq_getD_getElem?, Option.getD_some, e9]; rfl)) ?_
      with_reducible refine (line_at aa i HL.out ha64 _).mono ?_
      rintro e w3 ⟨rfl, hb⟩
      refine ⟨_, rfl, ?_⟩
      refine hK.out _ _ ⟨(by rw [ha.out]; exact putSel_upk 8 hb_ rfl rfl rfl), (HB.out.trans (hb.mono (Nat.le_trans hB HB.out.size))), (blk_below CR.out hb), (blk_below CA.out hb), fun _ => (RG.out.below hb), fun h0_ => absurd ((hoff 10 (by kernel_rfl)).symm.trans h0_) (by decide)⟩
    refine steps_cons ?_ ?_
    · rintro b a w' ⟨ha, Q_HB, Q_CR, Q_CA, Q_RG, Q_RG2⟩ hb_ hon hoff
      refine ⟨_, rfl, fun K hK => ?_⟩
      have e8 : a.tmps[8]? = some (.pointer (some ⟨p, 0, none⟩)) := by rw [ha]; exact putSel_on (e := (6, 8, .pointer (some ⟨p, 0, none⟩))) 6 rfl rfl (hon 6 (by kernel_rfl)) rfl
      have e10 : a.tmps[10]? = some (.int .i64 (i : Int)) := by rw [ha]; exact putSel_on (e := (8, 10, .int .i64 (i : Int))) 8 rfl rfl (hon 8 (by kernel_rfl)) rfl
      replace ha := Aside0.mk ha
      have HB := Aside0.mk Q_HB
      have CR := Aside0.mk Q_CR
      have CA := Aside0.mk Q_CA
      have RG := Aside0.mk (Q_RG (hoff 10 (by kernel_rfl)))
      refine goes_ Try.func32 (by kernel_rfl) rfl #[.pointer (some ⟨p, 0, none⟩), .int .i64 (i : Int)] (by rfl) rfl rfl (by first | (simp only [List.map_toArray, List.map_cons, List.map_nil, Act.eval, Array.getD_eq_getD_getElem?, Option.getD_some, e8, e10]; done) | (simp only [List.map_toArray, List.map_cons, List.map_nil, Act.eval, Array.getD_eq_getD_getElem?, Option.getD_some, e8, e10]; rfl)) ?_
      with_reducible refine (noted_calls _ RG.out i hi hN y0 y1 y2 y3 y4 y5 y6 y7 HE).mono ?_
      rintro e w3 ⟨rfl, hb⟩
      refine ⟨_, rfl, ?_⟩
      refine hK.out _ _ ⟨(by rw [ha.out]; exact putSel_upk 9 hb_ rfl rfl rfl), (HB.out.trans (hb.mono (Nat.le_trans hB HB.out.size))), (blk_below CR.out hb), (blk_below CA.out hb), fun _ => (RG.out.below hb), fun h0_ => absurd ((hoff 10 (by kernel_rfl)).symm.trans h0_) (by decide)⟩
    refine steps_cons ?_ ?_
    · rintro b a w' ⟨ha, Q_HB, Q_CR, Q_CA, Q_RG, Q_RG2⟩ hb_ hon hoff
      refine ⟨_, rfl, fun K hK => ?_⟩
      have e5 : a.tmps[5]? = some (.map (some bm)) := by rw [ha]; exact putSel_on (e := (3, 5, .map (some bm))) 3 rfl rfl (hon 3 (by kernel_rfl)) rfl
      have e7 : a.tmps[7]? = some (.int .i64 (i : Int)) := by rw [ha]; exact putSel_on (e := (5, 7, .int .i64 (i : Int))) 5 rfl rfl (hon 5 (by kernel_rfl)) rfl
      have e11 : a.tmps[11]? = some (.agg #[.int .u64 y0, .int .u64 y1, .int .u64 y2, .int .u64 y3, .int .u64 y4, .int .u64 y5, .int .u64 y6, .int .u64 y7]) := by rw [ha]; exact putSel_on (e := (9, 11, .agg #[.int .u64 y0, .int .u64 y1, .int .u64 y2, .int .u64 y3, .int .u64 y4, .int .u64 y5, .int .u64 y6, .int .u64 y7])) 9 rfl rfl (hon 9 (by kernel_rfl)) rfl
      replace ha := Aside0.mk ha
      have HB := Aside0.mk Q_HB
      have CR := Aside0.mk Q_CR
      have CA := Aside0.mk Q_CA
      have RG := Aside0.mk (Q_RG hb_)
      obtain ⟨w9, hrun9, hown9, hgr9⟩ := World.ownsMap.update RG.out.mp keyed3 Try.underlying66 hn (key := .int .i64 (i : Int)) (val := .agg #[.int .u64 y0, .int .u64 y1, .int .u64 y2, .int .u64 y3, .int .u64 y4, .int .u64 y5, .int .u64 y6, .int .u64 y7]) (kl := .int .i64 (i : Int)) (d := (.agg [.lit (.int .u64 y0), .lit (.int .u64 y1), .lit (.int .u64 y2), .lit (.int .u64 y3), .lit (.int .u64 y4), .lit (.int .u64 y5), .lit (.int .u64 y6), .lit (.int .u64 y7)])) (ps := []) (key_at i (by omega)) rfl
      refine skip_ (w1 := w9) (by rfl) rfl ?_ ?_
      · simp [execOp, Act.eval, hrun9, Result.andThen, e5, e7, e11]
      have hb9 := HB.out.grown hgr9 (Nat.le_trans hB HB.out.size) (fun k e => by cases e; exact hBm)
      refine hK.out _ _ ⟨(by rw [ha.out]; exact putSel_none (v := undef) rfl), hb9, ((hgr9.block br (blk_lt CR.out) (by intro e; cases e; exact hne.1 rfl)).trans CR.out), ((hgr9.block ba (blk_lt CA.out) (by intro e; cases e; exact hne.2 rfl)).trans CA.out), fun h0_ => absurd ((up_self b 10).symm.trans h0_) (by decide), fun _ => (RG.out.upd hgr9 hown9)⟩
    exact steps_nil
  rintro b a wz hall ⟨ha, Q_HB, Q_CR, Q_CA, Q_RG, Q_RG2⟩
  clear CA CR HB RG
  have hb0_ := hall 0 (by kernel_rfl)
  have hb1_ := hall 1 (by kernel_rfl)
  have hb2_ := hall 2 (by kernel_rfl)
  have hb3_ := hall 3 (by kernel_rfl)
  have hb4_ := hall 4 (by kernel_rfl)
  have hb5_ := hall 5 (by kernel_rfl)
  have hb6_ := hall 6 (by kernel_rfl)
  have hb7_ := hall 7 (by kernel_rfl)
  have hb8_ := hall 8 (by kernel_rfl)
  have hb9_ := hall 9 (by kernel_rfl)
  have hb10_ := hall 10 (by kernel_rfl)
  subst ha
  simp only [putSel, hb0_, hb1_, hb2_, hb3_, hb4_, hb5_, hb6_, hb7_, hb8_, hb9_, hb10_, if_true, Act.put, List.setIfInBounds_toArray, List.set_cons_zero, List.set_cons_succ]
  have HB := Aside0.mk Q_HB
  clear Q_HB
  have CR := Aside0.mk Q_CR
  clear Q_CR
  have CA := Aside0.mk Q_CA
  clear Q_CA
  clear Q_RG
  have RG2 := Aside0.mk (Q_RG2 hb10_)
  clear Q_RG2
  clear hall hb0_ hb1_ hb2_ hb3_ hb4_ hb5_ hb6_ hb7_ hb8_ hb9_ hb10_
  trace_state
  go_end0
  exact ⟨⟨_, rfl⟩, RG2.out, HB.out⟩
end Go.Proofs.Ytpefbnhicfflpaa.Pm
