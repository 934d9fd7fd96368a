/- Parts of one proof, set together: Ap19. What each says stands at its head; no condition beyond theirs. -/
import Derived.Test.YtekggbmajemmhaaDa18
/- The document's Apply: slots and data. Conditions: the state lies in memory. -/
namespace Go.Proofs.Ytekggbmajemmhaa.Gr
open Go.RowKit Go.Shelf Go.Maps Go.ChangeMaps Go.MapKept Go.Proofs.YtekggbmajemmhaaW.PrintWords Go.Proofs.YtekggbmajemmhaaW.PrintLast Go.Proofs.YtekggbmajemmhaaW.PrintMore
set_option linter.unusedSimpArgs false
set_option linter.unusedVariables false
theorem RS.put {wb W : World} {g4 gn cap ix : Nat} {vt : Value} {R : List Int} {M : List Nd} (h : RS wb W g4 vt (.slice (some ⟨gn, 0, none⟩) M.length cap) R M) (hi : ix < M.length) {x : Nd} (hx : x.adr = (M.getD ix default).adr) (hd : DX W (own2 vt (.slice (some ⟨gn, 0, none⟩) M.length cap)) x) (hsz : x.m ≤ 300 ∧ x.n ≤ 300) : RS wb (put6g W gn ix x) g4 vt (.slice (some ⟨gn, 0, none⟩) M.length cap) R (M.set ix x) := by
  have hp := putg h.rows hi x
  have hgn : wb.heap.size ≤ gn := (h.rows.lt gn rfl).1
  have hn : M[ix]? = some (M.getD ix default) := by rw [List.getD_eq_getElem?_getD, List.getElem?_eq_getElem hi]; rfl
  have hto : ∀ n, DX W (own2 vt (.slice (some ⟨gn, 0, none⟩) M.length cap)) n → DX (put6g W gn ix x) (own2 vt (.slice (some ⟨gn, 0, none⟩) M.length cap)) n := fun n hn => hn.to (fun j hj hS => hp.2.1.block j hj (fun e => hS (own2_mem.2 (Or.inr (by rw [e]; rfl))))) hp.2.1.size (fun _ _ h => h)
  refine ⟨h.hb.trans (hp.2.2), ?_, h.res4, h.tops.kept hp.2.1 ?_, by rw [List.length_set]; exact hp.1, fun n hn => ?_, by rw [adrs_set hn hx]; exact h.rise, fun n hn => ?_, h.len⟩
  · exact (hp.2.1.block g4 (blk_lt h.res) (fun e => h.ne4.2 (by rw [e]; rfl))).trans h.res
  · rcases hv : vt.ownBlock with _ | j
    · exact Or.inl rfl
    · exact Or.inr (fun e => h.ne hv (by rw [e]; rfl))
  · rcases List.mem_or_eq_of_mem_set hn with h1 | h1
    · exact hto n (h.lists n h1)
    · rw [h1]; exact hto x hd
  · rcases List.mem_or_eq_of_mem_set hn with h1 | h1
    · exact h.sz n h1
    · rw [h1]; exact hsz
def r35.T35 : Bool × List (List Nat × List Nat) := (true, [([], []), ([0], [0]), ([1], [1]), ([2], [2]), ([3], [3]), ([4, 3], [3, 4]), ([3], [3]), ([6, 3], [3, 6]), ([7, 3], [3, 7]), ([5, 8, 3], [3, 5, 8]), ([3, 9], [3, 9]), ([10, 3], [10]), ([11], [11]), ([12, 11], [11, 12]), ([11], [11]), ([14, 11], [11, 14]), ([13, 15, 11], [11, 13, 15]), ([16, 11], [11, 16]), ([17, 11], [11, 17]), ([11], [11]), ([19, 11], [11, 19]), ([18, 20, 11], [11, 18, 20]), ([11, 21], [11, 21])])
def r35.B35 : List Nat := [0, 1, 3, 7, 15, 31, 15, 79, 207, 511, 1023, 2047, 4095, 8191, 4095, 20479, 65535, 131071, 262143, 4095, 528383, 2097151, 4194303]
theorem r35.tab35 : rtab .any (opsOf Try.f10 35) = r35.T35 := by kernel_rfl
theorem r35.bits35 : waitsOk r35.T35.2 r35.B35 = true := by kernel_rfl
def r39.T39 : Bool × List (List Nat × List Nat) := (true, [([], []), ([0], [0]), ([1], [1]), ([2], [2]), ([3], [3]), ([4, 3], [3, 4]), ([3], [3]), ([6, 3], [3, 6]), ([7, 3], [3, 7]), ([5, 8, 3], [3, 5, 8]), ([3, 9], [3, 9]), ([10, 3], [10]), ([11], [11]), ([12, 11], [11, 12]), ([11], [11]), ([14, 11], [11, 14]), ([13, 15, 11], [11, 13, 15]), ([16, 11], [11, 16]), ([11], [11]), ([18, 11], [11, 18]), ([17, 19, 11], [11, 17, 19]), ([11, 20], [11, 20])])
def r39.B39 : List Nat := [0, 1, 3, 7, 15, 31, 15, 79, 207, 511, 1023, 2047, 4095, 8191, 4095, 20479, 65535, 131071, 4095, 266239, 1048575, 2097151]
theorem r39.tab39 : rtab .any (opsOf Try.f10 39) = r39.T39 := by kernel_rfl
theorem r39.bits39 : waitsOk r39.T39.2 r39.B39 = true := by kernel_rfl
set_option maxHeartbeats 16000000 in
set_option maxRecDepth 100000 in
theorem p7_4 (wb W0 W : World) (g4 g9 g13 i : Nat) (y vt vn : Value) (R : List Int) (M : List Nd) (ix bh : Nat) (q : Nd) (ca ci cw cs : Int) (hnr : ¬ ((4 : Int) = 4 ∧ ca = 0)) (hidx : idx (adrs M) ca = some ix) (hq : M[ix]? = some q) (HS0 : Aside0 (RS wb W0 g4 vt vn R M)) (HBW : Aside0 (Below W0.heap.size W0 W)) (h13 : W0.heap.size ≤ g13) (BK9 : Aside0 (W.heap[g9]? = some (.cells #[.int .i64 4, .int .i64 ca, .int .i64 ci, .int .u64 cw, .int .u64 cs] 44 (0, 0)))) (BK13 : Aside0 (W.heap[g13]? = some (.cells #[.int .i64 q.adr, .int .i64 q.refs, .int .i64 q.sl, .int .i64 q.words, .slice q.A q.m q.c, .slice q.B q.n q.d] 40 (0, 0)))) (a : Act) (hf : Fr a [(1, y), (4, .pointer (some ⟨g4, 0, none⟩)), (5, .bool false), (6, vt), (7, vn), (8, .int .i64 (i : Int)), (9, .pointer (some ⟨g9, 0, none⟩)), (10, .int .i64 (ix : Int)), (11, .int .i64 (bh : Int)), (13, .pointer (some ⟨g13, 0, none⟩))]) : Code.wp Try.prog (rgt cT5) (BodyOut wb g4 i y R M ⟨4, ca, ci, cw, cs⟩) a W := by
  obtain ⟨i0, hi, hz0, hz1, hz2⟩ := info_parts info3
  have HNR := Aside0.mk hnr
  have H13 := Aside0.mk h13
  have hix : ix < M.length := (List.getElem?_eq_some_iff.1 hq).1
  have hqM : q ∈ M := List.mem_of_getElem? hq
  have hst := step_some (M := M) (c := (⟨4, ca, ci, cw, cs⟩ : Ch)) (show (4 : Int) ≠ 2 by decide) hidx hq
  rw [if_neg (show ¬ ((4 : Int) = 1) by decide), if_neg (show ¬ ((4 : Int) = 3) by decide), if_pos rfl] at hst
  have hap := (applyP_node (R := R) (M := M.map Nd.pn) (c := (⟨4, ca, ci, cw, cs⟩ : Ch)) hnr).trans (congrArg _ hst)
  have HAP := Aside0.mk hap
  have HQ := Aside0.mk hq
  have HQM := Aside0.mk hqM
  have hadr : q.adr = ca := by
    obtain ⟨nn, h1, _, h3⟩ := find_some_of hidx
    rw [hq] at h1
    cases h1
    exact h3
  have HAD := Aside0.mk hadr
  have hsz := HS0.out.sz q hqM
  have HSZ := Aside0.mk hsz
  have HIL := Aside0.mk ((HS0.out.to HBW.out).lists q hqM).1.il
  have hnl := HIL.out.1
  have HIX := Aside0.mk hix
  clear hst hap hqM hadr hnr hidx hq h13 hix
  obtain ⟨hf1, hf4, hf5, hf6, hf7, hf8, hf9, hf10, hf11, hf13, hd_, hs_⟩ := hf
  obtain ⟨u, hu, ha_⟩ := frame_open a hd_ hs_
  have hv1 := (hu 1).symm.trans hf1
  have hv4 := (hu 4).symm.trans hf4
  have hv5 := (hu 5).symm.trans hf5
  have hv6 := (hu 6).symm.trans hf6
  have hv7 := (hu 7).symm.trans hf7
  have hv8 := (hu 8).symm.trans hf8
  have hv9 := (hu 9).symm.trans hf9
  have hv10 := (hu 10).symm.trans hf10
  have hv11 := (hu 11).symm.trans hf11
  have hv13 := (hu 13).symm.trans hf13
  clear hd_ hs_ hu hf1 hf4 hf5 hf6 hf7 hf8 hf9 hf10 hf11 hf13
  subst ha_
  simp only [hv1, hv4, hv5, hv6, hv7, hv8, hv9, hv10, hv11, hv13]
  clear hv1 hv4 hv5 hv6 hv7 hv8 hv9 hv10 hv11 hv13
  have hx9_0 : W.cell? ⟨g9, 0, none⟩ = some (.int .i64 4) := (blk_cell BK9.out 0).trans rfl
  have hx9_1 : W.cell? ⟨g9, 1, none⟩ = some (.int .i64 ca) := (blk_cell BK9.out 1).trans rfl
  have hx9_2 : W.cell? ⟨g9, 2, none⟩ = some (.int .i64 ci) := (blk_cell BK9.out 2).trans rfl
  have hx9_3 : W.cell? ⟨g9, 3, none⟩ = some (.int .u64 cw) := (blk_cell BK9.out 3).trans rfl
  have hx9_4 : W.cell? ⟨g9, 4, none⟩ = some (.int .u64 cs) := (blk_cell BK9.out 4).trans rfl
  have hx13 : W.cell? ⟨g13, 4, none⟩ = some (.slice q.A q.m q.c) := (blk_cell BK13.out 4).trans rfl
  by_cases h1 : ci < 0
  · have hd1 : decide (ci < 0) = true := decide_eq_true h1
    have HNO := Aside0.mk (show applyP (R, M.map Nd.pn) (⟨4, ca, ci, cw, cs⟩ : Ch) = none by rw [HAP.out, show chgS q.S ⟨4, ca, ci, cw, cs⟩ = none from if_neg (fun h => by have := h.1; simp only at this; omega)]; rfl)
    obtain ⟨A5, hA5⟩ : ∃ x, x = q.A := ⟨_, rfl⟩
    obtain ⟨m5, hm5⟩ : ∃ x, x = q.m := ⟨_, rfl⟩
    obtain ⟨c5, hc5⟩ : ∃ x, x = q.c := ⟨_, rfl⟩
    rw [← hA5, ← hm5, ← hc5] at hx13 BK13
    clear hA5 hm5 hc5 hsz hnl
    conv => arg 2; whnf
    go_upto_region 35 with fail
    have HR := Aside0.mk (Below.refl W.heap.size W)
    refine start_ (n := 23) (S := fun w' => True) (ds := []) #[false, false, false, false, false, false, false, false, false, false, false, false, false, false, false, false, false, false, false, false, false, false, false] (by kernel_rfl) rfl rfl trivial (fun hHeld => ?_)
    refine with_tabW r35.tab35 r35.bits35 (fun HT_ HW_ => ?_)
    refine inv_at [0, 1, 2, 3, 4, 5, 6, 7, 8, 9, 10, 11, 12, 13, 14, 15, 16, 17, 18, 19, 20, 21, 22] (fun a0_ b a w' => a = putSel a0_ b [(0, 173, .pointer (some ⟨g9, 2, none⟩)), (1, 174, .int .i64 ci), (2, 175, .bool true), (3, 176, .bool true), (4, 177, undef), (5, 178, undef), (6, 179, undef), (7, 180, undef), (8, 181, undef), (9, 182, undef), (10, 183, .bool true), (11, 184, .bool true), (12, 185, undef), (13, 186, undef), (14, 187, undef), (15, 188, undef), (16, 189, undef), (17, 190, undef), (18, 191, undef), (19, 192, undef), (20, 193, undef), (21, 194, undef), (22, 195, .bool true)] ∧ (Below W.heap.size W w')) HT_.out HW_.out (by kernel_rfl) (by kernel_rfl) ?_ ?_ ?_
    · exact ⟨by simp only [putSel, Bool.false_eq_true, if_false], below_drew1 HR.out⟩
    · skip
      clear HR
      refine steps_cons ?_ ?_
      · rintro b a w' ⟨ha, Q_HR⟩ hb_ hon hoff
        refine ⟨_, rfl, fun K hK => ?_⟩
        have e9 : a.tmps[9]? = some (.pointer (some ⟨g9, 0, none⟩)) := by rw [ha]; exact (putSel_off rfl).trans rfl
        replace ha := Aside0.mk ha
        have HR := Aside0.mk Q_HR
        refine value_ (w1 := w') (v := .pointer (some ⟨g9, 2, none⟩)) (by rfl) rfl ?_ ?_
        · go_simp
          (try simp only [i64_w])
          try rfl
        refine hK.out _ _ ⟨(by rw [ha.out]; exact putSel_upk 0 hb_ rfl rfl rfl), Q_HR⟩
      refine steps_cons ?_ ?_
      · rintro b a w' ⟨ha, Q_HR⟩ hb_ hon hoff
        refine ⟨_, rfl, fun K hK => ?_⟩
        have e173 : a.tmps[173]? = some (.pointer (some ⟨g9, 2, none⟩)) := by rw [ha]; exact putSel_on (e := (0, 173, .pointer (some ⟨g9, 2, none⟩))) 0 rfl rfl (hon 0 (by kernel_rfl)) rfl
        replace ha := Aside0.mk ha
        have HR := Aside0.mk Q_HR
        have hl174_0 : w'.cell? ⟨g9, 2, none⟩ = some (.int .i64 ci) := (blk_cell (blk_below BK9.out HR.out) 2).trans rfl
        refine value_ (w1 := w') (v := .int .i64 ci) (by rfl) rfl ?_ ?_
        · go_simp
          (try simp only [i64_w])
          try rfl
        refine hK.out _ _ ⟨(by rw [ha.out]; exact putSel_upk 1 hb_ rfl rfl rfl), Q_HR⟩
      refine steps_cons ?_ ?_
      · rintro b a w' ⟨ha, Q_HR⟩ hb_ hon hoff
        refine ⟨_, rfl, fun K hK => ?_⟩
        have e174 : a.tmps[174]? = some (.int .i64 ci) := by rw [ha]; exact putSel_on (e := (1, 174, .int .i64 ci)) 1 rfl rfl (hon 1 (by kernel_rfl)) rfl
        replace ha := Aside0.mk ha
        have HR := Aside0.mk Q_HR
        refine value_ (w1 := w') (v := .bool true) (by rfl) rfl ?_ ?_
        · go_simp
          (try simp only [i64_w])
          try rfl
        refine hK.out _ _ ⟨(by rw [ha.out]; exact putSel_upk 2 hb_ rfl rfl rfl), Q_HR⟩
      refine steps_cons ?_ ?_
      · rintro b a w' ⟨ha, Q_HR⟩ hb_ hon hoff
        refine ⟨_, rfl, fun K hK => ?_⟩
        have e175 : a.tmps[175]? = some (.bool true) := by rw [ha]; exact putSel_on (e := (2, 175, .bool true)) 2 rfl rfl (hon 2 (by kernel_rfl)) rfl
        replace ha := Aside0.mk ha
        have HR := Aside0.mk Q_HR
        refine value_ (w1 := w') (v := .bool true) (by rfl) rfl ?_ ?_
        · go_simp
          (try simp only [i64_w])
          try rfl
        refine hK.out _ _ ⟨(by rw [ha.out]; exact putSel_upk 3 hb_ rfl rfl rfl), Q_HR⟩
      refine steps_cons ?_ ?_
      · rintro b a w' ⟨ha, Q_HR⟩ hb_ hon hoff
        refine ⟨_, rfl, fun K hK => ?_⟩
        have e176 : a.tmps[176]? = some (.bool true) := by rw [ha]; exact putSel_on (e := (3, 176, .bool true)) 3 rfl rfl (hon 3 (by kernel_rfl)) rfl
        replace ha := Aside0.mk ha
        have HR := Aside0.mk Q_HR
        refine off_ (wanted_off rfl rfl rfl (e176.trans (by first | rfl | (simp [*]; done)))) ?_
        refine hK.out _ _ ⟨(by rw [ha.out]; exact putSel_upk 4 hb_ rfl rfl rfl), Q_HR⟩
      refine steps_cons ?_ ?_
      · rintro b a w' ⟨ha, Q_HR⟩ hb_ hon hoff
        refine ⟨_, rfl, fun K hK => ?_⟩
        have e176 : a.tmps[176]? = some (.bool true) := by rw [ha]; exact putSel_on (e := (3, 176, .bool true)) 3 rfl rfl (hon 3 (by kernel_rfl)) rfl
        replace ha := Aside0.mk ha
        have HR := Aside0.mk Q_HR
        refine off_ (wanted_off rfl rfl rfl (e176.trans (by first | rfl | (simp [*]; done)))) ?_
        refine hK.out _ _ ⟨(by rw [ha.out]; exact putSel_upk 5 hb_ rfl rfl rfl), Q_HR⟩
      refine steps_cons ?_ ?_
      · rintro b a w' ⟨ha, Q_HR⟩ hb_ hon hoff
        refine ⟨_, rfl, fun K hK => ?_⟩
        have e176 : a.tmps[176]? = some (.bool true) := by rw [ha]; exact putSel_on (e := (3, 176, .bool true)) 3 rfl rfl (hon 3 (by kernel_rfl)) rfl
        replace ha := Aside0.mk ha
        have HR := Aside0.mk Q_HR
        refine off_ (wanted_off rfl rfl rfl (e176.trans (by first | rfl | (simp [*]; done)))) ?_
        refine hK.out _ _ ⟨(by rw [ha.out]; exact putSel_upk 6 hb_ rfl rfl rfl), Q_HR⟩
      refine steps_cons ?_ ?_
      · rintro b a w' ⟨ha, Q_HR⟩ hb_ hon hoff
        refine ⟨_, rfl, fun K hK => ?_⟩
        have e176 : a.tmps[176]? = some (.bool true) := by rw [ha]; exact putSel_on (e := (3, 176, .bool true)) 3 rfl rfl (hon 3 (by kernel_rfl)) rfl
        replace ha := Aside0.mk ha
        have HR := Aside0.mk Q_HR
        refine off_ (wanted_off rfl rfl rfl (e176.trans (by first | rfl | (simp [*]; done)))) ?_
        refine hK.out _ _ ⟨(by rw [ha.out]; exact putSel_upk 7 hb_ rfl rfl rfl), Q_HR⟩
      refine steps_cons ?_ ?_
      · rintro b a w' ⟨ha, Q_HR⟩ hb_ hon hoff
        refine ⟨_, rfl, fun K hK => ?_⟩
        have e176 : a.tmps[176]? = some (.bool true) := by rw [ha]; exact putSel_on (e := (3, 176, .bool true)) 3 rfl rfl (hon 3 (by kernel_rfl)) rfl
        replace ha := Aside0.mk ha
        have HR := Aside0.mk Q_HR
        refine off_ (wanted_off rfl rfl rfl (e176.trans (by first | rfl | (simp [*]; done)))) ?_
        refine hK.out _ _ ⟨(by rw [ha.out]; exact putSel_upk 8 hb_ rfl rfl rfl), Q_HR⟩
      refine steps_cons ?_ ?_
      · rintro b a w' ⟨ha, Q_HR⟩ hb_ hon hoff
        refine ⟨_, rfl, fun K hK => ?_⟩
        have e176 : a.tmps[176]? = some (.bool true) := by rw [ha]; exact putSel_on (e := (3, 176, .bool true)) 3 rfl rfl (hon 3 (by kernel_rfl)) rfl
        replace ha := Aside0.mk ha
        have HR := Aside0.mk Q_HR
        refine off_ (wanted_off rfl rfl rfl (e176.trans (by first | rfl | (simp [*]; done)))) ?_
        refine hK.out _ _ ⟨(by rw [ha.out]; exact putSel_upk 9 hb_ rfl rfl rfl), Q_HR⟩
      refine steps_cons ?_ ?_
      · rintro b a w' ⟨ha, Q_HR⟩ hb_ hon hoff
        refine ⟨_, rfl, fun K hK => ?_⟩
        have e176 : a.tmps[176]? = some (.bool true) := by rw [ha]; exact putSel_on (e := (3, 176, .bool true)) 3 rfl rfl (hon 3 (by kernel_rfl)) rfl
        have e182 : a.tmps[182]? = some (undef) := by rw [ha]; exact putSel_on (e := (9, 182, undef)) 9 rfl rfl (hon 9 (by kernel_rfl)) rfl
        replace ha := Aside0.mk ha
        have HR := Aside0.mk Q_HR
        refine value_ (w1 := w') (v := .bool true) (by rfl) rfl ?_ ?_
        · go_simp
          (try simp only [i64_w])
          try rfl
        refine hK.out _ _ ⟨(by rw [ha.out]; exact putSel_upk 10 hb_ rfl rfl rfl), Q_HR⟩
      refine steps_cons ?_ ?_
      · rintro b a w' ⟨ha, Q_HR⟩ hb_ hon hoff
        refine ⟨_, rfl, fun K hK => ?_⟩
        have e183 : a.tmps[183]? = some (.bool true) := by rw [ha]; exact putSel_on (e := (10, 183, .bool true)) 10 rfl rfl (hon 10 (by kernel_rfl)) rfl
        replace ha := Aside0.mk ha
        have HR := Aside0.mk Q_HR
        refine value_ (w1 := w') (v := .bool true) (by rfl) rfl ?_ ?_
        · go_simp
          (try simp only [i64_w])
          try rfl
        refine hK.out _ _ ⟨(by rw [ha.out]; exact putSel_upk 11 hb_ rfl rfl rfl), Q_HR⟩
      refine steps_cons ?_ ?_
      · rintro b a w' ⟨ha, Q_HR⟩ hb_ hon hoff
        refine ⟨_, rfl, fun K hK => ?_⟩
        have e184 : a.tmps[184]? = some (.bool true) := by rw [ha]; exact putSel_on (e := (11, 184, .bool true)) 11 rfl rfl (hon 11 (by kernel_rfl)) rfl
        replace ha := Aside0.mk ha
        have HR := Aside0.mk Q_HR
        refine off_ (wanted_off rfl rfl rfl (e184.trans (by first | rfl | (simp [*]; done)))) ?_
        refine hK.out _ _ ⟨(by rw [ha.out]; exact putSel_upk 12 hb_ rfl rfl rfl), Q_HR⟩
      refine steps_cons ?_ ?_
      · rintro b a w' ⟨ha, Q_HR⟩ hb_ hon hoff
        refine ⟨_, rfl, fun K hK => ?_⟩
        have e184 : a.tmps[184]? = some (.bool true) := by rw [ha]; exact putSel_on (e := (11, 184, .bool true)) 11 rfl rfl (hon 11 (by kernel_rfl)) rfl
        replace ha := Aside0.mk ha
        have HR := Aside0.mk Q_HR
        refine off_ (wanted_off rfl rfl rfl (e184.trans (by first | rfl | (simp [*]; done)))) ?_
        refine hK.out _ _ ⟨(by rw [ha.out]; exact putSel_upk 13 hb_ rfl rfl rfl), Q_HR⟩
      refine steps_cons ?_ ?_
      · rintro b a w' ⟨ha, Q_HR⟩ hb_ hon hoff
        refine ⟨_, rfl, fun K hK => ?_⟩
        have e184 : a.tmps[184]? = some (.bool true) := by rw [ha]; exact putSel_on (e := (11, 184, .bool true)) 11 rfl rfl (hon 11 (by kernel_rfl)) rfl
        replace ha := Aside0.mk ha
        have HR := Aside0.mk Q_HR
        refine off_ (wanted_off rfl rfl rfl (e184.trans (by first | rfl | (simp [*]; done)))) ?_
        refine hK.out _ _ ⟨(by rw [ha.out]; exact putSel_upk 14 hb_ rfl rfl rfl), Q_HR⟩
      refine steps_cons ?_ ?_
      · rintro b a w' ⟨ha, Q_HR⟩ hb_ hon hoff
        refine ⟨_, rfl, fun K hK => ?_⟩
        have e184 : a.tmps[184]? = some (.bool true) := by rw [ha]; exact putSel_on (e := (11, 184, .bool true)) 11 rfl rfl (hon 11 (by kernel_rfl)) rfl
        replace ha := Aside0.mk ha
        have HR := Aside0.mk Q_HR
        refine off_ (wanted_off rfl rfl rfl (e184.trans (by first | rfl | (simp [*]; done)))) ?_
        refine hK.out _ _ ⟨(by rw [ha.out]; exact putSel_upk 15 hb_ rfl rfl rfl), Q_HR⟩
      refine steps_cons ?_ ?_
      · rintro b a w' ⟨ha, Q_HR⟩ hb_ hon hoff
        refine ⟨_, rfl, fun K hK => ?_⟩
        have e184 : a.tmps[184]? = some (.bool true) := by rw [ha]; exact putSel_on (e := (11, 184, .bool true)) 11 rfl rfl (hon 11 (by kernel_rfl)) rfl
        replace ha := Aside0.mk ha
        have HR := Aside0.mk Q_HR
        refine off_ (wanted_off rfl rfl rfl (e184.trans (by first | rfl | (simp [*]; done)))) ?_
        refine hK.out _ _ ⟨(by rw [ha.out]; exact putSel_upk 16 hb_ rfl rfl rfl), Q_HR⟩
      refine steps_cons ?_ ?_
      · rintro b a w' ⟨ha, Q_HR⟩ hb_ hon hoff
        refine ⟨_, rfl, fun K hK => ?_⟩
        have e184 : a.tmps[184]? = some (.bool true) := by rw [ha]; exact putSel_on (e := (11, 184, .bool true)) 11 rfl rfl (hon 11 (by kernel_rfl)) rfl
        replace ha := Aside0.mk ha
        have HR := Aside0.mk Q_HR
        refine off_ (wanted_off rfl rfl rfl (e184.trans (by first | rfl | (simp [*]; done)))) ?_
        refine hK.out _ _ ⟨(by rw [ha.out]; exact putSel_upk 17 hb_ rfl rfl rfl), Q_HR⟩
      refine steps_cons ?_ ?_
      · rintro b a w' ⟨ha, Q_HR⟩ hb_ hon hoff
        refine ⟨_, rfl, fun K hK => ?_⟩
        have e184 : a.tmps[184]? = some (.bool true) := by rw [ha]; exact putSel_on (e := (11, 184, .bool true)) 11 rfl rfl (hon 11 (by kernel_rfl)) rfl
        replace ha := Aside0.mk ha
        have HR := Aside0.mk Q_HR
        refine off_ (wanted_off rfl rfl rfl (e184.trans (by first | rfl | (simp [*]; done)))) ?_
        refine hK.out _ _ ⟨(by rw [ha.out]; exact putSel_upk 18 hb_ rfl rfl rfl), Q_HR⟩
      refine steps_cons ?_ ?_
      · rintro b a w' ⟨ha, Q_HR⟩ hb_ hon hoff
        refine ⟨_, rfl, fun K hK => ?_⟩
        have e184 : a.tmps[184]? = some (.bool true) := by rw [ha]; exact putSel_on (e := (11, 184, .bool true)) 11 rfl rfl (hon 11 (by kernel_rfl)) rfl
        replace ha := Aside0.mk ha
        have HR := Aside0.mk Q_HR
        refine off_ (wanted_off rfl rfl rfl (e184.trans (by first | rfl | (simp [*]; done)))) ?_
        refine hK.out _ _ ⟨(by rw [ha.out]; exact putSel_upk 19 hb_ rfl rfl rfl), Q_HR⟩
      refine steps_cons ?_ ?_
      · rintro b a w' ⟨ha, Q_HR⟩ hb_ hon hoff
        refine ⟨_, rfl, fun K hK => ?_⟩
        have e184 : a.tmps[184]? = some (.bool true) := by rw [ha]; exact putSel_on (e := (11, 184, .bool true)) 11 rfl rfl (hon 11 (by kernel_rfl)) rfl
        replace ha := Aside0.mk ha
        have HR := Aside0.mk Q_HR
        refine off_ (wanted_off rfl rfl rfl (e184.trans (by first | rfl | (simp [*]; done)))) ?_
        refine hK.out _ _ ⟨(by rw [ha.out]; exact putSel_upk 20 hb_ rfl rfl rfl), Q_HR⟩
      refine steps_cons ?_ ?_
      · rintro b a w' ⟨ha, Q_HR⟩ hb_ hon hoff
        refine ⟨_, rfl, fun K hK => ?_⟩
        have e184 : a.tmps[184]? = some (.bool true) := by rw [ha]; exact putSel_on (e := (11, 184, .bool true)) 11 rfl rfl (hon 11 (by kernel_rfl)) rfl
        replace ha := Aside0.mk ha
        have HR := Aside0.mk Q_HR
        refine off_ (wanted_off rfl rfl rfl (e184.trans (by first | rfl | (simp [*]; done)))) ?_
        refine hK.out _ _ ⟨(by rw [ha.out]; exact putSel_upk 21 hb_ rfl rfl rfl), Q_HR⟩
      refine steps_cons ?_ ?_
      · rintro b a w' ⟨ha, Q_HR⟩ hb_ hon hoff
        refine ⟨_, rfl, fun K hK => ?_⟩
        have e184 : a.tmps[184]? = some (.bool true) := by rw [ha]; exact putSel_on (e := (11, 184, .bool true)) 11 rfl rfl (hon 11 (by kernel_rfl)) rfl
        have e194 : a.tmps[194]? = some (undef) := by rw [ha]; exact putSel_on (e := (21, 194, undef)) 21 rfl rfl (hon 21 (by kernel_rfl)) rfl
        replace ha := Aside0.mk ha
        have HR := Aside0.mk Q_HR
        refine value_ (w1 := w') (v := .bool true) (by rfl) rfl ?_ ?_
        · go_simp
          (try simp only [i64_w])
          try rfl
        refine hK.out _ _ ⟨(by rw [ha.out]; exact putSel_upk 22 hb_ rfl rfl rfl), Q_HR⟩
      exact steps_nil
    rintro b a wq hall ⟨ha, Q_HR⟩
    clear HR
    have hb0_ := hall 0 (by kernel_rfl)
    have hb1_ := hall 1 (by kernel_rfl)
    have hb2_ := hall 2 (by kernel_rfl)
    have hb3_ := hall 3 (by kernel_rfl)
    have hb4_ := hall 4 (by kernel_rfl)
    have hb5_ := hall 5 (by kernel_rfl)
    have hb6_ := hall 6 (by kernel_rfl)
    have hb7_ := hall 7 (by kernel_rfl)
    have hb8_ := hall 8 (by kernel_rfl)
    have hb9_ := hall 9 (by kernel_rfl)
    have hb10_ := hall 10 (by kernel_rfl)
    have hb11_ := hall 11 (by kernel_rfl)
    have hb12_ := hall 12 (by kernel_rfl)
    have hb13_ := hall 13 (by kernel_rfl)
    have hb14_ := hall 14 (by kernel_rfl)
    have hb15_ := hall 15 (by kernel_rfl)
    have hb16_ := hall 16 (by kernel_rfl)
    have hb17_ := hall 17 (by kernel_rfl)
    have hb18_ := hall 18 (by kernel_rfl)
    have hb19_ := hall 19 (by kernel_rfl)
    have hb20_ := hall 20 (by kernel_rfl)
    have hb21_ := hall 21 (by kernel_rfl)
    have hb22_ := hall 22 (by kernel_rfl)
    subst ha
    simp only [putSel, hb0_, hb1_, hb2_, hb3_, hb4_, hb5_, hb6_, hb7_, hb8_, hb9_, hb10_, hb11_, hb12_, hb13_, hb14_, hb15_, hb16_, hb17_, hb18_, hb19_, hb20_, hb21_, hb22_, if_true, Act.put, List.setIfInBounds_toArray, List.set_cons_zero, List.set_cons_succ]
    have HR := Aside0.mk Q_HR
    clear Q_HR
    clear hall hb0_ hb1_ hb2_ hb3_ hb4_ hb5_ hb6_ hb7_ hb8_ hb9_ hb10_ hb11_ hb12_ hb13_ hb14_ hb15_ hb16_ hb17_ hb18_ hb19_ hb20_ hb21_ hb22_
    have HS2 := Aside0.mk (HS0.out.to (below_step HBW.out HR.out))
    have HRES := Aside0.mk HS2.out.res
    have HRES4 := Aside0.mk HS2.out.res4
    have HRB := Aside0.mk HS2.out.hb
    have hx4_0 : wq.cell? ⟨g4, 0, none⟩ = some (.slice none 0 0) := (blk_cell HRES.out 0).trans rfl
    have hx4_1 : wq.cell? ⟨g4, 1, none⟩ = some (.slice none 0 0) := (blk_cell HRES.out 1).trans rfl
    have hy4_0 := blk_frozen HRES.out 0
    have hy4_1 := blk_frozen HRES.out 1
    go_wp2
    exact .inl ⟨rfl, HNO.out, ⟨rfl, rfl, rfl, rfl⟩, blk_put (blk_put HRES.out 0 _ rfl) 1 _ rfl, below_set (below_set HRB.out HRES4.out) HRES4.out⟩
  · have hd1 : decide (ci < 0) = false := decide_eq_false h1
    by_cases h2 : ci < (q.m : Int)
    · obtain ⟨k, rfl⟩ : ∃ k : Nat, ci = (k : Int) := ⟨ci.toNat, by omega⟩
      have hkn : k < q.m := by omega
      obtain ⟨y5, ey, hyb, hyc⟩ := HIL.out.2 k hkn
      obtain ⟨x, hx⟩ : ∃ x, x = q.S.getD k 0 := ⟨_, rfl⟩
      rw [← hx] at hyc
      have hil := HIL.out
      obtain ⟨m5, hm5⟩ : ∃ x, x = q.m := ⟨_, rfl⟩
      obtain ⟨c5, hc5⟩ : ∃ x, x = q.c := ⟨_, rfl⟩
      obtain ⟨l5, hl5⟩ : ∃ x, x = q.S := ⟨_, rfl⟩
      rw [ey, ← hm5, ← hl5] at hil
      rw [ey, ← hm5, ← hc5] at hx13 BK13
      rw [← hm5] at hkn
      have hm300 : m5 ≤ 300 := by rw [hm5]; omega
      have hi0 : (0 : Int) ≤ (k : Int) := by omega
      have hi1 : (k : Int) < (m5 : Int) := by omega
      have hd2 : decide ((k : Int) ≥ (m5 : Int)) = false := decide_eq_false (by omega)
      have hd2' : decide ((m5 : Int) ≤ (k : Int)) = false := decide_eq_false (by omega)
      have HIL5 := Aside0.mk hil
      have HX := Aside0.mk hx
      have HL5 := Aside0.mk hl5
      have HM5 := Aside0.mk hm5
      have HM0 := Aside0.mk (show 0 < m5 by omega)
      obtain ⟨bb, hbb⟩ : ∃ b, (IntKind.u64.wrap x != cw) = b := ⟨_, rfl⟩
      have HBB := Aside0.mk hbb
      clear hx hl5 hm5 hc5 hil ey hnl hsz h2
      conv => arg 2; whnf
      go_upto_region 35 with fail
      have HR := Aside0.mk (Below.refl W.heap.size W)
      refine start_ (n := 23) (S := fun w' => True) (ds := []) #[false, false, false, false, false, false, false, false, false, false, false, false, false, false, false, false, false, false, false, false, false, false, false] (by kernel_rfl) rfl rfl trivial (fun hHeld => ?_)
      refine with_tabW r35.tab35 r35.bits35 (fun HT_ HW_ => ?_)
      refine inv_at [0, 1, 2, 3, 4, 5, 6, 7, 8, 9, 10, 11, 12, 13, 14, 15, 16, 17, 18, 19, 20, 21, 22] (fun a0_ b a w' => a = putSel a0_ b [(0, 173, .pointer (some ⟨g9, 2, none⟩)), (1, 174, .int .i64 (k : Int)), (2, 175, .bool false), (3, 176, .bool false), (4, 177, .pointer (some ⟨g9, 2, none⟩)), (5, 178, .int .i64 (k : Int)), (6, 179, .pointer (some ⟨g13, 4, none⟩)), (7, 180, .slice (some y5) m5 c5), (8, 181, .int .i64 (m5 : Int)), (9, 182, .bool false), (10, 183, .bool false), (11, 184, .bool false), (12, 185, .pointer (some ⟨g13, 4, none⟩)), (13, 186, .slice (some y5) m5 c5), (14, 187, .pointer (some ⟨g9, 2, none⟩)), (15, 188, .int .i64 (k : Int)), (16, 189, .pointer (some (y5.add k))), (17, 190, .int .i64 x), (18, 191, .int .u64 (IntKind.u64.wrap x)), (19, 192, .pointer (some ⟨g9, 3, none⟩)), (20, 193, .int .u64 cw), (21, 194, .bool bb), (22, 195, .bool bb)] ∧ (Below W.heap.size W w')) HT_.out HW_.out (by kernel_rfl) (by kernel_rfl) ?_ ?_ ?_
      · exact ⟨by simp only [putSel, Bool.false_eq_true, if_false], below_drew1 HR.out⟩
      · skip
        clear HR
        refine steps_cons ?_ ?_
        · rintro b a w' ⟨ha, Q_HR⟩ hb_ hon hoff
          refine ⟨_, rfl, fun K hK => ?_⟩
          have e9 : a.tmps[9]? = some (.pointer (some ⟨g9, 0, none⟩)) := by rw [ha]; exact (putSel_off rfl).trans rfl
          replace ha := Aside0.mk ha
          have HR := Aside0.mk Q_HR
          refine value_ (w1 := w') (v := .pointer (some ⟨g9, 2, none⟩)) (by rfl) rfl ?_ ?_
          · go_simp
            (try simp only [i64_w])
            try rfl
          refine hK.out _ _ ⟨(by rw [ha.out]; exact putSel_upk 0 hb_ rfl rfl rfl), Q_HR⟩
        refine steps_cons ?_ ?_
        · rintro b a w' ⟨ha, Q_HR⟩ hb_ hon hoff
          refine ⟨_, rfl, fun K hK => ?_⟩
          have e173 : a.tmps[173]? = some (.pointer (some ⟨g9, 2, none⟩)) := by rw [ha]; exact putSel_on (e := (0, 173, .pointer (some ⟨g9, 2, none⟩))) 0 rfl rfl (hon 0 (by kernel_rfl)) rfl
          replace ha := Aside0.mk ha
          have HR := Aside0.mk Q_HR
          have hl174_0 : w'.cell? ⟨g9, 2, none⟩ = some (.int .i64 (k : Int)) := (blk_cell (blk_below BK9.out HR.out) 2).trans rfl
          refine value_ (w1 := w') (v := .int .i64 (k : Int)) (by rfl) rfl ?_ ?_
          · go_simp
            (try simp only [i64_w])
            try rfl
          refine hK.out _ _ ⟨(by rw [ha.out]; exact putSel_upk 1 hb_ rfl rfl rfl), Q_HR⟩
        refine steps_cons ?_ ?_
        · rintro b a w' ⟨ha, Q_HR⟩ hb_ hon hoff
          refine ⟨_, rfl, fun K hK => ?_⟩
          have e174 : a.tmps[174]? = some (.int .i64 (k : Int)) := by rw [ha]; exact putSel_on (e := (1, 174, .int .i64 (k : Int))) 1 rfl rfl (hon 1 (by kernel_rfl)) rfl
          replace ha := Aside0.mk ha
          have HR := Aside0.mk Q_HR
          refine value_ (w1 := w') (v := .bool false) (by rfl) rfl ?_ ?_
          · go_simp
            (try simp only [i64_w])
            try rfl
          refine hK.out _ _ ⟨(by rw [ha.out]; exact putSel_upk 2 hb_ rfl rfl rfl), Q_HR⟩
        refine steps_cons ?_ ?_
        · rintro b a w' ⟨ha, Q_HR⟩ hb_ hon hoff
          refine ⟨_, rfl, fun K hK => ?_⟩
          have e175 : a.tmps[175]? = some (.bool false) := by rw [ha]; exact putSel_on (e := (2, 175, .bool false)) 2 rfl rfl (hon 2 (by kernel_rfl)) rfl
          replace ha := Aside0.mk ha
          have HR := Aside0.mk Q_HR
          refine value_ (w1 := w') (v := .bool false) (by rfl) rfl ?_ ?_
          · go_simp
            (try simp only [i64_w])
            try rfl
          refine hK.out _ _ ⟨(by rw [ha.out]; exact putSel_upk 3 hb_ rfl rfl rfl), Q_HR⟩
        refine steps_cons ?_ ?_
        · rintro b a w' ⟨ha, Q_HR⟩ hb_ hon hoff
          refine ⟨_, rfl, fun K hK => ?_⟩
          have e9 : a.tmps[9]? = some (.pointer (some ⟨g9, 0, none⟩)) := by rw [ha]; exact (putSel_off rfl).trans rfl
          have e176 : a.tmps[176]? = some (.bool false) := by rw [ha]; exact putSel_on (e := (3, 176, .bool false)) 3 rfl rfl (hon 3 (by kernel_rfl)) rfl
          replace ha := Aside0.mk ha
          have HR := Aside0.mk Q_HR
          refine value_ (w1 := w') (v := .pointer (some ⟨g9, 2, none⟩)) (wanted_on rfl rfl rfl (e176.trans (by first | rfl | (simp [*]; done)))) rfl ?_ ?_
          · go_simp
            (try simp only [i64_w])
            try rfl
          refine hK.out _ _ ⟨(by rw [ha.out]; exact putSel_upk 4 hb_ rfl rfl rfl), Q_HR⟩
        refine steps_cons ?_ ?_
        · rintro b a w' ⟨ha, Q_HR⟩ hb_ hon hoff
          refine ⟨_, rfl, fun K hK => ?_⟩
          have e177 : a.tmps[177]? = some (.pointer (some ⟨g9, 2, none⟩)) := by rw [ha]; exact putSel_on (e := (4, 177, .pointer (some ⟨g9, 2, none⟩))) 4 rfl rfl (hon 4 (by kernel_rfl)) rfl
          have e176 : a.tmps[176]? = some (.bool false) := by rw [ha]; exact putSel_on (e := (3, 176, .bool false)) 3 rfl rfl (hon 3 (by kernel_rfl)) rfl
          replace ha := Aside0.mk ha
          have HR := Aside0.mk Q_HR
          have hl178_0 : w'.cell? ⟨g9, 2, none⟩ = some (.int .i64 (k : Int)) := (blk_cell (blk_below BK9.out HR.out) 2).trans rfl
          refine value_ (w1 := w') (v := .int .i64 (k : Int)) (wanted_on rfl rfl rfl (e176.trans (by first | rfl | (simp [*]; done)))) rfl ?_ ?_
          · go_simp
            (try simp only [i64_w])
            try rfl
          refine hK.out _ _ ⟨(by rw [ha.out]; exact putSel_upk 5 hb_ rfl rfl rfl), Q_HR⟩
        refine steps_cons ?_ ?_
        · rintro b a w' ⟨ha, Q_HR⟩ hb_ hon hoff
          refine ⟨_, rfl, fun K hK => ?_⟩
          have e13 : a.tmps[13]? = some (.pointer (some ⟨g13, 0, none⟩)) := by rw [ha]; exact (putSel_off rfl).trans rfl
          have e176 : a.tmps[176]? = some (.bool false) := by rw [ha]; exact putSel_on (e := (3, 176, .bool false)) 3 rfl rfl (hon 3 (by kernel_rfl)) rfl
          replace ha := Aside0.mk ha
          have HR := Aside0.mk Q_HR
          refine value_ (w1 := w') (v := .pointer (some ⟨g13, 4, none⟩)) (wanted_on rfl rfl rfl (e176.trans (by first | rfl | (simp [*]; done)))) rfl ?_ ?_
          · go_simp
            (try simp only [i64_w])
            try rfl
          refine hK.out _ _ ⟨(by rw [ha.out]; exact putSel_upk 6 hb_ rfl rfl rfl), Q_HR⟩
        refine steps_cons ?_ ?_
        · rintro b a w' ⟨ha, Q_HR⟩ hb_ hon hoff
          refine ⟨_, rfl, fun K hK => ?_⟩
          have e179 : a.tmps[179]? = some (.pointer (some ⟨g13, 4, none⟩)) := by rw [ha]; exact putSel_on (e := (6, 179, .pointer (some ⟨g13, 4, none⟩))) 6 rfl rfl (hon 6 (by kernel_rfl)) rfl
          have e176 : a.tmps[176]? = some (.bool false) := by rw [ha]; exact putSel_on (e := (3, 176, .bool false)) 3 rfl rfl (hon 3 (by kernel_rfl)) rfl
          replace ha := Aside0.mk ha
          have HR := Aside0.mk Q_HR
          have hl180_0 : w'.cell? ⟨g13, 4, none⟩ = some (.slice (some y5) m5 c5) := (blk_cell (blk_below BK13.out HR.out) 4).trans rfl
          refine value_ (w1 := w') (v := .slice (some y5) m5 c5) (wanted_on rfl rfl rfl (e176.trans (by first | rfl | (simp [*]; done)))) rfl ?_ ?_
          · go_simp
            (try simp only [i64_w])
            try rfl
          refine hK.out _ _ ⟨(by rw [ha.out]; exact putSel_upk 7 hb_ rfl rfl rfl), Q_HR⟩
        refine steps_cons ?_ ?_
        · rintro b a w' ⟨ha, Q_HR⟩ hb_ hon hoff
          refine ⟨_, rfl, fun K hK => ?_⟩
          have e180 : a.tmps[180]? = some (.slice (some y5) m5 c5) := by rw [ha]; exact putSel_on (e := (7, 180, .slice (some y5) m5 c5)) 7 rfl rfl (hon 7 (by kernel_rfl)) rfl
          have e176 : a.tmps[176]? = some (.bool false) := by rw [ha]; exact putSel_on (e := (3, 176, .bool false)) 3 rfl rfl (hon 3 (by kernel_rfl)) rfl
          replace ha := Aside0.mk ha
          have HR := Aside0.mk Q_HR
          refine value_ (w1 := w') (v := .int .i64 (m5 : Int)) (wanted_on rfl rfl rfl (e176.trans (by first | rfl | (simp [*]; done)))) rfl ?_ ?_
          · go_simp
            (try simp only [i64_w])
            try rfl
          refine hK.out _ _ ⟨(by rw [ha.out]; exact putSel_upk 8 hb_ rfl rfl rfl), Q_HR⟩
        refine steps_cons ?_ ?_
        · rintro b a w' ⟨ha, Q_HR⟩ hb_ hon hoff
          refine ⟨_, rfl, fun K hK => ?_⟩
          have e178 : a.tmps[178]? = some (.int .i64 (k : Int)) := by rw [ha]; exact putSel_on (e := (5, 178, .int .i64 (k : Int))) 5 rfl rfl (hon 5 (by kernel_rfl)) rfl
          have e181 : a.tmps[181]? = some (.int .i64 (m5 : Int)) := by rw [ha]; exact putSel_on (e := (8, 181, .int .i64 (m5 : Int))) 8 rfl rfl (hon 8 (by kernel_rfl)) rfl
          have e176 : a.tmps[176]? = some (.bool false) := by rw [ha]; exact putSel_on (e := (3, 176, .bool false)) 3 rfl rfl (hon 3 (by kernel_rfl)) rfl
          replace ha := Aside0.mk ha
          have HR := Aside0.mk Q_HR
          refine value_ (w1 := w') (v := .bool false) (wanted_on rfl rfl rfl (e176.trans (by first | rfl | (simp [*]; done)))) rfl ?_ ?_
          · go_simp
            (try simp only [i64_w])
            try rfl
          refine hK.out _ _ ⟨(by rw [ha.out]; exact putSel_upk 9 hb_ rfl rfl rfl), Q_HR⟩
        refine steps_cons ?_ ?_
        · rintro b a w' ⟨ha, Q_HR⟩ hb_ hon hoff
          refine ⟨_, rfl, fun K hK => ?_⟩
          have e176 : a.tmps[176]? = some (.bool false) := by rw [ha]; exact putSel_on (e := (3, 176, .bool false)) 3 rfl rfl (hon 3 (by kernel_rfl)) rfl
          have e182 : a.tmps[182]? = some (.bool false) := by rw [ha]; exact putSel_on (e := (9, 182, .bool false)) 9 rfl rfl (hon 9 (by kernel_rfl)) rfl
          replace ha := Aside0.mk ha
          have HR := Aside0.mk Q_HR
          refine value_ (w1 := w') (v := .bool false) (by rfl) rfl ?_ ?_
          · go_simp
            (try simp only [i64_w])
            try rfl
          refine hK.out _ _ ⟨(by rw [ha.out]; exact putSel_upk 10 hb_ rfl rfl rfl), Q_HR⟩
        refine steps_cons ?_ ?_
        · rintro b a w' ⟨ha, Q_HR⟩ hb_ hon hoff
          refine ⟨_, rfl, fun K hK => ?_⟩
          have e183 : a.tmps[183]? = some (.bool false) := by rw [ha]; exact putSel_on (e := (10, 183, .bool false)) 10 rfl rfl (hon 10 (by kernel_rfl)) rfl
          replace ha := Aside0.mk ha
          have HR := Aside0.mk Q_HR
          refine value_ (w1 := w') (v := .bool false) (by rfl) rfl ?_ ?_
          · go_simp
            (try simp only [i64_w])
            try rfl
          refine hK.out _ _ ⟨(by rw [ha.out]; exact putSel_upk 11 hb_ rfl rfl rfl), Q_HR⟩
        refine steps_cons ?_ ?_
        · rintro b a w' ⟨ha, Q_HR⟩ hb_ hon hoff
          refine ⟨_, rfl, fun K hK => ?_⟩
          have e13 : a.tmps[13]? = some (.pointer (some ⟨g13, 0, none⟩)) := by rw [ha]; exact (putSel_off rfl).trans rfl
          have e184 : a.tmps[184]? = some (.bool false) := by rw [ha]; exact putSel_on (e := (11, 184, .bool false)) 11 rfl rfl (hon 11 (by kernel_rfl)) rfl
          replace ha := Aside0.mk ha
          have HR := Aside0.mk Q_HR
          refine value_ (w1 := w') (v := .pointer (some ⟨g13, 4, none⟩)) (wanted_on rfl rfl rfl (e184.trans (by first | rfl | (simp [*]; done)))) rfl ?_ ?_
          · go_simp
            (try simp only [i64_w])
            try rfl
          refine hK.out _ _ ⟨(by rw [ha.out]; exact putSel_upk 12 hb_ rfl rfl rfl), Q_HR⟩
        refine steps_cons ?_ ?_
        · rintro b a w' ⟨ha, Q_HR⟩ hb_ hon hoff
          refine ⟨_, rfl, fun K hK => ?_⟩
          have e185 : a.tmps[185]? = some (.pointer (some ⟨g13, 4, none⟩)) := by rw [ha]; exact putSel_on (e := (12, 185, .pointer (some ⟨g13, 4, none⟩))) 12 rfl rfl (hon 12 (by kernel_rfl)) rfl
          have e184 : a.tmps[184]? = some (.bool false) := by rw [ha]; exact putSel_on (e := (11, 184, .bool false)) 11 rfl rfl (hon 11 (by kernel_rfl)) rfl
          replace ha := Aside0.mk ha
          have HR := Aside0.mk Q_HR
          have hl186_0 : w'.cell? ⟨g13, 4, none⟩ = some (.slice (some y5) m5 c5) := (blk_cell (blk_below BK13.out HR.out) 4).trans rfl
          refine value_ (w1 := w') (v := .slice (some y5) m5 c5) (wanted_on rfl rfl rfl (e184.trans (by first | rfl | (simp [*]; done)))) rfl ?_ ?_
          · go_simp
            (try simp only [i64_w])
            try rfl
          refine hK.out _ _ ⟨(by rw [ha.out]; exact putSel_upk 13 hb_ rfl rfl rfl), Q_HR⟩
        refine steps_cons ?_ ?_
        · rintro b a w' ⟨ha, Q_HR⟩ hb_ hon hoff
          refine ⟨_, rfl, fun K hK => ?_⟩
          have e9 : a.tmps[9]? = some (.pointer (some ⟨g9, 0, none⟩)) := by rw [ha]; exact (putSel_off rfl).trans rfl
          have e184 : a.tmps[184]? = some (.bool false) := by rw [ha]; exact putSel_on (e := (11, 184, .bool false)) 11 rfl rfl (hon 11 (by kernel_rfl)) rfl
          replace ha := Aside0.mk ha
          have HR := Aside0.mk Q_HR
          refine value_ (w1 := w') (v := .pointer (some ⟨g9, 2, none⟩)) (wanted_on rfl rfl rfl (e184.trans (by first | rfl | (simp [*]; done)))) rfl ?_ ?_
          · go_simp
            (try simp only [i64_w])
            try rfl
          refine hK.out _ _ ⟨(by rw [ha.out]; exact putSel_upk 14 hb_ rfl rfl rfl), Q_HR⟩
        refine steps_cons ?_ ?_
        · rintro b a w' ⟨ha, Q_HR⟩ hb_ hon hoff
          refine ⟨_, rfl, fun K hK => ?_⟩
          have e187 : a.tmps[187]? = some (.pointer (some ⟨g9, 2, none⟩)) := by rw [ha]; exact putSel_on (e := (14, 187, .pointer (some ⟨g9, 2, none⟩))) 14 rfl rfl (hon 14 (by kernel_rfl)) rfl
          have e184 : a.tmps[184]? = some (.bool false) := by rw [ha]; exact putSel_on (e := (11, 184, .bool false)) 11 rfl rfl (hon 11 (by kernel_rfl)) rfl
          replace ha := Aside0.mk ha
          have HR := Aside0.mk Q_HR
          have hl188_0 : w'.cell? ⟨g9, 2, none⟩ = some (.int .i64 (k : Int)) := (blk_cell (blk_below BK9.out HR.out) 2).trans rfl
          refine value_ (w1 := w') (v := .int .i64 (k : Int)) (wanted_on rfl rfl rfl (e184.trans (by first | rfl | (simp [*]; done)))) rfl ?_ ?_
          · go_simp
            (try simp only [i64_w])
            try rfl
          refine hK.out _ _ ⟨(by rw [ha.out]; exact putSel_upk 15 hb_ rfl rfl rfl), Q_HR⟩
        refine steps_cons ?_ ?_
        · rintro b a w' ⟨ha, Q_HR⟩ hb_ hon hoff
          refine ⟨_, rfl, fun K hK => ?_⟩
          have e186 : a.tmps[186]? = some (.slice (some y5) m5 c5) := by rw [ha]; exact putSel_on (e := (13, 186, .slice (some y5) m5 c5)) 13 rfl rfl (hon 13 (by kernel_rfl)) rfl
          have e188 : a.tmps[188]? = some (.int .i64 (k : Int)) := by rw [ha]; exact putSel_on (e := (15, 188, .int .i64 (k : Int))) 15 rfl rfl (hon 15 (by kernel_rfl)) rfl
          have e184 : a.tmps[184]? = some (.bool false) := by rw [ha]; exact putSel_on (e := (11, 184, .bool false)) 11 rfl rfl (hon 11 (by kernel_rfl)) rfl
          replace ha := Aside0.mk ha
          have HR := Aside0.mk Q_HR
          refine value_ (w1 := w') (v := .pointer (some (y5.add k))) (wanted_on rfl rfl rfl (e184.trans (by first | rfl | (simp [*]; done)))) rfl ?_ ?_
          · go_simp
            (try simp only [i64_w])
            try rfl
          refine hK.out _ _ ⟨(by rw [ha.out]; exact putSel_upk 16 hb_ rfl rfl rfl), Q_HR⟩
        refine steps_cons ?_ ?_
        · rintro b a w' ⟨ha, Q_HR⟩ hb_ hon hoff
          refine ⟨_, rfl, fun K hK => ?_⟩
          have e189 : a.tmps[189]? = some (.pointer (some (y5.add k))) := by rw [ha]; exact putSel_on (e := (16, 189, .pointer (some (y5.add k)))) 16 rfl rfl (hon 16 (by kernel_rfl)) rfl
          have e184 : a.tmps[184]? = some (.bool false) := by rw [ha]; exact putSel_on (e := (11, 184, .bool false)) 11 rfl rfl (hon 11 (by kernel_rfl)) rfl
          replace ha := Aside0.mk ha
          have HR := Aside0.mk Q_HR
          have hl190 : w'.cell? (y5.add k) = some (.int .i64 x) := (HR.out.cell (p := y5.add k) (cell_lt hyc)).trans hyc
          refine value_ (w1 := w') (v := .int .i64 x) (wanted_on rfl rfl rfl (e184.trans (by first | rfl | (simp [*]; done)))) rfl ?_ ?_
          · go_simp
            (try simp only [i64_w])
            try rfl
          refine hK.out _ _ ⟨(by rw [ha.out]; exact putSel_upk 17 hb_ rfl rfl rfl), Q_HR⟩
        refine steps_cons ?_ ?_
        · rintro b a w' ⟨ha, Q_HR⟩ hb_ hon hoff
          refine ⟨_, rfl, fun K hK => ?_⟩
          have e190 : a.tmps[190]? = some (.int .i64 x) := by rw [ha]; exact putSel_on (e := (17, 190, .int .i64 x)) 17 rfl rfl (hon 17 (by kernel_rfl)) rfl
          have e184 : a.tmps[184]? = some (.bool false) := by rw [ha]; exact putSel_on (e := (11, 184, .bool false)) 11 rfl rfl (hon 11 (by kernel_rfl)) rfl
          replace ha := Aside0.mk ha
          have HR := Aside0.mk Q_HR
          refine value_ (w1 := w') (v := .int .u64 (IntKind.u64.wrap x)) (wanted_on rfl rfl rfl (e184.trans (by first | rfl | (simp [*]; done)))) rfl ?_ ?_
          · go_simp
            (try simp only [i64_w])
            try rfl
          refine hK.out _ _ ⟨(by rw [ha.out]; exact putSel_upk 18 hb_ rfl rfl rfl), Q_HR⟩
        refine steps_cons ?_ ?_
        · rintro b a w' ⟨ha, Q_HR⟩ hb_ hon hoff
          refine ⟨_, rfl, fun K hK => ?_⟩
          have e9 : a.tmps[9]? = some (.pointer (some ⟨g9, 0, none⟩)) := by rw [ha]; exact (putSel_off rfl).trans rfl
          have e184 : a.tmps[184]? = some (.bool false) := by rw [ha]; exact putSel_on (e := (11, 184, .bool false)) 11 rfl rfl (hon 11 (by kernel_rfl)) rfl
          replace ha := Aside0.mk ha
          have HR := Aside0.mk Q_HR
          refine value_ (w1 := w') (v := .pointer (some ⟨g9, 3, none⟩)) (wanted_on rfl rfl rfl (e184.trans (by first | rfl | (simp [*]; done)))) rfl ?_ ?_
          · go_simp
            (try simp only [i64_w])
            try rfl
          refine hK.out _ _ ⟨(by rw [ha.out]; exact putSel_upk 19 hb_ rfl rfl rfl), Q_HR⟩
        refine steps_cons ?_ ?_
        · rintro b a w' ⟨ha, Q_HR⟩ hb_ hon hoff
          refine ⟨_, rfl, fun K hK => ?_⟩
          have e192 : a.tmps[192]? = some (.pointer (some ⟨g9, 3, none⟩)) := by rw [ha]; exact putSel_on (e := (19, 192, .pointer (some ⟨g9, 3, none⟩))) 19 rfl rfl (hon 19 (by kernel_rfl)) rfl
          have e184 : a.tmps[184]? = some (.bool false) := by rw [ha]; exact putSel_on (e := (11, 184, .bool false)) 11 rfl rfl (hon 11 (by kernel_rfl)) rfl
          replace ha := Aside0.mk ha
          have HR := Aside0.mk Q_HR
          have hl193_0 : w'.cell? ⟨g9, 3, none⟩ = some (.int .u64 cw) := (blk_cell (blk_below BK9.out HR.out) 3).trans rfl
          refine value_ (w1 := w') (v := .int .u64 cw) (wanted_on rfl rfl rfl (e184.trans (by first | rfl | (simp [*]; done)))) rfl ?_ ?_
          · go_simp
            (try simp only [i64_w])
            try rfl
          refine hK.out _ _ ⟨(by rw [ha.out]; exact putSel_upk 20 hb_ rfl rfl rfl), Q_HR⟩
        refine steps_cons ?_ ?_
        · rintro b a w' ⟨ha, Q_HR⟩ hb_ hon hoff
          refine ⟨_, rfl, fun K hK => ?_⟩
          have e191 : a.tmps[191]? = some (.int .u64 (IntKind.u64.wrap x)) := by rw [ha]; exact putSel_on (e := (18, 191, .int .u64 (IntKind.u64.wrap x))) 18 rfl rfl (hon 18 (by kernel_rfl)) rfl
          have e193 : a.tmps[193]? = some (.int .u64 cw) := by rw [ha]; exact putSel_on (e := (20, 193, .int .u64 cw)) 20 rfl rfl (hon 20 (by kernel_rfl)) rfl
          have e184 : a.tmps[184]? = some (.bool false) := by rw [ha]; exact putSel_on (e := (11, 184, .bool false)) 11 rfl rfl (hon 11 (by kernel_rfl)) rfl
          replace ha := Aside0.mk ha
          have HR := Aside0.mk Q_HR
          refine value_ (w1 := w') (v := .bool bb) (wanted_on rfl rfl rfl (e184.trans (by first | rfl | (simp [*]; done)))) rfl ?_ ?_
          · go_simp
            (try simp only [i64_w])
            try rfl
          refine hK.out _ _ ⟨(by rw [ha.out]; exact putSel_upk 21 hb_ rfl rfl rfl), Q_HR⟩
        refine steps_cons ?_ ?_
        · rintro b a w' ⟨ha, Q_HR⟩ hb_ hon hoff
          refine ⟨_, rfl, fun K hK => ?_⟩
          have e184 : a.tmps[184]? = some (.bool false) := by rw [ha]; exact putSel_on (e := (11, 184, .bool false)) 11 rfl rfl (hon 11 (by kernel_rfl)) rfl
          have e194 : a.tmps[194]? = some (.bool bb) := by rw [ha]; exact putSel_on (e := (21, 194, .bool bb)) 21 rfl rfl (hon 21 (by kernel_rfl)) rfl
          replace ha := Aside0.mk ha
          have HR := Aside0.mk Q_HR
          refine value_ (w1 := w') (v := .bool bb) (by rfl) rfl ?_ ?_
          · go_simp
            (try simp only [i64_w])
            try rfl
          refine hK.out _ _ ⟨(by rw [ha.out]; exact putSel_upk 22 hb_ rfl rfl rfl), Q_HR⟩
        exact steps_nil
      rintro b a wq hall ⟨ha, Q_HR⟩
      clear HR
      have hb0_ := hall 0 (by kernel_rfl)
      have hb1_ := hall 1 (by kernel_rfl)
      have hb2_ := hall 2 (by kernel_rfl)
      have hb3_ := hall 3 (by kernel_rfl)
      have hb4_ := hall 4 (by kernel_rfl)
      have hb5_ := hall 5 (by kernel_rfl)
      have hb6_ := hall 6 (by kernel_rfl)
      have hb7_ := hall 7 (by kernel_rfl)
      have hb8_ := hall 8 (by kernel_rfl)
      have hb9_ := hall 9 (by kernel_rfl)
      have hb10_ := hall 10 (by kernel_rfl)
      have hb11_ := hall 11 (by kernel_rfl)
      have hb12_ := hall 12 (by kernel_rfl)
      have hb13_ := hall 13 (by kernel_rfl)
      have hb14_ := hall 14 (by kernel_rfl)
      have hb15_ := hall 15 (by kernel_rfl)
      have hb16_ := hall 16 (by kernel_rfl)
      have hb17_ := hall 17 (by kernel_rfl)
      have hb18_ := hall 18 (by kernel_rfl)
      have hb19_ := hall 19 (by kernel_rfl)
      have hb20_ := hall 20 (by kernel_rfl)
      have hb21_ := hall 21 (by kernel_rfl)
      have hb22_ := hall 22 (by kernel_rfl)
      subst ha
      simp only [putSel, hb0_, hb1_, hb2_, hb3_, hb4_, hb5_, hb6_, hb7_, hb8_, hb9_, hb10_, hb11_, hb12_, hb13_, hb14_, hb15_, hb16_, hb17_, hb18_, hb19_, hb20_, hb21_, hb22_, if_true, Act.put, List.setIfInBounds_toArray, List.set_cons_zero, List.set_cons_succ]
      have HR := Aside0.mk Q_HR
      clear Q_HR
      clear hall hb0_ hb1_ hb2_ hb3_ hb4_ hb5_ hb6_ hb7_ hb8_ hb9_ hb10_ hb11_ hb12_ hb13_ hb14_ hb15_ hb16_ hb17_ hb18_ hb19_ hb20_ hb21_ hb22_
      clear hbb hyc
      have HBWq := Aside0.mk (below_step HBW.out HR.out)
      have HS2 := Aside0.mk (HS0.out.to HBWq.out)
      have BK9q := Aside0.mk (blk_below BK9.out HR.out)
      have BK13q := Aside0.mk (blk_below BK13.out HR.out)
      have HLq := Aside0.mk (HIL5.out.to HR.out)
      cases bb with
      | true =>
        have hno : chgS q.S (⟨4, ca, (k : Int), cw, cs⟩ : Ch) = none := if_neg (fun h => by
          have h3 := h.2.2
          simp only [Int.toNat_natCast] at h3
          rw [← HX.out] at h3
          have := HBB.out
          rw [show IntKind.u64.wrap x = cw from h3] at this
          simp at this)
        have HNO := Aside0.mk (show applyP (R, M.map Nd.pn) (⟨4, ca, (k : Int), cw, cs⟩ : Ch) = none by rw [HAP.out, hno]; rfl)
        clear hno
        have HRES := Aside0.mk HS2.out.res
        have HRES4 := Aside0.mk HS2.out.res4
        have HRB := Aside0.mk HS2.out.hb
        have hx4_0 : wq.cell? ⟨g4, 0, none⟩ = some (.slice none 0 0) := (blk_cell HRES.out 0).trans rfl
        have hx4_1 : wq.cell? ⟨g4, 1, none⟩ = some (.slice none 0 0) := (blk_cell HRES.out 1).trans rfl
        have hy4_0 := blk_frozen HRES.out 0
        have hy4_1 := blk_frozen HRES.out 1
        go_wp2
        exact .inl ⟨rfl, HNO.out, ⟨rfl, rfl, rfl, rfl⟩, blk_put (blk_put HRES.out 0 _ rfl) 1 _ rfl, below_set (below_set HRB.out HRES4.out) HRES4.out⟩
      | false =>
        have he : IntKind.u64.wrap x = cw := by simpa using HBB.out
        have hll : l5.length = m5 := HIL5.out.1
        have HYES := Aside0.mk (show chgS q.S (⟨4, ca, (k : Int), cw, cs⟩ : Ch) = some (q.S.set k (i64 cs)) from if_pos ⟨by simp only; omega, by simp only; rw [← HL5.out]; omega, by simp only [Int.toNat_natCast]; rw [← HX.out]; exact he⟩)
        clear he
        have hx9_2wq : wq.cell? ⟨g9, 2, none⟩ = some (.int .i64 (k : Int)) := (blk_cell BK9q.out 2).trans rfl
        have hx9_4wq : wq.cell? ⟨g9, 4, none⟩ = some (.int .u64 cs) := (blk_cell BK9q.out 4).trans rfl
        have hq13 : (wq.alloc (.cells #[] 3)).cell? ⟨g13, 4, none⟩ = some (.slice (some y5) m5 c5) := (blk_cell (blk_alloc BK13q.out (.cells #[] 3)) 4).trans rfl
        go_upto_region 38 with (at_builtin; refine wpList_append_il rfl (.tmp 197) (.tmp 199) 22 rfl .i64 wq.heap.size wq.heap.size 3 i0 (.int .i64 0) 8 Try.underlying22 hi hz0 hz1 hz2 rfl (.slice (some ⟨wq.heap.size, 0, none⟩) 0 0) 0 [] rfl (row_empty (blk_new wq (.cells #[] 3)) (Nat.le_refl _)) (some y5) m5 c5 l5 rfl (HLq.out.kept fun k hk => Below.heap_alloc wq _ k hk) (by unfold maxLen; omega) (by omega) (by rw [World.size_alloc]; omega) ?_; rw [Nat.zero_add, List.nil_append]; intro v1 w1 hown1 hgr1; obtain ⟨gx, cx, rfl⟩ := row1_some HM0.out hown1; have ROW1 := Aside0.mk hown1; have HB1 := Aside0.mk (own_below (below_alloc (Below.refl wq.heap.size wq) (.cells #[] 3)) (Nat.le_refl _) (row_empty (s := 1) (blk_new wq (.cells #[] 3)) (Nat.le_refl _)) hgr1); have BK13w := Aside0.mk (blk_below BK13q.out HB1.out); have hw13 : w1.cell? ⟨g13, 4, none⟩ = some (.slice (some y5) m5 c5) := (blk_cell BK13w.out 4).trans rfl; have hwf13 := blk_frozen BK13w.out 4; clear hown1 hgr1)
        obtain ⟨w2, hw2⟩ : ∃ x, x = w1.setCell ⟨g13, 4, none⟩ (.slice (some ⟨gx, 0, none⟩) m5 cx) := ⟨_, rfl⟩
        rw [← hw2]
        have h13q : g13 < wq.heap.size := blk_lt BK13q.out
        have hgx : wq.heap.size ≤ gx := (ROW1.out.lt gx rfl).1
        have BK13x := Aside0.mk (show w2.heap[g13]? = some (.cells #[.int .i64 q.adr, .int .i64 q.refs, .int .i64 q.sl, .int .i64 q.words, .slice (some ⟨gx, 0, none⟩) m5 cx, .slice q.B q.n q.d] 40 (0, 0)) by rw [hw2]; exact blk_put BK13w.out 4 _ rfl)
        have ROW2 := Aside0.mk (show w2.ownsRow wq.heap.size 3 1 (.slice (some ⟨gx, 0, none⟩) m5 cx) m5 (l5.map (Value.int .i64)) by rw [hw2]; exact ownsRow_setCell_below ROW1.out h13q _)
        have HB2 := Aside0.mk (show Below W0.heap.size W0 w2 by rw [hw2]; exact below_set (below_step HBWq.out HB1.out) H13.out)
        have BK9x := Aside0.mk (show w2.heap[g9]? = some (.cells #[.int .i64 4, .int .i64 ca, .int .i64 (k : Int), .int .u64 cw, .int .u64 cs] 44 (0, 0)) by rw [hw2]; exact blk_far (blk_below BK9q.out HB1.out) (blk_ne BK9q.out BK13q.out (by decide)) _)
        have NEX := Aside0.mk (show g13 ≠ gx by omega)
        have HGX := Aside0.mk hgx
        have HW2 := Aside0.mk hw2
        clear hw2 hgx h13q hw13 hwf13
        have hv13 : w2.cell? ⟨g13, 4, none⟩ = some (.slice (some ⟨gx, 0, none⟩) m5 cx) := (blk_cell BK13x.out 4).trans rfl
        have hx9_2w2 : w2.cell? ⟨g9, 2, none⟩ = some (.int .i64 (k : Int)) := (blk_cell BK9x.out 2).trans rfl
        have hx9_4w2 : w2.cell? ⟨g9, 4, none⟩ = some (.int .u64 cs) := (blk_cell BK9x.out 4).trans rfl
        have hyx := ROW2.out.cellAt k (by rw [Nat.mul_one]; exact hkn)
        rw [List.getElem?_map, getD_at (show k < l5.length by omega)] at hyx
        replace hyx : w2.cell? ⟨gx, k, none⟩ = some (.int .i64 (l5.getD k 0)) := hyx
        have hyf := ROW2.out.frozenAt k
        have hst := (ROW2.out.stored k (.int .i64 (wrap64 cs))).1
        rw [← List.map_set (f := Value.int .i64)] at hst
        obtain ⟨w3, hw3⟩ : ∃ x, x = w2.setCell ⟨gx, k, none⟩ (.int .i64 (wrap64 cs)) := ⟨_, rfl⟩
        have ROW3 := Aside0.mk (hw3 ▸ hst)
        have BK13y := Aside0.mk (show w3.heap[g13]? = some (.cells #[.int .i64 q.adr, .int .i64 q.refs, .int .i64 q.sl, .int .i64 q.words, .slice (some ⟨gx, 0, none⟩) m5 cx, .slice q.B q.n q.d] 40 (0, 0)) by rw [hw3]; exact blk_far BK13x.out NEX.out _)
        have HB3 := Aside0.mk (show Below W0.heap.size W0 w3 by rw [hw3]; exact below_set HB2.out (Nat.le_trans (Nat.le_trans HBWq.out.size HGX.out) (Nat.le_refl _)))
        have HS3 := Aside0.mk (HS0.out.to HB3.out)
        clear hst
        go_upto_region 43 with fail
        rw [← hw3]
        have HW3 := Aside0.mk hw3
        clear hw3 hyx hyf hv13 hq13
        obtain ⟨gn, cn, en⟩ : ∃ gn cn, vn = .slice (some ⟨gn, 0, none⟩) M.length cn := by
          rcases row40_form HS3.out.rows with ⟨_, h0⟩ | ⟨g, cap, e⟩
          · have := HIX.out; omega
          · exact ⟨g, cap, e⟩
        subst en
        obtain ⟨xn, hxn⟩ : ∃ xn : Nd, xn = { q with A := some ⟨gx, 0, none⟩, m := m5, c := cx, S := l5.set k (wrap64 cs) } := ⟨_, rfl⟩
        have hdx : DX w3 (own2 vt (.slice (some ⟨gn, 0, none⟩) M.length cn)) xn := by
          rw [hxn]
          have hq3 := HS3.out.lists q HQM.out
          have hgn : gn < W0.heap.size := (HS0.out.rows.lt gn rfl).2
          have hvt : ∀ j, vt.ownBlock = some j → j < W0.heap.size := fun j e => (HS0.out.tops.lt j e).2
          have hgx0 : W0.heap.size ≤ gx := Nat.le_trans HBWq.out.size HGX.out
          obtain ⟨a7, c7, e7, h7⟩ := IL_of_row ROW3.out
          cases e7
          have hnew : IX .i64 w3 (own2 vt (.slice (some ⟨gn, 0, none⟩) M.length cn)) (some ⟨gx, 0, none⟩) m5 (l5.set k (wrap64 cs)) := ⟨h7.1, fun j hj => by
            obtain ⟨yy, ee, hb, hc⟩ := h7.2 j hj
            refine ⟨yy, ee, hb, fun hS => ?_, hc⟩
            cases ee
            rcases own2_mem.1 hS with e | e
            · have h8 := hvt _ e
              have h9 : gx < W0.heap.size := h8
              omega
            · have h8 : gn = gx := Option.some.inj e
              omega⟩
          exact ⟨hnew, hq3.2⟩
        have hput := HS3.out.put HIX.out (x := xn) (by rw [List.getD_eq_getElem?_getD, HQ.out, hxn]; rfl) hdx (by rw [hxn]; exact ⟨hm300, HSZ.out.2⟩)
        have HPUT := Aside0.mk hput
        have HST := Aside0.mk (show applyP (R, M.map Nd.pn) (⟨4, ca, (k : Int), cw, cs⟩ : Ch) = some (R, (M.set ix xn).map Nd.pn) by
          rw [HAP.out, HYES.out, ← set_pn, hxn, HL5.out]; rw [show i64 cs = wrap64 cs from i64_w cs]; rfl)
        have hr6 := row6g HS3.out.rows HIX.out
        obtain ⟨hs0, hs1, hs2, hs3, hs4, hs5⟩ := hr6
        obtain ⟨hf0, hf1, hf2, hf3, hf4, hf5⟩ := thaw6g HS3.out.rows ix
        have hLM := HIX.out
        obtain ⟨n, hn⟩ : ∃ n, n = M.length := ⟨_, rfl⟩
        have HNN := Aside0.mk hn
        rw [← hn] at hLM
        have hj0 : (0 : Int) ≤ (ix : Int) := by omega
        have hj1 : (ix : Int) < (n : Int) := by omega
        rw [← hn]
        have HXN := Aside0.mk hxn
        clear hput hdx hn hxn
        have hw3_0 : w3.cell? ⟨g13, 0, none⟩ = some (.int .i64 q.adr) := (blk_cell BK13y.out 0).trans rfl
        have hw3_1 : w3.cell? ⟨g13, 1, none⟩ = some (.int .i64 q.refs) := (blk_cell BK13y.out 1).trans rfl
        have hw3_2 : w3.cell? ⟨g13, 2, none⟩ = some (.int .i64 q.sl) := (blk_cell BK13y.out 2).trans rfl
        have hw3_3 : w3.cell? ⟨g13, 3, none⟩ = some (.int .i64 q.words) := (blk_cell BK13y.out 3).trans rfl
        have hw3_4 : w3.cell? ⟨g13, 4, none⟩ = some (.slice (some ⟨gx, 0, none⟩) m5 cx) := (blk_cell BK13y.out 4).trans rfl
        have hw3_5 : w3.cell? ⟨g13, 5, none⟩ = some (.slice q.B q.n q.d) := (blk_cell BK13y.out 5).trans rfl
        go_wp2
        have hp2 := HPUT.out
        rw [HXN.out] at hp2
        have hs2' := HST.out
        rw [HXN.out] at hs2'
        refine .inr ⟨.inr rfl, vt, _, R, _, hs2', ⟨rfl, rfl, rfl, rfl, rfl, rfl, rfl, rfl⟩, ?_, by rw [List.length_set]; exact Nat.le_succ _⟩
        rw [HNN.out]
        exact hp2
    · have hd2 : decide (ci ≥ (q.m : Int)) = true := decide_eq_true (by omega)
      have hd2' : decide ((q.m : Int) ≤ ci) = true := decide_eq_true (by omega)
      have HNO := Aside0.mk (show applyP (R, M.map Nd.pn) (⟨4, ca, ci, cw, cs⟩ : Ch) = none by rw [HAP.out, show chgS q.S ⟨4, ca, ci, cw, cs⟩ = none from if_neg (fun h => by have := h.2.1; simp only at this; omega)]; rfl)
      obtain ⟨A5, hA5⟩ : ∃ x, x = q.A := ⟨_, rfl⟩
      obtain ⟨m5, hm5⟩ : ∃ x, x = q.m := ⟨_, rfl⟩
      obtain ⟨c5, hc5⟩ : ∃ x, x = q.c := ⟨_, rfl⟩
      rw [← hA5, ← hm5, ← hc5] at hx13 BK13
      rw [← hm5] at hd2 hd2'
      clear hA5 hm5 hc5 hsz hnl h2
      conv => arg 2; whnf
      go_upto_region 35 with fail
      have HR := Aside0.mk (Below.refl W.heap.size W)
      refine start_ (n := 23) (S := fun w' => True) (ds := []) #[false, false, false, false, false, false, false, false, false, false, false, false, false, false, false, false, false, false, false, false, false, false, false] (by kernel_rfl) rfl rfl trivial (fun hHeld => ?_)
      refine with_tabW r35.tab35 r35.bits35 (fun HT_ HW_ => ?_)
      refine inv_at [0, 1, 2, 3, 4, 5, 6, 7, 8, 9, 10, 11, 12, 13, 14, 15, 16, 17, 18, 19, 20, 21, 22] (fun a0_ b a w' => a = putSel a0_ b [(0, 173, .pointer (some ⟨g9, 2, none⟩)), (1, 174, .int .i64 ci), (2, 175, .bool false), (3, 176, .bool false), (4, 177, .pointer (some ⟨g9, 2, none⟩)), (5, 178, .int .i64 ci), (6, 179, .pointer (some ⟨g13, 4, none⟩)), (7, 180, .slice A5 m5 c5), (8, 181, .int .i64 (m5 : Int)), (9, 182, .bool true), (10, 183, .bool true), (11, 184, .bool true), (12, 185, undef), (13, 186, undef), (14, 187, undef), (15, 188, undef), (16, 189, undef), (17, 190, undef), (18, 191, undef), (19, 192, undef), (20, 193, undef), (21, 194, undef), (22, 195, .bool true)] ∧ (Below W.heap.size W w')) HT_.out HW_.out (by kernel_rfl) (by kernel_rfl) ?_ ?_ ?_
      · exact ⟨by simp only [putSel, Bool.false_eq_true, if_false], below_drew1 HR.out⟩
      · skip
        clear HR
        refine steps_cons ?_ ?_
        · rintro b a w' ⟨ha, Q_HR⟩ hb_ hon hoff
          refine ⟨_, rfl, fun K hK => ?_⟩
          have e9 : a.tmps[9]? = some (.pointer (some ⟨g9, 0, none⟩)) := by rw [ha]; exact (putSel_off rfl).trans rfl
          replace ha := Aside0.mk ha
          have HR := Aside0.mk Q_HR
          refine value_ (w1 := w') (v := .pointer (some ⟨g9, 2, none⟩)) (by rfl) rfl ?_ ?_
          · go_simp
            (try simp only [i64_w])
            try rfl
          refine hK.out _ _ ⟨(by rw [ha.out]; exact putSel_upk 0 hb_ rfl rfl rfl), Q_HR⟩
        refine steps_cons ?_ ?_
        · rintro b a w' ⟨ha, Q_HR⟩ hb_ hon hoff
          refine ⟨_, rfl, fun K hK => ?_⟩
          have e173 : a.tmps[173]? = some (.pointer (some ⟨g9, 2, none⟩)) := by rw [ha]; exact putSel_on (e := (0, 173, .pointer (some ⟨g9, 2, none⟩))) 0 rfl rfl (hon 0 (by kernel_rfl)) rfl
          replace ha := Aside0.mk ha
          have HR := Aside0.mk Q_HR
          have hl174_0 : w'.cell? ⟨g9, 2, none⟩ = some (.int .i64 ci) := (blk_cell (blk_below BK9.out HR.out) 2).trans rfl
          refine value_ (w1 := w') (v := .int .i64 ci) (by rfl) rfl ?_ ?_
          · go_simp
            (try simp only [i64_w])
            try rfl
          refine hK.out _ _ ⟨(by rw [ha.out]; exact putSel_upk 1 hb_ rfl rfl rfl), Q_HR⟩
        refine steps_cons ?_ ?_
        · rintro b a w' ⟨ha, Q_HR⟩ hb_ hon hoff
          refine ⟨_, rfl, fun K hK => ?_⟩
          have e174 : a.tmps[174]? = some (.int .i64 ci) := by rw [ha]; exact putSel_on (e := (1, 174, .int .i64 ci)) 1 rfl rfl (hon 1 (by kernel_rfl)) rfl
          replace ha := Aside0.mk ha
          have HR := Aside0.mk Q_HR
          refine value_ (w1 := w') (v := .bool false) (by rfl) rfl ?_ ?_
          · go_simp
            (try simp only [i64_w])
            try rfl
          refine hK.out _ _ ⟨(by rw [ha.out]; exact putSel_upk 2 hb_ rfl rfl rfl), Q_HR⟩
        refine steps_cons ?_ ?_
        · rintro b a w' ⟨ha, Q_HR⟩ hb_ hon hoff
          refine ⟨_, rfl, fun K hK => ?_⟩
          have e175 : a.tmps[175]? = some (.bool false) := by rw [ha]; exact putSel_on (e := (2, 175, .bool false)) 2 rfl rfl (hon 2 (by kernel_rfl)) rfl
          replace ha := Aside0.mk ha
          have HR := Aside0.mk Q_HR
          refine value_ (w1 := w') (v := .bool false) (by rfl) rfl ?_ ?_
          · go_simp
            (try simp only [i64_w])
            try rfl
          refine hK.out _ _ ⟨(by rw [ha.out]; exact putSel_upk 3 hb_ rfl rfl rfl), Q_HR⟩
        refine steps_cons ?_ ?_
        · rintro b a w' ⟨ha, Q_HR⟩ hb_ hon hoff
          refine ⟨_, rfl, fun K hK => ?_⟩
          have e9 : a.tmps[9]? = some (.pointer (some ⟨g9, 0, none⟩)) := by rw [ha]; exact (putSel_off rfl).trans rfl
          have e176 : a.tmps[176]? = some (.bool false) := by rw [ha]; exact putSel_on (e := (3, 176, .bool false)) 3 rfl rfl (hon 3 (by kernel_rfl)) rfl
          replace ha := Aside0.mk ha
          have HR := Aside0.mk Q_HR
          refine value_ (w1 := w') (v := .pointer (some ⟨g9, 2, none⟩)) (wanted_on rfl rfl rfl (e176.trans (by first | rfl | (simp [*]; done)))) rfl ?_ ?_
          · go_simp
            (try simp only [i64_w])
            try rfl
          refine hK.out _ _ ⟨(by rw [ha.out]; exact putSel_upk 4 hb_ rfl rfl rfl), Q_HR⟩
        refine steps_cons ?_ ?_
        · rintro b a w' ⟨ha, Q_HR⟩ hb_ hon hoff
          refine ⟨_, rfl, fun K hK => ?_⟩
          have e177 : a.tmps[177]? = some (.pointer (some ⟨g9, 2, none⟩)) := by rw [ha]; exact putSel_on (e := (4, 177, .pointer (some ⟨g9, 2, none⟩))) 4 rfl rfl (hon 4 (by kernel_rfl)) rfl
          have e176 : a.tmps[176]? = some (.bool false) := by rw [ha]; exact putSel_on (e := (3, 176, .bool false)) 3 rfl rfl (hon 3 (by kernel_rfl)) rfl
          replace ha := Aside0.mk ha
          have HR := Aside0.mk Q_HR
          have hl178_0 : w'.cell? ⟨g9, 2, none⟩ = some (.int .i64 ci) := (blk_cell (blk_below BK9.out HR.out) 2).trans rfl
          refine value_ (w1 := w') (v := .int .i64 ci) (wanted_on rfl rfl rfl (e176.trans (by first | rfl | (simp [*]; done)))) rfl ?_ ?_
          · go_simp
            (try simp only [i64_w])
            try rfl
          refine hK.out _ _ ⟨(by rw [ha.out]; exact putSel_upk 5 hb_ rfl rfl rfl), Q_HR⟩
        refine steps_cons ?_ ?_
        · rintro b a w' ⟨ha, Q_HR⟩ hb_ hon hoff
          refine ⟨_, rfl, fun K hK => ?_⟩
          have e13 : a.tmps[13]? = some (.pointer (some ⟨g13, 0, none⟩)) := by rw [ha]; exact (putSel_off rfl).trans rfl
          have e176 : a.tmps[176]? = some (.bool false) := by rw [ha]; exact putSel_on (e := (3, 176, .bool false)) 3 rfl rfl (hon 3 (by kernel_rfl)) rfl
          replace ha := Aside0.mk ha
          have HR := Aside0.mk Q_HR
          refine value_ (w1 := w') (v := .pointer (some ⟨g13, 4, none⟩)) (wanted_on rfl rfl rfl (e176.trans (by first | rfl | (simp [*]; done)))) rfl ?_ ?_
          · go_simp
            (try simp only [i64_w])
            try rfl
          refine hK.out _ _ ⟨(by rw [ha.out]; exact putSel_upk 6 hb_ rfl rfl rfl), Q_HR⟩
        refine steps_cons ?_ ?_
        · rintro b a w' ⟨ha, Q_HR⟩ hb_ hon hoff
          refine ⟨_, rfl, fun K hK => ?_⟩
          have e179 : a.tmps[179]? = some (.pointer (some ⟨g13, 4, none⟩)) := by rw [ha]; exact putSel_on (e := (6, 179, .pointer (some ⟨g13, 4, none⟩))) 6 rfl rfl (hon 6 (by kernel_rfl)) rfl
          have e176 : a.tmps[176]? = some (.bool false) := by rw [ha]; exact putSel_on (e := (3, 176, .bool false)) 3 rfl rfl (hon 3 (by kernel_rfl)) rfl
          replace ha := Aside0.mk ha
          have HR := Aside0.mk Q_HR
          have hl180_0 : w'.cell? ⟨g13, 4, none⟩ = some (.slice A5 m5 c5) := (blk_cell (blk_below BK13.out HR.out) 4).trans rfl
          refine value_ (w1 := w') (v := .slice A5 m5 c5) (wanted_on rfl rfl rfl (e176.trans (by first | rfl | (simp [*]; done)))) rfl ?_ ?_
          · go_simp
            (try simp only [i64_w])
            try rfl
          refine hK.out _ _ ⟨(by rw [ha.out]; exact putSel_upk 7 hb_ rfl rfl rfl), Q_HR⟩
        refine steps_cons ?_ ?_
        · rintro b a w' ⟨ha, Q_HR⟩ hb_ hon hoff
          refine ⟨_, rfl, fun K hK => ?_⟩
          have e180 : a.tmps[180]? = some (.slice A5 m5 c5) := by rw [ha]; exact putSel_on (e := (7, 180, .slice A5 m5 c5)) 7 rfl rfl (hon 7 (by kernel_rfl)) rfl
          have e176 : a.tmps[176]? = some (.bool false) := by rw [ha]; exact putSel_on (e := (3, 176, .bool false)) 3 rfl rfl (hon 3 (by kernel_rfl)) rfl
          replace ha := Aside0.mk ha
          have HR := Aside0.mk Q_HR
          refine value_ (w1 := w') (v := .int .i64 (m5 : Int)) (wanted_on rfl rfl rfl (e176.trans (by first | rfl | (simp [*]; done)))) rfl ?_ ?_
          · go_simp
            (try simp only [i64_w])
            try rfl
          refine hK.out _ _ ⟨(by rw [ha.out]; exact putSel_upk 8 hb_ rfl rfl rfl), Q_HR⟩
        refine steps_cons ?_ ?_
        · rintro b a w' ⟨ha, Q_HR⟩ hb_ hon hoff
          refine ⟨_, rfl, fun K hK => ?_⟩
          have e178 : a.tmps[178]? = some (.int .i64 ci) := by rw [ha]; exact putSel_on (e := (5, 178, .int .i64 ci)) 5 rfl rfl (hon 5 (by kernel_rfl)) rfl
          have e181 : a.tmps[181]? = some (.int .i64 (m5 : Int)) := by rw [ha]; exact putSel_on (e := (8, 181, .int .i64 (m5 : Int))) 8 rfl rfl (hon 8 (by kernel_rfl)) rfl
          have e176 : a.tmps[176]? = some (.bool false) := by rw [ha]; exact putSel_on (e := (3, 176, .bool false)) 3 rfl rfl (hon 3 (by kernel_rfl)) rfl
          replace ha := Aside0.mk ha
          have HR := Aside0.mk Q_HR
          refine value_ (w1 := w') (v := .bool true) (wanted_on rfl rfl rfl (e176.trans (by first | rfl | (simp [*]; done)))) rfl ?_ ?_
          · go_simp
            (try simp only [i64_w])
            try rfl
          refine hK.out _ _ ⟨(by rw [ha.out]; exact putSel_upk 9 hb_ rfl rfl rfl), Q_HR⟩
        refine steps_cons ?_ ?_
        · rintro b a w' ⟨ha, Q_HR⟩ hb_ hon hoff
          refine ⟨_, rfl, fun K hK => ?_⟩
          have e176 : a.tmps[176]? = some (.bool false) := by rw [ha]; exact putSel_on (e := (3, 176, .bool false)) 3 rfl rfl (hon 3 (by kernel_rfl)) rfl
          have e182 : a.tmps[182]? = some (.bool true) := by rw [ha]; exact putSel_on (e := (9, 182, .bool true)) 9 rfl rfl (hon 9 (by kernel_rfl)) rfl
          replace ha := Aside0.mk ha
          have HR := Aside0.mk Q_HR
          refine value_ (w1 := w') (v := .bool true) (by rfl) rfl ?_ ?_
          · go_simp
            (try simp only [i64_w])
            try rfl
          refine hK.out _ _ ⟨(by rw [ha.out]; exact putSel_upk 10 hb_ rfl rfl rfl), Q_HR⟩
        refine steps_cons ?_ ?_
        · rintro b a w' ⟨ha, Q_HR⟩ hb_ hon hoff
          refine ⟨_, rfl, fun K hK => ?_⟩
          have e183 : a.tmps[183]? = some (.bool true) := by rw [ha]; exact putSel_on (e := (10, 183, .bool true)) 10 rfl rfl (hon 10 (by kernel_rfl)) rfl
          replace ha := Aside0.mk ha
          have HR := Aside0.mk Q_HR
          refine value_ (w1 := w') (v := .bool true) (by rfl) rfl ?_ ?_
          · go_simp
            (try simp only [i64_w])
            try rfl
          refine hK.out _ _ ⟨(by rw [ha.out]; exact putSel_upk 11 hb_ rfl rfl rfl), Q_HR⟩
        refine steps_cons ?_ ?_
        · rintro b a w' ⟨ha, Q_HR⟩ hb_ hon hoff
          refine ⟨_, rfl, fun K hK => ?_⟩
          have e184 : a.tmps[184]? = some (.bool true) := by rw [ha]; exact putSel_on (e := (11, 184, .bool true)) 11 rfl rfl (hon 11 (by kernel_rfl)) rfl
          replace ha := Aside0.mk ha
          have HR := Aside0.mk Q_HR
          refine off_ (wanted_off rfl rfl rfl (e184.trans (by first | rfl | (simp [*]; done)))) ?_
          refine hK.out _ _ ⟨(by rw [ha.out]; exact putSel_upk 12 hb_ rfl rfl rfl), Q_HR⟩
        refine steps_cons ?_ ?_
        · rintro b a w' ⟨ha, Q_HR⟩ hb_ hon hoff
          refine ⟨_, rfl, fun K hK => ?_⟩
          have e184 : a.tmps[184]? = some (.bool true) := by rw [ha]; exact putSel_on (e := (11, 184, .bool true)) 11 rfl rfl (hon 11 (by kernel_rfl)) rfl
          replace ha := Aside0.mk ha
          have HR := Aside0.mk Q_HR
          refine off_ (wanted_off rfl rfl rfl (e184.trans (by first | rfl | (simp [*]; done)))) ?_
          refine hK.out _ _ ⟨(by rw [ha.out]; exact putSel_upk 13 hb_ rfl rfl rfl), Q_HR⟩
        refine steps_cons ?_ ?_
        · rintro b a w' ⟨ha, Q_HR⟩ hb_ hon hoff
          refine ⟨_, rfl, fun K hK => ?_⟩
          have e184 : a.tmps[184]? = some (.bool true) := by rw [ha]; exact putSel_on (e := (11, 184, .bool true)) 11 rfl rfl (hon 11 (by kernel_rfl)) rfl
          replace ha := Aside0.mk ha
          have HR := Aside0.mk Q_HR
          refine off_ (wanted_off rfl rfl rfl (e184.trans (by first | rfl | (simp [*]; done)))) ?_
          refine hK.out _ _ ⟨(by rw [ha.out]; exact putSel_upk 14 hb_ rfl rfl rfl), Q_HR⟩
        refine steps_cons ?_ ?_
        · rintro b a w' ⟨ha, Q_HR⟩ hb_ hon hoff
          refine ⟨_, rfl, fun K hK => ?_⟩
          have e184 : a.tmps[184]? = some (.bool true) := by rw [ha]; exact putSel_on (e := (11, 184, .bool true)) 11 rfl rfl (hon 11 (by kernel_rfl)) rfl
          replace ha := Aside0.mk ha
          have HR := Aside0.mk Q_HR
          refine off_ (wanted_off rfl rfl rfl (e184.trans (by first | rfl | (simp [*]; done)))) ?_
          refine hK.out _ _ ⟨(by rw [ha.out]; exact putSel_upk 15 hb_ rfl rfl rfl), Q_HR⟩
        refine steps_cons ?_ ?_
        · rintro b a w' ⟨ha, Q_HR⟩ hb_ hon hoff
          refine ⟨_, rfl, fun K hK => ?_⟩
          have e184 : a.tmps[184]? = some (.bool true) := by rw [ha]; exact putSel_on (e := (11, 184, .bool true)) 11 rfl rfl (hon 11 (by kernel_rfl)) rfl
          replace ha := Aside0.mk ha
          have HR := Aside0.mk Q_HR
          refine off_ (wanted_off rfl rfl rfl (e184.trans (by first | rfl | (simp [*]; done)))) ?_
          refine hK.out _ _ ⟨(by rw [ha.out]; exact putSel_upk 16 hb_ rfl rfl rfl), Q_HR⟩
        refine steps_cons ?_ ?_
        · rintro b a w' ⟨ha, Q_HR⟩ hb_ hon hoff
          refine ⟨_, rfl, fun K hK => ?_⟩
          have e184 : a.tmps[184]? = some (.bool true) := by rw [ha]; exact putSel_on (e := (11, 184, .bool true)) 11 rfl rfl (hon 11 (by kernel_rfl)) rfl
          replace ha := Aside0.mk ha
          have HR := Aside0.mk Q_HR
          refine off_ (wanted_off rfl rfl rfl (e184.trans (by first | rfl | (simp [*]; done)))) ?_
          refine hK.out _ _ ⟨(by rw [ha.out]; exact putSel_upk 17 hb_ rfl rfl rfl), Q_HR⟩
        refine steps_cons ?_ ?_
        · rintro b a w' ⟨ha, Q_HR⟩ hb_ hon hoff
          refine ⟨_, rfl, fun K hK => ?_⟩
          have e184 : a.tmps[184]? = some (.bool true) := by rw [ha]; exact putSel_on (e := (11, 184, .bool true)) 11 rfl rfl (hon 11 (by kernel_rfl)) rfl
          replace ha := Aside0.mk ha
          have HR := Aside0.mk Q_HR
          refine off_ (wanted_off rfl rfl rfl (e184.trans (by first | rfl | (simp [*]; done)))) ?_
          refine hK.out _ _ ⟨(by rw [ha.out]; exact putSel_upk 18 hb_ rfl rfl rfl), Q_HR⟩
        refine steps_cons ?_ ?_
        · rintro b a w' ⟨ha, Q_HR⟩ hb_ hon hoff
          refine ⟨_, rfl, fun K hK => ?_⟩
          have e184 : a.tmps[184]? = some (.bool true) := by rw [ha]; exact putSel_on (e := (11, 184, .bool true)) 11 rfl rfl (hon 11 (by kernel_rfl)) rfl
          replace ha := Aside0.mk ha
          have HR := Aside0.mk Q_HR
          refine off_ (wanted_off rfl rfl rfl (e184.trans (by first | rfl | (simp [*]; done)))) ?_
          refine hK.out _ _ ⟨(by rw [ha.out]; exact putSel_upk 19 hb_ rfl rfl rfl), Q_HR⟩
        refine steps_cons ?_ ?_
        · rintro b a w' ⟨ha, Q_HR⟩ hb_ hon hoff
          refine ⟨_, rfl, fun K hK => ?_⟩
          have e184 : a.tmps[184]? = some (.bool true) := by rw [ha]; exact putSel_on (e := (11, 184, .bool true)) 11 rfl rfl (hon 11 (by kernel_rfl)) rfl
          replace ha := Aside0.mk ha
          have HR := Aside0.mk Q_HR
          refine off_ (wanted_off rfl rfl rfl (e184.trans (by first | rfl | (simp [*]; done)))) ?_
          refine hK.out _ _ ⟨(by rw [ha.out]; exact putSel_upk 20 hb_ rfl rfl rfl), Q_HR⟩
        refine steps_cons ?_ ?_
        · rintro b a w' ⟨ha, Q_HR⟩ hb_ hon hoff
          refine ⟨_, rfl, fun K hK => ?_⟩
          have e184 : a.tmps[184]? = some (.bool true) := by rw [ha]; exact putSel_on (e := (11, 184, .bool true)) 11 rfl rfl (hon 11 (by kernel_rfl)) rfl
          replace ha := Aside0.mk ha
          have HR := Aside0.mk Q_HR
          refine off_ (wanted_off rfl rfl rfl (e184.trans (by first | rfl | (simp [*]; done)))) ?_
          refine hK.out _ _ ⟨(by rw [ha.out]; exact putSel_upk 21 hb_ rfl rfl rfl), Q_HR⟩
        refine steps_cons ?_ ?_
        · rintro b a w' ⟨ha, Q_HR⟩ hb_ hon hoff
          refine ⟨_, rfl, fun K hK => ?_⟩
          have e184 : a.tmps[184]? = some (.bool true) := by rw [ha]; exact putSel_on (e := (11, 184, .bool true)) 11 rfl rfl (hon 11 (by kernel_rfl)) rfl
          have e194 : a.tmps[194]? = some (undef) := by rw [ha]; exact putSel_on (e := (21, 194, undef)) 21 rfl rfl (hon 21 (by kernel_rfl)) rfl
          replace ha := Aside0.mk ha
          have HR := Aside0.mk Q_HR
          refine value_ (w1 := w') (v := .bool true) (by rfl) rfl ?_ ?_
          · go_simp
            (try simp only [i64_w])
            try rfl
          refine hK.out _ _ ⟨(by rw [ha.out]; exact putSel_upk 22 hb_ rfl rfl rfl), Q_HR⟩
        exact steps_nil
      rintro b a wq hall ⟨ha, Q_HR⟩
      clear HR
      have hb0_ := hall 0 (by kernel_rfl)
      have hb1_ := hall 1 (by kernel_rfl)
      have hb2_ := hall 2 (by kernel_rfl)
      have hb3_ := hall 3 (by kernel_rfl)
      have hb4_ := hall 4 (by kernel_rfl)
      have hb5_ := hall 5 (by kernel_rfl)
      have hb6_ := hall 6 (by kernel_rfl)
      have hb7_ := hall 7 (by kernel_rfl)
      have hb8_ := hall 8 (by kernel_rfl)
      have hb9_ := hall 9 (by kernel_rfl)
      have hb10_ := hall 10 (by kernel_rfl)
      have hb11_ := hall 11 (by kernel_rfl)
      have hb12_ := hall 12 (by kernel_rfl)
      have hb13_ := hall 13 (by kernel_rfl)
      have hb14_ := hall 14 (by kernel_rfl)
      have hb15_ := hall 15 (by kernel_rfl)
      have hb16_ := hall 16 (by kernel_rfl)
      have hb17_ := hall 17 (by kernel_rfl)
      have hb18_ := hall 18 (by kernel_rfl)
      have hb19_ := hall 19 (by kernel_rfl)
      have hb20_ := hall 20 (by kernel_rfl)
      have hb21_ := hall 21 (by kernel_rfl)
      have hb22_ := hall 22 (by kernel_rfl)
      subst ha
      simp only [putSel, hb0_, hb1_, hb2_, hb3_, hb4_, hb5_, hb6_, hb7_, hb8_, hb9_, hb10_, hb11_, hb12_, hb13_, hb14_, hb15_, hb16_, hb17_, hb18_, hb19_, hb20_, hb21_, hb22_, if_true, Act.put, List.setIfInBounds_toArray, List.set_cons_zero, List.set_cons_succ]
      have HR := Aside0.mk Q_HR
      clear Q_HR
      clear hall hb0_ hb1_ hb2_ hb3_ hb4_ hb5_ hb6_ hb7_ hb8_ hb9_ hb10_ hb11_ hb12_ hb13_ hb14_ hb15_ hb16_ hb17_ hb18_ hb19_ hb20_ hb21_ hb22_
      have HS2 := Aside0.mk (HS0.out.to (below_step HBW.out HR.out))
      have HRES := Aside0.mk HS2.out.res
      have HRES4 := Aside0.mk HS2.out.res4
      have HRB := Aside0.mk HS2.out.hb
      have hx4_0 : wq.cell? ⟨g4, 0, none⟩ = some (.slice none 0 0) := (blk_cell HRES.out 0).trans rfl
      have hx4_1 : wq.cell? ⟨g4, 1, none⟩ = some (.slice none 0 0) := (blk_cell HRES.out 1).trans rfl
      have hy4_0 := blk_frozen HRES.out 0
      have hy4_1 := blk_frozen HRES.out 1
      go_wp2
      exact .inl ⟨rfl, HNO.out, ⟨rfl, rfl, rfl, rfl⟩, blk_put (blk_put HRES.out 0 _ rfl) 1 _ rfl, below_set (below_set HRB.out HRES4.out) HRES4.out⟩
set_option maxHeartbeats 16000000 in
set_option maxRecDepth 100000 in
theorem p7_5 (wb W0 W : World) (g4 g9 g13 i : Nat) (y vt vn : Value) (R : List Int) (M : List Nd) (ix bh : Nat) (q : Nd) (ca ci cw cs : Int) (hnr : ¬ ((5 : Int) = 4 ∧ ca = 0)) (hidx : idx (adrs M) ca = some ix) (hq : M[ix]? = some q) (HS0 : Aside0 (RS wb W0 g4 vt vn R M)) (HBW : Aside0 (Below W0.heap.size W0 W)) (h13 : W0.heap.size ≤ g13) (BK9 : Aside0 (W.heap[g9]? = some (.cells #[.int .i64 5, .int .i64 ca, .int .i64 ci, .int .u64 cw, .int .u64 cs] 44 (0, 0)))) (BK13 : Aside0 (W.heap[g13]? = some (.cells #[.int .i64 q.adr, .int .i64 q.refs, .int .i64 q.sl, .int .i64 q.words, .slice q.A q.m q.c, .slice q.B q.n q.d] 40 (0, 0)))) (a : Act) (hf : Fr a [(1, y), (4, .pointer (some ⟨g4, 0, none⟩)), (5, .bool false), (6, vt), (7, vn), (8, .int .i64 (i : Int)), (9, .pointer (some ⟨g9, 0, none⟩)), (10, .int .i64 (ix : Int)), (11, .int .i64 (bh : Int)), (13, .pointer (some ⟨g13, 0, none⟩))]) : Code.wp Try.prog (rgt cT5) (BodyOut wb g4 i y R M ⟨5, ca, ci, cw, cs⟩) a W := by
  obtain ⟨i0, hi, hz0, hz1, hz2⟩ := info_parts info42
  have HNR := Aside0.mk hnr
  have H13 := Aside0.mk h13
  have hix : ix < M.length := (List.getElem?_eq_some_iff.1 hq).1
  have hqM : q ∈ M := List.mem_of_getElem? hq
  have hst := step_some (M := M) (c := (⟨5, ca, ci, cw, cs⟩ : Ch)) (show (5 : Int) ≠ 2 by decide) hidx hq
  rw [if_neg (show ¬ ((5 : Int) = 1) by decide), if_neg (show ¬ ((5 : Int) = 3) by decide), if_neg (show ¬ ((5 : Int) = 4) by decide), if_pos rfl] at hst
  have hap := (applyP_node (R := R) (M := M.map Nd.pn) (c := (⟨5, ca, ci, cw, cs⟩ : Ch)) hnr).trans (congrArg _ hst)
  have HAP := Aside0.mk hap
  have HQ := Aside0.mk hq
  have HQM := Aside0.mk hqM
  have hadr : q.adr = ca := by
    obtain ⟨nn, h1, _, h3⟩ := find_some_of hidx
    rw [hq] at h1
    cases h1
    exact h3
  have HAD := Aside0.mk hadr
  have hsz := HS0.out.sz q hqM
  have HSZ := Aside0.mk hsz
  have HIL := Aside0.mk ((HS0.out.to HBW.out).lists q hqM).2.il
  have hnl := HIL.out.1
  have HIX := Aside0.mk hix
  clear hst hap hqM hadr hnr hidx hq h13 hix
  obtain ⟨hf1, hf4, hf5, hf6, hf7, hf8, hf9, hf10, hf11, hf13, hd_, hs_⟩ := hf
  obtain ⟨u, hu, ha_⟩ := frame_open a hd_ hs_
  have hv1 := (hu 1).symm.trans hf1
  have hv4 := (hu 4).symm.trans hf4
  have hv5 := (hu 5).symm.trans hf5
  have hv6 := (hu 6).symm.trans hf6
  have hv7 := (hu 7).symm.trans hf7
  have hv8 := (hu 8).symm.trans hf8
  have hv9 := (hu 9).symm.trans hf9
  have hv10 := (hu 10).symm.trans hf10
  have hv11 := (hu 11).symm.trans hf11
  have hv13 := (hu 13).symm.trans hf13
  clear hd_ hs_ hu hf1 hf4 hf5 hf6 hf7 hf8 hf9 hf10 hf11 hf13
  subst ha_
  simp only [hv1, hv4, hv5, hv6, hv7, hv8, hv9, hv10, hv11, hv13]
  clear hv1 hv4 hv5 hv6 hv7 hv8 hv9 hv10 hv11 hv13
  have hx9_0 : W.cell? ⟨g9, 0, none⟩ = some (.int .i64 5) := (blk_cell BK9.out 0).trans rfl
  have hx9_1 : W.cell? ⟨g9, 1, none⟩ = some (.int .i64 ca) := (blk_cell BK9.out 1).trans rfl
  have hx9_2 : W.cell? ⟨g9, 2, none⟩ = some (.int .i64 ci) := (blk_cell BK9.out 2).trans rfl
  have hx9_3 : W.cell? ⟨g9, 3, none⟩ = some (.int .u64 cw) := (blk_cell BK9.out 3).trans rfl
  have hx9_4 : W.cell? ⟨g9, 4, none⟩ = some (.int .u64 cs) := (blk_cell BK9.out 4).trans rfl
  have hx13 : W.cell? ⟨g13, 5, none⟩ = some (.slice q.B q.n q.d) := (blk_cell BK13.out 5).trans rfl
  by_cases h1 : ci < 0
  · have hd1 : decide (ci < 0) = true := decide_eq_true h1
    have HNO := Aside0.mk (show applyP (R, M.map Nd.pn) (⟨5, ca, ci, cw, cs⟩ : Ch) = none by rw [HAP.out, show chgT q.T ⟨5, ca, ci, cw, cs⟩ = none from if_neg (fun h => by have := h.1; simp only at this; omega)]; rfl)
    obtain ⟨A5, hA5⟩ : ∃ x, x = q.B := ⟨_, rfl⟩
    obtain ⟨m5, hm5⟩ : ∃ x, x = q.n := ⟨_, rfl⟩
    obtain ⟨c5, hc5⟩ : ∃ x, x = q.d := ⟨_, rfl⟩
    rw [← hA5, ← hm5, ← hc5] at hx13 BK13
    clear hA5 hm5 hc5 hsz hnl
    conv => arg 2; whnf
    go_upto_region 39 with fail
    have HR := Aside0.mk (Below.refl W.heap.size W)
    refine start_ (n := 22) (S := fun w' => True) (ds := []) #[false, false, false, false, false, false, false, false, false, false, false, false, false, false, false, false, false, false, false, false, false, false] (by kernel_rfl) rfl rfl trivial (fun hHeld => ?_)
    refine with_tabW r39.tab39 r39.bits39 (fun HT_ HW_ => ?_)
    refine inv_at [0, 1, 2, 3, 4, 5, 6, 7, 8, 9, 10, 11, 12, 13, 14, 15, 16, 17, 18, 19, 20, 21] (fun a0_ b a w' => a = putSel a0_ b [(0, 210, .pointer (some ⟨g9, 2, none⟩)), (1, 211, .int .i64 ci), (2, 212, .bool true), (3, 213, .bool true), (4, 214, undef), (5, 215, undef), (6, 216, undef), (7, 217, undef), (8, 218, undef), (9, 219, undef), (10, 220, .bool true), (11, 221, .bool true), (12, 222, undef), (13, 223, undef), (14, 224, undef), (15, 225, undef), (16, 226, undef), (17, 227, undef), (18, 228, undef), (19, 229, undef), (20, 230, undef), (21, 231, .bool true)] ∧ (Below W.heap.size W w')) HT_.out HW_.out (by kernel_rfl) (by kernel_rfl) ?_ ?_ ?_
    · exact ⟨by simp only [putSel, Bool.false_eq_true, if_false], below_drew1 HR.out⟩
    · skip
      clear HR
      refine steps_cons ?_ ?_
      · rintro b a w' ⟨ha, Q_HR⟩ hb_ hon hoff
        refine ⟨_, rfl, fun K hK => ?_⟩
        have e9 : a.tmps[9]? = some (.pointer (some ⟨g9, 0, none⟩)) := by rw [ha]; exact (putSel_off rfl).trans rfl
        replace ha := Aside0.mk ha
        have HR := Aside0.mk Q_HR
        refine value_ (w1 := w') (v := .pointer (some ⟨g9, 2, none⟩)) (by rfl) rfl ?_ ?_
        · go_simp
          (try simp only [i64_w])
          try rfl
        refine hK.out _ _ ⟨(by rw [ha.out]; exact putSel_upk 0 hb_ rfl rfl rfl), Q_HR⟩
      refine steps_cons ?_ ?_
      · rintro b a w' ⟨ha, Q_HR⟩ hb_ hon hoff
        refine ⟨_, rfl, fun K hK => ?_⟩
        have e210 : a.tmps[210]? = some (.pointer (some ⟨g9, 2, none⟩)) := by rw [ha]; exact putSel_on (e := (0, 210, .pointer (some ⟨g9, 2, none⟩))) 0 rfl rfl (hon 0 (by kernel_rfl)) rfl
        replace ha := Aside0.mk ha
        have HR := Aside0.mk Q_HR
        have hl211_0 : w'.cell? ⟨g9, 2, none⟩ = some (.int .i64 ci) := (blk_cell (blk_below BK9.out HR.out) 2).trans rfl
        refine value_ (w1 := w') (v := .int .i64 ci) (by rfl) rfl ?_ ?_
        · go_simp
          (try simp only [i64_w])
          try rfl
        refine hK.out _ _ ⟨(by rw [ha.out]; exact putSel_upk 1 hb_ rfl rfl rfl), Q_HR⟩
      refine steps_cons ?_ ?_
      · rintro b a w' ⟨ha, Q_HR⟩ hb_ hon hoff
        refine ⟨_, rfl, fun K hK => ?_⟩
        have e211 : a.tmps[211]? = some (.int .i64 ci) := by rw [ha]; exact putSel_on (e := (1, 211, .int .i64 ci)) 1 rfl rfl (hon 1 (by kernel_rfl)) rfl
        replace ha := Aside0.mk ha
        have HR := Aside0.mk Q_HR
        refine value_ (w1 := w') (v := .bool true) (by rfl) rfl ?_ ?_
        · go_simp
          (try simp only [i64_w])
          try rfl
        refine hK.out _ _ ⟨(by rw [ha.out]; exact putSel_upk 2 hb_ rfl rfl rfl), Q_HR⟩
      refine steps_cons ?_ ?_
      · rintro b a w' ⟨ha, Q_HR⟩ hb_ hon hoff
        refine ⟨_, rfl, fun K hK => ?_⟩
        have e212 : a.tmps[212]? = some (.bool true) := by rw [ha]; exact putSel_on (e := (2, 212, .bool true)) 2 rfl rfl (hon 2 (by kernel_rfl)) rfl
        replace ha := Aside0.mk ha
        have HR := Aside0.mk Q_HR
        refine value_ (w1 := w') (v := .bool true) (by rfl) rfl ?_ ?_
        · go_simp
          (try simp only [i64_w])
          try rfl
        refine hK.out _ _ ⟨(by rw [ha.out]; exact putSel_upk 3 hb_ rfl rfl rfl), Q_HR⟩
      refine steps_cons ?_ ?_
      · rintro b a w' ⟨ha, Q_HR⟩ hb_ hon hoff
        refine ⟨_, rfl, fun K hK => ?_⟩
        have e213 : a.tmps[213]? = some (.bool true) := by rw [ha]; exact putSel_on (e := (3, 213, .bool true)) 3 rfl rfl (hon 3 (by kernel_rfl)) rfl
        replace ha := Aside0.mk ha
        have HR := Aside0.mk Q_HR
        refine off_ (wanted_off rfl rfl rfl (e213.trans (by first | rfl | (simp [*]; done)))) ?_
        refine hK.out _ _ ⟨(by rw [ha.out]; exact putSel_upk 4 hb_ rfl rfl rfl), Q_HR⟩
      refine steps_cons ?_ ?_
      · rintro b a w' ⟨ha, Q_HR⟩ hb_ hon hoff
        refine ⟨_, rfl, fun K hK => ?_⟩
        have e213 : a.tmps[213]? = some (.bool true) := by rw [ha]; exact putSel_on (e := (3, 213, .bool true)) 3 rfl rfl (hon 3 (by kernel_rfl)) rfl
        replace ha := Aside0.mk ha
        have HR := Aside0.mk Q_HR
        refine off_ (wanted_off rfl rfl rfl (e213.trans (by first | rfl | (simp [*]; done)))) ?_
        refine hK.out _ _ ⟨(by rw [ha.out]; exact putSel_upk 5 hb_ rfl rfl rfl), Q_HR⟩
      refine steps_cons ?_ ?_
      · rintro b a w' ⟨ha, Q_HR⟩ hb_ hon hoff
        refine ⟨_, rfl, fun K hK => ?_⟩
        have e213 : a.tmps[213]? = some (.bool true) := by rw [ha]; exact putSel_on (e := (3, 213, .bool true)) 3 rfl rfl (hon 3 (by kernel_rfl)) rfl
        replace ha := Aside0.mk ha
        have HR := Aside0.mk Q_HR
        refine off_ (wanted_off rfl rfl rfl (e213.trans (by first | rfl | (simp [*]; done)))) ?_
        refine hK.out _ _ ⟨(by rw [ha.out]; exact putSel_upk 6 hb_ rfl rfl rfl), Q_HR⟩
      refine steps_cons ?_ ?_
      · rintro b a w' ⟨ha, Q_HR⟩ hb_ hon hoff
        refine ⟨_, rfl, fun K hK => ?_⟩
        have e213 : a.tmps[213]? = some (.bool true) := by rw [ha]; exact putSel_on (e := (3, 213, .bool true)) 3 rfl rfl (hon 3 (by kernel_rfl)) rfl
        replace ha := Aside0.mk ha
        have HR := Aside0.mk Q_HR
        refine off_ (wanted_off rfl rfl rfl (e213.trans (by first | rfl | (simp [*]; done)))) ?_
        refine hK.out _ _ ⟨(by rw [ha.out]; exact putSel_upk 7 hb_ rfl rfl rfl), Q_HR⟩
      refine steps_cons ?_ ?_
      · rintro b a w' ⟨ha, Q_HR⟩ hb_ hon hoff
        refine ⟨_, rfl, fun K hK => ?_⟩
        have e213 : a.tmps[213]? = some (.bool true) := by rw [ha]; exact putSel_on (e := (3, 213, .bool true)) 3 rfl rfl (hon 3 (by kernel_rfl)) rfl
        replace ha := Aside0.mk ha
        have HR := Aside0.mk Q_HR
        refine off_ (wanted_off rfl rfl rfl (e213.trans (by first | rfl | (simp [*]; done)))) ?_
        refine hK.out _ _ ⟨(by rw [ha.out]; exact putSel_upk 8 hb_ rfl rfl rfl), Q_HR⟩
      refine steps_cons ?_ ?_
      · rintro b a w' ⟨ha, Q_HR⟩ hb_ hon hoff
        refine ⟨_, rfl, fun K hK => ?_⟩
        have e213 : a.tmps[213]? = some (.bool true) := by rw [ha]; exact putSel_on (e := (3, 213, .bool true)) 3 rfl rfl (hon 3 (by kernel_rfl)) rfl
        replace ha := Aside0.mk ha
        have HR := Aside0.mk Q_HR
        refine off_ (wanted_off rfl rfl rfl (e213.trans (by first | rfl | (simp [*]; done)))) ?_
        refine hK.out _ _ ⟨(by rw [ha.out]; exact putSel_upk 9 hb_ rfl rfl rfl), Q_HR⟩
      refine steps_cons ?_ ?_
      · rintro b a w' ⟨ha, Q_HR⟩ hb_ hon hoff
        refine ⟨_, rfl, fun K hK => ?_⟩
        have e213 : a.tmps[213]? = some (.bool true) := by rw [ha]; exact putSel_on (e := (3, 213, .bool true)) 3 rfl rfl (hon 3 (by kernel_rfl)) rfl
        have e219 : a.tmps[219]? = some (undef) := by rw [ha]; exact putSel_on (e := (9, 219, undef)) 9 rfl rfl (hon 9 (by kernel_rfl)) rfl
        replace ha := Aside0.mk ha
        have HR := Aside0.mk Q_HR
        refine value_ (w1 := w') (v := .bool true) (by rfl) rfl ?_ ?_
        · go_simp
          (try simp only [i64_w])
          try rfl
        refine hK.out _ _ ⟨(by rw [ha.out]; exact putSel_upk 10 hb_ rfl rfl rfl), Q_HR⟩
      refine steps_cons ?_ ?_
      · rintro b a w' ⟨ha, Q_HR⟩ hb_ hon hoff
        refine ⟨_, rfl, fun K hK => ?_⟩
        have e220 : a.tmps[220]? = some (.bool true) := by rw [ha]; exact putSel_on (e := (10, 220, .bool true)) 10 rfl rfl (hon 10 (by kernel_rfl)) rfl
        replace ha := Aside0.mk ha
        have HR := Aside0.mk Q_HR
        refine value_ (w1 := w') (v := .bool true) (by rfl) rfl ?_ ?_
        · go_simp
          (try simp only [i64_w])
          try rfl
        refine hK.out _ _ ⟨(by rw [ha.out]; exact putSel_upk 11 hb_ rfl rfl rfl), Q_HR⟩
      refine steps_cons ?_ ?_
      · rintro b a w' ⟨ha, Q_HR⟩ hb_ hon hoff
        refine ⟨_, rfl, fun K hK => ?_⟩
        have e221 : a.tmps[221]? = some (.bool true) := by rw [ha]; exact putSel_on (e := (11, 221, .bool true)) 11 rfl rfl (hon 11 (by kernel_rfl)) rfl
        replace ha := Aside0.mk ha
        have HR := Aside0.mk Q_HR
        refine off_ (wanted_off rfl rfl rfl (e221.trans (by first | rfl | (simp [*]; done)))) ?_
        refine hK.out _ _ ⟨(by rw [ha.out]; exact putSel_upk 12 hb_ rfl rfl rfl), Q_HR⟩
      refine steps_cons ?_ ?_
      · rintro b a w' ⟨ha, Q_HR⟩ hb_ hon hoff
        refine ⟨_, rfl, fun K hK => ?_⟩
        have e221 : a.tmps[221]? = some (.bool true) := by rw [ha]; exact putSel_on (e := (11, 221, .bool true)) 11 rfl rfl (hon 11 (by kernel_rfl)) rfl
        replace ha := Aside0.mk ha
        have HR := Aside0.mk Q_HR
        refine off_ (wanted_off rfl rfl rfl (e221.trans (by first | rfl | (simp [*]; done)))) ?_
        refine hK.out _ _ ⟨(by rw [ha.out]; exact putSel_upk 13 hb_ rfl rfl rfl), Q_HR⟩
      refine steps_cons ?_ ?_
      · rintro b a w' ⟨ha, Q_HR⟩ hb_ hon hoff
        refine ⟨_, rfl, fun K hK => ?_⟩
        have e221 : a.tmps[221]? = some (.bool true) := by rw [ha]; exact putSel_on (e := (11, 221, .bool true)) 11 rfl rfl (hon 11 (by kernel_rfl)) rfl
        replace ha := Aside0.mk ha
        have HR := Aside0.mk Q_HR
        refine off_ (wanted_off rfl rfl rfl (e221.trans (by first | rfl | (simp [*]; done)))) ?_
        refine hK.out _ _ ⟨(by rw [ha.out]; exact putSel_upk 14 hb_ rfl rfl rfl), Q_HR⟩
      refine steps_cons ?_ ?_
      · rintro b a w' ⟨ha, Q_HR⟩ hb_ hon hoff
        refine ⟨_, rfl, fun K hK => ?_⟩
        have e221 : a.tmps[221]? = some (.bool true) := by rw [ha]; exact putSel_on (e := (11, 221, .bool true)) 11 rfl rfl (hon 11 (by kernel_rfl)) rfl
        replace ha := Aside0.mk ha
        have HR := Aside0.mk Q_HR
        refine off_ (wanted_off rfl rfl rfl (e221.trans (by first | rfl | (simp [*]; done)))) ?_
        refine hK.out _ _ ⟨(by rw [ha.out]; exact putSel_upk 15 hb_ rfl rfl rfl), Q_HR⟩
      refine steps_cons ?_ ?_
      · rintro b a w' ⟨ha, Q_HR⟩ hb_ hon hoff
        refine ⟨_, rfl, fun K hK => ?_⟩
        have e221 : a.tmps[221]? = some (.bool true) := by rw [ha]; exact putSel_on (e := (11, 221, .bool true)) 11 rfl rfl (hon 11 (by kernel_rfl)) rfl
        replace ha := Aside0.mk ha
        have HR := Aside0.mk Q_HR
        refine off_ (wanted_off rfl rfl rfl (e221.trans (by first | rfl | (simp [*]; done)))) ?_
        refine hK.out _ _ ⟨(by rw [ha.out]; exact putSel_upk 16 hb_ rfl rfl rfl), Q_HR⟩
      refine steps_cons ?_ ?_
      · rintro b a w' ⟨ha, Q_HR⟩ hb_ hon hoff
        refine ⟨_, rfl, fun K hK => ?_⟩
        have e221 : a.tmps[221]? = some (.bool true) := by rw [ha]; exact putSel_on (e := (11, 221, .bool true)) 11 rfl rfl (hon 11 (by kernel_rfl)) rfl
        replace ha := Aside0.mk ha
        have HR := Aside0.mk Q_HR
        refine off_ (wanted_off rfl rfl rfl (e221.trans (by first | rfl | (simp [*]; done)))) ?_
        refine hK.out _ _ ⟨(by rw [ha.out]; exact putSel_upk 17 hb_ rfl rfl rfl), Q_HR⟩
      refine steps_cons ?_ ?_
      · rintro b a w' ⟨ha, Q_HR⟩ hb_ hon hoff
        refine ⟨_, rfl, fun K hK => ?_⟩
        have e221 : a.tmps[221]? = some (.bool true) := by rw [ha]; exact putSel_on (e := (11, 221, .bool true)) 11 rfl rfl (hon 11 (by kernel_rfl)) rfl
        replace ha := Aside0.mk ha
        have HR := Aside0.mk Q_HR
        refine off_ (wanted_off rfl rfl rfl (e221.trans (by first | rfl | (simp [*]; done)))) ?_
        refine hK.out _ _ ⟨(by rw [ha.out]; exact putSel_upk 18 hb_ rfl rfl rfl), Q_HR⟩
      refine steps_cons ?_ ?_
      · rintro b a w' ⟨ha, Q_HR⟩ hb_ hon hoff
        refine ⟨_, rfl, fun K hK => ?_⟩
        have e221 : a.tmps[221]? = some (.bool true) := by rw [ha]; exact putSel_on (e := (11, 221, .bool true)) 11 rfl rfl (hon 11 (by kernel_rfl)) rfl
        replace ha := Aside0.mk ha
        have HR := Aside0.mk Q_HR
        refine off_ (wanted_off rfl rfl rfl (e221.trans (by first | rfl | (simp [*]; done)))) ?_
        refine hK.out _ _ ⟨(by rw [ha.out]; exact putSel_upk 19 hb_ rfl rfl rfl), Q_HR⟩
      refine steps_cons ?_ ?_
      · rintro b a w' ⟨ha, Q_HR⟩ hb_ hon hoff
        refine ⟨_, rfl, fun K hK => ?_⟩
        have e221 : a.tmps[221]? = some (.bool true) := by rw [ha]; exact putSel_on (e := (11, 221, .bool true)) 11 rfl rfl (hon 11 (by kernel_rfl)) rfl
        replace ha := Aside0.mk ha
        have HR := Aside0.mk Q_HR
        refine off_ (wanted_off rfl rfl rfl (e221.trans (by first | rfl | (simp [*]; done)))) ?_
        refine hK.out _ _ ⟨(by rw [ha.out]; exact putSel_upk 20 hb_ rfl rfl rfl), Q_HR⟩
      refine steps_cons ?_ ?_
      · rintro b a w' ⟨ha, Q_HR⟩ hb_ hon hoff
        refine ⟨_, rfl, fun K hK => ?_⟩
        have e221 : a.tmps[221]? = some (.bool true) := by rw [ha]; exact putSel_on (e := (11, 221, .bool true)) 11 rfl rfl (hon 11 (by kernel_rfl)) rfl
        have e230 : a.tmps[230]? = some (undef) := by rw [ha]; exact putSel_on (e := (20, 230, undef)) 20 rfl rfl (hon 20 (by kernel_rfl)) rfl
        replace ha := Aside0.mk ha
        have HR := Aside0.mk Q_HR
        refine value_ (w1 := w') (v := .bool true) (by rfl) rfl ?_ ?_
        · go_simp
          (try simp only [i64_w])
          try rfl
        refine hK.out _ _ ⟨(by rw [ha.out]; exact putSel_upk 21 hb_ rfl rfl rfl), Q_HR⟩
      exact steps_nil
    rintro b a wq hall ⟨ha, Q_HR⟩
    clear HR
    have hb0_ := hall 0 (by kernel_rfl)
    have hb1_ := hall 1 (by kernel_rfl)
    have hb2_ := hall 2 (by kernel_rfl)
    have hb3_ := hall 3 (by kernel_rfl)
    have hb4_ := hall 4 (by kernel_rfl)
    have hb5_ := hall 5 (by kernel_rfl)
    have hb6_ := hall 6 (by kernel_rfl)
    have hb7_ := hall 7 (by kernel_rfl)
    have hb8_ := hall 8 (by kernel_rfl)
    have hb9_ := hall 9 (by kernel_rfl)
    have hb10_ := hall 10 (by kernel_rfl)
    have hb11_ := hall 11 (by kernel_rfl)
    have hb12_ := hall 12 (by kernel_rfl)
    have hb13_ := hall 13 (by kernel_rfl)
    have hb14_ := hall 14 (by kernel_rfl)
    have hb15_ := hall 15 (by kernel_rfl)
    have hb16_ := hall 16 (by kernel_rfl)
    have hb17_ := hall 17 (by kernel_rfl)
    have hb18_ := hall 18 (by kernel_rfl)
    have hb19_ := hall 19 (by kernel_rfl)
    have hb20_ := hall 20 (by kernel_rfl)
    have hb21_ := hall 21 (by kernel_rfl)
    subst ha
    simp only [putSel, hb0_, hb1_, hb2_, hb3_, hb4_, hb5_, hb6_, hb7_, hb8_, hb9_, hb10_, hb11_, hb12_, hb13_, hb14_, hb15_, hb16_, hb17_, hb18_, hb19_, hb20_, hb21_, if_true, Act.put, List.setIfInBounds_toArray, List.set_cons_zero, List.set_cons_succ]
    have HR := Aside0.mk Q_HR
    clear Q_HR
    clear hall hb0_ hb1_ hb2_ hb3_ hb4_ hb5_ hb6_ hb7_ hb8_ hb9_ hb10_ hb11_ hb12_ hb13_ hb14_ hb15_ hb16_ hb17_ hb18_ hb19_ hb20_ hb21_
    have HS2 := Aside0.mk (HS0.out.to (below_step HBW.out HR.out))
    have HRES := Aside0.mk HS2.out.res
    have HRES4 := Aside0.mk HS2.out.res4
    have HRB := Aside0.mk HS2.out.hb
    have hx4_0 : wq.cell? ⟨g4, 0, none⟩ = some (.slice none 0 0) := (blk_cell HRES.out 0).trans rfl
    have hx4_1 : wq.cell? ⟨g4, 1, none⟩ = some (.slice none 0 0) := (blk_cell HRES.out 1).trans rfl
    have hy4_0 := blk_frozen HRES.out 0
    have hy4_1 := blk_frozen HRES.out 1
    go_wp2
    exact .inl ⟨rfl, HNO.out, ⟨rfl, rfl, rfl, rfl⟩, blk_put (blk_put HRES.out 0 _ rfl) 1 _ rfl, below_set (below_set HRB.out HRES4.out) HRES4.out⟩
  · have hd1 : decide (ci < 0) = false := decide_eq_false h1
    by_cases h2 : ci < (q.n : Int)
    · obtain ⟨k, rfl⟩ : ∃ k : Nat, ci = (k : Int) := ⟨ci.toNat, by omega⟩
      have hkn : k < q.n := by omega
      obtain ⟨y5, ey, hyb, hyc⟩ := HIL.out.2 k hkn
      obtain ⟨x, hx⟩ : ∃ x, x = q.T.getD k 0 := ⟨_, rfl⟩
      rw [← hx] at hyc
      have hil := HIL.out
      obtain ⟨m5, hm5⟩ : ∃ x, x = q.n := ⟨_, rfl⟩
      obtain ⟨c5, hc5⟩ : ∃ x, x = q.d := ⟨_, rfl⟩
      obtain ⟨l5, hl5⟩ : ∃ x, x = q.T := ⟨_, rfl⟩
      rw [ey, ← hm5, ← hl5] at hil
      rw [ey, ← hm5, ← hc5] at hx13 BK13
      rw [← hm5] at hkn
      have hm300 : m5 ≤ 300 := by rw [hm5]; omega
      have hi0 : (0 : Int) ≤ (k : Int) := by omega
      have hi1 : (k : Int) < (m5 : Int) := by omega
      have hd2 : decide ((k : Int) ≥ (m5 : Int)) = false := decide_eq_false (by omega)
      have hd2' : decide ((m5 : Int) ≤ (k : Int)) = false := decide_eq_false (by omega)
      have HIL5 := Aside0.mk hil
      have HX := Aside0.mk hx
      have HL5 := Aside0.mk hl5
      have HM5 := Aside0.mk hm5
      have HM0 := Aside0.mk (show 0 < m5 by omega)
      obtain ⟨bb, hbb⟩ : ∃ b, (x != cw) = b := ⟨_, rfl⟩
      have HBB := Aside0.mk hbb
      clear hx hl5 hm5 hc5 hil ey hnl hsz h2
      conv => arg 2; whnf
      go_upto_region 39 with fail
      have HR := Aside0.mk (Below.refl W.heap.size W)
      refine start_ (n := 22) (S := fun w' => True) (ds := []) #[false, false, false, false, false, false, false, false, false, false, false, false, false, false, false, false, false, false, false, false, false, false] (by kernel_rfl) rfl rfl trivial (fun hHeld => ?_)
      refine with_tabW r39.tab39 r39.bits39 (fun HT_ HW_ => ?_)
      refine inv_at [0, 1, 2, 3, 4, 5, 6, 7, 8, 9, 10, 11, 12, 13, 14, 15, 16, 17, 18, 19, 20, 21] (fun a0_ b a w' => a = putSel a0_ b [(0, 210, .pointer (some ⟨g9, 2, none⟩)), (1, 211, .int .i64 (k : Int)), (2, 212, .bool false), (3, 213, .bool false), (4, 214, .pointer (some ⟨g9, 2, none⟩)), (5, 215, .int .i64 (k : Int)), (6, 216, .pointer (some ⟨g13, 5, none⟩)), (7, 217, .slice (some y5) m5 c5), (8, 218, .int .i64 (m5 : Int)), (9, 219, .bool false), (10, 220, .bool false), (11, 221, .bool false), (12, 222, .pointer (some ⟨g13, 5, none⟩)), (13, 223, .slice (some y5) m5 c5), (14, 224, .pointer (some ⟨g9, 2, none⟩)), (15, 225, .int .i64 (k : Int)), (16, 226, .pointer (some (y5.add k))), (17, 227, .int .u64 x), (18, 228, .pointer (some ⟨g9, 3, none⟩)), (19, 229, .int .u64 cw), (20, 230, .bool bb), (21, 231, .bool bb)] ∧ (Below W.heap.size W w')) HT_.out HW_.out (by kernel_rfl) (by kernel_rfl) ?_ ?_ ?_
      · exact ⟨by simp only [putSel, Bool.false_eq_true, if_false], below_drew1 HR.out⟩
      · skip
        clear HR
        refine steps_cons ?_ ?_
        · rintro b a w' ⟨ha, Q_HR⟩ hb_ hon hoff
          refine ⟨_, rfl, fun K hK => ?_⟩
          have e9 : a.tmps[9]? = some (.pointer (some ⟨g9, 0, none⟩)) := by rw [ha]; exact (putSel_off rfl).trans rfl
          replace ha := Aside0.mk ha
          have HR := Aside0.mk Q_HR
          refine value_ (w1 := w') (v := .pointer (some ⟨g9, 2, none⟩)) (by rfl) rfl ?_ ?_
          · go_simp
            (try simp only [i64_w])
            try rfl
          refine hK.out _ _ ⟨(by rw [ha.out]; exact putSel_upk 0 hb_ rfl rfl rfl), Q_HR⟩
        refine steps_cons ?_ ?_
        · rintro b a w' ⟨ha, Q_HR⟩ hb_ hon hoff
          refine ⟨_, rfl, fun K hK => ?_⟩
          have e210 : a.tmps[210]? = some (.pointer (some ⟨g9, 2, none⟩)) := by rw [ha]; exact putSel_on (e := (0, 210, .pointer (some ⟨g9, 2, none⟩))) 0 rfl rfl (hon 0 (by kernel_rfl)) rfl
          replace ha := Aside0.mk ha
          have HR := Aside0.mk Q_HR
          have hl211_0 : w'.cell? ⟨g9, 2, none⟩ = some (.int .i64 (k : Int)) := (blk_cell (blk_below BK9.out HR.out) 2).trans rfl
          refine value_ (w1 := w') (v := .int .i64 (k : Int)) (by rfl) rfl ?_ ?_
          · go_simp
            (try simp only [i64_w])
            try rfl
          refine hK.out _ _ ⟨(by rw [ha.out]; exact putSel_upk 1 hb_ rfl rfl rfl), Q_HR⟩
        refine steps_cons ?_ ?_
        · rintro b a w' ⟨ha, Q_HR⟩ hb_ hon hoff
          refine ⟨_, rfl, fun K hK => ?_⟩
          have e211 : a.tmps[211]? = some (.int .i64 (k : Int)) := by rw [ha]; exact putSel_on (e := (1, 211, .int .i64 (k : Int))) 1 rfl rfl (hon 1 (by kernel_rfl)) rfl
          replace ha := Aside0.mk ha
          have HR := Aside0.mk Q_HR
          refine value_ (w1 := w') (v := .bool false) (by rfl) rfl ?_ ?_
          · go_simp
            (try simp only [i64_w])
            try rfl
          refine hK.out _ _ ⟨(by rw [ha.out]; exact putSel_upk 2 hb_ rfl rfl rfl), Q_HR⟩
        refine steps_cons ?_ ?_
        · rintro b a w' ⟨ha, Q_HR⟩ hb_ hon hoff
          refine ⟨_, rfl, fun K hK => ?_⟩
          have e212 : a.tmps[212]? = some (.bool false) := by rw [ha]; exact putSel_on (e := (2, 212, .bool false)) 2 rfl rfl (hon 2 (by kernel_rfl)) rfl
          replace ha := Aside0.mk ha
          have HR := Aside0.mk Q_HR
          refine value_ (w1 := w') (v := .bool false) (by rfl) rfl ?_ ?_
          · go_simp
            (try simp only [i64_w])
            try rfl
          refine hK.out _ _ ⟨(by rw [ha.out]; exact putSel_upk 3 hb_ rfl rfl rfl), Q_HR⟩
        refine steps_cons ?_ ?_
        · rintro b a w' ⟨ha, Q_HR⟩ hb_ hon hoff
          refine ⟨_, rfl, fun K hK => ?_⟩
          have e9 : a.tmps[9]? = some (.pointer (some ⟨g9, 0, none⟩)) := by rw [ha]; exact (putSel_off rfl).trans rfl
          have e213 : a.tmps[213]? = some (.bool false) := by rw [ha]; exact putSel_on (e := (3, 213, .bool false)) 3 rfl rfl (hon 3 (by kernel_rfl)) rfl
          replace ha := Aside0.mk ha
          have HR := Aside0.mk Q_HR
          refine value_ (w1 := w') (v := .pointer (some ⟨g9, 2, none⟩)) (wanted_on rfl rfl rfl (e213.trans (by first | rfl | (simp [*]; done)))) rfl ?_ ?_
          · go_simp
            (try simp only [i64_w])
            try rfl
          refine hK.out _ _ ⟨(by rw [ha.out]; exact putSel_upk 4 hb_ rfl rfl rfl), Q_HR⟩
        refine steps_cons ?_ ?_
        · rintro b a w' ⟨ha, Q_HR⟩ hb_ hon hoff
          refine ⟨_, rfl, fun K hK => ?_⟩
          have e214 : a.tmps[214]? = some (.pointer (some ⟨g9, 2, none⟩)) := by rw [ha]; exact putSel_on (e := (4, 214, .pointer (some ⟨g9, 2, none⟩))) 4 rfl rfl (hon 4 (by kernel_rfl)) rfl
          have e213 : a.tmps[213]? = some (.bool false) := by rw [ha]; exact putSel_on (e := (3, 213, .bool false)) 3 rfl rfl (hon 3 (by kernel_rfl)) rfl
          replace ha := Aside0.mk ha
          have HR := Aside0.mk Q_HR
          have hl215_0 : w'.cell? ⟨g9, 2, none⟩ = some (.int .i64 (k : Int)) := (blk_cell (blk_below BK9.out HR.out) 2).trans rfl
          refine value_ (w1 := w') (v := .int .i64 (k : Int)) (wanted_on rfl rfl rfl (e213.trans (by first | rfl | (simp [*]; done)))) rfl ?_ ?_
          · go_simp
            (try simp only [i64_w])
            try rfl
          refine hK.out _ _ ⟨(by rw [ha.out]; exact putSel_upk 5 hb_ rfl rfl rfl), Q_HR⟩
        refine steps_cons ?_ ?_
        · rintro b a w' ⟨ha, Q_HR⟩ hb_ hon hoff
          refine ⟨_, rfl, fun K hK => ?_⟩
          have e13 : a.tmps[13]? = some (.pointer (some ⟨g13, 0, none⟩)) := by rw [ha]; exact (putSel_off rfl).trans rfl
          have e213 : a.tmps[213]? = some (.bool false) := by rw [ha]; exact putSel_on (e := (3, 213, .bool false)) 3 rfl rfl (hon 3 (by kernel_rfl)) rfl
          replace ha := Aside0.mk ha
          have HR := Aside0.mk Q_HR
          refine value_ (w1 := w') (v := .pointer (some ⟨g13, 5, none⟩)) (wanted_on rfl rfl rfl (e213.trans (by first | rfl | (simp [*]; done)))) rfl ?_ ?_
          · go_simp
            (try simp only [i64_w])
            try rfl
          refine hK.out _ _ ⟨(by rw [ha.out]; exact putSel_upk 6 hb_ rfl rfl rfl), Q_HR⟩
        refine steps_cons ?_ ?_
        · rintro b a w' ⟨ha, Q_HR⟩ hb_ hon hoff
          refine ⟨_, rfl, fun K hK => ?_⟩
          have e216 : a.tmps[216]? = some (.pointer (some ⟨g13, 5, none⟩)) := by rw [ha]; exact putSel_on (e := (6, 216, .pointer (some ⟨g13, 5, none⟩))) 6 rfl rfl (hon 6 (by kernel_rfl)) rfl
          have e213 : a.tmps[213]? = some (.bool false) := by rw [ha]; exact putSel_on (e := (3, 213, .bool false)) 3 rfl rfl (hon 3 (by kernel_rfl)) rfl
          replace ha := Aside0.mk ha
          have HR := Aside0.mk Q_HR
          have hl217_0 : w'.cell? ⟨g13, 5, none⟩ = some (.slice (some y5) m5 c5) := (blk_cell (blk_below BK13.out HR.out) 5).trans rfl
          refine value_ (w1 := w') (v := .slice (some y5) m5 c5) (wanted_on rfl rfl rfl (e213.trans (by first | rfl | (simp [*]; done)))) rfl ?_ ?_
          · go_simp
            (try simp only [i64_w])
            try rfl
          refine hK.out _ _ ⟨(by rw [ha.out]; exact putSel_upk 7 hb_ rfl rfl rfl), Q_HR⟩
        refine steps_cons ?_ ?_
        · rintro b a w' ⟨ha, Q_HR⟩ hb_ hon hoff
          refine ⟨_, rfl, fun K hK => ?_⟩
          have e217 : a.tmps[217]? = some (.slice (some y5) m5 c5) := by rw [ha]; exact putSel_on (e := (7, 217, .slice (some y5) m5 c5)) 7 rfl rfl (hon 7 (by kernel_rfl)) rfl
          have e213 : a.tmps[213]? = some (.bool false) := by rw [ha]; exact putSel_on (e := (3, 213, .bool false)) 3 rfl rfl (hon 3 (by kernel_rfl)) rfl
          replace ha := Aside0.mk ha
          have HR := Aside0.mk Q_HR
          refine value_ (w1 := w') (v := .int .i64 (m5 : Int)) (wanted_on rfl rfl rfl (e213.trans (by first | rfl | (simp [*]; done)))) rfl ?_ ?_
          · go_simp
            (try simp only [i64_w])
            try rfl
          refine hK.out _ _ ⟨(by rw [ha.out]; exact putSel_upk 8 hb_ rfl rfl rfl), Q_HR⟩
        refine steps_cons ?_ ?_
        · rintro b a w' ⟨ha, Q_HR⟩ hb_ hon hoff
          refine ⟨_, rfl, fun K hK => ?_⟩
          have e215 : a.tmps[215]? = some (.int .i64 (k : Int)) := by rw [ha]; exact putSel_on (e := (5, 215, .int .i64 (k : Int))) 5 rfl rfl (hon 5 (by kernel_rfl)) rfl
          have e218 : a.tmps[218]? = some (.int .i64 (m5 : Int)) := by rw [ha]; exact putSel_on (e := (8, 218, .int .i64 (m5 : Int))) 8 rfl rfl (hon 8 (by kernel_rfl)) rfl
          have e213 : a.tmps[213]? = some (.bool false) := by rw [ha]; exact putSel_on (e := (3, 213, .bool false)) 3 rfl rfl (hon 3 (by kernel_rfl)) rfl
          replace ha := Aside0.mk ha
          have HR := Aside0.mk Q_HR
          refine value_ (w1 := w') (v := .bool false) (wanted_on rfl rfl rfl (e213.trans (by first | rfl | (simp [*]; done)))) rfl ?_ ?_
          · go_simp
            (try simp only [i64_w])
            try rfl
          refine hK.out _ _ ⟨(by rw [ha.out]; exact putSel_upk 9 hb_ rfl rfl rfl), Q_HR⟩
        refine steps_cons ?_ ?_
        · rintro b a w' ⟨ha, Q_HR⟩ hb_ hon hoff
          refine ⟨_, rfl, fun K hK => ?_⟩
          have e213 : a.tmps[213]? = some (.bool false) := by rw [ha]; exact putSel_on (e := (3, 213, .bool false)) 3 rfl rfl (hon 3 (by kernel_rfl)) rfl
          have e219 : a.tmps[219]? = some (.bool false) := by rw [ha]; exact putSel_on (e := (9, 219, .bool false)) 9 rfl rfl (hon 9 (by kernel_rfl)) rfl
          replace ha := Aside0.mk ha
          have HR := Aside0.mk Q_HR
          refine value_ (w1 := w') (v := .bool false) (by rfl) rfl ?_ ?_
          · go_simp
            (try simp only [i64_w])
            try rfl
          refine hK.out _ _ ⟨(by rw [ha.out]; exact putSel_upk 10 hb_ rfl rfl rfl), Q_HR⟩
        refine steps_cons ?_ ?_
        · rintro b a w' ⟨ha, Q_HR⟩ hb_ hon hoff
          refine ⟨_, rfl, fun K hK => ?_⟩
          have e220 : a.tmps[220]? = some (.bool false) := by rw [ha]; exact putSel_on (e := (10, 220, .bool false)) 10 rfl rfl (hon 10 (by kernel_rfl)) rfl
          replace ha := Aside0.mk ha
          have HR := Aside0.mk Q_HR
          refine value_ (w1 := w') (v := .bool false) (by rfl) rfl ?_ ?_
          · go_simp
            (try simp only [i64_w])
            try rfl
          refine hK.out _ _ ⟨(by rw [ha.out]; exact putSel_upk 11 hb_ rfl rfl rfl), Q_HR⟩
        refine steps_cons ?_ ?_
        · rintro b a w' ⟨ha, Q_HR⟩ hb_ hon hoff
          refine ⟨_, rfl, fun K hK => ?_⟩
          have e13 : a.tmps[13]? = some (.pointer (some ⟨g13, 0, none⟩)) := by rw [ha]; exact (putSel_off rfl).trans rfl
          have e221 : a.tmps[221]? = some (.bool false) := by rw [ha]; exact putSel_on (e := (11, 221, .bool false)) 11 rfl rfl (hon 11 (by kernel_rfl)) rfl
          replace ha := Aside0.mk ha
          have HR := Aside0.mk Q_HR
          refine value_ (w1 := w') (v := .pointer (some ⟨g13, 5, none⟩)) (wanted_on rfl rfl rfl (e221.trans (by first | rfl | (simp [*]; done)))) rfl ?_ ?_
          · go_simp
            (try simp only [i64_w])
            try rfl
          refine hK.out _ _ ⟨(by rw [ha.out]; exact putSel_upk 12 hb_ rfl rfl rfl), Q_HR⟩
        refine steps_cons ?_ ?_
        · rintro b a w' ⟨ha, Q_HR⟩ hb_ hon hoff
          refine ⟨_, rfl, fun K hK => ?_⟩
          have e222 : a.tmps[222]? = some (.pointer (some ⟨g13, 5, none⟩)) := by rw [ha]; exact putSel_on (e := (12, 222, .pointer (some ⟨g13, 5, none⟩))) 12 rfl rfl (hon 12 (by kernel_rfl)) rfl
          have e221 : a.tmps[221]? = some (.bool false) := by rw [ha]; exact putSel_on (e := (11, 221, .bool false)) 11 rfl rfl (hon 11 (by kernel_rfl)) rfl
          replace ha := Aside0.mk ha
          have HR := Aside0.mk Q_HR
          have hl223_0 : w'.cell? ⟨g13, 5, none⟩ = some (.slice (some y5) m5 c5) := (blk_cell (blk_below BK13.out HR.out) 5).trans rfl
          refine value_ (w1 := w') (v := .slice (some y5) m5 c5) (wanted_on rfl rfl rfl (e221.trans (by first | rfl | (simp [*]; done)))) rfl ?_ ?_
          · go_simp
            (try simp only [i64_w])
            try rfl
          refine hK.out _ _ ⟨(by rw [ha.out]; exact putSel_upk 13 hb_ rfl rfl rfl), Q_HR⟩
        refine steps_cons ?_ ?_
        · rintro b a w' ⟨ha, Q_HR⟩ hb_ hon hoff
          refine ⟨_, rfl, fun K hK => ?_⟩
          have e9 : a.tmps[9]? = some (.pointer (some ⟨g9, 0, none⟩)) := by rw [ha]; exact (putSel_off rfl).trans rfl
          have e221 : a.tmps[221]? = some (.bool false) := by rw [ha]; exact putSel_on (e := (11, 221, .bool false)) 11 rfl rfl (hon 11 (by kernel_rfl)) rfl
          replace ha := Aside0.mk ha
          have HR := Aside0.mk Q_HR
          refine value_ (w1 := w') (v := .pointer (some ⟨g9, 2, none⟩)) (wanted_on rfl rfl rfl (e221.trans (by first | rfl | (simp [*]; done)))) rfl ?_ ?_
          · go_simp
            (try simp only [i64_w])
            try rfl
          refine hK.out _ _ ⟨(by rw [ha.out]; exact putSel_upk 14 hb_ rfl rfl rfl), Q_HR⟩
        refine steps_cons ?_ ?_
        · rintro b a w' ⟨ha, Q_HR⟩ hb_ hon hoff
          refine ⟨_, rfl, fun K hK => ?_⟩
          have e224 : a.tmps[224]? = some (.pointer (some ⟨g9, 2, none⟩)) := by rw [ha]; exact putSel_on (e := (14, 224, .pointer (some ⟨g9, 2, none⟩))) 14 rfl rfl (hon 14 (by kernel_rfl)) rfl
          have e221 : a.tmps[221]? = some (.bool false) := by rw [ha]; exact putSel_on (e := (11, 221, .bool false)) 11 rfl rfl (hon 11 (by kernel_rfl)) rfl
          replace ha := Aside0.mk ha
          have HR := Aside0.mk Q_HR
          have hl225_0 : w'.cell? ⟨g9, 2, none⟩ = some (.int .i64 (k : Int)) := (blk_cell (blk_below BK9.out HR.out) 2).trans rfl
          refine value_ (w1 := w') (v := .int .i64 (k : Int)) (wanted_on rfl rfl rfl (e221.trans (by first | rfl | (simp [*]; done)))) rfl ?_ ?_
          · go_simp
            (try simp only [i64_w])
            try rfl
          refine hK.out _ _ ⟨(by rw [ha.out]; exact putSel_upk 15 hb_ rfl rfl rfl), Q_HR⟩
        refine steps_cons ?_ ?_
        · rintro b a w' ⟨ha, Q_HR⟩ hb_ hon hoff
          refine ⟨_, rfl, fun K hK => ?_⟩
          have e223 : a.tmps[223]? = some (.slice (some y5) m5 c5) := by rw [ha]; exact putSel_on (e := (13, 223, .slice (some y5) m5 c5)) 13 rfl rfl (hon 13 (by kernel_rfl)) rfl
          have e225 : a.tmps[225]? = some (.int .i64 (k : Int)) := by rw [ha]; exact putSel_on (e := (15, 225, .int .i64 (k : Int))) 15 rfl rfl (hon 15 (by kernel_rfl)) rfl
          have e221 : a.tmps[221]? = some (.bool false) := by rw [ha]; exact putSel_on (e := (11, 221, .bool false)) 11 rfl rfl (hon 11 (by kernel_rfl)) rfl
          replace ha := Aside0.mk ha
          have HR := Aside0.mk Q_HR
          refine value_ (w1 := w') (v := .pointer (some (y5.add k))) (wanted_on rfl rfl rfl (e221.trans (by first | rfl | (simp [*]; done)))) rfl ?_ ?_
          · go_simp
            (try simp only [i64_w])
            try rfl
          refine hK.out _ _ ⟨(by rw [ha.out]; exact putSel_upk 16 hb_ rfl rfl rfl), Q_HR⟩
        refine steps_cons ?_ ?_
        · rintro b a w' ⟨ha, Q_HR⟩ hb_ hon hoff
          refine ⟨_, rfl, fun K hK => ?_⟩
          have e226 : a.tmps[226]? = some (.pointer (some (y5.add k))) := by rw [ha]; exact putSel_on (e := (16, 226, .pointer (some (y5.add k)))) 16 rfl rfl (hon 16 (by kernel_rfl)) rfl
          have e221 : a.tmps[221]? = some (.bool false) := by rw [ha]; exact putSel_on (e := (11, 221, .bool false)) 11 rfl rfl (hon 11 (by kernel_rfl)) rfl
          replace ha := Aside0.mk ha
          have HR := Aside0.mk Q_HR
          have hl227 : w'.cell? (y5.add k) = some (.int .u64 x) := (HR.out.cell (p := y5.add k) (cell_lt hyc)).trans hyc
          refine value_ (w1 := w') (v := .int .u64 x) (wanted_on rfl rfl rfl (e221.trans (by first | rfl | (simp [*]; done)))) rfl ?_ ?_
          · go_simp
            (try simp only [i64_w])
            try rfl
          refine hK.out _ _ ⟨(by rw [ha.out]; exact putSel_upk 17 hb_ rfl rfl rfl), Q_HR⟩
        refine steps_cons ?_ ?_
        · rintro b a w' ⟨ha, Q_HR⟩ hb_ hon hoff
          refine ⟨_, rfl, fun K hK => ?_⟩
          have e9 : a.tmps[9]? = some (.pointer (some ⟨g9, 0, none⟩)) := by rw [ha]; exact (putSel_off rfl).trans rfl
          have e221 : a.tmps[221]? = some (.bool false) := by rw [ha]; exact putSel_on (e := (11, 221, .bool false)) 11 rfl rfl (hon 11 (by kernel_rfl)) rfl
          replace ha := Aside0.mk ha
          have HR := Aside0.mk Q_HR
          refine value_ (w1 := w') (v := .pointer (some ⟨g9, 3, none⟩)) (wanted_on rfl rfl rfl (e221.trans (by first | rfl | (simp [*]; done)))) rfl ?_ ?_
          · go_simp
            (try simp only [i64_w])
            try rfl
          refine hK.out _ _ ⟨(by rw [ha.out]; exact putSel_upk 18 hb_ rfl rfl rfl), Q_HR⟩
        refine steps_cons ?_ ?_
        · rintro b a w' ⟨ha, Q_HR⟩ hb_ hon hoff
          refine ⟨_, rfl, fun K hK => ?_⟩
          have e228 : a.tmps[228]? = some (.pointer (some ⟨g9, 3, none⟩)) := by rw [ha]; exact putSel_on (e := (18, 228, .pointer (some ⟨g9, 3, none⟩))) 18 rfl rfl (hon 18 (by kernel_rfl)) rfl
          have e221 : a.tmps[221]? = some (.bool false) := by rw [ha]; exact putSel_on (e := (11, 221, .bool false)) 11 rfl rfl (hon 11 (by kernel_rfl)) rfl
          replace ha := Aside0.mk ha
          have HR := Aside0.mk Q_HR
          have hl229_0 : w'.cell? ⟨g9, 3, none⟩ = some (.int .u64 cw) := (blk_cell (blk_below BK9.out HR.out) 3).trans rfl
          refine value_ (w1 := w') (v := .int .u64 cw) (wanted_on rfl rfl rfl (e221.trans (by first | rfl | (simp [*]; done)))) rfl ?_ ?_
          · go_simp
            (try simp only [i64_w])
            try rfl
          refine hK.out _ _ ⟨(by rw [ha.out]; exact putSel_upk 19 hb_ rfl rfl rfl), Q_HR⟩
        refine steps_cons ?_ ?_
        · rintro b a w' ⟨ha, Q_HR⟩ hb_ hon hoff
          refine ⟨_, rfl, fun K hK => ?_⟩
          have e227 : a.tmps[227]? = some (.int .u64 x) := by rw [ha]; exact putSel_on (e := (17, 227, .int .u64 x)) 17 rfl rfl (hon 17 (by kernel_rfl)) rfl
          have e229 : a.tmps[229]? = some (.int .u64 cw) := by rw [ha]; exact putSel_on (e := (19, 229, .int .u64 cw)) 19 rfl rfl (hon 19 (by kernel_rfl)) rfl
          have e221 : a.tmps[221]? = some (.bool false) := by rw [ha]; exact putSel_on (e := (11, 221, .bool false)) 11 rfl rfl (hon 11 (by kernel_rfl)) rfl
          replace ha := Aside0.mk ha
          have HR := Aside0.mk Q_HR
          refine value_ (w1 := w') (v := .bool bb) (wanted_on rfl rfl rfl (e221.trans (by first | rfl | (simp [*]; done)))) rfl ?_ ?_
          · go_simp
            (try simp only [i64_w])
            try rfl
          refine hK.out _ _ ⟨(by rw [ha.out]; exact putSel_upk 20 hb_ rfl rfl rfl), Q_HR⟩
        refine steps_cons ?_ ?_
        · rintro b a w' ⟨ha, Q_HR⟩ hb_ hon hoff
          refine ⟨_, rfl, fun K hK => ?_⟩
          have e221 : a.tmps[221]? = some (.bool false) := by rw [ha]; exact putSel_on (e := (11, 221, .bool false)) 11 rfl rfl (hon 11 (by kernel_rfl)) rfl
          have e230 : a.tmps[230]? = some (.bool bb) := by rw [ha]; exact putSel_on (e := (20, 230, .bool bb)) 20 rfl rfl (hon 20 (by kernel_rfl)) rfl
          replace ha := Aside0.mk ha
          have HR := Aside0.mk Q_HR
          refine value_ (w1 := w') (v := .bool bb) (by rfl) rfl ?_ ?_
          · go_simp
            (try simp only [i64_w])
            try rfl
          refine hK.out _ _ ⟨(by rw [ha.out]; exact putSel_upk 21 hb_ rfl rfl rfl), Q_HR⟩
        exact steps_nil
      rintro b a wq hall ⟨ha, Q_HR⟩
      clear HR
      have hb0_ := hall 0 (by kernel_rfl)
      have hb1_ := hall 1 (by kernel_rfl)
      have hb2_ := hall 2 (by kernel_rfl)
      have hb3_ := hall 3 (by kernel_rfl)
      have hb4_ := hall 4 (by kernel_rfl)
      have hb5_ := hall 5 (by kernel_rfl)
      have hb6_ := hall 6 (by kernel_rfl)
      have hb7_ := hall 7 (by kernel_rfl)
      have hb8_ := hall 8 (by kernel_rfl)
      have hb9_ := hall 9 (by kernel_rfl)
      have hb10_ := hall 10 (by kernel_rfl)
      have hb11_ := hall 11 (by kernel_rfl)
      have hb12_ := hall 12 (by kernel_rfl)
      have hb13_ := hall 13 (by kernel_rfl)
      have hb14_ := hall 14 (by kernel_rfl)
      have hb15_ := hall 15 (by kernel_rfl)
      have hb16_ := hall 16 (by kernel_rfl)
      have hb17_ := hall 17 (by kernel_rfl)
      have hb18_ := hall 18 (by kernel_rfl)
      have hb19_ := hall 19 (by kernel_rfl)
      have hb20_ := hall 20 (by kernel_rfl)
      have hb21_ := hall 21 (by kernel_rfl)
      subst ha
      simp only [putSel, hb0_, hb1_, hb2_, hb3_, hb4_, hb5_, hb6_, hb7_, hb8_, hb9_, hb10_, hb11_, hb12_, hb13_, hb14_, hb15_, hb16_, hb17_, hb18_, hb19_, hb20_, hb21_, if_true, Act.put, List.setIfInBounds_toArray, List.set_cons_zero, List.set_cons_succ]
      have HR := Aside0.mk Q_HR
      clear Q_HR
      clear hall hb0_ hb1_ hb2_ hb3_ hb4_ hb5_ hb6_ hb7_ hb8_ hb9_ hb10_ hb11_ hb12_ hb13_ hb14_ hb15_ hb16_ hb17_ hb18_ hb19_ hb20_ hb21_
      clear hbb hyc
      have HBWq := Aside0.mk (below_step HBW.out HR.out)
      have HS2 := Aside0.mk (HS0.out.to HBWq.out)
      have BK9q := Aside0.mk (blk_below BK9.out HR.out)
      have BK13q := Aside0.mk (blk_below BK13.out HR.out)
      have HLq := Aside0.mk (HIL5.out.to HR.out)
      cases bb with
      | true =>
        have hno : chgT q.T (⟨5, ca, (k : Int), cw, cs⟩ : Ch) = none := if_neg (fun h => by
          have h3 := h.2.2
          simp only [Int.toNat_natCast] at h3
          rw [← HX.out] at h3
          have := HBB.out
          rw [show x = cw from h3] at this
          simp at this)
        have HNO := Aside0.mk (show applyP (R, M.map Nd.pn) (⟨5, ca, (k : Int), cw, cs⟩ : Ch) = none by rw [HAP.out, hno]; rfl)
        clear hno
        have HRES := Aside0.mk HS2.out.res
        have HRES4 := Aside0.mk HS2.out.res4
        have HRB := Aside0.mk HS2.out.hb
        have hx4_0 : wq.cell? ⟨g4, 0, none⟩ = some (.slice none 0 0) := (blk_cell HRES.out 0).trans rfl
        have hx4_1 : wq.cell? ⟨g4, 1, none⟩ = some (.slice none 0 0) := (blk_cell HRES.out 1).trans rfl
        have hy4_0 := blk_frozen HRES.out 0
        have hy4_1 := blk_frozen HRES.out 1
        go_wp2
        exact .inl ⟨rfl, HNO.out, ⟨rfl, rfl, rfl, rfl⟩, blk_put (blk_put HRES.out 0 _ rfl) 1 _ rfl, below_set (below_set HRB.out HRES4.out) HRES4.out⟩
      | false =>
        have he : x = cw := by simpa using HBB.out
        have hll : l5.length = m5 := HIL5.out.1
        have HYES := Aside0.mk (show chgT q.T (⟨5, ca, (k : Int), cw, cs⟩ : Ch) = some (q.T.set k cs) from if_pos ⟨by simp only; omega, by simp only; rw [← HL5.out]; omega, by simp only [Int.toNat_natCast]; rw [← HX.out]; exact he⟩)
        clear he
        have hx9_2wq : wq.cell? ⟨g9, 2, none⟩ = some (.int .i64 (k : Int)) := (blk_cell BK9q.out 2).trans rfl
        have hx9_4wq : wq.cell? ⟨g9, 4, none⟩ = some (.int .u64 cs) := (blk_cell BK9q.out 4).trans rfl
        have hq13 : (wq.alloc (.cells #[] 42)).cell? ⟨g13, 5, none⟩ = some (.slice (some y5) m5 c5) := (blk_cell (blk_alloc BK13q.out (.cells #[] 42)) 5).trans rfl
        go_upto_region 42 with (at_builtin; refine wpList_append_il rfl (.tmp 233) (.tmp 235) 38 rfl .u64 wq.heap.size wq.heap.size 42 i0 (.int .u64 0) 8 Try.underlying38 hi hz0 hz1 hz2 rfl (.slice (some ⟨wq.heap.size, 0, none⟩) 0 0) 0 [] rfl (row_empty (blk_new wq (.cells #[] 42)) (Nat.le_refl _)) (some y5) m5 c5 l5 rfl (HLq.out.kept fun k hk => Below.heap_alloc wq _ k hk) (by unfold maxLen; omega) (by omega) (by rw [World.size_alloc]; omega) ?_; rw [Nat.zero_add, List.nil_append]; intro v1 w1 hown1 hgr1; obtain ⟨gx, cx, rfl⟩ := row1_some HM0.out hown1; have ROW1 := Aside0.mk hown1; have HB1 := Aside0.mk (own_below (below_alloc (Below.refl wq.heap.size wq) (.cells #[] 42)) (Nat.le_refl _) (row_empty (s := 1) (blk_new wq (.cells #[] 42)) (Nat.le_refl _)) hgr1); have BK13w := Aside0.mk (blk_below BK13q.out HB1.out); have hw13 : w1.cell? ⟨g13, 5, none⟩ = some (.slice (some y5) m5 c5) := (blk_cell BK13w.out 5).trans rfl; have hwf13 := blk_frozen BK13w.out 5; clear hown1 hgr1)
        obtain ⟨w2, hw2⟩ : ∃ x, x = w1.setCell ⟨g13, 5, none⟩ (.slice (some ⟨gx, 0, none⟩) m5 cx) := ⟨_, rfl⟩
        rw [← hw2]
        have h13q : g13 < wq.heap.size := blk_lt BK13q.out
        have hgx : wq.heap.size ≤ gx := (ROW1.out.lt gx rfl).1
        have BK13x := Aside0.mk (show w2.heap[g13]? = some (.cells #[.int .i64 q.adr, .int .i64 q.refs, .int .i64 q.sl, .int .i64 q.words, .slice q.A q.m q.c, .slice (some ⟨gx, 0, none⟩) m5 cx] 40 (0, 0)) by rw [hw2]; exact blk_put BK13w.out 5 _ rfl)
        have ROW2 := Aside0.mk (show w2.ownsRow wq.heap.size 42 1 (.slice (some ⟨gx, 0, none⟩) m5 cx) m5 (l5.map (Value.int .u64)) by rw [hw2]; exact ownsRow_setCell_below ROW1.out h13q _)
        have HB2 := Aside0.mk (show Below W0.heap.size W0 w2 by rw [hw2]; exact below_set (below_step HBWq.out HB1.out) H13.out)
        have BK9x := Aside0.mk (show w2.heap[g9]? = some (.cells #[.int .i64 5, .int .i64 ca, .int .i64 (k : Int), .int .u64 cw, .int .u64 cs] 44 (0, 0)) by rw [hw2]; exact blk_far (blk_below BK9q.out HB1.out) (blk_ne BK9q.out BK13q.out (by decide)) _)
        have NEX := Aside0.mk (show g13 ≠ gx by omega)
        have HGX := Aside0.mk hgx
        have HW2 := Aside0.mk hw2
        clear hw2 hgx h13q hw13 hwf13
        have hv13 : w2.cell? ⟨g13, 5, none⟩ = some (.slice (some ⟨gx, 0, none⟩) m5 cx) := (blk_cell BK13x.out 5).trans rfl
        have hx9_2w2 : w2.cell? ⟨g9, 2, none⟩ = some (.int .i64 (k : Int)) := (blk_cell BK9x.out 2).trans rfl
        have hx9_4w2 : w2.cell? ⟨g9, 4, none⟩ = some (.int .u64 cs) := (blk_cell BK9x.out 4).trans rfl
        have hyx := ROW2.out.cellAt k (by rw [Nat.mul_one]; exact hkn)
        rw [List.getElem?_map, getD_at (show k < l5.length by omega)] at hyx
        replace hyx : w2.cell? ⟨gx, k, none⟩ = some (.int .u64 (l5.getD k 0)) := hyx
        have hyf := ROW2.out.frozenAt k
        have hst := (ROW2.out.stored k (.int .u64 cs)).1
        rw [← List.map_set (f := Value.int .u64)] at hst
        obtain ⟨w3, hw3⟩ : ∃ x, x = w2.setCell ⟨gx, k, none⟩ (.int .u64 cs) := ⟨_, rfl⟩
        have ROW3 := Aside0.mk (hw3 ▸ hst)
        have BK13y := Aside0.mk (show w3.heap[g13]? = some (.cells #[.int .i64 q.adr, .int .i64 q.refs, .int .i64 q.sl, .int .i64 q.words, .slice q.A q.m q.c, .slice (some ⟨gx, 0, none⟩) m5 cx] 40 (0, 0)) by rw [hw3]; exact blk_far BK13x.out NEX.out _)
        have HB3 := Aside0.mk (show Below W0.heap.size W0 w3 by rw [hw3]; exact below_set HB2.out (Nat.le_trans (Nat.le_trans HBWq.out.size HGX.out) (Nat.le_refl _)))
        have HS3 := Aside0.mk (HS0.out.to HB3.out)
        clear hst
        go_upto_region 43 with fail
        rw [← hw3]
        have HW3 := Aside0.mk hw3
        clear hw3 hyx hyf hv13 hq13
        obtain ⟨gn, cn, en⟩ : ∃ gn cn, vn = .slice (some ⟨gn, 0, none⟩) M.length cn := by
          rcases row40_form HS3.out.rows with ⟨_, h0⟩ | ⟨g, cap, e⟩
          · have := HIX.out; omega
          · exact ⟨g, cap, e⟩
        subst en
        obtain ⟨xn, hxn⟩ : ∃ xn : Nd, xn = { q with B := some ⟨gx, 0, none⟩, n := m5, d := cx, T := l5.set k cs } := ⟨_, rfl⟩
        have hdx : DX w3 (own2 vt (.slice (some ⟨gn, 0, none⟩) M.length cn)) xn := by
          rw [hxn]
          have hq3 := HS3.out.lists q HQM.out
          have hgn : gn < W0.heap.size := (HS0.out.rows.lt gn rfl).2
          have hvt : ∀ j, vt.ownBlock = some j → j < W0.heap.size := fun j e => (HS0.out.tops.lt j e).2
          have hgx0 : W0.heap.size ≤ gx := Nat.le_trans HBWq.out.size HGX.out
          obtain ⟨a7, c7, e7, h7⟩ := IL_of_row ROW3.out
          cases e7
          have hnew : IX .u64 w3 (own2 vt (.slice (some ⟨gn, 0, none⟩) M.length cn)) (some ⟨gx, 0, none⟩) m5 (l5.set k cs) := ⟨h7.1, fun j hj => by
            obtain ⟨yy, ee, hb, hc⟩ := h7.2 j hj
            refine ⟨yy, ee, hb, fun hS => ?_, hc⟩
            cases ee
            rcases own2_mem.1 hS with e | e
            · have h8 := hvt _ e
              have h9 : gx < W0.heap.size := h8
              omega
            · have h8 : gn = gx := Option.some.inj e
              omega⟩
          exact ⟨hq3.1, hnew⟩
        have hput := HS3.out.put HIX.out (x := xn) (by rw [List.getD_eq_getElem?_getD, HQ.out, hxn]; rfl) hdx (by rw [hxn]; exact ⟨HSZ.out.1, hm300⟩)
        have HPUT := Aside0.mk hput
        have HST := Aside0.mk (show applyP (R, M.map Nd.pn) (⟨5, ca, (k : Int), cw, cs⟩ : Ch) = some (R, (M.set ix xn).map Nd.pn) by
          rw [HAP.out, HYES.out, ← set_pn, hxn, HL5.out];  rfl)
        have hr6 := row6g HS3.out.rows HIX.out
        obtain ⟨hs0, hs1, hs2, hs3, hs4, hs5⟩ := hr6
        obtain ⟨hf0, hf1, hf2, hf3, hf4, hf5⟩ := thaw6g HS3.out.rows ix
        have hLM := HIX.out
        obtain ⟨n, hn⟩ : ∃ n, n = M.length := ⟨_, rfl⟩
        have HNN := Aside0.mk hn
        rw [← hn] at hLM
        have hj0 : (0 : Int) ≤ (ix : Int) := by omega
        have hj1 : (ix : Int) < (n : Int) := by omega
        rw [← hn]
        have HXN := Aside0.mk hxn
        clear hput hdx hn hxn
        have hw3_0 : w3.cell? ⟨g13, 0, none⟩ = some (.int .i64 q.adr) := (blk_cell BK13y.out 0).trans rfl
        have hw3_1 : w3.cell? ⟨g13, 1, none⟩ = some (.int .i64 q.refs) := (blk_cell BK13y.out 1).trans rfl
        have hw3_2 : w3.cell? ⟨g13, 2, none⟩ = some (.int .i64 q.sl) := (blk_cell BK13y.out 2).trans rfl
        have hw3_3 : w3.cell? ⟨g13, 3, none⟩ = some (.int .i64 q.words) := (blk_cell BK13y.out 3).trans rfl
        have hw3_4 : w3.cell? ⟨g13, 4, none⟩ = some (.slice q.A q.m q.c) := (blk_cell BK13y.out 4).trans rfl
        have hw3_5 : w3.cell? ⟨g13, 5, none⟩ = some (.slice (some ⟨gx, 0, none⟩) m5 cx) := (blk_cell BK13y.out 5).trans rfl
        go_wp2
        have hp2 := HPUT.out
        rw [HXN.out] at hp2
        have hs2' := HST.out
        rw [HXN.out] at hs2'
        refine .inr ⟨.inr rfl, vt, _, R, _, hs2', ⟨rfl, rfl, rfl, rfl, rfl, rfl, rfl, rfl⟩, ?_, by rw [List.length_set]; exact Nat.le_succ _⟩
        rw [HNN.out]
        exact hp2
    · have hd2 : decide (ci ≥ (q.n : Int)) = true := decide_eq_true (by omega)
      have hd2' : decide ((q.n : Int) ≤ ci) = true := decide_eq_true (by omega)
      have HNO := Aside0.mk (show applyP (R, M.map Nd.pn) (⟨5, ca, ci, cw, cs⟩ : Ch) = none by rw [HAP.out, show chgT q.T ⟨5, ca, ci, cw, cs⟩ = none from if_neg (fun h => by have := h.2.1; simp only at this; omega)]; rfl)
      obtain ⟨A5, hA5⟩ : ∃ x, x = q.B := ⟨_, rfl⟩
      obtain ⟨m5, hm5⟩ : ∃ x, x = q.n := ⟨_, rfl⟩
      obtain ⟨c5, hc5⟩ : ∃ x, x = q.d := ⟨_, rfl⟩
      rw [← hA5, ← hm5, ← hc5] at hx13 BK13
      rw [← hm5] at hd2 hd2'
      clear hA5 hm5 hc5 hsz hnl h2
      conv => arg 2; whnf
      go_upto_region 39 with fail
      have HR := Aside0.mk (Below.refl W.heap.size W)
      refine start_ (n := 22) (S := fun w' => True) (ds := []) #[false, false, false, false, false, false, false, false, false, false, false, false, false, false, false, false, false, false, false, false, false, false] (by kernel_rfl) rfl rfl trivial (fun hHeld => ?_)
      refine with_tabW r39.tab39 r39.bits39 (fun HT_ HW_ => ?_)
      refine inv_at [0, 1, 2, 3, 4, 5, 6, 7, 8, 9, 10, 11, 12, 13, 14, 15, 16, 17, 18, 19, 20, 21] (fun a0_ b a w' => a = putSel a0_ b [(0, 210, .pointer (some ⟨g9, 2, none⟩)), (1, 211, .int .i64 ci), (2, 212, .bool false), (3, 213, .bool false), (4, 214, .pointer (some ⟨g9, 2, none⟩)), (5, 215, .int .i64 ci), (6, 216, .pointer (some ⟨g13, 5, none⟩)), (7, 217, .slice A5 m5 c5), (8, 218, .int .i64 (m5 : Int)), (9, 219, .bool true), (10, 220, .bool true), (11, 221, .bool true), (12, 222, undef), (13, 223, undef), (14, 224, undef), (15, 225, undef), (16, 226, undef), (17, 227, undef), (18, 228, undef), (19, 229, undef), (20, 230, undef), (21, 231, .bool true)] ∧ (Below W.heap.size W w')) HT_.out HW_.out (by kernel_rfl) (by kernel_rfl) ?_ ?_ ?_
      · exact ⟨by simp only [putSel, Bool.false_eq_true, if_false], below_drew1 HR.out⟩
      · skip
        clear HR
        refine steps_cons ?_ ?_
        · rintro b a w' ⟨ha, Q_HR⟩ hb_ hon hoff
          refine ⟨_, rfl, fun K hK => ?_⟩
          have e9 : a.tmps[9]? = some (.pointer (some ⟨g9, 0, none⟩)) := by rw [ha]; exact (putSel_off rfl).trans rfl
          replace ha := Aside0.mk ha
          have HR := Aside0.mk Q_HR
          refine value_ (w1 := w') (v := .pointer (some ⟨g9, 2, none⟩)) (by rfl) rfl ?_ ?_
          · go_simp
            (try simp only [i64_w])
            try rfl
          refine hK.out _ _ ⟨(by rw [ha.out]; exact putSel_upk 0 hb_ rfl rfl rfl), Q_HR⟩
        refine steps_cons ?_ ?_
        · rintro b a w' ⟨ha, Q_HR⟩ hb_ hon hoff
          refine ⟨_, rfl, fun K hK => ?_⟩
          have e210 : a.tmps[210]? = some (.pointer (some ⟨g9, 2, none⟩)) := by rw [ha]; exact putSel_on (e := (0, 210, .pointer (some ⟨g9, 2, none⟩))) 0 rfl rfl (hon 0 (by kernel_rfl)) rfl
          replace ha := Aside0.mk ha
          have HR := Aside0.mk Q_HR
          have hl211_0 : w'.cell? ⟨g9, 2, none⟩ = some (.int .i64 ci) := (blk_cell (blk_below BK9.out HR.out) 2).trans rfl
          refine value_ (w1 := w') (v := .int .i64 ci) (by rfl) rfl ?_ ?_
          · go_simp
            (try simp only [i64_w])
            try rfl
          refine hK.out _ _ ⟨(by rw [ha.out]; exact putSel_upk 1 hb_ rfl rfl rfl), Q_HR⟩
        refine steps_cons ?_ ?_
        · rintro b a w' ⟨ha, Q_HR⟩ hb_ hon hoff
          refine ⟨_, rfl, fun K hK => ?_⟩
          have e211 : a.tmps[211]? = some (.int .i64 ci) := by rw [ha]; exact putSel_on (e := (1, 211, .int .i64 ci)) 1 rfl rfl (hon 1 (by kernel_rfl)) rfl
          replace ha := Aside0.mk ha
          have HR := Aside0.mk Q_HR
          refine value_ (w1 := w') (v := .bool false) (by rfl) rfl ?_ ?_
          · go_simp
            (try simp only [i64_w])
            try rfl
          refine hK.out _ _ ⟨(by rw [ha.out]; exact putSel_upk 2 hb_ rfl rfl rfl), Q_HR⟩
        refine steps_cons ?_ ?_
        · rintro b a w' ⟨ha, Q_HR⟩ hb_ hon hoff
          refine ⟨_, rfl, fun K hK => ?_⟩
          have e212 : a.tmps[212]? = some (.bool false) := by rw [ha]; exact putSel_on (e := (2, 212, .bool false)) 2 rfl rfl (hon 2 (by kernel_rfl)) rfl
          replace ha := Aside0.mk ha
          have HR := Aside0.mk Q_HR
          refine value_ (w1 := w') (v := .bool false) (by rfl) rfl ?_ ?_
          · go_simp
            (try simp only [i64_w])
            try rfl
          refine hK.out _ _ ⟨(by rw [ha.out]; exact putSel_upk 3 hb_ rfl rfl rfl), Q_HR⟩
        refine steps_cons ?_ ?_
        · rintro b a w' ⟨ha, Q_HR⟩ hb_ hon hoff
          refine ⟨_, rfl, fun K hK => ?_⟩
          have e9 : a.tmps[9]? = some (.pointer (some ⟨g9, 0, none⟩)) := by rw [ha]; exact (putSel_off rfl).trans rfl
          have e213 : a.tmps[213]? = some (.bool false) := by rw [ha]; exact putSel_on (e := (3, 213, .bool false)) 3 rfl rfl (hon 3 (by kernel_rfl)) rfl
          replace ha := Aside0.mk ha
          have HR := Aside0.mk Q_HR
          refine value_ (w1 := w') (v := .pointer (some ⟨g9, 2, none⟩)) (wanted_on rfl rfl rfl (e213.trans (by first | rfl | (simp [*]; done)))) rfl ?_ ?_
          · go_simp
            (try simp only [i64_w])
            try rfl
          refine hK.out _ _ ⟨(by rw [ha.out]; exact putSel_upk 4 hb_ rfl rfl rfl), Q_HR⟩
        refine steps_cons ?_ ?_
        · rintro b a w' ⟨ha, Q_HR⟩ hb_ hon hoff
          refine ⟨_, rfl, fun K hK => ?_⟩
          have e214 : a.tmps[214]? = some (.pointer (some ⟨g9, 2, none⟩)) := by rw [ha]; exact putSel_on (e := (4, 214, .pointer (some ⟨g9, 2, none⟩))) 4 rfl rfl (hon 4 (by kernel_rfl)) rfl
          have e213 : a.tmps[213]? = some (.bool false) := by rw [ha]; exact putSel_on (e := (3, 213, .bool false)) 3 rfl rfl (hon 3 (by kernel_rfl)) rfl
          replace ha := Aside0.mk ha
          have HR := Aside0.mk Q_HR
          have hl215_0 : w'.cell? ⟨g9, 2, none⟩ = some (.int .i64 ci) := (blk_cell (blk_below BK9.out HR.out) 2).trans rfl
          refine value_ (w1 := w') (v := .int .i64 ci) (wanted_on rfl rfl rfl (e213.trans (by first | rfl | (simp [*]; done)))) rfl ?_ ?_
          · go_simp
            (try simp only [i64_w])
            try rfl
          refine hK.out _ _ ⟨(by rw [ha.out]; exact putSel_upk 5 hb_ rfl rfl rfl), Q_HR⟩
        refine steps_cons ?_ ?_
        · rintro b a w' ⟨ha, Q_HR⟩ hb_ hon hoff
          refine ⟨_, rfl, fun K hK => ?_⟩
          have e13 : a.tmps[13]? = some (.pointer (some ⟨g13, 0, none⟩)) := by rw [ha]; exact (putSel_off rfl).trans rfl
          have e213 : a.tmps[213]? = some (.bool false) := by rw [ha]; exact putSel_on (e := (3, 213, .bool false)) 3 rfl rfl (hon 3 (by kernel_rfl)) rfl
          replace ha := Aside0.mk ha
          have HR := Aside0.mk Q_HR
          refine value_ (w1 := w') (v := .pointer (some ⟨g13, 5, none⟩)) (wanted_on rfl rfl rfl (e213.trans (by first | rfl | (simp [*]; done)))) rfl ?_ ?_
          · go_simp
            (try simp only [i64_w])
            try rfl
          refine hK.out _ _ ⟨(by rw [ha.out]; exact putSel_upk 6 hb_ rfl rfl rfl), Q_HR⟩
        refine steps_cons ?_ ?_
        · rintro b a w' ⟨ha, Q_HR⟩ hb_ hon hoff
          refine ⟨_, rfl, fun K hK => ?_⟩
          have e216 : a.tmps[216]? = some (.pointer (some ⟨g13, 5, none⟩)) := by rw [ha]; exact putSel_on (e := (6, 216, .pointer (some ⟨g13, 5, none⟩))) 6 rfl rfl (hon 6 (by kernel_rfl)) rfl
          have e213 : a.tmps[213]? = some (.bool false) := by rw [ha]; exact putSel_on (e := (3, 213, .bool false)) 3 rfl rfl (hon 3 (by kernel_rfl)) rfl
          replace ha := Aside0.mk ha
          have HR := Aside0.mk Q_HR
          have hl217_0 : w'.cell? ⟨g13, 5, none⟩ = some (.slice A5 m5 c5) := (blk_cell (blk_below BK13.out HR.out) 5).trans rfl
          refine value_ (w1 := w') (v := .slice A5 m5 c5) (wanted_on rfl rfl rfl (e213.trans (by first | rfl | (simp [*]; done)))) rfl ?_ ?_
          · go_simp
            (try simp only [i64_w])
            try rfl
          refine hK.out _ _ ⟨(by rw [ha.out]; exact putSel_upk 7 hb_ rfl rfl rfl), Q_HR⟩
        refine steps_cons ?_ ?_
        · rintro b a w' ⟨ha, Q_HR⟩ hb_ hon hoff
          refine ⟨_, rfl, fun K hK => ?_⟩
          have e217 : a.tmps[217]? = some (.slice A5 m5 c5) := by rw [ha]; exact putSel_on (e := (7, 217, .slice A5 m5 c5)) 7 rfl rfl (hon 7 (by kernel_rfl)) rfl
          have e213 : a.tmps[213]? = some (.bool false) := by rw [ha]; exact putSel_on (e := (3, 213, .bool false)) 3 rfl rfl (hon 3 (by kernel_rfl)) rfl
          replace ha := Aside0.mk ha
          have HR := Aside0.mk Q_HR
          refine value_ (w1 := w') (v := .int .i64 (m5 : Int)) (wanted_on rfl rfl rfl (e213.trans (by first | rfl | (simp [*]; done)))) rfl ?_ ?_
          · go_simp
            (try simp only [i64_w])
            try rfl
          refine hK.out _ _ ⟨(by rw [ha.out]; exact putSel_upk 8 hb_ rfl rfl rfl), Q_HR⟩
        refine steps_cons ?_ ?_
        · rintro b a w' ⟨ha, Q_HR⟩ hb_ hon hoff
          refine ⟨_, rfl, fun K hK => ?_⟩
          have e215 : a.tmps[215]? = some (.int .i64 ci) := by rw [ha]; exact putSel_on (e := (5, 215, .int .i64 ci)) 5 rfl rfl (hon 5 (by kernel_rfl)) rfl
          have e218 : a.tmps[218]? = some (.int .i64 (m5 : Int)) := by rw [ha]; exact putSel_on (e := (8, 218, .int .i64 (m5 : Int))) 8 rfl rfl (hon 8 (by kernel_rfl)) rfl
          have e213 : a.tmps[213]? = some (.bool false) := by rw [ha]; exact putSel_on (e := (3, 213, .bool false)) 3 rfl rfl (hon 3 (by kernel_rfl)) rfl
          replace ha := Aside0.mk ha
          have HR := Aside0.mk Q_HR
          refine value_ (w1 := w') (v := .bool true) (wanted_on rfl rfl rfl (e213.trans (by first | rfl | (simp [*]; done)))) rfl ?_ ?_
          · go_simp
            (try simp only [i64_w])
            try rfl
          refine hK.out _ _ ⟨(by rw [ha.out]; exact putSel_upk 9 hb_ rfl rfl rfl), Q_HR⟩
        refine steps_cons ?_ ?_
        · rintro b a w' ⟨ha, Q_HR⟩ hb_ hon hoff
          refine ⟨_, rfl, fun K hK => ?_⟩
          have e213 : a.tmps[213]? = some (.bool false) := by rw [ha]; exact putSel_on (e := (3, 213, .bool false)) 3 rfl rfl (hon 3 (by kernel_rfl)) rfl
          have e219 : a.tmps[219]? = some (.bool true) := by rw [ha]; exact putSel_on (e := (9, 219, .bool true)) 9 rfl rfl (hon 9 (by kernel_rfl)) rfl
          replace ha := Aside0.mk ha
          have HR := Aside0.mk Q_HR
          refine value_ (w1 := w') (v := .bool true) (by rfl) rfl ?_ ?_
          · go_simp
            (try simp only [i64_w])
            try rfl
          refine hK.out _ _ ⟨(by rw [ha.out]; exact putSel_upk 10 hb_ rfl rfl rfl), Q_HR⟩
        refine steps_cons ?_ ?_
        · rintro b a w' ⟨ha, Q_HR⟩ hb_ hon hoff
          refine ⟨_, rfl, fun K hK => ?_⟩
          have e220 : a.tmps[220]? = some (.bool true) := by rw [ha]; exact putSel_on (e := (10, 220, .bool true)) 10 rfl rfl (hon 10 (by kernel_rfl)) rfl
          replace ha := Aside0.mk ha
          have HR := Aside0.mk Q_HR
          refine value_ (w1 := w') (v := .bool true) (by rfl) rfl ?_ ?_
          · go_simp
            (try simp only [i64_w])
            try rfl
          refine hK.out _ _ ⟨(by rw [ha.out]; exact putSel_upk 11 hb_ rfl rfl rfl), Q_HR⟩
        refine steps_cons ?_ ?_
        · rintro b a w' ⟨ha, Q_HR⟩ hb_ hon hoff
          refine ⟨_, rfl, fun K hK => ?_⟩
          have e221 : a.tmps[221]? = some (.bool true) := by rw [ha]; exact putSel_on (e := (11, 221, .bool true)) 11 rfl rfl (hon 11 (by kernel_rfl)) rfl
          replace ha := Aside0.mk ha
          have HR := Aside0.mk Q_HR
          refine off_ (wanted_off rfl rfl rfl (e221.trans (by first | rfl | (simp [*]; done)))) ?_
          refine hK.out _ _ ⟨(by rw [ha.out]; exact putSel_upk 12 hb_ rfl rfl rfl), Q_HR⟩
        refine steps_cons ?_ ?_
        · rintro b a w' ⟨ha, Q_HR⟩ hb_ hon hoff
          refine ⟨_, rfl, fun K hK => ?_⟩
          have e221 : a.tmps[221]? = some (.bool true) := by rw [ha]; exact putSel_on (e := (11, 221, .bool true)) 11 rfl rfl (hon 11 (by kernel_rfl)) rfl
          replace ha := Aside0.mk ha
          have HR := Aside0.mk Q_HR
          refine off_ (wanted_off rfl rfl rfl (e221.trans (by first | rfl | (simp [*]; done)))) ?_
          refine hK.out _ _ ⟨(by rw [ha.out]; exact putSel_upk 13 hb_ rfl rfl rfl), Q_HR⟩
        refine steps_cons ?_ ?_
        · rintro b a w' ⟨ha, Q_HR⟩ hb_ hon hoff
          refine ⟨_, rfl, fun K hK => ?_⟩
          have e221 : a.tmps[221]? = some (.bool true) := by rw [ha]; exact putSel_on (e := (11, 221, .bool true)) 11 rfl rfl (hon 11 (by kernel_rfl)) rfl
          replace ha := Aside0.mk ha
          have HR := Aside0.mk Q_HR
          refine off_ (wanted_off rfl rfl rfl (e221.trans (by first | rfl | (simp [*]; done)))) ?_
          refine hK.out _ _ ⟨(by rw [ha.out]; exact putSel_upk 14 hb_ rfl rfl rfl), Q_HR⟩
        refine steps_cons ?_ ?_
        · rintro b a w' ⟨ha, Q_HR⟩ hb_ hon hoff
          refine ⟨_, rfl, fun K hK => ?_⟩
          have e221 : a.tmps[221]? = some (.bool true) := by rw [ha]; exact putSel_on (e := (11, 221, .bool true)) 11 rfl rfl (hon 11 (by kernel_rfl)) rfl
          replace ha := Aside0.mk ha
          have HR := Aside0.mk Q_HR
          refine off_ (wanted_off rfl rfl rfl (e221.trans (by first | rfl | (simp [*]; done)))) ?_
          refine hK.out _ _ ⟨(by rw [ha.out]; exact putSel_upk 15 hb_ rfl rfl rfl), Q_HR⟩
        refine steps_cons ?_ ?_
        · rintro b a w' ⟨ha, Q_HR⟩ hb_ hon hoff
          refine ⟨_, rfl, fun K hK => ?_⟩
          have e221 : a.tmps[221]? = some (.bool true) := by rw [ha]; exact putSel_on (e := (11, 221, .bool true)) 11 rfl rfl (hon 11 (by kernel_rfl)) rfl
          replace ha := Aside0.mk ha
          have HR := Aside0.mk Q_HR
          refine off_ (wanted_off rfl rfl rfl (e221.trans (by first | rfl | (simp [*]; done)))) ?_
          refine hK.out _ _ ⟨(by rw [ha.out]; exact putSel_upk 16 hb_ rfl rfl rfl), Q_HR⟩
        refine steps_cons ?_ ?_
        · rintro b a w' ⟨ha, Q_HR⟩ hb_ hon hoff
          refine ⟨_, rfl, fun K hK => ?_⟩
          have e221 : a.tmps[221]? = some (.bool true) := by rw [ha]; exact putSel_on (e := (11, 221, .bool true)) 11 rfl rfl (hon 11 (by kernel_rfl)) rfl
          replace ha := Aside0.mk ha
          have HR := Aside0.mk Q_HR
          refine off_ (wanted_off rfl rfl rfl (e221.trans (by first | rfl | (simp [*]; done)))) ?_
          refine hK.out _ _ ⟨(by rw [ha.out]; exact putSel_upk 17 hb_ rfl rfl rfl), Q_HR⟩
        refine steps_cons ?_ ?_
        · rintro b a w' ⟨ha, Q_HR⟩ hb_ hon hoff
          refine ⟨_, rfl, fun K hK => ?_⟩
          have e221 : a.tmps[221]? = some (.bool true) := by rw [ha]; exact putSel_on (e := (11, 221, .bool true)) 11 rfl rfl (hon 11 (by kernel_rfl)) rfl
          replace ha := Aside0.mk ha
          have HR := Aside0.mk Q_HR
          refine off_ (wanted_off rfl rfl rfl (e221.trans (by first | rfl | (simp [*]; done)))) ?_
          refine hK.out _ _ ⟨(by rw [ha.out]; exact putSel_upk 18 hb_ rfl rfl rfl), Q_HR⟩
        refine steps_cons ?_ ?_
        · rintro b a w' ⟨ha, Q_HR⟩ hb_ hon hoff
          refine ⟨_, rfl, fun K hK => ?_⟩
          have e221 : a.tmps[221]? = some (.bool true) := by rw [ha]; exact putSel_on (e := (11, 221, .bool true)) 11 rfl rfl (hon 11 (by kernel_rfl)) rfl
          replace ha := Aside0.mk ha
          have HR := Aside0.mk Q_HR
          refine off_ (wanted_off rfl rfl rfl (e221.trans (by first | rfl | (simp [*]; done)))) ?_
          refine hK.out _ _ ⟨(by rw [ha.out]; exact putSel_upk 19 hb_ rfl rfl rfl), Q_HR⟩
        refine steps_cons ?_ ?_
        · rintro b a w' ⟨ha, Q_HR⟩ hb_ hon hoff
          refine ⟨_, rfl, fun K hK => ?_⟩
          have e221 : a.tmps[221]? = some (.bool true) := by rw [ha]; exact putSel_on (e := (11, 221, .bool true)) 11 rfl rfl (hon 11 (by kernel_rfl)) rfl
          replace ha := Aside0.mk ha
          have HR := Aside0.mk Q_HR
          refine off_ (wanted_off rfl rfl rfl (e221.trans (by first | rfl | (simp [*]; done)))) ?_
          refine hK.out _ _ ⟨(by rw [ha.out]; exact putSel_upk 20 hb_ rfl rfl rfl), Q_HR⟩
        refine steps_cons ?_ ?_
        · rintro b a w' ⟨ha, Q_HR⟩ hb_ hon hoff
          refine ⟨_, rfl, fun K hK => ?_⟩
          have e221 : a.tmps[221]? = some (.bool true) := by rw [ha]; exact putSel_on (e := (11, 221, .bool true)) 11 rfl rfl (hon 11 (by kernel_rfl)) rfl
          have e230 : a.tmps[230]? = some (undef) := by rw [ha]; exact putSel_on (e := (20, 230, undef)) 20 rfl rfl (hon 20 (by kernel_rfl)) rfl
          replace ha := Aside0.mk ha
          have HR := Aside0.mk Q_HR
          refine value_ (w1 := w') (v := .bool true) (by rfl) rfl ?_ ?_
          · go_simp
            (try simp only [i64_w])
            try rfl
          refine hK.out _ _ ⟨(by rw [ha.out]; exact putSel_upk 21 hb_ rfl rfl rfl), Q_HR⟩
        exact steps_nil
      rintro b a wq hall ⟨ha, Q_HR⟩
      clear HR
      have hb0_ := hall 0 (by kernel_rfl)
      have hb1_ := hall 1 (by kernel_rfl)
      have hb2_ := hall 2 (by kernel_rfl)
      have hb3_ := hall 3 (by kernel_rfl)
      have hb4_ := hall 4 (by kernel_rfl)
      have hb5_ := hall 5 (by kernel_rfl)
      have hb6_ := hall 6 (by kernel_rfl)
      have hb7_ := hall 7 (by kernel_rfl)
      have hb8_ := hall 8 (by kernel_rfl)
      have hb9_ := hall 9 (by kernel_rfl)
      have hb10_ := hall 10 (by kernel_rfl)
      have hb11_ := hall 11 (by kernel_rfl)
      have hb12_ := hall 12 (by kernel_rfl)
      have hb13_ := hall 13 (by kernel_rfl)
      have hb14_ := hall 14 (by kernel_rfl)
      have hb15_ := hall 15 (by kernel_rfl)
      have hb16_ := hall 16 (by kernel_rfl)
      have hb17_ := hall 17 (by kernel_rfl)
      have hb18_ := hall 18 (by kernel_rfl)
      have hb19_ := hall 19 (by kernel_rfl)
      have hb20_ := hall 20 (by kernel_rfl)
      have hb21_ := hall 21 (by kernel_rfl)
      subst ha
      simp only [putSel, hb0_, hb1_, hb2_, hb3_, hb4_, hb5_, hb6_, hb7_, hb8_, hb9_, hb10_, hb11_, hb12_, hb13_, hb14_, hb15_, hb16_, hb17_, hb18_, hb19_, hb20_, hb21_, if_true, Act.put, List.setIfInBounds_toArray, List.set_cons_zero, List.set_cons_succ]
      have HR := Aside0.mk Q_HR
      clear Q_HR
      clear hall hb0_ hb1_ hb2_ hb3_ hb4_ hb5_ hb6_ hb7_ hb8_ hb9_ hb10_ hb11_ hb12_ hb13_ hb14_ hb15_ hb16_ hb17_ hb18_ hb19_ hb20_ hb21_
      have HS2 := Aside0.mk (HS0.out.to (below_step HBW.out HR.out))
      have HRES := Aside0.mk HS2.out.res
      have HRES4 := Aside0.mk HS2.out.res4
      have HRB := Aside0.mk HS2.out.hb
      have hx4_0 : wq.cell? ⟨g4, 0, none⟩ = some (.slice none 0 0) := (blk_cell HRES.out 0).trans rfl
      have hx4_1 : wq.cell? ⟨g4, 1, none⟩ = some (.slice none 0 0) := (blk_cell HRES.out 1).trans rfl
      have hy4_0 := blk_frozen HRES.out 0
      have hy4_1 := blk_frozen HRES.out 1
      go_wp2
      exact .inl ⟨rfl, HNO.out, ⟨rfl, rfl, rfl, rfl⟩, blk_put (blk_put HRES.out 0 _ rfl) 1 _ rfl, below_set (below_set HRB.out HRES4.out) HRES4.out⟩
end Go.Proofs.Ytekggbmajemmhaa.Gr
