/- Parts of one proof, set together: Ap13. What each says stands at its head; no condition beyond theirs. -/
import Derived.Test.YtekggbmajemmhaaDa15
/- The document's Apply: the codes of its pieces; a change of a root. Conditions: the state lies in memory. -/
namespace Go.Proofs.Ytekggbmajemmhaa.Gr
open Go.RowKit Go.Shelf Go.Maps Go.ChangeMaps Go.MapKept Go.Proofs.YtekggbmajemmhaaW.PrintWords Go.Proofs.YtekggbmajemmhaaW.PrintLast Go.Proofs.YtekggbmajemmhaaW.PrintMore
set_option linter.unusedSimpArgs false
set_option linter.unusedVariables false
noncomputable def cLoop : Code := lft (rgt (lft (rgt (rgt (rgt c10)))))
noncomputable def cL : Code := lft cLoop
noncomputable def cBody : Code := lft (lft (rgt cL))
noncomputable def cP1 : Code := lft (rgt cBody)
noncomputable def cT1 : Code := rgt (rgt cBody)
noncomputable def cP2 : Code := lft (rgt (rgt cT1))
noncomputable def cT2 : Code := rgt (rgt (rgt cT1))
noncomputable def cP3 : Code := lft cT2
noncomputable def cT3 : Code := rgt cT2
noncomputable def cP4 : Code := lft cT3
noncomputable def cT4 : Code := rgt cT3
noncomputable def cT5 : Code := rgt cT4
noncomputable def cP6 : Code := lft cT5
noncomputable def cP7 : Code := lft (rgt cT5)
noncomputable def cR43 : Code := rgt (rgt cT5)
set_option maxRecDepth 100000 in
theorem cLoop_eq : cLoop = .loop cL := by kernel_rfl
set_option maxRecDepth 100000 in
theorem cL_eq : cL = .seq (lft cL) (.seq (.block 1 cBody) (rgt (rgt cL))) := by kernel_rfl
set_option maxRecDepth 100000 in
theorem cBody_eq : cBody = .seq (lft cBody) (.seq cP1 cT1) := by kernel_rfl
set_option maxRecDepth 100000 in
theorem cT1_eq : cT1 = .seq (lft cT1) (.seq (lft (rgt cT1)) (.seq cP2 cT2)) := by kernel_rfl
set_option maxRecDepth 100000 in
theorem cT2_eq : cT2 = .seq cP3 (.seq cP4 (.seq (lft cT4) (.seq cP6 (.seq cP7 cR43)))) := by kernel_rfl
/-- What the first piece leaves. -/
def P1Out (wb W : World) (g4 g9 i : Nat) (y vt vn : Value) (R : List Int) (M : List Nd) (ck ca ci cw cs : Int) (e : Exit) (a : Act) (w : World) : Prop :=
  (¬ (ck = 4 ∧ ca = 0) ∧ e = .normal ∧ w = W ∧ Fr a [(1, y), (4, .pointer (some ⟨g4, 0, none⟩)), (5, .bool false), (6, vt), (7, vn), (8, .int .i64 (i : Int)), (9, .pointer (some ⟨g9, 0, none⟩))]) ∨ ((ck = 4 ∧ ca = 0) ∧ BodyOut wb g4 i y R M ⟨ck, ca, ci, cw, cs⟩ e a w ∧ e ≠ .normal)
def r8.T8 : Bool × List (List Nat × List Nat) := (true, [([], []), ([0], [0]), ([1], [1]), ([2], [2]), ([3], [3]), ([4, 3], [3, 4]), ([3], [3]), ([6, 3], [3, 6]), ([5, 7, 3], [3, 5, 7]), ([3, 8], [3, 8]), ([9, 3], [9]), ([10], [10]), ([10], [10]), ([12, 10], [10, 12]), ([11, 13, 10], [10, 11, 13]), ([14, 10], [10, 14]), ([15, 10], [10, 15]), ([10], [10]), ([17, 10], [10, 17]), ([16, 18, 10], [10, 16, 18]), ([10, 19], [10, 19])])
def r8.B8 : List Nat := [0, 1, 3, 7, 15, 31, 15, 79, 255, 511, 1023, 2047, 2047, 6143, 16383, 32767, 65535, 2047, 133119, 524287, 1048575]
theorem r8.tab8 : rtab .any (opsOf Try.f10 8) = r8.T8 := by kernel_rfl
theorem r8.bits8 : waitsOk r8.T8.2 r8.B8 = true := by kernel_rfl
set_option maxHeartbeats 16000000 in
set_option maxRecDepth 100000 in
theorem p1_wp (wb W : World) (g4 g9 i : Nat) (y vt vn : Value) (R : List Int) (M : List Nd) (ck ca ci cw cs : Int) (HS : Aside0 (RS wb W g4 vt vn R M)) (BK9 : Aside0 (W.heap[g9]? = some (.cells #[.int .i64 ck, .int .i64 ca, .int .i64 ci, .int .u64 cw, .int .u64 cs] 44 (0, 0)))) (a : Act) (hf : Fr a [(1, y), (4, .pointer (some ⟨g4, 0, none⟩)), (5, .bool false), (6, vt), (7, vn), (8, .int .i64 (i : Int)), (9, .pointer (some ⟨g9, 0, none⟩))]) : Code.wp Try.prog cP1 (P1Out wb W g4 g9 i y vt vn R M ck ca ci cw cs) a W := by
  obtain ⟨hf1, hf4, hf5, hf6, hf7, hf8, hf9, hd_, hs_⟩ := hf
  obtain ⟨u, hu, ha_⟩ := frame_open a hd_ hs_
  have hv1 := (hu 1).symm.trans hf1
  have hv4 := (hu 4).symm.trans hf4
  have hv5 := (hu 5).symm.trans hf5
  have hv6 := (hu 6).symm.trans hf6
  have hv7 := (hu 7).symm.trans hf7
  have hv8 := (hu 8).symm.trans hf8
  have hv9 := (hu 9).symm.trans hf9
  clear hd_ hs_ hu hf1 hf4 hf5 hf6 hf7 hf8 hf9
  subst ha_
  simp only [hv1, hv4, hv5, hv6, hv7, hv8, hv9]
  clear hv1 hv4 hv5 hv6 hv7 hv8 hv9
  have hx9_0 : W.cell? ⟨g9, 0, none⟩ = some (.int .i64 ck) := (blk_cell BK9.out 0).trans rfl
  have hx9_1 : W.cell? ⟨g9, 1, none⟩ = some (.int .i64 ca) := (blk_cell BK9.out 1).trans rfl
  have hx9_2 : W.cell? ⟨g9, 2, none⟩ = some (.int .i64 ci) := (blk_cell BK9.out 2).trans rfl
  have hx9_3 : W.cell? ⟨g9, 3, none⟩ = some (.int .u64 cw) := (blk_cell BK9.out 3).trans rfl
  have hx9_4 : W.cell? ⟨g9, 4, none⟩ = some (.int .u64 cs) := (blk_cell BK9.out 4).trans rfl
  by_cases hk : ck = 4
  · subst hk
    by_cases ha : ca = 0
    · subst ha
      have hR40 := HS.out.len
      obtain ⟨n, hn⟩ : ∃ n, n = R.length := ⟨_, rfl⟩
      obtain ⟨A0, c0, e0⟩ : ∃ A0 c0, vt = .slice A0 R.length c0 := by
        rcases HS.out.tops.2 with ⟨e, h0⟩ | ⟨g, cap, cur, e, _⟩
        · exact ⟨none, 0, by rw [h0]; exact e⟩
        · exact ⟨_, cap, e⟩
      subst e0
      rw [← hn] at hR40
      have HN := Aside0.mk hn
      rw [← hn]
      by_cases h1 : ci < 0
      · have hd1 : decide (ci < 0) = true := decide_eq_true h1
        have HNO := Aside0.mk (show applyP (R, M.map Nd.pn) (⟨4, 0, ci, cw, cs⟩ : Ch) = none by rw [applyP_root, show chgS R ⟨4, 0, ci, cw, cs⟩ = none from if_neg (fun h => by have := h.1; simp only at this; omega)]; rfl)
        clear hn
        conv => arg 2; whnf
        go_upto_region 8 with fail
        have HR := Aside0.mk (Below.refl W.heap.size W)
        refine start_ (n := 21) (S := fun w' => True) (ds := []) #[false, false, false, false, false, false, false, false, false, false, false, false, false, false, false, false, false, false, false, false, false] (by kernel_rfl) rfl rfl trivial (fun hHeld => ?_)
        refine with_tabW r8.tab8 r8.bits8 (fun HT_ HW_ => ?_)
        refine inv_at [0, 1, 2, 3, 4, 5, 6, 7, 8, 9, 10, 11, 12, 13, 14, 15, 16, 17, 18, 19, 20] (fun a0_ b a w' => a = putSel a0_ b [(0, 39, .pointer (some ⟨g9, 2, none⟩)), (1, 40, .int .i64 ci), (2, 41, .bool true), (3, 42, .bool true), (4, 43, undef), (5, 44, undef), (6, 45, undef), (7, 46, undef), (8, 47, undef), (9, 48, .bool true), (10, 49, .bool true), (11, 50, undef), (12, 51, undef), (13, 52, undef), (14, 53, undef), (15, 54, undef), (16, 55, undef), (17, 56, undef), (18, 57, undef), (19, 58, undef), (20, 59, .bool true)] ∧ (Below W.heap.size W w')) HT_.out HW_.out (by kernel_rfl) (by kernel_rfl) ?_ ?_ ?_
        · exact ⟨by simp only [putSel, Bool.false_eq_true, if_false], below_drew1 HR.out⟩
        · skip
          clear HR
          refine steps_cons ?_ ?_
          · rintro b a w' ⟨ha, Q_HR⟩ hb_ hon hoff
            refine ⟨_, rfl, fun K hK => ?_⟩
            have e9 : a.tmps[9]? = some (.pointer (some ⟨g9, 0, none⟩)) := by rw [ha]; exact (putSel_off rfl).trans rfl
            replace ha := Aside0.mk ha
            have HR := Aside0.mk Q_HR
            refine value_ (w1 := w') (v := .pointer (some ⟨g9, 2, none⟩)) (by rfl) rfl ?_ ?_
            · go_simp
              (try simp only [i64_w])
              try rfl
            refine hK.out _ _ ⟨(by rw [ha.out]; exact putSel_upk 0 hb_ rfl rfl rfl), Q_HR⟩
          refine steps_cons ?_ ?_
          · rintro b a w' ⟨ha, Q_HR⟩ hb_ hon hoff
            refine ⟨_, rfl, fun K hK => ?_⟩
            have e39 : a.tmps[39]? = some (.pointer (some ⟨g9, 2, none⟩)) := by rw [ha]; exact putSel_on (e := (0, 39, .pointer (some ⟨g9, 2, none⟩))) 0 rfl rfl (hon 0 (by kernel_rfl)) rfl
            replace ha := Aside0.mk ha
            have HR := Aside0.mk Q_HR
            have hl40_0 : w'.cell? ⟨g9, 2, none⟩ = some (.int .i64 ci) := (blk_cell (blk_below BK9.out HR.out) 2).trans rfl
            refine value_ (w1 := w') (v := .int .i64 ci) (by rfl) rfl ?_ ?_
            · go_simp
              (try simp only [i64_w])
              try rfl
            refine hK.out _ _ ⟨(by rw [ha.out]; exact putSel_upk 1 hb_ rfl rfl rfl), Q_HR⟩
          refine steps_cons ?_ ?_
          · rintro b a w' ⟨ha, Q_HR⟩ hb_ hon hoff
            refine ⟨_, rfl, fun K hK => ?_⟩
            have e40 : a.tmps[40]? = some (.int .i64 ci) := by rw [ha]; exact putSel_on (e := (1, 40, .int .i64 ci)) 1 rfl rfl (hon 1 (by kernel_rfl)) rfl
            replace ha := Aside0.mk ha
            have HR := Aside0.mk Q_HR
            refine value_ (w1 := w') (v := .bool true) (by rfl) rfl ?_ ?_
            · go_simp
              (try simp only [i64_w])
              try rfl
            refine hK.out _ _ ⟨(by rw [ha.out]; exact putSel_upk 2 hb_ rfl rfl rfl), Q_HR⟩
          refine steps_cons ?_ ?_
          · rintro b a w' ⟨ha, Q_HR⟩ hb_ hon hoff
            refine ⟨_, rfl, fun K hK => ?_⟩
            have e41 : a.tmps[41]? = some (.bool true) := by rw [ha]; exact putSel_on (e := (2, 41, .bool true)) 2 rfl rfl (hon 2 (by kernel_rfl)) rfl
            replace ha := Aside0.mk ha
            have HR := Aside0.mk Q_HR
            refine value_ (w1 := w') (v := .bool true) (by rfl) rfl ?_ ?_
            · go_simp
              (try simp only [i64_w])
              try rfl
            refine hK.out _ _ ⟨(by rw [ha.out]; exact putSel_upk 3 hb_ rfl rfl rfl), Q_HR⟩
          refine steps_cons ?_ ?_
          · rintro b a w' ⟨ha, Q_HR⟩ hb_ hon hoff
            refine ⟨_, rfl, fun K hK => ?_⟩
            have e42 : a.tmps[42]? = some (.bool true) := by rw [ha]; exact putSel_on (e := (3, 42, .bool true)) 3 rfl rfl (hon 3 (by kernel_rfl)) rfl
            replace ha := Aside0.mk ha
            have HR := Aside0.mk Q_HR
            refine off_ (wanted_off rfl rfl rfl (e42.trans (by first | rfl | (simp [*]; done)))) ?_
            refine hK.out _ _ ⟨(by rw [ha.out]; exact putSel_upk 4 hb_ rfl rfl rfl), Q_HR⟩
          refine steps_cons ?_ ?_
          · rintro b a w' ⟨ha, Q_HR⟩ hb_ hon hoff
            refine ⟨_, rfl, fun K hK => ?_⟩
            have e42 : a.tmps[42]? = some (.bool true) := by rw [ha]; exact putSel_on (e := (3, 42, .bool true)) 3 rfl rfl (hon 3 (by kernel_rfl)) rfl
            replace ha := Aside0.mk ha
            have HR := Aside0.mk Q_HR
            refine off_ (wanted_off rfl rfl rfl (e42.trans (by first | rfl | (simp [*]; done)))) ?_
            refine hK.out _ _ ⟨(by rw [ha.out]; exact putSel_upk 5 hb_ rfl rfl rfl), Q_HR⟩
          refine steps_cons ?_ ?_
          · rintro b a w' ⟨ha, Q_HR⟩ hb_ hon hoff
            refine ⟨_, rfl, fun K hK => ?_⟩
            have e42 : a.tmps[42]? = some (.bool true) := by rw [ha]; exact putSel_on (e := (3, 42, .bool true)) 3 rfl rfl (hon 3 (by kernel_rfl)) rfl
            replace ha := Aside0.mk ha
            have HR := Aside0.mk Q_HR
            refine off_ (wanted_off rfl rfl rfl (e42.trans (by first | rfl | (simp [*]; done)))) ?_
            refine hK.out _ _ ⟨(by rw [ha.out]; exact putSel_upk 6 hb_ rfl rfl rfl), Q_HR⟩
          refine steps_cons ?_ ?_
          · rintro b a w' ⟨ha, Q_HR⟩ hb_ hon hoff
            refine ⟨_, rfl, fun K hK => ?_⟩
            have e42 : a.tmps[42]? = some (.bool true) := by rw [ha]; exact putSel_on (e := (3, 42, .bool true)) 3 rfl rfl (hon 3 (by kernel_rfl)) rfl
            replace ha := Aside0.mk ha
            have HR := Aside0.mk Q_HR
            refine off_ (wanted_off rfl rfl rfl (e42.trans (by first | rfl | (simp [*]; done)))) ?_
            refine hK.out _ _ ⟨(by rw [ha.out]; exact putSel_upk 7 hb_ rfl rfl rfl), Q_HR⟩
          refine steps_cons ?_ ?_
          · rintro b a w' ⟨ha, Q_HR⟩ hb_ hon hoff
            refine ⟨_, rfl, fun K hK => ?_⟩
            have e42 : a.tmps[42]? = some (.bool true) := by rw [ha]; exact putSel_on (e := (3, 42, .bool true)) 3 rfl rfl (hon 3 (by kernel_rfl)) rfl
            replace ha := Aside0.mk ha
            have HR := Aside0.mk Q_HR
            refine off_ (wanted_off rfl rfl rfl (e42.trans (by first | rfl | (simp [*]; done)))) ?_
            refine hK.out _ _ ⟨(by rw [ha.out]; exact putSel_upk 8 hb_ rfl rfl rfl), Q_HR⟩
          refine steps_cons ?_ ?_
          · rintro b a w' ⟨ha, Q_HR⟩ hb_ hon hoff
            refine ⟨_, rfl, fun K hK => ?_⟩
            have e42 : a.tmps[42]? = some (.bool true) := by rw [ha]; exact putSel_on (e := (3, 42, .bool true)) 3 rfl rfl (hon 3 (by kernel_rfl)) rfl
            have e47 : a.tmps[47]? = some (undef) := by rw [ha]; exact putSel_on (e := (8, 47, undef)) 8 rfl rfl (hon 8 (by kernel_rfl)) rfl
            replace ha := Aside0.mk ha
            have HR := Aside0.mk Q_HR
            refine value_ (w1 := w') (v := .bool true) (by rfl) rfl ?_ ?_
            · go_simp
              (try simp only [i64_w])
              try rfl
            refine hK.out _ _ ⟨(by rw [ha.out]; exact putSel_upk 9 hb_ rfl rfl rfl), Q_HR⟩
          refine steps_cons ?_ ?_
          · rintro b a w' ⟨ha, Q_HR⟩ hb_ hon hoff
            refine ⟨_, rfl, fun K hK => ?_⟩
            have e48 : a.tmps[48]? = some (.bool true) := by rw [ha]; exact putSel_on (e := (9, 48, .bool true)) 9 rfl rfl (hon 9 (by kernel_rfl)) rfl
            replace ha := Aside0.mk ha
            have HR := Aside0.mk Q_HR
            refine value_ (w1 := w') (v := .bool true) (by rfl) rfl ?_ ?_
            · go_simp
              (try simp only [i64_w])
              try rfl
            refine hK.out _ _ ⟨(by rw [ha.out]; exact putSel_upk 10 hb_ rfl rfl rfl), Q_HR⟩
          refine steps_cons ?_ ?_
          · rintro b a w' ⟨ha, Q_HR⟩ hb_ hon hoff
            refine ⟨_, rfl, fun K hK => ?_⟩
            have e49 : a.tmps[49]? = some (.bool true) := by rw [ha]; exact putSel_on (e := (10, 49, .bool true)) 10 rfl rfl (hon 10 (by kernel_rfl)) rfl
            replace ha := Aside0.mk ha
            have HR := Aside0.mk Q_HR
            refine off_ (wanted_off rfl rfl rfl (e49.trans (by first | rfl | (simp [*]; done)))) ?_
            refine hK.out _ _ ⟨(by rw [ha.out]; exact putSel_upk 11 hb_ rfl rfl rfl), Q_HR⟩
          refine steps_cons ?_ ?_
          · rintro b a w' ⟨ha, Q_HR⟩ hb_ hon hoff
            refine ⟨_, rfl, fun K hK => ?_⟩
            have e49 : a.tmps[49]? = some (.bool true) := by rw [ha]; exact putSel_on (e := (10, 49, .bool true)) 10 rfl rfl (hon 10 (by kernel_rfl)) rfl
            replace ha := Aside0.mk ha
            have HR := Aside0.mk Q_HR
            refine off_ (wanted_off rfl rfl rfl (e49.trans (by first | rfl | (simp [*]; done)))) ?_
            refine hK.out _ _ ⟨(by rw [ha.out]; exact putSel_upk 12 hb_ rfl rfl rfl), Q_HR⟩
          refine steps_cons ?_ ?_
          · rintro b a w' ⟨ha, Q_HR⟩ hb_ hon hoff
            refine ⟨_, rfl, fun K hK => ?_⟩
            have e49 : a.tmps[49]? = some (.bool true) := by rw [ha]; exact putSel_on (e := (10, 49, .bool true)) 10 rfl rfl (hon 10 (by kernel_rfl)) rfl
            replace ha := Aside0.mk ha
            have HR := Aside0.mk Q_HR
            refine off_ (wanted_off rfl rfl rfl (e49.trans (by first | rfl | (simp [*]; done)))) ?_
            refine hK.out _ _ ⟨(by rw [ha.out]; exact putSel_upk 13 hb_ rfl rfl rfl), Q_HR⟩
          refine steps_cons ?_ ?_
          · rintro b a w' ⟨ha, Q_HR⟩ hb_ hon hoff
            refine ⟨_, rfl, fun K hK => ?_⟩
            have e49 : a.tmps[49]? = some (.bool true) := by rw [ha]; exact putSel_on (e := (10, 49, .bool true)) 10 rfl rfl (hon 10 (by kernel_rfl)) rfl
            replace ha := Aside0.mk ha
            have HR := Aside0.mk Q_HR
            refine off_ (wanted_off rfl rfl rfl (e49.trans (by first | rfl | (simp [*]; done)))) ?_
            refine hK.out _ _ ⟨(by rw [ha.out]; exact putSel_upk 14 hb_ rfl rfl rfl), Q_HR⟩
          refine steps_cons ?_ ?_
          · rintro b a w' ⟨ha, Q_HR⟩ hb_ hon hoff
            refine ⟨_, rfl, fun K hK => ?_⟩
            have e49 : a.tmps[49]? = some (.bool true) := by rw [ha]; exact putSel_on (e := (10, 49, .bool true)) 10 rfl rfl (hon 10 (by kernel_rfl)) rfl
            replace ha := Aside0.mk ha
            have HR := Aside0.mk Q_HR
            refine off_ (wanted_off rfl rfl rfl (e49.trans (by first | rfl | (simp [*]; done)))) ?_
            refine hK.out _ _ ⟨(by rw [ha.out]; exact putSel_upk 15 hb_ rfl rfl rfl), Q_HR⟩
          refine steps_cons ?_ ?_
          · rintro b a w' ⟨ha, Q_HR⟩ hb_ hon hoff
            refine ⟨_, rfl, fun K hK => ?_⟩
            have e49 : a.tmps[49]? = some (.bool true) := by rw [ha]; exact putSel_on (e := (10, 49, .bool true)) 10 rfl rfl (hon 10 (by kernel_rfl)) rfl
            replace ha := Aside0.mk ha
            have HR := Aside0.mk Q_HR
            refine off_ (wanted_off rfl rfl rfl (e49.trans (by first | rfl | (simp [*]; done)))) ?_
            refine hK.out _ _ ⟨(by rw [ha.out]; exact putSel_upk 16 hb_ rfl rfl rfl), Q_HR⟩
          refine steps_cons ?_ ?_
          · rintro b a w' ⟨ha, Q_HR⟩ hb_ hon hoff
            refine ⟨_, rfl, fun K hK => ?_⟩
            have e49 : a.tmps[49]? = some (.bool true) := by rw [ha]; exact putSel_on (e := (10, 49, .bool true)) 10 rfl rfl (hon 10 (by kernel_rfl)) rfl
            replace ha := Aside0.mk ha
            have HR := Aside0.mk Q_HR
            refine off_ (wanted_off rfl rfl rfl (e49.trans (by first | rfl | (simp [*]; done)))) ?_
            refine hK.out _ _ ⟨(by rw [ha.out]; exact putSel_upk 17 hb_ rfl rfl rfl), Q_HR⟩
          refine steps_cons ?_ ?_
          · rintro b a w' ⟨ha, Q_HR⟩ hb_ hon hoff
            refine ⟨_, rfl, fun K hK => ?_⟩
            have e49 : a.tmps[49]? = some (.bool true) := by rw [ha]; exact putSel_on (e := (10, 49, .bool true)) 10 rfl rfl (hon 10 (by kernel_rfl)) rfl
            replace ha := Aside0.mk ha
            have HR := Aside0.mk Q_HR
            refine off_ (wanted_off rfl rfl rfl (e49.trans (by first | rfl | (simp [*]; done)))) ?_
            refine hK.out _ _ ⟨(by rw [ha.out]; exact putSel_upk 18 hb_ rfl rfl rfl), Q_HR⟩
          refine steps_cons ?_ ?_
          · rintro b a w' ⟨ha, Q_HR⟩ hb_ hon hoff
            refine ⟨_, rfl, fun K hK => ?_⟩
            have e49 : a.tmps[49]? = some (.bool true) := by rw [ha]; exact putSel_on (e := (10, 49, .bool true)) 10 rfl rfl (hon 10 (by kernel_rfl)) rfl
            replace ha := Aside0.mk ha
            have HR := Aside0.mk Q_HR
            refine off_ (wanted_off rfl rfl rfl (e49.trans (by first | rfl | (simp [*]; done)))) ?_
            refine hK.out _ _ ⟨(by rw [ha.out]; exact putSel_upk 19 hb_ rfl rfl rfl), Q_HR⟩
          refine steps_cons ?_ ?_
          · rintro b a w' ⟨ha, Q_HR⟩ hb_ hon hoff
            refine ⟨_, rfl, fun K hK => ?_⟩
            have e49 : a.tmps[49]? = some (.bool true) := by rw [ha]; exact putSel_on (e := (10, 49, .bool true)) 10 rfl rfl (hon 10 (by kernel_rfl)) rfl
            have e58 : a.tmps[58]? = some (undef) := by rw [ha]; exact putSel_on (e := (19, 58, undef)) 19 rfl rfl (hon 19 (by kernel_rfl)) rfl
            replace ha := Aside0.mk ha
            have HR := Aside0.mk Q_HR
            refine value_ (w1 := w') (v := .bool true) (by rfl) rfl ?_ ?_
            · go_simp
              (try simp only [i64_w])
              try rfl
            refine hK.out _ _ ⟨(by rw [ha.out]; exact putSel_upk 20 hb_ rfl rfl rfl), Q_HR⟩
          exact steps_nil
        rintro b a wq hall ⟨ha, Q_HR⟩
        clear HR
        have hb0_ := hall 0 (by kernel_rfl)
        have hb1_ := hall 1 (by kernel_rfl)
        have hb2_ := hall 2 (by kernel_rfl)
        have hb3_ := hall 3 (by kernel_rfl)
        have hb4_ := hall 4 (by kernel_rfl)
        have hb5_ := hall 5 (by kernel_rfl)
        have hb6_ := hall 6 (by kernel_rfl)
        have hb7_ := hall 7 (by kernel_rfl)
        have hb8_ := hall 8 (by kernel_rfl)
        have hb9_ := hall 9 (by kernel_rfl)
        have hb10_ := hall 10 (by kernel_rfl)
        have hb11_ := hall 11 (by kernel_rfl)
        have hb12_ := hall 12 (by kernel_rfl)
        have hb13_ := hall 13 (by kernel_rfl)
        have hb14_ := hall 14 (by kernel_rfl)
        have hb15_ := hall 15 (by kernel_rfl)
        have hb16_ := hall 16 (by kernel_rfl)
        have hb17_ := hall 17 (by kernel_rfl)
        have hb18_ := hall 18 (by kernel_rfl)
        have hb19_ := hall 19 (by kernel_rfl)
        have hb20_ := hall 20 (by kernel_rfl)
        subst ha
        simp only [putSel, hb0_, hb1_, hb2_, hb3_, hb4_, hb5_, hb6_, hb7_, hb8_, hb9_, hb10_, hb11_, hb12_, hb13_, hb14_, hb15_, hb16_, hb17_, hb18_, hb19_, hb20_, if_true, Act.put, List.setIfInBounds_toArray, List.set_cons_zero, List.set_cons_succ]
        have HR := Aside0.mk Q_HR
        clear Q_HR
        clear hall hb0_ hb1_ hb2_ hb3_ hb4_ hb5_ hb6_ hb7_ hb8_ hb9_ hb10_ hb11_ hb12_ hb13_ hb14_ hb15_ hb16_ hb17_ hb18_ hb19_ hb20_
        have HS2 := Aside0.mk (HS.out.to HR.out)
        have HRES := Aside0.mk HS2.out.res
        have HRES4 := Aside0.mk HS2.out.res4
        have HRB := Aside0.mk HS2.out.hb
        have hx4_0 : wq.cell? ⟨g4, 0, none⟩ = some (.slice none 0 0) := (blk_cell HRES.out 0).trans rfl
        have hx4_1 : wq.cell? ⟨g4, 1, none⟩ = some (.slice none 0 0) := (blk_cell HRES.out 1).trans rfl
        have hy4_0 := blk_frozen HRES.out 0
        have hy4_1 := blk_frozen HRES.out 1
        go_wp2
        exact .inr ⟨⟨rfl, rfl⟩, .inl ⟨rfl, HNO.out, ⟨rfl, rfl, rfl, rfl⟩, blk_put (blk_put HRES.out 0 _ rfl) 1 _ rfl, below_set (below_set HRB.out HRES4.out) HRES4.out⟩, nofun⟩
      · have hd1 : decide (ci < 0) = false := decide_eq_false h1
        by_cases h2 : ci < (n : Int)
        · obtain ⟨k, rfl⟩ : ∃ k : Nat, ci = (k : Int) := ⟨ci.toNat, by omega⟩
          have hkn : k < n := by omega
          have hkR : k < R.length := by omega
          obtain ⟨gt, c1, e1⟩ := row1_some (Nat.lt_of_le_of_lt (Nat.zero_le _) hkR) HS.out.tops
          cases e1
          obtain ⟨x, hx⟩ : ∃ x, x = R.getD k 0 := ⟨_, rfl⟩
          have hyc := HS.out.tops.cellAt k (by rw [Nat.mul_one]; exact hkR)
          rw [List.getElem?_map, getD_at hkR, ← hx] at hyc
          replace hyc : W.cell? ⟨gt, k, none⟩ = some (.int .i64 x) := hyc
          have hi0 : (0 : Int) ≤ (k : Int) := by omega
          have hi1 : (k : Int) < (n : Int) := by omega
          have hd2 : decide ((k : Int) ≥ (n : Int)) = false := decide_eq_false (by omega)
          have hd2' : decide ((n : Int) ≤ (k : Int)) = false := decide_eq_false (by omega)
          obtain ⟨bb, hbb⟩ : ∃ b, (IntKind.u64.wrap x != cw) = b := ⟨_, rfl⟩
          have HBB := Aside0.mk hbb
          have HX := Aside0.mk hx
          have HKR := Aside0.mk hkR
          clear hx hn hkR
          conv => arg 2; whnf
          go_upto_region 8 with fail
          have HR := Aside0.mk (Below.refl W.heap.size W)
          refine start_ (n := 21) (S := fun w' => True) (ds := []) #[false, false, false, false, false, false, false, false, false, false, false, false, false, false, false, false, false, false, false, false, false] (by kernel_rfl) rfl rfl trivial (fun hHeld => ?_)
          refine with_tabW r8.tab8 r8.bits8 (fun HT_ HW_ => ?_)
          refine inv_at [0, 1, 2, 3, 4, 5, 6, 7, 8, 9, 10, 11, 12, 13, 14, 15, 16, 17, 18, 19, 20] (fun a0_ b a w' => a = putSel a0_ b [(0, 39, .pointer (some ⟨g9, 2, none⟩)), (1, 40, .int .i64 (k : Int)), (2, 41, .bool false), (3, 42, .bool false), (4, 43, .pointer (some ⟨g9, 2, none⟩)), (5, 44, .int .i64 (k : Int)), (6, 45, .slice (some ⟨gt, 0, none⟩) n c0), (7, 46, .int .i64 (n : Int)), (8, 47, .bool false), (9, 48, .bool false), (10, 49, .bool false), (11, 50, .slice (some ⟨gt, 0, none⟩) n c0), (12, 51, .pointer (some ⟨g9, 2, none⟩)), (13, 52, .int .i64 (k : Int)), (14, 53, .pointer (some ⟨gt, k, none⟩)), (15, 54, .int .i64 x), (16, 55, .int .u64 (IntKind.u64.wrap x)), (17, 56, .pointer (some ⟨g9, 3, none⟩)), (18, 57, .int .u64 cw), (19, 58, .bool bb), (20, 59, .bool bb)] ∧ (Below W.heap.size W w')) HT_.out HW_.out (by kernel_rfl) (by kernel_rfl) ?_ ?_ ?_
          · exact ⟨by simp only [putSel, Bool.false_eq_true, if_false], below_drew1 HR.out⟩
          · skip
            clear HR
            refine steps_cons ?_ ?_
            · rintro b a w' ⟨ha, Q_HR⟩ hb_ hon hoff
              refine ⟨_, rfl, fun K hK => ?_⟩
              have e9 : a.tmps[9]? = some (.pointer (some ⟨g9, 0, none⟩)) := by rw [ha]; exact (putSel_off rfl).trans rfl
              replace ha := Aside0.mk ha
              have HR := Aside0.mk Q_HR
              refine value_ (w1 := w') (v := .pointer (some ⟨g9, 2, none⟩)) (by rfl) rfl ?_ ?_
              · go_simp
                (try simp only [i64_w])
                try rfl
              refine hK.out _ _ ⟨(by rw [ha.out]; exact putSel_upk 0 hb_ rfl rfl rfl), Q_HR⟩
            refine steps_cons ?_ ?_
            · rintro b a w' ⟨ha, Q_HR⟩ hb_ hon hoff
              refine ⟨_, rfl, fun K hK => ?_⟩
              have e39 : a.tmps[39]? = some (.pointer (some ⟨g9, 2, none⟩)) := by rw [ha]; exact putSel_on (e := (0, 39, .pointer (some ⟨g9, 2, none⟩))) 0 rfl rfl (hon 0 (by kernel_rfl)) rfl
              replace ha := Aside0.mk ha
              have HR := Aside0.mk Q_HR
              have hl40_0 : w'.cell? ⟨g9, 2, none⟩ = some (.int .i64 (k : Int)) := (blk_cell (blk_below BK9.out HR.out) 2).trans rfl
              refine value_ (w1 := w') (v := .int .i64 (k : Int)) (by rfl) rfl ?_ ?_
              · go_simp
                (try simp only [i64_w])
                try rfl
              refine hK.out _ _ ⟨(by rw [ha.out]; exact putSel_upk 1 hb_ rfl rfl rfl), Q_HR⟩
            refine steps_cons ?_ ?_
            · rintro b a w' ⟨ha, Q_HR⟩ hb_ hon hoff
              refine ⟨_, rfl, fun K hK => ?_⟩
              have e40 : a.tmps[40]? = some (.int .i64 (k : Int)) := by rw [ha]; exact putSel_on (e := (1, 40, .int .i64 (k : Int))) 1 rfl rfl (hon 1 (by kernel_rfl)) rfl
              replace ha := Aside0.mk ha
              have HR := Aside0.mk Q_HR
              refine value_ (w1 := w') (v := .bool false) (by rfl) rfl ?_ ?_
              · go_simp
                (try simp only [i64_w])
                try rfl
              refine hK.out _ _ ⟨(by rw [ha.out]; exact putSel_upk 2 hb_ rfl rfl rfl), Q_HR⟩
            refine steps_cons ?_ ?_
            · rintro b a w' ⟨ha, Q_HR⟩ hb_ hon hoff
              refine ⟨_, rfl, fun K hK => ?_⟩
              have e41 : a.tmps[41]? = some (.bool false) := by rw [ha]; exact putSel_on (e := (2, 41, .bool false)) 2 rfl rfl (hon 2 (by kernel_rfl)) rfl
              replace ha := Aside0.mk ha
              have HR := Aside0.mk Q_HR
              refine value_ (w1 := w') (v := .bool false) (by rfl) rfl ?_ ?_
              · go_simp
                (try simp only [i64_w])
                try rfl
              refine hK.out _ _ ⟨(by rw [ha.out]; exact putSel_upk 3 hb_ rfl rfl rfl), Q_HR⟩
            refine steps_cons ?_ ?_
            · rintro b a w' ⟨ha, Q_HR⟩ hb_ hon hoff
              refine ⟨_, rfl, fun K hK => ?_⟩
              have e9 : a.tmps[9]? = some (.pointer (some ⟨g9, 0, none⟩)) := by rw [ha]; exact (putSel_off rfl).trans rfl
              have e42 : a.tmps[42]? = some (.bool false) := by rw [ha]; exact putSel_on (e := (3, 42, .bool false)) 3 rfl rfl (hon 3 (by kernel_rfl)) rfl
              replace ha := Aside0.mk ha
              have HR := Aside0.mk Q_HR
              refine value_ (w1 := w') (v := .pointer (some ⟨g9, 2, none⟩)) (wanted_on rfl rfl rfl (e42.trans (by first | rfl | (simp [*]; done)))) rfl ?_ ?_
              · go_simp
                (try simp only [i64_w])
                try rfl
              refine hK.out _ _ ⟨(by rw [ha.out]; exact putSel_upk 4 hb_ rfl rfl rfl), Q_HR⟩
            refine steps_cons ?_ ?_
            · rintro b a w' ⟨ha, Q_HR⟩ hb_ hon hoff
              refine ⟨_, rfl, fun K hK => ?_⟩
              have e43 : a.tmps[43]? = some (.pointer (some ⟨g9, 2, none⟩)) := by rw [ha]; exact putSel_on (e := (4, 43, .pointer (some ⟨g9, 2, none⟩))) 4 rfl rfl (hon 4 (by kernel_rfl)) rfl
              have e42 : a.tmps[42]? = some (.bool false) := by rw [ha]; exact putSel_on (e := (3, 42, .bool false)) 3 rfl rfl (hon 3 (by kernel_rfl)) rfl
              replace ha := Aside0.mk ha
              have HR := Aside0.mk Q_HR
              have hl44_0 : w'.cell? ⟨g9, 2, none⟩ = some (.int .i64 (k : Int)) := (blk_cell (blk_below BK9.out HR.out) 2).trans rfl
              refine value_ (w1 := w') (v := .int .i64 (k : Int)) (wanted_on rfl rfl rfl (e42.trans (by first | rfl | (simp [*]; done)))) rfl ?_ ?_
              · go_simp
                (try simp only [i64_w])
                try rfl
              refine hK.out _ _ ⟨(by rw [ha.out]; exact putSel_upk 5 hb_ rfl rfl rfl), Q_HR⟩
            refine steps_cons ?_ ?_
            · rintro b a w' ⟨ha, Q_HR⟩ hb_ hon hoff
              refine ⟨_, rfl, fun K hK => ?_⟩
              have e6 : a.tmps[6]? = some (.slice (some ⟨gt, 0, none⟩) n c0) := by rw [ha]; exact (putSel_off rfl).trans rfl
              have e42 : a.tmps[42]? = some (.bool false) := by rw [ha]; exact putSel_on (e := (3, 42, .bool false)) 3 rfl rfl (hon 3 (by kernel_rfl)) rfl
              replace ha := Aside0.mk ha
              have HR := Aside0.mk Q_HR
              refine value_ (w1 := w') (v := .slice (some ⟨gt, 0, none⟩) n c0) (wanted_on rfl rfl rfl (e42.trans (by first | rfl | (simp [*]; done)))) rfl ?_ ?_
              · go_simp
                (try simp only [i64_w])
                try rfl
              refine hK.out _ _ ⟨(by rw [ha.out]; exact putSel_upk 6 hb_ rfl rfl rfl), Q_HR⟩
            refine steps_cons ?_ ?_
            · rintro b a w' ⟨ha, Q_HR⟩ hb_ hon hoff
              refine ⟨_, rfl, fun K hK => ?_⟩
              have e45 : a.tmps[45]? = some (.slice (some ⟨gt, 0, none⟩) n c0) := by rw [ha]; exact putSel_on (e := (6, 45, .slice (some ⟨gt, 0, none⟩) n c0)) 6 rfl rfl (hon 6 (by kernel_rfl)) rfl
              have e42 : a.tmps[42]? = some (.bool false) := by rw [ha]; exact putSel_on (e := (3, 42, .bool false)) 3 rfl rfl (hon 3 (by kernel_rfl)) rfl
              replace ha := Aside0.mk ha
              have HR := Aside0.mk Q_HR
              refine value_ (w1 := w') (v := .int .i64 (n : Int)) (wanted_on rfl rfl rfl (e42.trans (by first | rfl | (simp [*]; done)))) rfl ?_ ?_
              · go_simp
                (try simp only [i64_w])
                try rfl
              refine hK.out _ _ ⟨(by rw [ha.out]; exact putSel_upk 7 hb_ rfl rfl rfl), Q_HR⟩
            refine steps_cons ?_ ?_
            · rintro b a w' ⟨ha, Q_HR⟩ hb_ hon hoff
              refine ⟨_, rfl, fun K hK => ?_⟩
              have e44 : a.tmps[44]? = some (.int .i64 (k : Int)) := by rw [ha]; exact putSel_on (e := (5, 44, .int .i64 (k : Int))) 5 rfl rfl (hon 5 (by kernel_rfl)) rfl
              have e46 : a.tmps[46]? = some (.int .i64 (n : Int)) := by rw [ha]; exact putSel_on (e := (7, 46, .int .i64 (n : Int))) 7 rfl rfl (hon 7 (by kernel_rfl)) rfl
              have e42 : a.tmps[42]? = some (.bool false) := by rw [ha]; exact putSel_on (e := (3, 42, .bool false)) 3 rfl rfl (hon 3 (by kernel_rfl)) rfl
              replace ha := Aside0.mk ha
              have HR := Aside0.mk Q_HR
              refine value_ (w1 := w') (v := .bool false) (wanted_on rfl rfl rfl (e42.trans (by first | rfl | (simp [*]; done)))) rfl ?_ ?_
              · go_simp
                (try simp only [i64_w])
                try rfl
              refine hK.out _ _ ⟨(by rw [ha.out]; exact putSel_upk 8 hb_ rfl rfl rfl), Q_HR⟩
            refine steps_cons ?_ ?_
            · rintro b a w' ⟨ha, Q_HR⟩ hb_ hon hoff
              refine ⟨_, rfl, fun K hK => ?_⟩
              have e42 : a.tmps[42]? = some (.bool false) := by rw [ha]; exact putSel_on (e := (3, 42, .bool false)) 3 rfl rfl (hon 3 (by kernel_rfl)) rfl
              have e47 : a.tmps[47]? = some (.bool false) := by rw [ha]; exact putSel_on (e := (8, 47, .bool false)) 8 rfl rfl (hon 8 (by kernel_rfl)) rfl
              replace ha := Aside0.mk ha
              have HR := Aside0.mk Q_HR
              refine value_ (w1 := w') (v := .bool false) (by rfl) rfl ?_ ?_
              · go_simp
                (try simp only [i64_w])
                try rfl
              refine hK.out _ _ ⟨(by rw [ha.out]; exact putSel_upk 9 hb_ rfl rfl rfl), Q_HR⟩
            refine steps_cons ?_ ?_
            · rintro b a w' ⟨ha, Q_HR⟩ hb_ hon hoff
              refine ⟨_, rfl, fun K hK => ?_⟩
              have e48 : a.tmps[48]? = some (.bool false) := by rw [ha]; exact putSel_on (e := (9, 48, .bool false)) 9 rfl rfl (hon 9 (by kernel_rfl)) rfl
              replace ha := Aside0.mk ha
              have HR := Aside0.mk Q_HR
              refine value_ (w1 := w') (v := .bool false) (by rfl) rfl ?_ ?_
              · go_simp
                (try simp only [i64_w])
                try rfl
              refine hK.out _ _ ⟨(by rw [ha.out]; exact putSel_upk 10 hb_ rfl rfl rfl), Q_HR⟩
            refine steps_cons ?_ ?_
            · rintro b a w' ⟨ha, Q_HR⟩ hb_ hon hoff
              refine ⟨_, rfl, fun K hK => ?_⟩
              have e6 : a.tmps[6]? = some (.slice (some ⟨gt, 0, none⟩) n c0) := by rw [ha]; exact (putSel_off rfl).trans rfl
              have e49 : a.tmps[49]? = some (.bool false) := by rw [ha]; exact putSel_on (e := (10, 49, .bool false)) 10 rfl rfl (hon 10 (by kernel_rfl)) rfl
              replace ha := Aside0.mk ha
              have HR := Aside0.mk Q_HR
              refine value_ (w1 := w') (v := .slice (some ⟨gt, 0, none⟩) n c0) (wanted_on rfl rfl rfl (e49.trans (by first | rfl | (simp [*]; done)))) rfl ?_ ?_
              · go_simp
                (try simp only [i64_w])
                try rfl
              refine hK.out _ _ ⟨(by rw [ha.out]; exact putSel_upk 11 hb_ rfl rfl rfl), Q_HR⟩
            refine steps_cons ?_ ?_
            · rintro b a w' ⟨ha, Q_HR⟩ hb_ hon hoff
              refine ⟨_, rfl, fun K hK => ?_⟩
              have e9 : a.tmps[9]? = some (.pointer (some ⟨g9, 0, none⟩)) := by rw [ha]; exact (putSel_off rfl).trans rfl
              have e49 : a.tmps[49]? = some (.bool false) := by rw [ha]; exact putSel_on (e := (10, 49, .bool false)) 10 rfl rfl (hon 10 (by kernel_rfl)) rfl
              replace ha := Aside0.mk ha
              have HR := Aside0.mk Q_HR
              refine value_ (w1 := w') (v := .pointer (some ⟨g9, 2, none⟩)) (wanted_on rfl rfl rfl (e49.trans (by first | rfl | (simp [*]; done)))) rfl ?_ ?_
              · go_simp
                (try simp only [i64_w])
                try rfl
              refine hK.out _ _ ⟨(by rw [ha.out]; exact putSel_upk 12 hb_ rfl rfl rfl), Q_HR⟩
            refine steps_cons ?_ ?_
            · rintro b a w' ⟨ha, Q_HR⟩ hb_ hon hoff
              refine ⟨_, rfl, fun K hK => ?_⟩
              have e51 : a.tmps[51]? = some (.pointer (some ⟨g9, 2, none⟩)) := by rw [ha]; exact putSel_on (e := (12, 51, .pointer (some ⟨g9, 2, none⟩))) 12 rfl rfl (hon 12 (by kernel_rfl)) rfl
              have e49 : a.tmps[49]? = some (.bool false) := by rw [ha]; exact putSel_on (e := (10, 49, .bool false)) 10 rfl rfl (hon 10 (by kernel_rfl)) rfl
              replace ha := Aside0.mk ha
              have HR := Aside0.mk Q_HR
              have hl52_0 : w'.cell? ⟨g9, 2, none⟩ = some (.int .i64 (k : Int)) := (blk_cell (blk_below BK9.out HR.out) 2).trans rfl
              refine value_ (w1 := w') (v := .int .i64 (k : Int)) (wanted_on rfl rfl rfl (e49.trans (by first | rfl | (simp [*]; done)))) rfl ?_ ?_
              · go_simp
                (try simp only [i64_w])
                try rfl
              refine hK.out _ _ ⟨(by rw [ha.out]; exact putSel_upk 13 hb_ rfl rfl rfl), Q_HR⟩
            refine steps_cons ?_ ?_
            · rintro b a w' ⟨ha, Q_HR⟩ hb_ hon hoff
              refine ⟨_, rfl, fun K hK => ?_⟩
              have e50 : a.tmps[50]? = some (.slice (some ⟨gt, 0, none⟩) n c0) := by rw [ha]; exact putSel_on (e := (11, 50, .slice (some ⟨gt, 0, none⟩) n c0)) 11 rfl rfl (hon 11 (by kernel_rfl)) rfl
              have e52 : a.tmps[52]? = some (.int .i64 (k : Int)) := by rw [ha]; exact putSel_on (e := (13, 52, .int .i64 (k : Int))) 13 rfl rfl (hon 13 (by kernel_rfl)) rfl
              have e49 : a.tmps[49]? = some (.bool false) := by rw [ha]; exact putSel_on (e := (10, 49, .bool false)) 10 rfl rfl (hon 10 (by kernel_rfl)) rfl
              replace ha := Aside0.mk ha
              have HR := Aside0.mk Q_HR
              refine value_ (w1 := w') (v := .pointer (some ⟨gt, k, none⟩)) (wanted_on rfl rfl rfl (e49.trans (by first | rfl | (simp [*]; done)))) rfl ?_ ?_
              · go_simp
                (try simp only [i64_w])
                try rfl
              refine hK.out _ _ ⟨(by rw [ha.out]; exact putSel_upk 14 hb_ rfl rfl rfl), Q_HR⟩
            refine steps_cons ?_ ?_
            · rintro b a w' ⟨ha, Q_HR⟩ hb_ hon hoff
              refine ⟨_, rfl, fun K hK => ?_⟩
              have e53 : a.tmps[53]? = some (.pointer (some ⟨gt, k, none⟩)) := by rw [ha]; exact putSel_on (e := (14, 53, .pointer (some ⟨gt, k, none⟩))) 14 rfl rfl (hon 14 (by kernel_rfl)) rfl
              have e49 : a.tmps[49]? = some (.bool false) := by rw [ha]; exact putSel_on (e := (10, 49, .bool false)) 10 rfl rfl (hon 10 (by kernel_rfl)) rfl
              replace ha := Aside0.mk ha
              have HR := Aside0.mk Q_HR
              have hl54 : w'.cell? ⟨gt, k, none⟩ = some (.int .i64 x) := (HR.out.cell (p := ⟨gt, k, none⟩) (cell_lt hyc)).trans hyc
              refine value_ (w1 := w') (v := .int .i64 x) (wanted_on rfl rfl rfl (e49.trans (by first | rfl | (simp [*]; done)))) rfl ?_ ?_
              · go_simp
                (try simp only [i64_w])
                try rfl
              refine hK.out _ _ ⟨(by rw [ha.out]; exact putSel_upk 15 hb_ rfl rfl rfl), Q_HR⟩
            refine steps_cons ?_ ?_
            · rintro b a w' ⟨ha, Q_HR⟩ hb_ hon hoff
              refine ⟨_, rfl, fun K hK => ?_⟩
              have e54 : a.tmps[54]? = some (.int .i64 x) := by rw [ha]; exact putSel_on (e := (15, 54, .int .i64 x)) 15 rfl rfl (hon 15 (by kernel_rfl)) rfl
              have e49 : a.tmps[49]? = some (.bool false) := by rw [ha]; exact putSel_on (e := (10, 49, .bool false)) 10 rfl rfl (hon 10 (by kernel_rfl)) rfl
              replace ha := Aside0.mk ha
              have HR := Aside0.mk Q_HR
              refine value_ (w1 := w') (v := .int .u64 (IntKind.u64.wrap x)) (wanted_on rfl rfl rfl (e49.trans (by first | rfl | (simp [*]; done)))) rfl ?_ ?_
              · go_simp
                (try simp only [i64_w])
                try rfl
              refine hK.out _ _ ⟨(by rw [ha.out]; exact putSel_upk 16 hb_ rfl rfl rfl), Q_HR⟩
            refine steps_cons ?_ ?_
            · rintro b a w' ⟨ha, Q_HR⟩ hb_ hon hoff
              refine ⟨_, rfl, fun K hK => ?_⟩
              have e9 : a.tmps[9]? = some (.pointer (some ⟨g9, 0, none⟩)) := by rw [ha]; exact (putSel_off rfl).trans rfl
              have e49 : a.tmps[49]? = some (.bool false) := by rw [ha]; exact putSel_on (e := (10, 49, .bool false)) 10 rfl rfl (hon 10 (by kernel_rfl)) rfl
              replace ha := Aside0.mk ha
              have HR := Aside0.mk Q_HR
              refine value_ (w1 := w') (v := .pointer (some ⟨g9, 3, none⟩)) (wanted_on rfl rfl rfl (e49.trans (by first | rfl | (simp [*]; done)))) rfl ?_ ?_
              · go_simp
                (try simp only [i64_w])
                try rfl
              refine hK.out _ _ ⟨(by rw [ha.out]; exact putSel_upk 17 hb_ rfl rfl rfl), Q_HR⟩
            refine steps_cons ?_ ?_
            · rintro b a w' ⟨ha, Q_HR⟩ hb_ hon hoff
              refine ⟨_, rfl, fun K hK => ?_⟩
              have e56 : a.tmps[56]? = some (.pointer (some ⟨g9, 3, none⟩)) := by rw [ha]; exact putSel_on (e := (17, 56, .pointer (some ⟨g9, 3, none⟩))) 17 rfl rfl (hon 17 (by kernel_rfl)) rfl
              have e49 : a.tmps[49]? = some (.bool false) := by rw [ha]; exact putSel_on (e := (10, 49, .bool false)) 10 rfl rfl (hon 10 (by kernel_rfl)) rfl
              replace ha := Aside0.mk ha
              have HR := Aside0.mk Q_HR
              have hl57_0 : w'.cell? ⟨g9, 3, none⟩ = some (.int .u64 cw) := (blk_cell (blk_below BK9.out HR.out) 3).trans rfl
              refine value_ (w1 := w') (v := .int .u64 cw) (wanted_on rfl rfl rfl (e49.trans (by first | rfl | (simp [*]; done)))) rfl ?_ ?_
              · go_simp
                (try simp only [i64_w])
                try rfl
              refine hK.out _ _ ⟨(by rw [ha.out]; exact putSel_upk 18 hb_ rfl rfl rfl), Q_HR⟩
            refine steps_cons ?_ ?_
            · rintro b a w' ⟨ha, Q_HR⟩ hb_ hon hoff
              refine ⟨_, rfl, fun K hK => ?_⟩
              have e55 : a.tmps[55]? = some (.int .u64 (IntKind.u64.wrap x)) := by rw [ha]; exact putSel_on (e := (16, 55, .int .u64 (IntKind.u64.wrap x))) 16 rfl rfl (hon 16 (by kernel_rfl)) rfl
              have e57 : a.tmps[57]? = some (.int .u64 cw) := by rw [ha]; exact putSel_on (e := (18, 57, .int .u64 cw)) 18 rfl rfl (hon 18 (by kernel_rfl)) rfl
              have e49 : a.tmps[49]? = some (.bool false) := by rw [ha]; exact putSel_on (e := (10, 49, .bool false)) 10 rfl rfl (hon 10 (by kernel_rfl)) rfl
              replace ha := Aside0.mk ha
              have HR := Aside0.mk Q_HR
              refine value_ (w1 := w') (v := .bool bb) (wanted_on rfl rfl rfl (e49.trans (by first | rfl | (simp [*]; done)))) rfl ?_ ?_
              · go_simp
                (try simp only [i64_w])
                try rfl
              refine hK.out _ _ ⟨(by rw [ha.out]; exact putSel_upk 19 hb_ rfl rfl rfl), Q_HR⟩
            refine steps_cons ?_ ?_
            · rintro b a w' ⟨ha, Q_HR⟩ hb_ hon hoff
              refine ⟨_, rfl, fun K hK => ?_⟩
              have e49 : a.tmps[49]? = some (.bool false) := by rw [ha]; exact putSel_on (e := (10, 49, .bool false)) 10 rfl rfl (hon 10 (by kernel_rfl)) rfl
              have e58 : a.tmps[58]? = some (.bool bb) := by rw [ha]; exact putSel_on (e := (19, 58, .bool bb)) 19 rfl rfl (hon 19 (by kernel_rfl)) rfl
              replace ha := Aside0.mk ha
              have HR := Aside0.mk Q_HR
              refine value_ (w1 := w') (v := .bool bb) (by rfl) rfl ?_ ?_
              · go_simp
                (try simp only [i64_w])
                try rfl
              refine hK.out _ _ ⟨(by rw [ha.out]; exact putSel_upk 20 hb_ rfl rfl rfl), Q_HR⟩
            exact steps_nil
          rintro b a wq hall ⟨ha, Q_HR⟩
          clear HR
          have hb0_ := hall 0 (by kernel_rfl)
          have hb1_ := hall 1 (by kernel_rfl)
          have hb2_ := hall 2 (by kernel_rfl)
          have hb3_ := hall 3 (by kernel_rfl)
          have hb4_ := hall 4 (by kernel_rfl)
          have hb5_ := hall 5 (by kernel_rfl)
          have hb6_ := hall 6 (by kernel_rfl)
          have hb7_ := hall 7 (by kernel_rfl)
          have hb8_ := hall 8 (by kernel_rfl)
          have hb9_ := hall 9 (by kernel_rfl)
          have hb10_ := hall 10 (by kernel_rfl)
          have hb11_ := hall 11 (by kernel_rfl)
          have hb12_ := hall 12 (by kernel_rfl)
          have hb13_ := hall 13 (by kernel_rfl)
          have hb14_ := hall 14 (by kernel_rfl)
          have hb15_ := hall 15 (by kernel_rfl)
          have hb16_ := hall 16 (by kernel_rfl)
          have hb17_ := hall 17 (by kernel_rfl)
          have hb18_ := hall 18 (by kernel_rfl)
          have hb19_ := hall 19 (by kernel_rfl)
          have hb20_ := hall 20 (by kernel_rfl)
          subst ha
          simp only [putSel, hb0_, hb1_, hb2_, hb3_, hb4_, hb5_, hb6_, hb7_, hb8_, hb9_, hb10_, hb11_, hb12_, hb13_, hb14_, hb15_, hb16_, hb17_, hb18_, hb19_, hb20_, if_true, Act.put, List.setIfInBounds_toArray, List.set_cons_zero, List.set_cons_succ]
          have HR := Aside0.mk Q_HR
          clear Q_HR
          clear hall hb0_ hb1_ hb2_ hb3_ hb4_ hb5_ hb6_ hb7_ hb8_ hb9_ hb10_ hb11_ hb12_ hb13_ hb14_ hb15_ hb16_ hb17_ hb18_ hb19_ hb20_
          clear hbb hyc
          have HS2 := Aside0.mk (HS.out.to HR.out)
          have BK9q := Aside0.mk (blk_below BK9.out HR.out)
          cases bb with
          | true =>
            have hno : chgS R (⟨4, 0, (k : Int), cw, cs⟩ : Ch) = none := if_neg (fun h => by
              have h3 := h.2.2
              simp only [Int.toNat_natCast] at h3
              rw [← HX.out] at h3
              have := HBB.out
              rw [show IntKind.u64.wrap x = cw from h3] at this
              simp at this)
            have HNO := Aside0.mk (show applyP (R, M.map Nd.pn) (⟨4, 0, (k : Int), cw, cs⟩ : Ch) = none by rw [applyP_root, hno]; rfl)
            clear hno
            have HRES := Aside0.mk HS2.out.res
            have HRES4 := Aside0.mk HS2.out.res4
            have HRB := Aside0.mk HS2.out.hb
            have hx4_0 : wq.cell? ⟨g4, 0, none⟩ = some (.slice none 0 0) := (blk_cell HRES.out 0).trans rfl
            have hx4_1 : wq.cell? ⟨g4, 1, none⟩ = some (.slice none 0 0) := (blk_cell HRES.out 1).trans rfl
            have hy4_0 := blk_frozen HRES.out 0
            have hy4_1 := blk_frozen HRES.out 1
            go_wp2
            exact .inr ⟨⟨rfl, rfl⟩, .inl ⟨rfl, HNO.out, ⟨rfl, rfl, rfl, rfl⟩, blk_put (blk_put HRES.out 0 _ rfl) 1 _ rfl, below_set (below_set HRB.out HRES4.out) HRES4.out⟩, nofun⟩
          | false =>
            have he : IntKind.u64.wrap x = cw := by simpa using HBB.out
            have HYES := Aside0.mk (show applyP (R, M.map Nd.pn) (⟨4, 0, (k : Int), cw, cs⟩ : Ch) = some (R.set k (wrap64 cs), M.map Nd.pn) by rw [applyP_root, show chgS R ⟨4, 0, (k : Int), cw, cs⟩ = some (R.set k (i64 cs)) from if_pos ⟨by simp only; omega, by simp only; have := HKR.out; omega, by simp only [Int.toNat_natCast]; rw [← HX.out]; exact he⟩, show i64 cs = wrap64 cs from i64_w cs]; rfl)
            clear he
            have hx9_0q : wq.cell? ⟨g9, 0, none⟩ = some (.int .i64 4) := (blk_cell BK9q.out 0).trans rfl
            have hx9_1q : wq.cell? ⟨g9, 1, none⟩ = some (.int .i64 0) := (blk_cell BK9q.out 1).trans rfl
            have hx9_2q : wq.cell? ⟨g9, 2, none⟩ = some (.int .i64 (k : Int)) := (blk_cell BK9q.out 2).trans rfl
            have hx9_3q : wq.cell? ⟨g9, 3, none⟩ = some (.int .u64 cw) := (blk_cell BK9q.out 3).trans rfl
            have hx9_4q : wq.cell? ⟨g9, 4, none⟩ = some (.int .u64 cs) := (blk_cell BK9q.out 4).trans rfl
            have hqc := HS2.out.tops.cellAt k (by rw [Nat.mul_one]; exact HKR.out)
            rw [List.getElem?_map, getD_at HKR.out] at hqc
            replace hqc : wq.cell? ⟨gt, k, none⟩ = some (.int .i64 (R.getD k 0)) := hqc
            have hqf := HS2.out.tops.frozenAt k
            have HROOT := Aside0.mk (HS2.out.root (k := k) (wrap64 cs))
            go_wp2
            exact .inr ⟨⟨rfl, rfl⟩, .inr ⟨.inl rfl, _, _, _, _, HYES.out, ⟨rfl, rfl, rfl, congrArg (fun n => Value.slice (some ⟨gt, 0, none⟩) n c0) HN.out, rfl, rfl, rfl, rfl⟩, HROOT.out, Nat.le_succ _⟩, nofun⟩
        · have hd2 : decide (ci ≥ (n : Int)) = true := decide_eq_true (by omega)
          have hd2' : decide ((n : Int) ≤ ci) = true := decide_eq_true (by omega)
          have HNO := Aside0.mk (show applyP (R, M.map Nd.pn) (⟨4, 0, ci, cw, cs⟩ : Ch) = none by rw [applyP_root, show chgS R ⟨4, 0, ci, cw, cs⟩ = none from if_neg (fun h => by have := h.2.1; simp only at this; omega)]; rfl)
          clear hn
          conv => arg 2; whnf
          go_upto_region 8 with fail
          have HR := Aside0.mk (Below.refl W.heap.size W)
          refine start_ (n := 21) (S := fun w' => True) (ds := []) #[false, false, false, false, false, false, false, false, false, false, false, false, false, false, false, false, false, false, false, false, false] (by kernel_rfl) rfl rfl trivial (fun hHeld => ?_)
          refine with_tabW r8.tab8 r8.bits8 (fun HT_ HW_ => ?_)
          refine inv_at [0, 1, 2, 3, 4, 5, 6, 7, 8, 9, 10, 11, 12, 13, 14, 15, 16, 17, 18, 19, 20] (fun a0_ b a w' => a = putSel a0_ b [(0, 39, .pointer (some ⟨g9, 2, none⟩)), (1, 40, .int .i64 ci), (2, 41, .bool false), (3, 42, .bool false), (4, 43, .pointer (some ⟨g9, 2, none⟩)), (5, 44, .int .i64 ci), (6, 45, .slice A0 n c0), (7, 46, .int .i64 (n : Int)), (8, 47, .bool true), (9, 48, .bool true), (10, 49, .bool true), (11, 50, undef), (12, 51, undef), (13, 52, undef), (14, 53, undef), (15, 54, undef), (16, 55, undef), (17, 56, undef), (18, 57, undef), (19, 58, undef), (20, 59, .bool true)] ∧ (Below W.heap.size W w')) HT_.out HW_.out (by kernel_rfl) (by kernel_rfl) ?_ ?_ ?_
          · exact ⟨by simp only [putSel, Bool.false_eq_true, if_false], below_drew1 HR.out⟩
          · skip
            clear HR
            refine steps_cons ?_ ?_
            · rintro b a w' ⟨ha, Q_HR⟩ hb_ hon hoff
              refine ⟨_, rfl, fun K hK => ?_⟩
              have e9 : a.tmps[9]? = some (.pointer (some ⟨g9, 0, none⟩)) := by rw [ha]; exact (putSel_off rfl).trans rfl
              replace ha := Aside0.mk ha
              have HR := Aside0.mk Q_HR
              refine value_ (w1 := w') (v := .pointer (some ⟨g9, 2, none⟩)) (by rfl) rfl ?_ ?_
              · go_simp
                (try simp only [i64_w])
                try rfl
              refine hK.out _ _ ⟨(by rw [ha.out]; exact putSel_upk 0 hb_ rfl rfl rfl), Q_HR⟩
            refine steps_cons ?_ ?_
            · rintro b a w' ⟨ha, Q_HR⟩ hb_ hon hoff
              refine ⟨_, rfl, fun K hK => ?_⟩
              have e39 : a.tmps[39]? = some (.pointer (some ⟨g9, 2, none⟩)) := by rw [ha]; exact putSel_on (e := (0, 39, .pointer (some ⟨g9, 2, none⟩))) 0 rfl rfl (hon 0 (by kernel_rfl)) rfl
              replace ha := Aside0.mk ha
              have HR := Aside0.mk Q_HR
              have hl40_0 : w'.cell? ⟨g9, 2, none⟩ = some (.int .i64 ci) := (blk_cell (blk_below BK9.out HR.out) 2).trans rfl
              refine value_ (w1 := w') (v := .int .i64 ci) (by rfl) rfl ?_ ?_
              · go_simp
                (try simp only [i64_w])
                try rfl
              refine hK.out _ _ ⟨(by rw [ha.out]; exact putSel_upk 1 hb_ rfl rfl rfl), Q_HR⟩
            refine steps_cons ?_ ?_
            · rintro b a w' ⟨ha, Q_HR⟩ hb_ hon hoff
              refine ⟨_, rfl, fun K hK => ?_⟩
              have e40 : a.tmps[40]? = some (.int .i64 ci) := by rw [ha]; exact putSel_on (e := (1, 40, .int .i64 ci)) 1 rfl rfl (hon 1 (by kernel_rfl)) rfl
              replace ha := Aside0.mk ha
              have HR := Aside0.mk Q_HR
              refine value_ (w1 := w') (v := .bool false) (by rfl) rfl ?_ ?_
              · go_simp
                (try simp only [i64_w])
                try rfl
              refine hK.out _ _ ⟨(by rw [ha.out]; exact putSel_upk 2 hb_ rfl rfl rfl), Q_HR⟩
            refine steps_cons ?_ ?_
            · rintro b a w' ⟨ha, Q_HR⟩ hb_ hon hoff
              refine ⟨_, rfl, fun K hK => ?_⟩
              have e41 : a.tmps[41]? = some (.bool false) := by rw [ha]; exact putSel_on (e := (2, 41, .bool false)) 2 rfl rfl (hon 2 (by kernel_rfl)) rfl
              replace ha := Aside0.mk ha
              have HR := Aside0.mk Q_HR
              refine value_ (w1 := w') (v := .bool false) (by rfl) rfl ?_ ?_
              · go_simp
                (try simp only [i64_w])
                try rfl
              refine hK.out _ _ ⟨(by rw [ha.out]; exact putSel_upk 3 hb_ rfl rfl rfl), Q_HR⟩
            refine steps_cons ?_ ?_
            · rintro b a w' ⟨ha, Q_HR⟩ hb_ hon hoff
              refine ⟨_, rfl, fun K hK => ?_⟩
              have e9 : a.tmps[9]? = some (.pointer (some ⟨g9, 0, none⟩)) := by rw [ha]; exact (putSel_off rfl).trans rfl
              have e42 : a.tmps[42]? = some (.bool false) := by rw [ha]; exact putSel_on (e := (3, 42, .bool false)) 3 rfl rfl (hon 3 (by kernel_rfl)) rfl
              replace ha := Aside0.mk ha
              have HR := Aside0.mk Q_HR
              refine value_ (w1 := w') (v := .pointer (some ⟨g9, 2, none⟩)) (wanted_on rfl rfl rfl (e42.trans (by first | rfl | (simp [*]; done)))) rfl ?_ ?_
              · go_simp
                (try simp only [i64_w])
                try rfl
              refine hK.out _ _ ⟨(by rw [ha.out]; exact putSel_upk 4 hb_ rfl rfl rfl), Q_HR⟩
            refine steps_cons ?_ ?_
            · rintro b a w' ⟨ha, Q_HR⟩ hb_ hon hoff
              refine ⟨_, rfl, fun K hK => ?_⟩
              have e43 : a.tmps[43]? = some (.pointer (some ⟨g9, 2, none⟩)) := by rw [ha]; exact putSel_on (e := (4, 43, .pointer (some ⟨g9, 2, none⟩))) 4 rfl rfl (hon 4 (by kernel_rfl)) rfl
              have e42 : a.tmps[42]? = some (.bool false) := by rw [ha]; exact putSel_on (e := (3, 42, .bool false)) 3 rfl rfl (hon 3 (by kernel_rfl)) rfl
              replace ha := Aside0.mk ha
              have HR := Aside0.mk Q_HR
              have hl44_0 : w'.cell? ⟨g9, 2, none⟩ = some (.int .i64 ci) := (blk_cell (blk_below BK9.out HR.out) 2).trans rfl
              refine value_ (w1 := w') (v := .int .i64 ci) (wanted_on rfl rfl rfl (e42.trans (by first | rfl | (simp [*]; done)))) rfl ?_ ?_
              · go_simp
                (try simp only [i64_w])
                try rfl
              refine hK.out _ _ ⟨(by rw [ha.out]; exact putSel_upk 5 hb_ rfl rfl rfl), Q_HR⟩
            refine steps_cons ?_ ?_
            · rintro b a w' ⟨ha, Q_HR⟩ hb_ hon hoff
              refine ⟨_, rfl, fun K hK => ?_⟩
              have e6 : a.tmps[6]? = some (.slice A0 n c0) := by rw [ha]; exact (putSel_off rfl).trans rfl
              have e42 : a.tmps[42]? = some (.bool false) := by rw [ha]; exact putSel_on (e := (3, 42, .bool false)) 3 rfl rfl (hon 3 (by kernel_rfl)) rfl
              replace ha := Aside0.mk ha
              have HR := Aside0.mk Q_HR
              refine value_ (w1 := w') (v := .slice A0 n c0) (wanted_on rfl rfl rfl (e42.trans (by first | rfl | (simp [*]; done)))) rfl ?_ ?_
              · go_simp
                (try simp only [i64_w])
                try rfl
              refine hK.out _ _ ⟨(by rw [ha.out]; exact putSel_upk 6 hb_ rfl rfl rfl), Q_HR⟩
            refine steps_cons ?_ ?_
            · rintro b a w' ⟨ha, Q_HR⟩ hb_ hon hoff
              refine ⟨_, rfl, fun K hK => ?_⟩
              have e45 : a.tmps[45]? = some (.slice A0 n c0) := by rw [ha]; exact putSel_on (e := (6, 45, .slice A0 n c0)) 6 rfl rfl (hon 6 (by kernel_rfl)) rfl
              have e42 : a.tmps[42]? = some (.bool false) := by rw [ha]; exact putSel_on (e := (3, 42, .bool false)) 3 rfl rfl (hon 3 (by kernel_rfl)) rfl
              replace ha := Aside0.mk ha
              have HR := Aside0.mk Q_HR
              refine value_ (w1 := w') (v := .int .i64 (n : Int)) (wanted_on rfl rfl rfl (e42.trans (by first | rfl | (simp [*]; done)))) rfl ?_ ?_
              · go_simp
                (try simp only [i64_w])
                try rfl
              refine hK.out _ _ ⟨(by rw [ha.out]; exact putSel_upk 7 hb_ rfl rfl rfl), Q_HR⟩
            refine steps_cons ?_ ?_
            · rintro b a w' ⟨ha, Q_HR⟩ hb_ hon hoff
              refine ⟨_, rfl, fun K hK => ?_⟩
              have e44 : a.tmps[44]? = some (.int .i64 ci) := by rw [ha]; exact putSel_on (e := (5, 44, .int .i64 ci)) 5 rfl rfl (hon 5 (by kernel_rfl)) rfl
              have e46 : a.tmps[46]? = some (.int .i64 (n : Int)) := by rw [ha]; exact putSel_on (e := (7, 46, .int .i64 (n : Int))) 7 rfl rfl (hon 7 (by kernel_rfl)) rfl
              have e42 : a.tmps[42]? = some (.bool false) := by rw [ha]; exact putSel_on (e := (3, 42, .bool false)) 3 rfl rfl (hon 3 (by kernel_rfl)) rfl
              replace ha := Aside0.mk ha
              have HR := Aside0.mk Q_HR
              refine value_ (w1 := w') (v := .bool true) (wanted_on rfl rfl rfl (e42.trans (by first | rfl | (simp [*]; done)))) rfl ?_ ?_
              · go_simp
                (try simp only [i64_w])
                try rfl
              refine hK.out _ _ ⟨(by rw [ha.out]; exact putSel_upk 8 hb_ rfl rfl rfl), Q_HR⟩
            refine steps_cons ?_ ?_
            · rintro b a w' ⟨ha, Q_HR⟩ hb_ hon hoff
              refine ⟨_, rfl, fun K hK => ?_⟩
              have e42 : a.tmps[42]? = some (.bool false) := by rw [ha]; exact putSel_on (e := (3, 42, .bool false)) 3 rfl rfl (hon 3 (by kernel_rfl)) rfl
              have e47 : a.tmps[47]? = some (.bool true) := by rw [ha]; exact putSel_on (e := (8, 47, .bool true)) 8 rfl rfl (hon 8 (by kernel_rfl)) rfl
              replace ha := Aside0.mk ha
              have HR := Aside0.mk Q_HR
              refine value_ (w1 := w') (v := .bool true) (by rfl) rfl ?_ ?_
              · go_simp
                (try simp only [i64_w])
                try rfl
              refine hK.out _ _ ⟨(by rw [ha.out]; exact putSel_upk 9 hb_ rfl rfl rfl), Q_HR⟩
            refine steps_cons ?_ ?_
            · rintro b a w' ⟨ha, Q_HR⟩ hb_ hon hoff
              refine ⟨_, rfl, fun K hK => ?_⟩
              have e48 : a.tmps[48]? = some (.bool true) := by rw [ha]; exact putSel_on (e := (9, 48, .bool true)) 9 rfl rfl (hon 9 (by kernel_rfl)) rfl
              replace ha := Aside0.mk ha
              have HR := Aside0.mk Q_HR
              refine value_ (w1 := w') (v := .bool true) (by rfl) rfl ?_ ?_
              · go_simp
                (try simp only [i64_w])
                try rfl
              refine hK.out _ _ ⟨(by rw [ha.out]; exact putSel_upk 10 hb_ rfl rfl rfl), Q_HR⟩
            refine steps_cons ?_ ?_
            · rintro b a w' ⟨ha, Q_HR⟩ hb_ hon hoff
              refine ⟨_, rfl, fun K hK => ?_⟩
              have e49 : a.tmps[49]? = some (.bool true) := by rw [ha]; exact putSel_on (e := (10, 49, .bool true)) 10 rfl rfl (hon 10 (by kernel_rfl)) rfl
              replace ha := Aside0.mk ha
              have HR := Aside0.mk Q_HR
              refine off_ (wanted_off rfl rfl rfl (e49.trans (by first | rfl | (simp [*]; done)))) ?_
              refine hK.out _ _ ⟨(by rw [ha.out]; exact putSel_upk 11 hb_ rfl rfl rfl), Q_HR⟩
            refine steps_cons ?_ ?_
            · rintro b a w' ⟨ha, Q_HR⟩ hb_ hon hoff
              refine ⟨_, rfl, fun K hK => ?_⟩
              have e49 : a.tmps[49]? = some (.bool true) := by rw [ha]; exact putSel_on (e := (10, 49, .bool true)) 10 rfl rfl (hon 10 (by kernel_rfl)) rfl
              replace ha := Aside0.mk ha
              have HR := Aside0.mk Q_HR
              refine off_ (wanted_off rfl rfl rfl (e49.trans (by first | rfl | (simp [*]; done)))) ?_
              refine hK.out _ _ ⟨(by rw [ha.out]; exact putSel_upk 12 hb_ rfl rfl rfl), Q_HR⟩
            refine steps_cons ?_ ?_
            · rintro b a w' ⟨ha, Q_HR⟩ hb_ hon hoff
              refine ⟨_, rfl, fun K hK => ?_⟩
              have e49 : a.tmps[49]? = some (.bool true) := by rw [ha]; exact putSel_on (e := (10, 49, .bool true)) 10 rfl rfl (hon 10 (by kernel_rfl)) rfl
              replace ha := Aside0.mk ha
              have HR := Aside0.mk Q_HR
              refine off_ (wanted_off rfl rfl rfl (e49.trans (by first | rfl | (simp [*]; done)))) ?_
              refine hK.out _ _ ⟨(by rw [ha.out]; exact putSel_upk 13 hb_ rfl rfl rfl), Q_HR⟩
            refine steps_cons ?_ ?_
            · rintro b a w' ⟨ha, Q_HR⟩ hb_ hon hoff
              refine ⟨_, rfl, fun K hK => ?_⟩
              have e49 : a.tmps[49]? = some (.bool true) := by rw [ha]; exact putSel_on (e := (10, 49, .bool true)) 10 rfl rfl (hon 10 (by kernel_rfl)) rfl
              replace ha := Aside0.mk ha
              have HR := Aside0.mk Q_HR
              refine off_ (wanted_off rfl rfl rfl (e49.trans (by first | rfl | (simp [*]; done)))) ?_
              refine hK.out _ _ ⟨(by rw [ha.out]; exact putSel_upk 14 hb_ rfl rfl rfl), Q_HR⟩
            refine steps_cons ?_ ?_
            · rintro b a w' ⟨ha, Q_HR⟩ hb_ hon hoff
              refine ⟨_, rfl, fun K hK => ?_⟩
              have e49 : a.tmps[49]? = some (.bool true) := by rw [ha]; exact putSel_on (e := (10, 49, .bool true)) 10 rfl rfl (hon 10 (by kernel_rfl)) rfl
              replace ha := Aside0.mk ha
              have HR := Aside0.mk Q_HR
              refine off_ (wanted_off rfl rfl rfl (e49.trans (by first | rfl | (simp [*]; done)))) ?_
              refine hK.out _ _ ⟨(by rw [ha.out]; exact putSel_upk 15 hb_ rfl rfl rfl), Q_HR⟩
            refine steps_cons ?_ ?_
            · rintro b a w' ⟨ha, Q_HR⟩ hb_ hon hoff
              refine ⟨_, rfl, fun K hK => ?_⟩
              have e49 : a.tmps[49]? = some (.bool true) := by rw [ha]; exact putSel_on (e := (10, 49, .bool true)) 10 rfl rfl (hon 10 (by kernel_rfl)) rfl
              replace ha := Aside0.mk ha
              have HR := Aside0.mk Q_HR
              refine off_ (wanted_off rfl rfl rfl (e49.trans (by first | rfl | (simp [*]; done)))) ?_
              refine hK.out _ _ ⟨(by rw [ha.out]; exact putSel_upk 16 hb_ rfl rfl rfl), Q_HR⟩
            refine steps_cons ?_ ?_
            · rintro b a w' ⟨ha, Q_HR⟩ hb_ hon hoff
              refine ⟨_, rfl, fun K hK => ?_⟩
              have e49 : a.tmps[49]? = some (.bool true) := by rw [ha]; exact putSel_on (e := (10, 49, .bool true)) 10 rfl rfl (hon 10 (by kernel_rfl)) rfl
              replace ha := Aside0.mk ha
              have HR := Aside0.mk Q_HR
              refine off_ (wanted_off rfl rfl rfl (e49.trans (by first | rfl | (simp [*]; done)))) ?_
              refine hK.out _ _ ⟨(by rw [ha.out]; exact putSel_upk 17 hb_ rfl rfl rfl), Q_HR⟩
            refine steps_cons ?_ ?_
            · rintro b a w' ⟨ha, Q_HR⟩ hb_ hon hoff
              refine ⟨_, rfl, fun K hK => ?_⟩
              have e49 : a.tmps[49]? = some (.bool true) := by rw [ha]; exact putSel_on (e := (10, 49, .bool true)) 10 rfl rfl (hon 10 (by kernel_rfl)) rfl
              replace ha := Aside0.mk ha
              have HR := Aside0.mk Q_HR
              refine off_ (wanted_off rfl rfl rfl (e49.trans (by first | rfl | (simp [*]; done)))) ?_
              refine hK.out _ _ ⟨(by rw [ha.out]; exact putSel_upk 18 hb_ rfl rfl rfl), Q_HR⟩
            refine steps_cons ?_ ?_
            · rintro b a w' ⟨ha, Q_HR⟩ hb_ hon hoff
              refine ⟨_, rfl, fun K hK => ?_⟩
              have e49 : a.tmps[49]? = some (.bool true) := by rw [ha]; exact putSel_on (e := (10, 49, .bool true)) 10 rfl rfl (hon 10 (by kernel_rfl)) rfl
              replace ha := Aside0.mk ha
              have HR := Aside0.mk Q_HR
              refine off_ (wanted_off rfl rfl rfl (e49.trans (by first | rfl | (simp [*]; done)))) ?_
              refine hK.out _ _ ⟨(by rw [ha.out]; exact putSel_upk 19 hb_ rfl rfl rfl), Q_HR⟩
            refine steps_cons ?_ ?_
            · rintro b a w' ⟨ha, Q_HR⟩ hb_ hon hoff
              refine ⟨_, rfl, fun K hK => ?_⟩
              have e49 : a.tmps[49]? = some (.bool true) := by rw [ha]; exact putSel_on (e := (10, 49, .bool true)) 10 rfl rfl (hon 10 (by kernel_rfl)) rfl
              have e58 : a.tmps[58]? = some (undef) := by rw [ha]; exact putSel_on (e := (19, 58, undef)) 19 rfl rfl (hon 19 (by kernel_rfl)) rfl
              replace ha := Aside0.mk ha
              have HR := Aside0.mk Q_HR
              refine value_ (w1 := w') (v := .bool true) (by rfl) rfl ?_ ?_
              · go_simp
                (try simp only [i64_w])
                try rfl
              refine hK.out _ _ ⟨(by rw [ha.out]; exact putSel_upk 20 hb_ rfl rfl rfl), Q_HR⟩
            exact steps_nil
          rintro b a wq hall ⟨ha, Q_HR⟩
          clear HR
          have hb0_ := hall 0 (by kernel_rfl)
          have hb1_ := hall 1 (by kernel_rfl)
          have hb2_ := hall 2 (by kernel_rfl)
          have hb3_ := hall 3 (by kernel_rfl)
          have hb4_ := hall 4 (by kernel_rfl)
          have hb5_ := hall 5 (by kernel_rfl)
          have hb6_ := hall 6 (by kernel_rfl)
          have hb7_ := hall 7 (by kernel_rfl)
          have hb8_ := hall 8 (by kernel_rfl)
          have hb9_ := hall 9 (by kernel_rfl)
          have hb10_ := hall 10 (by kernel_rfl)
          have hb11_ := hall 11 (by kernel_rfl)
          have hb12_ := hall 12 (by kernel_rfl)
          have hb13_ := hall 13 (by kernel_rfl)
          have hb14_ := hall 14 (by kernel_rfl)
          have hb15_ := hall 15 (by kernel_rfl)
          have hb16_ := hall 16 (by kernel_rfl)
          have hb17_ := hall 17 (by kernel_rfl)
          have hb18_ := hall 18 (by kernel_rfl)
          have hb19_ := hall 19 (by kernel_rfl)
          have hb20_ := hall 20 (by kernel_rfl)
          subst ha
          simp only [putSel, hb0_, hb1_, hb2_, hb3_, hb4_, hb5_, hb6_, hb7_, hb8_, hb9_, hb10_, hb11_, hb12_, hb13_, hb14_, hb15_, hb16_, hb17_, hb18_, hb19_, hb20_, if_true, Act.put, List.setIfInBounds_toArray, List.set_cons_zero, List.set_cons_succ]
          have HR := Aside0.mk Q_HR
          clear Q_HR
          clear hall hb0_ hb1_ hb2_ hb3_ hb4_ hb5_ hb6_ hb7_ hb8_ hb9_ hb10_ hb11_ hb12_ hb13_ hb14_ hb15_ hb16_ hb17_ hb18_ hb19_ hb20_
          have HS2 := Aside0.mk (HS.out.to HR.out)
          have HRES := Aside0.mk HS2.out.res
          have HRES4 := Aside0.mk HS2.out.res4
          have HRB := Aside0.mk HS2.out.hb
          have hx4_0 : wq.cell? ⟨g4, 0, none⟩ = some (.slice none 0 0) := (blk_cell HRES.out 0).trans rfl
          have hx4_1 : wq.cell? ⟨g4, 1, none⟩ = some (.slice none 0 0) := (blk_cell HRES.out 1).trans rfl
          have hy4_0 := blk_frozen HRES.out 0
          have hy4_1 := blk_frozen HRES.out 1
          go_wp2
          exact .inr ⟨⟨rfl, rfl⟩, .inl ⟨rfl, HNO.out, ⟨rfl, rfl, rfl, rfl⟩, blk_put (blk_put HRES.out 0 _ rfl) 1 _ rfl, below_set (below_set HRB.out HRES4.out) HRES4.out⟩, nofun⟩
    · have hda : decide (ca = 0) = false := decide_eq_false ha
      have HNP := Aside0.mk ha
      conv => arg 2; whnf
      go_wp2
      exact .inl ⟨fun h => HNP.out h.2, rfl, rfl, ⟨rfl, rfl, rfl, rfl, rfl, rfl, rfl, rfl, rfl⟩⟩
  · have hdk : decide (ck = 4) = false := decide_eq_false hk
    have HNP := Aside0.mk hk
    conv => arg 2; whnf
    go_wp2
    exact .inl ⟨fun h => HNP.out h.1, rfl, rfl, ⟨rfl, rfl, rfl, rfl, rfl, rfl, rfl, rfl, rfl⟩⟩
end Go.Proofs.Ytekggbmajemmhaa.Gr
