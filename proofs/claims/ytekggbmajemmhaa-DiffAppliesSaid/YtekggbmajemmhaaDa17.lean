/- Parts of one proof, set together: Ap14, Ap15, Ap16. What each says stands at its head; no condition beyond theirs. -/
import Derived.Test.YtekggbmajemmhaaDa16
/- The document's Apply: where a change's node is. Conditions: the state lies in memory. -/
namespace Go.Proofs.Ytekggbmajemmhaa.Gr
open Go.RowKit Go.Shelf Go.Maps Go.ChangeMaps Go.MapKept Go.Proofs.YtekggbmajemmhaaW.PrintWords Go.Proofs.YtekggbmajemmhaaW.PrintLast Go.Proofs.YtekggbmajemmhaaW.PrintMore
set_option linter.unusedSimpArgs false
set_option linter.unusedVariables false
/-- What the search leaves. -/
def P2Out (W : World) (g4 g9 i : Nat) (y vt vn : Value) (M : List Nd) (ca : Int) (e : Exit) (a : Act) (w : World) : Prop := e = .normal ∧ Below W.heap.size W w ∧ Fr a [(1, y), (4, .pointer (some ⟨g4, 0, none⟩)), (5, .bool false), (6, vt), (7, vn), (8, .int .i64 (i : Int)), (9, .pointer (some ⟨g9, 0, none⟩)), (10, .int .i64 (lastAt (adrs M) ca M.length)), (11, .int .i64 (lastBeh (adrs M) ca M.length : Int))]
def r16.T16 : Bool × List (List Nat × List Nat) := (true, [([], []), ([], []), ([0, 1], [0, 1]), ([2], [2]), ([3], [3]), ([], []), ([5], [5]), ([4, 6], [4, 6])])
def r16.B16 : List Nat := [0, 0, 3, 7, 15, 0, 32, 127]
theorem r16.tab16 : rtab .any (opsOf Try.f10 16) = r16.T16 := by kernel_rfl
theorem r16.bits16 : waitsOk r16.T16.2 r16.B16 = true := by kernel_rfl
def r18.T18 : Bool × List (List Nat × List Nat) := (true, [([], []), ([], []), ([0, 1], [0, 1]), ([2], [2]), ([3], [3]), ([], []), ([5], [5]), ([4, 6], [4, 6])])
def r18.B18 : List Nat := [0, 0, 3, 7, 15, 0, 32, 127]
theorem r18.tab18 : rtab .any (opsOf Try.f10 18) = r18.T18 := by kernel_rfl
theorem r18.bits18 : waitsOk r18.T18.2 r18.B18 = true := by kernel_rfl
set_option maxHeartbeats 16000000 in
set_option maxRecDepth 100000 in
theorem p2_wp (wb W : World) (g4 g9 i : Nat) (y vt : Value) (A0 : Option Addr) (n c0 : Nat) (M : List Nd) (ck ca ci cw cs : Int) (HRW : Aside0 (W.ownsRow wb.heap.size 40 6 (.slice A0 n c0) n (nds M))) (hn : n ≤ 1000) (BK9 : Aside0 (W.heap[g9]? = some (.cells #[.int .i64 ck, .int .i64 ca, .int .i64 ci, .int .u64 cw, .int .u64 cs] 44 (0, 0)))) (a : Act) (hf : Fr a [(1, y), (4, .pointer (some ⟨g4, 0, none⟩)), (5, .bool false), (6, vt), (7, .slice A0 n c0), (8, .int .i64 (i : Int)), (9, .pointer (some ⟨g9, 0, none⟩)), (10, .int .i64 (-1)), (11, .int .i64 0)]) : Code.wp Try.prog cP2 (P2Out W g4 g9 i y vt (.slice A0 n c0) M ca) a W := by
  have hl := row40_len HRW.out
  obtain ⟨K, hK⟩ : ∃ K, K = adrs M := ⟨_, rfl⟩
  have hKl : K.length = n := by rw [hK]; simp [adrs]; exact hl
  obtain ⟨hf1, hf4, hf5, hf6, hf7, hf8, hf9, hf10, hf11, hd_, hs_⟩ := hf
  obtain ⟨u, hu, ha_⟩ := frame_open a hd_ hs_
  have hv1 := (hu 1).symm.trans hf1
  have hv4 := (hu 4).symm.trans hf4
  have hv5 := (hu 5).symm.trans hf5
  have hv6 := (hu 6).symm.trans hf6
  have hv7 := (hu 7).symm.trans hf7
  have hv8 := (hu 8).symm.trans hf8
  have hv9 := (hu 9).symm.trans hf9
  have hv10 := (hu 10).symm.trans hf10
  have hv11 := (hu 11).symm.trans hf11
  clear hd_ hs_ hu hf1 hf4 hf5 hf6 hf7 hf8 hf9 hf10 hf11
  subst ha_
  simp only [hv1, hv4, hv5, hv6, hv7, hv8, hv9, hv10, hv11]
  clear hv1 hv4 hv5 hv6 hv7 hv8 hv9 hv10 hv11
  have HB := Aside0.mk (Below.refl W.heap.size W)
  conv => arg 2; whnf
  go_upto_region 14 with fail
  go_loopw [10, 11, 12] (fun v10 v11 v wr => ∃ (k : Nat), k ≤ n ∧ v = .int .i64 (k : Int) ∧ Aside0 (v10 = .int .i64 (lastAt K ca k)) ∧ Aside0 (v11 = .int .i64 (lastBeh K ca k : Int)) ∧ Aside0 (Below W.heap.size W wr) ∧ Aside0 (wr.heap[g9]? = some (.cells #[.int .i64 ck, .int .i64 ca, .int .i64 ci, .int .u64 cw, .int .u64 cs] 44 (0, 0)))) (fun _ _ v _ => n - (intOf v).toNat)
  case atStart => exact ⟨0, by omega, rfl, Aside0.mk rfl, Aside0.mk rfl, HB, BK9⟩
  case round =>
    clear HB
    obtain ⟨k, hk, rfl, L10, L11, HB, BKr⟩ := hrel
    obtain rfl := L10.out
    obtain rfl := L11.out
    by_cases hgo : k < n
    · have hd : decide ((k : Int) < (n : Int)) = true := decide_eq_true (by omega)
      have hrow := Di.row_below (Di.row_mono HRW.out (Nat.le_refl _)) HB.out
      rcases row40_form hrow with ⟨_, h0⟩ | ⟨gn, cap, e⟩
      · omega
      · cases e
        obtain ⟨hyc, _⟩ := row6g hrow hgo
        rw [← adrs_getD, ← hK] at hyc
        obtain ⟨x, hx⟩ : ∃ x, x = K.getD k 0 := ⟨_, rfl⟩
        rw [← hx] at hyc
        have HX := Aside0.mk hx
        clear hx hrow
        have hi0 : (0 : Int) ≤ (k : Int) := by omega
        have hi1 : (k : Int) < (n : Int) := by omega
        have hk1n : k + 1 ≤ n := by omega
        rcases Int.lt_trichotomy x ca with hlt | heq | hgt
        · have L10b := Aside0.mk (show lastAt K ca (k + 1) = lastAt K ca k from if_neg (by rw [← HX.out]; omega))
          have L11b := Aside0.mk (show lastBeh K ca (k + 1) = k + 1 from if_pos (by rw [← HX.out]; exact hlt))
          have he : (x == ca) = false := by simp; omega
          have he' : decide (x = ca) = false := decide_eq_false (by omega)
          have hd2 : decide (x < ca) = true := decide_eq_true hlt
          go_upto_region 16 with fail
          have HR := Aside0.mk (Below.refl wr.heap.size wr)
          refine start_ (n := 8) (S := fun w' => True) (ds := []) #[false, false, false, false, false, false, false, false] (by kernel_rfl) rfl rfl trivial (fun hHeld => ?_)
          refine with_tabW r16.tab16 r16.bits16 (fun HT_ HW_ => ?_)
          refine inv_at [0, 1, 2, 3, 4, 5, 6, 7] (fun a0_ b a w' => a = putSel a0_ b [(0, 74, .slice (some ⟨gn, 0, none⟩) n c0), (1, 75, .int .i64 (k : Int)), (2, 76, .pointer (some ⟨gn, k * 6, none⟩)), (3, 77, .pointer (some ⟨gn, k * 6, none⟩)), (4, 78, .int .i64 x), (5, 79, .pointer (some ⟨g9, 1, none⟩)), (6, 80, .int .i64 ca), (7, 81, .bool false)] ∧ (Below wr.heap.size wr w')) HT_.out HW_.out (by kernel_rfl) (by kernel_rfl) ?_ ?_ ?_
          · exact ⟨by simp only [putSel, Bool.false_eq_true, if_false], below_drew1 HR.out⟩
          · skip
            clear HR
            refine steps_cons ?_ ?_
            · rintro b a w' ⟨ha, Q_HR⟩ hb_ hon hoff
              refine ⟨_, rfl, fun K hK => ?_⟩
              have e7 : a.tmps[7]? = some (.slice (some ⟨gn, 0, none⟩) n c0) := by rw [ha]; exact (putSel_off rfl).trans rfl
              replace ha := Aside0.mk ha
              have HR := Aside0.mk Q_HR
              refine value_ (w1 := w') (v := .slice (some ⟨gn, 0, none⟩) n c0) (by rfl) rfl ?_ ?_
              · go_simp
                (try simp only [i64_w])
                try rfl
              refine hK.out _ _ ⟨(by rw [ha.out]; exact putSel_upk 0 hb_ rfl rfl rfl), Q_HR⟩
            refine steps_cons ?_ ?_
            · rintro b a w' ⟨ha, Q_HR⟩ hb_ hon hoff
              refine ⟨_, rfl, fun K hK => ?_⟩
              have e12 : a.tmps[12]? = some (.int .i64 (k : Int)) := by rw [ha]; exact (putSel_off rfl).trans rfl
              replace ha := Aside0.mk ha
              have HR := Aside0.mk Q_HR
              refine value_ (w1 := w') (v := .int .i64 (k : Int)) (by rfl) rfl ?_ ?_
              · go_simp
                (try simp only [i64_w])
                try rfl
              refine hK.out _ _ ⟨(by rw [ha.out]; exact putSel_upk 1 hb_ rfl rfl rfl), Q_HR⟩
            refine steps_cons ?_ ?_
            · rintro b a w' ⟨ha, Q_HR⟩ hb_ hon hoff
              refine ⟨_, rfl, fun K hK => ?_⟩
              have e74 : a.tmps[74]? = some (.slice (some ⟨gn, 0, none⟩) n c0) := by rw [ha]; exact putSel_on (e := (0, 74, .slice (some ⟨gn, 0, none⟩) n c0)) 0 rfl rfl (hon 0 (by kernel_rfl)) rfl
              have e75 : a.tmps[75]? = some (.int .i64 (k : Int)) := by rw [ha]; exact putSel_on (e := (1, 75, .int .i64 (k : Int))) 1 rfl rfl (hon 1 (by kernel_rfl)) rfl
              replace ha := Aside0.mk ha
              have HR := Aside0.mk Q_HR
              refine value_ (w1 := w') (v := .pointer (some ⟨gn, k * 6, none⟩)) (by rfl) rfl ?_ ?_
              · go_simp
                (try simp only [i64_w])
                try rfl
              refine hK.out _ _ ⟨(by rw [ha.out]; exact putSel_upk 2 hb_ rfl rfl rfl), Q_HR⟩
            refine steps_cons ?_ ?_
            · rintro b a w' ⟨ha, Q_HR⟩ hb_ hon hoff
              refine ⟨_, rfl, fun K hK => ?_⟩
              have e76 : a.tmps[76]? = some (.pointer (some ⟨gn, k * 6, none⟩)) := by rw [ha]; exact putSel_on (e := (2, 76, .pointer (some ⟨gn, k * 6, none⟩))) 2 rfl rfl (hon 2 (by kernel_rfl)) rfl
              replace ha := Aside0.mk ha
              have HR := Aside0.mk Q_HR
              refine value_ (w1 := w') (v := .pointer (some ⟨gn, k * 6, none⟩)) (by rfl) rfl ?_ ?_
              · go_simp
                (try simp only [i64_w])
                try rfl
              refine hK.out _ _ ⟨(by rw [ha.out]; exact putSel_upk 3 hb_ rfl rfl rfl), Q_HR⟩
            refine steps_cons ?_ ?_
            · rintro b a w' ⟨ha, Q_HR⟩ hb_ hon hoff
              refine ⟨_, rfl, fun K hK => ?_⟩
              have e77 : a.tmps[77]? = some (.pointer (some ⟨gn, k * 6, none⟩)) := by rw [ha]; exact putSel_on (e := (3, 77, .pointer (some ⟨gn, k * 6, none⟩))) 3 rfl rfl (hon 3 (by kernel_rfl)) rfl
              replace ha := Aside0.mk ha
              have HR := Aside0.mk Q_HR
              have hl78 : w'.cell? ⟨gn, k * 6, none⟩ = some (.int .i64 x) := (HR.out.cell (p := ⟨gn, k * 6, none⟩) (cell_lt hyc)).trans hyc
              refine value_ (w1 := w') (v := .int .i64 x) (by rfl) rfl ?_ ?_
              · go_simp
                (try simp only [i64_w])
                try rfl
              refine hK.out _ _ ⟨(by rw [ha.out]; exact putSel_upk 4 hb_ rfl rfl rfl), Q_HR⟩
            refine steps_cons ?_ ?_
            · rintro b a w' ⟨ha, Q_HR⟩ hb_ hon hoff
              refine ⟨_, rfl, fun K hK => ?_⟩
              have e9 : a.tmps[9]? = some (.pointer (some ⟨g9, 0, none⟩)) := by rw [ha]; exact (putSel_off rfl).trans rfl
              replace ha := Aside0.mk ha
              have HR := Aside0.mk Q_HR
              refine value_ (w1 := w') (v := .pointer (some ⟨g9, 1, none⟩)) (by rfl) rfl ?_ ?_
              · go_simp
                (try simp only [i64_w])
                try rfl
              refine hK.out _ _ ⟨(by rw [ha.out]; exact putSel_upk 5 hb_ rfl rfl rfl), Q_HR⟩
            refine steps_cons ?_ ?_
            · rintro b a w' ⟨ha, Q_HR⟩ hb_ hon hoff
              refine ⟨_, rfl, fun K hK => ?_⟩
              have e79 : a.tmps[79]? = some (.pointer (some ⟨g9, 1, none⟩)) := by rw [ha]; exact putSel_on (e := (5, 79, .pointer (some ⟨g9, 1, none⟩))) 5 rfl rfl (hon 5 (by kernel_rfl)) rfl
              replace ha := Aside0.mk ha
              have HR := Aside0.mk Q_HR
              have hl80_0 : w'.cell? ⟨g9, 1, none⟩ = some (.int .i64 ca) := (blk_cell (blk_below BKr.out HR.out) 1).trans rfl
              refine value_ (w1 := w') (v := .int .i64 ca) (by rfl) rfl ?_ ?_
              · go_simp
                (try simp only [i64_w])
                try rfl
              refine hK.out _ _ ⟨(by rw [ha.out]; exact putSel_upk 6 hb_ rfl rfl rfl), Q_HR⟩
            refine steps_cons ?_ ?_
            · rintro b a w' ⟨ha, Q_HR⟩ hb_ hon hoff
              refine ⟨_, rfl, fun K hK => ?_⟩
              have e78 : a.tmps[78]? = some (.int .i64 x) := by rw [ha]; exact putSel_on (e := (4, 78, .int .i64 x)) 4 rfl rfl (hon 4 (by kernel_rfl)) rfl
              have e80 : a.tmps[80]? = some (.int .i64 ca) := by rw [ha]; exact putSel_on (e := (6, 80, .int .i64 ca)) 6 rfl rfl (hon 6 (by kernel_rfl)) rfl
              replace ha := Aside0.mk ha
              have HR := Aside0.mk Q_HR
              refine value_ (w1 := w') (v := .bool false) (by rfl) rfl ?_ ?_
              · go_simp
                (try simp only [i64_w])
                try rfl
              refine hK.out _ _ ⟨(by rw [ha.out]; exact putSel_upk 7 hb_ rfl rfl rfl), Q_HR⟩
            exact steps_nil
          rintro b a wq hall ⟨ha, Q_HR⟩
          clear HR
          have hb0_ := hall 0 (by kernel_rfl)
          have hb1_ := hall 1 (by kernel_rfl)
          have hb2_ := hall 2 (by kernel_rfl)
          have hb3_ := hall 3 (by kernel_rfl)
          have hb4_ := hall 4 (by kernel_rfl)
          have hb5_ := hall 5 (by kernel_rfl)
          have hb6_ := hall 6 (by kernel_rfl)
          have hb7_ := hall 7 (by kernel_rfl)
          subst ha
          simp only [putSel, hb0_, hb1_, hb2_, hb3_, hb4_, hb5_, hb6_, hb7_, if_true, Act.put, List.setIfInBounds_toArray, List.set_cons_zero, List.set_cons_succ]
          have HR := Aside0.mk Q_HR
          clear Q_HR
          clear hall hb0_ hb1_ hb2_ hb3_ hb4_ hb5_ hb6_ hb7_
          have hyc2 : wq.cell? ⟨gn, k * 6, none⟩ = some (.int .i64 x) := (HR.out.cell (p := ⟨gn, k * 6, none⟩) (cell_lt hyc)).trans hyc
          have BKq := Aside0.mk (blk_below BKr.out HR.out)
          have HBq := Aside0.mk (below_step HB.out HR.out)
          clear hyc HR
          have hyc := hyc2
          clear hyc2
          go_upto_region 18 with fail
          have HR := Aside0.mk (Below.refl wq.heap.size wq)
          refine start_ (n := 8) (S := fun w' => True) (ds := []) #[false, false, false, false, false, false, false, false] (by kernel_rfl) rfl rfl trivial (fun hHeld => ?_)
          refine with_tabW r18.tab18 r18.bits18 (fun HT_ HW_ => ?_)
          refine inv_at [0, 1, 2, 3, 4, 5, 6, 7] (fun a0_ b a w' => a = putSel a0_ b [(0, 83, .slice (some ⟨gn, 0, none⟩) n c0), (1, 84, .int .i64 (k : Int)), (2, 85, .pointer (some ⟨gn, k * 6, none⟩)), (3, 86, .pointer (some ⟨gn, k * 6, none⟩)), (4, 87, .int .i64 x), (5, 88, .pointer (some ⟨g9, 1, none⟩)), (6, 89, .int .i64 ca), (7, 90, .bool true)] ∧ (Below wq.heap.size wq w')) HT_.out HW_.out (by kernel_rfl) (by kernel_rfl) ?_ ?_ ?_
          · exact ⟨by simp only [putSel, Bool.false_eq_true, if_false], below_drew1 HR.out⟩
          · skip
            clear HR
            refine steps_cons ?_ ?_
            · rintro b a w' ⟨ha, Q_HR⟩ hb_ hon hoff
              refine ⟨_, rfl, fun K hK => ?_⟩
              have e7 : a.tmps[7]? = some (.slice (some ⟨gn, 0, none⟩) n c0) := by rw [ha]; exact (putSel_off rfl).trans rfl
              replace ha := Aside0.mk ha
              have HR := Aside0.mk Q_HR
              refine value_ (w1 := w') (v := .slice (some ⟨gn, 0, none⟩) n c0) (by rfl) rfl ?_ ?_
              · go_simp
                (try simp only [i64_w])
                try rfl
              refine hK.out _ _ ⟨(by rw [ha.out]; exact putSel_upk 0 hb_ rfl rfl rfl), Q_HR⟩
            refine steps_cons ?_ ?_
            · rintro b a w' ⟨ha, Q_HR⟩ hb_ hon hoff
              refine ⟨_, rfl, fun K hK => ?_⟩
              have e12 : a.tmps[12]? = some (.int .i64 (k : Int)) := by rw [ha]; exact (putSel_off rfl).trans rfl
              replace ha := Aside0.mk ha
              have HR := Aside0.mk Q_HR
              refine value_ (w1 := w') (v := .int .i64 (k : Int)) (by rfl) rfl ?_ ?_
              · go_simp
                (try simp only [i64_w])
                try rfl
              refine hK.out _ _ ⟨(by rw [ha.out]; exact putSel_upk 1 hb_ rfl rfl rfl), Q_HR⟩
            refine steps_cons ?_ ?_
            · rintro b a w' ⟨ha, Q_HR⟩ hb_ hon hoff
              refine ⟨_, rfl, fun K hK => ?_⟩
              have e83 : a.tmps[83]? = some (.slice (some ⟨gn, 0, none⟩) n c0) := by rw [ha]; exact putSel_on (e := (0, 83, .slice (some ⟨gn, 0, none⟩) n c0)) 0 rfl rfl (hon 0 (by kernel_rfl)) rfl
              have e84 : a.tmps[84]? = some (.int .i64 (k : Int)) := by rw [ha]; exact putSel_on (e := (1, 84, .int .i64 (k : Int))) 1 rfl rfl (hon 1 (by kernel_rfl)) rfl
              replace ha := Aside0.mk ha
              have HR := Aside0.mk Q_HR
              refine value_ (w1 := w') (v := .pointer (some ⟨gn, k * 6, none⟩)) (by rfl) rfl ?_ ?_
              · go_simp
                (try simp only [i64_w])
                try rfl
              refine hK.out _ _ ⟨(by rw [ha.out]; exact putSel_upk 2 hb_ rfl rfl rfl), Q_HR⟩
            refine steps_cons ?_ ?_
            · rintro b a w' ⟨ha, Q_HR⟩ hb_ hon hoff
              refine ⟨_, rfl, fun K hK => ?_⟩
              have e85 : a.tmps[85]? = some (.pointer (some ⟨gn, k * 6, none⟩)) := by rw [ha]; exact putSel_on (e := (2, 85, .pointer (some ⟨gn, k * 6, none⟩))) 2 rfl rfl (hon 2 (by kernel_rfl)) rfl
              replace ha := Aside0.mk ha
              have HR := Aside0.mk Q_HR
              refine value_ (w1 := w') (v := .pointer (some ⟨gn, k * 6, none⟩)) (by rfl) rfl ?_ ?_
              · go_simp
                (try simp only [i64_w])
                try rfl
              refine hK.out _ _ ⟨(by rw [ha.out]; exact putSel_upk 3 hb_ rfl rfl rfl), Q_HR⟩
            refine steps_cons ?_ ?_
            · rintro b a w' ⟨ha, Q_HR⟩ hb_ hon hoff
              refine ⟨_, rfl, fun K hK => ?_⟩
              have e86 : a.tmps[86]? = some (.pointer (some ⟨gn, k * 6, none⟩)) := by rw [ha]; exact putSel_on (e := (3, 86, .pointer (some ⟨gn, k * 6, none⟩))) 3 rfl rfl (hon 3 (by kernel_rfl)) rfl
              replace ha := Aside0.mk ha
              have HR := Aside0.mk Q_HR
              have hl87 : w'.cell? ⟨gn, k * 6, none⟩ = some (.int .i64 x) := (HR.out.cell (p := ⟨gn, k * 6, none⟩) (cell_lt hyc)).trans hyc
              refine value_ (w1 := w') (v := .int .i64 x) (by rfl) rfl ?_ ?_
              · go_simp
                (try simp only [i64_w])
                try rfl
              refine hK.out _ _ ⟨(by rw [ha.out]; exact putSel_upk 4 hb_ rfl rfl rfl), Q_HR⟩
            refine steps_cons ?_ ?_
            · rintro b a w' ⟨ha, Q_HR⟩ hb_ hon hoff
              refine ⟨_, rfl, fun K hK => ?_⟩
              have e9 : a.tmps[9]? = some (.pointer (some ⟨g9, 0, none⟩)) := by rw [ha]; exact (putSel_off rfl).trans rfl
              replace ha := Aside0.mk ha
              have HR := Aside0.mk Q_HR
              refine value_ (w1 := w') (v := .pointer (some ⟨g9, 1, none⟩)) (by rfl) rfl ?_ ?_
              · go_simp
                (try simp only [i64_w])
                try rfl
              refine hK.out _ _ ⟨(by rw [ha.out]; exact putSel_upk 5 hb_ rfl rfl rfl), Q_HR⟩
            refine steps_cons ?_ ?_
            · rintro b a w' ⟨ha, Q_HR⟩ hb_ hon hoff
              refine ⟨_, rfl, fun K hK => ?_⟩
              have e88 : a.tmps[88]? = some (.pointer (some ⟨g9, 1, none⟩)) := by rw [ha]; exact putSel_on (e := (5, 88, .pointer (some ⟨g9, 1, none⟩))) 5 rfl rfl (hon 5 (by kernel_rfl)) rfl
              replace ha := Aside0.mk ha
              have HR := Aside0.mk Q_HR
              have hl89_0 : w'.cell? ⟨g9, 1, none⟩ = some (.int .i64 ca) := (blk_cell (blk_below BKq.out HR.out) 1).trans rfl
              refine value_ (w1 := w') (v := .int .i64 ca) (by rfl) rfl ?_ ?_
              · go_simp
                (try simp only [i64_w])
                try rfl
              refine hK.out _ _ ⟨(by rw [ha.out]; exact putSel_upk 6 hb_ rfl rfl rfl), Q_HR⟩
            refine steps_cons ?_ ?_
            · rintro b a w' ⟨ha, Q_HR⟩ hb_ hon hoff
              refine ⟨_, rfl, fun K hK => ?_⟩
              have e87 : a.tmps[87]? = some (.int .i64 x) := by rw [ha]; exact putSel_on (e := (4, 87, .int .i64 x)) 4 rfl rfl (hon 4 (by kernel_rfl)) rfl
              have e89 : a.tmps[89]? = some (.int .i64 ca) := by rw [ha]; exact putSel_on (e := (6, 89, .int .i64 ca)) 6 rfl rfl (hon 6 (by kernel_rfl)) rfl
              replace ha := Aside0.mk ha
              have HR := Aside0.mk Q_HR
              refine value_ (w1 := w') (v := .bool true) (by rfl) rfl ?_ ?_
              · go_simp
                (try simp only [i64_w])
                try rfl
              refine hK.out _ _ ⟨(by rw [ha.out]; exact putSel_upk 7 hb_ rfl rfl rfl), Q_HR⟩
            exact steps_nil
          rintro b a wz hall ⟨ha, Q_HR⟩
          clear HR
          have hb0_ := hall 0 (by kernel_rfl)
          have hb1_ := hall 1 (by kernel_rfl)
          have hb2_ := hall 2 (by kernel_rfl)
          have hb3_ := hall 3 (by kernel_rfl)
          have hb4_ := hall 4 (by kernel_rfl)
          have hb5_ := hall 5 (by kernel_rfl)
          have hb6_ := hall 6 (by kernel_rfl)
          have hb7_ := hall 7 (by kernel_rfl)
          subst ha
          simp only [putSel, hb0_, hb1_, hb2_, hb3_, hb4_, hb5_, hb6_, hb7_, if_true, Act.put, List.setIfInBounds_toArray, List.set_cons_zero, List.set_cons_succ]
          have HR := Aside0.mk Q_HR
          clear Q_HR
          clear hall hb0_ hb1_ hb2_ hb3_ hb4_ hb5_ hb6_ hb7_
          have HBz := Aside0.mk (below_step HBq.out HR.out)
          have BKz := Aside0.mk (blk_below BKq.out HR.out)
          go_wp2
          go_roundw
          case measure => exact meas_i hgo (by push_cast; rfl)
          case rel => exact ⟨k + 1, hk1n, by push_cast; rfl, Aside0.mk (by rw [L10b.out]), Aside0.mk (by rw [L11b.out]; push_cast; rfl), HBz, BKz⟩
        · have L10b := Aside0.mk (show lastAt K ca (k + 1) = (k : Int) from if_pos (by rw [← HX.out]; exact heq))
          have L11b := Aside0.mk (show lastBeh K ca (k + 1) = lastBeh K ca k from if_neg (by rw [← HX.out]; omega))
          have he : (x == ca) = true := by simp; omega
          have he' : decide (x = ca) = true := decide_eq_true (by omega)
          have hd2 : decide (x < ca) = false := decide_eq_false (by omega)
          go_upto_region 16 with fail
          have HR := Aside0.mk (Below.refl wr.heap.size wr)
          refine start_ (n := 8) (S := fun w' => True) (ds := []) #[false, false, false, false, false, false, false, false] (by kernel_rfl) rfl rfl trivial (fun hHeld => ?_)
          refine with_tabW r16.tab16 r16.bits16 (fun HT_ HW_ => ?_)
          refine inv_at [0, 1, 2, 3, 4, 5, 6, 7] (fun a0_ b a w' => a = putSel a0_ b [(0, 74, .slice (some ⟨gn, 0, none⟩) n c0), (1, 75, .int .i64 (k : Int)), (2, 76, .pointer (some ⟨gn, k * 6, none⟩)), (3, 77, .pointer (some ⟨gn, k * 6, none⟩)), (4, 78, .int .i64 x), (5, 79, .pointer (some ⟨g9, 1, none⟩)), (6, 80, .int .i64 ca), (7, 81, .bool true)] ∧ (Below wr.heap.size wr w')) HT_.out HW_.out (by kernel_rfl) (by kernel_rfl) ?_ ?_ ?_
          · exact ⟨by simp only [putSel, Bool.false_eq_true, if_false], below_drew1 HR.out⟩
          · skip
            clear HR
            refine steps_cons ?_ ?_
            · rintro b a w' ⟨ha, Q_HR⟩ hb_ hon hoff
              refine ⟨_, rfl, fun K hK => ?_⟩
              have e7 : a.tmps[7]? = some (.slice (some ⟨gn, 0, none⟩) n c0) := by rw [ha]; exact (putSel_off rfl).trans rfl
              replace ha := Aside0.mk ha
              have HR := Aside0.mk Q_HR
              refine value_ (w1 := w') (v := .slice (some ⟨gn, 0, none⟩) n c0) (by rfl) rfl ?_ ?_
              · go_simp
                (try simp only [i64_w])
                try rfl
              refine hK.out _ _ ⟨(by rw [ha.out]; exact putSel_upk 0 hb_ rfl rfl rfl), Q_HR⟩
            refine steps_cons ?_ ?_
            · rintro b a w' ⟨ha, Q_HR⟩ hb_ hon hoff
              refine ⟨_, rfl, fun K hK => ?_⟩
              have e12 : a.tmps[12]? = some (.int .i64 (k : Int)) := by rw [ha]; exact (putSel_off rfl).trans rfl
              replace ha := Aside0.mk ha
              have HR := Aside0.mk Q_HR
              refine value_ (w1 := w') (v := .int .i64 (k : Int)) (by rfl) rfl ?_ ?_
              · go_simp
                (try simp only [i64_w])
                try rfl
              refine hK.out _ _ ⟨(by rw [ha.out]; exact putSel_upk 1 hb_ rfl rfl rfl), Q_HR⟩
            refine steps_cons ?_ ?_
            · rintro b a w' ⟨ha, Q_HR⟩ hb_ hon hoff
              refine ⟨_, rfl, fun K hK => ?_⟩
              have e74 : a.tmps[74]? = some (.slice (some ⟨gn, 0, none⟩) n c0) := by rw [ha]; exact putSel_on (e := (0, 74, .slice (some ⟨gn, 0, none⟩) n c0)) 0 rfl rfl (hon 0 (by kernel_rfl)) rfl
              have e75 : a.tmps[75]? = some (.int .i64 (k : Int)) := by rw [ha]; exact putSel_on (e := (1, 75, .int .i64 (k : Int))) 1 rfl rfl (hon 1 (by kernel_rfl)) rfl
              replace ha := Aside0.mk ha
              have HR := Aside0.mk Q_HR
              refine value_ (w1 := w') (v := .pointer (some ⟨gn, k * 6, none⟩)) (by rfl) rfl ?_ ?_
              · go_simp
                (try simp only [i64_w])
                try rfl
              refine hK.out _ _ ⟨(by rw [ha.out]; exact putSel_upk 2 hb_ rfl rfl rfl), Q_HR⟩
            refine steps_cons ?_ ?_
            · rintro b a w' ⟨ha, Q_HR⟩ hb_ hon hoff
              refine ⟨_, rfl, fun K hK => ?_⟩
              have e76 : a.tmps[76]? = some (.pointer (some ⟨gn, k * 6, none⟩)) := by rw [ha]; exact putSel_on (e := (2, 76, .pointer (some ⟨gn, k * 6, none⟩))) 2 rfl rfl (hon 2 (by kernel_rfl)) rfl
              replace ha := Aside0.mk ha
              have HR := Aside0.mk Q_HR
              refine value_ (w1 := w') (v := .pointer (some ⟨gn, k * 6, none⟩)) (by rfl) rfl ?_ ?_
              · go_simp
                (try simp only [i64_w])
                try rfl
              refine hK.out _ _ ⟨(by rw [ha.out]; exact putSel_upk 3 hb_ rfl rfl rfl), Q_HR⟩
            refine steps_cons ?_ ?_
            · rintro b a w' ⟨ha, Q_HR⟩ hb_ hon hoff
              refine ⟨_, rfl, fun K hK => ?_⟩
              have e77 : a.tmps[77]? = some (.pointer (some ⟨gn, k * 6, none⟩)) := by rw [ha]; exact putSel_on (e := (3, 77, .pointer (some ⟨gn, k * 6, none⟩))) 3 rfl rfl (hon 3 (by kernel_rfl)) rfl
              replace ha := Aside0.mk ha
              have HR := Aside0.mk Q_HR
              have hl78 : w'.cell? ⟨gn, k * 6, none⟩ = some (.int .i64 x) := (HR.out.cell (p := ⟨gn, k * 6, none⟩) (cell_lt hyc)).trans hyc
              refine value_ (w1 := w') (v := .int .i64 x) (by rfl) rfl ?_ ?_
              · go_simp
                (try simp only [i64_w])
                try rfl
              refine hK.out _ _ ⟨(by rw [ha.out]; exact putSel_upk 4 hb_ rfl rfl rfl), Q_HR⟩
            refine steps_cons ?_ ?_
            · rintro b a w' ⟨ha, Q_HR⟩ hb_ hon hoff
              refine ⟨_, rfl, fun K hK => ?_⟩
              have e9 : a.tmps[9]? = some (.pointer (some ⟨g9, 0, none⟩)) := by rw [ha]; exact (putSel_off rfl).trans rfl
              replace ha := Aside0.mk ha
              have HR := Aside0.mk Q_HR
              refine value_ (w1 := w') (v := .pointer (some ⟨g9, 1, none⟩)) (by rfl) rfl ?_ ?_
              · go_simp
                (try simp only [i64_w])
                try rfl
              refine hK.out _ _ ⟨(by rw [ha.out]; exact putSel_upk 5 hb_ rfl rfl rfl), Q_HR⟩
            refine steps_cons ?_ ?_
            · rintro b a w' ⟨ha, Q_HR⟩ hb_ hon hoff
              refine ⟨_, rfl, fun K hK => ?_⟩
              have e79 : a.tmps[79]? = some (.pointer (some ⟨g9, 1, none⟩)) := by rw [ha]; exact putSel_on (e := (5, 79, .pointer (some ⟨g9, 1, none⟩))) 5 rfl rfl (hon 5 (by kernel_rfl)) rfl
              replace ha := Aside0.mk ha
              have HR := Aside0.mk Q_HR
              have hl80_0 : w'.cell? ⟨g9, 1, none⟩ = some (.int .i64 ca) := (blk_cell (blk_below BKr.out HR.out) 1).trans rfl
              refine value_ (w1 := w') (v := .int .i64 ca) (by rfl) rfl ?_ ?_
              · go_simp
                (try simp only [i64_w])
                try rfl
              refine hK.out _ _ ⟨(by rw [ha.out]; exact putSel_upk 6 hb_ rfl rfl rfl), Q_HR⟩
            refine steps_cons ?_ ?_
            · rintro b a w' ⟨ha, Q_HR⟩ hb_ hon hoff
              refine ⟨_, rfl, fun K hK => ?_⟩
              have e78 : a.tmps[78]? = some (.int .i64 x) := by rw [ha]; exact putSel_on (e := (4, 78, .int .i64 x)) 4 rfl rfl (hon 4 (by kernel_rfl)) rfl
              have e80 : a.tmps[80]? = some (.int .i64 ca) := by rw [ha]; exact putSel_on (e := (6, 80, .int .i64 ca)) 6 rfl rfl (hon 6 (by kernel_rfl)) rfl
              replace ha := Aside0.mk ha
              have HR := Aside0.mk Q_HR
              refine value_ (w1 := w') (v := .bool true) (by rfl) rfl ?_ ?_
              · go_simp
                (try simp only [i64_w])
                try rfl
              refine hK.out _ _ ⟨(by rw [ha.out]; exact putSel_upk 7 hb_ rfl rfl rfl), Q_HR⟩
            exact steps_nil
          rintro b a wq hall ⟨ha, Q_HR⟩
          clear HR
          have hb0_ := hall 0 (by kernel_rfl)
          have hb1_ := hall 1 (by kernel_rfl)
          have hb2_ := hall 2 (by kernel_rfl)
          have hb3_ := hall 3 (by kernel_rfl)
          have hb4_ := hall 4 (by kernel_rfl)
          have hb5_ := hall 5 (by kernel_rfl)
          have hb6_ := hall 6 (by kernel_rfl)
          have hb7_ := hall 7 (by kernel_rfl)
          subst ha
          simp only [putSel, hb0_, hb1_, hb2_, hb3_, hb4_, hb5_, hb6_, hb7_, if_true, Act.put, List.setIfInBounds_toArray, List.set_cons_zero, List.set_cons_succ]
          have HR := Aside0.mk Q_HR
          clear Q_HR
          clear hall hb0_ hb1_ hb2_ hb3_ hb4_ hb5_ hb6_ hb7_
          have hyc2 : wq.cell? ⟨gn, k * 6, none⟩ = some (.int .i64 x) := (HR.out.cell (p := ⟨gn, k * 6, none⟩) (cell_lt hyc)).trans hyc
          have BKq := Aside0.mk (blk_below BKr.out HR.out)
          have HBq := Aside0.mk (below_step HB.out HR.out)
          clear hyc HR
          have hyc := hyc2
          clear hyc2
          go_upto_region 18 with fail
          have HR := Aside0.mk (Below.refl wq.heap.size wq)
          refine start_ (n := 8) (S := fun w' => True) (ds := []) #[false, false, false, false, false, false, false, false] (by kernel_rfl) rfl rfl trivial (fun hHeld => ?_)
          refine with_tabW r18.tab18 r18.bits18 (fun HT_ HW_ => ?_)
          refine inv_at [0, 1, 2, 3, 4, 5, 6, 7] (fun a0_ b a w' => a = putSel a0_ b [(0, 83, .slice (some ⟨gn, 0, none⟩) n c0), (1, 84, .int .i64 (k : Int)), (2, 85, .pointer (some ⟨gn, k * 6, none⟩)), (3, 86, .pointer (some ⟨gn, k * 6, none⟩)), (4, 87, .int .i64 x), (5, 88, .pointer (some ⟨g9, 1, none⟩)), (6, 89, .int .i64 ca), (7, 90, .bool false)] ∧ (Below wq.heap.size wq w')) HT_.out HW_.out (by kernel_rfl) (by kernel_rfl) ?_ ?_ ?_
          · exact ⟨by simp only [putSel, Bool.false_eq_true, if_false], below_drew1 HR.out⟩
          · skip
            clear HR
            refine steps_cons ?_ ?_
            · rintro b a w' ⟨ha, Q_HR⟩ hb_ hon hoff
              refine ⟨_, rfl, fun K hK => ?_⟩
              have e7 : a.tmps[7]? = some (.slice (some ⟨gn, 0, none⟩) n c0) := by rw [ha]; exact (putSel_off rfl).trans rfl
              replace ha := Aside0.mk ha
              have HR := Aside0.mk Q_HR
              refine value_ (w1 := w') (v := .slice (some ⟨gn, 0, none⟩) n c0) (by rfl) rfl ?_ ?_
              · go_simp
                (try simp only [i64_w])
                try rfl
              refine hK.out _ _ ⟨(by rw [ha.out]; exact putSel_upk 0 hb_ rfl rfl rfl), Q_HR⟩
            refine steps_cons ?_ ?_
            · rintro b a w' ⟨ha, Q_HR⟩ hb_ hon hoff
              refine ⟨_, rfl, fun K hK => ?_⟩
              have e12 : a.tmps[12]? = some (.int .i64 (k : Int)) := by rw [ha]; exact (putSel_off rfl).trans rfl
              replace ha := Aside0.mk ha
              have HR := Aside0.mk Q_HR
              refine value_ (w1 := w') (v := .int .i64 (k : Int)) (by rfl) rfl ?_ ?_
              · go_simp
                (try simp only [i64_w])
                try rfl
              refine hK.out _ _ ⟨(by rw [ha.out]; exact putSel_upk 1 hb_ rfl rfl rfl), Q_HR⟩
            refine steps_cons ?_ ?_
            · rintro b a w' ⟨ha, Q_HR⟩ hb_ hon hoff
              refine ⟨_, rfl, fun K hK => ?_⟩
              have e83 : a.tmps[83]? = some (.slice (some ⟨gn, 0, none⟩) n c0) := by rw [ha]; exact putSel_on (e := (0, 83, .slice (some ⟨gn, 0, none⟩) n c0)) 0 rfl rfl (hon 0 (by kernel_rfl)) rfl
              have e84 : a.tmps[84]? = some (.int .i64 (k : Int)) := by rw [ha]; exact putSel_on (e := (1, 84, .int .i64 (k : Int))) 1 rfl rfl (hon 1 (by kernel_rfl)) rfl
              replace ha := Aside0.mk ha
              have HR := Aside0.mk Q_HR
              refine value_ (w1 := w') (v := .pointer (some ⟨gn, k * 6, none⟩)) (by rfl) rfl ?_ ?_
              · go_simp
                (try simp only [i64_w])
                try rfl
              refine hK.out _ _ ⟨(by rw [ha.out]; exact putSel_upk 2 hb_ rfl rfl rfl), Q_HR⟩
            refine steps_cons ?_ ?_
            · rintro b a w' ⟨ha, Q_HR⟩ hb_ hon hoff
              refine ⟨_, rfl, fun K hK => ?_⟩
              have e85 : a.tmps[85]? = some (.pointer (some ⟨gn, k * 6, none⟩)) := by rw [ha]; exact putSel_on (e := (2, 85, .pointer (some ⟨gn, k * 6, none⟩))) 2 rfl rfl (hon 2 (by kernel_rfl)) rfl
              replace ha := Aside0.mk ha
              have HR := Aside0.mk Q_HR
              refine value_ (w1 := w') (v := .pointer (some ⟨gn, k * 6, none⟩)) (by rfl) rfl ?_ ?_
              · go_simp
                (try simp only [i64_w])
                try rfl
              refine hK.out _ _ ⟨(by rw [ha.out]; exact putSel_upk 3 hb_ rfl rfl rfl), Q_HR⟩
            refine steps_cons ?_ ?_
            · rintro b a w' ⟨ha, Q_HR⟩ hb_ hon hoff
              refine ⟨_, rfl, fun K hK => ?_⟩
              have e86 : a.tmps[86]? = some (.pointer (some ⟨gn, k * 6, none⟩)) := by rw [ha]; exact putSel_on (e := (3, 86, .pointer (some ⟨gn, k * 6, none⟩))) 3 rfl rfl (hon 3 (by kernel_rfl)) rfl
              replace ha := Aside0.mk ha
              have HR := Aside0.mk Q_HR
              have hl87 : w'.cell? ⟨gn, k * 6, none⟩ = some (.int .i64 x) := (HR.out.cell (p := ⟨gn, k * 6, none⟩) (cell_lt hyc)).trans hyc
              refine value_ (w1 := w') (v := .int .i64 x) (by rfl) rfl ?_ ?_
              · go_simp
                (try simp only [i64_w])
                try rfl
              refine hK.out _ _ ⟨(by rw [ha.out]; exact putSel_upk 4 hb_ rfl rfl rfl), Q_HR⟩
            refine steps_cons ?_ ?_
            · rintro b a w' ⟨ha, Q_HR⟩ hb_ hon hoff
              refine ⟨_, rfl, fun K hK => ?_⟩
              have e9 : a.tmps[9]? = some (.pointer (some ⟨g9, 0, none⟩)) := by rw [ha]; exact (putSel_off rfl).trans rfl
              replace ha := Aside0.mk ha
              have HR := Aside0.mk Q_HR
              refine value_ (w1 := w') (v := .pointer (some ⟨g9, 1, none⟩)) (by rfl) rfl ?_ ?_
              · go_simp
                (try simp only [i64_w])
                try rfl
              refine hK.out _ _ ⟨(by rw [ha.out]; exact putSel_upk 5 hb_ rfl rfl rfl), Q_HR⟩
            refine steps_cons ?_ ?_
            · rintro b a w' ⟨ha, Q_HR⟩ hb_ hon hoff
              refine ⟨_, rfl, fun K hK => ?_⟩
              have e88 : a.tmps[88]? = some (.pointer (some ⟨g9, 1, none⟩)) := by rw [ha]; exact putSel_on (e := (5, 88, .pointer (some ⟨g9, 1, none⟩))) 5 rfl rfl (hon 5 (by kernel_rfl)) rfl
              replace ha := Aside0.mk ha
              have HR := Aside0.mk Q_HR
              have hl89_0 : w'.cell? ⟨g9, 1, none⟩ = some (.int .i64 ca) := (blk_cell (blk_below BKq.out HR.out) 1).trans rfl
              refine value_ (w1 := w') (v := .int .i64 ca) (by rfl) rfl ?_ ?_
              · go_simp
                (try simp only [i64_w])
                try rfl
              refine hK.out _ _ ⟨(by rw [ha.out]; exact putSel_upk 6 hb_ rfl rfl rfl), Q_HR⟩
            refine steps_cons ?_ ?_
            · rintro b a w' ⟨ha, Q_HR⟩ hb_ hon hoff
              refine ⟨_, rfl, fun K hK => ?_⟩
              have e87 : a.tmps[87]? = some (.int .i64 x) := by rw [ha]; exact putSel_on (e := (4, 87, .int .i64 x)) 4 rfl rfl (hon 4 (by kernel_rfl)) rfl
              have e89 : a.tmps[89]? = some (.int .i64 ca) := by rw [ha]; exact putSel_on (e := (6, 89, .int .i64 ca)) 6 rfl rfl (hon 6 (by kernel_rfl)) rfl
              replace ha := Aside0.mk ha
              have HR := Aside0.mk Q_HR
              refine value_ (w1 := w') (v := .bool false) (by rfl) rfl ?_ ?_
              · go_simp
                (try simp only [i64_w])
                try rfl
              refine hK.out _ _ ⟨(by rw [ha.out]; exact putSel_upk 7 hb_ rfl rfl rfl), Q_HR⟩
            exact steps_nil
          rintro b a wz hall ⟨ha, Q_HR⟩
          clear HR
          have hb0_ := hall 0 (by kernel_rfl)
          have hb1_ := hall 1 (by kernel_rfl)
          have hb2_ := hall 2 (by kernel_rfl)
          have hb3_ := hall 3 (by kernel_rfl)
          have hb4_ := hall 4 (by kernel_rfl)
          have hb5_ := hall 5 (by kernel_rfl)
          have hb6_ := hall 6 (by kernel_rfl)
          have hb7_ := hall 7 (by kernel_rfl)
          subst ha
          simp only [putSel, hb0_, hb1_, hb2_, hb3_, hb4_, hb5_, hb6_, hb7_, if_true, Act.put, List.setIfInBounds_toArray, List.set_cons_zero, List.set_cons_succ]
          have HR := Aside0.mk Q_HR
          clear Q_HR
          clear hall hb0_ hb1_ hb2_ hb3_ hb4_ hb5_ hb6_ hb7_
          have HBz := Aside0.mk (below_step HBq.out HR.out)
          have BKz := Aside0.mk (blk_below BKq.out HR.out)
          go_wp2
          go_roundw
          case measure => exact meas_i hgo (by push_cast; rfl)
          case rel => exact ⟨k + 1, hk1n, by push_cast; rfl, Aside0.mk (by rw [L10b.out]), Aside0.mk (by rw [L11b.out]), HBz, BKz⟩
        · have L10b := Aside0.mk (show lastAt K ca (k + 1) = lastAt K ca k from if_neg (by rw [← HX.out]; omega))
          have L11b := Aside0.mk (show lastBeh K ca (k + 1) = lastBeh K ca k from if_neg (by rw [← HX.out]; omega))
          have he : (x == ca) = false := by simp; omega
          have he' : decide (x = ca) = false := decide_eq_false (by omega)
          have hd2 : decide (x < ca) = false := decide_eq_false (by omega)
          go_upto_region 16 with fail
          have HR := Aside0.mk (Below.refl wr.heap.size wr)
          refine start_ (n := 8) (S := fun w' => True) (ds := []) #[false, false, false, false, false, false, false, false] (by kernel_rfl) rfl rfl trivial (fun hHeld => ?_)
          refine with_tabW r16.tab16 r16.bits16 (fun HT_ HW_ => ?_)
          refine inv_at [0, 1, 2, 3, 4, 5, 6, 7] (fun a0_ b a w' => a = putSel a0_ b [(0, 74, .slice (some ⟨gn, 0, none⟩) n c0), (1, 75, .int .i64 (k : Int)), (2, 76, .pointer (some ⟨gn, k * 6, none⟩)), (3, 77, .pointer (some ⟨gn, k * 6, none⟩)), (4, 78, .int .i64 x), (5, 79, .pointer (some ⟨g9, 1, none⟩)), (6, 80, .int .i64 ca), (7, 81, .bool false)] ∧ (Below wr.heap.size wr w')) HT_.out HW_.out (by kernel_rfl) (by kernel_rfl) ?_ ?_ ?_
          · exact ⟨by simp only [putSel, Bool.false_eq_true, if_false], below_drew1 HR.out⟩
          · skip
            clear HR
            refine steps_cons ?_ ?_
            · rintro b a w' ⟨ha, Q_HR⟩ hb_ hon hoff
              refine ⟨_, rfl, fun K hK => ?_⟩
              have e7 : a.tmps[7]? = some (.slice (some ⟨gn, 0, none⟩) n c0) := by rw [ha]; exact (putSel_off rfl).trans rfl
              replace ha := Aside0.mk ha
              have HR := Aside0.mk Q_HR
              refine value_ (w1 := w') (v := .slice (some ⟨gn, 0, none⟩) n c0) (by rfl) rfl ?_ ?_
              · go_simp
                (try simp only [i64_w])
                try rfl
              refine hK.out _ _ ⟨(by rw [ha.out]; exact putSel_upk 0 hb_ rfl rfl rfl), Q_HR⟩
            refine steps_cons ?_ ?_
            · rintro b a w' ⟨ha, Q_HR⟩ hb_ hon hoff
              refine ⟨_, rfl, fun K hK => ?_⟩
              have e12 : a.tmps[12]? = some (.int .i64 (k : Int)) := by rw [ha]; exact (putSel_off rfl).trans rfl
              replace ha := Aside0.mk ha
              have HR := Aside0.mk Q_HR
              refine value_ (w1 := w') (v := .int .i64 (k : Int)) (by rfl) rfl ?_ ?_
              · go_simp
                (try simp only [i64_w])
                try rfl
              refine hK.out _ _ ⟨(by rw [ha.out]; exact putSel_upk 1 hb_ rfl rfl rfl), Q_HR⟩
            refine steps_cons ?_ ?_
            · rintro b a w' ⟨ha, Q_HR⟩ hb_ hon hoff
              refine ⟨_, rfl, fun K hK => ?_⟩
              have e74 : a.tmps[74]? = some (.slice (some ⟨gn, 0, none⟩) n c0) := by rw [ha]; exact putSel_on (e := (0, 74, .slice (some ⟨gn, 0, none⟩) n c0)) 0 rfl rfl (hon 0 (by kernel_rfl)) rfl
              have e75 : a.tmps[75]? = some (.int .i64 (k : Int)) := by rw [ha]; exact putSel_on (e := (1, 75, .int .i64 (k : Int))) 1 rfl rfl (hon 1 (by kernel_rfl)) rfl
              replace ha := Aside0.mk ha
              have HR := Aside0.mk Q_HR
              refine value_ (w1 := w') (v := .pointer (some ⟨gn, k * 6, none⟩)) (by rfl) rfl ?_ ?_
              · go_simp
                (try simp only [i64_w])
                try rfl
              refine hK.out _ _ ⟨(by rw [ha.out]; exact putSel_upk 2 hb_ rfl rfl rfl), Q_HR⟩
            refine steps_cons ?_ ?_
            · rintro b a w' ⟨ha, Q_HR⟩ hb_ hon hoff
              refine ⟨_, rfl, fun K hK => ?_⟩
              have e76 : a.tmps[76]? = some (.pointer (some ⟨gn, k * 6, none⟩)) := by rw [ha]; exact putSel_on (e := (2, 76, .pointer (some ⟨gn, k * 6, none⟩))) 2 rfl rfl (hon 2 (by kernel_rfl)) rfl
              replace ha := Aside0.mk ha
              have HR := Aside0.mk Q_HR
              refine value_ (w1 := w') (v := .pointer (some ⟨gn, k * 6, none⟩)) (by rfl) rfl ?_ ?_
              · go_simp
                (try simp only [i64_w])
                try rfl
              refine hK.out _ _ ⟨(by rw [ha.out]; exact putSel_upk 3 hb_ rfl rfl rfl), Q_HR⟩
            refine steps_cons ?_ ?_
            · rintro b a w' ⟨ha, Q_HR⟩ hb_ hon hoff
              refine ⟨_, rfl, fun K hK => ?_⟩
              have e77 : a.tmps[77]? = some (.pointer (some ⟨gn, k * 6, none⟩)) := by rw [ha]; exact putSel_on (e := (3, 77, .pointer (some ⟨gn, k * 6, none⟩))) 3 rfl rfl (hon 3 (by kernel_rfl)) rfl
              replace ha := Aside0.mk ha
              have HR := Aside0.mk Q_HR
              have hl78 : w'.cell? ⟨gn, k * 6, none⟩ = some (.int .i64 x) := (HR.out.cell (p := ⟨gn, k * 6, none⟩) (cell_lt hyc)).trans hyc
              refine value_ (w1 := w') (v := .int .i64 x) (by rfl) rfl ?_ ?_
              · go_simp
                (try simp only [i64_w])
                try rfl
              refine hK.out _ _ ⟨(by rw [ha.out]; exact putSel_upk 4 hb_ rfl rfl rfl), Q_HR⟩
            refine steps_cons ?_ ?_
            · rintro b a w' ⟨ha, Q_HR⟩ hb_ hon hoff
              refine ⟨_, rfl, fun K hK => ?_⟩
              have e9 : a.tmps[9]? = some (.pointer (some ⟨g9, 0, none⟩)) := by rw [ha]; exact (putSel_off rfl).trans rfl
              replace ha := Aside0.mk ha
              have HR := Aside0.mk Q_HR
              refine value_ (w1 := w') (v := .pointer (some ⟨g9, 1, none⟩)) (by rfl) rfl ?_ ?_
              · go_simp
                (try simp only [i64_w])
                try rfl
              refine hK.out _ _ ⟨(by rw [ha.out]; exact putSel_upk 5 hb_ rfl rfl rfl), Q_HR⟩
            refine steps_cons ?_ ?_
            · rintro b a w' ⟨ha, Q_HR⟩ hb_ hon hoff
              refine ⟨_, rfl, fun K hK => ?_⟩
              have e79 : a.tmps[79]? = some (.pointer (some ⟨g9, 1, none⟩)) := by rw [ha]; exact putSel_on (e := (5, 79, .pointer (some ⟨g9, 1, none⟩))) 5 rfl rfl (hon 5 (by kernel_rfl)) rfl
              replace ha := Aside0.mk ha
              have HR := Aside0.mk Q_HR
              have hl80_0 : w'.cell? ⟨g9, 1, none⟩ = some (.int .i64 ca) := (blk_cell (blk_below BKr.out HR.out) 1).trans rfl
              refine value_ (w1 := w') (v := .int .i64 ca) (by rfl) rfl ?_ ?_
              · go_simp
                (try simp only [i64_w])
                try rfl
              refine hK.out _ _ ⟨(by rw [ha.out]; exact putSel_upk 6 hb_ rfl rfl rfl), Q_HR⟩
            refine steps_cons ?_ ?_
            · rintro b a w' ⟨ha, Q_HR⟩ hb_ hon hoff
              refine ⟨_, rfl, fun K hK => ?_⟩
              have e78 : a.tmps[78]? = some (.int .i64 x) := by rw [ha]; exact putSel_on (e := (4, 78, .int .i64 x)) 4 rfl rfl (hon 4 (by kernel_rfl)) rfl
              have e80 : a.tmps[80]? = some (.int .i64 ca) := by rw [ha]; exact putSel_on (e := (6, 80, .int .i64 ca)) 6 rfl rfl (hon 6 (by kernel_rfl)) rfl
              replace ha := Aside0.mk ha
              have HR := Aside0.mk Q_HR
              refine value_ (w1 := w') (v := .bool false) (by rfl) rfl ?_ ?_
              · go_simp
                (try simp only [i64_w])
                try rfl
              refine hK.out _ _ ⟨(by rw [ha.out]; exact putSel_upk 7 hb_ rfl rfl rfl), Q_HR⟩
            exact steps_nil
          rintro b a wq hall ⟨ha, Q_HR⟩
          clear HR
          have hb0_ := hall 0 (by kernel_rfl)
          have hb1_ := hall 1 (by kernel_rfl)
          have hb2_ := hall 2 (by kernel_rfl)
          have hb3_ := hall 3 (by kernel_rfl)
          have hb4_ := hall 4 (by kernel_rfl)
          have hb5_ := hall 5 (by kernel_rfl)
          have hb6_ := hall 6 (by kernel_rfl)
          have hb7_ := hall 7 (by kernel_rfl)
          subst ha
          simp only [putSel, hb0_, hb1_, hb2_, hb3_, hb4_, hb5_, hb6_, hb7_, if_true, Act.put, List.setIfInBounds_toArray, List.set_cons_zero, List.set_cons_succ]
          have HR := Aside0.mk Q_HR
          clear Q_HR
          clear hall hb0_ hb1_ hb2_ hb3_ hb4_ hb5_ hb6_ hb7_
          have hyc2 : wq.cell? ⟨gn, k * 6, none⟩ = some (.int .i64 x) := (HR.out.cell (p := ⟨gn, k * 6, none⟩) (cell_lt hyc)).trans hyc
          have BKq := Aside0.mk (blk_below BKr.out HR.out)
          have HBq := Aside0.mk (below_step HB.out HR.out)
          clear hyc HR
          have hyc := hyc2
          clear hyc2
          go_upto_region 18 with fail
          have HR := Aside0.mk (Below.refl wq.heap.size wq)
          refine start_ (n := 8) (S := fun w' => True) (ds := []) #[false, false, false, false, false, false, false, false] (by kernel_rfl) rfl rfl trivial (fun hHeld => ?_)
          refine with_tabW r18.tab18 r18.bits18 (fun HT_ HW_ => ?_)
          refine inv_at [0, 1, 2, 3, 4, 5, 6, 7] (fun a0_ b a w' => a = putSel a0_ b [(0, 83, .slice (some ⟨gn, 0, none⟩) n c0), (1, 84, .int .i64 (k : Int)), (2, 85, .pointer (some ⟨gn, k * 6, none⟩)), (3, 86, .pointer (some ⟨gn, k * 6, none⟩)), (4, 87, .int .i64 x), (5, 88, .pointer (some ⟨g9, 1, none⟩)), (6, 89, .int .i64 ca), (7, 90, .bool false)] ∧ (Below wq.heap.size wq w')) HT_.out HW_.out (by kernel_rfl) (by kernel_rfl) ?_ ?_ ?_
          · exact ⟨by simp only [putSel, Bool.false_eq_true, if_false], below_drew1 HR.out⟩
          · skip
            clear HR
            refine steps_cons ?_ ?_
            · rintro b a w' ⟨ha, Q_HR⟩ hb_ hon hoff
              refine ⟨_, rfl, fun K hK => ?_⟩
              have e7 : a.tmps[7]? = some (.slice (some ⟨gn, 0, none⟩) n c0) := by rw [ha]; exact (putSel_off rfl).trans rfl
              replace ha := Aside0.mk ha
              have HR := Aside0.mk Q_HR
              refine value_ (w1 := w') (v := .slice (some ⟨gn, 0, none⟩) n c0) (by rfl) rfl ?_ ?_
              · go_simp
                (try simp only [i64_w])
                try rfl
              refine hK.out _ _ ⟨(by rw [ha.out]; exact putSel_upk 0 hb_ rfl rfl rfl), Q_HR⟩
            refine steps_cons ?_ ?_
            · rintro b a w' ⟨ha, Q_HR⟩ hb_ hon hoff
              refine ⟨_, rfl, fun K hK => ?_⟩
              have e12 : a.tmps[12]? = some (.int .i64 (k : Int)) := by rw [ha]; exact (putSel_off rfl).trans rfl
              replace ha := Aside0.mk ha
              have HR := Aside0.mk Q_HR
              refine value_ (w1 := w') (v := .int .i64 (k : Int)) (by rfl) rfl ?_ ?_
              · go_simp
                (try simp only [i64_w])
                try rfl
              refine hK.out _ _ ⟨(by rw [ha.out]; exact putSel_upk 1 hb_ rfl rfl rfl), Q_HR⟩
            refine steps_cons ?_ ?_
            · rintro b a w' ⟨ha, Q_HR⟩ hb_ hon hoff
              refine ⟨_, rfl, fun K hK => ?_⟩
              have e83 : a.tmps[83]? = some (.slice (some ⟨gn, 0, none⟩) n c0) := by rw [ha]; exact putSel_on (e := (0, 83, .slice (some ⟨gn, 0, none⟩) n c0)) 0 rfl rfl (hon 0 (by kernel_rfl)) rfl
              have e84 : a.tmps[84]? = some (.int .i64 (k : Int)) := by rw [ha]; exact putSel_on (e := (1, 84, .int .i64 (k : Int))) 1 rfl rfl (hon 1 (by kernel_rfl)) rfl
              replace ha := Aside0.mk ha
              have HR := Aside0.mk Q_HR
              refine value_ (w1 := w') (v := .pointer (some ⟨gn, k * 6, none⟩)) (by rfl) rfl ?_ ?_
              · go_simp
                (try simp only [i64_w])
                try rfl
              refine hK.out _ _ ⟨(by rw [ha.out]; exact putSel_upk 2 hb_ rfl rfl rfl), Q_HR⟩
            refine steps_cons ?_ ?_
            · rintro b a w' ⟨ha, Q_HR⟩ hb_ hon hoff
              refine ⟨_, rfl, fun K hK => ?_⟩
              have e85 : a.tmps[85]? = some (.pointer (some ⟨gn, k * 6, none⟩)) := by rw [ha]; exact putSel_on (e := (2, 85, .pointer (some ⟨gn, k * 6, none⟩))) 2 rfl rfl (hon 2 (by kernel_rfl)) rfl
              replace ha := Aside0.mk ha
              have HR := Aside0.mk Q_HR
              refine value_ (w1 := w') (v := .pointer (some ⟨gn, k * 6, none⟩)) (by rfl) rfl ?_ ?_
              · go_simp
                (try simp only [i64_w])
                try rfl
              refine hK.out _ _ ⟨(by rw [ha.out]; exact putSel_upk 3 hb_ rfl rfl rfl), Q_HR⟩
            refine steps_cons ?_ ?_
            · rintro b a w' ⟨ha, Q_HR⟩ hb_ hon hoff
              refine ⟨_, rfl, fun K hK => ?_⟩
              have e86 : a.tmps[86]? = some (.pointer (some ⟨gn, k * 6, none⟩)) := by rw [ha]; exact putSel_on (e := (3, 86, .pointer (some ⟨gn, k * 6, none⟩))) 3 rfl rfl (hon 3 (by kernel_rfl)) rfl
              replace ha := Aside0.mk ha
              have HR := Aside0.mk Q_HR
              have hl87 : w'.cell? ⟨gn, k * 6, none⟩ = some (.int .i64 x) := (HR.out.cell (p := ⟨gn, k * 6, none⟩) (cell_lt hyc)).trans hyc
              refine value_ (w1 := w') (v := .int .i64 x) (by rfl) rfl ?_ ?_
              · go_simp
                (try simp only [i64_w])
                try rfl
              refine hK.out _ _ ⟨(by rw [ha.out]; exact putSel_upk 4 hb_ rfl rfl rfl), Q_HR⟩
            refine steps_cons ?_ ?_
            · rintro b a w' ⟨ha, Q_HR⟩ hb_ hon hoff
              refine ⟨_, rfl, fun K hK => ?_⟩
              have e9 : a.tmps[9]? = some (.pointer (some ⟨g9, 0, none⟩)) := by rw [ha]; exact (putSel_off rfl).trans rfl
              replace ha := Aside0.mk ha
              have HR := Aside0.mk Q_HR
              refine value_ (w1 := w') (v := .pointer (some ⟨g9, 1, none⟩)) (by rfl) rfl ?_ ?_
              · go_simp
                (try simp only [i64_w])
                try rfl
              refine hK.out _ _ ⟨(by rw [ha.out]; exact putSel_upk 5 hb_ rfl rfl rfl), Q_HR⟩
            refine steps_cons ?_ ?_
            · rintro b a w' ⟨ha, Q_HR⟩ hb_ hon hoff
              refine ⟨_, rfl, fun K hK => ?_⟩
              have e88 : a.tmps[88]? = some (.pointer (some ⟨g9, 1, none⟩)) := by rw [ha]; exact putSel_on (e := (5, 88, .pointer (some ⟨g9, 1, none⟩))) 5 rfl rfl (hon 5 (by kernel_rfl)) rfl
              replace ha := Aside0.mk ha
              have HR := Aside0.mk Q_HR
              have hl89_0 : w'.cell? ⟨g9, 1, none⟩ = some (.int .i64 ca) := (blk_cell (blk_below BKq.out HR.out) 1).trans rfl
              refine value_ (w1 := w') (v := .int .i64 ca) (by rfl) rfl ?_ ?_
              · go_simp
                (try simp only [i64_w])
                try rfl
              refine hK.out _ _ ⟨(by rw [ha.out]; exact putSel_upk 6 hb_ rfl rfl rfl), Q_HR⟩
            refine steps_cons ?_ ?_
            · rintro b a w' ⟨ha, Q_HR⟩ hb_ hon hoff
              refine ⟨_, rfl, fun K hK => ?_⟩
              have e87 : a.tmps[87]? = some (.int .i64 x) := by rw [ha]; exact putSel_on (e := (4, 87, .int .i64 x)) 4 rfl rfl (hon 4 (by kernel_rfl)) rfl
              have e89 : a.tmps[89]? = some (.int .i64 ca) := by rw [ha]; exact putSel_on (e := (6, 89, .int .i64 ca)) 6 rfl rfl (hon 6 (by kernel_rfl)) rfl
              replace ha := Aside0.mk ha
              have HR := Aside0.mk Q_HR
              refine value_ (w1 := w') (v := .bool false) (by rfl) rfl ?_ ?_
              · go_simp
                (try simp only [i64_w])
                try rfl
              refine hK.out _ _ ⟨(by rw [ha.out]; exact putSel_upk 7 hb_ rfl rfl rfl), Q_HR⟩
            exact steps_nil
          rintro b a wz hall ⟨ha, Q_HR⟩
          clear HR
          have hb0_ := hall 0 (by kernel_rfl)
          have hb1_ := hall 1 (by kernel_rfl)
          have hb2_ := hall 2 (by kernel_rfl)
          have hb3_ := hall 3 (by kernel_rfl)
          have hb4_ := hall 4 (by kernel_rfl)
          have hb5_ := hall 5 (by kernel_rfl)
          have hb6_ := hall 6 (by kernel_rfl)
          have hb7_ := hall 7 (by kernel_rfl)
          subst ha
          simp only [putSel, hb0_, hb1_, hb2_, hb3_, hb4_, hb5_, hb6_, hb7_, if_true, Act.put, List.setIfInBounds_toArray, List.set_cons_zero, List.set_cons_succ]
          have HR := Aside0.mk Q_HR
          clear Q_HR
          clear hall hb0_ hb1_ hb2_ hb3_ hb4_ hb5_ hb6_ hb7_
          have HBz := Aside0.mk (below_step HBq.out HR.out)
          have BKz := Aside0.mk (blk_below BKq.out HR.out)
          go_wp2
          go_roundw
          case measure => exact meas_i hgo (by push_cast; rfl)
          case rel => exact ⟨k + 1, hk1n, by push_cast; rfl, Aside0.mk (by rw [L10b.out]), Aside0.mk (by rw [L11b.out]), HBz, BKz⟩
    · obtain rfl : k = n := by omega
      have hd : decide ((k : Int) < (k : Int)) = false := decide_eq_false (by omega)
      go_wp2
      refine ⟨rfl, HB.out, rfl, rfl, rfl, rfl, rfl, rfl, rfl, ?_, ?_, rfl, rfl⟩
      · rw [hl, ← hK]
        rfl
      · rw [hl, ← hK]
        rfl
end Go.Proofs.Ytekggbmajemmhaa.Gr
/- The document's Apply: bare nodes, told sharper; appends of nodes that lie in memory. Conditions: the nodes lie in memory. -/
namespace Go.Proofs.Ytekggbmajemmhaa.Gr
open Go.RowKit Go.Shelf Go.Maps Go.ChangeMaps Go.MapKept Go.Proofs.YtekggbmajemmhaaW.PrintWords Go.Proofs.YtekggbmajemmhaaW.PrintLast Go.Proofs.YtekggbmajemmhaaW.PrintMore
set_option linter.unusedSimpArgs false
set_option linter.unusedVariables false
set_option maxHeartbeats 4000000 in
set_option maxRecDepth 100000 in
theorem rbareX_calls (w : World) (a x : Int) (hx : (Lit.int .u64 x).wf = true) : Calls Try.prog 24 #[.int .i64 a, .int .u64 x] w fun e W' => ∃ q : Nd, e = .returned q.val ∧ q.pn = bareP a x ∧ DL W' W'.heap.size q ∧ q.m = 0 ∧ (∀ y, q.B = some y → w.heap.size ≤ y.block) ∧ Below w.heap.size w W' := by
  obtain ⟨hx0, hx1⟩ : 0 ≤ x ∧ x ≤ 18446744073709551615 := by simpa [Lit.wf, IntKind.min, IntKind.max, IntKind.signed, IntKind.bits] using hx
  obtain ⟨n, hn⟩ : ∃ n, n = bareN x := ⟨_, rfl⟩
  have hn255 : n ≤ 255 := by rw [hn]; exact bareN_le x
  have HN := Aside0.mk hn
  have hmk := made38 .u64 n hn255
  by_cases hgt : x > 255
  · have hd : decide (x > 255) = true := decide_eq_true hgt
    have hd' : decide (255 < x) = true := decide_eq_true hgt
    have hn2 : n = 255 := by rw [hn]; unfold bareN; omega
    subst hn2
    have hmk : ∀ w : World, (Instr.makeSlice 38 (.int .u64 255) (.int .u64 255)).run Try.prog w = .ok (.slice (some ⟨w.heap.size, 0, none⟩) 255 255) (w.alloc (.cells (Array.replicate 255 (.int .u64 0)) 42)) := fun w => made38 .u64 255 (by decide) w
    clear hn hx
    go_enter Try.func24, Try.ntmps24
    go_wp2
    have hb1 := blk_new (w.alloc (.cells #[.int .i64 a, .int .i64 0, .int .i64 0, .int .i64 (255 : Int), .slice none 0 0, .slice (some ⟨w.heap.size + 1, 0, none⟩) 255 255] 40)) (.cells (Array.replicate 255 (.int .u64 0)) 42)
    rw [World.size_alloc] at hb1
    have hb0 := blk_alloc (blk_new w (.cells #[.int .i64 a, .int .i64 0, .int .i64 0, .int .i64 (255 : Int), .slice none 0 0, .slice (some ⟨w.heap.size + 1, 0, none⟩) 255 255] 40)) (.cells (Array.replicate 255 (.int .u64 0)) 42)
    refine bodyPost_ret (results_cell_row rfl _ _ w.heap.size 40 #[.int .i64 a, .int .i64 0, .int .i64 0, .int .i64 (255 : Int), .slice none 0 0, .slice (some ⟨w.heap.size + 1, 0, none⟩) 255 255] (0, 0) _ rfl hb0 Try.underlying40 rfl (by kernel_rfl)) rfl ?_
    refine ⟨⟨a, 0, 0, (255 : Int), none, 0, 0, some ⟨w.heap.size + 1, 0, none⟩, 255, 255, [], List.replicate 255 0⟩, rfl, ?_, ⟨⟨rfl, fun i hi => absurd hi (Nat.not_lt_zero i)⟩, made_list hb1 (by rw [World.size_alloc, World.size_alloc]; omega)⟩, rfl, (fun y e => by cases e; exact Nat.le_succ _), below_alloc (below_alloc (Below.refl _ _) _) _⟩
    all_goals (try unfold bareP)
    all_goals (try rw [← HN.out])
    all_goals (try rfl)
  · have hd : decide (x > 255) = false := decide_eq_false hgt
    have hd' : decide (255 < x) = false := decide_eq_false hgt
    obtain rfl : x = (n : Int) := by rw [hn]; unfold bareN; omega
    clear hn hx
    go_enter Try.func24, Try.ntmps24
    go_wp2
    have hb1 := blk_new (w.alloc (.cells #[.int .i64 a, .int .i64 0, .int .i64 0, .int .i64 (n : Int), .slice none 0 0, .slice (some ⟨w.heap.size + 1, 0, none⟩) n n] 40)) (.cells (Array.replicate n (.int .u64 0)) 42)
    rw [World.size_alloc] at hb1
    have hb0 := blk_alloc (blk_new w (.cells #[.int .i64 a, .int .i64 0, .int .i64 0, .int .i64 (n : Int), .slice none 0 0, .slice (some ⟨w.heap.size + 1, 0, none⟩) n n] 40)) (.cells (Array.replicate n (.int .u64 0)) 42)
    refine bodyPost_ret (results_cell_row rfl _ _ w.heap.size 40 #[.int .i64 a, .int .i64 0, .int .i64 0, .int .i64 (n : Int), .slice none 0 0, .slice (some ⟨w.heap.size + 1, 0, none⟩) n n] (0, 0) _ rfl hb0 Try.underlying40 rfl (by kernel_rfl)) rfl ?_
    refine ⟨⟨a, 0, 0, (n : Int), none, 0, 0, some ⟨w.heap.size + 1, 0, none⟩, n, n, [], List.replicate n 0⟩, rfl, ?_, ⟨⟨rfl, fun i hi => absurd hi (Nat.not_lt_zero i)⟩, made_list hb1 (by rw [World.size_alloc, World.size_alloc]; omega)⟩, rfl, (fun y e => by cases e; exact Nat.le_succ _), below_alloc (below_alloc (Below.refl _ _) _) _⟩
    all_goals (try unfold bareP)
    all_goals (try rw [← HN.out])
    all_goals (try rfl)
theorem add_add (y : Addr) (a b : Nat) : (y.add a).add b = y.add (a + b) := by
  unfold Addr.add
  by_cases h1 : a = 0
  · subst h1; simp
  · by_cases h2 : b = 0
    · subst h2; simp [h1]
    · simp [h1, h2, Nat.add_assoc]
theorem NL.cellsAt {W : World} {B : Nat} {y : Addr} {m : Nat} {M : List Nd} (h : NL W B (some y) m M) : ∀ j u, (nds M)[j]? = some u → W.cell? (y.add j) = some u := by
  intro j u hu
  have hj : j < M.length * 6 := by
    have := (List.getElem?_eq_some_iff.1 hu).1
    rw [nds_len] at this
    exact this
  have hi : j / 6 < M.length := by omega
  have h2 := nds_at (L := M) hi (j % 6) (by omega)
  rw [show j / 6 * 6 + j % 6 = j by omega] at h2
  rw [h2] at hu
  obtain ⟨y', e, _, c0, c1, c2, c3, c4, c5⟩ := h.2 (j / 6) (by have := h.1; omega)
  cases e
  have ej : y.add j = (y.add (j / 6 * 6)).add (j % 6) := by rw [add_add, show j / 6 * 6 + j % 6 = j by omega]
  rw [ej]
  have h6 : j % 6 < 6 := by omega
  generalize j % 6 = r at hu h6 ⊢
  match r, h6 with
  | 0, _ => rw [c0, ← hu]; rfl
  | 1, _ => rw [c1, ← hu]; rfl
  | 2, _ => rw [c2, ← hu]; rfl
  | 3, _ => rw [c3, ← hu]; rfl
  | 4, _ => rw [c4, ← hu]; rfl
  | 5, _ => rw [c5, ← hu]; rfl
theorem NL.take {W : World} {B : Nat} {a : Option Addr} {m : Nat} {M : List Nd} (h : NL W B a m M) {b : Nat} (hb : b ≤ m) : NL W B a b (M.take b) := by
  refine ⟨by rw [List.length_take, h.1]; omega, fun i hi => ?_⟩
  have e : (M.take b).getD i default = M.getD i default := by rw [List.getD_eq_getElem?_getD, List.getElem?_take, if_pos hi, ← List.getD_eq_getElem?_getD]
  rw [e]
  exact h.2 i (by omega)
theorem NL.drop {W : World} {B : Nat} {a : Option Addr} {m c : Nat} {M : List Nd} (h : NL W B a m M) {b : Nat} (hb : b ≤ m) (hm : m ≤ c) : NL W B (if c = b then a else a.map (·.add (b * 6))) (m - b) (M.drop b) := by
  refine ⟨by rw [List.length_drop, h.1], fun i hi => ?_⟩
  obtain ⟨y, e, hy, hc⟩ := h.2 (b + i) (by omega)
  subst e
  have e : (M.drop b).getD i default = M.getD (b + i) default := by rw [List.getD_eq_getElem?_getD, List.getElem?_drop, ← List.getD_eq_getElem?_getD]
  rw [e, if_neg (by omega)]
  refine ⟨y.add (b * 6), rfl, by rw [add_block]; exact hy, ?_⟩
  have e2 : (y.add (b * 6)).add (i * 6) = y.add ((b + i) * 6) := by rw [add_add, show b * 6 + i * 6 = (b + i) * 6 by omega]
  rw [e2]
  exact hc
theorem nds_one {W : World} {B : Nat} {a : Option Addr} {m : Nat} {M : List Nd} (h : NL W B a m M) : ∀ u ∈ nds M, u.oneCell' = true := by
  intro u hu
  obtain ⟨n, _, hn⟩ := List.mem_flatMap.1 hu
  simp at hn
  rcases hn with rfl | rfl | rfl | rfl | rfl | rfl <;> rfl
theorem run_append_nl {P : Program} {w : World} {B : Nat} (base : Nat) (t ty e : TypeId) (i : TypeInfo) (z : Value) (ht : P.underlying t = some (.slice e)) (hi : P.info? e = some i) (hz : i.zero = some z)
    (hsize : i.size = 6) (hby : i.bytes = 80) (hzs : z.cells.size = 6) (v : Value) (n : Nat) (xs : List Value) (hown : w.ownsRow base e 6 v n xs)
    (a : Option Addr) (m c : Nat) (M : List Nd) (HL : NL w B a m M) (hnm : n + m ≤ 1000) (hbase : base ≤ w.heap.size) :
    ∃ v' w', (Builtin.append_ #[t, t] ty #[v, .slice a m c]).run P w = .ok v' w' ∧ w'.ownsRow base e 6 v' (n + m) (xs ++ nds M) ∧ w.grownBy w' v.ownBlock ∧ (v'.ownBlock = v.ownBlock ∨ v'.ownBlock = some w.heap.size) := by
  have hl := HL.1
  cases a with
  | none =>
    obtain rfl : m = 0 := by
      rcases Nat.eq_zero_or_pos m with h | h
      · exact h
      · obtain ⟨y, e, _⟩ := HL.2 0 h
        cases e
    obtain rfl := List.length_eq_zero_iff.1 hl
    exact ⟨v, w, run_append_none_any base t ty e i 6 ht hi v n xs hown c, by simpa [nds] using hown, grown_refl _ _, Or.inl rfl⟩
  | some ad =>
    obtain ⟨v', w', h1, h2, h3, _, h5⟩ := run_append_own_at (P := P) w base t ty e i z 6 80 ht hi hz hsize hby hzs (by decide) v n xs hown ad m c (nds M) (by rw [nds_len, hl]) HL.cellsAt (nds_one HL) (by unfold maxLen; omega) (by omega) hbase
    exact ⟨v', w', h1, h2, h3, h5⟩
section
variable {P : Program} {ops : Array Oper} {Q : Exit → Act → World → Prop}
theorem append_nl_ {oi : Oper} {N : Option Tmp} {a : Act} {w : World} {K : Act → World → Prop} (hw : Region.wanted oi (yielded ops a.tmps) = true) (hN : oi.dst = N) (s x : Operand) (t : TypeId)
    (ho : oi.op = .call { callee := .builtin .append, args := #[s, x], argTypes := #[t, t] }) (B : Nat)
    (base : Nat) (e : TypeId) (i : TypeInfo) (z : Value) (ht : P.underlying t = some (.slice e)) (hi : P.info? e = some i) (hz : i.zero = some z)
    (hsize : i.size = 6) (hby : i.bytes = 80) (hzs : z.cells.size = 6) (v : Value) (n : Nat) (xs : List Value) (hs : a.eval s = v) (hown : w.ownsRow base e 6 v n xs)
    (ad : Option Addr) (m c : Nat) (M : List Nd) (hx : a.eval x = .slice ad m c) (HL : NL w B ad m M) (hnm : n + m ≤ 1000) (hbase : base ≤ w.heap.size)
    (h : ∀ v' w', w'.ownsRow base e 6 v' (n + m) (xs ++ nds M) → w.grownBy w' v.ownBlock → (v'.ownBlock = v.ownBlock ∨ v'.ownBlock = some w.heap.size) → K (a.put N v') w') : if Region.wanted oi (yielded ops a.tmps) = true then Oper.wp P oi a w K Q else K (a.put N undef) w := by
  rw [if_pos hw]
  subst hN
  obtain ⟨v', w', hr, h2, h3, h4⟩ := run_append_nl (P := P) (w := w) base t oi.type e i z ht hi hz hsize hby hzs v n xs hown ad m c M HL hnm hbase
  unfold Oper.wp execOp
  simp only [ho, resolve, invoke, builtin, Sem.run_bind, Sem.run_pure, Result.andThen_ok, List.map_toArray, List.map_cons, List.map_nil, hs, hx, hr]
  exact h v' w' h2 h3 h4
theorem wpList_append_nl {rest : List Oper} {o : Oper} {a : Act} {w : World} (hgd : o.guard = none) (s x : Operand) (t : TypeId)
    (ho : o.op = .call { callee := .builtin .append, args := #[s, x], argTypes := #[t, t] }) (B : Nat)
    (base : Nat) (e : TypeId) (i : TypeInfo) (z : Value) (ht : P.underlying t = some (.slice e)) (hi : P.info? e = some i) (hz : i.zero = some z)
    (hsize : i.size = 6) (hby : i.bytes = 80) (hzs : z.cells.size = 6) (v : Value) (n : Nat) (xs : List Value) (hs : a.eval s = v) (hown : w.ownsRow base e 6 v n xs)
    (ad : Option Addr) (m c : Nat) (M : List Nd) (hx : a.eval x = .slice ad m c) (HL : NL w B ad m M) (hnm : n + m ≤ 1000) (hbase : base ≤ w.heap.size)
    (h : ∀ v' w', w'.ownsRow base e 6 v' (n + m) (xs ++ nds M) → w.grownBy w' v.ownBlock → (v'.ownBlock = v.ownBlock ∨ v'.ownBlock = some w.heap.size) → wpList P ops Q rest (a.put o.dst v') w') : wpList P ops Q (o :: rest) a w := by
  refine wpList_plain hgd fun K hK => ?_
  obtain ⟨v', w', hr, h2, h3, h4⟩ := run_append_nl (P := P) (w := w) base t o.type e i z ht hi hz hsize hby hzs v n xs hown ad m c M HL hnm hbase
  unfold Oper.wp execOp
  simp only [ho, resolve, invoke, builtin, Sem.run_bind, Sem.run_pure, Result.andThen_ok, List.map_toArray, List.map_cons, List.map_nil, hs, hx, hr]
  exact hK _ _ (h v' w' h2 h3 h4)
end
/-- What a slice's head, and its tail, is. -/
theorem slice_head (A0 : Option Addr) (n c b : Nat) (hb : b ≤ n) (hn : n ≤ c) (w : World) : (Instr.sliceAt 23 (.slice A0 n c) none (some (.int .i64 (b : Int))) none).run Try.prog w = .ok (.slice A0 b c) w := by
  have hs : Try.prog.underlying 23 = some (.slice (Try.prog.elem 23)) := by kernel_rfl
  rw [run_sliceAt_slice _ _ _ _ _ _ hs, run_slice_h _ _ _ _ _ hs .i64 (b : Int) (by omega) (by omega)]
  rw [show Try.prog.elem 23 = 40 by kernel_rfl, Try.sizeOf40 w]
  simp [Result.andThen, sliced, Addr.add]
theorem slice_tail (A0 : Option Addr) (n c b : Nat) (hb : b ≤ n) (hn : n ≤ c) (w : World) : (Instr.sliceAt 23 (.slice A0 n c) (some (.int .i64 (b : Int))) none none).run Try.prog w = .ok (.slice (if c = b then A0 else A0.map (·.add (b * 6))) (n - b) (c - b)) w := by
  have hs : Try.prog.underlying 23 = some (.slice (Try.prog.elem 23)) := by kernel_rfl
  rw [run_sliceAt_slice _ _ _ _ _ _ hs, run_slice_l _ _ _ _ _ hs .i64 (b : Int) (by omega) (by omega)]
  rw [show Try.prog.elem 23 = 40 by kernel_rfl, Try.sizeOf40 w]
  simp [Result.andThen, sliced]
end Go.Proofs.Ytekggbmajemmhaa.Gr
/- The document's Apply: a new node. Conditions: the state lies in memory. -/
namespace Go.Proofs.Ytekggbmajemmhaa.Gr
open Go.RowKit Go.Shelf Go.Maps Go.ChangeMaps Go.MapKept Go.Proofs.YtekggbmajemmhaaW.PrintWords Go.Proofs.YtekggbmajemmhaaW.PrintLast Go.Proofs.YtekggbmajemmhaaW.PrintMore
set_option linter.unusedSimpArgs false
set_option linter.unusedVariables false
theorem NL_one {W : World} {g : Nat} {q : Nd} (h : W.heap[g]? = some (.cells #[.int .i64 q.adr, .int .i64 q.refs, .int .i64 q.sl, .int .i64 q.words, .slice q.A q.m q.c, .slice q.B q.n q.d] 40 (0, 0))) : NL W W.heap.size (some ⟨g, 0, none⟩) 1 [q] := by
  refine ⟨rfl, fun i hi => ?_⟩
  obtain rfl : i = 0 := by omega
  exact ⟨_, rfl, blk_lt h, (blk_cell h 0).trans rfl, (blk_cell h 1).trans rfl, (blk_cell h 2).trans rfl, (blk_cell h 3).trans rfl, (blk_cell h 4).trans rfl, (blk_cell h 5).trans rfl⟩
theorem DX_fresh {W : World} {q : Nd} {X : Nat} {S : List Nat} (hd : DL W W.heap.size q) (hm : q.m = 0) (hy : ∀ y, q.B = some y → X ≤ y.block) (hS : ∀ j ∈ S, j < X) : DX W S q := by
  refine ⟨⟨hd.1.1, fun i hi => by omega⟩, ⟨hd.2.1, fun i hi => ?_⟩⟩
  obtain ⟨y, e, h1, h2⟩ := hd.2.2 i hi
  exact ⟨y, e, h1, fun h => by have := hS _ h; have := hy y e; omega, h2⟩
theorem DX.own {W W' : World} {q : Nd} {v v' : Value} (h : DX W v.ownBlock.toList q) (hg : W.grownBy W' v.ownBlock) (hat : v'.ownBlock = v.ownBlock ∨ v'.ownBlock = some W.heap.size) : DX W' v'.ownBlock.toList q :=
  h.to (fun j hj hS => hg.block j hj (fun e => hS (Option.mem_toList.2 e.symm))) hg.size (fun j hj hS hS' => by
    rcases hat with e | e
    · rw [e] at hS'
      exact hS hS'
    · rw [e] at hS'
      have := Option.mem_toList.1 hS'
      have h7 : W.heap.size = j := Option.some.inj this
      omega)
/-- What the piece about new nodes leaves. -/
def P3Out (wb W : World) (g4 g9 i : Nat) (y vt vn : Value) (R : List Int) (M : List Nd) (at_ : Int) (bh : Nat) (ck ca ci cw cs : Int) (e : Exit) (a : Act) (w : World) : Prop :=
  (ck ≠ 2 ∧ e = .normal ∧ w = W ∧ Fr a [(1, y), (4, .pointer (some ⟨g4, 0, none⟩)), (5, .bool false), (6, vt), (7, vn), (8, .int .i64 (i : Int)), (9, .pointer (some ⟨g9, 0, none⟩)), (10, .int .i64 at_), (11, .int .i64 (bh : Int))]) ∨ (ck = 2 ∧ BodyOut wb g4 i y R M ⟨ck, ca, ci, cw, cs⟩ e a w ∧ e ≠ .normal)
/-- The state with new nodes. -/
theorem RS.nodes {wb W W' : World} {g4 : Nat} {vt vn vn' : Value} {R : List Int} {M M' : List Nd} (h : RS wb W g4 vt vn R M) (hb : Below W.heap.size W W') (hr : W'.ownsRow W.heap.size 40 6 vn' M'.length (nds M')) (hrise : Rise (adrs M')) (hM : ∀ n ∈ M', n ∈ M ∨ (DX W' vn'.ownBlock.toList n ∧ n.m = 0 ∧ n.n ≤ 300 ∧ ∀ y, n.B = some y → W.heap.size ≤ y.block)) : RS wb W' g4 vt vn' R M' := by
  have hvt : ∀ k, vt.ownBlock = some k → k < W.heap.size := fun k e => (h.tops.lt k e).2
  have hvn : ∀ k, vn'.ownBlock = some k → W.heap.size ≤ k := fun k e => (hr.lt k e).1
  refine ⟨below_step h.hb hb, blk_below h.res hb, h.res4, Di.row_below h.tops hb, Di.row_mono hr h.hb.size, fun n hn => ?_, hrise, fun n hn => ?_, h.len⟩
  · rcases hM n hn with h1 | ⟨h1, h2, _, h3⟩
    · refine (h.lists n h1).to (fun j hj _ => hb.block j hj) hb.size (fun j hj hS hS' => ?_)
      rcases own2_mem.1 hS' with e | e
      · exact hS (own2_mem.2 (Or.inl e))
      · have := hvn j e
        omega
    · refine ⟨⟨h1.1.1, fun i hi => by omega⟩, ⟨h1.2.1, fun i hi => ?_⟩⟩
      obtain ⟨y, e, k1, k2, k3⟩ := h1.2.2 i hi
      refine ⟨y, e, k1, fun hS => ?_, k3⟩
      rcases own2_mem.1 hS with e2 | e2
      · have := hvt _ e2
        have := h3 y e
        omega
      · exact k2 (Option.mem_toList.2 e2)
  · rcases hM n hn with h1 | ⟨_, h2, h3, _⟩
    · exact h.sz n h1
    · exact ⟨by omega, h3⟩
def r23.T23 : Bool × List (List Nat × List Nat) := (true, [([], []), ([], []), ([], []), ([1, 2], [1, 2]), ([0, 3], [0, 3]), ([], []), ([5], [5]), ([], []), ([7], [7]), ([6, 8, 4], [6, 8]), ([9], [9]), ([4, 10, 9], [4, 10]), ([], []), ([], []), ([12, 13], [12, 13]), ([11, 14, 11], [11, 14]), ([15, 15, 0, 1, 2, 3, 4, 5, 6, 7, 8, 9, 10, 11, 12, 13, 14, 15], [1, 12, 15])])
def r23.B23 : List Nat := [0, 0, 0, 6, 15, 0, 32, 0, 128, 511, 1023, 2047, 0, 0, 12288, 32767, 65535]
theorem r23.tab23 : rtab .any (opsOf Try.f10 23) = r23.T23 := by kernel_rfl
theorem r23.bits23 : waitsOk r23.T23.2 r23.B23 = true := by kernel_rfl
set_option maxHeartbeats 16000000 in
set_option maxRecDepth 100000 in
theorem p3_wp (wb W : World) (g4 g9 i : Nat) (y vt vn : Value) (R : List Int) (M : List Nd) (at_ : Int) (bh : Nat) (ck ca ci cw cs : Int) (hat : at_ = lastAt (adrs M) ca M.length) (hbh : bh = lastBeh (adrs M) ca M.length) (HCS : Aside0 ((Lit.int .u64 cs).wf = true)) (hM : M.length ≤ 900) (HS : Aside0 (RS wb W g4 vt vn R M)) (BK9 : Aside0 (W.heap[g9]? = some (.cells #[.int .i64 ck, .int .i64 ca, .int .i64 ci, .int .u64 cw, .int .u64 cs] 44 (0, 0)))) (a : Act) (hf : Fr a [(1, y), (4, .pointer (some ⟨g4, 0, none⟩)), (5, .bool false), (6, vt), (7, vn), (8, .int .i64 (i : Int)), (9, .pointer (some ⟨g9, 0, none⟩)), (10, .int .i64 at_), (11, .int .i64 (bh : Int))]) : Code.wp Try.prog cP3 (P3Out wb W g4 g9 i y vt vn R M at_ bh ck ca ci cw cs) a W := by
  obtain ⟨i0, hi, hz0, hz1, hz2⟩ := info_parts info40
  obtain ⟨hf1, hf4, hf5, hf6, hf7, hf8, hf9, hf10, hf11, hd_, hs_⟩ := hf
  obtain ⟨u, hu, ha_⟩ := frame_open a hd_ hs_
  have hv1 := (hu 1).symm.trans hf1
  have hv4 := (hu 4).symm.trans hf4
  have hv5 := (hu 5).symm.trans hf5
  have hv6 := (hu 6).symm.trans hf6
  have hv7 := (hu 7).symm.trans hf7
  have hv8 := (hu 8).symm.trans hf8
  have hv9 := (hu 9).symm.trans hf9
  have hv10 := (hu 10).symm.trans hf10
  have hv11 := (hu 11).symm.trans hf11
  clear hd_ hs_ hu hf1 hf4 hf5 hf6 hf7 hf8 hf9 hf10 hf11
  subst ha_
  simp only [hv1, hv4, hv5, hv6, hv7, hv8, hv9, hv10, hv11]
  clear hv1 hv4 hv5 hv6 hv7 hv8 hv9 hv10 hv11
  have hx9_0 : W.cell? ⟨g9, 0, none⟩ = some (.int .i64 ck) := (blk_cell BK9.out 0).trans rfl
  have hx9_1 : W.cell? ⟨g9, 1, none⟩ = some (.int .i64 ca) := (blk_cell BK9.out 1).trans rfl
  have hx9_2 : W.cell? ⟨g9, 2, none⟩ = some (.int .i64 ci) := (blk_cell BK9.out 2).trans rfl
  have hx9_3 : W.cell? ⟨g9, 3, none⟩ = some (.int .u64 cw) := (blk_cell BK9.out 3).trans rfl
  have hx9_4 : W.cell? ⟨g9, 4, none⟩ = some (.int .u64 cs) := (blk_cell BK9.out 4).trans rfl
  by_cases hk : ck = 2
  · subst hk
    have hla := lastAt_is HS.out.rise ca
    rw [show (adrs M).length = M.length by simp [adrs], ← hat] at hla
    cases hidx : idx (adrs M) ca with
    | some ix =>
      rw [hidx] at hla
      simp only at hla
      have hd : decide (at_ ≥ 0) = true := decide_eq_true (by omega)
      have hd' : decide (0 ≤ at_) = true := decide_eq_true (by omega)
      have HNO := Aside0.mk (show applyP (R, M.map Nd.pn) (⟨2, ca, ci, cw, cs⟩ : Ch) = none by rw [applyP_node (fun h => absurd h.1 (show ¬ ((2 : Int) = 4) by decide)), step_twice (M := M) rfl hidx]; rfl)
      clear hla hat hidx hbh
      have HRES := Aside0.mk HS.out.res
      have HRES4 := Aside0.mk HS.out.res4
      have HRB := Aside0.mk HS.out.hb
      have hx4_0 : W.cell? ⟨g4, 0, none⟩ = some (.slice none 0 0) := (blk_cell HRES.out 0).trans rfl
      have hx4_1 : W.cell? ⟨g4, 1, none⟩ = some (.slice none 0 0) := (blk_cell HRES.out 1).trans rfl
      have hy4_0 := blk_frozen HRES.out 0
      have hy4_1 := blk_frozen HRES.out 1
      conv => arg 2; whnf
      go_wp2
      exact .inr ⟨rfl, .inl ⟨rfl, HNO.out, ⟨rfl, rfl, rfl, rfl⟩, blk_put (blk_put HRES.out 0 _ rfl) 1 _ rfl, below_set (below_set HRB.out HRES4.out) HRES4.out⟩, nofun⟩
    | none =>
      rw [hidx] at hla
      simp only at hla
      have hd : decide (at_ ≥ 0) = false := decide_eq_false (by omega)
      have hd' : decide (0 ≤ at_) = false := decide_eq_false (by omega)
      have hbb : bh = beh (adrs M) ca := by
        have h1 := lastBeh_is HS.out.rise ca M.length (by simp [adrs])
        have h2 := beh_le (adrs M) ca
        have h3 : (adrs M).length = M.length := by simp [adrs]
        omega
      have hbn : bh ≤ M.length := by
        have h2 := beh_le (adrs M) ca
        have h3 : (adrs M).length = M.length := by simp [adrs]
        omega
      have HIDX := Aside0.mk hidx
      have HBB := Aside0.mk hbb
      obtain ⟨A0, c0, e0⟩ := row40_slice HS.out.rows
      subst e0
      have hnc : M.length ≤ c0 := by
        rcases HS.out.rows.2 with ⟨e, h0⟩ | ⟨_, cap, _, e, _, _, h1, _⟩
        · omega
        · cases e; exact h1
      obtain ⟨n, hn⟩ : ∃ n, n = M.length := ⟨_, rfl⟩
      rw [← hn] at hbn hnc hM
      have HNL := Aside0.mk (NL_of_row HS.out.rows)
      rw [← hn] at HNL
      rw [← hn]
      have hsl1 := slice_head A0 n c0 bh hbn hnc
      have hsl2 := slice_tail A0 n c0 bh hbn hnc
      obtain ⟨A2, hA2⟩ : ∃ A2, A2 = if c0 = bh then A0 else A0.map (·.add (bh * 6)) := ⟨_, rfl⟩
      rw [← hA2] at hsl2
      have HA2 := Aside0.mk (fun (w' : World) (B : Nat) (L : List Nd) (h : NL w' B (if c0 = bh then A0 else A0.map (·.add (bh * 6))) (n - bh) L) => (hA2 ▸ h : NL w' B A2 (n - bh) L))
      have HN := Aside0.mk hn
      clear hla hat hidx hbh hA2 hbb hn
      conv => arg 2; whnf
      go_upto_region 23 with fail
      have HR := Aside0.mk (Below.refl W.heap.size W)
      refine start_ (n := 17) (S := fun w' => True) (ds := []) #[false, false, false, false, false, false, false, false, false, false, false, false, false, false, false, false, false] (by kernel_rfl) rfl rfl trivial (fun hHeld => ?_)
      refine with_tabW r23.tab23 r23.bits23 (fun HT_ HW_ => ?_)
      refine inv_at [0, 1, 2, 3, 4, 5, 6, 7, 8, 9, 10, 11, 12, 13, 14, 15, 16] (fun a0_ b a w' => ∃ (gz : Nat) (v1 : Value) (q : Nd) (gq : Nat) (v2 : Value) (v3 : Value) (m0_ : Value) (m9_ : Value) (m10_ : Value) (m16_ : Value), a = putSel a0_ b [(0, 99, m0_), (1, 100, .slice A0 n c0), (2, 101, .int .i64 (bh : Int)), (3, 102, .slice A0 bh c0), (4, 103, v1), (5, 104, .pointer (some ⟨g9, 1, none⟩)), (6, 105, .int .i64 ca), (7, 106, .pointer (some ⟨g9, 4, none⟩)), (8, 107, .int .u64 cs), (9, 108, m9_), (10, 109, m10_), (11, 110, v2), (12, 111, .slice A0 n c0), (13, 112, .int .i64 (bh : Int)), (14, 113, .slice A2 (n - bh) (c0 - bh)), (15, 114, v3), (16, 7, m16_)] ∧ (Below W.heap.size W w') ∧ (b 0 = true → b 4 = false → w'.heap[gz]? = some (.cells #[] 40 (0, 0)) ∧ W.heap.size ≤ gz) ∧ (b 4 = true → b 11 = false → w'.ownsRow W.heap.size 40 6 v1 bh (nds (M.take bh))) ∧ (b 9 = true → b 11 = false → q.pn = bareP ca cs ∧ DX w' v1.ownBlock.toList q ∧ q.m = 0 ∧ (∀ y, q.B = some y → W.heap.size ≤ y.block)) ∧ (b 10 = true → b 11 = false → w'.heap[gq]? = some (.cells #[.int .i64 q.adr, .int .i64 q.refs, .int .i64 q.sl, .int .i64 q.words, .slice q.A q.m q.c, .slice q.B q.n q.d] 40 (0, 0))) ∧ (b 11 = true → b 15 = false → w'.ownsRow W.heap.size 40 6 v2 (bh + 1) (nds (M.take bh ++ [q])) ∧ q.pn = bareP ca cs ∧ DX w' v2.ownBlock.toList q ∧ q.m = 0 ∧ (∀ y, q.B = some y → W.heap.size ≤ y.block)) ∧ (b 15 = true → w'.ownsRow W.heap.size 40 6 v3 (bh + 1 + (n - bh)) (nds (M.take bh ++ [q] ++ M.drop bh)) ∧ q.pn = bareP ca cs ∧ DX w' v3.ownBlock.toList q ∧ q.m = 0 ∧ (∀ y, q.B = some y → W.heap.size ≤ y.block)) ∧ (b 0 = true → (m0_ : Value) = .slice (some ⟨gz, 0, none⟩) 0 0) ∧ (b 9 = true → (m9_ : Value) = .agg #[.int .i64 q.adr, .int .i64 q.refs, .int .i64 q.sl, .int .i64 q.words, .slice q.A q.m q.c, .slice q.B q.n q.d]) ∧ (b 10 = true → (m10_ : Value) = .slice (some ⟨gq, 0, none⟩) 1 1) ∧ (b 16 = true → (m16_ : Value) = v3)) HT_.out HW_.out (by kernel_rfl) (by kernel_rfl) ?_ ?_ ?_
      · exact ⟨0, .bool false, default, 0, .bool false, .bool false, .bool false, .bool false, .bool false, .bool false, by simp only [putSel, Bool.false_eq_true, if_false], below_drew1 HR.out, fun h_ => absurd h_ (by decide), fun h_ => absurd h_ (by decide), fun h_ => absurd h_ (by decide), fun h_ => absurd h_ (by decide), fun h_ => absurd h_ (by decide), fun h_ => absurd h_ (by decide), fun h_ => absurd h_ (by decide), fun h_ => absurd h_ (by decide), fun h_ => absurd h_ (by decide), fun h_ => absurd h_ (by decide)⟩
      · skip
        clear HR
        refine steps_cons ?_ ?_
        · rintro b a w' ⟨gz, v1, q, gq, v2, v3, m0_, m9_, m10_, m16_, ha, Q_HR, Q_EZ, Q_R1, Q_QB, Q_BQ, Q_R2, Q_R3, Q_X0_, Q_X9_, Q_X10_, Q_X16_⟩ hb_ hon hoff
          refine ⟨_, rfl, fun K hK => ?_⟩
          replace ha := Aside0.mk ha
          have HR := Aside0.mk Q_HR
          refine value_ (w1 := ?_) (v := ?_) (by rfl) rfl ?_ ?_
          rotate_left 2
          · go_simp
            constructor
            · rfl
            · rfl
          have hb := below_alloc (Below.refl w'.heap.size w') (.cells #[] 40)
          refine hK.out _ _ ⟨w'.heap.size, v1, q, gq, v2, v3, (.slice (some ⟨w'.heap.size, 0, none⟩) 0 0), m9_, m10_, m16_, (by rw [ha.out]; exact putSel_upk 0 hb_ rfl rfl rfl), (below_step HR.out hb), fun _ _ => ⟨blk_new w' (.cells #[] 40), below_size HR.out⟩, fun h0_ _ => absurd ((hoff 4 (by kernel_rfl)).symm.trans h0_) (by decide), fun h0_ _ => absurd ((hoff 9 (by kernel_rfl)).symm.trans h0_) (by decide), fun h0_ _ => absurd ((hoff 10 (by kernel_rfl)).symm.trans h0_) (by decide), fun h0_ _ => absurd ((hoff 11 (by kernel_rfl)).symm.trans h0_) (by decide), fun h0_ => absurd ((hoff 15 (by kernel_rfl)).symm.trans h0_) (by decide), fun _ => rfl, fun h0_ => absurd ((hoff 9 (by kernel_rfl)).symm.trans h0_) (by decide), fun h0_ => absurd ((hoff 10 (by kernel_rfl)).symm.trans h0_) (by decide), fun h0_ => absurd ((hoff 16 (by kernel_rfl)).symm.trans h0_) (by decide)⟩
        refine steps_cons ?_ ?_
        · rintro b a w' ⟨gz, v1, q, gq, v2, v3, m0_, m9_, m10_, m16_, ha, Q_HR, Q_EZ, Q_R1, Q_QB, Q_BQ, Q_R2, Q_R3, Q_X0_, Q_X9_, Q_X10_, Q_X16_⟩ hb_ hon hoff
          refine ⟨_, rfl, fun K hK => ?_⟩
          have e7 : a.tmps[7]? = some (.slice A0 n c0) := by rw [ha]; exact (putSel_not (hoff 16 (by kernel_rfl)) rfl).trans rfl
          replace ha := Aside0.mk ha
          have HR := Aside0.mk Q_HR
          refine value_ (w1 := w') (v := .slice A0 n c0) (by rfl) rfl ?_ ?_
          · go_simp
            (try simp only [i64_w])
            try rfl
          refine hK.out _ _ ⟨gz, v1, q, gq, v2, v3, m0_, m9_, m10_, m16_, (by rw [ha.out]; exact putSel_upk 1 hb_ rfl rfl rfl), Q_HR, Q_EZ, fun h0_ _ => absurd ((hoff 4 (by kernel_rfl)).symm.trans h0_) (by decide), fun h0_ _ => absurd ((hoff 9 (by kernel_rfl)).symm.trans h0_) (by decide), fun h0_ _ => absurd ((hoff 10 (by kernel_rfl)).symm.trans h0_) (by decide), fun h0_ _ => absurd ((hoff 11 (by kernel_rfl)).symm.trans h0_) (by decide), fun h0_ => absurd ((hoff 15 (by kernel_rfl)).symm.trans h0_) (by decide), Q_X0_, fun h0_ => absurd ((hoff 9 (by kernel_rfl)).symm.trans h0_) (by decide), fun h0_ => absurd ((hoff 10 (by kernel_rfl)).symm.trans h0_) (by decide), fun h0_ => absurd ((hoff 16 (by kernel_rfl)).symm.trans h0_) (by decide)⟩
        refine steps_cons ?_ ?_
        · rintro b a w' ⟨gz, v1, q, gq, v2, v3, m0_, m9_, m10_, m16_, ha, Q_HR, Q_EZ, Q_R1, Q_QB, Q_BQ, Q_R2, Q_R3, Q_X0_, Q_X9_, Q_X10_, Q_X16_⟩ hb_ hon hoff
          refine ⟨_, rfl, fun K hK => ?_⟩
          have e11 : a.tmps[11]? = some (.int .i64 (bh : Int)) := by rw [ha]; exact (putSel_off rfl).trans rfl
          replace ha := Aside0.mk ha
          have HR := Aside0.mk Q_HR
          refine value_ (w1 := w') (v := .int .i64 (bh : Int)) (by rfl) rfl ?_ ?_
          · go_simp
            (try simp only [i64_w])
            try rfl
          refine hK.out _ _ ⟨gz, v1, q, gq, v2, v3, m0_, m9_, m10_, m16_, (by rw [ha.out]; exact putSel_upk 2 hb_ rfl rfl rfl), Q_HR, Q_EZ, fun h0_ _ => absurd ((hoff 4 (by kernel_rfl)).symm.trans h0_) (by decide), fun h0_ _ => absurd ((hoff 9 (by kernel_rfl)).symm.trans h0_) (by decide), fun h0_ _ => absurd ((hoff 10 (by kernel_rfl)).symm.trans h0_) (by decide), fun h0_ _ => absurd ((hoff 11 (by kernel_rfl)).symm.trans h0_) (by decide), fun h0_ => absurd ((hoff 15 (by kernel_rfl)).symm.trans h0_) (by decide), Q_X0_, fun h0_ => absurd ((hoff 9 (by kernel_rfl)).symm.trans h0_) (by decide), fun h0_ => absurd ((hoff 10 (by kernel_rfl)).symm.trans h0_) (by decide), fun h0_ => absurd ((hoff 16 (by kernel_rfl)).symm.trans h0_) (by decide)⟩
        refine steps_cons ?_ ?_
        · rintro b a w' ⟨gz, v1, q, gq, v2, v3, m0_, m9_, m10_, m16_, ha, Q_HR, Q_EZ, Q_R1, Q_QB, Q_BQ, Q_R2, Q_R3, Q_X0_, Q_X9_, Q_X10_, Q_X16_⟩ hb_ hon hoff
          refine ⟨_, rfl, fun K hK => ?_⟩
          have e100 : a.tmps[100]? = some (.slice A0 n c0) := by rw [ha]; exact putSel_on (e := (1, 100, .slice A0 n c0)) 1 rfl rfl (hon 1 (by kernel_rfl)) rfl
          have e101 : a.tmps[101]? = some (.int .i64 (bh : Int)) := by rw [ha]; exact putSel_on (e := (2, 101, .int .i64 (bh : Int))) 2 rfl rfl (hon 2 (by kernel_rfl)) rfl
          replace ha := Aside0.mk ha
          have HR := Aside0.mk Q_HR
          refine value_ (w1 := w') (v := .slice A0 bh c0) (by rfl) rfl ?_ ?_
          · go_simp
            (try simp only [i64_w])
            try rfl
          refine hK.out _ _ ⟨gz, v1, q, gq, v2, v3, m0_, m9_, m10_, m16_, (by rw [ha.out]; exact putSel_upk 3 hb_ rfl rfl rfl), Q_HR, Q_EZ, fun h0_ _ => absurd ((hoff 4 (by kernel_rfl)).symm.trans h0_) (by decide), fun h0_ _ => absurd ((hoff 9 (by kernel_rfl)).symm.trans h0_) (by decide), fun h0_ _ => absurd ((hoff 10 (by kernel_rfl)).symm.trans h0_) (by decide), fun h0_ _ => absurd ((hoff 11 (by kernel_rfl)).symm.trans h0_) (by decide), fun h0_ => absurd ((hoff 15 (by kernel_rfl)).symm.trans h0_) (by decide), Q_X0_, fun h0_ => absurd ((hoff 9 (by kernel_rfl)).symm.trans h0_) (by decide), fun h0_ => absurd ((hoff 10 (by kernel_rfl)).symm.trans h0_) (by decide), fun h0_ => absurd ((hoff 16 (by kernel_rfl)).symm.trans h0_) (by decide)⟩
        refine steps_cons ?_ ?_
        · rintro b a w' ⟨gz, v1, q, gq, v2, v3, m0_, m9_, m10_, m16_, ha, Q_HR, Q_EZ, Q_R1, Q_QB, Q_BQ, Q_R2, Q_R3, Q_X0_, Q_X9_, Q_X10_, Q_X16_⟩ hb_ hon hoff
          refine ⟨_, rfl, fun K hK => ?_⟩
          have e99 : a.tmps[99]? = some (m0_) := by rw [ha]; exact putSel_on (e := (0, 99, m0_)) 0 rfl rfl (hon 0 (by kernel_rfl)) rfl
          rw [Q_X0_ (hon 0 (by kernel_rfl))] at e99
          have e102 : a.tmps[102]? = some (.slice A0 bh c0) := by rw [ha]; exact putSel_on (e := (3, 102, .slice A0 bh c0)) 3 rfl rfl (hon 3 (by kernel_rfl)) rfl
          replace ha := Aside0.mk ha
          have HR := Aside0.mk Q_HR
          have EZ := Aside0.mk (Q_EZ (hon 0 (by kernel_rfl)) hb_)
          refine append_nl_ (by rfl) rfl (.tmp 99) (.tmp 102) 23 rfl _ W.heap.size 40 i0 (.agg #[.int .i64 0, .int .i64 0, .int .i64 0, .int .i64 0, .slice none 0 0, .slice none 0 0]) Try.underlying23 hi hz0 hz1 hz2 rfl (.slice (some ⟨gz, 0, none⟩) 0 0) 0 [] ?qs1 (row_empty EZ.out.1 EZ.out.2) A0 bh c0 (M.take bh) ?qx1 ((HNL.out.kept fun k hk => HR.out.block k hk).take hbn) (by omega) (below_size HR.out) ?_
          (case qs1 => simp [Act.eval, e99])
          (case qx1 => simp [Act.eval, e102])
          intro v9 w9 hown9 hgr9 hat9
          rw [Nat.zero_add, List.nil_append] at hown9
          have hrz := row_empty (s := 6) EZ.out.1 EZ.out.2
          refine hK.out _ _ ⟨gz, v9, q, gq, v2, v3, m0_, m9_, m10_, m16_, (by rw [ha.out]; exact putSel_upk 4 hb_ rfl rfl rfl), (own_below HR.out (Nat.le_refl _) hrz hgr9), fun _ h1_ => absurd ((up_self b 4).symm.trans h1_) (by decide), fun _ _ => hown9, fun h0_ _ => absurd ((hoff 9 (by kernel_rfl)).symm.trans h0_) (by decide), fun h0_ _ => absurd ((hoff 10 (by kernel_rfl)).symm.trans h0_) (by decide), fun h0_ _ => absurd ((hoff 11 (by kernel_rfl)).symm.trans h0_) (by decide), fun h0_ => absurd ((hoff 15 (by kernel_rfl)).symm.trans h0_) (by decide), Q_X0_, fun h0_ => absurd ((hoff 9 (by kernel_rfl)).symm.trans h0_) (by decide), fun h0_ => absurd ((hoff 10 (by kernel_rfl)).symm.trans h0_) (by decide), fun h0_ => absurd ((hoff 16 (by kernel_rfl)).symm.trans h0_) (by decide)⟩
        refine steps_cons ?_ ?_
        · rintro b a w' ⟨gz, v1, q, gq, v2, v3, m0_, m9_, m10_, m16_, ha, Q_HR, Q_EZ, Q_R1, Q_QB, Q_BQ, Q_R2, Q_R3, Q_X0_, Q_X9_, Q_X10_, Q_X16_⟩ hb_ hon hoff
          refine ⟨_, rfl, fun K hK => ?_⟩
          have e9 : a.tmps[9]? = some (.pointer (some ⟨g9, 0, none⟩)) := by rw [ha]; exact (putSel_off rfl).trans rfl
          replace ha := Aside0.mk ha
          have HR := Aside0.mk Q_HR
          refine value_ (w1 := w') (v := .pointer (some ⟨g9, 1, none⟩)) (by rfl) rfl ?_ ?_
          · go_simp
            (try simp only [i64_w])
            try rfl
          refine hK.out _ _ ⟨gz, v1, q, gq, v2, v3, m0_, m9_, m10_, m16_, (by rw [ha.out]; exact putSel_upk 5 hb_ rfl rfl rfl), Q_HR, Q_EZ, Q_R1, fun h0_ _ => absurd ((hoff 9 (by kernel_rfl)).symm.trans h0_) (by decide), fun h0_ _ => absurd ((hoff 10 (by kernel_rfl)).symm.trans h0_) (by decide), fun h0_ _ => absurd ((hoff 11 (by kernel_rfl)).symm.trans h0_) (by decide), fun h0_ => absurd ((hoff 15 (by kernel_rfl)).symm.trans h0_) (by decide), Q_X0_, fun h0_ => absurd ((hoff 9 (by kernel_rfl)).symm.trans h0_) (by decide), fun h0_ => absurd ((hoff 10 (by kernel_rfl)).symm.trans h0_) (by decide), fun h0_ => absurd ((hoff 16 (by kernel_rfl)).symm.trans h0_) (by decide)⟩
        refine steps_cons ?_ ?_
        · rintro b a w' ⟨gz, v1, q, gq, v2, v3, m0_, m9_, m10_, m16_, ha, Q_HR, Q_EZ, Q_R1, Q_QB, Q_BQ, Q_R2, Q_R3, Q_X0_, Q_X9_, Q_X10_, Q_X16_⟩ hb_ hon hoff
          refine ⟨_, rfl, fun K hK => ?_⟩
          have e104 : a.tmps[104]? = some (.pointer (some ⟨g9, 1, none⟩)) := by rw [ha]; exact putSel_on (e := (5, 104, .pointer (some ⟨g9, 1, none⟩))) 5 rfl rfl (hon 5 (by kernel_rfl)) rfl
          replace ha := Aside0.mk ha
          have HR := Aside0.mk Q_HR
          have hl105_0 : w'.cell? ⟨g9, 1, none⟩ = some (.int .i64 ca) := (blk_cell (blk_below BK9.out HR.out) 1).trans rfl
          refine value_ (w1 := w') (v := .int .i64 ca) (by rfl) rfl ?_ ?_
          · go_simp
            (try simp only [i64_w])
            try rfl
          refine hK.out _ _ ⟨gz, v1, q, gq, v2, v3, m0_, m9_, m10_, m16_, (by rw [ha.out]; exact putSel_upk 6 hb_ rfl rfl rfl), Q_HR, Q_EZ, Q_R1, fun h0_ _ => absurd ((hoff 9 (by kernel_rfl)).symm.trans h0_) (by decide), fun h0_ _ => absurd ((hoff 10 (by kernel_rfl)).symm.trans h0_) (by decide), fun h0_ _ => absurd ((hoff 11 (by kernel_rfl)).symm.trans h0_) (by decide), fun h0_ => absurd ((hoff 15 (by kernel_rfl)).symm.trans h0_) (by decide), Q_X0_, fun h0_ => absurd ((hoff 9 (by kernel_rfl)).symm.trans h0_) (by decide), fun h0_ => absurd ((hoff 10 (by kernel_rfl)).symm.trans h0_) (by decide), fun h0_ => absurd ((hoff 16 (by kernel_rfl)).symm.trans h0_) (by decide)⟩
        refine steps_cons ?_ ?_
        · rintro b a w' ⟨gz, v1, q, gq, v2, v3, m0_, m9_, m10_, m16_, ha, Q_HR, Q_EZ, Q_R1, Q_QB, Q_BQ, Q_R2, Q_R3, Q_X0_, Q_X9_, Q_X10_, Q_X16_⟩ hb_ hon hoff
          refine ⟨_, rfl, fun K hK => ?_⟩
          have e9 : a.tmps[9]? = some (.pointer (some ⟨g9, 0, none⟩)) := by rw [ha]; exact (putSel_off rfl).trans rfl
          replace ha := Aside0.mk ha
          have HR := Aside0.mk Q_HR
          refine value_ (w1 := w') (v := .pointer (some ⟨g9, 4, none⟩)) (by rfl) rfl ?_ ?_
          · go_simp
            (try simp only [i64_w])
            try rfl
          refine hK.out _ _ ⟨gz, v1, q, gq, v2, v3, m0_, m9_, m10_, m16_, (by rw [ha.out]; exact putSel_upk 7 hb_ rfl rfl rfl), Q_HR, Q_EZ, Q_R1, fun h0_ _ => absurd ((hoff 9 (by kernel_rfl)).symm.trans h0_) (by decide), fun h0_ _ => absurd ((hoff 10 (by kernel_rfl)).symm.trans h0_) (by decide), fun h0_ _ => absurd ((hoff 11 (by kernel_rfl)).symm.trans h0_) (by decide), fun h0_ => absurd ((hoff 15 (by kernel_rfl)).symm.trans h0_) (by decide), Q_X0_, fun h0_ => absurd ((hoff 9 (by kernel_rfl)).symm.trans h0_) (by decide), fun h0_ => absurd ((hoff 10 (by kernel_rfl)).symm.trans h0_) (by decide), fun h0_ => absurd ((hoff 16 (by kernel_rfl)).symm.trans h0_) (by decide)⟩
        refine steps_cons ?_ ?_
        · rintro b a w' ⟨gz, v1, q, gq, v2, v3, m0_, m9_, m10_, m16_, ha, Q_HR, Q_EZ, Q_R1, Q_QB, Q_BQ, Q_R2, Q_R3, Q_X0_, Q_X9_, Q_X10_, Q_X16_⟩ hb_ hon hoff
          refine ⟨_, rfl, fun K hK => ?_⟩
          have e106 : a.tmps[106]? = some (.pointer (some ⟨g9, 4, none⟩)) := by rw [ha]; exact putSel_on (e := (7, 106, .pointer (some ⟨g9, 4, none⟩))) 7 rfl rfl (hon 7 (by kernel_rfl)) rfl
          replace ha := Aside0.mk ha
          have HR := Aside0.mk Q_HR
          have hl107_0 : w'.cell? ⟨g9, 4, none⟩ = some (.int .u64 cs) := (blk_cell (blk_below BK9.out HR.out) 4).trans rfl
          refine value_ (w1 := w') (v := .int .u64 cs) (by rfl) rfl ?_ ?_
          · go_simp
            (try simp only [i64_w])
            try rfl
          refine hK.out _ _ ⟨gz, v1, q, gq, v2, v3, m0_, m9_, m10_, m16_, (by rw [ha.out]; exact putSel_upk 8 hb_ rfl rfl rfl), Q_HR, Q_EZ, Q_R1, fun h0_ _ => absurd ((hoff 9 (by kernel_rfl)).symm.trans h0_) (by decide), fun h0_ _ => absurd ((hoff 10 (by kernel_rfl)).symm.trans h0_) (by decide), fun h0_ _ => absurd ((hoff 11 (by kernel_rfl)).symm.trans h0_) (by decide), fun h0_ => absurd ((hoff 15 (by kernel_rfl)).symm.trans h0_) (by decide), Q_X0_, fun h0_ => absurd ((hoff 9 (by kernel_rfl)).symm.trans h0_) (by decide), fun h0_ => absurd ((hoff 10 (by kernel_rfl)).symm.trans h0_) (by decide), fun h0_ => absurd ((hoff 16 (by kernel_rfl)).symm.trans h0_) (by decide)⟩
        refine steps_cons ?_ ?_
        · rintro b a w' ⟨gz, v1, q, gq, v2, v3, m0_, m9_, m10_, m16_, ha, Q_HR, Q_EZ, Q_R1, Q_QB, Q_BQ, Q_R2, Q_R3, Q_X0_, Q_X9_, Q_X10_, Q_X16_⟩ hb_ hon hoff
          refine ⟨_, rfl, fun K hK => ?_⟩
          have e105 : a.tmps[105]? = some (.int .i64 ca) := by rw [ha]; exact putSel_on (e := (6, 105, .int .i64 ca)) 6 rfl rfl (hon 6 (by kernel_rfl)) rfl
          have e107 : a.tmps[107]? = some (.int .u64 cs) := by rw [ha]; exact putSel_on (e := (8, 107, .int .u64 cs)) 8 rfl rfl (hon 8 (by kernel_rfl)) rfl
          replace ha := Aside0.mk ha
          have HR := Aside0.mk Q_HR
          have R1 := Aside0.mk (Q_R1 (hon 4 (by kernel_rfl)) (hoff 11 (by kernel_rfl)))
          refine goes_ Try.func24 (by kernel_rfl) rfl #[.int .i64 ca, .int .u64 cs] (by rfl) rfl rfl (by first | (simp only [List.map_toArray, List.map_cons, List.map_nil, Act.eval, Array.getD_eq_getD_getElem?, Option.getD_some, e105, e107]; done) | (simp only [List.map_toArray, List.map_cons, List.map_nil, Act.eval, Array.getD_eq_getD_getElem?, Option.getD_some, e105, e107]; rfl)) ?_
          with_reducible refine (rbareX_calls _ ca cs HCS.out).mono ?_
          rintro e w3 ⟨q3, rfl, hq3, hd3, hm3, hy3, hb⟩
          refine ⟨_, rfl, ?_⟩
          refine hK.out _ _ ⟨gz, v1, q3, gq, v2, v3, m0_, (.agg #[.int .i64 q3.adr, .int .i64 q3.refs, .int .i64 q3.sl, .int .i64 q3.words, .slice q3.A q3.m q3.c, .slice q3.B q3.n q3.d]), m10_, m16_, (by rw [ha.out]; exact putSel_upk 9 hb_ rfl rfl rfl), (below_step HR.out hb), fun _ h1_ => absurd ((hon 4 (by kernel_rfl)).symm.trans h1_) (by decide), fun _ _ => (Di.row_below R1.out hb), fun _ _ => ⟨hq3, DX_fresh hd3 hm3 hy3 (fun j hj => (R1.out.lt j (Option.mem_toList.1 hj)).2), hm3, fun y e => Nat.le_trans HR.out.size (hy3 y e)⟩, fun h0_ _ => absurd ((hoff 10 (by kernel_rfl)).symm.trans h0_) (by decide), fun h0_ _ => absurd ((hoff 11 (by kernel_rfl)).symm.trans h0_) (by decide), fun h0_ => absurd ((hoff 15 (by kernel_rfl)).symm.trans h0_) (by decide), Q_X0_, fun _ => rfl, fun h0_ => absurd ((hoff 10 (by kernel_rfl)).symm.trans h0_) (by decide), fun h0_ => absurd ((hoff 16 (by kernel_rfl)).symm.trans h0_) (by decide)⟩
        refine steps_cons ?_ ?_
        · rintro b a w' ⟨gz, v1, q, gq, v2, v3, m0_, m9_, m10_, m16_, ha, Q_HR, Q_EZ, Q_R1, Q_QB, Q_BQ, Q_R2, Q_R3, Q_X0_, Q_X9_, Q_X10_, Q_X16_⟩ hb_ hon hoff
          refine ⟨_, rfl, fun K hK => ?_⟩
          have e108 : a.tmps[108]? = some (m9_) := by rw [ha]; exact putSel_on (e := (9, 108, m9_)) 9 rfl rfl (hon 9 (by kernel_rfl)) rfl
          rw [Q_X9_ (hon 9 (by kernel_rfl))] at e108
          replace ha := Aside0.mk ha
          have HR := Aside0.mk Q_HR
          have R1 := Aside0.mk (Q_R1 (hon 4 (by kernel_rfl)) (hoff 11 (by kernel_rfl)))
          have QB := Aside0.mk (Q_QB (hon 9 (by kernel_rfl)) (hoff 11 (by kernel_rfl)))
          refine value_ (w1 := ?_) (v := ?_) (by rfl) rfl ?_ ?_
          rotate_left 2
          · go_simp
            constructor
            · rfl
            · rfl
          have hb := below_alloc (Below.refl w'.heap.size w') (.cells #[.int .i64 q.adr, .int .i64 q.refs, .int .i64 q.sl, .int .i64 q.words, .slice q.A q.m q.c, .slice q.B q.n q.d] 40)
          refine hK.out _ _ ⟨gz, v1, q, w'.heap.size, v2, v3, m0_, m9_, (.slice (some ⟨w'.heap.size, 0, none⟩) 1 1), m16_, (by rw [ha.out]; exact putSel_upk 10 hb_ rfl rfl rfl), (below_step HR.out hb), fun _ h1_ => absurd ((hon 4 (by kernel_rfl)).symm.trans h1_) (by decide), fun _ _ => (Di.row_below R1.out hb), fun _ _ => ⟨QB.out.1, QB.out.2.1.to (fun j hj _ => hb.block j hj) hb.size (fun _ _ h => h), QB.out.2.2⟩, fun _ _ => (blk_new w' (.cells #[.int .i64 q.adr, .int .i64 q.refs, .int .i64 q.sl, .int .i64 q.words, .slice q.A q.m q.c, .slice q.B q.n q.d] 40)), fun h0_ _ => absurd ((hoff 11 (by kernel_rfl)).symm.trans h0_) (by decide), fun h0_ => absurd ((hoff 15 (by kernel_rfl)).symm.trans h0_) (by decide), Q_X0_, Q_X9_, fun _ => rfl, fun h0_ => absurd ((hoff 16 (by kernel_rfl)).symm.trans h0_) (by decide)⟩
        refine steps_cons ?_ ?_
        · rintro b a w' ⟨gz, v1, q, gq, v2, v3, m0_, m9_, m10_, m16_, ha, Q_HR, Q_EZ, Q_R1, Q_QB, Q_BQ, Q_R2, Q_R3, Q_X0_, Q_X9_, Q_X10_, Q_X16_⟩ hb_ hon hoff
          refine ⟨_, rfl, fun K hK => ?_⟩
          have e103 : a.tmps[103]? = some (v1) := by rw [ha]; exact putSel_on (e := (4, 103, v1)) 4 rfl rfl (hon 4 (by kernel_rfl)) rfl
          have e109 : a.tmps[109]? = some (m10_) := by rw [ha]; exact putSel_on (e := (10, 109, m10_)) 10 rfl rfl (hon 10 (by kernel_rfl)) rfl
          rw [Q_X10_ (hon 10 (by kernel_rfl))] at e109
          replace ha := Aside0.mk ha
          have HR := Aside0.mk Q_HR
          have R1 := Aside0.mk (Q_R1 (hon 4 (by kernel_rfl)) hb_)
          have QB := Aside0.mk (Q_QB (hon 9 (by kernel_rfl)) hb_)
          have BQ := Aside0.mk (Q_BQ (hon 10 (by kernel_rfl)) hb_)
          refine append_nl_ (by rfl) rfl (.tmp 103) (.tmp 109) 23 rfl _ W.heap.size 40 i0 (.agg #[.int .i64 0, .int .i64 0, .int .i64 0, .int .i64 0, .slice none 0 0, .slice none 0 0]) Try.underlying23 hi hz0 hz1 hz2 rfl v1 bh (nds (M.take bh)) ?qs1 R1.out (some ⟨gq, 0, none⟩) 1 1 [q] ?qx1 (NL_one BQ.out) (by omega) (below_size HR.out) ?_
          (case qs1 => simp [Act.eval, e103])
          (case qx1 => simp [Act.eval, e109])
          intro v9 w9 hown9 hgr9 hat9
          rw [← nds_app] at hown9
          have hdx9 := QB.out.2.1.own hgr9 hat9
          refine hK.out _ _ ⟨gz, v1, q, gq, v9, v3, m0_, m9_, m10_, m16_, (by rw [ha.out]; exact putSel_upk 11 hb_ rfl rfl rfl), (own_below HR.out (Nat.le_refl _) R1.out hgr9), fun _ h1_ => absurd ((hon 4 (by kernel_rfl)).symm.trans h1_) (by decide), fun _ h1_ => absurd ((up_self b 11).symm.trans h1_) (by decide), fun _ h1_ => absurd ((up_self b 11).symm.trans h1_) (by decide), fun _ h1_ => absurd ((up_self b 11).symm.trans h1_) (by decide), fun _ _ => ⟨hown9, QB.out.1, hdx9, QB.out.2.2⟩, fun h0_ => absurd ((hoff 15 (by kernel_rfl)).symm.trans h0_) (by decide), Q_X0_, Q_X9_, Q_X10_, fun h0_ => absurd ((hoff 16 (by kernel_rfl)).symm.trans h0_) (by decide)⟩
        refine steps_cons ?_ ?_
        · rintro b a w' ⟨gz, v1, q, gq, v2, v3, m0_, m9_, m10_, m16_, ha, Q_HR, Q_EZ, Q_R1, Q_QB, Q_BQ, Q_R2, Q_R3, Q_X0_, Q_X9_, Q_X10_, Q_X16_⟩ hb_ hon hoff
          refine ⟨_, rfl, fun K hK => ?_⟩
          have e7 : a.tmps[7]? = some (.slice A0 n c0) := by rw [ha]; exact (putSel_not (hoff 16 (by kernel_rfl)) rfl).trans rfl
          replace ha := Aside0.mk ha
          have HR := Aside0.mk Q_HR
          refine value_ (w1 := w') (v := .slice A0 n c0) (by rfl) rfl ?_ ?_
          · go_simp
            (try simp only [i64_w])
            try rfl
          refine hK.out _ _ ⟨gz, v1, q, gq, v2, v3, m0_, m9_, m10_, m16_, (by rw [ha.out]; exact putSel_upk 12 hb_ rfl rfl rfl), Q_HR, Q_EZ, Q_R1, Q_QB, Q_BQ, Q_R2, fun h0_ => absurd ((hoff 15 (by kernel_rfl)).symm.trans h0_) (by decide), Q_X0_, Q_X9_, Q_X10_, fun h0_ => absurd ((hoff 16 (by kernel_rfl)).symm.trans h0_) (by decide)⟩
        refine steps_cons ?_ ?_
        · rintro b a w' ⟨gz, v1, q, gq, v2, v3, m0_, m9_, m10_, m16_, ha, Q_HR, Q_EZ, Q_R1, Q_QB, Q_BQ, Q_R2, Q_R3, Q_X0_, Q_X9_, Q_X10_, Q_X16_⟩ hb_ hon hoff
          refine ⟨_, rfl, fun K hK => ?_⟩
          have e11 : a.tmps[11]? = some (.int .i64 (bh : Int)) := by rw [ha]; exact (putSel_off rfl).trans rfl
          replace ha := Aside0.mk ha
          have HR := Aside0.mk Q_HR
          refine value_ (w1 := w') (v := .int .i64 (bh : Int)) (by rfl) rfl ?_ ?_
          · go_simp
            (try simp only [i64_w])
            try rfl
          refine hK.out _ _ ⟨gz, v1, q, gq, v2, v3, m0_, m9_, m10_, m16_, (by rw [ha.out]; exact putSel_upk 13 hb_ rfl rfl rfl), Q_HR, Q_EZ, Q_R1, Q_QB, Q_BQ, Q_R2, fun h0_ => absurd ((hoff 15 (by kernel_rfl)).symm.trans h0_) (by decide), Q_X0_, Q_X9_, Q_X10_, fun h0_ => absurd ((hoff 16 (by kernel_rfl)).symm.trans h0_) (by decide)⟩
        refine steps_cons ?_ ?_
        · rintro b a w' ⟨gz, v1, q, gq, v2, v3, m0_, m9_, m10_, m16_, ha, Q_HR, Q_EZ, Q_R1, Q_QB, Q_BQ, Q_R2, Q_R3, Q_X0_, Q_X9_, Q_X10_, Q_X16_⟩ hb_ hon hoff
          refine ⟨_, rfl, fun K hK => ?_⟩
          have e111 : a.tmps[111]? = some (.slice A0 n c0) := by rw [ha]; exact putSel_on (e := (12, 111, .slice A0 n c0)) 12 rfl rfl (hon 12 (by kernel_rfl)) rfl
          have e112 : a.tmps[112]? = some (.int .i64 (bh : Int)) := by rw [ha]; exact putSel_on (e := (13, 112, .int .i64 (bh : Int))) 13 rfl rfl (hon 13 (by kernel_rfl)) rfl
          replace ha := Aside0.mk ha
          have HR := Aside0.mk Q_HR
          refine value_ (w1 := w') (v := .slice A2 (n - bh) (c0 - bh)) (by rfl) rfl ?_ ?_
          · go_simp
            (try simp only [i64_w])
            try rfl
          refine hK.out _ _ ⟨gz, v1, q, gq, v2, v3, m0_, m9_, m10_, m16_, (by rw [ha.out]; exact putSel_upk 14 hb_ rfl rfl rfl), Q_HR, Q_EZ, Q_R1, Q_QB, Q_BQ, Q_R2, fun h0_ => absurd ((hoff 15 (by kernel_rfl)).symm.trans h0_) (by decide), Q_X0_, Q_X9_, Q_X10_, fun h0_ => absurd ((hoff 16 (by kernel_rfl)).symm.trans h0_) (by decide)⟩
        refine steps_cons ?_ ?_
        · rintro b a w' ⟨gz, v1, q, gq, v2, v3, m0_, m9_, m10_, m16_, ha, Q_HR, Q_EZ, Q_R1, Q_QB, Q_BQ, Q_R2, Q_R3, Q_X0_, Q_X9_, Q_X10_, Q_X16_⟩ hb_ hon hoff
          refine ⟨_, rfl, fun K hK => ?_⟩
          have e110 : a.tmps[110]? = some (v2) := by rw [ha]; exact putSel_on (e := (11, 110, v2)) 11 rfl rfl (hon 11 (by kernel_rfl)) rfl
          have e113 : a.tmps[113]? = some (.slice A2 (n - bh) (c0 - bh)) := by rw [ha]; exact putSel_on (e := (14, 113, .slice A2 (n - bh) (c0 - bh))) 14 rfl rfl (hon 14 (by kernel_rfl)) rfl
          replace ha := Aside0.mk ha
          have HR := Aside0.mk Q_HR
          have R2 := Aside0.mk (Q_R2 (hon 11 (by kernel_rfl)) hb_)
          refine append_nl_ (by rfl) rfl (.tmp 110) (.tmp 113) 23 rfl _ W.heap.size 40 i0 (.agg #[.int .i64 0, .int .i64 0, .int .i64 0, .int .i64 0, .slice none 0 0, .slice none 0 0]) Try.underlying23 hi hz0 hz1 hz2 rfl v2 (bh + 1) (nds (M.take bh ++ [q])) ?qs1 R2.out.1 A2 (n - bh) (c0 - bh) (M.drop bh) ?qx1 (HA2.out _ _ _ ((HNL.out.kept fun k hk => HR.out.block k hk).drop hbn hnc)) (by omega) (below_size HR.out) ?_
          (case qs1 => simp [Act.eval, e110])
          (case qx1 => simp [Act.eval, e113])
          intro v9 w9 hown9 hgr9 hat9
          rw [← nds_app] at hown9
          have hdx9 := R2.out.2.2.1.own hgr9 hat9
          refine hK.out _ _ ⟨gz, v1, q, gq, v2, v9, m0_, m9_, m10_, m16_, (by rw [ha.out]; exact putSel_upk 15 hb_ rfl rfl rfl), (own_below HR.out (Nat.le_refl _) R2.out.1 hgr9), fun _ h1_ => absurd ((hon 4 (by kernel_rfl)).symm.trans h1_) (by decide), fun _ h1_ => absurd ((hon 11 (by kernel_rfl)).symm.trans h1_) (by decide), fun _ h1_ => absurd ((hon 11 (by kernel_rfl)).symm.trans h1_) (by decide), fun _ h1_ => absurd ((hon 11 (by kernel_rfl)).symm.trans h1_) (by decide), fun _ h1_ => absurd ((up_self b 15).symm.trans h1_) (by decide), fun _ => ⟨hown9, R2.out.2.1, hdx9, R2.out.2.2.2⟩, Q_X0_, Q_X9_, Q_X10_, fun h0_ => absurd ((hoff 16 (by kernel_rfl)).symm.trans h0_) (by decide)⟩
        refine steps_cons ?_ ?_
        · rintro b a w' ⟨gz, v1, q, gq, v2, v3, m0_, m9_, m10_, m16_, ha, Q_HR, Q_EZ, Q_R1, Q_QB, Q_BQ, Q_R2, Q_R3, Q_X0_, Q_X9_, Q_X10_, Q_X16_⟩ hb_ hon hoff
          refine ⟨_, rfl, fun K hK => ?_⟩
          have e114 : a.tmps[114]? = some (v3) := by rw [ha]; exact putSel_on (e := (15, 114, v3)) 15 rfl rfl (hon 15 (by kernel_rfl)) rfl
          replace ha := Aside0.mk ha
          have HR := Aside0.mk Q_HR
          have R3 := Aside0.mk (Q_R3 (hon 15 (by kernel_rfl)))
          refine value_ (w1 := w') (v := v3) (by rfl) rfl ?_ ?_
          · go_simp
            (try simp only [i64_w])
            try rfl
          refine hK.out _ _ ⟨gz, v1, q, gq, v2, v3, m0_, m9_, m10_, (v3), (by rw [ha.out]; exact putSel_upk 16 hb_ rfl rfl rfl), Q_HR, fun _ h1_ => absurd ((hon 4 (by kernel_rfl)).symm.trans h1_) (by decide), fun _ h1_ => absurd ((hon 11 (by kernel_rfl)).symm.trans h1_) (by decide), fun _ h1_ => absurd ((hon 11 (by kernel_rfl)).symm.trans h1_) (by decide), fun _ h1_ => absurd ((hon 11 (by kernel_rfl)).symm.trans h1_) (by decide), fun _ h1_ => absurd ((hon 15 (by kernel_rfl)).symm.trans h1_) (by decide), Q_R3, Q_X0_, Q_X9_, Q_X10_, fun _ => rfl⟩
        exact steps_nil
      rintro b a wq hall ⟨gz, v1, q, gq, v2, v3, m0_, m9_, m10_, m16_, ha, Q_HR, Q_EZ, Q_R1, Q_QB, Q_BQ, Q_R2, Q_R3, Q_X0_, Q_X9_, Q_X10_, Q_X16_⟩
      clear HR
      have hb0_ := hall 0 (by kernel_rfl)
      have hb1_ := hall 1 (by kernel_rfl)
      have hb2_ := hall 2 (by kernel_rfl)
      have hb3_ := hall 3 (by kernel_rfl)
      have hb4_ := hall 4 (by kernel_rfl)
      have hb5_ := hall 5 (by kernel_rfl)
      have hb6_ := hall 6 (by kernel_rfl)
      have hb7_ := hall 7 (by kernel_rfl)
      have hb8_ := hall 8 (by kernel_rfl)
      have hb9_ := hall 9 (by kernel_rfl)
      have hb10_ := hall 10 (by kernel_rfl)
      have hb11_ := hall 11 (by kernel_rfl)
      have hb12_ := hall 12 (by kernel_rfl)
      have hb13_ := hall 13 (by kernel_rfl)
      have hb14_ := hall 14 (by kernel_rfl)
      have hb15_ := hall 15 (by kernel_rfl)
      have hb16_ := hall 16 (by kernel_rfl)
      subst ha
      obtain rfl := Q_X0_ hb0_
      obtain rfl := Q_X9_ hb9_
      obtain rfl := Q_X10_ hb10_
      obtain rfl := Q_X16_ hb16_
      simp only [putSel, hb0_, hb1_, hb2_, hb3_, hb4_, hb5_, hb6_, hb7_, hb8_, hb9_, hb10_, hb11_, hb12_, hb13_, hb14_, hb15_, hb16_, if_true, Act.put, List.setIfInBounds_toArray, List.set_cons_zero, List.set_cons_succ]
      have HR := Aside0.mk Q_HR
      clear Q_HR
      clear Q_EZ
      clear Q_R1
      clear Q_QB
      clear Q_BQ
      clear Q_R2
      have R3 := Aside0.mk (Q_R3 hb15_)
      clear Q_R3
      clear hall hb0_ hb1_ hb2_ hb3_ hb4_ hb5_ hb6_ hb7_ hb8_ hb9_ hb10_ hb11_ hb12_ hb13_ hb14_ hb15_ hb16_
      clear hsl1 hsl2
      obtain ⟨hr3, hqp, hdx, hqm, hqy⟩ := R3.out
      have hqa : q.adr = ca := congrArg Pn.adr hqp
      have hqn : q.n ≤ 255 := by
        have : q.n = bareN cs := (hdx.2.1).symm.trans ((congrArg List.length (congrArg Pn.T hqp)).trans List.length_replicate)
        rw [this]; exact bareN_le cs
      have HST := Aside0.mk (show applyP (R, M.map Nd.pn) (⟨2, ca, ci, cw, cs⟩ : Ch) = some (R, (M.take bh ++ q :: M.drop bh).map Nd.pn) by
        rw [applyP_node (fun h => absurd h.1 (show ¬ ((2 : Int) = 4) by decide)), step_new (M := M) rfl HIDX.out hqp, HBB.out]; rfl)
      have hlen : (M.take bh ++ q :: M.drop bh).length = n + 1 := by
        have := HN.out
        rw [List.length_append, List.length_cons, List.length_take, List.length_drop]; omega
      have hr4 : wq.ownsRow W.heap.size 40 6 m16_ (M.take bh ++ q :: M.drop bh).length (nds (M.take bh ++ q :: M.drop bh)) := by
        rw [hlen]
        rw [List.append_assoc] at hr3
        rw [show bh + 1 + (n - bh) = n + 1 by omega] at hr3
        exact hr3
      have HRS := Aside0.mk (HS.out.nodes HR.out hr4 (by rw [adrs_put, hqa, HBB.out]; exact rise_put HS.out.rise (idx_none.1 HIDX.out)) (fun m hm => by
        rcases List.mem_append.1 hm with h | h
        · exact Or.inl (List.mem_of_mem_take h)
        · rcases List.mem_cons.1 h with h | h
          · subst h; exact Or.inr ⟨hdx, hqm, by omega, hqy⟩
          · exact Or.inl (List.mem_of_mem_drop h)))
      have HLN := Aside0.mk (show (M.take bh ++ q :: M.drop bh).length ≤ M.length + 1 by rw [hlen, ← HN.out]; exact Nat.le_refl _)
      clear hr3 hqp hdx hqm hqy hqa hqn hlen hr4 R3
      go_wp2
      exact .inr ⟨rfl, .inr ⟨.inl rfl, _, _, _, _, HST.out, ⟨rfl, rfl, rfl, rfl, rfl, rfl, rfl, rfl⟩, HRS.out, HLN.out⟩, nofun⟩
  · have hdk : decide (ck = 2) = false := decide_eq_false hk
    have HNP := Aside0.mk hk
    clear hat hbh
    conv => arg 2; whnf
    go_wp2
    exact .inl ⟨HNP.out, rfl, rfl, ⟨rfl, rfl, rfl, rfl, rfl, rfl, rfl, rfl, rfl, rfl, rfl⟩⟩
end Go.Proofs.Ytekggbmajemmhaa.Gr
