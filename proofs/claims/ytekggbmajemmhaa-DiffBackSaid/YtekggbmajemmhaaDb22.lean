/- Parts of one proof, set together: Ap22. What each says stands at its head; no condition beyond theirs. -/
import Derived.Test.YtekggbmajemmhaaDb21
/- The document's Same, at graphs that are alike. Conditions: both lie in memory; at most 1000 roots, nodes, slots, data. -/
namespace Go.Proofs.Ytekggbmajemmhaa.Gr
open Go.RowKit Go.Shelf Go.Maps Go.ChangeMaps Go.MapKept Go.Proofs.YtekggbmajemmhaaW.PrintWords Go.Proofs.YtekggbmajemmhaaW.PrintLast Go.Proofs.YtekggbmajemmhaaW.PrintMore
set_option linter.unusedSimpArgs false
set_option linter.unusedVariables false
def in6.T6 : Bool × List (List Nat × List Nat) := (true, [([], []), ([], []), ([0, 1], [0, 1]), ([2], [2]), ([], []), ([], []), ([4, 5], [4, 5]), ([6], [6]), ([3, 7], [3, 7])])
def in6.B6 : List Nat := [0, 0, 3, 7, 0, 0, 48, 112, 255]
theorem in6.tab6 : rtab .any (opsOf Try.f25 6) = in6.T6 := by kernel_rfl
theorem in6.bits6 : waitsOk in6.T6.2 in6.B6 = true := by kernel_rfl
set_option maxHeartbeats 8000000 in
set_option maxRecDepth 100000 in
theorem ints_yes (W : World) (A1 A2 : Option Addr) (n c d : Nat) (l : List Int) (H1 : Aside0 (IL .i64 W W.heap.size A1 n l)) (H2 : Aside0 (IL .i64 W W.heap.size A2 n l)) (hn : n ≤ 1000) : Calls Try.prog 25 #[.slice A1 n c, .slice A2 n d] W fun e W' => e = .returned (.bool true) ∧ Below W.heap.size W W' := by
  have HB := Aside0.mk (Below.refl W.heap.size W)
  go_enter Try.func25, Try.ntmps25
  go_upto_region 4 with fail
  go_loopw [5] (fun v wr => ∃ i : Nat, i ≤ n ∧ v = .int .i64 (i : Int) ∧ Aside0 (Below W.heap.size W wr)) (fun v _ => n - (intOf v).toNat)
  case atStart => exact ⟨0, by omega, rfl, HB⟩
  case round =>
    clear HB
    obtain ⟨i, hi_, rfl, HB⟩ := hrel
    by_cases hgo : i < n
    · have hd : decide ((i : Int) < (n : Int)) = true := decide_eq_true (by omega)
      obtain ⟨ya, ea, _, hya⟩ := (H1.out.kept fun k hk => HB.out.block k hk).2 i hgo
      obtain ⟨yb, eb, _, hyb⟩ := (H2.out.kept fun k hk => HB.out.block k hk).2 i hgo
      subst ea
      subst eb
      obtain ⟨x, hx⟩ : ∃ x, x = l.getD i 0 := ⟨_, rfl⟩
      rw [← hx] at hya hyb
      clear hx
      have hi0 : (0 : Int) ≤ (i : Int) := by omega
      have hi1 : (i : Int) < (n : Int) := by omega
      have hi1n : i + 1 ≤ n := by omega
      have hne : (x != x) = false := by simp
      go_upto_region 6 with fail
      have HR := Aside0.mk (Below.refl wr.heap.size wr)
      refine start_ (n := 9) (S := fun w' => True) (ds := []) #[false, false, false, false, false, false, false, false, false] (by kernel_rfl) rfl rfl trivial (fun hHeld => ?_)
      refine with_tabW in6.tab6 in6.bits6 (fun HT_ HW_ => ?_)
      refine inv_at [0, 1, 2, 3, 4, 5, 6, 7, 8] (fun a0_ b a w' => a = putSel a0_ b [(0, 17, .slice (some ya) n c), (1, 18, .int .i64 (i : Int)), (2, 19, .pointer (some (ya.add i))), (3, 20, .int .i64 x), (4, 21, .slice (some yb) n d), (5, 22, .int .i64 (i : Int)), (6, 23, .pointer (some (yb.add i))), (7, 24, .int .i64 x), (8, 25, .bool false)] ∧ (Below wr.heap.size wr w')) HT_.out HW_.out (by kernel_rfl) (by kernel_rfl) ?_ ?_ ?_
      · exact ⟨by simp only [putSel, Bool.false_eq_true, if_false], below_drew1 HR.out⟩
      · skip
        clear HR
        refine steps_cons ?_ ?_
        · rintro b a w' ⟨ha, Q_HR⟩ hb_ hon hoff
          refine ⟨_, rfl, fun K hK => ?_⟩
          have e0 : a.tmps[0]? = some (.slice (some ya) n c) := by rw [ha]; exact (putSel_off rfl).trans rfl
          replace ha := Aside0.mk ha
          have HR := Aside0.mk Q_HR
          refine value_ (w1 := w') (v := .slice (some ya) n c) (by rfl) rfl ?_ ?_
          · go_simp
            (try simp only [i64_w])
            try rfl
          refine hK.out _ _ ⟨(by rw [ha.out]; exact putSel_upk 0 hb_ rfl rfl rfl), Q_HR⟩
        refine steps_cons ?_ ?_
        · rintro b a w' ⟨ha, Q_HR⟩ hb_ hon hoff
          refine ⟨_, rfl, fun K hK => ?_⟩
          have e5 : a.tmps[5]? = some (.int .i64 (i : Int)) := by rw [ha]; exact (putSel_off rfl).trans rfl
          replace ha := Aside0.mk ha
          have HR := Aside0.mk Q_HR
          refine value_ (w1 := w') (v := .int .i64 (i : Int)) (by rfl) rfl ?_ ?_
          · go_simp
            (try simp only [i64_w])
            try rfl
          refine hK.out _ _ ⟨(by rw [ha.out]; exact putSel_upk 1 hb_ rfl rfl rfl), Q_HR⟩
        refine steps_cons ?_ ?_
        · rintro b a w' ⟨ha, Q_HR⟩ hb_ hon hoff
          refine ⟨_, rfl, fun K hK => ?_⟩
          have e17 : a.tmps[17]? = some (.slice (some ya) n c) := by rw [ha]; exact putSel_on (e := (0, 17, .slice (some ya) n c)) 0 rfl rfl (hon 0 (by kernel_rfl)) rfl
          have e18 : a.tmps[18]? = some (.int .i64 (i : Int)) := by rw [ha]; exact putSel_on (e := (1, 18, .int .i64 (i : Int))) 1 rfl rfl (hon 1 (by kernel_rfl)) rfl
          replace ha := Aside0.mk ha
          have HR := Aside0.mk Q_HR
          refine value_ (w1 := w') (v := .pointer (some (ya.add i))) (by rfl) rfl ?_ ?_
          · go_simp
            (try simp only [i64_w])
            try rfl
          refine hK.out _ _ ⟨(by rw [ha.out]; exact putSel_upk 2 hb_ rfl rfl rfl), Q_HR⟩
        refine steps_cons ?_ ?_
        · rintro b a w' ⟨ha, Q_HR⟩ hb_ hon hoff
          refine ⟨_, rfl, fun K hK => ?_⟩
          have e19 : a.tmps[19]? = some (.pointer (some (ya.add i))) := by rw [ha]; exact putSel_on (e := (2, 19, .pointer (some (ya.add i)))) 2 rfl rfl (hon 2 (by kernel_rfl)) rfl
          replace ha := Aside0.mk ha
          have HR := Aside0.mk Q_HR
          have hl20 : w'.cell? (ya.add i) = some (.int .i64 x) := (HR.out.cell (p := ya.add i) (cell_lt hya)).trans hya
          refine value_ (w1 := w') (v := .int .i64 x) (by rfl) rfl ?_ ?_
          · go_simp
            (try simp only [i64_w])
            try rfl
          refine hK.out _ _ ⟨(by rw [ha.out]; exact putSel_upk 3 hb_ rfl rfl rfl), Q_HR⟩
        refine steps_cons ?_ ?_
        · rintro b a w' ⟨ha, Q_HR⟩ hb_ hon hoff
          refine ⟨_, rfl, fun K hK => ?_⟩
          have e1 : a.tmps[1]? = some (.slice (some yb) n d) := by rw [ha]; exact (putSel_off rfl).trans rfl
          replace ha := Aside0.mk ha
          have HR := Aside0.mk Q_HR
          refine value_ (w1 := w') (v := .slice (some yb) n d) (by rfl) rfl ?_ ?_
          · go_simp
            (try simp only [i64_w])
            try rfl
          refine hK.out _ _ ⟨(by rw [ha.out]; exact putSel_upk 4 hb_ rfl rfl rfl), Q_HR⟩
        refine steps_cons ?_ ?_
        · rintro b a w' ⟨ha, Q_HR⟩ hb_ hon hoff
          refine ⟨_, rfl, fun K hK => ?_⟩
          have e5 : a.tmps[5]? = some (.int .i64 (i : Int)) := by rw [ha]; exact (putSel_off rfl).trans rfl
          replace ha := Aside0.mk ha
          have HR := Aside0.mk Q_HR
          refine value_ (w1 := w') (v := .int .i64 (i : Int)) (by rfl) rfl ?_ ?_
          · go_simp
            (try simp only [i64_w])
            try rfl
          refine hK.out _ _ ⟨(by rw [ha.out]; exact putSel_upk 5 hb_ rfl rfl rfl), Q_HR⟩
        refine steps_cons ?_ ?_
        · rintro b a w' ⟨ha, Q_HR⟩ hb_ hon hoff
          refine ⟨_, rfl, fun K hK => ?_⟩
          have e21 : a.tmps[21]? = some (.slice (some yb) n d) := by rw [ha]; exact putSel_on (e := (4, 21, .slice (some yb) n d)) 4 rfl rfl (hon 4 (by kernel_rfl)) rfl
          have e22 : a.tmps[22]? = some (.int .i64 (i : Int)) := by rw [ha]; exact putSel_on (e := (5, 22, .int .i64 (i : Int))) 5 rfl rfl (hon 5 (by kernel_rfl)) rfl
          replace ha := Aside0.mk ha
          have HR := Aside0.mk Q_HR
          refine value_ (w1 := w') (v := .pointer (some (yb.add i))) (by rfl) rfl ?_ ?_
          · go_simp
            (try simp only [i64_w])
            try rfl
          refine hK.out _ _ ⟨(by rw [ha.out]; exact putSel_upk 6 hb_ rfl rfl rfl), Q_HR⟩
        refine steps_cons ?_ ?_
        · rintro b a w' ⟨ha, Q_HR⟩ hb_ hon hoff
          refine ⟨_, rfl, fun K hK => ?_⟩
          have e23 : a.tmps[23]? = some (.pointer (some (yb.add i))) := by rw [ha]; exact putSel_on (e := (6, 23, .pointer (some (yb.add i)))) 6 rfl rfl (hon 6 (by kernel_rfl)) rfl
          replace ha := Aside0.mk ha
          have HR := Aside0.mk Q_HR
          have hl24 : w'.cell? (yb.add i) = some (.int .i64 x) := (HR.out.cell (p := yb.add i) (cell_lt hyb)).trans hyb
          refine value_ (w1 := w') (v := .int .i64 x) (by rfl) rfl ?_ ?_
          · go_simp
            (try simp only [i64_w])
            try rfl
          refine hK.out _ _ ⟨(by rw [ha.out]; exact putSel_upk 7 hb_ rfl rfl rfl), Q_HR⟩
        refine steps_cons ?_ ?_
        · rintro b a w' ⟨ha, Q_HR⟩ hb_ hon hoff
          refine ⟨_, rfl, fun K hK => ?_⟩
          have e20 : a.tmps[20]? = some (.int .i64 x) := by rw [ha]; exact putSel_on (e := (3, 20, .int .i64 x)) 3 rfl rfl (hon 3 (by kernel_rfl)) rfl
          have e24 : a.tmps[24]? = some (.int .i64 x) := by rw [ha]; exact putSel_on (e := (7, 24, .int .i64 x)) 7 rfl rfl (hon 7 (by kernel_rfl)) rfl
          replace ha := Aside0.mk ha
          have HR := Aside0.mk Q_HR
          refine value_ (w1 := w') (v := .bool false) (by rfl) rfl ?_ ?_
          · go_simp
            (try simp only [i64_w])
            try rfl
          refine hK.out _ _ ⟨(by rw [ha.out]; exact putSel_upk 8 hb_ rfl rfl rfl), Q_HR⟩
        exact steps_nil
      rintro b a wq hall ⟨ha, Q_HR⟩
      clear HR
      have hb0_ := hall 0 (by kernel_rfl)
      have hb1_ := hall 1 (by kernel_rfl)
      have hb2_ := hall 2 (by kernel_rfl)
      have hb3_ := hall 3 (by kernel_rfl)
      have hb4_ := hall 4 (by kernel_rfl)
      have hb5_ := hall 5 (by kernel_rfl)
      have hb6_ := hall 6 (by kernel_rfl)
      have hb7_ := hall 7 (by kernel_rfl)
      have hb8_ := hall 8 (by kernel_rfl)
      subst ha
      simp only [putSel, hb0_, hb1_, hb2_, hb3_, hb4_, hb5_, hb6_, hb7_, hb8_, if_true, Act.put, List.setIfInBounds_toArray, List.set_cons_zero, List.set_cons_succ]
      have HR := Aside0.mk Q_HR
      clear Q_HR
      clear hall hb0_ hb1_ hb2_ hb3_ hb4_ hb5_ hb6_ hb7_ hb8_
      have HB2 := Aside0.mk (below_step HB.out HR.out)
      go_wp2
      go_roundw
      case measure => exact meas_i hgo (by push_cast; rfl)
      case rel => exact ⟨i + 1, hi1n, by push_cast; rfl, HB2⟩
    · obtain rfl : i = n := by omega
      have hd : decide ((i : Int) < (i : Int)) = false := decide_eq_false (by omega)
      go_wp2
      go_ret
      exact ⟨rfl, HB.out⟩
def sm6.T6 : Bool × List (List Nat × List Nat) := (true, [([], []), ([0], [0]), ([], []), ([1, 2], [1, 2]), ([3], [3]), ([], []), ([5], [5]), ([], []), ([6, 7], [6, 7]), ([8], [8]), ([], []), ([], []), ([10, 4, 0, 1, 2, 3, 4, 10, 11], [4, 10]), ([11, 9, 12, 0, 1, 2, 3, 4, 5, 6, 7, 8, 9, 10, 11, 12], [9, 11])])
def sm6.B6 : List Nat := [0, 1, 0, 7, 15, 0, 32, 0, 224, 480, 0, 0, 3103, 8191]
theorem sm6.tab6 : rtab .any (opsOf Try.f11 6) = sm6.T6 := by kernel_rfl
theorem sm6.bits6 : waitsOk sm6.T6.2 sm6.B6 = true := by kernel_rfl
def sm12.T12 : Bool × List (List Nat × List Nat) := (true, [([], []), ([0], [0]), ([], []), ([1, 2], [1, 2]), ([3], [3]), ([], []), ([5], [5]), ([], []), ([6, 7], [6, 7]), ([8], [8]), ([4, 9], [4, 9])])
def sm12.B12 : List Nat := [0, 1, 0, 7, 15, 0, 32, 0, 224, 480, 1023]
theorem sm12.tab12 : rtab .any (opsOf Try.f11 12) = sm12.T12 := by kernel_rfl
theorem sm12.bits12 : waitsOk sm12.T12.2 sm12.B12 = true := by kernel_rfl
set_option maxHeartbeats 16000000 in
set_option maxRecDepth 100000 in
theorem same0_yes (W : World) (r1 r2 n1 n2 : Option Addr) (rl rc1 rc2 nl nc1 nc2 : Nat) (R : List Int) (M1 M2 : List Nd) (HR1 : Aside0 (IL .i64 W W.heap.size r1 rl R)) (HR2 : Aside0 (IL .i64 W W.heap.size r2 rl R)) (HN1 : Aside0 (NL W W.heap.size n1 nl M1)) (HN2 : Aside0 (NL W W.heap.size n2 nl M2)) (HD1 : Aside0 (∀ q ∈ M1, DL W W.heap.size q)) (HD2 : Aside0 (∀ q ∈ M2, DL W W.heap.size q)) (HP : Aside0 (M1.map Nd.pn = M2.map Nd.pn)) (hrl : rl ≤ 1000) (hnl : nl ≤ 1000) (HSZ : Aside0 (∀ q ∈ M1, q.m ≤ 1000 ∧ q.n ≤ 1000)) : Calls Try.prog 11 #[.agg #[.slice r1 rl rc1, .slice n1 nl nc1], .agg #[.slice r2 rl rc2, .slice n2 nl nc2]] W fun e W' => e = .returned (.bool true) ∧ Below W.heap.size W W' := by
  have HB := Aside0.mk (Below.refl W.heap.size W)
  go_enter Try.func11, Try.ntmps11
  go_upto_region 1 with (first | ((with_reducible refine gate_dst (N := 2) rfl ?_); refine box_event ?hg (N := 2) ?hd (cs := #[.slice r1 rl rc1, .slice n1 nl nc1]) (t := 25) ?hr ?_; (case hd => rfl); (case hg => rfl); (case hr => first | (go_simp; done) | (go_simp; rfl)); intro g2 hg w1_ hbox hb; have n0_ := Aside0.mk (below_step (by repeat (first | (with_reducible first | exact HB.out | apply below_alloc | apply pw_below_drewN | apply below_drew1) | exact HB.out)) hb); have n1_ := Aside0.mk hbox; have n2_ := Aside0.mk ((by rw [hg]; exact (below_size (by repeat (first | (with_reducible first | exact HB.out | apply below_alloc | apply pw_below_drewN | apply below_drew1) | exact HB.out)))) : W.heap.size ≤ g2); clear HB; have HB := n0_; have BK2 := n1_; have GE2 := n2_; clear n0_ n1_ n2_; clear hb hbox hg) | ((with_reducible refine gate_dst (N := 3) rfl ?_); refine box_event ?hg (N := 3) ?hd (cs := #[.slice r2 rl rc2, .slice n2 nl nc2]) (t := 25) ?hr ?_; (case hd => rfl); (case hg => rfl); (case hr => first | (go_simp; done) | (go_simp; rfl)); intro g3 hg w2_ hbox hb; have n0_ := Aside0.mk (below_step (by repeat (first | (with_reducible first | exact HB.out | apply below_alloc | apply pw_below_drewN | apply below_drew1 | refine below_set ?_ GE2.out) | exact HB.out)) hb); have n1_ := Aside0.mk (blk_below (g := g2) (o := .cells #[.slice r1 rl rc1, .slice n1 nl nc1] 25 (0, 0)) (by (with_reducible repeat (first | refine blk_drewN ?_ _ | refine blk_drew ?_ | refine blk_alloc ?_ _)); exact BK2.out) hb); have n2_ := Aside0.mk hbox; have n3_ := Aside0.mk ((by rw [hg]; exact (below_size (by repeat (first | (with_reducible first | exact HB.out | apply below_alloc | apply pw_below_drewN | apply below_drew1 | refine below_set ?_ GE2.out) | exact HB.out)))) : W.heap.size ≤ g3); have n4_ := Aside0.mk ((by rw [hg]; exact Nat.ne_of_lt (blk_lt (g := g2) (o := .cells #[.slice r1 rl rc1, .slice n1 nl nc1] 25 (0, 0)) (by (with_reducible repeat (first | refine blk_drewN ?_ _ | refine blk_drew ?_ | refine blk_alloc ?_ _)); exact BK2.out))) : g2 ≠ g3); clear HB; clear BK2; have HB := n0_; have BK2 := n1_; have BK3 := n2_; have GE3 := n3_; have NE2_3 := n4_; clear n0_ n1_ n2_ n3_ n4_; clear hb hbox hg))
  have hc2_0 : w2_.cell? ⟨g2, 0, none⟩ = some (.slice r1 rl rc1) := (blk_cell BK2.out 0).trans rfl
  have hc2_1 : w2_.cell? ⟨g2, 1, none⟩ = some (.slice n1 nl nc1) := (blk_cell BK2.out 1).trans rfl
  have hc3_0 : w2_.cell? ⟨g3, 0, none⟩ = some (.slice r2 rl rc2) := (blk_cell BK3.out 0).trans rfl
  have hc3_1 : w2_.cell? ⟨g3, 1, none⟩ = some (.slice n2 nl nc2) := (blk_cell BK3.out 1).trans rfl
  have hnn : ((nl : Int) != (nl : Int)) = false := by simp
  go_upto_region 4 with (go_at_call 25; refine (ints_yes _ r1 r2 rl rc1 rc2 R (Aside0.mk (HR1.out.to HB.out)) (Aside0.mk (HR2.out.to HB.out)) hrl).mono ?_; rintro e w3 ⟨rfl, hb3⟩; have HB3 := Aside0.mk (below_step HB.out hb3); have BK23 := Aside0.mk (blk_below BK2.out hb3); have BK33 := Aside0.mk (blk_below BK3.out hb3); clear hb3; have hd2_1 : w3.cell? ⟨g2, 1, none⟩ = some (.slice n1 nl nc1) := (blk_cell BK23.out 1).trans rfl; have hd3_1 : w3.cell? ⟨g3, 1, none⟩ = some (.slice n2 nl nc2) := (blk_cell BK33.out 1).trans rfl)
  clear hc2_0 hc2_1 hc3_0 hc3_1 hd2_1 hd3_1 HB BK2 BK3
  have HB := HB3
  have BK2 := BK23
  have BK3 := BK33
  clear HB3 BK23 BK33
  go_loopw [5] (fun v wr => ∃ i : Nat, i ≤ nl ∧ v = .int .i64 (i : Int) ∧ Aside0 (Below W.heap.size W wr) ∧ Aside0 (wr.heap[g2]? = some (.cells #[.slice r1 rl rc1, .slice n1 nl nc1] 25 (0, 0))) ∧ Aside0 (wr.heap[g3]? = some (.cells #[.slice r2 rl rc2, .slice n2 nl nc2] 25 (0, 0)))) (fun v _ => nl - (intOf v).toNat)
  case atStart => exact ⟨0, by omega, rfl, HB, BK2, BK3⟩
  case round =>
    clear HB BK2 BK3
    obtain ⟨i, hi_, rfl, HB, BK2, BK3⟩ := hrel
    have hr2_1 : wr.cell? ⟨g2, 1, none⟩ = some (.slice n1 nl nc1) := (blk_cell BK2.out 1).trans rfl
    by_cases hgo : i < nl
    · have hd : decide ((i : Int) < (nl : Int)) = true := decide_eq_true (by omega)
      obtain ⟨ya, ea, _, ha0', ha1', ha2', ha3', ha4', ha5'⟩ := (HN1.out.kept fun k hk => HB.out.block k hk).2 i hgo
      obtain ⟨yb, eb, _, hb0', hb1', hb2', hb3', hb4', hb5'⟩ := (HN2.out.kept fun k hk => HB.out.block k hk).2 i hgo
      obtain ⟨q1, hq1⟩ : ∃ q, q = M1.getD i default := ⟨_, rfl⟩
      obtain ⟨q2, hq2⟩ : ∃ q, q = M2.getD i default := ⟨_, rfl⟩
      rw [← hq1] at ha0' ha1' ha2' ha3' ha4' ha5'
      rw [← hq2] at hb0' hb1' hb2' hb3' hb4' hb5'
      have hm1 : q1 ∈ M1 := by rw [hq1]; exact node_mem (by rw [HN1.out.1]; exact hgo)
      have hm2 : q2 ∈ M2 := by rw [hq2]; exact node_mem (by rw [HN2.out.1]; exact hgo)
      have hpn : q1.pn = q2.pn := by
        have := congrArg (fun L => L.getD i default) HP.out
        simp only [pn_getD] at this
        rw [hq1, hq2]; exact this
      have hd1 := HD1.out q1 hm1
      have hd2 := HD2.out q2 hm2
      have hsz := HSZ.out q1 hm1
      clear hq1 hq2 hm1 hm2
      obtain ⟨pa, pr, ps, pw, A1, m, c1, B1, n, d1, Sl, Tl⟩ := q1
      obtain ⟨pa', pr', ps', pw', A2, m', c2, B2, n', d2, Sl', Tl'⟩ := q2
      simp only [Nd.pn, Pn.mk.injEq] at hpn
      obtain ⟨rfl, rfl, rfl, rfl, rfl, rfl⟩ := hpn
      dsimp only [DL] at ha0' ha1' ha2' ha3' ha4' ha5' hb0' hb1' hb2' hb3' hb4' hb5' hd1 hd2 hsz
      obtain rfl : m = m' := hd1.1.1.symm.trans hd2.1.1
      obtain rfl : n = n' := hd1.2.1.symm.trans hd2.2.1
      have hm := hsz.1
      have hn := hsz.2
      have HS1 := Aside0.mk hd1.1
      have HS2 := Aside0.mk hd2.1
      have HT1 := Aside0.mk hd1.2
      have HT2 := Aside0.mk hd2.2
      clear hd1 hd2 hsz
      have EA := Aside0.mk ea
      have EB := Aside0.mk eb
      clear ea eb
      have BK2s := Aside0.mk (show wr.heap[g2]? = some (.cells #[.slice r1 rl rc1, .slice (some ya) nl nc1] 25 (0, 0)) by rw [← EA.out]; exact BK2.out)
      have BK3s := Aside0.mk (show wr.heap[g3]? = some (.cells #[.slice r2 rl rc2, .slice (some yb) nl nc2] 25 (0, 0)) by rw [← EB.out]; exact BK3.out)
      have ha0 : wr.cell? (ya.add (i * 6)) = some (.int .i64 pa) := (congrArg _ (add_zero _).symm).trans ha0'
      have ha1 : wr.cell? { block := (ya.add (i * 6)).block, off := (ya.add (i * 6)).off + 1 } = some (.int .i64 pr) := ha1'
      have ha2 : wr.cell? { block := (ya.add (i * 6)).block, off := (ya.add (i * 6)).off + 2 } = some (.int .i64 ps) := ha2'
      have ha3 : wr.cell? { block := (ya.add (i * 6)).block, off := (ya.add (i * 6)).off + 3 } = some (.int .i64 pw) := ha3'
      have ha4 : wr.cell? { block := (ya.add (i * 6)).block, off := (ya.add (i * 6)).off + 4 } = some (.slice A1 m c1) := ha4'
      have ha5 : wr.cell? { block := (ya.add (i * 6)).block, off := (ya.add (i * 6)).off + 5 } = some (.slice B1 n d1) := ha5'
      have hb0 : wr.cell? (yb.add (i * 6)) = some (.int .i64 pa) := (congrArg _ (add_zero _).symm).trans hb0'
      have hb1 : wr.cell? { block := (yb.add (i * 6)).block, off := (yb.add (i * 6)).off + 1 } = some (.int .i64 pr) := hb1'
      have hb2 : wr.cell? { block := (yb.add (i * 6)).block, off := (yb.add (i * 6)).off + 2 } = some (.int .i64 ps) := hb2'
      have hb3 : wr.cell? { block := (yb.add (i * 6)).block, off := (yb.add (i * 6)).off + 3 } = some (.int .i64 pw) := hb3'
      have hb4 : wr.cell? { block := (yb.add (i * 6)).block, off := (yb.add (i * 6)).off + 4 } = some (.slice A2 m c2) := hb4'
      have hb5 : wr.cell? { block := (yb.add (i * 6)).block, off := (yb.add (i * 6)).off + 5 } = some (.slice B2 n d2) := hb5'
      clear ha0' ha1' ha2' ha3' ha4' ha5' hb0' hb1' hb2' hb3' hb4' hb5'
      have hi0 : (0 : Int) ≤ (i : Int) := by omega
      have hi1 : (i : Int) < (nl : Int) := by omega
      have hi1n : i + 1 ≤ nl := by omega
      go_upto_region 6 with fail
      have HR := Aside0.mk (Below.refl wr.heap.size wr)
      have US := Aside0.mk (show 0 < wr.drew.heap.size from Nat.lt_of_le_of_lt (Nat.zero_le _) (blk_lt BK2.out))
      have U6 := US
      have U7 := US
      have BK2o := BK2
      have BK3o := BK3
      clear BK2 BK3
      have BK2 := BK2s
      have BK3 := BK3s
      refine start_ (n := 14) (S := fun w' => True) (ds := []) #[false, false, false, false, false, false, false, false, false, false, false, false, false, false] (by kernel_rfl) rfl rfl trivial (fun hHeld => ?_)
      refine with_tabW sm6.tab6 sm6.bits6 (fun HT_ HW_ => ?_)
      refine inv_at [0, 1, 2, 3, 4, 5, 6, 7, 8, 9, 10, 11, 12, 13] (fun a0_ b a w' => ∃ (g6 : Nat) (g7 : Nat) (m10_ : Value) (m11_ : Value), a = putSel a0_ b [(0, 31, .pointer (some ⟨g2, 1, none⟩)), (1, 32, .slice (some ya) nl nc1), (2, 33, .int .i64 (i : Int)), (3, 34, .pointer (some (ya.add (i * 6)))), (4, 35, .agg #[.int .i64 pa, .int .i64 pr, .int .i64 ps, .int .i64 pw, .slice A1 m c1, .slice B1 n d1]), (5, 36, .pointer (some ⟨g3, 1, none⟩)), (6, 37, .slice (some yb) nl nc2), (7, 38, .int .i64 (i : Int)), (8, 39, .pointer (some (yb.add (i * 6)))), (9, 40, .agg #[.int .i64 pa, .int .i64 pr, .int .i64 ps, .int .i64 pw, .slice A2 m c2, .slice B2 n d2]), (10, 6, m10_), (11, 7, m11_)] ∧ (Below wr.heap.size wr w') ∧ (b 10 = true → b 12 = false → w'.heap[g6]? = some (.cells #[.int .i64 0, .int .i64 0, .int .i64 0, .int .i64 0, .slice none 0 0, .slice none 0 0] 40 (0, 0)) ∧ wr.heap.size ≤ g6) ∧ (b 11 = true → b 13 = false → w'.heap[g7]? = some (.cells #[.int .i64 0, .int .i64 0, .int .i64 0, .int .i64 0, .slice none 0 0, .slice none 0 0] 40 (0, 0)) ∧ wr.heap.size ≤ g7) ∧ (b 12 = true → w'.heap[g6]? = some (.cells #[.int .i64 pa, .int .i64 pr, .int .i64 ps, .int .i64 pw, .slice A1 m c1, .slice B1 n d1] 40 (0, 0)) ∧ wr.heap.size ≤ g6) ∧ (b 13 = true → w'.heap[g7]? = some (.cells #[.int .i64 pa, .int .i64 pr, .int .i64 ps, .int .i64 pw, .slice A2 m c2, .slice B2 n d2] 40 (0, 0)) ∧ wr.heap.size ≤ g7) ∧ (b 10 = true → b 11 = true → g6 ≠ g7) ∧ (g6 < w'.heap.size) ∧ (g7 < w'.heap.size) ∧ (b 10 = true → (m10_ : Value) = .pointer (some ⟨g6, 0, none⟩)) ∧ (b 11 = true → (m11_ : Value) = .pointer (some ⟨g7, 0, none⟩))) HT_.out HW_.out (by kernel_rfl) (by kernel_rfl) ?_ ?_ ?_
      · exact ⟨0, 0, .bool false, .bool false, by simp only [putSel, Bool.false_eq_true, if_false], below_drew1 HR.out, fun h_ => absurd h_ (by decide), fun h_ => absurd h_ (by decide), fun h_ => absurd h_ (by decide), fun h_ => absurd h_ (by decide), fun h_ => absurd h_ (by decide), US.out, US.out, fun h_ => absurd h_ (by decide), fun h_ => absurd h_ (by decide)⟩
      · skip
        clear HR U6 U7
        refine steps_cons ?_ ?_
        · rintro b a w' ⟨g6, g7, m10_, m11_, ha, Q_HR, Q_BA6, Q_BA7, Q_BX6, Q_BX7, Q_NE, Q_U6, Q_U7, Q_X10_, Q_X11_⟩ hb_ hon hoff
          refine ⟨_, rfl, fun K hK => ?_⟩
          have e2 : a.tmps[2]? = some (.pointer (some ⟨g2, 0, none⟩)) := by rw [ha]; exact (putSel_off rfl).trans rfl
          replace ha := Aside0.mk ha
          have HR := Aside0.mk Q_HR
          have U6 := Aside0.mk Q_U6
          have U7 := Aside0.mk Q_U7
          refine value_ (w1 := w') (v := .pointer (some ⟨g2, 1, none⟩)) (by rfl) rfl ?_ ?_
          · go_simp
            (try simp only [i64_w])
            try rfl
          refine hK.out _ _ ⟨g6, g7, m10_, m11_, (by rw [ha.out]; exact putSel_upk 0 hb_ rfl rfl rfl), Q_HR, Q_BA6, Q_BA7, fun h0_ => absurd ((hoff 12 (by kernel_rfl)).symm.trans h0_) (by decide), fun h0_ => absurd ((hoff 13 (by kernel_rfl)).symm.trans h0_) (by decide), Q_NE, Q_U6, Q_U7, Q_X10_, Q_X11_⟩
        refine steps_cons ?_ ?_
        · rintro b a w' ⟨g6, g7, m10_, m11_, ha, Q_HR, Q_BA6, Q_BA7, Q_BX6, Q_BX7, Q_NE, Q_U6, Q_U7, Q_X10_, Q_X11_⟩ hb_ hon hoff
          refine ⟨_, rfl, fun K hK => ?_⟩
          have e31 : a.tmps[31]? = some (.pointer (some ⟨g2, 1, none⟩)) := by rw [ha]; exact putSel_on (e := (0, 31, .pointer (some ⟨g2, 1, none⟩))) 0 rfl rfl (hon 0 (by kernel_rfl)) rfl
          replace ha := Aside0.mk ha
          have HR := Aside0.mk Q_HR
          have U6 := Aside0.mk Q_U6
          have U7 := Aside0.mk Q_U7
          have hl32_0 : w'.cell? ⟨g2, 1, none⟩ = some (.slice (some ya) nl nc1) := (blk_cell (blk_below BK2.out HR.out) 1).trans rfl
          refine value_ (w1 := w') (v := .slice (some ya) nl nc1) (by rfl) rfl ?_ ?_
          · go_simp
            (try simp only [i64_w])
            try rfl
          refine hK.out _ _ ⟨g6, g7, m10_, m11_, (by rw [ha.out]; exact putSel_upk 1 hb_ rfl rfl rfl), Q_HR, Q_BA6, Q_BA7, fun h0_ => absurd ((hoff 12 (by kernel_rfl)).symm.trans h0_) (by decide), fun h0_ => absurd ((hoff 13 (by kernel_rfl)).symm.trans h0_) (by decide), Q_NE, Q_U6, Q_U7, Q_X10_, Q_X11_⟩
        refine steps_cons ?_ ?_
        · rintro b a w' ⟨g6, g7, m10_, m11_, ha, Q_HR, Q_BA6, Q_BA7, Q_BX6, Q_BX7, Q_NE, Q_U6, Q_U7, Q_X10_, Q_X11_⟩ hb_ hon hoff
          refine ⟨_, rfl, fun K hK => ?_⟩
          have e5 : a.tmps[5]? = some (.int .i64 (i : Int)) := by rw [ha]; exact (putSel_off rfl).trans rfl
          replace ha := Aside0.mk ha
          have HR := Aside0.mk Q_HR
          have U6 := Aside0.mk Q_U6
          have U7 := Aside0.mk Q_U7
          refine value_ (w1 := w') (v := .int .i64 (i : Int)) (by rfl) rfl ?_ ?_
          · go_simp
            (try simp only [i64_w])
            try rfl
          refine hK.out _ _ ⟨g6, g7, m10_, m11_, (by rw [ha.out]; exact putSel_upk 2 hb_ rfl rfl rfl), Q_HR, Q_BA6, Q_BA7, fun h0_ => absurd ((hoff 12 (by kernel_rfl)).symm.trans h0_) (by decide), fun h0_ => absurd ((hoff 13 (by kernel_rfl)).symm.trans h0_) (by decide), Q_NE, Q_U6, Q_U7, Q_X10_, Q_X11_⟩
        refine steps_cons ?_ ?_
        · rintro b a w' ⟨g6, g7, m10_, m11_, ha, Q_HR, Q_BA6, Q_BA7, Q_BX6, Q_BX7, Q_NE, Q_U6, Q_U7, Q_X10_, Q_X11_⟩ hb_ hon hoff
          refine ⟨_, rfl, fun K hK => ?_⟩
          have e32 : a.tmps[32]? = some (.slice (some ya) nl nc1) := by rw [ha]; exact putSel_on (e := (1, 32, .slice (some ya) nl nc1)) 1 rfl rfl (hon 1 (by kernel_rfl)) rfl
          have e33 : a.tmps[33]? = some (.int .i64 (i : Int)) := by rw [ha]; exact putSel_on (e := (2, 33, .int .i64 (i : Int))) 2 rfl rfl (hon 2 (by kernel_rfl)) rfl
          replace ha := Aside0.mk ha
          have HR := Aside0.mk Q_HR
          have U6 := Aside0.mk Q_U6
          have U7 := Aside0.mk Q_U7
          refine value_ (w1 := w') (v := .pointer (some (ya.add (i * 6)))) (by rfl) rfl ?_ ?_
          · go_simp
            (try simp only [i64_w])
            try rfl
          refine hK.out _ _ ⟨g6, g7, m10_, m11_, (by rw [ha.out]; exact putSel_upk 3 hb_ rfl rfl rfl), Q_HR, Q_BA6, Q_BA7, fun h0_ => absurd ((hoff 12 (by kernel_rfl)).symm.trans h0_) (by decide), fun h0_ => absurd ((hoff 13 (by kernel_rfl)).symm.trans h0_) (by decide), Q_NE, Q_U6, Q_U7, Q_X10_, Q_X11_⟩
        refine steps_cons ?_ ?_
        · rintro b a w' ⟨g6, g7, m10_, m11_, ha, Q_HR, Q_BA6, Q_BA7, Q_BX6, Q_BX7, Q_NE, Q_U6, Q_U7, Q_X10_, Q_X11_⟩ hb_ hon hoff
          refine ⟨_, rfl, fun K hK => ?_⟩
          have e34 : a.tmps[34]? = some (.pointer (some (ya.add (i * 6)))) := by rw [ha]; exact putSel_on (e := (3, 34, .pointer (some (ya.add (i * 6))))) 3 rfl rfl (hon 3 (by kernel_rfl)) rfl
          replace ha := Aside0.mk ha
          have HR := Aside0.mk Q_HR
          have U6 := Aside0.mk Q_U6
          have U7 := Aside0.mk Q_U7
          have hz35_0 : w'.cell? (ya.add (i * 6)) = some (.int .i64 pa) := (HR.out.cell (p := (ya.add (i * 6))) (cell_lt ha0)).trans ha0
          have hz35_1 : w'.cell? { block := (ya.add (i * 6)).block, off := (ya.add (i * 6)).off + 1 } = some (.int .i64 pr) := (HR.out.cell (p := { block := (ya.add (i * 6)).block, off := (ya.add (i * 6)).off + 1 }) (cell_lt ha1)).trans ha1
          have hz35_2 : w'.cell? { block := (ya.add (i * 6)).block, off := (ya.add (i * 6)).off + 2 } = some (.int .i64 ps) := (HR.out.cell (p := { block := (ya.add (i * 6)).block, off := (ya.add (i * 6)).off + 2 }) (cell_lt ha2)).trans ha2
          have hz35_3 : w'.cell? { block := (ya.add (i * 6)).block, off := (ya.add (i * 6)).off + 3 } = some (.int .i64 pw) := (HR.out.cell (p := { block := (ya.add (i * 6)).block, off := (ya.add (i * 6)).off + 3 }) (cell_lt ha3)).trans ha3
          have hz35_4 : w'.cell? { block := (ya.add (i * 6)).block, off := (ya.add (i * 6)).off + 4 } = some (.slice A1 m c1) := (HR.out.cell (p := { block := (ya.add (i * 6)).block, off := (ya.add (i * 6)).off + 4 }) (cell_lt ha4)).trans ha4
          have hz35_5 : w'.cell? { block := (ya.add (i * 6)).block, off := (ya.add (i * 6)).off + 5 } = some (.slice B1 n d1) := (HR.out.cell (p := { block := (ya.add (i * 6)).block, off := (ya.add (i * 6)).off + 5 }) (cell_lt ha5)).trans ha5
          refine value_ (w1 := w') (v := .agg #[.int .i64 pa, .int .i64 pr, .int .i64 ps, .int .i64 pw, .slice A1 m c1, .slice B1 n d1]) (by rfl) rfl ?_ ?_
          · go_simp
            (try simp only [i64_w])
            try rfl
          refine hK.out _ _ ⟨g6, g7, m10_, m11_, (by rw [ha.out]; exact putSel_upk 4 hb_ rfl rfl rfl), Q_HR, Q_BA6, Q_BA7, fun h0_ => absurd ((hoff 12 (by kernel_rfl)).symm.trans h0_) (by decide), fun h0_ => absurd ((hoff 13 (by kernel_rfl)).symm.trans h0_) (by decide), Q_NE, Q_U6, Q_U7, Q_X10_, Q_X11_⟩
        refine steps_cons ?_ ?_
        · rintro b a w' ⟨g6, g7, m10_, m11_, ha, Q_HR, Q_BA6, Q_BA7, Q_BX6, Q_BX7, Q_NE, Q_U6, Q_U7, Q_X10_, Q_X11_⟩ hb_ hon hoff
          refine ⟨_, rfl, fun K hK => ?_⟩
          have e3 : a.tmps[3]? = some (.pointer (some ⟨g3, 0, none⟩)) := by rw [ha]; exact (putSel_off rfl).trans rfl
          replace ha := Aside0.mk ha
          have HR := Aside0.mk Q_HR
          have U6 := Aside0.mk Q_U6
          have U7 := Aside0.mk Q_U7
          refine value_ (w1 := w') (v := .pointer (some ⟨g3, 1, none⟩)) (by rfl) rfl ?_ ?_
          · go_simp
            (try simp only [i64_w])
            try rfl
          refine hK.out _ _ ⟨g6, g7, m10_, m11_, (by rw [ha.out]; exact putSel_upk 5 hb_ rfl rfl rfl), Q_HR, Q_BA6, Q_BA7, Q_BX6, fun h0_ => absurd ((hoff 13 (by kernel_rfl)).symm.trans h0_) (by decide), Q_NE, Q_U6, Q_U7, Q_X10_, Q_X11_⟩
        refine steps_cons ?_ ?_
        · rintro b a w' ⟨g6, g7, m10_, m11_, ha, Q_HR, Q_BA6, Q_BA7, Q_BX6, Q_BX7, Q_NE, Q_U6, Q_U7, Q_X10_, Q_X11_⟩ hb_ hon hoff
          refine ⟨_, rfl, fun K hK => ?_⟩
          have e36 : a.tmps[36]? = some (.pointer (some ⟨g3, 1, none⟩)) := by rw [ha]; exact putSel_on (e := (5, 36, .pointer (some ⟨g3, 1, none⟩))) 5 rfl rfl (hon 5 (by kernel_rfl)) rfl
          replace ha := Aside0.mk ha
          have HR := Aside0.mk Q_HR
          have U6 := Aside0.mk Q_U6
          have U7 := Aside0.mk Q_U7
          have hl37_0 : w'.cell? ⟨g3, 1, none⟩ = some (.slice (some yb) nl nc2) := (blk_cell (blk_below BK3.out HR.out) 1).trans rfl
          refine value_ (w1 := w') (v := .slice (some yb) nl nc2) (by rfl) rfl ?_ ?_
          · go_simp
            (try simp only [i64_w])
            try rfl
          refine hK.out _ _ ⟨g6, g7, m10_, m11_, (by rw [ha.out]; exact putSel_upk 6 hb_ rfl rfl rfl), Q_HR, Q_BA6, Q_BA7, Q_BX6, fun h0_ => absurd ((hoff 13 (by kernel_rfl)).symm.trans h0_) (by decide), Q_NE, Q_U6, Q_U7, Q_X10_, Q_X11_⟩
        refine steps_cons ?_ ?_
        · rintro b a w' ⟨g6, g7, m10_, m11_, ha, Q_HR, Q_BA6, Q_BA7, Q_BX6, Q_BX7, Q_NE, Q_U6, Q_U7, Q_X10_, Q_X11_⟩ hb_ hon hoff
          refine ⟨_, rfl, fun K hK => ?_⟩
          have e5 : a.tmps[5]? = some (.int .i64 (i : Int)) := by rw [ha]; exact (putSel_off rfl).trans rfl
          replace ha := Aside0.mk ha
          have HR := Aside0.mk Q_HR
          have U6 := Aside0.mk Q_U6
          have U7 := Aside0.mk Q_U7
          refine value_ (w1 := w') (v := .int .i64 (i : Int)) (by rfl) rfl ?_ ?_
          · go_simp
            (try simp only [i64_w])
            try rfl
          refine hK.out _ _ ⟨g6, g7, m10_, m11_, (by rw [ha.out]; exact putSel_upk 7 hb_ rfl rfl rfl), Q_HR, Q_BA6, Q_BA7, Q_BX6, fun h0_ => absurd ((hoff 13 (by kernel_rfl)).symm.trans h0_) (by decide), Q_NE, Q_U6, Q_U7, Q_X10_, Q_X11_⟩
        refine steps_cons ?_ ?_
        · rintro b a w' ⟨g6, g7, m10_, m11_, ha, Q_HR, Q_BA6, Q_BA7, Q_BX6, Q_BX7, Q_NE, Q_U6, Q_U7, Q_X10_, Q_X11_⟩ hb_ hon hoff
          refine ⟨_, rfl, fun K hK => ?_⟩
          have e37 : a.tmps[37]? = some (.slice (some yb) nl nc2) := by rw [ha]; exact putSel_on (e := (6, 37, .slice (some yb) nl nc2)) 6 rfl rfl (hon 6 (by kernel_rfl)) rfl
          have e38 : a.tmps[38]? = some (.int .i64 (i : Int)) := by rw [ha]; exact putSel_on (e := (7, 38, .int .i64 (i : Int))) 7 rfl rfl (hon 7 (by kernel_rfl)) rfl
          replace ha := Aside0.mk ha
          have HR := Aside0.mk Q_HR
          have U6 := Aside0.mk Q_U6
          have U7 := Aside0.mk Q_U7
          refine value_ (w1 := w') (v := .pointer (some (yb.add (i * 6)))) (by rfl) rfl ?_ ?_
          · go_simp
            (try simp only [i64_w])
            try rfl
          refine hK.out _ _ ⟨g6, g7, m10_, m11_, (by rw [ha.out]; exact putSel_upk 8 hb_ rfl rfl rfl), Q_HR, Q_BA6, Q_BA7, Q_BX6, fun h0_ => absurd ((hoff 13 (by kernel_rfl)).symm.trans h0_) (by decide), Q_NE, Q_U6, Q_U7, Q_X10_, Q_X11_⟩
        refine steps_cons ?_ ?_
        · rintro b a w' ⟨g6, g7, m10_, m11_, ha, Q_HR, Q_BA6, Q_BA7, Q_BX6, Q_BX7, Q_NE, Q_U6, Q_U7, Q_X10_, Q_X11_⟩ hb_ hon hoff
          refine ⟨_, rfl, fun K hK => ?_⟩
          have e39 : a.tmps[39]? = some (.pointer (some (yb.add (i * 6)))) := by rw [ha]; exact putSel_on (e := (8, 39, .pointer (some (yb.add (i * 6))))) 8 rfl rfl (hon 8 (by kernel_rfl)) rfl
          replace ha := Aside0.mk ha
          have HR := Aside0.mk Q_HR
          have U6 := Aside0.mk Q_U6
          have U7 := Aside0.mk Q_U7
          have hz40_0 : w'.cell? (yb.add (i * 6)) = some (.int .i64 pa) := (HR.out.cell (p := (yb.add (i * 6))) (cell_lt hb0)).trans hb0
          have hz40_1 : w'.cell? { block := (yb.add (i * 6)).block, off := (yb.add (i * 6)).off + 1 } = some (.int .i64 pr) := (HR.out.cell (p := { block := (yb.add (i * 6)).block, off := (yb.add (i * 6)).off + 1 }) (cell_lt hb1)).trans hb1
          have hz40_2 : w'.cell? { block := (yb.add (i * 6)).block, off := (yb.add (i * 6)).off + 2 } = some (.int .i64 ps) := (HR.out.cell (p := { block := (yb.add (i * 6)).block, off := (yb.add (i * 6)).off + 2 }) (cell_lt hb2)).trans hb2
          have hz40_3 : w'.cell? { block := (yb.add (i * 6)).block, off := (yb.add (i * 6)).off + 3 } = some (.int .i64 pw) := (HR.out.cell (p := { block := (yb.add (i * 6)).block, off := (yb.add (i * 6)).off + 3 }) (cell_lt hb3)).trans hb3
          have hz40_4 : w'.cell? { block := (yb.add (i * 6)).block, off := (yb.add (i * 6)).off + 4 } = some (.slice A2 m c2) := (HR.out.cell (p := { block := (yb.add (i * 6)).block, off := (yb.add (i * 6)).off + 4 }) (cell_lt hb4)).trans hb4
          have hz40_5 : w'.cell? { block := (yb.add (i * 6)).block, off := (yb.add (i * 6)).off + 5 } = some (.slice B2 n d2) := (HR.out.cell (p := { block := (yb.add (i * 6)).block, off := (yb.add (i * 6)).off + 5 }) (cell_lt hb5)).trans hb5
          refine value_ (w1 := w') (v := .agg #[.int .i64 pa, .int .i64 pr, .int .i64 ps, .int .i64 pw, .slice A2 m c2, .slice B2 n d2]) (by rfl) rfl ?_ ?_
          · go_simp
            (try simp only [i64_w])
            try rfl
          refine hK.out _ _ ⟨g6, g7, m10_, m11_, (by rw [ha.out]; exact putSel_upk 9 hb_ rfl rfl rfl), Q_HR, Q_BA6, Q_BA7, Q_BX6, fun h0_ => absurd ((hoff 13 (by kernel_rfl)).symm.trans h0_) (by decide), Q_NE, Q_U6, Q_U7, Q_X10_, Q_X11_⟩
        refine steps_cons ?_ ?_
        · rintro b a w' ⟨g6, g7, m10_, m11_, ha, Q_HR, Q_BA6, Q_BA7, Q_BX6, Q_BX7, Q_NE, Q_U6, Q_U7, Q_X10_, Q_X11_⟩ hb_ hon hoff
          refine ⟨_, rfl, fun K hK => ?_⟩
          replace ha := Aside0.mk ha
          have HR := Aside0.mk Q_HR
          have U6 := Aside0.mk Q_U6
          have U7 := Aside0.mk Q_U7
          refine value_ (w1 := ?_) (v := ?_) (by rfl) rfl ?_ ?_
          rotate_left 2
          · go_simp
            constructor
            · rfl
            · rfl
          have hb := below_alloc (Below.refl w'.heap.size w') (.cells #[.int .i64 0, .int .i64 0, .int .i64 0, .int .i64 0, .slice none 0 0, .slice none 0 0] 40)
          refine hK.out _ _ ⟨w'.heap.size, g7, (.pointer (some ⟨w'.heap.size, 0, none⟩)), m11_, (by rw [ha.out]; exact putSel_upk 10 hb_ rfl rfl rfl), (below_step HR.out hb), fun _ _ => ⟨blk_new w' (.cells #[.int .i64 0, .int .i64 0, .int .i64 0, .int .i64 0, .slice none 0 0, .slice none 0 0] 40), below_size HR.out⟩, fun h0_ h1_ => ⟨blk_below (Q_BA7 h0_ h1_).1 hb, (Q_BA7 h0_ h1_).2⟩, fun h0_ => absurd ((hoff 12 (by kernel_rfl)).symm.trans h0_) (by decide), fun h0_ => absurd ((hoff 13 (by kernel_rfl)).symm.trans h0_) (by decide), fun _ _ => (Nat.ne_of_gt U7.out), (by rw [World.size_alloc]; exact Nat.lt_succ_self _), (Nat.lt_of_lt_of_le U7.out hb.size), fun _ => rfl, Q_X11_⟩
        refine steps_cons ?_ ?_
        · rintro b a w' ⟨g6, g7, m10_, m11_, ha, Q_HR, Q_BA6, Q_BA7, Q_BX6, Q_BX7, Q_NE, Q_U6, Q_U7, Q_X10_, Q_X11_⟩ hb_ hon hoff
          refine ⟨_, rfl, fun K hK => ?_⟩
          replace ha := Aside0.mk ha
          have HR := Aside0.mk Q_HR
          have U6 := Aside0.mk Q_U6
          have U7 := Aside0.mk Q_U7
          refine value_ (w1 := ?_) (v := ?_) (by rfl) rfl ?_ ?_
          rotate_left 2
          · go_simp
            constructor
            · rfl
            · rfl
          have hb := below_alloc (Below.refl w'.heap.size w') (.cells #[.int .i64 0, .int .i64 0, .int .i64 0, .int .i64 0, .slice none 0 0, .slice none 0 0] 40)
          refine hK.out _ _ ⟨g6, w'.heap.size, m10_, (.pointer (some ⟨w'.heap.size, 0, none⟩)), (by rw [ha.out]; exact putSel_upk 11 hb_ rfl rfl rfl), (below_step HR.out hb), fun h0_ h1_ => ⟨blk_below (Q_BA6 h0_ h1_).1 hb, (Q_BA6 h0_ h1_).2⟩, fun _ _ => ⟨blk_new w' (.cells #[.int .i64 0, .int .i64 0, .int .i64 0, .int .i64 0, .slice none 0 0, .slice none 0 0] 40), below_size HR.out⟩, fun h0_ => absurd ((hoff 12 (by kernel_rfl)).symm.trans h0_) (by decide), fun h0_ => absurd ((hoff 13 (by kernel_rfl)).symm.trans h0_) (by decide), fun _ _ => (Nat.ne_of_lt U6.out), (Nat.lt_of_lt_of_le U6.out hb.size), (by rw [World.size_alloc]; exact Nat.lt_succ_self _), Q_X10_, fun _ => rfl⟩
        refine steps_cons ?_ ?_
        · rintro b a w' ⟨g6, g7, m10_, m11_, ha, Q_HR, Q_BA6, Q_BA7, Q_BX6, Q_BX7, Q_NE, Q_U6, Q_U7, Q_X10_, Q_X11_⟩ hb_ hon hoff
          refine ⟨_, rfl, fun K hK => ?_⟩
          have e6 : a.tmps[6]? = some (m10_) := by rw [ha]; exact putSel_on (e := (10, 6, m10_)) 10 rfl rfl (hon 10 (by kernel_rfl)) rfl
          rw [Q_X10_ (hon 10 (by kernel_rfl))] at e6
          have e35 : a.tmps[35]? = some (.agg #[.int .i64 pa, .int .i64 pr, .int .i64 ps, .int .i64 pw, .slice A1 m c1, .slice B1 n d1]) := by rw [ha]; exact putSel_on (e := (4, 35, .agg #[.int .i64 pa, .int .i64 pr, .int .i64 ps, .int .i64 pw, .slice A1 m c1, .slice B1 n d1])) 4 rfl rfl (hon 4 (by kernel_rfl)) rfl
          replace ha := Aside0.mk ha
          have HR := Aside0.mk Q_HR
          have BA6 := Aside0.mk (Q_BA6 (hon 10 (by kernel_rfl)) hb_)
          have BA7 := Aside0.mk (Q_BA7 (hon 11 (by kernel_rfl)) (hoff 13 (by kernel_rfl)))
          have NE := Aside0.mk (Q_NE (hon 10 (by kernel_rfl)) (hon 11 (by kernel_rfl)))
          have U6 := Aside0.mk Q_U6
          have U7 := Aside0.mk Q_U7
          have hq6_0 : w'.cell? ⟨g6, 0, none⟩ = some (.int .i64 0) := (blk_cell BA6.out.1 0).trans rfl
          have hq6_1 : w'.cell? ⟨g6, 1, none⟩ = some (.int .i64 0) := (blk_cell BA6.out.1 1).trans rfl
          have hq6_2 : w'.cell? ⟨g6, 2, none⟩ = some (.int .i64 0) := (blk_cell BA6.out.1 2).trans rfl
          have hq6_3 : w'.cell? ⟨g6, 3, none⟩ = some (.int .i64 0) := (blk_cell BA6.out.1 3).trans rfl
          have hq6_4 : w'.cell? ⟨g6, 4, none⟩ = some (.slice none 0 0) := (blk_cell BA6.out.1 4).trans rfl
          have hq6_5 : w'.cell? ⟨g6, 5, none⟩ = some (.slice none 0 0) := (blk_cell BA6.out.1 5).trans rfl
          have hf6_0 := blk_frozen BA6.out.1 0
          have hf6_1 := blk_frozen BA6.out.1 1
          have hf6_2 := blk_frozen BA6.out.1 2
          have hf6_3 := blk_frozen BA6.out.1 3
          have hf6_4 := blk_frozen BA6.out.1 4
          have hf6_5 := blk_frozen BA6.out.1 5
          refine skip_ (w1 := ?_) (by rfl) rfl ?_ ?_
          rotate_left
          · go_simp
            rfl
          refine hK.out _ _ ⟨g6, g7, m10_, m11_, (by rw [ha.out]; exact putSel_none (v := undef) rfl), (by (repeat (refine below_set ?_ BA6.out.2)); exact HR.out), fun _ h1_ => absurd ((up_self b 12).symm.trans h1_) (by decide), fun _ _ => ⟨(by refine blk_far ?_ NE.out.symm _; refine blk_far ?_ NE.out.symm _; refine blk_far ?_ NE.out.symm _; refine blk_far ?_ NE.out.symm _; refine blk_far ?_ NE.out.symm _; refine blk_far ?_ NE.out.symm _; exact BA7.out.1), BA7.out.2⟩, fun _ => ⟨(by (with_reducible repeat (first | refine blk_drewN ?_ _ | refine blk_drew ?_ | refine blk_alloc ?_ _)); refine blk_put (cs := #[.int .i64 pa, .int .i64 pr, .int .i64 ps, .int .i64 pw, .slice A1 m c1, .slice none 0 0]) ?_ 5 _ rfl; (with_reducible repeat (first | refine blk_drewN ?_ _ | refine blk_drew ?_ | refine blk_alloc ?_ _)); refine blk_put (cs := #[.int .i64 pa, .int .i64 pr, .int .i64 ps, .int .i64 pw, .slice none 0 0, .slice none 0 0]) ?_ 4 _ rfl; (with_reducible repeat (first | refine blk_drewN ?_ _ | refine blk_drew ?_ | refine blk_alloc ?_ _)); refine blk_put (cs := #[.int .i64 pa, .int .i64 pr, .int .i64 ps, .int .i64 0, .slice none 0 0, .slice none 0 0]) ?_ 3 _ rfl; (with_reducible repeat (first | refine blk_drewN ?_ _ | refine blk_drew ?_ | refine blk_alloc ?_ _)); refine blk_put (cs := #[.int .i64 pa, .int .i64 pr, .int .i64 0, .int .i64 0, .slice none 0 0, .slice none 0 0]) ?_ 2 _ rfl; (with_reducible repeat (first | refine blk_drewN ?_ _ | refine blk_drew ?_ | refine blk_alloc ?_ _)); refine blk_put (cs := #[.int .i64 pa, .int .i64 0, .int .i64 0, .int .i64 0, .slice none 0 0, .slice none 0 0]) ?_ 1 _ rfl; (with_reducible repeat (first | refine blk_drewN ?_ _ | refine blk_drew ?_ | refine blk_alloc ?_ _)); refine blk_put (cs := #[.int .i64 0, .int .i64 0, .int .i64 0, .int .i64 0, .slice none 0 0, .slice none 0 0]) ?_ 0 _ rfl; (with_reducible repeat (first | refine blk_drewN ?_ _ | refine blk_drew ?_ | refine blk_alloc ?_ _)); exact BA6.out.1), BA6.out.2⟩, fun h0_ => absurd ((hoff 13 (by kernel_rfl)).symm.trans h0_) (by decide), fun _ _ => NE.out, (by simpa [World.setCell] using U6.out), (by simpa [World.setCell] using U7.out), Q_X10_, Q_X11_⟩
        refine steps_cons ?_ ?_
        · rintro b a w' ⟨g6, g7, m10_, m11_, ha, Q_HR, Q_BA6, Q_BA7, Q_BX6, Q_BX7, Q_NE, Q_U6, Q_U7, Q_X10_, Q_X11_⟩ hb_ hon hoff
          refine ⟨_, rfl, fun K hK => ?_⟩
          have e7 : a.tmps[7]? = some (m11_) := by rw [ha]; exact putSel_on (e := (11, 7, m11_)) 11 rfl rfl (hon 11 (by kernel_rfl)) rfl
          rw [Q_X11_ (hon 11 (by kernel_rfl))] at e7
          have e40 : a.tmps[40]? = some (.agg #[.int .i64 pa, .int .i64 pr, .int .i64 ps, .int .i64 pw, .slice A2 m c2, .slice B2 n d2]) := by rw [ha]; exact putSel_on (e := (9, 40, .agg #[.int .i64 pa, .int .i64 pr, .int .i64 ps, .int .i64 pw, .slice A2 m c2, .slice B2 n d2])) 9 rfl rfl (hon 9 (by kernel_rfl)) rfl
          replace ha := Aside0.mk ha
          have HR := Aside0.mk Q_HR
          have BA7 := Aside0.mk (Q_BA7 (hon 11 (by kernel_rfl)) hb_)
          have BX6 := Aside0.mk (Q_BX6 (hon 12 (by kernel_rfl)))
          have NE := Aside0.mk (Q_NE (hon 10 (by kernel_rfl)) (hon 11 (by kernel_rfl)))
          have U6 := Aside0.mk Q_U6
          have U7 := Aside0.mk Q_U7
          have hq7_0 : w'.cell? ⟨g7, 0, none⟩ = some (.int .i64 0) := (blk_cell BA7.out.1 0).trans rfl
          have hq7_1 : w'.cell? ⟨g7, 1, none⟩ = some (.int .i64 0) := (blk_cell BA7.out.1 1).trans rfl
          have hq7_2 : w'.cell? ⟨g7, 2, none⟩ = some (.int .i64 0) := (blk_cell BA7.out.1 2).trans rfl
          have hq7_3 : w'.cell? ⟨g7, 3, none⟩ = some (.int .i64 0) := (blk_cell BA7.out.1 3).trans rfl
          have hq7_4 : w'.cell? ⟨g7, 4, none⟩ = some (.slice none 0 0) := (blk_cell BA7.out.1 4).trans rfl
          have hq7_5 : w'.cell? ⟨g7, 5, none⟩ = some (.slice none 0 0) := (blk_cell BA7.out.1 5).trans rfl
          have hf7_0 := blk_frozen BA7.out.1 0
          have hf7_1 := blk_frozen BA7.out.1 1
          have hf7_2 := blk_frozen BA7.out.1 2
          have hf7_3 := blk_frozen BA7.out.1 3
          have hf7_4 := blk_frozen BA7.out.1 4
          have hf7_5 := blk_frozen BA7.out.1 5
          refine skip_ (w1 := ?_) (by rfl) rfl ?_ ?_
          rotate_left
          · go_simp
            rfl
          refine hK.out _ _ ⟨g6, g7, m10_, m11_, (by rw [ha.out]; exact putSel_none (v := undef) rfl), (by (repeat (refine below_set ?_ BA7.out.2)); exact HR.out), fun _ h1_ => absurd ((hon 12 (by kernel_rfl)).symm.trans h1_) (by decide), fun _ h1_ => absurd ((up_self b 13).symm.trans h1_) (by decide), fun _ => ⟨(by refine blk_far ?_ NE.out _; refine blk_far ?_ NE.out _; refine blk_far ?_ NE.out _; refine blk_far ?_ NE.out _; refine blk_far ?_ NE.out _; refine blk_far ?_ NE.out _; exact BX6.out.1), BX6.out.2⟩, fun _ => ⟨(by (with_reducible repeat (first | refine blk_drewN ?_ _ | refine blk_drew ?_ | refine blk_alloc ?_ _)); refine blk_put (cs := #[.int .i64 pa, .int .i64 pr, .int .i64 ps, .int .i64 pw, .slice A2 m c2, .slice none 0 0]) ?_ 5 _ rfl; (with_reducible repeat (first | refine blk_drewN ?_ _ | refine blk_drew ?_ | refine blk_alloc ?_ _)); refine blk_put (cs := #[.int .i64 pa, .int .i64 pr, .int .i64 ps, .int .i64 pw, .slice none 0 0, .slice none 0 0]) ?_ 4 _ rfl; (with_reducible repeat (first | refine blk_drewN ?_ _ | refine blk_drew ?_ | refine blk_alloc ?_ _)); refine blk_put (cs := #[.int .i64 pa, .int .i64 pr, .int .i64 ps, .int .i64 0, .slice none 0 0, .slice none 0 0]) ?_ 3 _ rfl; (with_reducible repeat (first | refine blk_drewN ?_ _ | refine blk_drew ?_ | refine blk_alloc ?_ _)); refine blk_put (cs := #[.int .i64 pa, .int .i64 pr, .int .i64 0, .int .i64 0, .slice none 0 0, .slice none 0 0]) ?_ 2 _ rfl; (with_reducible repeat (first | refine blk_drewN ?_ _ | refine blk_drew ?_ | refine blk_alloc ?_ _)); refine blk_put (cs := #[.int .i64 pa, .int .i64 0, .int .i64 0, .int .i64 0, .slice none 0 0, .slice none 0 0]) ?_ 1 _ rfl; (with_reducible repeat (first | refine blk_drewN ?_ _ | refine blk_drew ?_ | refine blk_alloc ?_ _)); refine blk_put (cs := #[.int .i64 0, .int .i64 0, .int .i64 0, .int .i64 0, .slice none 0 0, .slice none 0 0]) ?_ 0 _ rfl; (with_reducible repeat (first | refine blk_drewN ?_ _ | refine blk_drew ?_ | refine blk_alloc ?_ _)); exact BA7.out.1), BA7.out.2⟩, fun _ _ => NE.out, (by simpa [World.setCell] using U6.out), (by simpa [World.setCell] using U7.out), Q_X10_, Q_X11_⟩
        exact steps_nil
      rintro b a wx hall ⟨g6, g7, m10_, m11_, ha, Q_HR, Q_BA6, Q_BA7, Q_BX6, Q_BX7, Q_NE, Q_U6, Q_U7, Q_X10_, Q_X11_⟩
      clear HR U6 U7
      have hb0_ := hall 0 (by kernel_rfl)
      have hb1_ := hall 1 (by kernel_rfl)
      have hb2_ := hall 2 (by kernel_rfl)
      have hb3_ := hall 3 (by kernel_rfl)
      have hb4_ := hall 4 (by kernel_rfl)
      have hb5_ := hall 5 (by kernel_rfl)
      have hb6_ := hall 6 (by kernel_rfl)
      have hb7_ := hall 7 (by kernel_rfl)
      have hb8_ := hall 8 (by kernel_rfl)
      have hb9_ := hall 9 (by kernel_rfl)
      have hb10_ := hall 10 (by kernel_rfl)
      have hb11_ := hall 11 (by kernel_rfl)
      have hb12_ := hall 12 (by kernel_rfl)
      have hb13_ := hall 13 (by kernel_rfl)
      subst ha
      obtain rfl := Q_X10_ hb10_
      obtain rfl := Q_X11_ hb11_
      simp only [putSel, hb0_, hb1_, hb2_, hb3_, hb4_, hb5_, hb6_, hb7_, hb8_, hb9_, hb10_, hb11_, hb12_, hb13_, if_true, Act.put, List.setIfInBounds_toArray, List.set_cons_zero, List.set_cons_succ]
      have HR := Aside0.mk Q_HR
      clear Q_HR
      clear Q_BA6
      clear Q_BA7
      have BX6 := Aside0.mk (Q_BX6 hb12_)
      clear Q_BX6
      have BX7 := Aside0.mk (Q_BX7 hb13_)
      clear Q_BX7
      have NE := Aside0.mk (Q_NE hb10_ hb11_)
      clear Q_NE
      have U6 := Aside0.mk Q_U6
      clear Q_U6
      have U7 := Aside0.mk Q_U7
      clear Q_U7
      clear hall hb0_ hb1_ hb2_ hb3_ hb4_ hb5_ hb6_ hb7_ hb8_ hb9_ hb10_ hb11_ hb12_ hb13_
      have HBx := Aside0.mk (below_step HB.out HR.out)
      have BK2x := Aside0.mk (blk_below BK2o.out HR.out)
      have BK3x := Aside0.mk (blk_below BK3o.out HR.out)
      have hx6_0 : wx.cell? ⟨g6, 0, none⟩ = some (.int .i64 pa) := (blk_cell BX6.out.1 0).trans rfl
      have hx6_1 : wx.cell? ⟨g6, 1, none⟩ = some (.int .i64 pr) := (blk_cell BX6.out.1 1).trans rfl
      have hx6_2 : wx.cell? ⟨g6, 2, none⟩ = some (.int .i64 ps) := (blk_cell BX6.out.1 2).trans rfl
      have hx6_3 : wx.cell? ⟨g6, 3, none⟩ = some (.int .i64 pw) := (blk_cell BX6.out.1 3).trans rfl
      have hx6_4 : wx.cell? ⟨g6, 4, none⟩ = some (.slice A1 m c1) := (blk_cell BX6.out.1 4).trans rfl
      have hx6_5 : wx.cell? ⟨g6, 5, none⟩ = some (.slice B1 n d1) := (blk_cell BX6.out.1 5).trans rfl
      have hx7_0 : wx.cell? ⟨g7, 0, none⟩ = some (.int .i64 pa) := (blk_cell BX7.out.1 0).trans rfl
      have hx7_1 : wx.cell? ⟨g7, 1, none⟩ = some (.int .i64 pr) := (blk_cell BX7.out.1 1).trans rfl
      have hx7_2 : wx.cell? ⟨g7, 2, none⟩ = some (.int .i64 ps) := (blk_cell BX7.out.1 2).trans rfl
      have hx7_3 : wx.cell? ⟨g7, 3, none⟩ = some (.int .i64 pw) := (blk_cell BX7.out.1 3).trans rfl
      have hx7_4 : wx.cell? ⟨g7, 4, none⟩ = some (.slice A2 m c2) := (blk_cell BX7.out.1 4).trans rfl
      have hx7_5 : wx.cell? ⟨g7, 5, none⟩ = some (.slice B2 n d2) := (blk_cell BX7.out.1 5).trans rfl
      have hmm : ((m : Int) != (m : Int)) = false := by simp
      have hnn2 : ((n : Int) != (n : Int)) = false := by simp
      have hpa : (pa != pa) = false := by simp
      clear ha0 ha1 ha2 ha3 ha4 ha5 hb0 hb1 hb2 hb3 hb4 hb5 BK2s BK3s BK2 BK3
      go_upto_region 10 with (go_at_call 25; refine (ints_yes _ A1 A2 m c1 c2 Sl (Aside0.mk (HS1.out.to HBx.out)) (Aside0.mk (HS2.out.to HBx.out)) hm).mono ?_; rintro e w5 ⟨rfl, hb5⟩; have HB5 := Aside0.mk (below_step HBx.out hb5); have BX65 := Aside0.mk (blk_below BX6.out.1 hb5); have BX75 := Aside0.mk (blk_below BX7.out.1 hb5); have BK25 := Aside0.mk (blk_below BK2x.out hb5); have BK35 := Aside0.mk (blk_below BK3x.out hb5); clear hb5; have hy6 : w5.cell? ⟨g6, 5, none⟩ = some (.slice B1 n d1) := (blk_cell BX65.out 5).trans rfl; have hy7 : w5.cell? ⟨g7, 5, none⟩ = some (.slice B2 n d2) := (blk_cell BX75.out 5).trans rfl)
      obtain ⟨wA, hwA⟩ : ∃ x, x = wr := ⟨_, rfl⟩
      subst hwA
      go_loopw [8] (fun v wr => ∃ k : Nat, k ≤ n ∧ v = .int .i64 (k : Int) ∧ Aside0 (Below W.heap.size W wr) ∧ Aside0 (wr.heap[g2]? = some (.cells #[.slice r1 rl rc1, .slice n1 nl nc1] 25 (0, 0))) ∧ Aside0 (wr.heap[g3]? = some (.cells #[.slice r2 rl rc2, .slice n2 nl nc2] 25 (0, 0))) ∧ Aside0 (wr.heap[g6]? = some (.cells #[.int .i64 pa, .int .i64 pr, .int .i64 ps, .int .i64 pw, .slice A1 m c1, .slice B1 n d1] 40 (0, 0))) ∧ Aside0 (wr.heap[g7]? = some (.cells #[.int .i64 pa, .int .i64 pr, .int .i64 ps, .int .i64 pw, .slice A2 m c2, .slice B2 n d2] 40 (0, 0)))) (fun v _ => n - (intOf v).toNat)
      case atStart => exact ⟨0, by omega, rfl, HB5, BK25, BK35, BX65, BX75⟩
      case round =>
        clear HB5 BK25 BK35 BX65 BX75 hy6 hy7
        obtain ⟨k, hk_, rfl, HBk, BK2k, BK3k, BXr6, BXr7⟩ := hrel
        have hy6 : wr.cell? ⟨g6, 5, none⟩ = some (.slice B1 n d1) := (blk_cell BXr6.out 5).trans rfl
        by_cases hgk : k < n
        · have hdk : decide ((k : Int) < (n : Int)) = true := decide_eq_true (by omega)
          obtain ⟨ye, ee, _, hye⟩ := (HT1.out.kept fun k hk => HBk.out.block k hk).2 k hgk
          obtain ⟨yf, ef, _, hyf⟩ := (HT2.out.kept fun k hk => HBk.out.block k hk).2 k hgk
          have EE := Aside0.mk ee
          have EF := Aside0.mk ef
          clear ee ef
          obtain ⟨z, hz⟩ : ∃ z, z = Tl.getD k 0 := ⟨_, rfl⟩
          rw [← hz] at hye hyf
          clear hz
          have hk0 : (0 : Int) ≤ (k : Int) := by omega
          have hk1 : (k : Int) < (n : Int) := by omega
          have hk1n : k + 1 ≤ n := by omega
          have hzz : (z != z) = false := by simp
          go_upto_region 12 with fail
          have HR := Aside0.mk (Below.refl wr.heap.size wr)
          have BXs6 := BXr6
          have BXs7 := BXr7
          clear BXr6 BXr7
          have BXr6 := Aside0.mk (show wr.heap[g6]? = some (.cells #[.int .i64 pa, .int .i64 pr, .int .i64 ps, .int .i64 pw, .slice A1 m c1, .slice (some ye) n d1] 40 (0, 0)) by rw [← EE.out]; exact BXs6.out)
          have BXr7 := Aside0.mk (show wr.heap[g7]? = some (.cells #[.int .i64 pa, .int .i64 pr, .int .i64 ps, .int .i64 pw, .slice A2 m c2, .slice (some yf) n d2] 40 (0, 0)) by rw [← EF.out]; exact BXs7.out)
          refine start_ (n := 11) (S := fun w' => True) (ds := []) #[false, false, false, false, false, false, false, false, false, false, false] (by kernel_rfl) rfl rfl trivial (fun hHeld => ?_)
          refine with_tabW sm12.tab12 sm12.bits12 (fun HT_ HW_ => ?_)
          refine inv_at [0, 1, 2, 3, 4, 5, 6, 7, 8, 9, 10] (fun a0_ b a w' => a = putSel a0_ b [(0, 77, .pointer (some ⟨g6, 5, none⟩)), (1, 78, .slice (some ye) n d1), (2, 79, .int .i64 (k : Int)), (3, 80, .pointer (some (ye.add k))), (4, 81, .int .u64 z), (5, 82, .pointer (some ⟨g7, 5, none⟩)), (6, 83, .slice (some yf) n d2), (7, 84, .int .i64 (k : Int)), (8, 85, .pointer (some (yf.add k))), (9, 86, .int .u64 z), (10, 87, .bool false)] ∧ (Below wr.heap.size wr w')) HT_.out HW_.out (by kernel_rfl) (by kernel_rfl) ?_ ?_ ?_
          · exact ⟨by simp only [putSel, Bool.false_eq_true, if_false], below_drew1 HR.out⟩
          · skip
            clear HR
            refine steps_cons ?_ ?_
            · rintro b a w' ⟨ha, Q_HR⟩ hb_ hon hoff
              refine ⟨_, rfl, fun K hK => ?_⟩
              have e6 : a.tmps[6]? = some (.pointer (some ⟨g6, 0, none⟩)) := by rw [ha]; exact (putSel_off rfl).trans rfl
              replace ha := Aside0.mk ha
              have HR := Aside0.mk Q_HR
              refine value_ (w1 := w') (v := .pointer (some ⟨g6, 5, none⟩)) (by rfl) rfl ?_ ?_
              · go_simp
                (try simp only [i64_w])
                try rfl
              refine hK.out _ _ ⟨(by rw [ha.out]; exact putSel_upk 0 hb_ rfl rfl rfl), Q_HR⟩
            refine steps_cons ?_ ?_
            · rintro b a w' ⟨ha, Q_HR⟩ hb_ hon hoff
              refine ⟨_, rfl, fun K hK => ?_⟩
              have e77 : a.tmps[77]? = some (.pointer (some ⟨g6, 5, none⟩)) := by rw [ha]; exact putSel_on (e := (0, 77, .pointer (some ⟨g6, 5, none⟩))) 0 rfl rfl (hon 0 (by kernel_rfl)) rfl
              replace ha := Aside0.mk ha
              have HR := Aside0.mk Q_HR
              have hl78_0 : w'.cell? ⟨g6, 5, none⟩ = some (.slice (some ye) n d1) := (blk_cell (blk_below BXr6.out HR.out) 5).trans rfl
              refine value_ (w1 := w') (v := .slice (some ye) n d1) (by rfl) rfl ?_ ?_
              · go_simp
                (try simp only [i64_w])
                try rfl
              refine hK.out _ _ ⟨(by rw [ha.out]; exact putSel_upk 1 hb_ rfl rfl rfl), Q_HR⟩
            refine steps_cons ?_ ?_
            · rintro b a w' ⟨ha, Q_HR⟩ hb_ hon hoff
              refine ⟨_, rfl, fun K hK => ?_⟩
              have e8 : a.tmps[8]? = some (.int .i64 (k : Int)) := by rw [ha]; exact (putSel_off rfl).trans rfl
              replace ha := Aside0.mk ha
              have HR := Aside0.mk Q_HR
              refine value_ (w1 := w') (v := .int .i64 (k : Int)) (by rfl) rfl ?_ ?_
              · go_simp
                (try simp only [i64_w])
                try rfl
              refine hK.out _ _ ⟨(by rw [ha.out]; exact putSel_upk 2 hb_ rfl rfl rfl), Q_HR⟩
            refine steps_cons ?_ ?_
            · rintro b a w' ⟨ha, Q_HR⟩ hb_ hon hoff
              refine ⟨_, rfl, fun K hK => ?_⟩
              have e78 : a.tmps[78]? = some (.slice (some ye) n d1) := by rw [ha]; exact putSel_on (e := (1, 78, .slice (some ye) n d1)) 1 rfl rfl (hon 1 (by kernel_rfl)) rfl
              have e79 : a.tmps[79]? = some (.int .i64 (k : Int)) := by rw [ha]; exact putSel_on (e := (2, 79, .int .i64 (k : Int))) 2 rfl rfl (hon 2 (by kernel_rfl)) rfl
              replace ha := Aside0.mk ha
              have HR := Aside0.mk Q_HR
              refine value_ (w1 := w') (v := .pointer (some (ye.add k))) (by rfl) rfl ?_ ?_
              · go_simp
                (try simp only [i64_w])
                try rfl
              refine hK.out _ _ ⟨(by rw [ha.out]; exact putSel_upk 3 hb_ rfl rfl rfl), Q_HR⟩
            refine steps_cons ?_ ?_
            · rintro b a w' ⟨ha, Q_HR⟩ hb_ hon hoff
              refine ⟨_, rfl, fun K hK => ?_⟩
              have e80 : a.tmps[80]? = some (.pointer (some (ye.add k))) := by rw [ha]; exact putSel_on (e := (3, 80, .pointer (some (ye.add k)))) 3 rfl rfl (hon 3 (by kernel_rfl)) rfl
              replace ha := Aside0.mk ha
              have HR := Aside0.mk Q_HR
              have hl81 : w'.cell? (ye.add k) = some (.int .u64 z) := (HR.out.cell (p := ye.add k) (cell_lt hye)).trans hye
              refine value_ (w1 := w') (v := .int .u64 z) (by rfl) rfl ?_ ?_
              · go_simp
                (try simp only [i64_w])
                try rfl
              refine hK.out _ _ ⟨(by rw [ha.out]; exact putSel_upk 4 hb_ rfl rfl rfl), Q_HR⟩
            refine steps_cons ?_ ?_
            · rintro b a w' ⟨ha, Q_HR⟩ hb_ hon hoff
              refine ⟨_, rfl, fun K hK => ?_⟩
              have e7 : a.tmps[7]? = some (.pointer (some ⟨g7, 0, none⟩)) := by rw [ha]; exact (putSel_off rfl).trans rfl
              replace ha := Aside0.mk ha
              have HR := Aside0.mk Q_HR
              refine value_ (w1 := w') (v := .pointer (some ⟨g7, 5, none⟩)) (by rfl) rfl ?_ ?_
              · go_simp
                (try simp only [i64_w])
                try rfl
              refine hK.out _ _ ⟨(by rw [ha.out]; exact putSel_upk 5 hb_ rfl rfl rfl), Q_HR⟩
            refine steps_cons ?_ ?_
            · rintro b a w' ⟨ha, Q_HR⟩ hb_ hon hoff
              refine ⟨_, rfl, fun K hK => ?_⟩
              have e82 : a.tmps[82]? = some (.pointer (some ⟨g7, 5, none⟩)) := by rw [ha]; exact putSel_on (e := (5, 82, .pointer (some ⟨g7, 5, none⟩))) 5 rfl rfl (hon 5 (by kernel_rfl)) rfl
              replace ha := Aside0.mk ha
              have HR := Aside0.mk Q_HR
              have hl83_0 : w'.cell? ⟨g7, 5, none⟩ = some (.slice (some yf) n d2) := (blk_cell (blk_below BXr7.out HR.out) 5).trans rfl
              refine value_ (w1 := w') (v := .slice (some yf) n d2) (by rfl) rfl ?_ ?_
              · go_simp
                (try simp only [i64_w])
                try rfl
              refine hK.out _ _ ⟨(by rw [ha.out]; exact putSel_upk 6 hb_ rfl rfl rfl), Q_HR⟩
            refine steps_cons ?_ ?_
            · rintro b a w' ⟨ha, Q_HR⟩ hb_ hon hoff
              refine ⟨_, rfl, fun K hK => ?_⟩
              have e8 : a.tmps[8]? = some (.int .i64 (k : Int)) := by rw [ha]; exact (putSel_off rfl).trans rfl
              replace ha := Aside0.mk ha
              have HR := Aside0.mk Q_HR
              refine value_ (w1 := w') (v := .int .i64 (k : Int)) (by rfl) rfl ?_ ?_
              · go_simp
                (try simp only [i64_w])
                try rfl
              refine hK.out _ _ ⟨(by rw [ha.out]; exact putSel_upk 7 hb_ rfl rfl rfl), Q_HR⟩
            refine steps_cons ?_ ?_
            · rintro b a w' ⟨ha, Q_HR⟩ hb_ hon hoff
              refine ⟨_, rfl, fun K hK => ?_⟩
              have e83 : a.tmps[83]? = some (.slice (some yf) n d2) := by rw [ha]; exact putSel_on (e := (6, 83, .slice (some yf) n d2)) 6 rfl rfl (hon 6 (by kernel_rfl)) rfl
              have e84 : a.tmps[84]? = some (.int .i64 (k : Int)) := by rw [ha]; exact putSel_on (e := (7, 84, .int .i64 (k : Int))) 7 rfl rfl (hon 7 (by kernel_rfl)) rfl
              replace ha := Aside0.mk ha
              have HR := Aside0.mk Q_HR
              refine value_ (w1 := w') (v := .pointer (some (yf.add k))) (by rfl) rfl ?_ ?_
              · go_simp
                (try simp only [i64_w])
                try rfl
              refine hK.out _ _ ⟨(by rw [ha.out]; exact putSel_upk 8 hb_ rfl rfl rfl), Q_HR⟩
            refine steps_cons ?_ ?_
            · rintro b a w' ⟨ha, Q_HR⟩ hb_ hon hoff
              refine ⟨_, rfl, fun K hK => ?_⟩
              have e85 : a.tmps[85]? = some (.pointer (some (yf.add k))) := by rw [ha]; exact putSel_on (e := (8, 85, .pointer (some (yf.add k)))) 8 rfl rfl (hon 8 (by kernel_rfl)) rfl
              replace ha := Aside0.mk ha
              have HR := Aside0.mk Q_HR
              have hl86 : w'.cell? (yf.add k) = some (.int .u64 z) := (HR.out.cell (p := yf.add k) (cell_lt hyf)).trans hyf
              refine value_ (w1 := w') (v := .int .u64 z) (by rfl) rfl ?_ ?_
              · go_simp
                (try simp only [i64_w])
                try rfl
              refine hK.out _ _ ⟨(by rw [ha.out]; exact putSel_upk 9 hb_ rfl rfl rfl), Q_HR⟩
            refine steps_cons ?_ ?_
            · rintro b a w' ⟨ha, Q_HR⟩ hb_ hon hoff
              refine ⟨_, rfl, fun K hK => ?_⟩
              have e81 : a.tmps[81]? = some (.int .u64 z) := by rw [ha]; exact putSel_on (e := (4, 81, .int .u64 z)) 4 rfl rfl (hon 4 (by kernel_rfl)) rfl
              have e86 : a.tmps[86]? = some (.int .u64 z) := by rw [ha]; exact putSel_on (e := (9, 86, .int .u64 z)) 9 rfl rfl (hon 9 (by kernel_rfl)) rfl
              replace ha := Aside0.mk ha
              have HR := Aside0.mk Q_HR
              refine value_ (w1 := w') (v := .bool false) (by rfl) rfl ?_ ?_
              · go_simp
                (try simp only [i64_w])
                try rfl
              refine hK.out _ _ ⟨(by rw [ha.out]; exact putSel_upk 10 hb_ rfl rfl rfl), Q_HR⟩
            exact steps_nil
          rintro b a wz hall ⟨ha, Q_HR⟩
          clear HR
          have hb0_ := hall 0 (by kernel_rfl)
          have hb1_ := hall 1 (by kernel_rfl)
          have hb2_ := hall 2 (by kernel_rfl)
          have hb3_ := hall 3 (by kernel_rfl)
          have hb4_ := hall 4 (by kernel_rfl)
          have hb5_ := hall 5 (by kernel_rfl)
          have hb6_ := hall 6 (by kernel_rfl)
          have hb7_ := hall 7 (by kernel_rfl)
          have hb8_ := hall 8 (by kernel_rfl)
          have hb9_ := hall 9 (by kernel_rfl)
          have hb10_ := hall 10 (by kernel_rfl)
          subst ha
          simp only [putSel, hb0_, hb1_, hb2_, hb3_, hb4_, hb5_, hb6_, hb7_, hb8_, hb9_, hb10_, if_true, Act.put, List.setIfInBounds_toArray, List.set_cons_zero, List.set_cons_succ]
          have HR := Aside0.mk Q_HR
          clear Q_HR
          clear hall hb0_ hb1_ hb2_ hb3_ hb4_ hb5_ hb6_ hb7_ hb8_ hb9_ hb10_
          have HBz := Aside0.mk (below_step HBk.out HR.out)
          have K2z := Aside0.mk (blk_below BK2k.out HR.out)
          have K3z := Aside0.mk (blk_below BK3k.out HR.out)
          have K6z := Aside0.mk (blk_below BXs6.out HR.out)
          have K7z := Aside0.mk (blk_below BXs7.out HR.out)
          clear BXr6 BXr7
          go_wp2
          go_roundw
          case measure => exact meas_i hgk (by push_cast; rfl)
          case rel => exact ⟨k + 1, hk1n, by push_cast; rfl, HBz, K2z, K3z, K6z, K7z⟩
        · obtain rfl : k = n := by omega
          have hdk : decide ((k : Int) < (k : Int)) = false := decide_eq_false (by omega)
          go_wp2
          go_roundw
          case measure => exact meas_i hgo (by push_cast; rfl)
          case rel => exact ⟨i + 1, hi1n, by push_cast; rfl, HBk, BK2k, BK3k⟩
    · obtain rfl : i = nl := by omega
      have hd : decide ((i : Int) < (i : Int)) = false := decide_eq_false (by omega)
      go_wp2
      go_ret
      exact ⟨rfl, HB.out⟩
end Go.Proofs.Ytekggbmajemmhaa.Gr
