/- Parts of one proof, set together: Gr12, Gr13. What each says stands at its head; no condition beyond theirs. -/
import Derived.Test.YtekggbmajemmhaaDb13
/- Diff: roots. Conditions: both graphs lie in memory; at most 40 roots each. -/
namespace Go.Proofs.Ytekggbmajemmhaa.Gr
open Go.RowKit Go.Shelf Go.Maps Go.ChangeMaps Go.MapKept Go.Proofs.YtekggbmajemmhaaW.PrintWords Go.Proofs.YtekggbmajemmhaaW.PrintLast Go.Proofs.YtekggbmajemmhaaW.PrintMore
set_option linter.unusedSimpArgs false
set_option linter.unusedVariables false
theorem at_calls (W : World) (B : Nat) (hB : B ≤ W.heap.size) (A1 : Option Addr) (len c : Nat) (l : List Int) (HL : Aside0 (IL .i64 W B A1 len l)) (i : Nat) : Calls Try.prog 42 #[.slice A1 len c, .int .i64 (i : Int)] W fun e W' => e = .returned (.int .i64 (l.getD i 0)) ∧ Below W.heap.size W W' := by
  by_cases hgo : i < len
  · have hd : decide ((i : Int) < (len : Int)) = true := decide_eq_true (by omega)
    obtain ⟨y, e, hy, hc⟩ := HL.out.2 i hgo
    subst e
    obtain ⟨x, hx⟩ : ∃ x, x = l.getD i 0 := ⟨_, rfl⟩
    rw [← hx] at hc ⊢
    clear hx
    have hi0 : (0 : Int) ≤ (i : Int) := by omega
    have hi1 : (i : Int) < (len : Int) := by omega
    go_enter Try.func42, Try.ntmps42
    go_wp2
    go_ret
    exact ⟨rfl, Below.refl _ _⟩
  · have hd : decide ((i : Int) < (len : Int)) = false := decide_eq_false (by omega)
    have hl := HL.out.1
    have hz : l.getD i 0 = 0 := by rw [List.getD_eq_getElem?_getD, List.getElem?_eq_none (by omega)]; rfl
    rw [hz]
    go_enter Try.func42, Try.ntmps42
    go_wp2
    go_ret
    exact ⟨rfl, Below.refl _ _⟩
theorem roots_eq {R1 R2 : List Int} {i : Nat} (h : R1.getD i 0 = R2.getD i 0) : rootsTo R1 R2 (i + 1) = rootsTo R1 R2 i := by rw [rootsTo_succ, if_pos h, List.append_nil]
theorem roots_ne {R1 R2 : List Int} {i : Nat} (h : ¬ R1.getD i 0 = R2.getD i 0) : rootsTo R1 R2 (i + 1) = rootsTo R1 R2 i ++ [⟨4, 0, i, u64 (R1.getD i 0), u64 (R2.getD i 0)⟩] := by rw [rootsTo_succ, if_neg h]
def q5.T5 : Bool × List (List Nat × List Nat) := (true, [([], []), ([0], [0]), ([], []), ([1, 2], [1, 2]), ([], []), ([4], [4]), ([], []), ([5, 6, 3], [5, 6]), ([3, 7, 0, 1, 2, 3], [3]), ([7, 8, 0, 1, 2, 3, 4, 5, 6, 7, 8], [7])])
def q5.B5 : List Nat := [0, 1, 0, 7, 0, 16, 0, 127, 255, 511]
theorem q5.tab5 : rtab .any (opsOf Try.f27 5) = q5.T5 := by kernel_rfl
theorem q5.bits5 : waitsOk q5.T5.2 q5.B5 = true := by kernel_rfl
theorem atv_calls (W : World) (B : Nat) (hB : B ≤ W.heap.size) (A1 : Option Addr) (len c : Nat) (l : List Int) (HL : Aside0 (IL .i64 W B A1 len l)) (i : Nat) (v : Int) (hv : v = l.getD i 0) : Calls Try.prog 42 #[.slice A1 len c, .int .i64 (i : Int)] W fun e W' => e = .returned (.int .i64 v) ∧ Below W.heap.size W W' := by
  rw [hv]
  exact at_calls W B hB A1 len c l HL i
set_option maxHeartbeats 8000000 in
set_option maxRecDepth 100000 in
theorem roots_calls (w : World) (B : Nat) (hB : B ≤ w.heap.size) (g h : Gd) (HG : Aside0 (GM w B g)) (HH : Aside0 (GM w B h)) (hg40 : g.rl ≤ 40) (hh40 : h.rl ≤ 40) : Calls Try.prog 27 #[.agg #[.slice g.rA g.rl g.rc, .slice g.nA g.nl g.nc], .agg #[.slice h.rA h.rl h.rc, .slice h.nA h.nl h.nc]] w fun e W' => ∃ v, e = .returned v ∧ W'.ownsRow w.heap.size 44 5 v (rootsTo g.R h.R (max g.rl h.rl)).length (chs (rootsTo g.R h.R (max g.rl h.rl))) ∧ Below w.heap.size w W' := by
  obtain ⟨i0, hi, hz0, hz1, hz2⟩ := info_parts Di.info44
  have HB := Aside0.mk (Below.refl w.heap.size w)
  obtain ⟨M, hM⟩ : ∃ M, M = max g.rl h.rl := ⟨_, rfl⟩
  have hM40 : M ≤ 40 := by omega
  have hmx : max (g.rl : Int) (h.rl : Int) = (M : Int) := by omega
  rw [← hM]
  clear hM
  go_enter Try.func27, Try.ntmps27
  go_upto_region 1 with (first | ((with_reducible refine gate_dst (N := 2) rfl ?_); refine box_event ?hg (N := 2) ?hd (cs := #[.slice g.rA g.rl g.rc, .slice g.nA g.nl g.nc]) (t := 25) ?hr ?_; (case hd => rfl); (case hg => rfl); (case hr => first | (go_simp; done) | (go_simp; rfl)); intro g2 hg w1_ hbox hb; have n0_ := Aside0.mk (below_step (by repeat (first | (with_reducible first | exact HB.out | apply below_alloc | apply pw_below_drewN | apply below_drew1) | exact HB.out)) hb); have n1_ := Aside0.mk hbox; have n2_ := Aside0.mk ((by rw [hg]; exact (below_size (by repeat (first | (with_reducible first | exact HB.out | apply below_alloc | apply pw_below_drewN | apply below_drew1) | exact HB.out)))) : w.heap.size ≤ g2); clear HB; have HB := n0_; have BK2 := n1_; have GE2 := n2_; clear n0_ n1_ n2_; clear hb hbox hg) | ((with_reducible refine gate_dst (N := 3) rfl ?_); refine box_event ?hg (N := 3) ?hd (cs := #[.slice h.rA h.rl h.rc, .slice h.nA h.nl h.nc]) (t := 25) ?hr ?_; (case hd => rfl); (case hg => rfl); (case hr => first | (go_simp; done) | (go_simp; rfl)); intro g3 hg w2_ hbox hb; have n0_ := Aside0.mk (below_step (by repeat (first | (with_reducible first | exact HB.out | apply below_alloc | apply pw_below_drewN | apply below_drew1 | refine below_set ?_ GE2.out) | exact HB.out)) hb); have n1_ := Aside0.mk (blk_below (g := g2) (o := .cells #[.slice g.rA g.rl g.rc, .slice g.nA g.nl g.nc] 25 (0, 0)) (by (with_reducible repeat (first | refine blk_drewN ?_ _ | refine blk_drew ?_ | refine blk_alloc ?_ _)); exact BK2.out) hb); have n2_ := Aside0.mk hbox; have n3_ := Aside0.mk ((by rw [hg]; exact (below_size (by repeat (first | (with_reducible first | exact HB.out | apply below_alloc | apply pw_below_drewN | apply below_drew1 | refine below_set ?_ GE2.out) | exact HB.out)))) : w.heap.size ≤ g3); have n4_ := Aside0.mk ((by rw [hg]; exact Nat.ne_of_lt (blk_lt (g := g2) (o := .cells #[.slice g.rA g.rl g.rc, .slice g.nA g.nl g.nc] 25 (0, 0)) (by (with_reducible repeat (first | refine blk_drewN ?_ _ | refine blk_drew ?_ | refine blk_alloc ?_ _)); exact BK2.out))) : g2 ≠ g3); clear HB; clear BK2; have HB := n0_; have BK2 := n1_; have BK3 := n2_; have GE3 := n3_; have NE2_3 := n4_; clear n0_ n1_ n2_ n3_ n4_; clear hb hbox hg))
  have hc2_0 : w2_.cell? ⟨g2, 0, none⟩ = some (.slice g.rA g.rl g.rc) := (blk_cell BK2.out 0).trans rfl
  have hf2_0 := blk_frozen BK2.out 0
  have hc2_1 : w2_.cell? ⟨g2, 1, none⟩ = some (.slice g.nA g.nl g.nc) := (blk_cell BK2.out 1).trans rfl
  have hf2_1 := blk_frozen BK2.out 1
  have hc3_0 : w2_.cell? ⟨g3, 0, none⟩ = some (.slice h.rA h.rl h.rc) := (blk_cell BK3.out 0).trans rfl
  have hf3_0 := blk_frozen BK3.out 0
  have hc3_1 : w2_.cell? ⟨g3, 1, none⟩ = some (.slice h.nA h.nl h.nc) := (blk_cell BK3.out 1).trans rfl
  have hf3_1 := blk_frozen BK3.out 1
  go_upto_region 3 with fail
  try rw [hmx]
  go_loopw [5, 16] (fun o v wr => ∃ (vv : Value) (i : Nat), vv = o ∧ i ≤ M ∧ v = .int .i64 (i : Int) ∧ Aside0 (wr.ownsRow w.heap.size 44 5 vv (rootsTo g.R h.R i).length (chs (rootsTo g.R h.R i))) ∧ Aside0 (Below w.heap.size w wr) ∧ Aside0 (wr.heap[g2]? = some (.cells #[.slice g.rA g.rl g.rc, .slice g.nA g.nl g.nc] 25 (0, 0))) ∧ Aside0 (wr.heap[g3]? = some (.cells #[.slice h.rA h.rl h.rc, .slice h.nA h.nl h.nc] 25 (0, 0)))) (fun _ v _ => M - (intOf v).toNat)
  case atStart => exact ⟨_, 0, rfl, by omega, rfl, Aside0.mk (World.ownsRow_nil _ _ _ _), HB, BK2, BK3⟩
  case round =>
    clear HB BK2 BK3 hmx
    obtain ⟨vv, i, hov, hi_, rfl, OWN, HB, BK2, BK3⟩ := hrel
    subst hov
    by_cases hgo : i < M
    · have hd : decide ((i : Int) < (M : Int)) = true := decide_eq_true (by omega)
      obtain ⟨vx, hvx⟩ : ∃ x, x = g.R.getD i 0 := ⟨_, rfl⟩
      obtain ⟨vy, hvy⟩ : ∃ x, x = h.R.getD i 0 := ⟨_, rfl⟩
      have HVvx := Aside0.mk hvx
      have HVvy := Aside0.mk hvy
      clear hvx hvy
      obtain ⟨nn, hnn⟩ : ∃ n, n = (rootsTo g.R h.R i).length := ⟨_, rfl⟩
      obtain ⟨xs, hxs⟩ : ∃ x, x = chs (rootsTo g.R h.R i) := ⟨_, rfl⟩
      have hn6 : nn ≤ 600 := by rw [hnn]; have := rootsTo_le g.R h.R i; omega
      rw [← hnn, ← hxs] at OWN
      have HNN := Aside0.mk hnn
      have HXS := Aside0.mk hxs
      clear hnn hxs
      by_cases hxy : vx = vy
      · have hne : (vx != vy) = false := by rw [hxy]; simp
        have HXY := Aside0.mk (show g.R.getD i 0 = h.R.getD i 0 by rw [← HVvx.out, ← HVvy.out, hxy])
        clear hxy
        go_upto_region 5 with fail
        refine start_ (n := 10) (S := fun w' => True) (ds := []) #[false, false, false, false, false, false, false, false, false, false] (by kernel_rfl) rfl rfl trivial (fun hHeld => ?_)
        refine with_tabW q5.tab5 q5.bits5 (fun HT_ HW_ => ?_)
        refine inv_at [0, 1, 2, 3, 4, 5, 6, 7, 8, 9] (fun a0_ b a w' => a = putSel a0_ b [(0, 19, .pointer (some ⟨g2, 0, none⟩)), (1, 20, .slice g.rA g.rl g.rc), (2, 21, .int .i64 (i : Int)), (3, 22, .int .i64 vx), (4, 23, .pointer (some ⟨g3, 0, none⟩)), (5, 24, .slice h.rA h.rl h.rc), (6, 25, .int .i64 (i : Int)), (7, 26, .int .i64 vy), (8, 7, .int .i64 vx), (9, 8, .int .i64 vy)] ∧ (Below w.heap.size w w') ∧ (w'.heap[g2]? = some (.cells #[.slice g.rA g.rl g.rc, .slice g.nA g.nl g.nc] 25 (0, 0))) ∧ (w'.heap[g3]? = some (.cells #[.slice h.rA h.rl h.rc, .slice h.nA h.nl h.nc] 25 (0, 0))) ∧ (w'.ownsRow w.heap.size 44 5 vv nn xs)) HT_.out HW_.out (by kernel_rfl) (by kernel_rfl) ?_ ?_ ?_
        · exact ⟨by simp only [putSel, Bool.false_eq_true, if_false], below_drew1 HB.out, BK2.out, BK3.out, OWN.out⟩
        · skip
          clear BK2 BK3 HB OWN
          refine steps_cons ?_ ?_
          · rintro b a w' ⟨ha, Q_HB, Q_BK2, Q_BK3, Q_OWN⟩ hb_ hon hoff
            refine ⟨_, rfl, fun K hK => ?_⟩
            have e2 : a.tmps[2]? = some (.pointer (some ⟨g2, 0, none⟩)) := by rw [ha]; exact (putSel_off rfl).trans rfl
            replace ha := Aside0.mk ha
            have HB := Aside0.mk Q_HB
            have BK2 := Aside0.mk Q_BK2
            have BK3 := Aside0.mk Q_BK3
            have OWN := Aside0.mk Q_OWN
            refine value_ (w1 := w') (v := .pointer (some ⟨g2, 0, none⟩)) (by rfl) rfl ?_ ?_
            · go_simp
              (try simp only [i64_w])
              try rfl
            refine hK.out _ _ ⟨(by rw [ha.out]; exact putSel_upk 0 hb_ rfl rfl rfl), Q_HB, Q_BK2, Q_BK3, Q_OWN⟩
          refine steps_cons ?_ ?_
          · rintro b a w' ⟨ha, Q_HB, Q_BK2, Q_BK3, Q_OWN⟩ hb_ hon hoff
            refine ⟨_, rfl, fun K hK => ?_⟩
            have e19 : a.tmps[19]? = some (.pointer (some ⟨g2, 0, none⟩)) := by rw [ha]; exact putSel_on (e := (0, 19, .pointer (some ⟨g2, 0, none⟩))) 0 rfl rfl (hon 0 (by kernel_rfl)) rfl
            replace ha := Aside0.mk ha
            have HB := Aside0.mk Q_HB
            have BK2 := Aside0.mk Q_BK2
            have BK3 := Aside0.mk Q_BK3
            have OWN := Aside0.mk Q_OWN
            have hl20 : w'.cell? ⟨g2, 0, none⟩ = some (.slice g.rA g.rl g.rc) := (blk_cell BK2.out 0).trans rfl
            refine value_ (w1 := w') (v := .slice g.rA g.rl g.rc) (by rfl) rfl ?_ ?_
            · go_simp
              (try simp only [i64_w])
              try rfl
            refine hK.out _ _ ⟨(by rw [ha.out]; exact putSel_upk 1 hb_ rfl rfl rfl), Q_HB, Q_BK2, Q_BK3, Q_OWN⟩
          refine steps_cons ?_ ?_
          · rintro b a w' ⟨ha, Q_HB, Q_BK2, Q_BK3, Q_OWN⟩ hb_ hon hoff
            refine ⟨_, rfl, fun K hK => ?_⟩
            have e6 : a.tmps[6]? = some (.int .i64 (i : Int)) := by rw [ha]; exact (putSel_off rfl).trans rfl
            replace ha := Aside0.mk ha
            have HB := Aside0.mk Q_HB
            have BK2 := Aside0.mk Q_BK2
            have BK3 := Aside0.mk Q_BK3
            have OWN := Aside0.mk Q_OWN
            refine value_ (w1 := w') (v := .int .i64 (i : Int)) (by rfl) rfl ?_ ?_
            · go_simp
              (try simp only [i64_w])
              try rfl
            refine hK.out _ _ ⟨(by rw [ha.out]; exact putSel_upk 2 hb_ rfl rfl rfl), Q_HB, Q_BK2, Q_BK3, Q_OWN⟩
          refine steps_cons ?_ ?_
          · rintro b a w' ⟨ha, Q_HB, Q_BK2, Q_BK3, Q_OWN⟩ hb_ hon hoff
            refine ⟨_, rfl, fun K hK => ?_⟩
            have e20 : a.tmps[20]? = some (.slice g.rA g.rl g.rc) := by rw [ha]; exact putSel_on (e := (1, 20, .slice g.rA g.rl g.rc)) 1 rfl rfl (hon 1 (by kernel_rfl)) rfl
            have e21 : a.tmps[21]? = some (.int .i64 (i : Int)) := by rw [ha]; exact putSel_on (e := (2, 21, .int .i64 (i : Int))) 2 rfl rfl (hon 2 (by kernel_rfl)) rfl
            replace ha := Aside0.mk ha
            have HB := Aside0.mk Q_HB
            have BK2 := Aside0.mk Q_BK2
            have BK3 := Aside0.mk Q_BK3
            have OWN := Aside0.mk Q_OWN
            refine goes_ Try.func42 (by kernel_rfl) rfl #[.slice g.rA g.rl g.rc, .int .i64 (i : Int)] (by rfl) rfl rfl (by first | (simp only [List.map_toArray, List.map_cons, List.map_nil, Act.eval, Array.getD_eq_getD_getElem?, Option.getD_some, e20, e21]; done) | (simp only [List.map_toArray, List.map_cons, List.map_nil, Act.eval, Array.getD_eq_getD_getElem?, Option.getD_some, e20, e21]; rfl)) ?_
            with_reducible refine (atv_calls _ B (Nat.le_trans hB HB.out.size) g.rA g.rl g.rc g.R (Aside0.mk (HG.out.rts.kept (fun k hk => HB.out.block k (by omega)))) i vx HVvx.out).mono ?_
            rintro e w3 ⟨rfl, hb⟩
            refine ⟨_, rfl, ?_⟩
            refine hK.out _ _ ⟨(by rw [ha.out]; exact putSel_upk 3 hb_ rfl rfl rfl), (below_step HB.out hb), (blk_below BK2.out hb), (blk_below BK3.out hb), (Di.row_below OWN.out hb)⟩
          refine steps_cons ?_ ?_
          · rintro b a w' ⟨ha, Q_HB, Q_BK2, Q_BK3, Q_OWN⟩ hb_ hon hoff
            refine ⟨_, rfl, fun K hK => ?_⟩
            have e3 : a.tmps[3]? = some (.pointer (some ⟨g3, 0, none⟩)) := by rw [ha]; exact (putSel_off rfl).trans rfl
            replace ha := Aside0.mk ha
            have HB := Aside0.mk Q_HB
            have BK2 := Aside0.mk Q_BK2
            have BK3 := Aside0.mk Q_BK3
            have OWN := Aside0.mk Q_OWN
            refine value_ (w1 := w') (v := .pointer (some ⟨g3, 0, none⟩)) (by rfl) rfl ?_ ?_
            · go_simp
              (try simp only [i64_w])
              try rfl
            refine hK.out _ _ ⟨(by rw [ha.out]; exact putSel_upk 4 hb_ rfl rfl rfl), Q_HB, Q_BK2, Q_BK3, Q_OWN⟩
          refine steps_cons ?_ ?_
          · rintro b a w' ⟨ha, Q_HB, Q_BK2, Q_BK3, Q_OWN⟩ hb_ hon hoff
            refine ⟨_, rfl, fun K hK => ?_⟩
            have e23 : a.tmps[23]? = some (.pointer (some ⟨g3, 0, none⟩)) := by rw [ha]; exact putSel_on (e := (4, 23, .pointer (some ⟨g3, 0, none⟩))) 4 rfl rfl (hon 4 (by kernel_rfl)) rfl
            replace ha := Aside0.mk ha
            have HB := Aside0.mk Q_HB
            have BK2 := Aside0.mk Q_BK2
            have BK3 := Aside0.mk Q_BK3
            have OWN := Aside0.mk Q_OWN
            have hl24 : w'.cell? ⟨g3, 0, none⟩ = some (.slice h.rA h.rl h.rc) := (blk_cell BK3.out 0).trans rfl
            refine value_ (w1 := w') (v := .slice h.rA h.rl h.rc) (by rfl) rfl ?_ ?_
            · go_simp
              (try simp only [i64_w])
              try rfl
            refine hK.out _ _ ⟨(by rw [ha.out]; exact putSel_upk 5 hb_ rfl rfl rfl), Q_HB, Q_BK2, Q_BK3, Q_OWN⟩
          refine steps_cons ?_ ?_
          · rintro b a w' ⟨ha, Q_HB, Q_BK2, Q_BK3, Q_OWN⟩ hb_ hon hoff
            refine ⟨_, rfl, fun K hK => ?_⟩
            have e6 : a.tmps[6]? = some (.int .i64 (i : Int)) := by rw [ha]; exact (putSel_off rfl).trans rfl
            replace ha := Aside0.mk ha
            have HB := Aside0.mk Q_HB
            have BK2 := Aside0.mk Q_BK2
            have BK3 := Aside0.mk Q_BK3
            have OWN := Aside0.mk Q_OWN
            refine value_ (w1 := w') (v := .int .i64 (i : Int)) (by rfl) rfl ?_ ?_
            · go_simp
              (try simp only [i64_w])
              try rfl
            refine hK.out _ _ ⟨(by rw [ha.out]; exact putSel_upk 6 hb_ rfl rfl rfl), Q_HB, Q_BK2, Q_BK3, Q_OWN⟩
          refine steps_cons ?_ ?_
          · rintro b a w' ⟨ha, Q_HB, Q_BK2, Q_BK3, Q_OWN⟩ hb_ hon hoff
            refine ⟨_, rfl, fun K hK => ?_⟩
            have e24 : a.tmps[24]? = some (.slice h.rA h.rl h.rc) := by rw [ha]; exact putSel_on (e := (5, 24, .slice h.rA h.rl h.rc)) 5 rfl rfl (hon 5 (by kernel_rfl)) rfl
            have e25 : a.tmps[25]? = some (.int .i64 (i : Int)) := by rw [ha]; exact putSel_on (e := (6, 25, .int .i64 (i : Int))) 6 rfl rfl (hon 6 (by kernel_rfl)) rfl
            replace ha := Aside0.mk ha
            have HB := Aside0.mk Q_HB
            have BK2 := Aside0.mk Q_BK2
            have BK3 := Aside0.mk Q_BK3
            have OWN := Aside0.mk Q_OWN
            refine goes_ Try.func42 (by kernel_rfl) rfl #[.slice h.rA h.rl h.rc, .int .i64 (i : Int)] (by rfl) rfl rfl (by first | (simp only [List.map_toArray, List.map_cons, List.map_nil, Act.eval, Array.getD_eq_getD_getElem?, Option.getD_some, e24, e25]; done) | (simp only [List.map_toArray, List.map_cons, List.map_nil, Act.eval, Array.getD_eq_getD_getElem?, Option.getD_some, e24, e25]; rfl)) ?_
            with_reducible refine (atv_calls _ B (Nat.le_trans hB HB.out.size) h.rA h.rl h.rc h.R (Aside0.mk (HH.out.rts.kept (fun k hk => HB.out.block k (by omega)))) i vy HVvy.out).mono ?_
            rintro e w3 ⟨rfl, hb⟩
            refine ⟨_, rfl, ?_⟩
            refine hK.out _ _ ⟨(by rw [ha.out]; exact putSel_upk 7 hb_ rfl rfl rfl), (below_step HB.out hb), (blk_below BK2.out hb), (blk_below BK3.out hb), (Di.row_below OWN.out hb)⟩
          refine steps_cons ?_ ?_
          · rintro b a w' ⟨ha, Q_HB, Q_BK2, Q_BK3, Q_OWN⟩ hb_ hon hoff
            refine ⟨_, rfl, fun K hK => ?_⟩
            have e22 : a.tmps[22]? = some (.int .i64 vx) := by rw [ha]; exact putSel_on (e := (3, 22, .int .i64 vx)) 3 rfl rfl (hon 3 (by kernel_rfl)) rfl
            replace ha := Aside0.mk ha
            have HB := Aside0.mk Q_HB
            have BK2 := Aside0.mk Q_BK2
            have BK3 := Aside0.mk Q_BK3
            have OWN := Aside0.mk Q_OWN
            refine value_ (w1 := w') (v := .int .i64 vx) (by rfl) rfl ?_ ?_
            · go_simp
              (try simp only [i64_w])
              try rfl
            refine hK.out _ _ ⟨(by rw [ha.out]; exact putSel_upk 8 hb_ rfl rfl rfl), Q_HB, Q_BK2, Q_BK3, Q_OWN⟩
          refine steps_cons ?_ ?_
          · rintro b a w' ⟨ha, Q_HB, Q_BK2, Q_BK3, Q_OWN⟩ hb_ hon hoff
            refine ⟨_, rfl, fun K hK => ?_⟩
            have e26 : a.tmps[26]? = some (.int .i64 vy) := by rw [ha]; exact putSel_on (e := (7, 26, .int .i64 vy)) 7 rfl rfl (hon 7 (by kernel_rfl)) rfl
            replace ha := Aside0.mk ha
            have HB := Aside0.mk Q_HB
            have BK2 := Aside0.mk Q_BK2
            have BK3 := Aside0.mk Q_BK3
            have OWN := Aside0.mk Q_OWN
            refine value_ (w1 := w') (v := .int .i64 vy) (by rfl) rfl ?_ ?_
            · go_simp
              (try simp only [i64_w])
              try rfl
            refine hK.out _ _ ⟨(by rw [ha.out]; exact putSel_upk 9 hb_ rfl rfl rfl), Q_HB, Q_BK2, Q_BK3, Q_OWN⟩
          exact steps_nil
        rintro b a wz hall ⟨ha, Q_HB, Q_BK2, Q_BK3, Q_OWN⟩
        clear BK2 BK3 HB OWN
        have hb0_ := hall 0 (by kernel_rfl)
        have hb1_ := hall 1 (by kernel_rfl)
        have hb2_ := hall 2 (by kernel_rfl)
        have hb3_ := hall 3 (by kernel_rfl)
        have hb4_ := hall 4 (by kernel_rfl)
        have hb5_ := hall 5 (by kernel_rfl)
        have hb6_ := hall 6 (by kernel_rfl)
        have hb7_ := hall 7 (by kernel_rfl)
        have hb8_ := hall 8 (by kernel_rfl)
        have hb9_ := hall 9 (by kernel_rfl)
        subst ha
        simp only [putSel, hb0_, hb1_, hb2_, hb3_, hb4_, hb5_, hb6_, hb7_, hb8_, hb9_, if_true, Act.put, List.setIfInBounds_toArray, List.set_cons_zero, List.set_cons_succ]
        have HB := Aside0.mk Q_HB
        clear Q_HB
        have BK2 := Aside0.mk Q_BK2
        clear Q_BK2
        have BK3 := Aside0.mk Q_BK3
        clear Q_BK3
        have OWN := Aside0.mk Q_OWN
        clear Q_OWN
        clear hall hb0_ hb1_ hb2_ hb3_ hb4_ hb5_ hb6_ hb7_ hb8_ hb9_
        go_wp2
        refine ⟨⟨vv, i + 1, rfl, by omega, by push_cast; rfl, Aside0.mk (by rw [roots_eq HXY.out, ← HNN.out, ← HXS.out]; exact OWN.out), HB, BK2, BK3⟩, ?_⟩
        show M - ((i : Int) + 1).toNat < M - (i : Int).toNat
        omega
      · have hne : (vx != vy) = true := by simp; exact hxy
        have HXY := Aside0.mk (show ¬ g.R.getD i 0 = h.R.getD i 0 by rw [← HVvx.out, ← HVvy.out]; exact hxy)
        clear hxy
        go_upto_region 5 with fail
        refine start_ (n := 10) (S := fun w' => True) (ds := []) #[false, false, false, false, false, false, false, false, false, false] (by kernel_rfl) rfl rfl trivial (fun hHeld => ?_)
        refine with_tabW q5.tab5 q5.bits5 (fun HT_ HW_ => ?_)
        refine inv_at [0, 1, 2, 3, 4, 5, 6, 7, 8, 9] (fun a0_ b a w' => a = putSel a0_ b [(0, 19, .pointer (some ⟨g2, 0, none⟩)), (1, 20, .slice g.rA g.rl g.rc), (2, 21, .int .i64 (i : Int)), (3, 22, .int .i64 vx), (4, 23, .pointer (some ⟨g3, 0, none⟩)), (5, 24, .slice h.rA h.rl h.rc), (6, 25, .int .i64 (i : Int)), (7, 26, .int .i64 vy), (8, 7, .int .i64 vx), (9, 8, .int .i64 vy)] ∧ (Below w.heap.size w w') ∧ (w'.heap[g2]? = some (.cells #[.slice g.rA g.rl g.rc, .slice g.nA g.nl g.nc] 25 (0, 0))) ∧ (w'.heap[g3]? = some (.cells #[.slice h.rA h.rl h.rc, .slice h.nA h.nl h.nc] 25 (0, 0))) ∧ (w'.ownsRow w.heap.size 44 5 vv nn xs)) HT_.out HW_.out (by kernel_rfl) (by kernel_rfl) ?_ ?_ ?_
        · exact ⟨by simp only [putSel, Bool.false_eq_true, if_false], below_drew1 HB.out, BK2.out, BK3.out, OWN.out⟩
        · skip
          clear BK2 BK3 HB OWN
          refine steps_cons ?_ ?_
          · rintro b a w' ⟨ha, Q_HB, Q_BK2, Q_BK3, Q_OWN⟩ hb_ hon hoff
            refine ⟨_, rfl, fun K hK => ?_⟩
            have e2 : a.tmps[2]? = some (.pointer (some ⟨g2, 0, none⟩)) := by rw [ha]; exact (putSel_off rfl).trans rfl
            replace ha := Aside0.mk ha
            have HB := Aside0.mk Q_HB
            have BK2 := Aside0.mk Q_BK2
            have BK3 := Aside0.mk Q_BK3
            have OWN := Aside0.mk Q_OWN
            refine value_ (w1 := w') (v := .pointer (some ⟨g2, 0, none⟩)) (by rfl) rfl ?_ ?_
            · go_simp
              (try simp only [i64_w])
              try rfl
            refine hK.out _ _ ⟨(by rw [ha.out]; exact putSel_upk 0 hb_ rfl rfl rfl), Q_HB, Q_BK2, Q_BK3, Q_OWN⟩
          refine steps_cons ?_ ?_
          · rintro b a w' ⟨ha, Q_HB, Q_BK2, Q_BK3, Q_OWN⟩ hb_ hon hoff
            refine ⟨_, rfl, fun K hK => ?_⟩
            have e19 : a.tmps[19]? = some (.pointer (some ⟨g2, 0, none⟩)) := by rw [ha]; exact putSel_on (e := (0, 19, .pointer (some ⟨g2, 0, none⟩))) 0 rfl rfl (hon 0 (by kernel_rfl)) rfl
            replace ha := Aside0.mk ha
            have HB := Aside0.mk Q_HB
            have BK2 := Aside0.mk Q_BK2
            have BK3 := Aside0.mk Q_BK3
            have OWN := Aside0.mk Q_OWN
            have hl20 : w'.cell? ⟨g2, 0, none⟩ = some (.slice g.rA g.rl g.rc) := (blk_cell BK2.out 0).trans rfl
            refine value_ (w1 := w') (v := .slice g.rA g.rl g.rc) (by rfl) rfl ?_ ?_
            · go_simp
              (try simp only [i64_w])
              try rfl
            refine hK.out _ _ ⟨(by rw [ha.out]; exact putSel_upk 1 hb_ rfl rfl rfl), Q_HB, Q_BK2, Q_BK3, Q_OWN⟩
          refine steps_cons ?_ ?_
          · rintro b a w' ⟨ha, Q_HB, Q_BK2, Q_BK3, Q_OWN⟩ hb_ hon hoff
            refine ⟨_, rfl, fun K hK => ?_⟩
            have e6 : a.tmps[6]? = some (.int .i64 (i : Int)) := by rw [ha]; exact (putSel_off rfl).trans rfl
            replace ha := Aside0.mk ha
            have HB := Aside0.mk Q_HB
            have BK2 := Aside0.mk Q_BK2
            have BK3 := Aside0.mk Q_BK3
            have OWN := Aside0.mk Q_OWN
            refine value_ (w1 := w') (v := .int .i64 (i : Int)) (by rfl) rfl ?_ ?_
            · go_simp
              (try simp only [i64_w])
              try rfl
            refine hK.out _ _ ⟨(by rw [ha.out]; exact putSel_upk 2 hb_ rfl rfl rfl), Q_HB, Q_BK2, Q_BK3, Q_OWN⟩
          refine steps_cons ?_ ?_
          · rintro b a w' ⟨ha, Q_HB, Q_BK2, Q_BK3, Q_OWN⟩ hb_ hon hoff
            refine ⟨_, rfl, fun K hK => ?_⟩
            have e20 : a.tmps[20]? = some (.slice g.rA g.rl g.rc) := by rw [ha]; exact putSel_on (e := (1, 20, .slice g.rA g.rl g.rc)) 1 rfl rfl (hon 1 (by kernel_rfl)) rfl
            have e21 : a.tmps[21]? = some (.int .i64 (i : Int)) := by rw [ha]; exact putSel_on (e := (2, 21, .int .i64 (i : Int))) 2 rfl rfl (hon 2 (by kernel_rfl)) rfl
            replace ha := Aside0.mk ha
            have HB := Aside0.mk Q_HB
            have BK2 := Aside0.mk Q_BK2
            have BK3 := Aside0.mk Q_BK3
            have OWN := Aside0.mk Q_OWN
            refine goes_ Try.func42 (by kernel_rfl) rfl #[.slice g.rA g.rl g.rc, .int .i64 (i : Int)] (by rfl) rfl rfl (by first | (simp only [List.map_toArray, List.map_cons, List.map_nil, Act.eval, Array.getD_eq_getD_getElem?, Option.getD_some, e20, e21]; done) | (simp only [List.map_toArray, List.map_cons, List.map_nil, Act.eval, Array.getD_eq_getD_getElem?, Option.getD_some, e20, e21]; rfl)) ?_
            with_reducible refine (atv_calls _ B (Nat.le_trans hB HB.out.size) g.rA g.rl g.rc g.R (Aside0.mk (HG.out.rts.kept (fun k hk => HB.out.block k (by omega)))) i vx HVvx.out).mono ?_
            rintro e w3 ⟨rfl, hb⟩
            refine ⟨_, rfl, ?_⟩
            refine hK.out _ _ ⟨(by rw [ha.out]; exact putSel_upk 3 hb_ rfl rfl rfl), (below_step HB.out hb), (blk_below BK2.out hb), (blk_below BK3.out hb), (Di.row_below OWN.out hb)⟩
          refine steps_cons ?_ ?_
          · rintro b a w' ⟨ha, Q_HB, Q_BK2, Q_BK3, Q_OWN⟩ hb_ hon hoff
            refine ⟨_, rfl, fun K hK => ?_⟩
            have e3 : a.tmps[3]? = some (.pointer (some ⟨g3, 0, none⟩)) := by rw [ha]; exact (putSel_off rfl).trans rfl
            replace ha := Aside0.mk ha
            have HB := Aside0.mk Q_HB
            have BK2 := Aside0.mk Q_BK2
            have BK3 := Aside0.mk Q_BK3
            have OWN := Aside0.mk Q_OWN
            refine value_ (w1 := w') (v := .pointer (some ⟨g3, 0, none⟩)) (by rfl) rfl ?_ ?_
            · go_simp
              (try simp only [i64_w])
              try rfl
            refine hK.out _ _ ⟨(by rw [ha.out]; exact putSel_upk 4 hb_ rfl rfl rfl), Q_HB, Q_BK2, Q_BK3, Q_OWN⟩
          refine steps_cons ?_ ?_
          · rintro b a w' ⟨ha, Q_HB, Q_BK2, Q_BK3, Q_OWN⟩ hb_ hon hoff
            refine ⟨_, rfl, fun K hK => ?_⟩
            have e23 : a.tmps[23]? = some (.pointer (some ⟨g3, 0, none⟩)) := by rw [ha]; exact putSel_on (e := (4, 23, .pointer (some ⟨g3, 0, none⟩))) 4 rfl rfl (hon 4 (by kernel_rfl)) rfl
            replace ha := Aside0.mk ha
            have HB := Aside0.mk Q_HB
            have BK2 := Aside0.mk Q_BK2
            have BK3 := Aside0.mk Q_BK3
            have OWN := Aside0.mk Q_OWN
            have hl24 : w'.cell? ⟨g3, 0, none⟩ = some (.slice h.rA h.rl h.rc) := (blk_cell BK3.out 0).trans rfl
            refine value_ (w1 := w') (v := .slice h.rA h.rl h.rc) (by rfl) rfl ?_ ?_
            · go_simp
              (try simp only [i64_w])
              try rfl
            refine hK.out _ _ ⟨(by rw [ha.out]; exact putSel_upk 5 hb_ rfl rfl rfl), Q_HB, Q_BK2, Q_BK3, Q_OWN⟩
          refine steps_cons ?_ ?_
          · rintro b a w' ⟨ha, Q_HB, Q_BK2, Q_BK3, Q_OWN⟩ hb_ hon hoff
            refine ⟨_, rfl, fun K hK => ?_⟩
            have e6 : a.tmps[6]? = some (.int .i64 (i : Int)) := by rw [ha]; exact (putSel_off rfl).trans rfl
            replace ha := Aside0.mk ha
            have HB := Aside0.mk Q_HB
            have BK2 := Aside0.mk Q_BK2
            have BK3 := Aside0.mk Q_BK3
            have OWN := Aside0.mk Q_OWN
            refine value_ (w1 := w') (v := .int .i64 (i : Int)) (by rfl) rfl ?_ ?_
            · go_simp
              (try simp only [i64_w])
              try rfl
            refine hK.out _ _ ⟨(by rw [ha.out]; exact putSel_upk 6 hb_ rfl rfl rfl), Q_HB, Q_BK2, Q_BK3, Q_OWN⟩
          refine steps_cons ?_ ?_
          · rintro b a w' ⟨ha, Q_HB, Q_BK2, Q_BK3, Q_OWN⟩ hb_ hon hoff
            refine ⟨_, rfl, fun K hK => ?_⟩
            have e24 : a.tmps[24]? = some (.slice h.rA h.rl h.rc) := by rw [ha]; exact putSel_on (e := (5, 24, .slice h.rA h.rl h.rc)) 5 rfl rfl (hon 5 (by kernel_rfl)) rfl
            have e25 : a.tmps[25]? = some (.int .i64 (i : Int)) := by rw [ha]; exact putSel_on (e := (6, 25, .int .i64 (i : Int))) 6 rfl rfl (hon 6 (by kernel_rfl)) rfl
            replace ha := Aside0.mk ha
            have HB := Aside0.mk Q_HB
            have BK2 := Aside0.mk Q_BK2
            have BK3 := Aside0.mk Q_BK3
            have OWN := Aside0.mk Q_OWN
            refine goes_ Try.func42 (by kernel_rfl) rfl #[.slice h.rA h.rl h.rc, .int .i64 (i : Int)] (by rfl) rfl rfl (by first | (simp only [List.map_toArray, List.map_cons, List.map_nil, Act.eval, Array.getD_eq_getD_getElem?, Option.getD_some, e24, e25]; done) | (simp only [List.map_toArray, List.map_cons, List.map_nil, Act.eval, Array.getD_eq_getD_getElem?, Option.getD_some, e24, e25]; rfl)) ?_
            with_reducible refine (atv_calls _ B (Nat.le_trans hB HB.out.size) h.rA h.rl h.rc h.R (Aside0.mk (HH.out.rts.kept (fun k hk => HB.out.block k (by omega)))) i vy HVvy.out).mono ?_
            rintro e w3 ⟨rfl, hb⟩
            refine ⟨_, rfl, ?_⟩
            refine hK.out _ _ ⟨(by rw [ha.out]; exact putSel_upk 7 hb_ rfl rfl rfl), (below_step HB.out hb), (blk_below BK2.out hb), (blk_below BK3.out hb), (Di.row_below OWN.out hb)⟩
          refine steps_cons ?_ ?_
          · rintro b a w' ⟨ha, Q_HB, Q_BK2, Q_BK3, Q_OWN⟩ hb_ hon hoff
            refine ⟨_, rfl, fun K hK => ?_⟩
            have e22 : a.tmps[22]? = some (.int .i64 vx) := by rw [ha]; exact putSel_on (e := (3, 22, .int .i64 vx)) 3 rfl rfl (hon 3 (by kernel_rfl)) rfl
            replace ha := Aside0.mk ha
            have HB := Aside0.mk Q_HB
            have BK2 := Aside0.mk Q_BK2
            have BK3 := Aside0.mk Q_BK3
            have OWN := Aside0.mk Q_OWN
            refine value_ (w1 := w') (v := .int .i64 vx) (by rfl) rfl ?_ ?_
            · go_simp
              (try simp only [i64_w])
              try rfl
            refine hK.out _ _ ⟨(by rw [ha.out]; exact putSel_upk 8 hb_ rfl rfl rfl), Q_HB, Q_BK2, Q_BK3, Q_OWN⟩
          refine steps_cons ?_ ?_
          · rintro b a w' ⟨ha, Q_HB, Q_BK2, Q_BK3, Q_OWN⟩ hb_ hon hoff
            refine ⟨_, rfl, fun K hK => ?_⟩
            have e26 : a.tmps[26]? = some (.int .i64 vy) := by rw [ha]; exact putSel_on (e := (7, 26, .int .i64 vy)) 7 rfl rfl (hon 7 (by kernel_rfl)) rfl
            replace ha := Aside0.mk ha
            have HB := Aside0.mk Q_HB
            have BK2 := Aside0.mk Q_BK2
            have BK3 := Aside0.mk Q_BK3
            have OWN := Aside0.mk Q_OWN
            refine value_ (w1 := w') (v := .int .i64 vy) (by rfl) rfl ?_ ?_
            · go_simp
              (try simp only [i64_w])
              try rfl
            refine hK.out _ _ ⟨(by rw [ha.out]; exact putSel_upk 9 hb_ rfl rfl rfl), Q_HB, Q_BK2, Q_BK3, Q_OWN⟩
          exact steps_nil
        rintro b a wz hall ⟨ha, Q_HB, Q_BK2, Q_BK3, Q_OWN⟩
        clear BK2 BK3 HB OWN
        have hb0_ := hall 0 (by kernel_rfl)
        have hb1_ := hall 1 (by kernel_rfl)
        have hb2_ := hall 2 (by kernel_rfl)
        have hb3_ := hall 3 (by kernel_rfl)
        have hb4_ := hall 4 (by kernel_rfl)
        have hb5_ := hall 5 (by kernel_rfl)
        have hb6_ := hall 6 (by kernel_rfl)
        have hb7_ := hall 7 (by kernel_rfl)
        have hb8_ := hall 8 (by kernel_rfl)
        have hb9_ := hall 9 (by kernel_rfl)
        subst ha
        simp only [putSel, hb0_, hb1_, hb2_, hb3_, hb4_, hb5_, hb6_, hb7_, hb8_, hb9_, if_true, Act.put, List.setIfInBounds_toArray, List.set_cons_zero, List.set_cons_succ]
        have HB := Aside0.mk Q_HB
        clear Q_HB
        have BK2 := Aside0.mk Q_BK2
        clear Q_BK2
        have BK3 := Aside0.mk Q_BK3
        clear Q_BK3
        have OWN := Aside0.mk Q_OWN
        clear Q_OWN
        clear hall hb0_ hb1_ hb2_ hb3_ hb4_ hb5_ hb6_ hb7_ hb8_ hb9_
        have hsz := HB.out.size
        go_wp2_with (at_builtin; refine wpList_append_own _ rfl (.tmp 30) (.tmp 37) 26 rfl w.heap.size 44 i0 (.agg #[.int .i64 0, .int .i64 0, .int .i64 0, .int .u64 0, .int .u64 0]) 5 40 Try.underlying26 hi hz0 hz1 hz2 rfl (by decide) vv nn xs rfl (OWN.out.alloc _) ⟨wz.heap.size, 0, none⟩ 1 1 [Value.int .i64 4, .int .i64 0, .int .i64 (i : Int), .int .u64 (IntKind.u64.wrap vx), .int .u64 (IntKind.u64.wrap vy)] rfl rfl (ch_cells (blk_new wz _)) ?qo1 (by unfold maxLen; omega) (by omega) ?qb1 ?_; (case qo1 => intro u hu; simp at hu; rcases hu with rfl | rfl | rfl | rfl | rfl <;> rfl); (case qb1 => rw [World.size_alloc]; omega); intro v' w1 hown' hg1 _; have OWN2 := Aside0.mk hown'; have HB1 := Aside0.mk (own_below (below_alloc HB.out _) (Nat.le_refl _) (OWN.out.alloc _) hg1); have BK2' := Aside0.mk (own_keeps (OWN.out.alloc _) hg1 (blk_alloc BK2.out _) (by decide)); have BK3' := Aside0.mk (own_keeps (OWN.out.alloc _) hg1 (blk_alloc BK3.out _) (by decide)); clear hown' hg1)
        refine ⟨⟨_, i + 1, rfl, by omega, by push_cast; rfl, Aside0.mk (by
          have e1 : rootsTo g.R h.R (i + 1) = rootsTo g.R h.R i ++ [⟨4, 0, (i : Int), IntKind.u64.wrap vx, IntKind.u64.wrap vy⟩] := by
            rw [roots_ne HXY.out, HVvx.out, HVvy.out]
          rw [e1, List.length_append, ← HNN.out, chs_snoc, ← HXS.out]
          exact OWN2.out), HB1, BK2', BK3'⟩, ?_⟩
        show M - ((i : Int) + 1).toNat < M - (i : Int).toNat
        omega
    · obtain rfl : M = i := by omega
      have hd : decide ((M : Int) < (M : Int)) = false := decide_eq_false (by omega)
      go_wp2
      go_ret
      exact ⟨_, rfl, OWN.out, HB.out⟩
end Go.Proofs.Ytekggbmajemmhaa.Gr
/- Diff: what the changes' iterator keeps. No program text is walked here. -/
namespace Go.Proofs.Ytekggbmajemmhaa.Gr
open Go.RowKit Go.Shelf Go.Maps Go.ChangeMaps Go.MapKept Go.Proofs.YtekggbmajemmhaaW.PrintWords Go.Proofs.YtekggbmajemmhaaW.PrintLast Go.Proofs.YtekggbmajemmhaaW.PrintMore
set_option linter.unusedSimpArgs false
set_option linter.unusedVariables false
/-- What a round keeps: the arguments' memory; every block of cells, and every map, but for the body's own box and the row that it owns. -/
def KpC (B Bo : Nat) (W W' : World) : Prop := (∀ k, k < B → W'.heap[k]? = W.heap[k]?) ∧ ∀ v, W.heap[Bo]? = some (.cells #[v] 26 (0, 0)) → ∃ v', W'.heap[Bo]? = some (.cells #[v'] 26 (0, 0)) ∧ (v'.ownBlock = v.ownBlock ∨ ∃ k, v'.ownBlock = some k ∧ W.heap.size ≤ k) ∧ (∀ k, v'.ownBlock = some k → (v.ownBlock = some k ∨ k < W'.heap.size)) ∧ W.heap.size ≤ W'.heap.size ∧
  ∀ k o, W.heap[k]? = some o → o.isCells = true ∨ o.isWalk = true → k ≠ Bo → v.ownBlock ≠ some k → W'.heap[k]? = some o
theorem KpC.t {B Bo : Nat} {X Y Z : World} (h : KpC B Bo X Y) (k : KpC B Bo Y Z) : KpC B Bo X Z := by
  refine ⟨fun q hq => (k.1 q hq).trans (h.1 q hq), fun v hv => ?_⟩
  obtain ⟨v1, a1, a2, a3, a4, a5⟩ := h.2 v hv
  obtain ⟨v2, b1, b2, b3, b4, b5⟩ := k.2 v1 a1
  refine ⟨v2, b1, ?_, ?_, by omega, fun q o hq ho hne hv' => ?_⟩
  · rcases b2 with e | ⟨q, e, hq⟩
    · rw [e]
      exact a2
    · exact Or.inr ⟨q, e, by omega⟩
  · intro q hq
    rcases b3 q hq with e | e
    · rcases a3 q e with e' | e'
      · exact Or.inl e'
      · exact Or.inr (by omega)
    · exact Or.inr e
  · have hql : q < X.heap.size := (Array.getElem?_eq_some_iff.1 hq).1
    refine b5 q o (a5 q o hq ho hne hv') ho hne ?_
    rcases a2 with e | ⟨r, e, hr⟩
    · rw [e]; exact hv'
    · rw [e]
      intro e'
      have := Option.some.inj e'
      omega
theorem KpC.b {B Bo n : Nat} (hB : B ≤ n) (W : World) (l : Nat) (o o' : Obj) (hl : n ≤ l) (h : W.heap[l]? = some o) (ho : o.isCells = false) (hw : o.isWalk = false) : KpC B Bo W (W.putObj l o') := by
  refine ⟨fun k hk => World.putObj_heap_other (by omega), fun v hv => ⟨v, (World.putObj_heap_other (fun e => ?_)).trans hv, Or.inl rfl, fun k hk => Or.inl hk, (grownBy_putObj' W l o').size, fun k q hq hcw hne hv' => (World.putObj_heap_other (fun e => ?_)).trans hq⟩⟩
  · subst e
    rw [h] at hv
    cases hv
    cases ho
  · subst e
    rw [h] at hq
    cases hq
    rcases hcw with e | e
    · rw [ho] at e; cases e
    · rw [hw] at e; cases e
/-- The iterator's own things. -/
structure Cx where
  (X B Bo m1 m2 : Nat)
  aK : Option Addr
  cK : Nat
structure CS (W : World) (q : Cx) (a b : Gd) (K : List Int) (v : Value) : Prop where
  o1 : W.ownsMap Try.prog 3 nR q.m1 40 (OD a.NS (walkR a.NS a.R))
  o2 : W.ownsMap Try.prog 3 nR q.m2 40 (OD b.NS (walkR b.NS b.R))
  row : W.ownsRow q.X 3 1 (.slice q.aK K.length q.cK) K.length (K.map (Value.int .i64))
  ga : GM W q.B a
  gb : GM W q.B b
  box : W.heap[q.Bo]? = some (.cells #[v] 26 (0, 0))
  own : ∀ k, v.ownBlock = some k → k < W.heap.size ∧ k ≠ q.m1 ∧ k ≠ q.m2 ∧ (Value.slice q.aK K.length q.cK).ownBlock ≠ some k
  hB : q.B ≤ W.heap.size
theorem CS.below {W W' : World} {q : Cx} {a b : Gd} {K : List Int} {v : Value} (h : CS W q a b K v) (hb : Below W.heap.size W W') : CS W' q a b K v :=
  ⟨owns_below h.o1 hb, owns_below h.o2 hb, Di.row_below h.row hb, h.ga.kept fun k hk => hb.block k (by have := h.hB; omega), h.gb.kept fun k hk => hb.block k (by have := h.hB; omega), blk_below h.box hb, fun k hk => ⟨Nat.lt_of_lt_of_le (h.own k hk).1 hb.size, (h.own k hk).2⟩, Nat.le_trans h.hB hb.size⟩
theorem row_same {W W' : World} {X : Nat} {e : TypeId} {s n : Nat} {v : Value} {xs : List Value} (h : W.ownsRow X e s v n xs) (hs : ∀ k o, v.ownBlock = some k → W.heap[k]? = some o → o.isCells = true → W'.heap[k]? = some o) : W'.ownsRow X e s v n xs := by
  refine ⟨h.1, ?_⟩
  rcases h.2 with hn | ⟨g, cap, cur, rfl, hb, hgg, rest⟩
  · exact .inl hn
  · exact .inr ⟨g, cap, cur, rfl, hb, hs g _ rfl hgg rfl, rest⟩
theorem map_same {W W' : World} {P : Program} {k : TypeId} {H : Type} {R : Value → Option (DataW H × List MemPlace)} {b n : Nat} {D : DataW H} (h : W.ownsMap P k R b n D) (hs : ∀ o, W.heap[b]? = some o → o.isWalk = true → W'.heap[b]? = some o) : W'.ownsMap P k R b n D := by
  obtain ⟨es, clock, hb, F, h1, hD⟩ := h
  exact ⟨es, clock, hs _ hb rfl, F, h1, hD⟩
theorem row_not_box {W : World} {X : Nat} {e : TypeId} {s n j : Nat} {v u : Value} {xs : List Value} {t : TypeId} (h : W.ownsRow X e s v n xs) (hj : W.heap[j]? = some (.cells #[u] t (0, 0))) (ht : t ≠ e) : v.ownBlock ≠ some j := by
  rcases h.2 with ⟨rfl, _⟩ | ⟨g0, cap, cur, rfl, _, hgb, _⟩
  · simp [Value.ownBlock]
  · intro e'
    obtain rfl : g0 = j := by simpa [Value.ownBlock] using e'
    rw [hgb] at hj
    cases hj
    exact ht rfl
theorem CS.round {W W' : World} {q : Cx} {a b : Gd} {K : List Int} {v : Value} (h : CS W q a b K v) (hk : KpC q.B q.Bo W W') :
    ∃ v', CS W' q a b K v' ∧ ∀ {X : Nat} {u : Value} {n : Nat} {xs : List Value}, W.ownsRow X 44 5 u n xs → (∀ j, u.ownBlock = some j → v.ownBlock ≠ some j ∧ j ≠ q.Bo) → W'.ownsRow X 44 5 u n xs ∧ ∀ j, u.ownBlock = some j → v'.ownBlock ≠ some j ∧ j ≠ q.Bo := by
  obtain ⟨v', h1, h2, h3, h4, h5⟩ := hk.2 v h.box
  have hm1 := map_ne_cells h.o1 h.box
  have hm2 := map_ne_cells h.o2 h.box
  have hnew : ∀ j, j < W.heap.size → v.ownBlock ≠ some j → v'.ownBlock ≠ some j := fun j hj hv e => by
    rcases h2 with e' | ⟨r, e', hr⟩
    · exact hv (e'.symm.trans e)
    · rw [e'] at e
      have := Option.some.inj e
      omega
  have n1 : v.ownBlock ≠ some q.m1 := fun e => (h.own _ e).2.1 rfl
  have n2 : v.ownBlock ≠ some q.m2 := fun e => (h.own _ e).2.2.1 rfl
  refine ⟨v', ⟨map_same h.o1 fun o ho hw => h5 _ o ho (Or.inr hw) hm1.symm n1, map_same h.o2 fun o ho hw => h5 _ o ho (Or.inr hw) hm2.symm n2, row_same h.row fun k o hk' ho hc => h5 k o ho (Or.inl hc) (fun e => row_not_box h.row h.box (by decide) (e ▸ hk')) (fun e => (h.own k e).2.2.2 hk'), h.ga.kept hk.1, h.gb.kept hk.1, h1, fun k hk' => ?_, Nat.le_trans h.hB h4⟩, fun {X u n xs} hr hd => ⟨row_same hr fun k o hk' ho hc => h5 k o ho (Or.inl hc) (hd k hk').2 (hd k hk').1, fun j hj => ⟨hnew j (hr.lt j hj).2 (hd j hj).1, (hd j hj).2⟩⟩⟩
  refine ⟨?_, ?_, ?_, ?_⟩
  · rcases h3 k hk' with e | e
    · exact Nat.lt_of_lt_of_le (h.own k e).1 h4
    · exact e
  · rintro rfl
    exact hnew _ h.o1.lt n1 hk'
  · rintro rfl
    exact hnew _ h.o2.lt n2 hk'
  · intro e
    exact hnew k (h.row.lt k e).2 (fun e' => (h.own k e').2.2.2 e) hk'
theorem row44_form {W : World} {X n : Nat} {v : Value} {xs : List Value} (h : W.ownsRow X 44 5 v n xs) : (v = .slice none 0 0 ∧ n = 0) ∨ ∃ g cap, v = .slice (some ⟨g, 0, none⟩) n cap := by
  rcases h.2 with h0 | ⟨g, cap, cur, rfl, _⟩
  · exact .inl h0
  · exact .inr ⟨g, cap, rfl⟩
theorem chs_at {L : List Ch} {i : Nat} {c : Ch} (h : L[i]? = some c) (j : Nat) (hj : j < 5) : (chs L)[i * 5 + j]? = c.cells[j]? := by
  induction L generalizing i with
  | nil => simp at h
  | cons x L ih =>
    cases i with
    | zero =>
      simp at h
      subst h
      show (x.cells ++ chs L)[0 * 5 + j]? = _
      rw [List.getElem?_append_left (by simp; omega), Nat.zero_mul, Nat.zero_add]
    | succ i =>
      have h' : L[i]? = some c := by simpa using h
      show (x.cells ++ chs L)[(i + 1) * 5 + j]? = _
      rw [List.getElem?_append_right (by simp; omega)]
      have := ih h'
      rw [← this]
      congr 1
      simp
      omega
theorem row44_cell {W : World} {X n g cap : Nat} {L : List Ch} (h : W.ownsRow X 44 5 (.slice (some ⟨g, 0, none⟩) n cap) n (chs L)) {i : Nat} {c : Ch} (hc : L[i]? = some c) (j : Nat) (hj : j < 5) (u : Value) (hu : c.cells[j]? = some u) : W.cell? ⟨g, i * 5 + j, none⟩ = some u := by
  have := h.cells (g := g) rfl (i * 5 + j) u (by rw [chs_at hc j hj]; exact hu)
  have e : (⟨g, 0, none⟩ : Addr).add (i * 5 + j) = ⟨g, i * 5 + j, none⟩ := by unfold Addr.add; split <;> simp_all
  rw [e] at this
  exact this
theorem chs_len (L : List Ch) : (chs L).length = L.length * 5 := by
  induction L with
  | nil => rfl
  | cons x L ih =>
    show (x.cells ++ chs L).length = _
    rw [List.length_append, ih]
    show 5 + L.length * 5 = (L.length + 1) * 5
    omega
theorem nd_DL {W : World} {B : Nat} {g : Gd} (h : GM W B g) (w : List Int) (k : Int) : DL W B (nd g.NS w k) := by
  unfold nd
  by_cases hk : k ∈ w
  · rw [if_pos hk]
    cases hf : find g.NS k with
    | none => exact ⟨⟨rfl, fun i hi => absurd hi (by show ¬ i < 0; omega)⟩, ⟨rfl, fun i hi => absurd hi (by show ¬ i < 0; omega)⟩⟩
    | some n => exact h.sub n (find_mem hf)
  · rw [if_neg hk]
    exact ⟨⟨rfl, fun i hi => absurd hi (by show ¬ i < 0; omega)⟩, ⟨rfl, fun i hi => absurd hi (by show ¬ i < 0; omega)⟩⟩
theorem nd_small {g : Gd} (h : Small g) (w : List Int) (k : Int) : (nd g.NS w k).m ≤ 300 ∧ (nd g.NS w k).n ≤ 300 := by
  unfold nd
  by_cases hk : k ∈ w
  · rw [if_pos hk]
    cases hf : find g.NS k with
    | none => exact ⟨Nat.zero_le _, Nat.zero_le _⟩
    | some n => exact h.sz n (find_mem hf)
  · rw [if_neg hk]
    exact ⟨Nat.zero_le _, Nat.zero_le _⟩
theorem inside_nd (w : World) (B : Nat) (hB : B ≤ w.heap.size) (x y : Nd) (HX : Aside0 (DL w B x)) (HY : Aside0 (DL w B y)) (hm : x.m ≤ 300 ∧ x.n ≤ 300) (L : List Ch) (hL : L = insideR x y) : Calls Try.prog 49 #[.agg #[.int .i64 x.adr, .int .i64 x.refs, .int .i64 x.sl, .int .i64 x.words, .slice x.A x.m x.c, .slice x.B x.n x.d], .agg #[.int .i64 y.adr, .int .i64 y.refs, .int .i64 y.sl, .int .i64 y.words, .slice y.A y.m y.c, .slice y.B y.n y.d]] w fun e W' => ∃ v, e = .returned v ∧ W'.ownsRow w.heap.size 44 5 v L.length (chs L) ∧ Below w.heap.size w W' := by
  subst hL
  obtain ⟨pa, pr, ps, pw, pA, pm, pc, pB, pn, pd, pS, pT⟩ := x
  obtain ⟨qa, qr, qs, qw, qA, qm, qc, qB, qn, qd, qS, qT⟩ := y
  exact inside_calls w B hB pa pr ps pw pA pm pc pB pn pd pS pT qa qr qs qw qA qm qc qB qn qd qS qT HX HY hm.1 hm.2
theorem change_le {a b : Gd} (ha : Small a) (k : Int) : (changeR a.NS (walkR a.NS a.R) b.NS (walkR b.NS b.R) k).length ≤ 600 := by
  unfold changeR
  split
  · simp
  · split
    · simp
    · exact insideR_le _ _ (nd_small ha _ _)
end Go.Proofs.Ytekggbmajemmhaa.Gr
