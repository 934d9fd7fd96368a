/- Diff: roots. Conditions: both graphs lie in memory; at most 40 roots each. -/
import Derived.Test.YtekggbmajemmhaaGr11
namespace Go.Proofs.Ytekggbmajemmhaa.Gr
open Go.RowKit Go.Shelf Go.Maps Go.ChangeMaps Go.MapKept Go.Proofs.YtekggbmajemmhaaW.PrintWords Go.Proofs.YtekggbmajemmhaaW.PrintLast Go.Proofs.YtekggbmajemmhaaW.PrintMore
set_option linter.unusedSimpArgs false
set_option linter.unusedVariables false
theorem at_calls (W : World) (B : Nat) (hB : B ≤ W.heap.size) (A1 : Option Addr) (len c : Nat) (l : List Int) (HL : Aside0 (IL .i64 W B A1 len l)) (i : Nat) : Calls Try.prog 42 #[.slice A1 len c, .int .i64 (i : Int)] W fun e W' => e = .returned (.int .i64 (l.getD i 0)) ∧ Below W.heap.size W W' := by
  by_cases hgo : i < len
  · have hd : decide ((i : Int) < (len : Int)) = true := decide_eq_true (by omega)
    obtain ⟨y, e, hy, hc⟩ := HL.out.2 i hgo
    subst e
    obtain ⟨x, hx⟩ : ∃ x, x = l.getD i 0 := ⟨_, rfl⟩
    rw [← hx] at hc ⊢
    clear hx
    have hi0 : (0 : Int) ≤ (i : Int) := by omega
    have hi1 : (i : Int) < (len : Int) := by omega
    go_enter Try.func42, Try.ntmps42
    go_wp2
    go_ret
    exact ⟨rfl, Below.refl _ _⟩
  · have hd : decide ((i : Int) < (len : Int)) = false := decide_eq_false (by omega)
    have hl := HL.out.1
    have hz : l.getD i 0 = 0 := by rw [List.getD_eq_getElem?_getD, List.getElem?_eq_none (by omega)]; rfl
    rw [hz]
    go_enter Try.func42, Try.ntmps42
    go_wp2
    go_ret
    exact ⟨rfl, Below.refl _ _⟩
theorem roots_eq {R1 R2 : List Int} {i : Nat} (h : R1.getD i 0 = R2.getD i 0) : rootsTo R1 R2 (i + 1) = rootsTo R1 R2 i := by rw [rootsTo_succ, if_pos h, List.append_nil]
theorem roots_ne {R1 R2 : List Int} {i : Nat} (h : ¬ R1.getD i 0 = R2.getD i 0) : rootsTo R1 R2 (i + 1) = rootsTo R1 R2 i ++ [⟨4, 0, i, u64 (R1.getD i 0), u64 (R2.getD i 0)⟩] := by rw [rootsTo_succ, if_neg h]
def q5.T5 : Bool × List (List Nat × List Nat) := (true, [([], []), ([0], [0]), ([], []), ([1, 2], [1, 2]), ([], []), ([4], [4]), ([], []), ([5, 6, 3], [5, 6]), ([3, 7, 0, 1, 2, 3], [3]), ([7, 8, 0, 1, 2, 3, 4, 5, 6, 7, 8], [7])])
def q5.B5 : List Nat := [0, 1, 0, 7, 0, 16, 0, 127, 255, 511]
theorem q5.tab5 : rtab .any (opsOf Try.f27 5) = q5.T5 := by kernel_rfl
theorem q5.bits5 : waitsOk q5.T5.2 q5.B5 = true := by kernel_rfl
theorem atv_calls (W : World) (B : Nat) (hB : B ≤ W.heap.size) (A1 : Option Addr) (len c : Nat) (l : List Int) (HL : Aside0 (IL .i64 W B A1 len l)) (i : Nat) (v : Int) (hv : v = l.getD i 0) : Calls Try.prog 42 #[.slice A1 len c, .int .i64 (i : Int)] W fun e W' => e = .returned (.int .i64 v) ∧ Below W.heap.size W W' := by
  rw [hv]
  exact at_calls W B hB A1 len c l HL i
set_option maxHeartbeats 8000000 in
set_option maxRecDepth 100000 in
theorem roots_calls (w : World) (B : Nat) (hB : B ≤ w.heap.size) (g h : Gd) (HG : Aside0 (GM w B g)) (HH : Aside0 (GM w B h)) (hg40 : g.rl ≤ 40) (hh40 : h.rl ≤ 40) : Calls Try.prog 27 #[.agg #[.slice g.rA g.rl g.rc, .slice g.nA g.nl g.nc], .agg #[.slice h.rA h.rl h.rc, .slice h.nA h.nl h.nc]] w fun e W' => ∃ v, e = .returned v ∧ W'.ownsRow w.heap.size 44 5 v (rootsTo g.R h.R (max g.rl h.rl)).length (chs (rootsTo g.R h.R (max g.rl h.rl))) ∧ Below w.heap.size w W' := by
  obtain ⟨i0, hi, hz0, hz1, hz2⟩ := info_parts Di.info44
  have HB := Aside0.mk (Below.refl w.heap.size w)
  obtain ⟨M, hM⟩ : ∃ M, M = max g.rl h.rl := ⟨_, rfl⟩
  have hM40 : M ≤ 40 := by omega
  have hmx : max (g.rl : Int) (h.rl : Int) = (M : Int) := by omega
  rw [← hM]
  clear hM
  go_enter Try.func27, Try.ntmps27
  go_upto_region 1 with (first | ((with_reducible refine gate_dst (N := 2) rfl ?_); refine box_event ?hg (N := 2) ?hd (cs := #[.slice g.rA g.rl g.rc, .slice g.nA g.nl g.nc]) (t := 25) ?hr ?_; (case hd => rfl); (case hg => rfl); (case hr => first | (go_simp; done) | (go_simp; rfl)); intro g2 hg w1_ hbox hb; have n0_ := Aside0.mk (below_step (by repeat (first | (with_reducible first | exact HB.out | apply below_alloc | apply pw_below_drewN | apply below_drew1) | exact HB.out)) hb); have n1_ := Aside0.mk hbox; have n2_ := Aside0.mk ((by rw [hg]; exact (below_size (by repeat (first | (with_reducible first | exact HB.out | apply below_alloc | apply pw_below_drewN | apply below_drew1) | exact HB.out)))) : w.heap.size ≤ g2); clear HB; have HB := n0_; have BK2 := n1_; have GE2 := n2_; clear n0_ n1_ n2_; clear hb hbox hg) | ((with_reducible refine gate_dst (N := 3) rfl ?_); refine box_event ?hg (N := 3) ?hd (cs := #[.slice h.rA h.rl h.rc, .slice h.nA h.nl h.nc]) (t := 25) ?hr ?_; (case hd => rfl); (case hg => rfl); (case hr => first | (go_simp; done) | (go_simp; rfl)); intro g3 hg w2_ hbox hb; have n0_ := Aside0.mk (below_step (by repeat (first | (with_reducible first | exact HB.out | apply below_alloc | apply pw_below_drewN | apply below_drew1 | refine below_set ?_ GE2.out) | exact HB.out)) hb); have n1_ := Aside0.mk (blk_below (g := g2) (o := .cells #[.slice g.rA g.rl g.rc, .slice g.nA g.nl g.nc] 25 (0, 0)) (by (with_reducible repeat (first | refine blk_drewN ?_ _ | refine blk_drew ?_ | refine blk_alloc ?_ _)); exact BK2.out) hb); have n2_ := Aside0.mk hbox; have n3_ := Aside0.mk ((by rw [hg]; exact (below_size (by repeat (first | (with_reducible first | exact HB.out | apply below_alloc | apply pw_below_drewN | apply below_drew1 | refine below_set ?_ GE2.out) | exact HB.out)))) : w.heap.size ≤ g3); have n4_ := Aside0.mk ((by rw [hg]; exact Nat.ne_of_lt (blk_lt (g := g2) (o := .cells #[.slice g.rA g.rl g.rc, .slice g.nA g.nl g.nc] 25 (0, 0)) (by (with_reducible repeat (first | refine blk_drewN ?_ _ | refine blk_drew ?_ | refine blk_alloc ?_ _)); exact BK2.out))) : g2 ≠ g3); clear HB; clear BK2; have HB := n0_; have BK2 := n1_; have BK3 := n2_; have GE3 := n3_; have NE2_3 := n4_; clear n0_ n1_ n2_ n3_ n4_; clear hb hbox hg))
  have hc2_0 : w2_.cell? ⟨g2, 0, none⟩ = some (.slice g.rA g.rl g.rc) := (blk_cell BK2.out 0).trans rfl
  have hf2_0 := blk_frozen BK2.out 0
  have hc2_1 : w2_.cell? ⟨g2, 1, none⟩ = some (.slice g.nA g.nl g.nc) := (blk_cell BK2.out 1).trans rfl
  have hf2_1 := blk_frozen BK2.out 1
  have hc3_0 : w2_.cell? ⟨g3, 0, none⟩ = some (.slice h.rA h.rl h.rc) := (blk_cell BK3.out 0).trans rfl
  have hf3_0 := blk_frozen BK3.out 0
  have hc3_1 : w2_.cell? ⟨g3, 1, none⟩ = some (.slice h.nA h.nl h.nc) := (blk_cell BK3.out 1).trans rfl
  have hf3_1 := blk_frozen BK3.out 1
  go_upto_region 3 with fail
  try rw [hmx]
  go_loopw [5, 16] (fun o v wr => ∃ (vv : Value) (i : Nat), vv = o ∧ i ≤ M ∧ v = .int .i64 (i : Int) ∧ Aside0 (wr.ownsRow w.heap.size 44 5 vv (rootsTo g.R h.R i).length (chs (rootsTo g.R h.R i))) ∧ Aside0 (Below w.heap.size w wr) ∧ Aside0 (wr.heap[g2]? = some (.cells #[.slice g.rA g.rl g.rc, .slice g.nA g.nl g.nc] 25 (0, 0))) ∧ Aside0 (wr.heap[g3]? = some (.cells #[.slice h.rA h.rl h.rc, .slice h.nA h.nl h.nc] 25 (0, 0)))) (fun _ v _ => M - (intOf v).toNat)
  case atStart => exact ⟨_, 0, rfl, by omega, rfl, Aside0.mk (World.ownsRow_nil _ _ _ _), HB, BK2, BK3⟩
  case round =>
    clear HB BK2 BK3 hmx
    obtain ⟨vv, i, hov, hi_, rfl, OWN, HB, BK2, BK3⟩ := hrel
    subst hov
    by_cases hgo : i < M
    · have hd : decide ((i : Int) < (M : Int)) = true := decide_eq_true (by omega)
      obtain ⟨vx, hvx⟩ : ∃ x, x = g.R.getD i 0 := ⟨_, rfl⟩
      obtain ⟨vy, hvy⟩ : ∃ x, x = h.R.getD i 0 := ⟨_, rfl⟩
      have HVvx := Aside0.mk hvx
      have HVvy := Aside0.mk hvy
      clear hvx hvy
      obtain ⟨nn, hnn⟩ : ∃ n, n = (rootsTo g.R h.R i).length := ⟨_, rfl⟩
      obtain ⟨xs, hxs⟩ : ∃ x, x = chs (rootsTo g.R h.R i) := ⟨_, rfl⟩
      have hn6 : nn ≤ 600 := by rw [hnn]; have := rootsTo_le g.R h.R i; omega
      rw [← hnn, ← hxs] at OWN
      have HNN := Aside0.mk hnn
      have HXS := Aside0.mk hxs
      clear hnn hxs
      by_cases hxy : vx = vy
      · have hne : (vx != vy) = false := by rw [hxy]; simp
        have HXY := Aside0.mk (show g.R.getD i 0 = h.R.getD i 0 by rw [← HVvx.out, ← HVvy.out, hxy])
        clear hxy
        go_upto_region 5 with fail
        refine start_ (n := 10) (S := fun w' => True) (ds := []) #[false, false, false, false, false, false, false, false, false, false] (by kernel_rfl) rfl rfl trivial (fun hHeld => ?_)
        refine with_tabW q5.tab5 q5.bits5 (fun HT_ HW_ => ?_)
        refine inv_at [0, 1, 2, 3, 4, 5, 6, 7, 8, 9] (fun a0_ b a w' => a = putSel a0_ b [(0, 19, .pointer (some ⟨g2, 0, none⟩)), (1, 20, .slice g.rA g.rl g.rc), (2, 21, .int .i64 (i : Int)), (3, 22, .int .i64 vx), (4, 23, .pointer (some ⟨g3, 0, none⟩)), (5, 24, .slice h.rA h.rl h.rc), (6, 25, .int .i64 (i : Int)), (7, 26, .int .i64 vy), (8, 7, .int .i64 vx), (9, 8, .int .i64 vy)] ∧ (Below w.heap.size w w') ∧ (w'.heap[g2]? = some (.cells #[.slice g.rA g.rl g.rc, .slice g.nA g.nl g.nc] 25 (0, 0))) ∧ (w'.heap[g3]? = some (.cells #[.slice h.rA h.rl h.rc, .slice h.nA h.nl h.nc] 25 (0, 0))) ∧ (w'.ownsRow w.heap.size 44 5 vv nn xs)) HT_.out HW_.out (by kernel_rfl) (by kernel_rfl) ?_ ?_ ?_
        · exact ⟨by simp only [putSel, Bool.false_eq_true, if_false], below_drew1 HB.out, BK2.out, BK3.out, OWN.out⟩
        · skip
          clear BK2 BK3 HB OWN
          refine steps_cons ?_ ?_
          · rintro b a w' ⟨ha, Q_HB, Q_BK2, Q_BK3, Q_OWN⟩ hb_ hon hoff
            refine ⟨_, rfl, fun K hK => ?_⟩
            have e2 : a.tmps[2]? = some (.pointer (some ⟨g2, 0, none⟩)) := by rw [ha]; exact (putSel_off rfl).trans rfl
            replace ha := Aside0.mk ha
            have HB := Aside0.mk Q_HB
            have BK2 := Aside0.mk Q_BK2
            have BK3 := Aside0.mk Q_BK3
            have OWN := Aside0.mk Q_OWN
            refine value_ (w1 := w') (v := .pointer (some ⟨g2, 0, none⟩)) (by rfl) rfl ?_ ?_
            · go_simp
              (try simp only [i64_w])
              try rfl
            refine hK.out _ _ ⟨(by rw [ha.out]; exact putSel_upk 0 hb_ rfl rfl rfl), Q_HB, Q_BK2, Q_BK3, Q_OWN⟩
          refine steps_cons ?_ ?_
          · rintro b a w' ⟨ha, Q_HB, Q_BK2, Q_BK3, Q_OWN⟩ hb_ hon hoff
            refine ⟨_, rfl, fun K hK => ?_⟩
            have e19 : a.tmps[19]? = some (.pointer (some ⟨g2, 0, none⟩)) := by rw [ha]; exact putSel_on (e := (0, 19, .pointer (some ⟨g2, 0, none⟩))) 0 rfl rfl (hon 0 (by kernel_rfl)) rfl
            replace ha := Aside0.mk ha
            have HB := Aside0.mk Q_HB
            have BK2 := Aside0.mk Q_BK2
            have BK3 := Aside0.mk Q_BK3
            have OWN := Aside0.mk Q_OWN
            have hl20 : w'.cell? ⟨g2, 0, none⟩ = some (.slice g.rA g.rl g.rc) := (blk_cell BK2.out 0).trans rfl
            refine value_ (w1 := w') (v := .slice g.rA g.rl g.rc) (by rfl) rfl ?_ ?_
            · go_simp
              (try simp only [i64_w])
              try rfl
            refine hK.out _ _ ⟨(by rw [ha.out]; exact putSel_upk 1 hb_ rfl rfl rfl), Q_HB, Q_BK2, Q_BK3, Q_OWN⟩
          refine steps_cons ?_ ?_
          · rintro b a w' ⟨ha, Q_HB, Q_BK2, Q_BK3, Q_OWN⟩ hb_ hon hoff
            refine ⟨_, rfl, fun K hK => ?_⟩
            have e6 : a.tmps[6]? = some (.int .i64 (i : Int)) := by rw [ha]; exact (putSel_off rfl).trans rfl
            replace ha := Aside0.mk ha
            have HB := Aside0.mk Q_HB
            have BK2 := Aside0.mk Q_BK2
            have BK3 := Aside0.mk Q_BK3
            have OWN := Aside0.mk Q_OWN
            refine value_ (w1 := w') (v := .int .i64 (i : Int)) (by rfl) rfl ?_ ?_
            · go_simp
              (try simp only [i64_w])
              try rfl
            refine hK.out _ _ ⟨(by rw [ha.out]; exact putSel_upk 2 hb_ rfl rfl rfl), Q_HB, Q_BK2, Q_BK3, Q_OWN⟩
          refine steps_cons ?_ ?_
          · rintro b a w' ⟨ha, Q_HB, Q_BK2, Q_BK3, Q_OWN⟩ hb_ hon hoff
            refine ⟨_, rfl, fun K hK => ?_⟩
            have e20 : a.tmps[20]? = some (.slice g.rA g.rl g.rc) := by rw [ha]; exact putSel_on (e := (1, 20, .slice g.rA g.rl g.rc)) 1 rfl rfl (hon 1 (by kernel_rfl)) rfl
            have e21 : a.tmps[21]? = some (.int .i64 (i : Int)) := by rw [ha]; exact putSel_on (e := (2, 21, .int .i64 (i : Int))) 2 rfl rfl (hon 2 (by kernel_rfl)) rfl
            replace ha := Aside0.mk ha
            have HB := Aside0.mk Q_HB
            have BK2 := Aside0.mk Q_BK2
            have BK3 := Aside0.mk Q_BK3
            have OWN := Aside0.mk Q_OWN
            refine goes_ Try.func42 (by kernel_rfl) rfl #[.slice g.rA g.rl g.rc, .int .i64 (i : Int)] (by rfl) rfl rfl (by first | (simp only [List.map_toArray, List.map_cons, List.map_nil, Act.eval, Array.getD_eq_getD_getElem?, Option.getD_some, e20, e21]; done) | (simp only [List.map_toArray, List.map_cons, List.map_nil, Act.eval, Array.getD_eq_getD_getElem?, Option.getD_some, e20, e21]; rfl)) ?_
            with_reducible refine (atv_calls _ B (Nat.le_trans hB HB.out.size) g.rA g.rl g.rc g.R (Aside0.mk (HG.out.rts.kept (fun k hk => HB.out.block k (by omega)))) i vx HVvx.out).mono ?_
            rintro e w3 ⟨rfl, hb⟩
            refine ⟨_, rfl, ?_⟩
            refine hK.out _ _ ⟨(by rw [ha.out]; exact putSel_upk 3 hb_ rfl rfl rfl), (below_step HB.out hb), (blk_below BK2.out hb), (blk_below BK3.out hb), (Di.row_below OWN.out hb)⟩
          refine steps_cons ?_ ?_
          · rintro b a w' ⟨ha, Q_HB, Q_BK2, Q_BK3, Q_OWN⟩ hb_ hon hoff
            refine ⟨_, rfl, fun K hK => ?_⟩
            have e3 : a.tmps[3]? = some (.pointer (some ⟨g3, 0, none⟩)) := by rw [ha]; exact (putSel_off rfl).trans rfl
            replace ha := Aside0.mk ha
            have HB := Aside0.mk Q_HB
            have BK2 := Aside0.mk Q_BK2
            have BK3 := Aside0.mk Q_BK3
            have OWN := Aside0.mk Q_OWN
            refine value_ (w1 := w') (v := .pointer (some ⟨g3, 0, none⟩)) (by rfl) rfl ?_ ?_
            · go_simp
              (try simp only [i64_w])
              try rfl
            refine hK.out _ _ ⟨(by rw [ha.out]; exact putSel_upk 4 hb_ rfl rfl rfl), Q_HB, Q_BK2, Q_BK3, Q_OWN⟩
          refine steps_cons ?_ ?_
          · rintro b a w' ⟨ha, Q_HB, Q_BK2, Q_BK3, Q_OWN⟩ hb_ hon hoff
            refine ⟨_, rfl, fun K hK => ?_⟩
            have e23 : a.tmps[23]? = some (.pointer (some ⟨g3, 0, none⟩)) := by rw [ha]; exact putSel_on (e := (4, 23, .pointer (some ⟨g3, 0, none⟩))) 4 rfl rfl (hon 4 (by kernel_rfl)) rfl
            replace ha := Aside0.mk ha
            have HB := Aside0.mk Q_HB
            have BK2 := Aside0.mk Q_BK2
            have BK3 := Aside0.mk Q_BK3
            have OWN := Aside0.mk Q_OWN
            have hl24 : w'.cell? ⟨g3, 0, none⟩ = some (.slice h.rA h.rl h.rc) := (blk_cell BK3.out 0).trans rfl
            refine value_ (w1 := w') (v := .slice h.rA h.rl h.rc) (by rfl) rfl ?_ ?_
            · go_simp
              (try simp only [i64_w])
              try rfl
            refine hK.out _ _ ⟨(by rw [ha.out]; exact putSel_upk 5 hb_ rfl rfl rfl), Q_HB, Q_BK2, Q_BK3, Q_OWN⟩
          refine steps_cons ?_ ?_
          · rintro b a w' ⟨ha, Q_HB, Q_BK2, Q_BK3, Q_OWN⟩ hb_ hon hoff
            refine ⟨_, rfl, fun K hK => ?_⟩
            have e6 : a.tmps[6]? = some (.int .i64 (i : Int)) := by rw [ha]; exact (putSel_off rfl).trans rfl
            replace ha := Aside0.mk ha
            have HB := Aside0.mk Q_HB
            have BK2 := Aside0.mk Q_BK2
            have BK3 := Aside0.mk Q_BK3
            have OWN := Aside0.mk Q_OWN
            refine value_ (w1 := w') (v := .int .i64 (i : Int)) (by rfl) rfl ?_ ?_
            · go_simp
              (try simp only [i64_w])
              try rfl
            refine hK.out _ _ ⟨(by rw [ha.out]; exact putSel_upk 6 hb_ rfl rfl rfl), Q_HB, Q_BK2, Q_BK3, Q_OWN⟩
          refine steps_cons ?_ ?_
          · rintro b a w' ⟨ha, Q_HB, Q_BK2, Q_BK3, Q_OWN⟩ hb_ hon hoff
            refine ⟨_, rfl, fun K hK => ?_⟩
            have e24 : a.tmps[24]? = some (.slice h.rA h.rl h.rc) := by rw [ha]; exact putSel_on (e := (5, 24, .slice h.rA h.rl h.rc)) 5 rfl rfl (hon 5 (by kernel_rfl)) rfl
            have e25 : a.tmps[25]? = some (.int .i64 (i : Int)) := by rw [ha]; exact putSel_on (e := (6, 25, .int .i64 (i : Int))) 6 rfl rfl (hon 6 (by kernel_rfl)) rfl
            replace ha := Aside0.mk ha
            have HB := Aside0.mk Q_HB
            have BK2 := Aside0.mk Q_BK2
            have BK3 := Aside0.mk Q_BK3
            have OWN := Aside0.mk Q_OWN
            refine goes_ Try.func42 (by kernel_rfl) rfl #[.slice h.rA h.rl h.rc, .int .i64 (i : Int)] (by rfl) rfl rfl (by first | (simp only [List.map_toArray, List.map_cons, List.map_nil, Act.eval, Array.getD_eq_getD_getElem?, Option.getD_some, e24, e25]; done) | (simp only [List.map_toArray, List.map_cons, List.map_nil, Act.eval, Array.getD_eq_getD_getElem?, Option.getD_some, e24, e25]; rfl)) ?_
            with_reducible refine (atv_calls _ B (Nat.le_trans hB HB.out.size) h.rA h.rl h.rc h.R (Aside0.mk (HH.out.rts.kept (fun k hk => HB.out.block k (by omega)))) i vy HVvy.out).mono ?_
            rintro e w3 ⟨rfl, hb⟩
            refine ⟨_, rfl, ?_⟩
            refine hK.out _ _ ⟨(by rw [ha.out]; exact putSel_upk 7 hb_ rfl rfl rfl), (below_step HB.out hb), (blk_below BK2.out hb), (blk_below BK3.out hb), (Di.row_below OWN.out hb)⟩
          refine steps_cons ?_ ?_
          · rintro b a w' ⟨ha, Q_HB, Q_BK2, Q_BK3, Q_OWN⟩ hb_ hon hoff
            refine ⟨_, rfl, fun K hK => ?_⟩
            have e22 : a.tmps[22]? = some (.int .i64 vx) := by rw [ha]; exact putSel_on (e := (3, 22, .int .i64 vx)) 3 rfl rfl (hon 3 (by kernel_rfl)) rfl
            replace ha := Aside0.mk ha
            have HB := Aside0.mk Q_HB
            have BK2 := Aside0.mk Q_BK2
            have BK3 := Aside0.mk Q_BK3
            have OWN := Aside0.mk Q_OWN
            refine value_ (w1 := w') (v := .int .i64 vx) (by rfl) rfl ?_ ?_
            · go_simp
              (try simp only [i64_w])
              try rfl
            refine hK.out _ _ ⟨(by rw [ha.out]; exact putSel_upk 8 hb_ rfl rfl rfl), Q_HB, Q_BK2, Q_BK3, Q_OWN⟩
          refine steps_cons ?_ ?_
          · rintro b a w' ⟨ha, Q_HB, Q_BK2, Q_BK3, Q_OWN⟩ hb_ hon hoff
            refine ⟨_, rfl, fun K hK => ?_⟩
            have e26 : a.tmps[26]? = some (.int .i64 vy) := by rw [ha]; exact putSel_on (e := (7, 26, .int .i64 vy)) 7 rfl rfl (hon 7 (by kernel_rfl)) rfl
            replace ha := Aside0.mk ha
            have HB := Aside0.mk Q_HB
            have BK2 := Aside0.mk Q_BK2
            have BK3 := Aside0.mk Q_BK3
            have OWN := Aside0.mk Q_OWN
            refine value_ (w1 := w') (v := .int .i64 vy) (by rfl) rfl ?_ ?_
            · go_simp
              (try simp only [i64_w])
              try rfl
            refine hK.out _ _ ⟨(by rw [ha.out]; exact putSel_upk 9 hb_ rfl rfl rfl), Q_HB, Q_BK2, Q_BK3, Q_OWN⟩
          exact steps_nil
        rintro b a wz hall ⟨ha, Q_HB, Q_BK2, Q_BK3, Q_OWN⟩
        clear BK2 BK3 HB OWN
        have hb0_ := hall 0 (by kernel_rfl)
        have hb1_ := hall 1 (by kernel_rfl)
        have hb2_ := hall 2 (by kernel_rfl)
        have hb3_ := hall 3 (by kernel_rfl)
        have hb4_ := hall 4 (by kernel_rfl)
        have hb5_ := hall 5 (by kernel_rfl)
        have hb6_ := hall 6 (by kernel_rfl)
        have hb7_ := hall 7 (by kernel_rfl)
        have hb8_ := hall 8 (by kernel_rfl)
        have hb9_ := hall 9 (by kernel_rfl)
        subst ha
        simp only [putSel, hb0_, hb1_, hb2_, hb3_, hb4_, hb5_, hb6_, hb7_, hb8_, hb9_, if_true, Act.put, List.setIfInBounds_toArray, List.set_cons_zero, List.set_cons_succ]
        have HB := Aside0.mk Q_HB
        clear Q_HB
        have BK2 := Aside0.mk Q_BK2
        clear Q_BK2
        have BK3 := Aside0.mk Q_BK3
        clear Q_BK3
        have OWN := Aside0.mk Q_OWN
        clear Q_OWN
        clear hall hb0_ hb1_ hb2_ hb3_ hb4_ hb5_ hb6_ hb7_ hb8_ hb9_
        go_wp2
        refine ⟨⟨vv, i + 1, rfl, by omega, by push_cast; rfl, Aside0.mk (by rw [roots_eq HXY.out, ← HNN.out, ← HXS.out]; exact OWN.out), HB, BK2, BK3⟩, ?_⟩
        show M - ((i : Int) + 1).toNat < M - (i : Int).toNat
        omega
      · have hne : (vx != vy) = true := by simp; exact hxy
        have HXY := Aside0.mk (show ¬ g.R.getD i 0 = h.R.getD i 0 by rw [← HVvx.out, ← HVvy.out]; exact hxy)
        clear hxy
        go_upto_region 5 with fail
        refine start_ (n := 10) (S := fun w' => True) (ds := []) #[false, false, false, false, false, false, false, false, false, false] (by kernel_rfl) rfl rfl trivial (fun hHeld => ?_)
        refine with_tabW q5.tab5 q5.bits5 (fun HT_ HW_ => ?_)
        refine inv_at [0, 1, 2, 3, 4, 5, 6, 7, 8, 9] (fun a0_ b a w' => a = putSel a0_ b [(0, 19, .pointer (some ⟨g2, 0, none⟩)), (1, 20, .slice g.rA g.rl g.rc), (2, 21, .int .i64 (i : Int)), (3, 22, .int .i64 vx), (4, 23, .pointer (some ⟨g3, 0, none⟩)), (5, 24, .slice h.rA h.rl h.rc), (6, 25, .int .i64 (i : Int)), (7, 26, .int .i64 vy), (8, 7, .int .i64 vx), (9, 8, .int .i64 vy)] ∧ (Below w.heap.size w w') ∧ (w'.heap[g2]? = some (.cells #[.slice g.rA g.rl g.rc, .slice g.nA g.nl g.nc] 25 (0, 0))) ∧ (w'.heap[g3]? = some (.cells #[.slice h.rA h.rl h.rc, .slice h.nA h.nl h.nc] 25 (0, 0))) ∧ (w'.ownsRow w.heap.size 44 5 vv nn xs)) HT_.out HW_.out (by kernel_rfl) (by kernel_rfl) ?_ ?_ ?_
        · exact ⟨by simp only [putSel, Bool.false_eq_true, if_false], below_drew1 HB.out, BK2.out, BK3.out, OWN.out⟩
        · skip
          clear BK2 BK3 HB OWN
          refine steps_cons ?_ ?_
          · rintro b a w' ⟨ha, Q_HB, Q_BK2, Q_BK3, Q_OWN⟩ hb_ hon hoff
            refine ⟨_, rfl, fun K hK => ?_⟩
            have e2 : a.tmps[2]? = some (.pointer (some ⟨g2, 0, none⟩)) := by rw [ha]; exact (putSel_off rfl).trans rfl
            replace ha := Aside0.mk ha
            have HB := Aside0.mk Q_HB
            have BK2 := Aside0.mk Q_BK2
            have BK3 := Aside0.mk Q_BK3
            have OWN := Aside0.mk Q_OWN
            refine value_ (w1 := w') (v := .pointer (some ⟨g2, 0, none⟩)) (by rfl) rfl ?_ ?_
            · go_simp
              (try simp only [i64_w])
              try rfl
            refine hK.out _ _ ⟨(by rw [ha.out]; exact putSel_upk 0 hb_ rfl rfl rfl), Q_HB, Q_BK2, Q_BK3, Q_OWN⟩
          refine steps_cons ?_ ?_
          · rintro b a w' ⟨ha, Q_HB, Q_BK2, Q_BK3, Q_OWN⟩ hb_ hon hoff
            refine ⟨_, rfl, fun K hK => ?_⟩
            have e19 : a.tmps[19]? = some (.pointer (some ⟨g2, 0, none⟩)) := by rw [ha]; exact putSel_on (e := (0, 19, .pointer (some ⟨g2, 0, none⟩))) 0 rfl rfl (hon 0 (by kernel_rfl)) rfl
            replace ha := Aside0.mk ha
            have HB := Aside0.mk Q_HB
            have BK2 := Aside0.mk Q_BK2
            have BK3 := Aside0.mk Q_BK3
            have OWN := Aside0.mk Q_OWN
            have hl20 : w'.cell? ⟨g2, 0, none⟩ = some (.slice g.rA g.rl g.rc) := (blk_cell BK2.out 0).trans rfl
            refine value_ (w1 := w') (v := .slice g.rA g.rl g.rc) (by rfl) rfl ?_ ?_
            · go_simp
              (try simp only [i64_w])
              try rfl
            refine hK.out _ _ ⟨(by rw [ha.out]; exact putSel_upk 1 hb_ rfl rfl rfl), Q_HB, Q_BK2, Q_BK3, Q_OWN⟩
          refine steps_cons ?_ ?_
          · rintro b a w' ⟨ha, Q_HB, Q_BK2, Q_BK3, Q_OWN⟩ hb_ hon hoff
            refine ⟨_, rfl, fun K hK => ?_⟩
            have e6 : a.tmps[6]? = some (.int .i64 (i : Int)) := by rw [ha]; exact (putSel_off rfl).trans rfl
            replace ha := Aside0.mk ha
            have HB := Aside0.mk Q_HB
            have BK2 := Aside0.mk Q_BK2
            have BK3 := Aside0.mk Q_BK3
            have OWN := Aside0.mk Q_OWN
            refine value_ (w1 := w') (v := .int .i64 (i : Int)) (by rfl) rfl ?_ ?_
            · go_simp
              (try simp only [i64_w])
              try rfl
            refine hK.out _ _ ⟨(by rw [ha.out]; exact putSel_upk 2 hb_ rfl rfl rfl), Q_HB, Q_BK2, Q_BK3, Q_OWN⟩
          refine steps_cons ?_ ?_
          · rintro b a w' ⟨ha, Q_HB, Q_BK2, Q_BK3, Q_OWN⟩ hb_ hon hoff
            refine ⟨_, rfl, fun K hK => ?_⟩
            have e20 : a.tmps[20]? = some (.slice g.rA g.rl g.rc) := by rw [ha]; exact putSel_on (e := (1, 20, .slice g.rA g.rl g.rc)) 1 rfl rfl (hon 1 (by kernel_rfl)) rfl
            have e21 : a.tmps[21]? = some (.int .i64 (i : Int)) := by rw [ha]; exact putSel_on (e := (2, 21, .int .i64 (i : Int))) 2 rfl rfl (hon 2 (by kernel_rfl)) rfl
            replace ha := Aside0.mk ha
            have HB := Aside0.mk Q_HB
            have BK2 := Aside0.mk Q_BK2
            have BK3 := Aside0.mk Q_BK3
            have OWN := Aside0.mk Q_OWN
            refine goes_ Try.func42 (by kernel_rfl) rfl #[.slice g.rA g.rl g.rc, .int .i64 (i : Int)] (by rfl) rfl rfl (by first | (simp only [List.map_toArray, List.map_cons, List.map_nil, Act.eval, Array.getD_eq_getD_getElem?, Option.getD_some, e20, e21]; done) | (simp only [List.map_toArray, List.map_cons, List.map_nil, Act.eval, Array.getD_eq_getD_getElem?, Option.getD_some, e20, e21]; rfl)) ?_
            with_reducible refine (atv_calls _ B (Nat.le_trans hB HB.out.size) g.rA g.rl g.rc g.R (Aside0.mk (HG.out.rts.kept (fun k hk => HB.out.block k (by omega)))) i vx HVvx.out).mono ?_
            rintro e w3 ⟨rfl, hb⟩
            refine ⟨_, rfl, ?_⟩
            refine hK.out _ _ ⟨(by rw [ha.out]; exact putSel_upk 3 hb_ rfl rfl rfl), (below_step HB.out hb), (blk_below BK2.out hb), (blk_below BK3.out hb), (Di.row_below OWN.out hb)⟩
          refine steps_cons ?_ ?_
          · rintro b a w' ⟨ha, Q_HB, Q_BK2, Q_BK3, Q_OWN⟩ hb_ hon hoff
            refine ⟨_, rfl, fun K hK => ?_⟩
            have e3 : a.tmps[3]? = some (.pointer (some ⟨g3, 0, none⟩)) := by rw [ha]; exact (putSel_off rfl).trans rfl
            replace ha := Aside0.mk ha
            have HB := Aside0.mk Q_HB
            have BK2 := Aside0.mk Q_BK2
            have BK3 := Aside0.mk Q_BK3
            have OWN := Aside0.mk Q_OWN
            refine value_ (w1 := w') (v := .pointer (some ⟨g3, 0, none⟩)) (by rfl) rfl ?_ ?_
            · go_simp
              (try simp only [i64_w])
              try rfl
            refine hK.out _ _ ⟨(by rw [ha.out]; exact putSel_upk 4 hb_ rfl rfl rfl), Q_HB, Q_BK2, Q_BK3, Q_OWN⟩
          refine steps_cons ?_ ?_
          · rintro b a w' ⟨ha, Q_HB, Q_BK2, Q_BK3, Q_OWN⟩ hb_ hon hoff
            refine ⟨_, rfl, fun K hK => ?_⟩
            have e23 : a.tmps[23]? = some (.pointer (some ⟨g3, 0, none⟩)) := by rw [ha]; exact putSel_on (e := (4, 23, .pointer (some ⟨g3, 0, none⟩))) 4 rfl rfl (hon 4 (by kernel_rfl)) rfl
            replace ha := Aside0.mk ha
            have HB := Aside0.mk Q_HB
            have BK2 := Aside0.mk Q_BK2
            have BK3 := Aside0.mk Q_BK3
            have OWN := Aside0.mk Q_OWN
            have hl24 : w'.cell? ⟨g3, 0, none⟩ = some (.slice h.rA h.rl h.rc) := (blk_cell BK3.out 0).trans rfl
            refine value_ (w1 := w') (v := .slice h.rA h.rl h.rc) (by rfl) rfl ?_ ?_
            · go_simp
              (try simp only [i64_w])
              try rfl
            refine hK.out _ _ ⟨(by rw [ha.out]; exact putSel_upk 5 hb_ rfl rfl rfl), Q_HB, Q_BK2, Q_BK3, Q_OWN⟩
          refine steps_cons ?_ ?_
          · rintro b a w' ⟨ha, Q_HB, Q_BK2, Q_BK3, Q_OWN⟩ hb_ hon hoff
            refine ⟨_, rfl, fun K hK => ?_⟩
            have e6 : a.tmps[6]? = some (.int .i64 (i : Int)) := by rw [ha]; exact (putSel_off rfl).trans rfl
            replace ha := Aside0.mk ha
            have HB := Aside0.mk Q_HB
            have BK2 := Aside0.mk Q_BK2
            have BK3 := Aside0.mk Q_BK3
            have OWN := Aside0.mk Q_OWN
            refine value_ (w1 := w') (v := .int .i64 (i : Int)) (by rfl) rfl ?_ ?_
            · go_simp
              (try simp only [i64_w])
              try rfl
            refine hK.out _ _ ⟨(by rw [ha.out]; exact putSel_upk 6 hb_ rfl rfl rfl), Q_HB, Q_BK2, Q_BK3, Q_OWN⟩
          refine steps_cons ?_ ?_
          · rintro b a w' ⟨ha, Q_HB, Q_BK2, Q_BK3, Q_OWN⟩ hb_ hon hoff
            refine ⟨_, rfl, fun K hK => ?_⟩
            have e24 : a.tmps[24]? = some (.slice h.rA h.rl h.rc) := by rw [ha]; exact putSel_on (e := (5, 24, .slice h.rA h.rl h.rc)) 5 rfl rfl (hon 5 (by kernel_rfl)) rfl
            have e25 : a.tmps[25]? = some (.int .i64 (i : Int)) := by rw [ha]; exact putSel_on (e := (6, 25, .int .i64 (i : Int))) 6 rfl rfl (hon 6 (by kernel_rfl)) rfl
            replace ha := Aside0.mk ha
            have HB := Aside0.mk Q_HB
            have BK2 := Aside0.mk Q_BK2
            have BK3 := Aside0.mk Q_BK3
            have OWN := Aside0.mk Q_OWN
            refine goes_ Try.func42 (by kernel_rfl) rfl #[.slice h.rA h.rl h.rc, .int .i64 (i : Int)] (by rfl) rfl rfl (by first | (simp only [List.map_toArray, List.map_cons, List.map_nil, Act.eval, Array.getD_eq_getD_getElem?, Option.getD_some, e24, e25]; done) | (simp only [List.map_toArray, List.map_cons, List.map_nil, Act.eval, Array.getD_eq_getD_getElem?, Option.getD_some, e24, e25]; rfl)) ?_
            with_reducible refine (atv_calls _ B (Nat.le_trans hB HB.out.size) h.rA h.rl h.rc h.R (Aside0.mk (HH.out.rts.kept (fun k hk => HB.out.block k (by omega)))) i vy HVvy.out).mono ?_
            rintro e w3 ⟨rfl, hb⟩
            refine ⟨_, rfl, ?_⟩
            refine hK.out _ _ ⟨(by rw [ha.out]; exact putSel_upk 7 hb_ rfl rfl rfl), (below_step HB.out hb), (blk_below BK2.out hb), (blk_below BK3.out hb), (Di.row_below OWN.out hb)⟩
          refine steps_cons ?_ ?_
          · rintro b a w' ⟨ha, Q_HB, Q_BK2, Q_BK3, Q_OWN⟩ hb_ hon hoff
            refine ⟨_, rfl, fun K hK => ?_⟩
            have e22 : a.tmps[22]? = some (.int .i64 vx) := by rw [ha]; exact putSel_on (e := (3, 22, .int .i64 vx)) 3 rfl rfl (hon 3 (by kernel_rfl)) rfl
            replace ha := Aside0.mk ha
            have HB := Aside0.mk Q_HB
            have BK2 := Aside0.mk Q_BK2
            have BK3 := Aside0.mk Q_BK3
            have OWN := Aside0.mk Q_OWN
            refine value_ (w1 := w') (v := .int .i64 vx) (by rfl) rfl ?_ ?_
            · go_simp
              (try simp only [i64_w])
              try rfl
            refine hK.out _ _ ⟨(by rw [ha.out]; exact putSel_upk 8 hb_ rfl rfl rfl), Q_HB, Q_BK2, Q_BK3, Q_OWN⟩
          refine steps_cons ?_ ?_
          · rintro b a w' ⟨ha, Q_HB, Q_BK2, Q_BK3, Q_OWN⟩ hb_ hon hoff
            refine ⟨_, rfl, fun K hK => ?_⟩
            have e26 : a.tmps[26]? = some (.int .i64 vy) := by rw [ha]; exact putSel_on (e := (7, 26, .int .i64 vy)) 7 rfl rfl (hon 7 (by kernel_rfl)) rfl
            replace ha := Aside0.mk ha
            have HB := Aside0.mk Q_HB
            have BK2 := Aside0.mk Q_BK2
            have BK3 := Aside0.mk Q_BK3
            have OWN := Aside0.mk Q_OWN
            refine value_ (w1 := w') (v := .int .i64 vy) (by rfl) rfl ?_ ?_
            · go_simp
              (try simp only [i64_w])
              try rfl
            refine hK.out _ _ ⟨(by rw [ha.out]; exact putSel_upk 9 hb_ rfl rfl rfl), Q_HB, Q_BK2, Q_BK3, Q_OWN⟩
          exact steps_nil
        rintro b a wz hall ⟨ha, Q_HB, Q_BK2, Q_BK3, Q_OWN⟩
        clear BK2 BK3 HB OWN
        have hb0_ := hall 0 (by kernel_rfl)
        have hb1_ := hall 1 (by kernel_rfl)
        have hb2_ := hall 2 (by kernel_rfl)
        have hb3_ := hall 3 (by kernel_rfl)
        have hb4_ := hall 4 (by kernel_rfl)
        have hb5_ := hall 5 (by kernel_rfl)
        have hb6_ := hall 6 (by kernel_rfl)
        have hb7_ := hall 7 (by kernel_rfl)
        have hb8_ := hall 8 (by kernel_rfl)
        have hb9_ := hall 9 (by kernel_rfl)
        subst ha
        simp only [putSel, hb0_, hb1_, hb2_, hb3_, hb4_, hb5_, hb6_, hb7_, hb8_, hb9_, if_true, Act.put, List.setIfInBounds_toArray, List.set_cons_zero, List.set_cons_succ]
        have HB := Aside0.mk Q_HB
        clear Q_HB
        have BK2 := Aside0.mk Q_BK2
        clear Q_BK2
        have BK3 := Aside0.mk Q_BK3
        clear Q_BK3
        have OWN := Aside0.mk Q_OWN
        clear Q_OWN
        clear hall hb0_ hb1_ hb2_ hb3_ hb4_ hb5_ hb6_ hb7_ hb8_ hb9_
        have hsz := HB.out.size
        go_wp2_with (at_builtin; refine wpList_append_own _ rfl (.tmp 30) (.tmp 37) 26 rfl w.heap.size 44 i0 (.agg #[.int .i64 0, .int .i64 0, .int .i64 0, .int .u64 0, .int .u64 0]) 5 40 Try.underlying26 hi hz0 hz1 hz2 rfl (by decide) vv nn xs rfl (OWN.out.alloc _) ⟨wz.heap.size, 0, none⟩ 1 1 [Value.int .i64 4, .int .i64 0, .int .i64 (i : Int), .int .u64 (IntKind.u64.wrap vx), .int .u64 (IntKind.u64.wrap vy)] rfl rfl (ch_cells (blk_new wz _)) ?qo1 (by unfold maxLen; omega) (by omega) ?qb1 ?_; (case qo1 => intro u hu; simp at hu; rcases hu with rfl | rfl | rfl | rfl | rfl <;> rfl); (case qb1 => rw [World.size_alloc]; omega); intro v' w1 hown' hg1 _; have OWN2 := Aside0.mk hown'; have HB1 := Aside0.mk (own_below (below_alloc HB.out _) (Nat.le_refl _) (OWN.out.alloc _) hg1); have BK2' := Aside0.mk (own_keeps (OWN.out.alloc _) hg1 (blk_alloc BK2.out _) (by decide)); have BK3' := Aside0.mk (own_keeps (OWN.out.alloc _) hg1 (blk_alloc BK3.out _) (by decide)); clear hown' hg1)
        refine ⟨⟨_, i + 1, rfl, by omega, by push_cast; rfl, Aside0.mk (by
          have e1 : rootsTo g.R h.R (i + 1) = rootsTo g.R h.R i ++ [⟨4, 0, (i : Int), IntKind.u64.wrap vx, IntKind.u64.wrap vy⟩] := by
            rw [roots_ne HXY.out, HVvx.out, HVvy.out]
          rw [e1, List.length_append, ← HNN.out, chs_snoc, ← HXS.out]
          exact OWN2.out), HB1, BK2', BK3'⟩, ?_⟩
        show M - ((i : Int) + 1).toNat < M - (i : Int).toNat
        omega
    · obtain rfl : M = i := by omega
      have hd : decide ((M : Int) < (M : Int)) = false := decide_eq_false (by omega)
      go_wp2
      go_ret
      exact ⟨_, rfl, OWN.out, HB.out⟩
end Go.Proofs.Ytekggbmajemmhaa.Gr
