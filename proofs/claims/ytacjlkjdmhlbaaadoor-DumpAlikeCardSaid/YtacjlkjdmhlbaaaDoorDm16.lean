/- Parts of one proof, set together: DoorDk18, DoorDk19. What each says stands at its head; no condition beyond theirs. -/
import Derived.Test.YtacjlkjdmhlbaaaDoorDm15
/- Dump: the law's walk. Conditions: both graphs lie in memory ahead of the walk; the table of powers is laid. -/
namespace Go.Proofs.YtacjlkjdmhlbaaaDoor.Gr
open Go.RowKit Go.Shelf Go.Maps Go.ChangeMaps Go.MapKept Go.Proofs.YtacjlkjdmhlbaaaDoorW.PrintWords Go.Proofs.YtacjlkjdmhlbaaaDoorW.PrintLast Go.Proofs.YtacjlkjdmhlbaaaDoorW.PrintMore
set_option linter.unusedSimpArgs false
set_option linter.unusedVariables false
def du5.T5 : Bool × List (List Nat × List Nat) := (true, [([], []), ([], []), ([0, 1], [0, 1]), ([2], [2]), ([3, 2], [3]), ([4], [4]), ([5, 4, 4], [4, 5]), ([4], [4]), ([7, 6, 4], [4, 7]), ([6, 8, 4], [4, 6, 8]), ([4, 9], [4, 9]), ([10, 8, 0, 1, 2, 3, 4, 5, 6, 7, 8, 9, 10], [10])])
def du5.B5 : List Nat := [0, 0, 3, 7, 15, 31, 63, 31, 255, 511, 1023, 2047]
theorem du5.tab5 : rtab .any (opsOf Tryd.f3 5) = du5.T5 := by kernel_rfl
theorem du5.bits5 : waitsOk du5.T5.2 du5.B5 = true := by kernel_rfl
theorem NX.ex {NS : List Nd} (h : ∀ n ∈ NS, NX n) : Ex NS := fun n hn => ⟨(h n hn).2.1, (h n hn).2.2.2.1, (h n hn).2.2.2.2⟩
theorem GM.whole {W : World} {B : Nat} {g : Gd} (h : GM W B g) (hx : ∀ n ∈ g.NS, NX n) : ∀ n ∈ g.NS, n.S.length = n.m ∧ n.T.length = n.n ∧ (Lit.int .i64 n.words).wf = true := fun n hn => ⟨(h.sub n hn).1.1, (h.sub n hn).2.1, (hx n hn).2.2.2.2⟩
set_option maxHeartbeats 16000000 in
set_option maxRecDepth 100000 in
theorem dump_calls (W : World) (B : Nat) (hB : B ≤ W.heap.size) (ga gb : Gd) (HG : Aside0 (GM W B ga)) (HH : Aside0 (GM W B gb)) (HX : Aside0 (∀ n ∈ ga.NS, NX n)) (HY : Aside0 (∀ n ∈ gb.NS, NX n)) (hna : ga.nl ≤ 9223372036854775807) (hnb : gb.nl ≤ 9223372036854775807) (hra : Aside0 (ga.rl ≤ ga.rc ∧ ga.nl ≤ ga.nc)) (hrb : Aside0 (gb.rl ≤ gb.rc ∧ gb.nl ≤ gb.nc)) (HT : Aside0 (Tb W)) : Calls Tryd.prog 3 #[.agg #[.slice ga.rA ga.rl ga.rc, .slice ga.nA ga.nl ga.nc], .agg #[.slice gb.rA gb.rl gb.rc, .slice gb.nA gb.nl gb.nc]] W fun e W' => e = .returned (.bool true) ∧ Below W.heap.size W W' := by
  have HB := Aside0.mk (Below.refl W.heap.size W)
  go_enter Tryd.func3, Tryd.ntmps3
  go_upto_region 3 with (first | ((with_reducible refine gate_dst (N := 2) rfl ?_); refine box_event ?hg (N := 2) ?hd (cs := #[.slice ga.rA ga.rl ga.rc, .slice ga.nA ga.nl ga.nc]) (t := 25) ?hr ?_; (case hd => rfl); (case hg => rfl); (case hr => first | (go_simp; done) | (go_simp; rfl)); intro g2 hg w1_ hbox hb; have n0_ := Aside0.mk (below_step (by repeat (first | (with_reducible first | exact HB.out | apply below_alloc | apply pw_below_drewN | apply below_drew1) | exact HB.out)) hb); have n1_ := Aside0.mk hbox; have n2_ := Aside0.mk ((by rw [hg]; exact (below_size (by repeat (first | (with_reducible first | exact HB.out | apply below_alloc | apply pw_below_drewN | apply below_drew1) | exact HB.out)))) : W.heap.size ≤ g2); clear HB; have HB := n0_; have BK2 := n1_; have GE2 := n2_; clear n0_ n1_ n2_; clear hb hbox hg) | ((with_reducible refine gate_dst (N := 3) rfl ?_); refine box_event ?hg (N := 3) ?hd (cs := #[.slice gb.rA gb.rl gb.rc, .slice gb.nA gb.nl gb.nc]) (t := 25) ?hr ?_; (case hd => rfl); (case hg => rfl); (case hr => first | (go_simp; done) | (go_simp; rfl)); intro g3 hg w2_ hbox hb; have n0_ := Aside0.mk (below_step (by repeat (first | (with_reducible first | exact HB.out | apply below_alloc | apply pw_below_drewN | apply below_drew1 | refine below_set ?_ GE2.out) | exact HB.out)) hb); have n1_ := Aside0.mk (blk_below (g := g2) (o := .cells #[.slice ga.rA ga.rl ga.rc, .slice ga.nA ga.nl ga.nc] 25 (0, 0)) (by (with_reducible repeat (first | refine blk_drewN ?_ _ | refine blk_drew ?_ | refine blk_alloc ?_ _)); exact BK2.out) hb); have n2_ := Aside0.mk hbox; have n3_ := Aside0.mk ((by rw [hg]; exact (below_size (by repeat (first | (with_reducible first | exact HB.out | apply below_alloc | apply pw_below_drewN | apply below_drew1 | refine below_set ?_ GE2.out) | exact HB.out)))) : W.heap.size ≤ g3); have n4_ := Aside0.mk ((by rw [hg]; exact Nat.ne_of_lt (blk_lt (g := g2) (o := .cells #[.slice ga.rA ga.rl ga.rc, .slice ga.nA ga.nl ga.nc] 25 (0, 0)) (by (with_reducible repeat (first | refine blk_drewN ?_ _ | refine blk_drew ?_ | refine blk_alloc ?_ _)); exact BK2.out))) : g2 ≠ g3); clear HB; clear BK2; have HB := n0_; have BK2 := n1_; have BK3 := n2_; have GE3 := n3_; have NE2_3 := n4_; clear n0_ n1_ n2_ n3_ n4_; clear hb hbox hg) | ((with_reducible refine gate_callee (f := 4) rfl ?_); refine goesL_ (some 5) rfl rfl Tryd.func4 (by kernel_rfl) rfl #[] rfl (by (try simp only [List.map_toArray, List.map_cons, List.map_nil]); first | done | rfl | (simp only [List.length_drop, List.length_take]; rfl)) ?_; (with_reducible refine (alive_calls _ (Aside0.mk (HT.out.to HB.out))).mono ?_); rintro e w3_ ⟨rfl, hb⟩; refine ⟨_, rfl, ?_⟩; have n0_ := Aside0.mk (below_step (by repeat (first | (with_reducible first | exact HB.out | apply below_alloc | apply pw_below_drewN | apply below_drew1 | refine below_set ?_ GE2.out | refine below_set ?_ GE3.out) | exact HB.out)) hb); have n1_ := Aside0.mk (blk_below (g := g2) (o := .cells #[.slice ga.rA ga.rl ga.rc, .slice ga.nA ga.nl ga.nc] 25 (0, 0)) (by (with_reducible repeat (first | refine blk_drewN ?_ _ | refine blk_drew ?_ | refine blk_alloc ?_ _)); exact BK2.out) hb); have n2_ := Aside0.mk (blk_below (g := g3) (o := .cells #[.slice gb.rA gb.rl gb.rc, .slice gb.nA gb.nl gb.nc] 25 (0, 0)) (by (with_reducible repeat (first | refine blk_drewN ?_ _ | refine blk_drew ?_ | refine blk_alloc ?_ _)); exact BK3.out) hb); clear HB; clear BK2; clear BK3; have HB := n0_; have BK2 := n1_; have BK3 := n2_; clear n0_ n1_ n2_; clear hb; have hc2_0 : w3_.cell? ⟨g2, 0, none⟩ = some (.slice ga.rA ga.rl ga.rc) := (blk_cell BK2.out 0).trans rfl; have hf2_0 := blk_frozen BK2.out 0; have hc2_1 : w3_.cell? ⟨g2, 1, none⟩ = some (.slice ga.nA ga.nl ga.nc) := (blk_cell BK2.out 1).trans rfl; have hf2_1 := blk_frozen BK2.out 1; have hc3_0 : w3_.cell? ⟨g3, 0, none⟩ = some (.slice gb.rA gb.rl gb.rc) := (blk_cell BK3.out 0).trans rfl; have hf3_0 := blk_frozen BK3.out 0; have hc3_1 : w3_.cell? ⟨g3, 1, none⟩ = some (.slice gb.nA gb.nl gb.nc) := (blk_cell BK3.out 1).trans rfl; have hf3_1 := blk_frozen BK3.out 1))
  by_cases hsa : Small ga
  · by_cases hsb : Small gb
    · obtain ⟨b1, hc1, ca⟩ := closed_calls W B ga hsa HG HX hra.out.1 hra.out.2
      obtain ⟨b2, hc2, cb⟩ := closed_calls W B gb hsb HH HY hrb.out.1 hrb.out.2
      have Ca := Aside0.mk ca
      have Cb := Aside0.mk cb
      have Ka := Aside0.mk hc1
      have Kb := Aside0.mk hc2
      clear ca cb hc1 hc2
      cases b1 with
      | false =>
        go_wp2_with (first | ((with_reducible refine gate_callee (f := 5) rfl ?_); refine goesL_ (some 8) rfl rfl Tryd.func5 (by kernel_rfl) rfl #[.agg #[.slice ga.rA ga.rl ga.rc, .slice ga.nA ga.nl ga.nc]] rfl (by (try simp only [List.map_toArray, List.map_cons, List.map_nil]); first | done | rfl | (simp only [List.length_drop, List.length_take]; rfl)) ?_; (with_reducible refine (great_no _ B (Nat.le_trans hB HB.out.size) ga (Aside0.mk (HG.out.kept fun k hk => HB.out.block k (by omega))) hna hsa).mono ?_); rintro e w4_ ⟨rfl, hb⟩; refine ⟨_, rfl, ?_⟩; have n0_ := Aside0.mk (below_step (by repeat (first | (with_reducible first | exact HB.out | apply below_alloc | apply pw_below_drewN | apply below_drew1 | refine below_set ?_ GE2.out | refine below_set ?_ GE3.out) | exact HB.out)) hb); have n1_ := Aside0.mk (blk_below (g := g2) (o := .cells #[.slice ga.rA ga.rl ga.rc, .slice ga.nA ga.nl ga.nc] 25 (0, 0)) (by (with_reducible repeat (first | refine blk_drewN ?_ _ | refine blk_drew ?_ | refine blk_alloc ?_ _)); exact BK2.out) hb); have n2_ := Aside0.mk (blk_below (g := g3) (o := .cells #[.slice gb.rA gb.rl gb.rc, .slice gb.nA gb.nl gb.nc] 25 (0, 0)) (by (with_reducible repeat (first | refine blk_drewN ?_ _ | refine blk_drew ?_ | refine blk_alloc ?_ _)); exact BK3.out) hb); clear HB; clear BK2; clear BK3; have HB := n0_; have BK2 := n1_; have BK3 := n2_; clear n0_ n1_ n2_; clear hb; have hc2_0 : w4_.cell? ⟨g2, 0, none⟩ = some (.slice ga.rA ga.rl ga.rc) := (blk_cell BK2.out 0).trans rfl; have hf2_0 := blk_frozen BK2.out 0; have hc2_1 : w4_.cell? ⟨g2, 1, none⟩ = some (.slice ga.nA ga.nl ga.nc) := (blk_cell BK2.out 1).trans rfl; have hf2_1 := blk_frozen BK2.out 1; have hc3_0 : w4_.cell? ⟨g3, 0, none⟩ = some (.slice gb.rA gb.rl gb.rc) := (blk_cell BK3.out 0).trans rfl; have hf3_0 := blk_frozen BK3.out 0; have hc3_1 : w4_.cell? ⟨g3, 1, none⟩ = some (.slice gb.nA gb.nl gb.nc) := (blk_cell BK3.out 1).trans rfl; have hf3_1 := blk_frozen BK3.out 1) | (go_at_call 5; (with_reducible refine (great_no _ B (Nat.le_trans hB HB.out.size) gb (Aside0.mk (HH.out.kept fun k hk => HB.out.block k (by omega))) hnb hsb).mono ?_); rintro e w5_ ⟨rfl, hb⟩; have n0_ := Aside0.mk (below_step (by repeat (first | (with_reducible first | exact HB.out | apply below_alloc | apply pw_below_drewN | apply below_drew1 | refine below_set ?_ GE2.out | refine below_set ?_ GE3.out) | exact HB.out)) hb); have n1_ := Aside0.mk (blk_below (g := g2) (o := .cells #[.slice ga.rA ga.rl ga.rc, .slice ga.nA ga.nl ga.nc] 25 (0, 0)) (by (with_reducible repeat (first | refine blk_drewN ?_ _ | refine blk_drew ?_ | refine blk_alloc ?_ _)); exact BK2.out) hb); have n2_ := Aside0.mk (blk_below (g := g3) (o := .cells #[.slice gb.rA gb.rl gb.rc, .slice gb.nA gb.nl gb.nc] 25 (0, 0)) (by (with_reducible repeat (first | refine blk_drewN ?_ _ | refine blk_drew ?_ | refine blk_alloc ?_ _)); exact BK3.out) hb); clear HB; clear BK2; clear BK3; have HB := n0_; have BK2 := n1_; have BK3 := n2_; clear n0_ n1_ n2_; clear hb; have hc2_0 : w5_.cell? ⟨g2, 0, none⟩ = some (.slice ga.rA ga.rl ga.rc) := (blk_cell BK2.out 0).trans rfl; have hf2_0 := blk_frozen BK2.out 0; have hc2_1 : w5_.cell? ⟨g2, 1, none⟩ = some (.slice ga.nA ga.nl ga.nc) := (blk_cell BK2.out 1).trans rfl; have hf2_1 := blk_frozen BK2.out 1; have hc3_0 : w5_.cell? ⟨g3, 0, none⟩ = some (.slice gb.rA gb.rl gb.rc) := (blk_cell BK3.out 0).trans rfl; have hf3_0 := blk_frozen BK3.out 0; have hc3_1 : w5_.cell? ⟨g3, 1, none⟩ = some (.slice gb.nA gb.nl gb.nc) := (blk_cell BK3.out 1).trans rfl; have hf3_1 := blk_frozen BK3.out 1) | (go_at_call 6; (with_reducible refine (Ca.out _ B (Aside0.mk (HG.out.kept fun k hk => HB.out.block k (by omega)))).mono ?_); rintro e w6_ ⟨rfl, hb⟩; have n0_ := Aside0.mk (below_step (by repeat (first | (with_reducible first | exact HB.out | apply below_alloc | apply pw_below_drewN | apply below_drew1 | refine below_set ?_ GE2.out | refine below_set ?_ GE3.out) | exact HB.out)) hb); have n1_ := Aside0.mk (blk_below (g := g2) (o := .cells #[.slice ga.rA ga.rl ga.rc, .slice ga.nA ga.nl ga.nc] 25 (0, 0)) (by (with_reducible repeat (first | refine blk_drewN ?_ _ | refine blk_drew ?_ | refine blk_alloc ?_ _)); exact BK2.out) hb); have n2_ := Aside0.mk (blk_below (g := g3) (o := .cells #[.slice gb.rA gb.rl gb.rc, .slice gb.nA gb.nl gb.nc] 25 (0, 0)) (by (with_reducible repeat (first | refine blk_drewN ?_ _ | refine blk_drew ?_ | refine blk_alloc ?_ _)); exact BK3.out) hb); clear HB; clear BK2; clear BK3; have HB := n0_; have BK2 := n1_; have BK3 := n2_; clear n0_ n1_ n2_; clear hb; have hc2_0 : w6_.cell? ⟨g2, 0, none⟩ = some (.slice ga.rA ga.rl ga.rc) := (blk_cell BK2.out 0).trans rfl; have hf2_0 := blk_frozen BK2.out 0; have hc2_1 : w6_.cell? ⟨g2, 1, none⟩ = some (.slice ga.nA ga.nl ga.nc) := (blk_cell BK2.out 1).trans rfl; have hf2_1 := blk_frozen BK2.out 1; have hc3_0 : w6_.cell? ⟨g3, 0, none⟩ = some (.slice gb.rA gb.rl gb.rc) := (blk_cell BK3.out 0).trans rfl; have hf3_0 := blk_frozen BK3.out 0; have hc3_1 : w6_.cell? ⟨g3, 1, none⟩ = some (.slice gb.nA gb.nl gb.nc) := (blk_cell BK3.out 1).trans rfl; have hf3_1 := blk_frozen BK3.out 1))
        go_ret
        exact ⟨rfl, HB.out⟩
      | true =>
        cases b2 with
        | false =>
          go_wp2_with (first | ((with_reducible refine gate_callee (f := 5) rfl ?_); refine goesL_ (some 8) rfl rfl Tryd.func5 (by kernel_rfl) rfl #[.agg #[.slice ga.rA ga.rl ga.rc, .slice ga.nA ga.nl ga.nc]] rfl (by (try simp only [List.map_toArray, List.map_cons, List.map_nil]); first | done | rfl | (simp only [List.length_drop, List.length_take]; rfl)) ?_; (with_reducible refine (great_no _ B (Nat.le_trans hB HB.out.size) ga (Aside0.mk (HG.out.kept fun k hk => HB.out.block k (by omega))) hna hsa).mono ?_); rintro e w4_ ⟨rfl, hb⟩; refine ⟨_, rfl, ?_⟩; have n0_ := Aside0.mk (below_step (by repeat (first | (with_reducible first | exact HB.out | apply below_alloc | apply pw_below_drewN | apply below_drew1 | refine below_set ?_ GE2.out | refine below_set ?_ GE3.out) | exact HB.out)) hb); have n1_ := Aside0.mk (blk_below (g := g2) (o := .cells #[.slice ga.rA ga.rl ga.rc, .slice ga.nA ga.nl ga.nc] 25 (0, 0)) (by (with_reducible repeat (first | refine blk_drewN ?_ _ | refine blk_drew ?_ | refine blk_alloc ?_ _)); exact BK2.out) hb); have n2_ := Aside0.mk (blk_below (g := g3) (o := .cells #[.slice gb.rA gb.rl gb.rc, .slice gb.nA gb.nl gb.nc] 25 (0, 0)) (by (with_reducible repeat (first | refine blk_drewN ?_ _ | refine blk_drew ?_ | refine blk_alloc ?_ _)); exact BK3.out) hb); clear HB; clear BK2; clear BK3; have HB := n0_; have BK2 := n1_; have BK3 := n2_; clear n0_ n1_ n2_; clear hb; have hc2_0 : w4_.cell? ⟨g2, 0, none⟩ = some (.slice ga.rA ga.rl ga.rc) := (blk_cell BK2.out 0).trans rfl; have hf2_0 := blk_frozen BK2.out 0; have hc2_1 : w4_.cell? ⟨g2, 1, none⟩ = some (.slice ga.nA ga.nl ga.nc) := (blk_cell BK2.out 1).trans rfl; have hf2_1 := blk_frozen BK2.out 1; have hc3_0 : w4_.cell? ⟨g3, 0, none⟩ = some (.slice gb.rA gb.rl gb.rc) := (blk_cell BK3.out 0).trans rfl; have hf3_0 := blk_frozen BK3.out 0; have hc3_1 : w4_.cell? ⟨g3, 1, none⟩ = some (.slice gb.nA gb.nl gb.nc) := (blk_cell BK3.out 1).trans rfl; have hf3_1 := blk_frozen BK3.out 1) | (go_at_call 5; (with_reducible refine (great_no _ B (Nat.le_trans hB HB.out.size) gb (Aside0.mk (HH.out.kept fun k hk => HB.out.block k (by omega))) hnb hsb).mono ?_); rintro e w5_ ⟨rfl, hb⟩; have n0_ := Aside0.mk (below_step (by repeat (first | (with_reducible first | exact HB.out | apply below_alloc | apply pw_below_drewN | apply below_drew1 | refine below_set ?_ GE2.out | refine below_set ?_ GE3.out) | exact HB.out)) hb); have n1_ := Aside0.mk (blk_below (g := g2) (o := .cells #[.slice ga.rA ga.rl ga.rc, .slice ga.nA ga.nl ga.nc] 25 (0, 0)) (by (with_reducible repeat (first | refine blk_drewN ?_ _ | refine blk_drew ?_ | refine blk_alloc ?_ _)); exact BK2.out) hb); have n2_ := Aside0.mk (blk_below (g := g3) (o := .cells #[.slice gb.rA gb.rl gb.rc, .slice gb.nA gb.nl gb.nc] 25 (0, 0)) (by (with_reducible repeat (first | refine blk_drewN ?_ _ | refine blk_drew ?_ | refine blk_alloc ?_ _)); exact BK3.out) hb); clear HB; clear BK2; clear BK3; have HB := n0_; have BK2 := n1_; have BK3 := n2_; clear n0_ n1_ n2_; clear hb; have hc2_0 : w5_.cell? ⟨g2, 0, none⟩ = some (.slice ga.rA ga.rl ga.rc) := (blk_cell BK2.out 0).trans rfl; have hf2_0 := blk_frozen BK2.out 0; have hc2_1 : w5_.cell? ⟨g2, 1, none⟩ = some (.slice ga.nA ga.nl ga.nc) := (blk_cell BK2.out 1).trans rfl; have hf2_1 := blk_frozen BK2.out 1; have hc3_0 : w5_.cell? ⟨g3, 0, none⟩ = some (.slice gb.rA gb.rl gb.rc) := (blk_cell BK3.out 0).trans rfl; have hf3_0 := blk_frozen BK3.out 0; have hc3_1 : w5_.cell? ⟨g3, 1, none⟩ = some (.slice gb.nA gb.nl gb.nc) := (blk_cell BK3.out 1).trans rfl; have hf3_1 := blk_frozen BK3.out 1) | (go_at_call 6; (with_reducible refine (Ca.out _ B (Aside0.mk (HG.out.kept fun k hk => HB.out.block k (by omega)))).mono ?_); rintro e w6_ ⟨rfl, hb⟩; have n0_ := Aside0.mk (below_step (by repeat (first | (with_reducible first | exact HB.out | apply below_alloc | apply pw_below_drewN | apply below_drew1 | refine below_set ?_ GE2.out | refine below_set ?_ GE3.out) | exact HB.out)) hb); have n1_ := Aside0.mk (blk_below (g := g2) (o := .cells #[.slice ga.rA ga.rl ga.rc, .slice ga.nA ga.nl ga.nc] 25 (0, 0)) (by (with_reducible repeat (first | refine blk_drewN ?_ _ | refine blk_drew ?_ | refine blk_alloc ?_ _)); exact BK2.out) hb); have n2_ := Aside0.mk (blk_below (g := g3) (o := .cells #[.slice gb.rA gb.rl gb.rc, .slice gb.nA gb.nl gb.nc] 25 (0, 0)) (by (with_reducible repeat (first | refine blk_drewN ?_ _ | refine blk_drew ?_ | refine blk_alloc ?_ _)); exact BK3.out) hb); clear HB; clear BK2; clear BK3; have HB := n0_; have BK2 := n1_; have BK3 := n2_; clear n0_ n1_ n2_; clear hb; have hc2_0 : w6_.cell? ⟨g2, 0, none⟩ = some (.slice ga.rA ga.rl ga.rc) := (blk_cell BK2.out 0).trans rfl; have hf2_0 := blk_frozen BK2.out 0; have hc2_1 : w6_.cell? ⟨g2, 1, none⟩ = some (.slice ga.nA ga.nl ga.nc) := (blk_cell BK2.out 1).trans rfl; have hf2_1 := blk_frozen BK2.out 1; have hc3_0 : w6_.cell? ⟨g3, 0, none⟩ = some (.slice gb.rA gb.rl gb.rc) := (blk_cell BK3.out 0).trans rfl; have hf3_0 := blk_frozen BK3.out 0; have hc3_1 : w6_.cell? ⟨g3, 1, none⟩ = some (.slice gb.nA gb.nl gb.nc) := (blk_cell BK3.out 1).trans rfl; have hf3_1 := blk_frozen BK3.out 1) | (go_at_call 6; (with_reducible refine (Cb.out _ B (Aside0.mk (HH.out.kept fun k hk => HB.out.block k (by omega)))).mono ?_); rintro e w7_ ⟨rfl, hb⟩; have n0_ := Aside0.mk (below_step (by repeat (first | (with_reducible first | exact HB.out | apply below_alloc | apply pw_below_drewN | apply below_drew1 | refine below_set ?_ GE2.out | refine below_set ?_ GE3.out) | exact HB.out)) hb); have n1_ := Aside0.mk (blk_below (g := g2) (o := .cells #[.slice ga.rA ga.rl ga.rc, .slice ga.nA ga.nl ga.nc] 25 (0, 0)) (by (with_reducible repeat (first | refine blk_drewN ?_ _ | refine blk_drew ?_ | refine blk_alloc ?_ _)); exact BK2.out) hb); have n2_ := Aside0.mk (blk_below (g := g3) (o := .cells #[.slice gb.rA gb.rl gb.rc, .slice gb.nA gb.nl gb.nc] 25 (0, 0)) (by (with_reducible repeat (first | refine blk_drewN ?_ _ | refine blk_drew ?_ | refine blk_alloc ?_ _)); exact BK3.out) hb); clear HB; clear BK2; clear BK3; have HB := n0_; have BK2 := n1_; have BK3 := n2_; clear n0_ n1_ n2_; clear hb; have hc2_0 : w7_.cell? ⟨g2, 0, none⟩ = some (.slice ga.rA ga.rl ga.rc) := (blk_cell BK2.out 0).trans rfl; have hf2_0 := blk_frozen BK2.out 0; have hc2_1 : w7_.cell? ⟨g2, 1, none⟩ = some (.slice ga.nA ga.nl ga.nc) := (blk_cell BK2.out 1).trans rfl; have hf2_1 := blk_frozen BK2.out 1; have hc3_0 : w7_.cell? ⟨g3, 0, none⟩ = some (.slice gb.rA gb.rl gb.rc) := (blk_cell BK3.out 0).trans rfl; have hf3_0 := blk_frozen BK3.out 0; have hc3_1 : w7_.cell? ⟨g3, 1, none⟩ = some (.slice gb.nA gb.nl gb.nc) := (blk_cell BK3.out 1).trans rfl; have hf3_1 := blk_frozen BK3.out 1))
          go_ret
          exact ⟨rfl, HB.out⟩
        | true =>
          go_upto_region 5 with (first | ((with_reducible refine gate_callee (f := 5) rfl ?_); refine goesL_ (some 8) rfl rfl Tryd.func5 (by kernel_rfl) rfl #[.agg #[.slice ga.rA ga.rl ga.rc, .slice ga.nA ga.nl ga.nc]] rfl (by (try simp only [List.map_toArray, List.map_cons, List.map_nil]); first | done | rfl | (simp only [List.length_drop, List.length_take]; rfl)) ?_; (with_reducible refine (great_no _ B (Nat.le_trans hB HB.out.size) ga (Aside0.mk (HG.out.kept fun k hk => HB.out.block k (by omega))) hna hsa).mono ?_); rintro e w4_ ⟨rfl, hb⟩; refine ⟨_, rfl, ?_⟩; have n0_ := Aside0.mk (below_step (by repeat (first | (with_reducible first | exact HB.out | apply below_alloc | apply pw_below_drewN | apply below_drew1 | refine below_set ?_ GE2.out | refine below_set ?_ GE3.out) | exact HB.out)) hb); have n1_ := Aside0.mk (blk_below (g := g2) (o := .cells #[.slice ga.rA ga.rl ga.rc, .slice ga.nA ga.nl ga.nc] 25 (0, 0)) (by (with_reducible repeat (first | refine blk_drewN ?_ _ | refine blk_drew ?_ | refine blk_alloc ?_ _)); exact BK2.out) hb); have n2_ := Aside0.mk (blk_below (g := g3) (o := .cells #[.slice gb.rA gb.rl gb.rc, .slice gb.nA gb.nl gb.nc] 25 (0, 0)) (by (with_reducible repeat (first | refine blk_drewN ?_ _ | refine blk_drew ?_ | refine blk_alloc ?_ _)); exact BK3.out) hb); clear HB; clear BK2; clear BK3; have HB := n0_; have BK2 := n1_; have BK3 := n2_; clear n0_ n1_ n2_; clear hb; have hc2_0 : w4_.cell? ⟨g2, 0, none⟩ = some (.slice ga.rA ga.rl ga.rc) := (blk_cell BK2.out 0).trans rfl; have hf2_0 := blk_frozen BK2.out 0; have hc2_1 : w4_.cell? ⟨g2, 1, none⟩ = some (.slice ga.nA ga.nl ga.nc) := (blk_cell BK2.out 1).trans rfl; have hf2_1 := blk_frozen BK2.out 1; have hc3_0 : w4_.cell? ⟨g3, 0, none⟩ = some (.slice gb.rA gb.rl gb.rc) := (blk_cell BK3.out 0).trans rfl; have hf3_0 := blk_frozen BK3.out 0; have hc3_1 : w4_.cell? ⟨g3, 1, none⟩ = some (.slice gb.nA gb.nl gb.nc) := (blk_cell BK3.out 1).trans rfl; have hf3_1 := blk_frozen BK3.out 1) | (go_at_call 5; (with_reducible refine (great_no _ B (Nat.le_trans hB HB.out.size) gb (Aside0.mk (HH.out.kept fun k hk => HB.out.block k (by omega))) hnb hsb).mono ?_); rintro e w5_ ⟨rfl, hb⟩; have n0_ := Aside0.mk (below_step (by repeat (first | (with_reducible first | exact HB.out | apply below_alloc | apply pw_below_drewN | apply below_drew1 | refine below_set ?_ GE2.out | refine below_set ?_ GE3.out) | exact HB.out)) hb); have n1_ := Aside0.mk (blk_below (g := g2) (o := .cells #[.slice ga.rA ga.rl ga.rc, .slice ga.nA ga.nl ga.nc] 25 (0, 0)) (by (with_reducible repeat (first | refine blk_drewN ?_ _ | refine blk_drew ?_ | refine blk_alloc ?_ _)); exact BK2.out) hb); have n2_ := Aside0.mk (blk_below (g := g3) (o := .cells #[.slice gb.rA gb.rl gb.rc, .slice gb.nA gb.nl gb.nc] 25 (0, 0)) (by (with_reducible repeat (first | refine blk_drewN ?_ _ | refine blk_drew ?_ | refine blk_alloc ?_ _)); exact BK3.out) hb); clear HB; clear BK2; clear BK3; have HB := n0_; have BK2 := n1_; have BK3 := n2_; clear n0_ n1_ n2_; clear hb; have hc2_0 : w5_.cell? ⟨g2, 0, none⟩ = some (.slice ga.rA ga.rl ga.rc) := (blk_cell BK2.out 0).trans rfl; have hf2_0 := blk_frozen BK2.out 0; have hc2_1 : w5_.cell? ⟨g2, 1, none⟩ = some (.slice ga.nA ga.nl ga.nc) := (blk_cell BK2.out 1).trans rfl; have hf2_1 := blk_frozen BK2.out 1; have hc3_0 : w5_.cell? ⟨g3, 0, none⟩ = some (.slice gb.rA gb.rl gb.rc) := (blk_cell BK3.out 0).trans rfl; have hf3_0 := blk_frozen BK3.out 0; have hc3_1 : w5_.cell? ⟨g3, 1, none⟩ = some (.slice gb.nA gb.nl gb.nc) := (blk_cell BK3.out 1).trans rfl; have hf3_1 := blk_frozen BK3.out 1) | (go_at_call 6; (with_reducible refine (Ca.out _ B (Aside0.mk (HG.out.kept fun k hk => HB.out.block k (by omega)))).mono ?_); rintro e w6_ ⟨rfl, hb⟩; have n0_ := Aside0.mk (below_step (by repeat (first | (with_reducible first | exact HB.out | apply below_alloc | apply pw_below_drewN | apply below_drew1 | refine below_set ?_ GE2.out | refine below_set ?_ GE3.out) | exact HB.out)) hb); have n1_ := Aside0.mk (blk_below (g := g2) (o := .cells #[.slice ga.rA ga.rl ga.rc, .slice ga.nA ga.nl ga.nc] 25 (0, 0)) (by (with_reducible repeat (first | refine blk_drewN ?_ _ | refine blk_drew ?_ | refine blk_alloc ?_ _)); exact BK2.out) hb); have n2_ := Aside0.mk (blk_below (g := g3) (o := .cells #[.slice gb.rA gb.rl gb.rc, .slice gb.nA gb.nl gb.nc] 25 (0, 0)) (by (with_reducible repeat (first | refine blk_drewN ?_ _ | refine blk_drew ?_ | refine blk_alloc ?_ _)); exact BK3.out) hb); clear HB; clear BK2; clear BK3; have HB := n0_; have BK2 := n1_; have BK3 := n2_; clear n0_ n1_ n2_; clear hb; have hc2_0 : w6_.cell? ⟨g2, 0, none⟩ = some (.slice ga.rA ga.rl ga.rc) := (blk_cell BK2.out 0).trans rfl; have hf2_0 := blk_frozen BK2.out 0; have hc2_1 : w6_.cell? ⟨g2, 1, none⟩ = some (.slice ga.nA ga.nl ga.nc) := (blk_cell BK2.out 1).trans rfl; have hf2_1 := blk_frozen BK2.out 1; have hc3_0 : w6_.cell? ⟨g3, 0, none⟩ = some (.slice gb.rA gb.rl gb.rc) := (blk_cell BK3.out 0).trans rfl; have hf3_0 := blk_frozen BK3.out 0; have hc3_1 : w6_.cell? ⟨g3, 1, none⟩ = some (.slice gb.nA gb.nl gb.nc) := (blk_cell BK3.out 1).trans rfl; have hf3_1 := blk_frozen BK3.out 1) | (go_at_call 6; (with_reducible refine (Cb.out _ B (Aside0.mk (HH.out.kept fun k hk => HB.out.block k (by omega)))).mono ?_); rintro e w7_ ⟨rfl, hb⟩; have n0_ := Aside0.mk (below_step (by repeat (first | (with_reducible first | exact HB.out | apply below_alloc | apply pw_below_drewN | apply below_drew1 | refine below_set ?_ GE2.out | refine below_set ?_ GE3.out) | exact HB.out)) hb); have n1_ := Aside0.mk (blk_below (g := g2) (o := .cells #[.slice ga.rA ga.rl ga.rc, .slice ga.nA ga.nl ga.nc] 25 (0, 0)) (by (with_reducible repeat (first | refine blk_drewN ?_ _ | refine blk_drew ?_ | refine blk_alloc ?_ _)); exact BK2.out) hb); have n2_ := Aside0.mk (blk_below (g := g3) (o := .cells #[.slice gb.rA gb.rl gb.rc, .slice gb.nA gb.nl gb.nc] 25 (0, 0)) (by (with_reducible repeat (first | refine blk_drewN ?_ _ | refine blk_drew ?_ | refine blk_alloc ?_ _)); exact BK3.out) hb); clear HB; clear BK2; clear BK3; have HB := n0_; have BK2 := n1_; have BK3 := n2_; clear n0_ n1_ n2_; clear hb; have hc2_0 : w7_.cell? ⟨g2, 0, none⟩ = some (.slice ga.rA ga.rl ga.rc) := (blk_cell BK2.out 0).trans rfl; have hf2_0 := blk_frozen BK2.out 0; have hc2_1 : w7_.cell? ⟨g2, 1, none⟩ = some (.slice ga.nA ga.nl ga.nc) := (blk_cell BK2.out 1).trans rfl; have hf2_1 := blk_frozen BK2.out 1; have hc3_0 : w7_.cell? ⟨g3, 0, none⟩ = some (.slice gb.rA gb.rl gb.rc) := (blk_cell BK3.out 0).trans rfl; have hf3_0 := blk_frozen BK3.out 0; have hc3_1 : w7_.cell? ⟨g3, 1, none⟩ = some (.slice gb.nA gb.nl gb.nc) := (blk_cell BK3.out 1).trans rfl; have hf3_1 := blk_frozen BK3.out 1))
          have HEa := Aside0.mk (fun n hn => (HX.out n hn).2.2.1 : ∀ n ∈ ga.NS, n.B = none → n.d = 0)
          have HEb := Aside0.mk (fun n hn => (HY.out n hn).2.2.1 : ∀ n ∈ gb.NS, n.B = none → n.d = 0)
          by_cases hse : shapeR ga.NS ga.R ga.rl = shapeR gb.NS gb.R gb.rl
          · have htx := shape_text (Ka.out (by first | rfl | trivial)) (Kb.out (by first | rfl | trivial)) (HG.out.whole HX.out) (HH.out.whole HY.out) HG.out.rts.1 HH.out.rts.1 hse
            obtain ⟨tx, ht⟩ : ∃ t : ByteArray, t = ⟨(graphT ga.NS ga.R).toArray⟩ := ⟨_, rfl⟩
            have CGa := Aside0.mk (show ∀ (W' : World) (hB : B ≤ W'.heap.size) (h : Aside0 (GM W' B ga)) (t : Aside0 (Tb W')), Calls Tryd.prog 8 #[.agg #[.slice ga.rA ga.rl ga.rc, .slice ga.nA ga.nl ga.nc]] W' fun e W2 => e = .returned (.string tx) ∧ Below W'.heap.size W' W2 from fun W' hB h t => by rw [ht]; exact graph_calls W' B hB ga hsa h (Aside0.mk (NX.ex HX.out)) t)
            have CGb := Aside0.mk (show ∀ (W' : World) (hB : B ≤ W'.heap.size) (h : Aside0 (GM W' B gb)) (t : Aside0 (Tb W')), Calls Tryd.prog 8 #[.agg #[.slice gb.rA gb.rl gb.rc, .slice gb.nA gb.nl gb.nc]] W' fun e W2 => e = .returned (.string tx) ∧ Below W'.heap.size W' W2 from fun W' hB h t => by rw [ht, htx]; exact graph_calls W' B hB gb hsb h (Aside0.mk (NX.ex HY.out)) t)
            have HSE := Aside0.mk hse
            clear ht htx hse
            refine start_ (n := 12) (S := fun w' => True) (ds := []) #[false, false, false, false, false, false, false, false, false, false, false, false] (by kernel_rfl) rfl rfl trivial (fun hHeld => ?_)
            refine with_tabW du5.tab5 du5.bits5 (fun HT_ HW_ => ?_)
            refine inv_at [0, 1, 2, 3, 4, 5, 6, 7, 8, 9, 10, 11] (fun a0_ b a w' => a = putSel a0_ b [(0, 23, .agg #[.slice ga.rA ga.rl ga.rc, .slice ga.nA ga.nl ga.nc]), (1, 24, .agg #[.slice gb.rA gb.rl gb.rc, .slice gb.nA gb.nl gb.nc]), (2, 25, .bool true), (3, 26, .bool false), (4, 27, .bool false), (5, 28, .agg #[.slice ga.rA ga.rl ga.rc, .slice ga.nA ga.nl ga.nc]), (6, 29, .string tx), (7, 30, .agg #[.slice gb.rA gb.rl gb.rc, .slice gb.nA gb.nl gb.nc]), (8, 31, .string tx), (9, 32, .bool true), (10, 33, .bool true), (11, 4, .bool true)] ∧ (Below W.heap.size W w') ∧ (w'.heap[g2]? = some (.cells #[.slice ga.rA ga.rl ga.rc, .slice ga.nA ga.nl ga.nc] 25 (0, 0))) ∧ (w'.heap[g3]? = some (.cells #[.slice gb.rA gb.rl gb.rc, .slice gb.nA gb.nl gb.nc] 25 (0, 0)))) HT_.out HW_.out (by kernel_rfl) (by kernel_rfl) ?_ ?_ ?_
            · exact ⟨by simp only [putSel, Bool.false_eq_true, if_false], below_drew1 HB.out, BK2.out, BK3.out⟩
            · skip
              clear BK2 BK3 HB
              refine steps_cons ?_ ?_
              · rintro b a w' ⟨ha, Q_HB, Q_BK2, Q_BK3⟩ hb_ hon hoff
                refine ⟨_, rfl, fun K hK => ?_⟩
                have e2 : a.tmps[2]? = some (.pointer (some ⟨g2, 0, none⟩)) := by rw [ha]; exact (putSel_off rfl).trans rfl
                replace ha := Aside0.mk ha
                have HB := Aside0.mk Q_HB
                have BK2 := Aside0.mk Q_BK2
                have BK3 := Aside0.mk Q_BK3
                have hl23_0 : w'.cell? ⟨g2, 0, none⟩ = some (.slice ga.rA ga.rl ga.rc) := (blk_cell BK2.out 0).trans rfl
                have hl23_1 : w'.cell? ⟨g2, 1, none⟩ = some (.slice ga.nA ga.nl ga.nc) := (blk_cell BK2.out 1).trans rfl
                refine value_ (w1 := w') (v := .agg #[.slice ga.rA ga.rl ga.rc, .slice ga.nA ga.nl ga.nc]) (by rfl) rfl ?_ ?_
                · go_simp
                  (try simp only [i64_w])
                  try rfl
                refine hK.out _ _ ⟨(by rw [ha.out]; exact putSel_upk 0 hb_ rfl rfl rfl), Q_HB, Q_BK2, Q_BK3⟩
              refine steps_cons ?_ ?_
              · rintro b a w' ⟨ha, Q_HB, Q_BK2, Q_BK3⟩ hb_ hon hoff
                refine ⟨_, rfl, fun K hK => ?_⟩
                have e3 : a.tmps[3]? = some (.pointer (some ⟨g3, 0, none⟩)) := by rw [ha]; exact (putSel_off rfl).trans rfl
                replace ha := Aside0.mk ha
                have HB := Aside0.mk Q_HB
                have BK2 := Aside0.mk Q_BK2
                have BK3 := Aside0.mk Q_BK3
                have hl24_0 : w'.cell? ⟨g3, 0, none⟩ = some (.slice gb.rA gb.rl gb.rc) := (blk_cell BK3.out 0).trans rfl
                have hl24_1 : w'.cell? ⟨g3, 1, none⟩ = some (.slice gb.nA gb.nl gb.nc) := (blk_cell BK3.out 1).trans rfl
                refine value_ (w1 := w') (v := .agg #[.slice gb.rA gb.rl gb.rc, .slice gb.nA gb.nl gb.nc]) (by rfl) rfl ?_ ?_
                · go_simp
                  (try simp only [i64_w])
                  try rfl
                refine hK.out _ _ ⟨(by rw [ha.out]; exact putSel_upk 1 hb_ rfl rfl rfl), Q_HB, Q_BK2, Q_BK3⟩
              refine steps_cons ?_ ?_
              · rintro b a w' ⟨ha, Q_HB, Q_BK2, Q_BK3⟩ hb_ hon hoff
                refine ⟨_, rfl, fun K hK => ?_⟩
                have e23 : a.tmps[23]? = some (.agg #[.slice ga.rA ga.rl ga.rc, .slice ga.nA ga.nl ga.nc]) := by rw [ha]; exact putSel_on (e := (0, 23, .agg #[.slice ga.rA ga.rl ga.rc, .slice ga.nA ga.nl ga.nc])) 0 rfl rfl (hon 0 (by kernel_rfl)) rfl
                have e24 : a.tmps[24]? = some (.agg #[.slice gb.rA gb.rl gb.rc, .slice gb.nA gb.nl gb.nc]) := by rw [ha]; exact putSel_on (e := (1, 24, .agg #[.slice gb.rA gb.rl gb.rc, .slice gb.nA gb.nl gb.nc])) 1 rfl rfl (hon 1 (by kernel_rfl)) rfl
                replace ha := Aside0.mk ha
                have HB := Aside0.mk Q_HB
                have BK2 := Aside0.mk Q_BK2
                have BK3 := Aside0.mk Q_BK3
                refine goes_ Tryd.func7 (by kernel_rfl) rfl #[.agg #[.slice ga.rA ga.rl ga.rc, .slice ga.nA ga.nl ga.nc], .agg #[.slice gb.rA gb.rl gb.rc, .slice gb.nA gb.nl gb.nc]] (by rfl) rfl rfl (by first | (simp only [List.map_toArray, List.map_cons, List.map_nil, Act.eval, Array.getD_eq_getD_getElem?, Option.getD_some, e23, e24]; done) | (simp only [List.map_toArray, List.map_cons, List.map_nil, Act.eval, Array.getD_eq_getD_getElem?, Option.getD_some, e23, e24]; rfl)) ?_
                with_reducible refine (alike_calls _ B (Nat.le_trans hB HB.out.size) ga gb hsa hsb (Aside0.mk (HG.out.kept fun k hk => HB.out.block k (by omega))) (Aside0.mk (HH.out.kept fun k hk => HB.out.block k (by omega))) HEa HEb).mono ?_
                rintro e w3 ⟨b5_, rfl, hq_, hb⟩; obtain rfl : b5_ = true := hq_.2 HSE.out
                refine ⟨_, rfl, ?_⟩
                refine hK.out _ _ ⟨(by rw [ha.out]; exact putSel_upk 2 hb_ rfl rfl rfl), (below_step HB.out hb), (blk_below BK2.out hb), (blk_below BK3.out hb)⟩
              refine steps_cons ?_ ?_
              · rintro b a w' ⟨ha, Q_HB, Q_BK2, Q_BK3⟩ hb_ hon hoff
                refine ⟨_, rfl, fun K hK => ?_⟩
                have e25 : a.tmps[25]? = some (.bool true) := by rw [ha]; exact putSel_on (e := (2, 25, .bool true)) 2 rfl rfl (hon 2 (by kernel_rfl)) rfl
                replace ha := Aside0.mk ha
                have HB := Aside0.mk Q_HB
                have BK2 := Aside0.mk Q_BK2
                have BK3 := Aside0.mk Q_BK3
                refine value_ (w1 := w') (v := .bool false) (by rfl) rfl ?_ ?_
                · go_simp
                  (try simp only [i64_w])
                  try rfl
                refine hK.out _ _ ⟨(by rw [ha.out]; exact putSel_upk 3 hb_ rfl rfl rfl), Q_HB, Q_BK2, Q_BK3⟩
              refine steps_cons ?_ ?_
              · rintro b a w' ⟨ha, Q_HB, Q_BK2, Q_BK3⟩ hb_ hon hoff
                refine ⟨_, rfl, fun K hK => ?_⟩
                have e26 : a.tmps[26]? = some (.bool false) := by rw [ha]; exact putSel_on (e := (3, 26, .bool false)) 3 rfl rfl (hon 3 (by kernel_rfl)) rfl
                replace ha := Aside0.mk ha
                have HB := Aside0.mk Q_HB
                have BK2 := Aside0.mk Q_BK2
                have BK3 := Aside0.mk Q_BK3
                refine value_ (w1 := w') (v := .bool false) (by rfl) rfl ?_ ?_
                · go_simp
                  (try simp only [i64_w])
                  try rfl
                refine hK.out _ _ ⟨(by rw [ha.out]; exact putSel_upk 4 hb_ rfl rfl rfl), Q_HB, Q_BK2, Q_BK3⟩
              refine steps_cons ?_ ?_
              · rintro b a w' ⟨ha, Q_HB, Q_BK2, Q_BK3⟩ hb_ hon hoff
                refine ⟨_, rfl, fun K hK => ?_⟩
                have e2 : a.tmps[2]? = some (.pointer (some ⟨g2, 0, none⟩)) := by rw [ha]; exact (putSel_off rfl).trans rfl
                have e27 : a.tmps[27]? = some (.bool false) := by rw [ha]; exact putSel_on (e := (4, 27, .bool false)) 4 rfl rfl (hon 4 (by kernel_rfl)) rfl
                replace ha := Aside0.mk ha
                have HB := Aside0.mk Q_HB
                have BK2 := Aside0.mk Q_BK2
                have BK3 := Aside0.mk Q_BK3
                have hl28_0 : w'.cell? ⟨g2, 0, none⟩ = some (.slice ga.rA ga.rl ga.rc) := (blk_cell BK2.out 0).trans rfl
                have hl28_1 : w'.cell? ⟨g2, 1, none⟩ = some (.slice ga.nA ga.nl ga.nc) := (blk_cell BK2.out 1).trans rfl
                refine value_ (w1 := w') (v := .agg #[.slice ga.rA ga.rl ga.rc, .slice ga.nA ga.nl ga.nc]) (wanted_on rfl rfl rfl (e27.trans (by first | rfl | (simp [*]; done)))) rfl ?_ ?_
                · go_simp
                  (try simp only [i64_w])
                  try rfl
                refine hK.out _ _ ⟨(by rw [ha.out]; exact putSel_upk 5 hb_ rfl rfl rfl), Q_HB, Q_BK2, Q_BK3⟩
              refine steps_cons ?_ ?_
              · rintro b a w' ⟨ha, Q_HB, Q_BK2, Q_BK3⟩ hb_ hon hoff
                refine ⟨_, rfl, fun K hK => ?_⟩
                have e28 : a.tmps[28]? = some (.agg #[.slice ga.rA ga.rl ga.rc, .slice ga.nA ga.nl ga.nc]) := by rw [ha]; exact putSel_on (e := (5, 28, .agg #[.slice ga.rA ga.rl ga.rc, .slice ga.nA ga.nl ga.nc])) 5 rfl rfl (hon 5 (by kernel_rfl)) rfl
                have e27 : a.tmps[27]? = some (.bool false) := by rw [ha]; exact putSel_on (e := (4, 27, .bool false)) 4 rfl rfl (hon 4 (by kernel_rfl)) rfl
                replace ha := Aside0.mk ha
                have HB := Aside0.mk Q_HB
                have BK2 := Aside0.mk Q_BK2
                have BK3 := Aside0.mk Q_BK3
                refine goes_ Tryd.func8 (by kernel_rfl) rfl #[.agg #[.slice ga.rA ga.rl ga.rc, .slice ga.nA ga.nl ga.nc]] (wanted_on rfl rfl rfl (e27.trans (by first | rfl | (simp [*]; done)))) rfl rfl (by first | (simp only [List.map_toArray, List.map_cons, List.map_nil, Act.eval, Array.getD_eq_getD_getElem?, Option.getD_some, e28, e27]; done) | (simp only [List.map_toArray, List.map_cons, List.map_nil, Act.eval, Array.getD_eq_getD_getElem?, Option.getD_some, e28, e27]; rfl)) ?_
                with_reducible refine (CGa.out _ (Nat.le_trans hB HB.out.size) (Aside0.mk (HG.out.kept fun k hk => HB.out.block k (by omega))) (Aside0.mk (HT.out.to HB.out))).mono ?_
                rintro e w3 ⟨rfl, hb⟩
                refine ⟨_, rfl, ?_⟩
                refine hK.out _ _ ⟨(by rw [ha.out]; exact putSel_upk 6 hb_ rfl rfl rfl), (below_step HB.out hb), (blk_below BK2.out hb), (blk_below BK3.out hb)⟩
              refine steps_cons ?_ ?_
              · rintro b a w' ⟨ha, Q_HB, Q_BK2, Q_BK3⟩ hb_ hon hoff
                refine ⟨_, rfl, fun K hK => ?_⟩
                have e3 : a.tmps[3]? = some (.pointer (some ⟨g3, 0, none⟩)) := by rw [ha]; exact (putSel_off rfl).trans rfl
                have e27 : a.tmps[27]? = some (.bool false) := by rw [ha]; exact putSel_on (e := (4, 27, .bool false)) 4 rfl rfl (hon 4 (by kernel_rfl)) rfl
                replace ha := Aside0.mk ha
                have HB := Aside0.mk Q_HB
                have BK2 := Aside0.mk Q_BK2
                have BK3 := Aside0.mk Q_BK3
                have hl30_0 : w'.cell? ⟨g3, 0, none⟩ = some (.slice gb.rA gb.rl gb.rc) := (blk_cell BK3.out 0).trans rfl
                have hl30_1 : w'.cell? ⟨g3, 1, none⟩ = some (.slice gb.nA gb.nl gb.nc) := (blk_cell BK3.out 1).trans rfl
                refine value_ (w1 := w') (v := .agg #[.slice gb.rA gb.rl gb.rc, .slice gb.nA gb.nl gb.nc]) (wanted_on rfl rfl rfl (e27.trans (by first | rfl | (simp [*]; done)))) rfl ?_ ?_
                · go_simp
                  (try simp only [i64_w])
                  try rfl
                refine hK.out _ _ ⟨(by rw [ha.out]; exact putSel_upk 7 hb_ rfl rfl rfl), Q_HB, Q_BK2, Q_BK3⟩
              refine steps_cons ?_ ?_
              · rintro b a w' ⟨ha, Q_HB, Q_BK2, Q_BK3⟩ hb_ hon hoff
                refine ⟨_, rfl, fun K hK => ?_⟩
                have e30 : a.tmps[30]? = some (.agg #[.slice gb.rA gb.rl gb.rc, .slice gb.nA gb.nl gb.nc]) := by rw [ha]; exact putSel_on (e := (7, 30, .agg #[.slice gb.rA gb.rl gb.rc, .slice gb.nA gb.nl gb.nc])) 7 rfl rfl (hon 7 (by kernel_rfl)) rfl
                have e27 : a.tmps[27]? = some (.bool false) := by rw [ha]; exact putSel_on (e := (4, 27, .bool false)) 4 rfl rfl (hon 4 (by kernel_rfl)) rfl
                replace ha := Aside0.mk ha
                have HB := Aside0.mk Q_HB
                have BK2 := Aside0.mk Q_BK2
                have BK3 := Aside0.mk Q_BK3
                refine goes_ Tryd.func8 (by kernel_rfl) rfl #[.agg #[.slice gb.rA gb.rl gb.rc, .slice gb.nA gb.nl gb.nc]] (wanted_on rfl rfl rfl (e27.trans (by first | rfl | (simp [*]; done)))) rfl rfl (by first | (simp only [List.map_toArray, List.map_cons, List.map_nil, Act.eval, Array.getD_eq_getD_getElem?, Option.getD_some, e30, e27]; done) | (simp only [List.map_toArray, List.map_cons, List.map_nil, Act.eval, Array.getD_eq_getD_getElem?, Option.getD_some, e30, e27]; rfl)) ?_
                with_reducible refine (CGb.out _ (Nat.le_trans hB HB.out.size) (Aside0.mk (HH.out.kept fun k hk => HB.out.block k (by omega))) (Aside0.mk (HT.out.to HB.out))).mono ?_
                rintro e w3 ⟨rfl, hb⟩
                refine ⟨_, rfl, ?_⟩
                refine hK.out _ _ ⟨(by rw [ha.out]; exact putSel_upk 8 hb_ rfl rfl rfl), (below_step HB.out hb), (blk_below BK2.out hb), (blk_below BK3.out hb)⟩
              refine steps_cons ?_ ?_
              · rintro b a w' ⟨ha, Q_HB, Q_BK2, Q_BK3⟩ hb_ hon hoff
                refine ⟨_, rfl, fun K hK => ?_⟩
                have e29 : a.tmps[29]? = some (.string tx) := by rw [ha]; exact putSel_on (e := (6, 29, .string tx)) 6 rfl rfl (hon 6 (by kernel_rfl)) rfl
                have e31 : a.tmps[31]? = some (.string tx) := by rw [ha]; exact putSel_on (e := (8, 31, .string tx)) 8 rfl rfl (hon 8 (by kernel_rfl)) rfl
                have e27 : a.tmps[27]? = some (.bool false) := by rw [ha]; exact putSel_on (e := (4, 27, .bool false)) 4 rfl rfl (hon 4 (by kernel_rfl)) rfl
                replace ha := Aside0.mk ha
                have HB := Aside0.mk Q_HB
                have BK2 := Aside0.mk Q_BK2
                have BK3 := Aside0.mk Q_BK3
                refine value_ (w1 := w') (v := .bool true) (wanted_on rfl rfl rfl (e27.trans (by first | rfl | (simp [*]; done)))) rfl ?_ ?_
                · go_simp
                  (try simp only [i64_w])
                  try rfl
                refine hK.out _ _ ⟨(by rw [ha.out]; exact putSel_upk 9 hb_ rfl rfl rfl), Q_HB, Q_BK2, Q_BK3⟩
              refine steps_cons ?_ ?_
              · rintro b a w' ⟨ha, Q_HB, Q_BK2, Q_BK3⟩ hb_ hon hoff
                refine ⟨_, rfl, fun K hK => ?_⟩
                have e27 : a.tmps[27]? = some (.bool false) := by rw [ha]; exact putSel_on (e := (4, 27, .bool false)) 4 rfl rfl (hon 4 (by kernel_rfl)) rfl
                have e32 : a.tmps[32]? = some (.bool true) := by rw [ha]; exact putSel_on (e := (9, 32, .bool true)) 9 rfl rfl (hon 9 (by kernel_rfl)) rfl
                replace ha := Aside0.mk ha
                have HB := Aside0.mk Q_HB
                have BK2 := Aside0.mk Q_BK2
                have BK3 := Aside0.mk Q_BK3
                refine value_ (w1 := w') (v := .bool true) (by rfl) rfl ?_ ?_
                · go_simp
                  (try simp only [i64_w])
                  try rfl
                refine hK.out _ _ ⟨(by rw [ha.out]; exact putSel_upk 10 hb_ rfl rfl rfl), Q_HB, Q_BK2, Q_BK3⟩
              refine steps_cons ?_ ?_
              · rintro b a w' ⟨ha, Q_HB, Q_BK2, Q_BK3⟩ hb_ hon hoff
                refine ⟨_, rfl, fun K hK => ?_⟩
                have e33 : a.tmps[33]? = some (.bool true) := by rw [ha]; exact putSel_on (e := (10, 33, .bool true)) 10 rfl rfl (hon 10 (by kernel_rfl)) rfl
                replace ha := Aside0.mk ha
                have HB := Aside0.mk Q_HB
                have BK2 := Aside0.mk Q_BK2
                have BK3 := Aside0.mk Q_BK3
                refine value_ (w1 := w') (v := .bool true) (by rfl) rfl ?_ ?_
                · go_simp
                  (try simp only [i64_w])
                  try rfl
                refine hK.out _ _ ⟨(by rw [ha.out]; exact putSel_upk 11 hb_ rfl rfl rfl), Q_HB, Q_BK2, Q_BK3⟩
              exact steps_nil
            rintro b a wx hall ⟨ha, Q_HB, Q_BK2, Q_BK3⟩
            clear BK2 BK3 HB
            have hb0_ := hall 0 (by kernel_rfl)
            have hb1_ := hall 1 (by kernel_rfl)
            have hb2_ := hall 2 (by kernel_rfl)
            have hb3_ := hall 3 (by kernel_rfl)
            have hb4_ := hall 4 (by kernel_rfl)
            have hb5_ := hall 5 (by kernel_rfl)
            have hb6_ := hall 6 (by kernel_rfl)
            have hb7_ := hall 7 (by kernel_rfl)
            have hb8_ := hall 8 (by kernel_rfl)
            have hb9_ := hall 9 (by kernel_rfl)
            have hb10_ := hall 10 (by kernel_rfl)
            have hb11_ := hall 11 (by kernel_rfl)
            subst ha
            simp only [putSel, hb0_, hb1_, hb2_, hb3_, hb4_, hb5_, hb6_, hb7_, hb8_, hb9_, hb10_, hb11_, if_true, Act.put, List.setIfInBounds_toArray, List.set_cons_zero, List.set_cons_succ]
            have HB := Aside0.mk Q_HB
            clear Q_HB
            have BK2 := Aside0.mk Q_BK2
            clear Q_BK2
            have BK3 := Aside0.mk Q_BK3
            clear Q_BK3
            clear hall hb0_ hb1_ hb2_ hb3_ hb4_ hb5_ hb6_ hb7_ hb8_ hb9_ hb10_ hb11_
            go_wp2
            go_ret
            exact ⟨rfl, HB.out⟩
          · have HSE := Aside0.mk hse
            clear hse
            refine start_ (n := 12) (S := fun w' => True) (ds := []) #[false, false, false, false, false, false, false, false, false, false, false, false] (by kernel_rfl) rfl rfl trivial (fun hHeld => ?_)
            refine with_tabW du5.tab5 du5.bits5 (fun HT_ HW_ => ?_)
            refine inv_at [0, 1, 2, 3, 4, 5, 6, 7, 8, 9, 10, 11] (fun a0_ b a w' => a = putSel a0_ b [(0, 23, .agg #[.slice ga.rA ga.rl ga.rc, .slice ga.nA ga.nl ga.nc]), (1, 24, .agg #[.slice gb.rA gb.rl gb.rc, .slice gb.nA gb.nl gb.nc]), (2, 25, .bool false), (3, 26, .bool true), (4, 27, .bool true), (5, 28, undef), (6, 29, undef), (7, 30, undef), (8, 31, undef), (9, 32, undef), (10, 33, .bool true), (11, 4, .bool true)] ∧ (Below W.heap.size W w') ∧ (w'.heap[g2]? = some (.cells #[.slice ga.rA ga.rl ga.rc, .slice ga.nA ga.nl ga.nc] 25 (0, 0))) ∧ (w'.heap[g3]? = some (.cells #[.slice gb.rA gb.rl gb.rc, .slice gb.nA gb.nl gb.nc] 25 (0, 0)))) HT_.out HW_.out (by kernel_rfl) (by kernel_rfl) ?_ ?_ ?_
            · exact ⟨by simp only [putSel, Bool.false_eq_true, if_false], below_drew1 HB.out, BK2.out, BK3.out⟩
            · skip
              clear BK2 BK3 HB
              refine steps_cons ?_ ?_
              · rintro b a w' ⟨ha, Q_HB, Q_BK2, Q_BK3⟩ hb_ hon hoff
                refine ⟨_, rfl, fun K hK => ?_⟩
                have e2 : a.tmps[2]? = some (.pointer (some ⟨g2, 0, none⟩)) := by rw [ha]; exact (putSel_off rfl).trans rfl
                replace ha := Aside0.mk ha
                have HB := Aside0.mk Q_HB
                have BK2 := Aside0.mk Q_BK2
                have BK3 := Aside0.mk Q_BK3
                have hl23_0 : w'.cell? ⟨g2, 0, none⟩ = some (.slice ga.rA ga.rl ga.rc) := (blk_cell BK2.out 0).trans rfl
                have hl23_1 : w'.cell? ⟨g2, 1, none⟩ = some (.slice ga.nA ga.nl ga.nc) := (blk_cell BK2.out 1).trans rfl
                refine value_ (w1 := w') (v := .agg #[.slice ga.rA ga.rl ga.rc, .slice ga.nA ga.nl ga.nc]) (by rfl) rfl ?_ ?_
                · go_simp
                  (try simp only [i64_w])
                  try rfl
                refine hK.out _ _ ⟨(by rw [ha.out]; exact putSel_upk 0 hb_ rfl rfl rfl), Q_HB, Q_BK2, Q_BK3⟩
              refine steps_cons ?_ ?_
              · rintro b a w' ⟨ha, Q_HB, Q_BK2, Q_BK3⟩ hb_ hon hoff
                refine ⟨_, rfl, fun K hK => ?_⟩
                have e3 : a.tmps[3]? = some (.pointer (some ⟨g3, 0, none⟩)) := by rw [ha]; exact (putSel_off rfl).trans rfl
                replace ha := Aside0.mk ha
                have HB := Aside0.mk Q_HB
                have BK2 := Aside0.mk Q_BK2
                have BK3 := Aside0.mk Q_BK3
                have hl24_0 : w'.cell? ⟨g3, 0, none⟩ = some (.slice gb.rA gb.rl gb.rc) := (blk_cell BK3.out 0).trans rfl
                have hl24_1 : w'.cell? ⟨g3, 1, none⟩ = some (.slice gb.nA gb.nl gb.nc) := (blk_cell BK3.out 1).trans rfl
                refine value_ (w1 := w') (v := .agg #[.slice gb.rA gb.rl gb.rc, .slice gb.nA gb.nl gb.nc]) (by rfl) rfl ?_ ?_
                · go_simp
                  (try simp only [i64_w])
                  try rfl
                refine hK.out _ _ ⟨(by rw [ha.out]; exact putSel_upk 1 hb_ rfl rfl rfl), Q_HB, Q_BK2, Q_BK3⟩
              refine steps_cons ?_ ?_
              · rintro b a w' ⟨ha, Q_HB, Q_BK2, Q_BK3⟩ hb_ hon hoff
                refine ⟨_, rfl, fun K hK => ?_⟩
                have e23 : a.tmps[23]? = some (.agg #[.slice ga.rA ga.rl ga.rc, .slice ga.nA ga.nl ga.nc]) := by rw [ha]; exact putSel_on (e := (0, 23, .agg #[.slice ga.rA ga.rl ga.rc, .slice ga.nA ga.nl ga.nc])) 0 rfl rfl (hon 0 (by kernel_rfl)) rfl
                have e24 : a.tmps[24]? = some (.agg #[.slice gb.rA gb.rl gb.rc, .slice gb.nA gb.nl gb.nc]) := by rw [ha]; exact putSel_on (e := (1, 24, .agg #[.slice gb.rA gb.rl gb.rc, .slice gb.nA gb.nl gb.nc])) 1 rfl rfl (hon 1 (by kernel_rfl)) rfl
                replace ha := Aside0.mk ha
                have HB := Aside0.mk Q_HB
                have BK2 := Aside0.mk Q_BK2
                have BK3 := Aside0.mk Q_BK3
                refine goes_ Tryd.func7 (by kernel_rfl) rfl #[.agg #[.slice ga.rA ga.rl ga.rc, .slice ga.nA ga.nl ga.nc], .agg #[.slice gb.rA gb.rl gb.rc, .slice gb.nA gb.nl gb.nc]] (by rfl) rfl rfl (by first | (simp only [List.map_toArray, List.map_cons, List.map_nil, Act.eval, Array.getD_eq_getD_getElem?, Option.getD_some, e23, e24]; done) | (simp only [List.map_toArray, List.map_cons, List.map_nil, Act.eval, Array.getD_eq_getD_getElem?, Option.getD_some, e23, e24]; rfl)) ?_
                with_reducible refine (alike_calls _ B (Nat.le_trans hB HB.out.size) ga gb hsa hsb (Aside0.mk (HG.out.kept fun k hk => HB.out.block k (by omega))) (Aside0.mk (HH.out.kept fun k hk => HB.out.block k (by omega))) HEa HEb).mono ?_
                rintro e w3 ⟨b5_, rfl, hq_, hb⟩; obtain rfl : b5_ = false := (by cases b5_ with | false => rfl | true => exact absurd (hq_.1 rfl) HSE.out)
                refine ⟨_, rfl, ?_⟩
                refine hK.out _ _ ⟨(by rw [ha.out]; exact putSel_upk 2 hb_ rfl rfl rfl), (below_step HB.out hb), (blk_below BK2.out hb), (blk_below BK3.out hb)⟩
              refine steps_cons ?_ ?_
              · rintro b a w' ⟨ha, Q_HB, Q_BK2, Q_BK3⟩ hb_ hon hoff
                refine ⟨_, rfl, fun K hK => ?_⟩
                have e25 : a.tmps[25]? = some (.bool false) := by rw [ha]; exact putSel_on (e := (2, 25, .bool false)) 2 rfl rfl (hon 2 (by kernel_rfl)) rfl
                replace ha := Aside0.mk ha
                have HB := Aside0.mk Q_HB
                have BK2 := Aside0.mk Q_BK2
                have BK3 := Aside0.mk Q_BK3
                refine value_ (w1 := w') (v := .bool true) (by rfl) rfl ?_ ?_
                · go_simp
                  (try simp only [i64_w])
                  try rfl
                refine hK.out _ _ ⟨(by rw [ha.out]; exact putSel_upk 3 hb_ rfl rfl rfl), Q_HB, Q_BK2, Q_BK3⟩
              refine steps_cons ?_ ?_
              · rintro b a w' ⟨ha, Q_HB, Q_BK2, Q_BK3⟩ hb_ hon hoff
                refine ⟨_, rfl, fun K hK => ?_⟩
                have e26 : a.tmps[26]? = some (.bool true) := by rw [ha]; exact putSel_on (e := (3, 26, .bool true)) 3 rfl rfl (hon 3 (by kernel_rfl)) rfl
                replace ha := Aside0.mk ha
                have HB := Aside0.mk Q_HB
                have BK2 := Aside0.mk Q_BK2
                have BK3 := Aside0.mk Q_BK3
                refine value_ (w1 := w') (v := .bool true) (by rfl) rfl ?_ ?_
                · go_simp
                  (try simp only [i64_w])
                  try rfl
                refine hK.out _ _ ⟨(by rw [ha.out]; exact putSel_upk 4 hb_ rfl rfl rfl), Q_HB, Q_BK2, Q_BK3⟩
              refine steps_cons ?_ ?_
              · rintro b a w' ⟨ha, Q_HB, Q_BK2, Q_BK3⟩ hb_ hon hoff
                refine ⟨_, rfl, fun K hK => ?_⟩
                have e27 : a.tmps[27]? = some (.bool true) := by rw [ha]; exact putSel_on (e := (4, 27, .bool true)) 4 rfl rfl (hon 4 (by kernel_rfl)) rfl
                replace ha := Aside0.mk ha
                have HB := Aside0.mk Q_HB
                have BK2 := Aside0.mk Q_BK2
                have BK3 := Aside0.mk Q_BK3
                refine off_ (wanted_off rfl rfl rfl (e27.trans (by first | rfl | (simp [*]; done)))) ?_
                refine hK.out _ _ ⟨(by rw [ha.out]; exact putSel_upk 5 hb_ rfl rfl rfl), Q_HB, Q_BK2, Q_BK3⟩
              refine steps_cons ?_ ?_
              · rintro b a w' ⟨ha, Q_HB, Q_BK2, Q_BK3⟩ hb_ hon hoff
                refine ⟨_, rfl, fun K hK => ?_⟩
                have e27 : a.tmps[27]? = some (.bool true) := by rw [ha]; exact putSel_on (e := (4, 27, .bool true)) 4 rfl rfl (hon 4 (by kernel_rfl)) rfl
                replace ha := Aside0.mk ha
                have HB := Aside0.mk Q_HB
                have BK2 := Aside0.mk Q_BK2
                have BK3 := Aside0.mk Q_BK3
                refine off_ (wanted_off rfl rfl rfl (e27.trans (by first | rfl | (simp [*]; done)))) ?_
                refine hK.out _ _ ⟨(by rw [ha.out]; exact putSel_upk 6 hb_ rfl rfl rfl), Q_HB, Q_BK2, Q_BK3⟩
              refine steps_cons ?_ ?_
              · rintro b a w' ⟨ha, Q_HB, Q_BK2, Q_BK3⟩ hb_ hon hoff
                refine ⟨_, rfl, fun K hK => ?_⟩
                have e27 : a.tmps[27]? = some (.bool true) := by rw [ha]; exact putSel_on (e := (4, 27, .bool true)) 4 rfl rfl (hon 4 (by kernel_rfl)) rfl
                replace ha := Aside0.mk ha
                have HB := Aside0.mk Q_HB
                have BK2 := Aside0.mk Q_BK2
                have BK3 := Aside0.mk Q_BK3
                refine off_ (wanted_off rfl rfl rfl (e27.trans (by first | rfl | (simp [*]; done)))) ?_
                refine hK.out _ _ ⟨(by rw [ha.out]; exact putSel_upk 7 hb_ rfl rfl rfl), Q_HB, Q_BK2, Q_BK3⟩
              refine steps_cons ?_ ?_
              · rintro b a w' ⟨ha, Q_HB, Q_BK2, Q_BK3⟩ hb_ hon hoff
                refine ⟨_, rfl, fun K hK => ?_⟩
                have e27 : a.tmps[27]? = some (.bool true) := by rw [ha]; exact putSel_on (e := (4, 27, .bool true)) 4 rfl rfl (hon 4 (by kernel_rfl)) rfl
                replace ha := Aside0.mk ha
                have HB := Aside0.mk Q_HB
                have BK2 := Aside0.mk Q_BK2
                have BK3 := Aside0.mk Q_BK3
                refine off_ (wanted_off rfl rfl rfl (e27.trans (by first | rfl | (simp [*]; done)))) ?_
                refine hK.out _ _ ⟨(by rw [ha.out]; exact putSel_upk 8 hb_ rfl rfl rfl), Q_HB, Q_BK2, Q_BK3⟩
              refine steps_cons ?_ ?_
              · rintro b a w' ⟨ha, Q_HB, Q_BK2, Q_BK3⟩ hb_ hon hoff
                refine ⟨_, rfl, fun K hK => ?_⟩
                have e27 : a.tmps[27]? = some (.bool true) := by rw [ha]; exact putSel_on (e := (4, 27, .bool true)) 4 rfl rfl (hon 4 (by kernel_rfl)) rfl
                replace ha := Aside0.mk ha
                have HB := Aside0.mk Q_HB
                have BK2 := Aside0.mk Q_BK2
                have BK3 := Aside0.mk Q_BK3
                refine off_ (wanted_off rfl rfl rfl (e27.trans (by first | rfl | (simp [*]; done)))) ?_
                refine hK.out _ _ ⟨(by rw [ha.out]; exact putSel_upk 9 hb_ rfl rfl rfl), Q_HB, Q_BK2, Q_BK3⟩
              refine steps_cons ?_ ?_
              · rintro b a w' ⟨ha, Q_HB, Q_BK2, Q_BK3⟩ hb_ hon hoff
                refine ⟨_, rfl, fun K hK => ?_⟩
                have e27 : a.tmps[27]? = some (.bool true) := by rw [ha]; exact putSel_on (e := (4, 27, .bool true)) 4 rfl rfl (hon 4 (by kernel_rfl)) rfl
                have e32 : a.tmps[32]? = some (undef) := by rw [ha]; exact putSel_on (e := (9, 32, undef)) 9 rfl rfl (hon 9 (by kernel_rfl)) rfl
                replace ha := Aside0.mk ha
                have HB := Aside0.mk Q_HB
                have BK2 := Aside0.mk Q_BK2
                have BK3 := Aside0.mk Q_BK3
                refine value_ (w1 := w') (v := .bool true) (by rfl) rfl ?_ ?_
                · go_simp
                  (try simp only [i64_w])
                  try rfl
                refine hK.out _ _ ⟨(by rw [ha.out]; exact putSel_upk 10 hb_ rfl rfl rfl), Q_HB, Q_BK2, Q_BK3⟩
              refine steps_cons ?_ ?_
              · rintro b a w' ⟨ha, Q_HB, Q_BK2, Q_BK3⟩ hb_ hon hoff
                refine ⟨_, rfl, fun K hK => ?_⟩
                have e33 : a.tmps[33]? = some (.bool true) := by rw [ha]; exact putSel_on (e := (10, 33, .bool true)) 10 rfl rfl (hon 10 (by kernel_rfl)) rfl
                replace ha := Aside0.mk ha
                have HB := Aside0.mk Q_HB
                have BK2 := Aside0.mk Q_BK2
                have BK3 := Aside0.mk Q_BK3
                refine value_ (w1 := w') (v := .bool true) (by rfl) rfl ?_ ?_
                · go_simp
                  (try simp only [i64_w])
                  try rfl
                refine hK.out _ _ ⟨(by rw [ha.out]; exact putSel_upk 11 hb_ rfl rfl rfl), Q_HB, Q_BK2, Q_BK3⟩
              exact steps_nil
            rintro b a wx hall ⟨ha, Q_HB, Q_BK2, Q_BK3⟩
            clear BK2 BK3 HB
            have hb0_ := hall 0 (by kernel_rfl)
            have hb1_ := hall 1 (by kernel_rfl)
            have hb2_ := hall 2 (by kernel_rfl)
            have hb3_ := hall 3 (by kernel_rfl)
            have hb4_ := hall 4 (by kernel_rfl)
            have hb5_ := hall 5 (by kernel_rfl)
            have hb6_ := hall 6 (by kernel_rfl)
            have hb7_ := hall 7 (by kernel_rfl)
            have hb8_ := hall 8 (by kernel_rfl)
            have hb9_ := hall 9 (by kernel_rfl)
            have hb10_ := hall 10 (by kernel_rfl)
            have hb11_ := hall 11 (by kernel_rfl)
            subst ha
            simp only [putSel, hb0_, hb1_, hb2_, hb3_, hb4_, hb5_, hb6_, hb7_, hb8_, hb9_, hb10_, hb11_, if_true, Act.put, List.setIfInBounds_toArray, List.set_cons_zero, List.set_cons_succ]
            have HB := Aside0.mk Q_HB
            clear Q_HB
            have BK2 := Aside0.mk Q_BK2
            clear Q_BK2
            have BK3 := Aside0.mk Q_BK3
            clear Q_BK3
            clear hall hb0_ hb1_ hb2_ hb3_ hb4_ hb5_ hb6_ hb7_ hb8_ hb9_ hb10_ hb11_
            go_wp2
            go_ret
            exact ⟨rfl, HB.out⟩
    · go_wp2_with (first | ((with_reducible refine gate_callee (f := 5) rfl ?_); refine goesL_ (some 8) rfl rfl Tryd.func5 (by kernel_rfl) rfl #[.agg #[.slice ga.rA ga.rl ga.rc, .slice ga.nA ga.nl ga.nc]] rfl (by (try simp only [List.map_toArray, List.map_cons, List.map_nil]); first | done | rfl | (simp only [List.length_drop, List.length_take]; rfl)) ?_; (with_reducible refine (great_no _ B (Nat.le_trans hB HB.out.size) ga (Aside0.mk (HG.out.kept fun k hk => HB.out.block k (by omega))) hna hsa).mono ?_); rintro e w4_ ⟨rfl, hb⟩; refine ⟨_, rfl, ?_⟩; have n0_ := Aside0.mk (below_step (by repeat (first | (with_reducible first | exact HB.out | apply below_alloc | apply pw_below_drewN | apply below_drew1 | refine below_set ?_ GE2.out | refine below_set ?_ GE3.out) | exact HB.out)) hb); have n1_ := Aside0.mk (blk_below (g := g2) (o := .cells #[.slice ga.rA ga.rl ga.rc, .slice ga.nA ga.nl ga.nc] 25 (0, 0)) (by (with_reducible repeat (first | refine blk_drewN ?_ _ | refine blk_drew ?_ | refine blk_alloc ?_ _)); exact BK2.out) hb); have n2_ := Aside0.mk (blk_below (g := g3) (o := .cells #[.slice gb.rA gb.rl gb.rc, .slice gb.nA gb.nl gb.nc] 25 (0, 0)) (by (with_reducible repeat (first | refine blk_drewN ?_ _ | refine blk_drew ?_ | refine blk_alloc ?_ _)); exact BK3.out) hb); clear HB; clear BK2; clear BK3; have HB := n0_; have BK2 := n1_; have BK3 := n2_; clear n0_ n1_ n2_; clear hb; have hc2_0 : w4_.cell? ⟨g2, 0, none⟩ = some (.slice ga.rA ga.rl ga.rc) := (blk_cell BK2.out 0).trans rfl; have hf2_0 := blk_frozen BK2.out 0; have hc2_1 : w4_.cell? ⟨g2, 1, none⟩ = some (.slice ga.nA ga.nl ga.nc) := (blk_cell BK2.out 1).trans rfl; have hf2_1 := blk_frozen BK2.out 1; have hc3_0 : w4_.cell? ⟨g3, 0, none⟩ = some (.slice gb.rA gb.rl gb.rc) := (blk_cell BK3.out 0).trans rfl; have hf3_0 := blk_frozen BK3.out 0; have hc3_1 : w4_.cell? ⟨g3, 1, none⟩ = some (.slice gb.nA gb.nl gb.nc) := (blk_cell BK3.out 1).trans rfl; have hf3_1 := blk_frozen BK3.out 1) | (go_at_call 5; (with_reducible refine (great_yes _ B (Nat.le_trans hB HB.out.size) gb (Aside0.mk (HH.out.kept fun k hk => HB.out.block k (by omega))) hnb hsb).mono ?_); rintro e w5_ ⟨rfl, hb⟩; have n0_ := Aside0.mk (below_step (by repeat (first | (with_reducible first | exact HB.out | apply below_alloc | apply pw_below_drewN | apply below_drew1 | refine below_set ?_ GE2.out | refine below_set ?_ GE3.out) | exact HB.out)) hb); have n1_ := Aside0.mk (blk_below (g := g2) (o := .cells #[.slice ga.rA ga.rl ga.rc, .slice ga.nA ga.nl ga.nc] 25 (0, 0)) (by (with_reducible repeat (first | refine blk_drewN ?_ _ | refine blk_drew ?_ | refine blk_alloc ?_ _)); exact BK2.out) hb); have n2_ := Aside0.mk (blk_below (g := g3) (o := .cells #[.slice gb.rA gb.rl gb.rc, .slice gb.nA gb.nl gb.nc] 25 (0, 0)) (by (with_reducible repeat (first | refine blk_drewN ?_ _ | refine blk_drew ?_ | refine blk_alloc ?_ _)); exact BK3.out) hb); clear HB; clear BK2; clear BK3; have HB := n0_; have BK2 := n1_; have BK3 := n2_; clear n0_ n1_ n2_; clear hb; have hc2_0 : w5_.cell? ⟨g2, 0, none⟩ = some (.slice ga.rA ga.rl ga.rc) := (blk_cell BK2.out 0).trans rfl; have hf2_0 := blk_frozen BK2.out 0; have hc2_1 : w5_.cell? ⟨g2, 1, none⟩ = some (.slice ga.nA ga.nl ga.nc) := (blk_cell BK2.out 1).trans rfl; have hf2_1 := blk_frozen BK2.out 1; have hc3_0 : w5_.cell? ⟨g3, 0, none⟩ = some (.slice gb.rA gb.rl gb.rc) := (blk_cell BK3.out 0).trans rfl; have hf3_0 := blk_frozen BK3.out 0; have hc3_1 : w5_.cell? ⟨g3, 1, none⟩ = some (.slice gb.nA gb.nl gb.nc) := (blk_cell BK3.out 1).trans rfl; have hf3_1 := blk_frozen BK3.out 1))
      go_ret
      exact ⟨rfl, HB.out⟩
  · go_wp2_with ((with_reducible refine gate_callee (f := 5) rfl ?_); refine goesL_ (some 8) rfl rfl Tryd.func5 (by kernel_rfl) rfl #[.agg #[.slice ga.rA ga.rl ga.rc, .slice ga.nA ga.nl ga.nc]] rfl (by (try simp only [List.map_toArray, List.map_cons, List.map_nil]); first | done | rfl | (simp only [List.length_drop, List.length_take]; rfl)) ?_; (with_reducible refine (great_yes _ B (Nat.le_trans hB HB.out.size) ga (Aside0.mk (HG.out.kept fun k hk => HB.out.block k (by omega))) hna hsa).mono ?_); rintro e w4_ ⟨rfl, hb⟩; refine ⟨_, rfl, ?_⟩; have n0_ := Aside0.mk (below_step (by repeat (first | (with_reducible first | exact HB.out | apply below_alloc | apply pw_below_drewN | apply below_drew1 | refine below_set ?_ GE2.out | refine below_set ?_ GE3.out) | exact HB.out)) hb); have n1_ := Aside0.mk (blk_below (g := g2) (o := .cells #[.slice ga.rA ga.rl ga.rc, .slice ga.nA ga.nl ga.nc] 25 (0, 0)) (by (with_reducible repeat (first | refine blk_drewN ?_ _ | refine blk_drew ?_ | refine blk_alloc ?_ _)); exact BK2.out) hb); have n2_ := Aside0.mk (blk_below (g := g3) (o := .cells #[.slice gb.rA gb.rl gb.rc, .slice gb.nA gb.nl gb.nc] 25 (0, 0)) (by (with_reducible repeat (first | refine blk_drewN ?_ _ | refine blk_drew ?_ | refine blk_alloc ?_ _)); exact BK3.out) hb); clear HB; clear BK2; clear BK3; have HB := n0_; have BK2 := n1_; have BK3 := n2_; clear n0_ n1_ n2_; clear hb; have hc2_0 : w4_.cell? ⟨g2, 0, none⟩ = some (.slice ga.rA ga.rl ga.rc) := (blk_cell BK2.out 0).trans rfl; have hf2_0 := blk_frozen BK2.out 0; have hc2_1 : w4_.cell? ⟨g2, 1, none⟩ = some (.slice ga.nA ga.nl ga.nc) := (blk_cell BK2.out 1).trans rfl; have hf2_1 := blk_frozen BK2.out 1; have hc3_0 : w4_.cell? ⟨g3, 0, none⟩ = some (.slice gb.rA gb.rl gb.rc) := (blk_cell BK3.out 0).trans rfl; have hf3_0 := blk_frozen BK3.out 0; have hc3_1 : w4_.cell? ⟨g3, 1, none⟩ = some (.slice gb.nA gb.nl gb.nc) := (blk_cell BK3.out 1).trans rfl; have hf3_1 := blk_frozen BK3.out 1)
    go_ret
    exact ⟨rfl, HB.out⟩
end Go.Proofs.YtacjlkjdmhlbaaaDoor.Gr
/- DumpAlike: a graph, read out of the arguments, with all it says. No condition beyond the reading. -/
namespace Go.Proofs.YtacjlkjdmhlbaaaDoor.Gr
open Go.ChangeShapes Go.WideShapes Go.ChangeAt Go.RowKit Go.Deep Go.Joins
set_option linter.unusedSimpArgs false
set_option linter.unusedVariables false
set_option maxRecDepth 100000
theorem open_ilX {H : Type} {enc : TypeId × Value → H} {P : Program} {w : World} {t e : TypeId} {k : IntKind} {fuel : Nat} {v : Value} {x : DataW H × List MemPlace} (ht : P.underlying t = some (.slice e)) (he : P.underlying e = some (.int k)) (hc : P.cellsOf e = 1)
    (h : DataW.trod enc P w 0 (fun _ => true) true fuel t [v] = some x) : ∃ A m c l, v = .slice A m c ∧ IL k w w.heap.size A m l ∧ (∀ x ∈ l, (Lit.int k x).wf = true) ∧ m ≤ 9223372036854775807 ∧ m ≤ c ∧ (A = none → c = 0) := by
  rcases open_ints ht he hc h with ⟨hcs, _⟩ | ⟨ad, l, c, zs, hcs, _, hl, hm, hz, _, hcell, hwz⟩
  · simp at hcs
    subst hcs
    exact ⟨none, 0, 0, [], rfl, ⟨rfl, fun i hi => absurd hi (by omega)⟩, by simp, by omega, Nat.le_refl 0, fun _ => rfl⟩
  · simp at hcs
    subst hcs
    have hzc : zs.length = c := by simpa using hz
    refine ⟨some ad, l, c, zs.take l, rfl, ⟨by rw [List.length_take]; omega, fun i hi => ?_⟩, fun x hx => hwz x (List.mem_of_mem_take hx), by unfold maxLen at hm; omega, hl, fun h => by cases h⟩
    have hci := hcell i (by omega)
    refine ⟨ad, rfl, ?_, ?_⟩
    · have := cell_lt hci
      rwa [add_block] at this
    · rw [hci, List.getD_eq_getElem?_getD, List.getD_eq_getElem?_getD, List.getElem?_take, if_pos hi]
theorem open_nodeX {H : Type} {enc : TypeId × Value → H} {w : World} {fuel : Nat} {cs : List Value} {x : DataW H × List MemPlace} (h : DataW.trod enc Tryd.prog w 0 (fun _ => true) true fuel 35 cs = some x) (hlen : cs.length = 6) :
    ∃ n : Nd, cs = [.int .i64 n.adr, .int .i64 n.refs, .int .i64 n.sl, .int .i64 n.words, .slice n.A n.m n.c, .slice n.B n.n n.d] ∧ DL w w.heap.size n ∧ (Lit.int .i64 n.adr).wf = true ∧ (∀ x ∈ n.S, (Lit.int .i64 x).wf = true) ∧ NX n := by
  obtain ⟨y0, y1, y2, y3, k, _, _, g0, g1, g2, g3⟩ := trod_struct4 Tryd.underlying35 h
  match cs, hlen with
  | [v0, v1, v2, v3, v4, v5], _ =>
    have c3 : Tryd.prog.cellsOf 3 = 1 := by kernel_rfl
    have c37 : Tryd.prog.cellsOf 31 = 3 := by kernel_rfl
    have c22 : Tryd.prog.cellsOf 22 = 1 := by kernel_rfl
    have c38 : Tryd.prog.cellsOf 33 = 1 := by kernel_rfl
    have c42 : Tryd.prog.cellsOf 32 = 1 := by kernel_rfl
    simp only [c3, c37, c22, c38] at g0 g1 g2 g3
    obtain ⟨z0, z1, z2, k2, _, _, e0, e1, e2⟩ := trod_struct3 Tryd.underlying31 g1
    simp only [c3] at e0 e1 e2
    obtain ⟨b0, hv0, _, wf0⟩ := DataW.trod_int Tryd.underlying3 g0
    obtain ⟨b1, hv1, _, _⟩ := DataW.trod_int Tryd.underlying3 e0
    obtain ⟨b2, hv2, _, _⟩ := DataW.trod_int Tryd.underlying3 e1
    obtain ⟨b3, hv3, _, wf3⟩ := DataW.trod_int Tryd.underlying3 e2
    obtain ⟨A, m, c, S, hv4, hS, wS, _, hmc, _⟩ := open_ilX Tryd.underlying22 Tryd.underlying3 c3 (v := v4) (by simpa using g2)
    obtain ⟨B, n, d, D, hv5, hD, wD, _, hnd, hBd⟩ := open_ilX Tryd.underlying33 Tryd.underlying32 c42 (v := v5) (by simpa using g3)
    simp at hv0 hv1 hv2 hv3
    subst_vars
    exact ⟨⟨b0, b1, b2, b3, A, m, c, B, n, d, S, D⟩, rfl, ⟨hS, hD⟩, wf0, wS, hmc, hnd, hBd, wD, wf3⟩
theorem open_nodesX {H : Type} {enc : TypeId × Value → H} {w : World} {fuel : Nat} {v : Value} {x : DataW H × List MemPlace} (h : DataW.trod enc Tryd.prog w 0 (fun _ => true) true fuel 23 [v] = some x) :
    ∃ A m c NS, v = .slice A m c ∧ NL w w.heap.size A m NS ∧ (∀ n ∈ NS, DL w w.heap.size n) ∧ (∀ n ∈ NS, (Lit.int .i64 n.adr).wf = true) ∧ (∀ n ∈ NS, ∀ x ∈ n.S, (Lit.int .i64 x).wf = true) ∧ (∀ n ∈ NS, NX n) ∧ m ≤ 9223372036854775807 ∧ m ≤ c := by
  rcases open_slice Tryd.underlying23 h with ⟨hcs, _⟩ | ⟨y, l, c, m, n, D, Pl, hcs, hb, hl, hm, hmm, rfl, hx⟩
  · simp at hcs
    subst hcs
    exact ⟨none, 0, 0, [], rfl, ⟨rfl, fun i hi => absurd hi (by omega)⟩, by simp, by simp, by simp, by simp, by omega, Nat.le_refl 0⟩
  · simp at hcs
    subst hcs
    have c40 : Tryd.prog.cellsOf 35 = 6 := by kernel_rfl
    have each : ∀ i, i < l → ∃ q : Nd, (w.cell? ((y.add (i * 6)).add 0) = some (.int .i64 q.adr) ∧ w.cell? ((y.add (i * 6)).add 1) = some (.int .i64 q.refs) ∧ w.cell? ((y.add (i * 6)).add 2) = some (.int .i64 q.sl) ∧ w.cell? ((y.add (i * 6)).add 3) = some (.int .i64 q.words) ∧
        w.cell? ((y.add (i * 6)).add 4) = some (.slice q.A q.m q.c) ∧ w.cell? ((y.add (i * 6)).add 5) = some (.slice q.B q.n q.d)) ∧ DL w w.heap.size q ∧ (Lit.int .i64 q.adr).wf = true ∧ (∀ x ∈ q.S, (Lit.int .i64 x).wf = true) ∧ NX q := by
      intro i hi
      obtain ⟨cs', h1, h2⟩ := hx i (by rw [hmm, if_pos rfl]; omega)
      rw [c40] at h1
      obtain ⟨_, hlen, hcell⟩ := World.cells?_some h1
      obtain ⟨q, hq, hD, w1, w2, w3⟩ := open_nodeX h2 hlen
      have d0 := hcell 0 (by omega)
      have d1 := hcell 1 (by omega)
      have d2 := hcell 2 (by omega)
      have d3 := hcell 3 (by omega)
      have d4 := hcell 4 (by omega)
      have d5 := hcell 5 (by omega)
      subst hq
      simp only [List.getElem?_cons_zero, List.getElem?_cons_succ] at d0 d1 d2 d3 d4 d5
      exact ⟨q, ⟨d0, d1, d2, d3, d4, d5⟩, hD, w1, w2, w3⟩
    obtain ⟨q, hq⟩ := choose_lt each
    have hmem : ∀ n, n ∈ (List.range l).map q → ∃ i, i < l ∧ q i = n := fun n hn => by
      obtain ⟨i, hi, e⟩ := List.mem_map.1 hn
      exact ⟨i, List.mem_range.1 hi, e⟩
    refine ⟨some y, l, c, (List.range l).map q, rfl, ⟨by simp, fun i hi => ⟨y, rfl, ?_, ?_⟩⟩, fun n hn => ?_, fun n hn => ?_, fun n hn => ?_, fun n hn => ?_, by unfold maxLen at hm; omega, hl⟩
    · have := cell_lt (hq i hi).1.1
      rwa [add_block, add_block] at this
    · have e : ((List.range l).map q).getD i default = q i := by simp [List.getD_eq_getElem?_getD, hi]
      rw [e]
      exact (hq i hi).1
    · obtain ⟨i, hi, rfl⟩ := hmem n hn
      exact (hq i hi).2.1
    · obtain ⟨i, hi, rfl⟩ := hmem n hn
      exact (hq i hi).2.2.1
    · obtain ⟨i, hi, rfl⟩ := hmem n hn
      exact (hq i hi).2.2.2.1
    · obtain ⟨i, hi, rfl⟩ := hmem n hn
      exact (hq i hi).2.2.2.2
theorem open_graphX {H : Type} {enc : TypeId × Value → H} {w : World} {r : Reach} {b0 : Nat} {v : Value} {d : DataW H} {p : List MemPlace} (hv : Value.okWide Tryd.prog w r b0 25 v) (h : DataW.Trod enc Tryd.prog w 0 (fun _ => true) true 25 v d p) :
    ∃ g : Gd, v = g.val ∧ (GM w w.heap.size g ∧ (∀ n ∈ g.NS, NX n) ∧ g.rl ≤ g.rc ∧ g.nl ≤ g.nc) ∧ g.nl ≤ 9223372036854775807 := by
  obtain ⟨v0, v1, y0, y1, n, rfl, _, _, g0, g1⟩ := open_agg2 Tryd.underlying25 (by kernel_rfl) (by kernel_rfl) hv h
  obtain ⟨rA, rl, rc, R, rfl, hR, wR, _, hrc, _⟩ := open_ilX Tryd.underlying22 Tryd.underlying3 (by kernel_rfl) g0
  obtain ⟨nA, nl, nc, NS, rfl, hN, hD, w1, w2, w3, hm, hnc⟩ := open_nodesX g1
  exact ⟨⟨rA, rl, rc, R, nA, nl, nc, NS⟩, rfl, ⟨⟨hR, hN, hD, w1, wR, w2⟩, w3, hrc, hnc⟩, hm⟩
abbrev GW (W : World) (g : Gd) : Prop := GM W W.heap.size g ∧ (∀ n ∈ g.NS, NX n) ∧ g.rl ≤ g.rc ∧ g.nl ≤ g.nc
theorem dump_row (ga gb : Gd) (W : World) (wa : GW W ga) (ya : ga.nl ≤ 9223372036854775807) (wb : GW W gb) (yb : gb.nl ≤ 9223372036854775807) (hT : Tb W) : Calls Tryd.prog 3 #[ga.val, gb.val] W fun e w' => e = .returned (.bool true) ∧ Below W.heap.size W w' :=
  dump_calls W W.heap.size (Nat.le_refl _) ga gb ⟨wa.1⟩ ⟨wb.1⟩ ⟨wa.2.1⟩ ⟨wb.2.1⟩ ya yb ⟨wa.2.2⟩ ⟨wb.2.2⟩ ⟨hT⟩
end Go.Proofs.YtacjlkjdmhlbaaaDoor.Gr
