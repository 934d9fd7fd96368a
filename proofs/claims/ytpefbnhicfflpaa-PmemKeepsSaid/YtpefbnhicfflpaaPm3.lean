/- Pmem: noted, Flush. Conditions: the region lies as 'Rg' says. -/
import Derived.Test.YtpefbnhicfflpaaPm2
import Derived.Laws.Cover3
namespace Go.Proofs.Ytpefbnhicfflpaa.Pm
open Go.RowKit Go.Proofs.YtpefbnhicfflpaaW.PrintWords Go.Proofs.YtpefbnhicfflpaaW.PrintLast Go.Proofs.YtpefbnhicfflpaaW.PrintMore
set_option linter.unusedSimpArgs false
set_option linter.unusedVariables false
/-- The eight words of a row from i on. -/
def Eight (S : List Int) (i : Nat) (y0 y1 y2 y3 y4 y5 y6 y7 : Int) : Prop := S.getD (i + 0) 0 = y0 ∧ S.getD (i + 1) 0 = y1 ∧ S.getD (i + 2) 0 = y2 ∧ S.getD (i + 3) 0 = y3 ∧ S.getD (i + 4) 0 = y4 ∧ S.getD (i + 5) 0 = y5 ∧ S.getD (i + 6) 0 = y6 ∧ S.getD (i + 7) 0 = y7
set_option maxHeartbeats 4000000 in
set_option maxRecDepth 100000 in
theorem noted_calls (W : World) {p gs gk bm N cs ck n : Nat} {S K : List Int} {D : DataW Unit} (h : Rg W p gs gk bm N cs ck n S K D) (i : Nat) (hi : i + 8 ≤ N) (hN : N ≤ 64) (y0 y1 y2 y3 y4 y5 y6 y7 : Int) (HE : Aside0 (Eight S i y0 y1 y2 y3 y4 y5 y6 y7)) :
    Calls Try.prog 32 #[.pointer (some ⟨p, 0, none⟩), .int .i64 (i : Int)] W fun e w' => e = .returned (.agg #[.int .u64 y0, .int .u64 y1, .int .u64 y2, .int .u64 y3, .int .u64 y4, .int .u64 y5, .int .u64 y6, .int .u64 y7]) ∧ Below W.heap.size W w' := by
  obtain ⟨st, hp⟩ := h.tp
  have hu := Try.underlying68
  have hu7 := Try.underlying70
  have hlt := h.lt
  have HB := Aside0.mk (Below.refl W.heap.size W)
  have HH := Aside0.mk h
  have HP := Aside0.mk hp
  obtain ⟨cur, _, hsz, hNc, hcm, _⟩ := h.rs.cur
  clear h hp hsz
  go_enter Try.func32, Try.ntmps32
  go_upto_region 1 with (first | ((with_reducible refine gate_dst (N := 4) rfl ?_); refine box_event ?hg (N := 4) ?hd (cs := #[.int .u64 0, .int .u64 0, .int .u64 0, .int .u64 0, .int .u64 0, .int .u64 0, .int .u64 0, .int .u64 0]) (t := 70) ?hr ?_; (case hd => rfl); (case hg => rfl); (case hr => first | (go_simp; done) | (go_simp; rfl)); intro g4 hg w1_ hbox hb; have n0_ := Aside0.mk (below_step (by repeat (first | (with_reducible first | exact HB.out | apply below_alloc | apply pw_below_drewN | apply below_drew1) | exact HB.out)) hb); have n1_ := Aside0.mk hbox; have n2_ := Aside0.mk ((by rw [hg]; exact (below_size (by repeat (first | (with_reducible first | exact HB.out | apply below_alloc | apply pw_below_drewN | apply below_drew1) | exact HB.out)))) : W.heap.size ≤ g4); clear HB; have HB := n0_; have BK4 := n1_; have GE4 := n2_; clear n0_ n1_ n2_; clear hb hbox hg; have hc4_0 : w1_.cell? ⟨g4, 0, none⟩ = some (.int .u64 0) := (blk_cell BK4.out 0).trans rfl; have hf4_0 := blk_frozen BK4.out 0; have hc4_1 : w1_.cell? ⟨g4, 1, none⟩ = some (.int .u64 0) := (blk_cell BK4.out 1).trans rfl; have hf4_1 := blk_frozen BK4.out 1; have hc4_2 : w1_.cell? ⟨g4, 2, none⟩ = some (.int .u64 0) := (blk_cell BK4.out 2).trans rfl; have hf4_2 := blk_frozen BK4.out 2; have hc4_3 : w1_.cell? ⟨g4, 3, none⟩ = some (.int .u64 0) := (blk_cell BK4.out 3).trans rfl; have hf4_3 := blk_frozen BK4.out 3; have hc4_4 : w1_.cell? ⟨g4, 4, none⟩ = some (.int .u64 0) := (blk_cell BK4.out 4).trans rfl; have hf4_4 := blk_frozen BK4.out 4; have hc4_5 : w1_.cell? ⟨g4, 5, none⟩ = some (.int .u64 0) := (blk_cell BK4.out 5).trans rfl; have hf4_5 := blk_frozen BK4.out 5; have hc4_6 : w1_.cell? ⟨g4, 6, none⟩ = some (.int .u64 0) := (blk_cell BK4.out 6).trans rfl; have hf4_6 := blk_frozen BK4.out 6; have hc4_7 : w1_.cell? ⟨g4, 7, none⟩ = some (.int .u64 0) := (blk_cell BK4.out 7).trans rfl; have hf4_7 := blk_frozen BK4.out 7))
  have hT := HH.out.below HB.out
  have h0 : w1_.cell? ⟨p, 0, none⟩ = some (.slice (some ⟨gs, 0, none⟩) N cs) := (blk_cell (blk_below HP.out HB.out) 0).trans rfl
  have hc0 : w1_.cell? ⟨gs, i, none⟩ = some (.int .u64 y0) := (hT.rs.cell (i + 0) (by omega)).trans (by rw [HE.out.1])
  have hc1 : w1_.cell? ⟨gs, i + 1, none⟩ = some (.int .u64 y1) := (hT.rs.cell (i + 1) (by omega)).trans (by rw [HE.out.2.1])
  have hc2 : w1_.cell? ⟨gs, i + 2, none⟩ = some (.int .u64 y2) := (hT.rs.cell (i + 2) (by omega)).trans (by rw [HE.out.2.2.1])
  have hc3 : w1_.cell? ⟨gs, i + 3, none⟩ = some (.int .u64 y3) := (hT.rs.cell (i + 3) (by omega)).trans (by rw [HE.out.2.2.2.1])
  have hc4 : w1_.cell? ⟨gs, i + 4, none⟩ = some (.int .u64 y4) := (hT.rs.cell (i + 4) (by omega)).trans (by rw [HE.out.2.2.2.2.1])
  have hc5 : w1_.cell? ⟨gs, i + 5, none⟩ = some (.int .u64 y5) := (hT.rs.cell (i + 5) (by omega)).trans (by rw [HE.out.2.2.2.2.2.1])
  have hc6 : w1_.cell? ⟨gs, i + 6, none⟩ = some (.int .u64 y6) := (hT.rs.cell (i + 6) (by omega)).trans (by rw [HE.out.2.2.2.2.2.2.1])
  have hc7 : w1_.cell? ⟨gs, i + 7, none⟩ = some (.int .u64 y7) := (hT.rs.cell (i + 7) (by omega)).trans (by rw [HE.out.2.2.2.2.2.2.2])
  have hi0 : (0 : Int) ≤ (i : Int) := by omega
  have hi8 : (i : Int) + 8 ≤ (N : Int) := by omega
  have hi9 : (i : Int) + 8 ≤ 64 := by omega
  clear hT
  have harr : ∀ w : World, (Instr.arrayAt 70 (.slice (some ⟨gs, i, none⟩) 8 (cs - i))).run Try.prog w = .ok (.pointer (some ⟨gs, i, none⟩)) w := fun w => run_arrayAt w 70 36 8 _ 8 _ Try.underlying70 (Nat.le_refl _)
  go_wp2
  refine bodyPost_ret (results_cell_row rfl _ _ g4 70 #[.int .u64 y0, .int .u64 y1, .int .u64 y2, .int .u64 y3, .int .u64 y4, .int .u64 y5, .int .u64 y6, .int .u64 y7] (0, 0) _ rfl (by (with_reducible repeat (first | refine blk_drewN ?_ _ | refine blk_drew ?_ | refine blk_alloc ?_ _)); refine blk_put (cs := #[.int .u64 y0, .int .u64 y1, .int .u64 y2, .int .u64 y3, .int .u64 y4, .int .u64 y5, .int .u64 y6, .int .u64 0]) ?_ 7 _ rfl; (with_reducible repeat (first | refine blk_drewN ?_ _ | refine blk_drew ?_ | refine blk_alloc ?_ _)); refine blk_put (cs := #[.int .u64 y0, .int .u64 y1, .int .u64 y2, .int .u64 y3, .int .u64 y4, .int .u64 y5, .int .u64 0, .int .u64 0]) ?_ 6 _ rfl; (with_reducible repeat (first | refine blk_drewN ?_ _ | refine blk_drew ?_ | refine blk_alloc ?_ _)); refine blk_put (cs := #[.int .u64 y0, .int .u64 y1, .int .u64 y2, .int .u64 y3, .int .u64 y4, .int .u64 0, .int .u64 0, .int .u64 0]) ?_ 5 _ rfl; (with_reducible repeat (first | refine blk_drewN ?_ _ | refine blk_drew ?_ | refine blk_alloc ?_ _)); refine blk_put (cs := #[.int .u64 y0, .int .u64 y1, .int .u64 y2, .int .u64 y3, .int .u64 0, .int .u64 0, .int .u64 0, .int .u64 0]) ?_ 4 _ rfl; (with_reducible repeat (first | refine blk_drewN ?_ _ | refine blk_drew ?_ | refine blk_alloc ?_ _)); refine blk_put (cs := #[.int .u64 y0, .int .u64 y1, .int .u64 y2, .int .u64 0, .int .u64 0, .int .u64 0, .int .u64 0, .int .u64 0]) ?_ 3 _ rfl; (with_reducible repeat (first | refine blk_drewN ?_ _ | refine blk_drew ?_ | refine blk_alloc ?_ _)); refine blk_put (cs := #[.int .u64 y0, .int .u64 y1, .int .u64 0, .int .u64 0, .int .u64 0, .int .u64 0, .int .u64 0, .int .u64 0]) ?_ 2 _ rfl; (with_reducible repeat (first | refine blk_drewN ?_ _ | refine blk_drew ?_ | refine blk_alloc ?_ _)); refine blk_put (cs := #[.int .u64 y0, .int .u64 0, .int .u64 0, .int .u64 0, .int .u64 0, .int .u64 0, .int .u64 0, .int .u64 0]) ?_ 1 _ rfl; (with_reducible repeat (first | refine blk_drewN ?_ _ | refine blk_drew ?_ | refine blk_alloc ?_ _)); refine blk_put (cs := #[.int .u64 0, .int .u64 0, .int .u64 0, .int .u64 0, .int .u64 0, .int .u64 0, .int .u64 0, .int .u64 0]) ?_ 0 _ rfl; (with_reducible repeat (first | refine blk_drewN ?_ _ | refine blk_drew ?_ | refine blk_alloc ?_ _)); exact BK4.out) Try.underlying70 rfl (by kernel_rfl)) rfl ?_
  exact ⟨rfl, (by repeat (first | (with_reducible first | exact HB.out | apply below_alloc | apply pw_below_drewN | apply below_drew1 | refine below_set ?_ GE4.out) | exact HB.out))⟩
end Go.Proofs.Ytpefbnhicfflpaa.Pm
