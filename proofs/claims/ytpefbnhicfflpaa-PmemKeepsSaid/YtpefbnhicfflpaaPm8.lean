/- Pmem: Fence. Conditions: the region lies as 'Rg' says; the notes' keys are lines. -/
import Derived.Test.YtpefbnhicfflpaaPm7
namespace Go.Proofs.Ytpefbnhicfflpaa.Pm
open Go.RowKit Go.Maps Go.ChangeMaps Go.MapKept Go.Proofs.YtpefbnhicfflpaaW.PrintWords Go.Proofs.YtpefbnhicfflpaaW.PrintLast Go.Proofs.YtpefbnhicfflpaaW.PrintMore
set_option linter.unusedSimpArgs false
set_option linter.unusedVariables false
set_option maxHeartbeats 2000000 in
theorem fence_calls (W : World) {p gs gk bm N cs ck n : Nat} {S K : List Int} {D : DataW Unit} (h : Rg W p gs gk bm N cs ck n S K D) (hD : WFD N D) (hN : N ≤ 64) (hN0 : 0 < N) (B : Nat) (hBp : B ≤ p) (hBk : B ≤ gk) (hBm : B ≤ bm) :
    Calls Try.prog 16 #[.pointer (some ⟨p, 0, none⟩)] W fun e w' => (∃ v, e = .returned v) ∧ (∃ K', Rg w' p gs gk bm N cs ck 0 S K' (.map []) ∧ ∀ j, j < N → K'.getD j 0 = (pendAt D j).getD (K.getD j 0)) ∧ Below B W w' := by
  have hb : thereB N 0 = true := decide_eq_true ⟨Int.le_refl _, by omega⟩
  have HB := Aside0.mk (Below.refl W.heap.size W)
  go_enter Try.func16, Try.ntmps16
  go_wp2_with (first | ((with_reducible refine gate_dst (N := 1) rfl ?_); refine box_event ?hg (N := 1) ?hd (cs := #[.pointer (some ⟨p, 0, none⟩)]) (t := 37) ?hr ?_; (case hd => rfl); (case hg => rfl); (case hr => first | (go_simp; done) | (go_simp; rfl)); intro g1 hg w1_ hbox hb; have n0_ := Aside0.mk (below_step (by repeat (first | (with_reducible first | exact HB.out | apply below_alloc | apply pw_below_drewN | apply below_drew1) | exact HB.out)) hb); have n1_ := Aside0.mk hbox; have n2_ := Aside0.mk ((by rw [hg]; exact (below_size (by repeat (first | (with_reducible first | exact HB.out | apply below_alloc | apply pw_below_drewN | apply below_drew1) | exact HB.out)))) : W.heap.size ≤ g1); clear HB; have HB := n0_; have BK1 := n1_; have GE1 := n2_; clear n0_ n1_ n2_; clear hb hbox hg; have hc1_0 : w1_.cell? ⟨g1, 0, none⟩ = some (.pointer (some ⟨p, 0, none⟩)) := (blk_cell BK1.out 0).trans rfl; have hf1_0 := blk_frozen BK1.out 0) | (go_at_call 29; have hT := h.below HB.out; have hgs := h.lt; have hsz := HB.out.size; have hq1 := BK1.out; refine (at_fence w1_ hT 0 hb _ (fun w' => (∃ K', Rg w' p gs gk bm N cs ck 0 S K' (.map []) ∧ ∀ j, j < N → K'.getD j 0 = (pendAt D j).getD (K.getD j 0)) ∧ Below B w1_ w') (fence1 w1_ hT hD hN g1 hq1 ⟨by have := GE1.out; omega, by have := GE1.out; omega, by have := GE1.out; omega, by have := GE1.out; omega⟩ B (by omega) hBk hBm) (fun w1 hw => by obtain ⟨⟨K', hr, _⟩, _⟩ := hw; exact hr.step_cell)).mono ?_; rintro e w5 ⟨rfl, w1, st, ⟨⟨K', hR1, hK'⟩, hB1⟩, rfl⟩))
  go_ret
  have hb1 : Below B W w1_ := HB.out.mono (by omega)
  exact ⟨⟨_, rfl⟩, ⟨K', hR1.step st, hK'⟩, (hb1.trans hB1).setCell (p := ⟨p, 3, none⟩) hBp _⟩
end Go.Proofs.Ytpefbnhicfflpaa.Pm
