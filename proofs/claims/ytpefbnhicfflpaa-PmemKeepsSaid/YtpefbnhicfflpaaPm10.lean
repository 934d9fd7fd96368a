/- Pmem: Evict; the closures of Crash's ways. Conditions: the region lies as 'Rg' says. -/
import Derived.Test.YtpefbnhicfflpaaPm9
namespace Go.Proofs.Ytpefbnhicfflpaa.Pm
open Go.RowKit Go.Maps Go.ChangeMaps Go.MapKept Go.Proofs.YtpefbnhicfflpaaW.PrintWords Go.Proofs.YtpefbnhicfflpaaW.PrintLast Go.Proofs.YtpefbnhicfflpaaW.PrintMore
set_option linter.unusedSimpArgs false
set_option linter.unusedVariables false
set_option maxHeartbeats 2000000 in
theorem evict_no (W : World) {p gs gk bm N cs ck n : Nat} {S K : List Int} {D : DataW Unit} (h : Rg W p gs gk bm N cs ck n S K D) (a : Int) (ha : thereB N a = false) : Calls Try.prog 28 #[.pointer (some ⟨p, 0, none⟩), .int .i64 a] W fun e w' => (∃ v, e = .returned v) ∧ Rg w' p gs gk bm N cs ck n S K D ∧ Below W.heap.size W w' := by
  have HB := Aside0.mk (Below.refl W.heap.size W)
  go_enter Try.func28, Try.ntmps28
  go_wp2_with (first | ((with_reducible refine gate_dst (N := 2) rfl ?_); refine box_event ?hg (N := 2) ?hd (cs := #[.pointer (some ⟨p, 0, none⟩)]) (t := 37) ?hr ?_; (case hd => rfl); (case hg => rfl); (case hr => first | (go_simp; done) | (go_simp; rfl)); intro g2 hg w1_ hbox hb; have n0_ := Aside0.mk (below_step (by repeat (first | (with_reducible first | exact HB.out | apply below_alloc | apply pw_below_drewN | apply below_drew1) | exact HB.out)) hb); have n1_ := Aside0.mk hbox; have n2_ := Aside0.mk ((by rw [hg]; exact (below_size (by repeat (first | (with_reducible first | exact HB.out | apply below_alloc | apply pw_below_drewN | apply below_drew1) | exact HB.out)))) : W.heap.size ≤ g2); clear HB; have HB := n0_; have BK2 := n1_; have GE2 := n2_; clear n0_ n1_ n2_; clear hb hbox hg; have hc2_0 : w1_.cell? ⟨g2, 0, none⟩ = some (.pointer (some ⟨p, 0, none⟩)) := (blk_cell BK2.out 0).trans rfl; have hf2_0 := blk_frozen BK2.out 0) | ((with_reducible refine gate_dst (N := 3) rfl ?_); refine box_event ?hg (N := 3) ?hd (cs := #[.int .i64 a]) (t := 3) ?hr ?_; (case hd => rfl); (case hg => rfl); (case hr => first | (go_simp; done) | (go_simp; rfl)); intro g3 hg w2_ hbox hb; have n0_ := Aside0.mk (below_step (by repeat (first | (with_reducible first | exact HB.out | apply below_alloc | apply pw_below_drewN | apply below_drew1 | refine below_set ?_ GE2.out) | exact HB.out)) hb); have n1_ := Aside0.mk (blk_below (g := g2) (o := .cells #[.pointer (some ⟨p, 0, none⟩)] 37 (0, 0)) (by (with_reducible repeat (first | refine blk_drewN ?_ _ | refine blk_drew ?_ | refine blk_alloc ?_ _)); exact BK2.out) hb); have n2_ := Aside0.mk hbox; have n3_ := Aside0.mk ((by rw [hg]; exact (below_size (by repeat (first | (with_reducible first | exact HB.out | apply below_alloc | apply pw_below_drewN | apply below_drew1 | refine below_set ?_ GE2.out) | exact HB.out)))) : W.heap.size ≤ g3); have n4_ := Aside0.mk ((by rw [hg]; exact Nat.ne_of_lt (blk_lt (g := g2) (o := .cells #[.pointer (some ⟨p, 0, none⟩)] 37 (0, 0)) (by (with_reducible repeat (first | refine blk_drewN ?_ _ | refine blk_drew ?_ | refine blk_alloc ?_ _)); exact BK2.out))) : g2 ≠ g3); clear HB; clear BK2; have HB := n0_; have BK2 := n1_; have BK3 := n2_; have GE3 := n3_; have NE2_3 := n4_; clear n0_ n1_ n2_ n3_ n4_; clear hb hbox hg; have hc2_0 : w2_.cell? ⟨g2, 0, none⟩ = some (.pointer (some ⟨p, 0, none⟩)) := (blk_cell BK2.out 0).trans rfl; have hf2_0 := blk_frozen BK2.out 0; have hc3_0 : w2_.cell? ⟨g3, 0, none⟩ = some (.int .i64 a) := (blk_cell BK3.out 0).trans rfl; have hf3_0 := blk_frozen BK3.out 0) | (go_at_call 29; have hT := h.below HB.out; have hgs := h.lt; have hsz := HB.out.size; have hq2 := BK2.out; have hq3 := BK3.out; refine (at_no w2_ hT a ha _).mono ?_; rintro e w' ⟨rfl, hw⟩; obtain rfl := hw.symm))
  go_ret
  exact ⟨⟨_, rfl⟩, hT, HB.out⟩

set_option maxHeartbeats 2000000 in
theorem evict_off (W : World) {p gs gk bm N cs ck n : Nat} {S K : List Int} {D : DataW Unit} (h : Rg W p gs gk bm N cs ck n S K D) (hn : n < maxLen) (a : Int) (ha64 : 0 ≤ a ∧ a < 64) (hb : thereB N a = true) (i : Nat) (hD : has D (key i) = false) (HL : Aside0 (a - a % 8 = i)) (hi : i + 8 ≤ N) (hN : N ≤ 64) (y0 y1 y2 y3 y4 y5 y6 y7 : Int) (HE : Aside0 (Eight S i y0 y1 y2 y3 y4 y5 y6 y7)) (B : Nat) (hBp : B ≤ p) (hBk : B ≤ gk) (hBm : B ≤ bm) : Calls Try.prog 28 #[.pointer (some ⟨p, 0, none⟩), .int .i64 a] W fun e w' => (∃ v, e = .returned v) ∧ Rg w' p gs gk bm N cs ck n S (putL K i [y0, y1, y2, y3, y4, y5, y6, y7]) D ∧ Below B W w' := by
  have HB := Aside0.mk (Below.refl W.heap.size W)
  go_enter Try.func28, Try.ntmps28
  go_wp2_with (first | ((with_reducible refine gate_dst (N := 2) rfl ?_); refine box_event ?hg (N := 2) ?hd (cs := #[.pointer (some ⟨p, 0, none⟩)]) (t := 37) ?hr ?_; (case hd => rfl); (case hg => rfl); (case hr => first | (go_simp; done) | (go_simp; rfl)); intro g2 hg w1_ hbox hb; have n0_ := Aside0.mk (below_step (by repeat (first | (with_reducible first | exact HB.out | apply below_alloc | apply pw_below_drewN | apply below_drew1) | exact HB.out)) hb); have n1_ := Aside0.mk hbox; have n2_ := Aside0.mk ((by rw [hg]; exact (below_size (by repeat (first | (with_reducible first | exact HB.out | apply below_alloc | apply pw_below_drewN | apply below_drew1) | exact HB.out)))) : W.heap.size ≤ g2); clear HB; have HB := n0_; have BK2 := n1_; have GE2 := n2_; clear n0_ n1_ n2_; clear hb hbox hg; have hc2_0 : w1_.cell? ⟨g2, 0, none⟩ = some (.pointer (some ⟨p, 0, none⟩)) := (blk_cell BK2.out 0).trans rfl; have hf2_0 := blk_frozen BK2.out 0) | ((with_reducible refine gate_dst (N := 3) rfl ?_); refine box_event ?hg (N := 3) ?hd (cs := #[.int .i64 a]) (t := 3) ?hr ?_; (case hd => rfl); (case hg => rfl); (case hr => first | (go_simp; done) | (go_simp; rfl)); intro g3 hg w2_ hbox hb; have n0_ := Aside0.mk (below_step (by repeat (first | (with_reducible first | exact HB.out | apply below_alloc | apply pw_below_drewN | apply below_drew1 | refine below_set ?_ GE2.out) | exact HB.out)) hb); have n1_ := Aside0.mk (blk_below (g := g2) (o := .cells #[.pointer (some ⟨p, 0, none⟩)] 37 (0, 0)) (by (with_reducible repeat (first | refine blk_drewN ?_ _ | refine blk_drew ?_ | refine blk_alloc ?_ _)); exact BK2.out) hb); have n2_ := Aside0.mk hbox; have n3_ := Aside0.mk ((by rw [hg]; exact (below_size (by repeat (first | (with_reducible first | exact HB.out | apply below_alloc | apply pw_below_drewN | apply below_drew1 | refine below_set ?_ GE2.out) | exact HB.out)))) : W.heap.size ≤ g3); have n4_ := Aside0.mk ((by rw [hg]; exact Nat.ne_of_lt (blk_lt (g := g2) (o := .cells #[.pointer (some ⟨p, 0, none⟩)] 37 (0, 0)) (by (with_reducible repeat (first | refine blk_drewN ?_ _ | refine blk_drew ?_ | refine blk_alloc ?_ _)); exact BK2.out))) : g2 ≠ g3); clear HB; clear BK2; have HB := n0_; have BK2 := n1_; have BK3 := n2_; have GE3 := n3_; have NE2_3 := n4_; clear n0_ n1_ n2_ n3_ n4_; clear hb hbox hg; have hc2_0 : w2_.cell? ⟨g2, 0, none⟩ = some (.pointer (some ⟨p, 0, none⟩)) := (blk_cell BK2.out 0).trans rfl; have hf2_0 := blk_frozen BK2.out 0; have hc3_0 : w2_.cell? ⟨g3, 0, none⟩ = some (.int .i64 a) := (blk_cell BK3.out 0).trans rfl; have hf3_0 := blk_frozen BK3.out 0) | (go_at_call 29; have hT := h.below HB.out; have hgs := h.lt; have hsz := HB.out.size; have hq2 := BK2.out; have hq3 := BK3.out; refine (at_evict w2_ hT a hb _ _ (fun w' => Rg w' p gs gk bm N cs ck n S (putL K i [y0, y1, y2, y3, y4, y5, y6, y7]) D ∧ Below B w2_ w') (evict1_no w2_ i hT hn hD a ha64 HL hi hN y0 y1 y2 y3 y4 y5 y6 y7 HE g2 g3 hq2 hq3 ⟨by have := GE2.out; omega, by have := GE2.out; omega, by have := GE2.out; omega, by have := GE2.out; omega⟩ B (by omega) hBk hBm) (fun w1 hw => hw.1.step_cell)).mono ?_; rintro e w5 ⟨rfl, w1, st, ⟨hR1, hB1⟩, rfl⟩))
  go_ret
  have hb1 : Below B W w2_ := HB.out.mono (by omega)
  exact ⟨⟨_, rfl⟩, hR1.step st, (hb1.trans hB1).setCell (p := ⟨p, 3, none⟩) hBp _⟩

set_option maxHeartbeats 2000000 in
theorem evict_on (W : World) {p gs gk bm N cs ck n : Nat} {S K : List Int} {D : DataW Unit} (h : Rg W p gs gk bm N cs ck n S K D) (hn : n < maxLen) (a : Int) (ha64 : 0 ≤ a ∧ a < 64) (hb : thereB N a = true) (i : Nat) (hD : has D (key i) = true) (HL : Aside0 (a - a % 8 = i)) (hi : i + 8 ≤ N) (hN : N ≤ 64) (y0 y1 y2 y3 y4 y5 y6 y7 : Int) (HE : Aside0 (Eight S i y0 y1 y2 y3 y4 y5 y6 y7)) (B : Nat) (hBp : B ≤ p) (hBk : B ≤ gk) (hBm : B ≤ bm) : Calls Try.prog 28 #[.pointer (some ⟨p, 0, none⟩), .int .i64 a] W fun e w' => (∃ v, e = .returned v) ∧ Rg w' p gs gk bm N cs ck (n + 1) S (putL K i [y0, y1, y2, y3, y4, y5, y6, y7]) (D.put (.int .i64 (i : Int)) (.agg [.lit (.int .u64 y0), .lit (.int .u64 y1), .lit (.int .u64 y2), .lit (.int .u64 y3), .lit (.int .u64 y4), .lit (.int .u64 y5), .lit (.int .u64 y6), .lit (.int .u64 y7)])) ∧ Below B W w' := by
  have HB := Aside0.mk (Below.refl W.heap.size W)
  go_enter Try.func28, Try.ntmps28
  go_wp2_with (first | ((with_reducible refine gate_dst (N := 2) rfl ?_); refine box_event ?hg (N := 2) ?hd (cs := #[.pointer (some ⟨p, 0, none⟩)]) (t := 37) ?hr ?_; (case hd => rfl); (case hg => rfl); (case hr => first | (go_simp; done) | (go_simp; rfl)); intro g2 hg w1_ hbox hb; have n0_ := Aside0.mk (below_step (by repeat (first | (with_reducible first | exact HB.out | apply below_alloc | apply pw_below_drewN | apply below_drew1) | exact HB.out)) hb); have n1_ := Aside0.mk hbox; have n2_ := Aside0.mk ((by rw [hg]; exact (below_size (by repeat (first | (with_reducible first | exact HB.out | apply below_alloc | apply pw_below_drewN | apply below_drew1) | exact HB.out)))) : W.heap.size ≤ g2); clear HB; have HB := n0_; have BK2 := n1_; have GE2 := n2_; clear n0_ n1_ n2_; clear hb hbox hg; have hc2_0 : w1_.cell? ⟨g2, 0, none⟩ = some (.pointer (some ⟨p, 0, none⟩)) := (blk_cell BK2.out 0).trans rfl; have hf2_0 := blk_frozen BK2.out 0) | ((with_reducible refine gate_dst (N := 3) rfl ?_); refine box_event ?hg (N := 3) ?hd (cs := #[.int .i64 a]) (t := 3) ?hr ?_; (case hd => rfl); (case hg => rfl); (case hr => first | (go_simp; done) | (go_simp; rfl)); intro g3 hg w2_ hbox hb; have n0_ := Aside0.mk (below_step (by repeat (first | (with_reducible first | exact HB.out | apply below_alloc | apply pw_below_drewN | apply below_drew1 | refine below_set ?_ GE2.out) | exact HB.out)) hb); have n1_ := Aside0.mk (blk_below (g := g2) (o := .cells #[.pointer (some ⟨p, 0, none⟩)] 37 (0, 0)) (by (with_reducible repeat (first | refine blk_drewN ?_ _ | refine blk_drew ?_ | refine blk_alloc ?_ _)); exact BK2.out) hb); have n2_ := Aside0.mk hbox; have n3_ := Aside0.mk ((by rw [hg]; exact (below_size (by repeat (first | (with_reducible first | exact HB.out | apply below_alloc | apply pw_below_drewN | apply below_drew1 | refine below_set ?_ GE2.out) | exact HB.out)))) : W.heap.size ≤ g3); have n4_ := Aside0.mk ((by rw [hg]; exact Nat.ne_of_lt (blk_lt (g := g2) (o := .cells #[.pointer (some ⟨p, 0, none⟩)] 37 (0, 0)) (by (with_reducible repeat (first | refine blk_drewN ?_ _ | refine blk_drew ?_ | refine blk_alloc ?_ _)); exact BK2.out))) : g2 ≠ g3); clear HB; clear BK2; have HB := n0_; have BK2 := n1_; have BK3 := n2_; have GE3 := n3_; have NE2_3 := n4_; clear n0_ n1_ n2_ n3_ n4_; clear hb hbox hg; have hc2_0 : w2_.cell? ⟨g2, 0, none⟩ = some (.pointer (some ⟨p, 0, none⟩)) := (blk_cell BK2.out 0).trans rfl; have hf2_0 := blk_frozen BK2.out 0; have hc3_0 : w2_.cell? ⟨g3, 0, none⟩ = some (.int .i64 a) := (blk_cell BK3.out 0).trans rfl; have hf3_0 := blk_frozen BK3.out 0) | (go_at_call 29; have hT := h.below HB.out; have hgs := h.lt; have hsz := HB.out.size; have hq2 := BK2.out; have hq3 := BK3.out; refine (at_evict w2_ hT a hb _ _ (fun w' => Rg w' p gs gk bm N cs ck (n + 1) S (putL K i [y0, y1, y2, y3, y4, y5, y6, y7]) (D.put (.int .i64 (i : Int)) (.agg [.lit (.int .u64 y0), .lit (.int .u64 y1), .lit (.int .u64 y2), .lit (.int .u64 y3), .lit (.int .u64 y4), .lit (.int .u64 y5), .lit (.int .u64 y6), .lit (.int .u64 y7)])) ∧ Below B w2_ w') (evict1_yes w2_ i hT hn hD a ha64 HL hi hN y0 y1 y2 y3 y4 y5 y6 y7 HE g2 g3 hq2 hq3 ⟨by have := GE2.out; omega, by have := GE2.out; omega, by have := GE2.out; omega, by have := GE2.out; omega⟩ B (by omega) hBk hBm) (fun w1 hw => hw.1.step_cell)).mono ?_; rintro e w5 ⟨rfl, w1, st, ⟨hR1, hB1⟩, rfl⟩))
  go_ret
  have hb1 : Below B W w2_ := HB.out.mono (by omega)
  exact ⟨⟨_, rfl⟩, hR1.step st, (hb1.trans hB1).setCell (p := ⟨p, 3, none⟩) hBp _⟩

/-- A short list of words in a block of its own. -/
structure Few (W : World) (g : Nat) (cap : Nat) (l : List Int) : Prop where
  cur : ∃ cur : Array Value, W.heap[g]? = some (.cells cur 36 (0, 0)) ∧ cur.size = cap ∧ l.length ≤ cap ∧ cap ≤ maxLen ∧ ∀ i, i < l.length → cur[i]? = some (.int .u64 (l.getD i 0))
theorem idx_calls (W : World) (l : List Int) (hl : l.length ≤ 8) (x : Int) (g cap : Nat) (h : ∀ i, i < l.length → W.cell? ⟨g, i, none⟩ = some (.int .u64 (l.getD i 0))) : Calls Try.prog 46 #[.slice (some ⟨g, 0, none⟩) l.length cap, .int .u64 x] W fun e w' => ∃ r : Int, e = .returned (.int .i64 r) ∧ (r ≥ 0 ↔ x ∈ l) ∧ ∃ m, w' = W.drewN m := by
  have H := Aside0.mk h
  clear h
  go_enter Try.func46, Try.ntmps46
  go_wp2_with fail
  go_loopw [8] (fun v wr => ∃ i : Nat, i ≤ l.length ∧ v = .int .i64 i ∧ (∀ j, j < i → l.getD j 0 ≠ x) ∧ ∃ m, wr = W.drewN m) (fun v _ => l.length - (intOf v).toNat)
  case atStart => exact ⟨0, by omega, rfl, fun j hj => absurd hj (by omega), 0, rfl⟩
  case round =>
    obtain ⟨i, hi, rfl, hno, m, rfl⟩ := hrel
    by_cases hlt : i < l.length
    · have hc := H.out i hlt
      have hi0 : (0 : Int) ≤ (i : Int) := by omega
      have hi1 : (i : Int) < (l.length : Int) := by omega
      have HNO := Aside0.mk hno
      by_cases hx : l.getD i 0 = x
      · rw [hx] at hc
        have hmem : x ∈ l := by
          rw [← hx, List.getD_eq_getElem?_getD, List.getElem?_eq_getElem hlt]
          exact List.getElem_mem _
        have HX := Aside0.mk hmem
        clear hx hmem hno
        go_wp2
        go_ret
        exact ⟨_, rfl, ⟨fun _ => HX.out, fun _ => by omega⟩, m, rfl⟩
      · have HX := Aside0.mk hx
        generalize hy : l.getD i 0 = y at hc hx HX
        have HY := Aside0.mk hy
        have hne : (x == y) = false := by simp; exact fun e => hx e.symm
        have hne2 : ¬ x = y := fun e => hx e.symm
        clear hy hx hno
        go_wp2
        refine ⟨⟨i + 1, by omega, by push_cast; rfl, fun j hj => ?_, m, rfl⟩, ?_⟩
        · by_cases e : j = i
          · subst e; rw [HY.out]; exact HX.out
          · exact HNO.out j (by omega)
        · show l.length - ((i : Int) + 1).toNat < l.length - (i : Int).toNat
          omega
    · obtain rfl : i = l.length := by omega
      have HNO := Aside0.mk hno
      clear hno
      go_wp2
      go_ret
      refine ⟨-1, rfl, ⟨fun hh => absurd hh (by decide), fun hm => ?_⟩, m, rfl⟩
      obtain ⟨j, hj, e⟩ := List.mem_iff_getElem.1 hm
      exact absurd (by rw [List.getD_eq_getElem?_getD, List.getElem?_eq_getElem hj]; exact e) (HNO.out j hj)
end Go.Proofs.Ytpefbnhicfflpaa.Pm
