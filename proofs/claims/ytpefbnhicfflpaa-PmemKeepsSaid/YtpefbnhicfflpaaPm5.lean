/- Pmem: Flush; keep. Conditions: the region lies as 'Rg' says. -/
import Derived.Test.YtpefbnhicfflpaaPm4
import Derived.Laws.IdiomCopy
namespace Go.Proofs.Ytpefbnhicfflpaa.Pm
open Go.RowKit Go.Proofs.YtpefbnhicfflpaaW.PrintWords Go.Proofs.YtpefbnhicfflpaaW.PrintLast Go.Proofs.YtpefbnhicfflpaaW.PrintMore
set_option linter.unusedSimpArgs false
set_option linter.unusedVariables false
def putL (K : List Int) (i : Nat) : List Int → List Int
  | [] => K
  | y :: r => putL (K.set i y) (i + 1) r
theorem putL_len : ∀ (ys : List Int) (K : List Int) (i : Nat), (putL K i ys).length = K.length
  | [], _, _ => rfl
  | y :: r, K, i => (putL_len r (K.set i y) (i + 1)).trans List.length_set
theorem set_at (L : List Int) (k : Nat) (v : Int) (i : Nat) (h : i < L.length) : (L.set k v).getD i 0 = if i = k then v else L.getD i 0 := by
  simp only [List.getD_eq_getElem?_getD, List.getElem?_set]
  by_cases e : k = i
  · subst e; simp [h]
  · rw [if_neg e, if_neg (fun x => e x.symm)]
theorem putL_at : ∀ (ys : List Int) (K : List Int) (i j : Nat), j < K.length → (putL K i ys).getD j 0 = if i ≤ j ∧ j < i + ys.length then ys.getD (j - i) 0 else K.getD j 0
  | [], K, i, j, h => by rw [if_neg (fun hx => by have h2 := hx.2; rw [List.length_nil] at h2; omega), putL]
  | y :: r, K, i, j, h => by
    rw [putL, putL_at r (K.set i y) (i + 1) j (by rw [List.length_set]; exact h), set_at K i y j h]
    by_cases h1 : i + 1 ≤ j ∧ j < i + 1 + r.length
    · rw [if_pos h1, if_pos (by rw [List.length_cons]; omega), show j - i = (j - (i + 1)) + 1 by omega, List.getD_cons_succ]
    · rw [if_neg h1]
      by_cases h2 : j = i
      · subst h2
        rw [if_pos rfl, if_pos (by rw [List.length_cons]; omega), Nat.sub_self, List.getD_cons_zero]
      · rw [if_neg h2, if_neg (by rw [List.length_cons]; omega)]
theorem Row.setCells {g N cap : Nat} : ∀ (ys : List Int) (K : List Int) (i : Nat) (W : World), Row W g N cap K → i + ys.length ≤ N → Row (W.setCells g i (ys.map (Value.int .u64))) g N cap (putL K i ys)
  | [], _, _, _, h, _ => h
  | y :: r, K, i, W, h, hl => Row.setCells r (K.set i y) (i + 1) _ (h.put i (by rw [List.length_cons] at hl; omega) y) (by rw [List.length_cons] at hl; omega)
theorem heap_setCells (g : Nat) : ∀ (vs : List Value) (o : Nat) (W : World) (k : Nat), k ≠ g → (W.setCells g o vs).heap[k]? = W.heap[k]?
  | [], _, _, _, _ => rfl
  | v :: r, o, W, k, hk => (heap_setCells g r (o + 1) _ k hk).trans (Below.heap_setCell W ⟨g, o, none⟩ v k hk)
theorem below_setCellsP {B g : Nat} {A : World} (hg : B ≤ g) : ∀ (vs : List Value) (o : Nat) (W : World), Below B A W → Below B A (W.setCells g o vs)
  | [], _, _, h => h
  | v :: r, o, W, h => below_setCellsP hg r (o + 1) _ (h.setCell (p := ⟨g, o, none⟩) hg v)
theorem size_setCells (g : Nat) : ∀ (vs : List Value) (o : Nat) (W : World), (W.setCells g o vs).heap.size = W.heap.size
  | [], _, _ => rfl
  | v :: r, o, W => (size_setCells g r (o + 1) _).trans (by simp [World.setCell])
theorem rest_setCells (g : Nat) : ∀ (vs : List Value) (o : Nat) (W : World), (W.setCells g o vs).os = W.os ∧ (W.setCells g o vs).tape = W.tape ∧ (W.setCells g o vs).output = W.output
  | [], _, _ => ⟨rfl, rfl, rfl⟩
  | v :: r, o, W => rest_setCells g r (o + 1) (W.setCell ⟨g, o, none⟩ v)
theorem grown_setCells {W : World} (g : Nat) (vs : List Value) (o : Nat) (A : World) (h : Below W.heap.size W A) : W.grownBy (A.setCells g o vs) (some g) := by
  obtain ⟨r1, r2, r3⟩ := rest_setCells g vs o A
  exact ⟨r1.trans h.os, r2.trans h.tape, r3.trans h.output, by rw [size_setCells]; exact h.size, fun k hk hne => (heap_setCells g vs o A k (fun e => hne (by rw [e]))).trans (h.block k hk)⟩
theorem Rg.keepL {W : World} {p gs gk bm N cs ck n : Nat} {S K : List Int} {D : DataW Unit} (h : Rg W p gs gk bm N cs ck n S K D) (ys : List Int) (i : Nat) (hi : i + ys.length ≤ N) : Rg (W.setCells gk i (ys.map (Value.int .u64))) p gs gk bm N cs ck n S (putL K i ys) D := by
  obtain ⟨n1, n2, n3, n4, n5, n6⟩ := h.ne
  refine ⟨let ⟨st, h1⟩ := h.tp; ⟨st, (heap_setCells gk _ i W p n2).trans h1⟩, ⟨h.rs.len, ?_⟩, h.rk.setCells ys K i W hi, ?_, h.ne⟩
  · obtain ⟨c, h1, h2⟩ := h.rs.cur
    exact ⟨c, (heap_setCells gk _ i W gs n3).trans h1, h2⟩
  · obtain ⟨es, clock, h1, h2⟩ := h.mp
    exact ⟨es, clock, (heap_setCells gk _ i W bm n6).trans h1, h2⟩
set_option maxHeartbeats 2000000 in
theorem flush_no (W : World) {p gs gk bm N cs ck n : Nat} {S K : List Int} {D : DataW Unit} (h : Rg W p gs gk bm N cs ck n S K D) (a : Int) (ha : thereB N a = false) : Calls Try.prog 15 #[.pointer (some ⟨p, 0, none⟩), .int .i64 a] W fun e w' => (∃ v, e = .returned v) ∧ Rg w' p gs gk bm N cs ck n S K D ∧ Below W.heap.size W w' := by
  have HB := Aside0.mk (Below.refl W.heap.size W)
  go_enter Try.func15, Try.ntmps15
  go_wp2_with (first | ((with_reducible refine gate_dst (N := 2) rfl ?_); refine box_event ?hg (N := 2) ?hd (cs := #[.pointer (some ⟨p, 0, none⟩)]) (t := 37) ?hr ?_; (case hd => rfl); (case hg => rfl); (case hr => first | (go_simp; done) | (go_simp; rfl)); intro g2 hg w1_ hbox hb; have n0_ := Aside0.mk (below_step (by repeat (first | (with_reducible first | exact HB.out | apply below_alloc | apply pw_below_drewN | apply below_drew1) | exact HB.out)) hb); have n1_ := Aside0.mk hbox; have n2_ := Aside0.mk ((by rw [hg]; exact (below_size (by repeat (first | (with_reducible first | exact HB.out | apply below_alloc | apply pw_below_drewN | apply below_drew1) | exact HB.out)))) : W.heap.size ≤ g2); clear HB; have HB := n0_; have BK2 := n1_; have GE2 := n2_; clear n0_ n1_ n2_; clear hb hbox hg; have hc2_0 : w1_.cell? ⟨g2, 0, none⟩ = some (.pointer (some ⟨p, 0, none⟩)) := (blk_cell BK2.out 0).trans rfl; have hf2_0 := blk_frozen BK2.out 0) | ((with_reducible refine gate_dst (N := 3) rfl ?_); refine box_event ?hg (N := 3) ?hd (cs := #[.int .i64 a]) (t := 3) ?hr ?_; (case hd => rfl); (case hg => rfl); (case hr => first | (go_simp; done) | (go_simp; rfl)); intro g3 hg w2_ hbox hb; have n0_ := Aside0.mk (below_step (by repeat (first | (with_reducible first | exact HB.out | apply below_alloc | apply pw_below_drewN | apply below_drew1 | refine below_set ?_ GE2.out) | exact HB.out)) hb); have n1_ := Aside0.mk (blk_below (g := g2) (o := .cells #[.pointer (some ⟨p, 0, none⟩)] 37 (0, 0)) (by (with_reducible repeat (first | refine blk_drewN ?_ _ | refine blk_drew ?_ | refine blk_alloc ?_ _)); exact BK2.out) hb); have n2_ := Aside0.mk hbox; have n3_ := Aside0.mk ((by rw [hg]; exact (below_size (by repeat (first | (with_reducible first | exact HB.out | apply below_alloc | apply pw_below_drewN | apply below_drew1 | refine below_set ?_ GE2.out) | exact HB.out)))) : W.heap.size ≤ g3); have n4_ := Aside0.mk ((by rw [hg]; exact Nat.ne_of_lt (blk_lt (g := g2) (o := .cells #[.pointer (some ⟨p, 0, none⟩)] 37 (0, 0)) (by (with_reducible repeat (first | refine blk_drewN ?_ _ | refine blk_drew ?_ | refine blk_alloc ?_ _)); exact BK2.out))) : g2 ≠ g3); clear HB; clear BK2; have HB := n0_; have BK2 := n1_; have BK3 := n2_; have GE3 := n3_; have NE2_3 := n4_; clear n0_ n1_ n2_ n3_ n4_; clear hb hbox hg; have hc2_0 : w2_.cell? ⟨g2, 0, none⟩ = some (.pointer (some ⟨p, 0, none⟩)) := (blk_cell BK2.out 0).trans rfl; have hf2_0 := blk_frozen BK2.out 0; have hc3_0 : w2_.cell? ⟨g3, 0, none⟩ = some (.int .i64 a) := (blk_cell BK3.out 0).trans rfl; have hf3_0 := blk_frozen BK3.out 0) | (go_at_call 29; have hT := h.below HB.out; have hgs := h.lt; have hsz := HB.out.size; have hq2 := BK2.out; have hq3 := BK3.out; refine (at_no w2_ hT a ha _).mono ?_; rintro e w' ⟨rfl, hw⟩; obtain rfl := hw.symm))
  go_ret
  exact ⟨⟨_, rfl⟩, hT, HB.out⟩
set_option maxHeartbeats 2000000 in
theorem flush_in (W : World) {p gs gk bm N cs ck n : Nat} {S K : List Int} {D : DataW Unit} (h : Rg W p gs gk bm N cs ck n S K D) (hn : n < maxLen) (a : Int) (ha64 : 0 ≤ a ∧ a < 64) (hb : thereB N a = true) (i : Nat) (HL : Aside0 (a - a % 8 = i)) (hi : i + 8 ≤ N) (hN : N ≤ 64) (y0 y1 y2 y3 y4 y5 y6 y7 : Int) (HE : Aside0 (Eight S i y0 y1 y2 y3 y4 y5 y6 y7)) (B : Nat) (hBp : B ≤ p) (hBm : B ≤ bm) : Calls Try.prog 15 #[.pointer (some ⟨p, 0, none⟩), .int .i64 a] W fun e w' => (∃ v, e = .returned v) ∧ Rg w' p gs gk bm N cs ck (n + 1) S K (D.put (.int .i64 (i : Int)) (.agg [.lit (.int .u64 y0), .lit (.int .u64 y1), .lit (.int .u64 y2), .lit (.int .u64 y3), .lit (.int .u64 y4), .lit (.int .u64 y5), .lit (.int .u64 y6), .lit (.int .u64 y7)])) ∧ Below B W w' := by
  have HB := Aside0.mk (Below.refl W.heap.size W)
  go_enter Try.func15, Try.ntmps15
  go_wp2_with (first | ((with_reducible refine gate_dst (N := 2) rfl ?_); refine box_event ?hg (N := 2) ?hd (cs := #[.pointer (some ⟨p, 0, none⟩)]) (t := 37) ?hr ?_; (case hd => rfl); (case hg => rfl); (case hr => first | (go_simp; done) | (go_simp; rfl)); intro g2 hg w1_ hbox hb; have n0_ := Aside0.mk (below_step (by repeat (first | (with_reducible first | exact HB.out | apply below_alloc | apply pw_below_drewN | apply below_drew1) | exact HB.out)) hb); have n1_ := Aside0.mk hbox; have n2_ := Aside0.mk ((by rw [hg]; exact (below_size (by repeat (first | (with_reducible first | exact HB.out | apply below_alloc | apply pw_below_drewN | apply below_drew1) | exact HB.out)))) : W.heap.size ≤ g2); clear HB; have HB := n0_; have BK2 := n1_; have GE2 := n2_; clear n0_ n1_ n2_; clear hb hbox hg; have hc2_0 : w1_.cell? ⟨g2, 0, none⟩ = some (.pointer (some ⟨p, 0, none⟩)) := (blk_cell BK2.out 0).trans rfl; have hf2_0 := blk_frozen BK2.out 0) | ((with_reducible refine gate_dst (N := 3) rfl ?_); refine box_event ?hg (N := 3) ?hd (cs := #[.int .i64 a]) (t := 3) ?hr ?_; (case hd => rfl); (case hg => rfl); (case hr => first | (go_simp; done) | (go_simp; rfl)); intro g3 hg w2_ hbox hb; have n0_ := Aside0.mk (below_step (by repeat (first | (with_reducible first | exact HB.out | apply below_alloc | apply pw_below_drewN | apply below_drew1 | refine below_set ?_ GE2.out) | exact HB.out)) hb); have n1_ := Aside0.mk (blk_below (g := g2) (o := .cells #[.pointer (some ⟨p, 0, none⟩)] 37 (0, 0)) (by (with_reducible repeat (first | refine blk_drewN ?_ _ | refine blk_drew ?_ | refine blk_alloc ?_ _)); exact BK2.out) hb); have n2_ := Aside0.mk hbox; have n3_ := Aside0.mk ((by rw [hg]; exact (below_size (by repeat (first | (with_reducible first | exact HB.out | apply below_alloc | apply pw_below_drewN | apply below_drew1 | refine below_set ?_ GE2.out) | exact HB.out)))) : W.heap.size ≤ g3); have n4_ := Aside0.mk ((by rw [hg]; exact Nat.ne_of_lt (blk_lt (g := g2) (o := .cells #[.pointer (some ⟨p, 0, none⟩)] 37 (0, 0)) (by (with_reducible repeat (first | refine blk_drewN ?_ _ | refine blk_drew ?_ | refine blk_alloc ?_ _)); exact BK2.out))) : g2 ≠ g3); clear HB; clear BK2; have HB := n0_; have BK2 := n1_; have BK3 := n2_; have GE3 := n3_; have NE2_3 := n4_; clear n0_ n1_ n2_ n3_ n4_; clear hb hbox hg; have hc2_0 : w2_.cell? ⟨g2, 0, none⟩ = some (.pointer (some ⟨p, 0, none⟩)) := (blk_cell BK2.out 0).trans rfl; have hf2_0 := blk_frozen BK2.out 0; have hc3_0 : w2_.cell? ⟨g3, 0, none⟩ = some (.int .i64 a) := (blk_cell BK3.out 0).trans rfl; have hf3_0 := blk_frozen BK3.out 0) | (go_at_call 29; have hT := h.below HB.out; have hgs := h.lt; have hsz := HB.out.size; have hq2 := BK2.out; have hq3 := BK3.out; refine (at_flush w2_ hT a hb _ _ (fun w' => Rg w' p gs gk bm N cs ck (n + 1) S K (D.put (.int .i64 (i : Int)) (.agg [.lit (.int .u64 y0), .lit (.int .u64 y1), .lit (.int .u64 y2), .lit (.int .u64 y3), .lit (.int .u64 y4), .lit (.int .u64 y5), .lit (.int .u64 y6), .lit (.int .u64 y7)])) ∧ Below B w2_ w') ((flush1 w2_ hT hn a ha64 i HL hi hN y0 y1 y2 y3 y4 y5 y6 y7 HE g2 g3 hq2 hq3 ⟨by have := GE2.out; omega, by have := GE3.out; omega⟩ B (by omega) hBm)) (fun w1 hw => hw.1.step_cell)).mono ?_; rintro e w5 ⟨rfl, w1, st, ⟨hR1, hB1⟩, rfl⟩))
  go_ret
  have hb1 : Below B W w2_ := HB.out.mono (by omega)
  exact ⟨⟨_, rfl⟩, hR1.step st, (hb1.trans hB1).setCell (p := ⟨p, 3, none⟩) hBp _⟩
set_option maxHeartbeats 4000000 in
set_option maxRecDepth 100000 in
theorem keep_calls (W : World) {p gs gk bm N cs ck n : Nat} {S K : List Int} {D : DataW Unit} (h : Rg W p gs gk bm N cs ck n S K D) (i : Nat) (hi : i + 8 ≤ N) (hN : N ≤ 64) (y0 y1 y2 y3 y4 y5 y6 y7 : Int) :
    Calls Try.prog 35 #[.pointer (some ⟨p, 0, none⟩), .int .i64 (i : Int), .agg #[.int .u64 y0, .int .u64 y1, .int .u64 y2, .int .u64 y3, .int .u64 y4, .int .u64 y5, .int .u64 y6, .int .u64 y7]] W fun e w' => (∃ v, e = .returned v) ∧ Rg w' p gs gk bm N cs ck n S (putL K i [y0, y1, y2, y3, y4, y5, y6, y7]) D ∧ W.grownBy w' (some gk) := by
  obtain ⟨st, hp⟩ := h.tp
  have hu := Try.underlying68
  have hu7 := Try.underlying70
  have hlt := h.lt
  have HB := Aside0.mk (Below.refl W.heap.size W)
  have HH := Aside0.mk h
  have HP := Aside0.mk hp
  obtain ⟨cur, _, hsz, hNc, hcm, _⟩ := h.rk.cur
  clear h hp hsz
  go_enter Try.func35, Try.ntmps35
  go_upto_region 1 with (first | ((with_reducible refine gate_dst (N := 5) rfl ?_); refine box_event ?hg (N := 5) ?hd (cs := #[.int .u64 y0, .int .u64 y1, .int .u64 y2, .int .u64 y3, .int .u64 y4, .int .u64 y5, .int .u64 y6, .int .u64 y7]) (t := 70) ?hr ?_; (case hd => rfl); (case hg => rfl); (case hr => first | (go_simp; done) | (go_simp; rfl)); intro g5 hg w1_ hbox hb; have n0_ := Aside0.mk (below_step (by repeat (first | (with_reducible first | exact HB.out | apply below_alloc | apply pw_below_drewN | apply below_drew1) | exact HB.out)) hb); have n1_ := Aside0.mk hbox; have n2_ := Aside0.mk ((by rw [hg]; exact (below_size (by repeat (first | (with_reducible first | exact HB.out | apply below_alloc | apply pw_below_drewN | apply below_drew1) | exact HB.out)))) : W.heap.size ≤ g5); clear HB; have HB := n0_; have BK5 := n1_; have GE5 := n2_; clear n0_ n1_ n2_; clear hb hbox hg; have hc5_0 : w1_.cell? ⟨g5, 0, none⟩ = some (.int .u64 y0) := (blk_cell BK5.out 0).trans rfl; have hf5_0 := blk_frozen BK5.out 0; have hc5_1 : w1_.cell? ⟨g5, 1, none⟩ = some (.int .u64 y1) := (blk_cell BK5.out 1).trans rfl; have hf5_1 := blk_frozen BK5.out 1; have hc5_2 : w1_.cell? ⟨g5, 2, none⟩ = some (.int .u64 y2) := (blk_cell BK5.out 2).trans rfl; have hf5_2 := blk_frozen BK5.out 2; have hc5_3 : w1_.cell? ⟨g5, 3, none⟩ = some (.int .u64 y3) := (blk_cell BK5.out 3).trans rfl; have hf5_3 := blk_frozen BK5.out 3; have hc5_4 : w1_.cell? ⟨g5, 4, none⟩ = some (.int .u64 y4) := (blk_cell BK5.out 4).trans rfl; have hf5_4 := blk_frozen BK5.out 4; have hc5_5 : w1_.cell? ⟨g5, 5, none⟩ = some (.int .u64 y5) := (blk_cell BK5.out 5).trans rfl; have hf5_5 := blk_frozen BK5.out 5; have hc5_6 : w1_.cell? ⟨g5, 6, none⟩ = some (.int .u64 y6) := (blk_cell BK5.out 6).trans rfl; have hf5_6 := blk_frozen BK5.out 6; have hc5_7 : w1_.cell? ⟨g5, 7, none⟩ = some (.int .u64 y7) := (blk_cell BK5.out 7).trans rfl; have hf5_7 := blk_frozen BK5.out 7))
  have hT := HH.out.below HB.out
  have h1 : w1_.cell? ⟨p, 1, none⟩ = some (.slice (some ⟨gk, 0, none⟩) N ck) := (blk_cell (blk_below HP.out HB.out) 1).trans rfl
  have hc0 : w1_.cell? ⟨gk, i, none⟩ = some (.int .u64 (K.getD (i + 0) 0)) := hT.rk.cell (i + 0) (by omega)
  have hf0 : w1_.frozen? ⟨gk, i, none⟩ = false := hT.rk.frozen _
  have hc1 : w1_.cell? ⟨gk, i + 1, none⟩ = some (.int .u64 (K.getD (i + 1) 0)) := hT.rk.cell (i + 1) (by omega)
  have hf1 : w1_.frozen? ⟨gk, i + 1, none⟩ = false := hT.rk.frozen _
  have hc2 : w1_.cell? ⟨gk, i + 2, none⟩ = some (.int .u64 (K.getD (i + 2) 0)) := hT.rk.cell (i + 2) (by omega)
  have hf2 : w1_.frozen? ⟨gk, i + 2, none⟩ = false := hT.rk.frozen _
  have hc3 : w1_.cell? ⟨gk, i + 3, none⟩ = some (.int .u64 (K.getD (i + 3) 0)) := hT.rk.cell (i + 3) (by omega)
  have hf3 : w1_.frozen? ⟨gk, i + 3, none⟩ = false := hT.rk.frozen _
  have hc4 : w1_.cell? ⟨gk, i + 4, none⟩ = some (.int .u64 (K.getD (i + 4) 0)) := hT.rk.cell (i + 4) (by omega)
  have hf4 : w1_.frozen? ⟨gk, i + 4, none⟩ = false := hT.rk.frozen _
  have hc5 : w1_.cell? ⟨gk, i + 5, none⟩ = some (.int .u64 (K.getD (i + 5) 0)) := hT.rk.cell (i + 5) (by omega)
  have hf5 : w1_.frozen? ⟨gk, i + 5, none⟩ = false := hT.rk.frozen _
  have hc6 : w1_.cell? ⟨gk, i + 6, none⟩ = some (.int .u64 (K.getD (i + 6) 0)) := hT.rk.cell (i + 6) (by omega)
  have hf6 : w1_.frozen? ⟨gk, i + 6, none⟩ = false := hT.rk.frozen _
  have hc7 : w1_.cell? ⟨gk, i + 7, none⟩ = some (.int .u64 (K.getD (i + 7) 0)) := hT.rk.cell (i + 7) (by omega)
  have hf7 : w1_.frozen? ⟨gk, i + 7, none⟩ = false := hT.rk.frozen _
  have hi0 : (0 : Int) ≤ (i : Int) := by omega
  have hi8 : (i : Int) + 8 ≤ (N : Int) := by omega
  have hiN : i ≤ N := by omega
  have hcki : (ck = i) = False := by simp; omega
  have hcp : (Builtin.copy_ #[64, 64] 3 #[.slice (some ⟨gk, i, none⟩) (N - i) (ck - i), .slice (some ⟨g5, 0, none⟩) 8 8]).run Try.prog w1_.drew = .ok (goInt 8) (w1_.drew.setCells gk i ([y0, y1, y2, y3, y4, y5, y6, y7].map (Value.int .u64))) := by
    refine run_copy_cells w1_.drew 64 64 3 36 gk i (N - i) (ck - i) ⟨g5, 0, none⟩ 8 8 ([y0, y1, y2, y3, y4, y5, y6, y7].map (Value.int .u64)) Try.underlying64 (by kernel_rfl) (by show 8 = min 8 (N - i); omega) ?_ ?_ ?_ ?_
    · intro j v hj
      have hlt : j < 8 := by
        rcases Nat.lt_or_ge j 8 with h | h
        · exact h
        · rw [List.getElem?_eq_none (by simpa using h)] at hj; cases hj
      have h9 : w1_.cell? ⟨g5, j, none⟩ = #[.int .u64 y0, .int .u64 y1, .int .u64 y2, .int .u64 y3, .int .u64 y4, .int .u64 y5, .int .u64 y6, .int .u64 y7][j]? := blk_cell BK5.out j
      have h10 : (#[.int .u64 y0, .int .u64 y1, .int .u64 y2, .int .u64 y3, .int .u64 y4, .int .u64 y5, .int .u64 y6, .int .u64 y7] : Array Value)[j]? = ([y0, y1, y2, y3, y4, y5, y6, y7].map (Value.int .u64))[j]? := by simp
      have h11 : ((⟨g5, 0, none⟩ : Addr).add j) = ⟨g5, j, none⟩ := by unfold Addr.add; split <;> simp_all
      rw [h11]
      exact h9.trans (h10.trans hj)
    · intro j hj
      simp at hj
      show (w1_.cell? ⟨gk, i + j, none⟩).isSome = true
      rw [hT.rk.cell (i + j) (by omega)]
      rfl
    · intro j hj
      exact hT.rk.frozen _
    · intro v hv
      simp at hv
      rcases hv with rfl | rfl | rfl | rfl | rfl | rfl | rfl | rfl <;> rfl
  have HT := Aside0.mk hT
  clear hT
  generalize hWC : w1_.drew.setCells gk i ([y0, y1, y2, y3, y4, y5, y6, y7].map (Value.int .u64)) = wc at hcp
  go_region
  go_end0
  subst hWC
  exact ⟨⟨_, rfl⟩, (HT.out.drewN 1).keepL [y0, y1, y2, y3, y4, y5, y6, y7] i hi, grown_setCells gk _ i _ (below_drew1 HB.out)⟩
end Go.Proofs.Ytpefbnhicfflpaa.Pm
