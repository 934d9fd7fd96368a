/- Block: Read. Conditions: the word is a uint64. -/
import Derived.Test.YtoooapknoobkiaaBl4
namespace Go.Proofs.Ytoooapknoobkiaa.Bl
open Go.RowKit Go.Proofs.YtoooapknoobkiaaW.PrintWords Go.Proofs.YtoooapknoobkiaaW.PrintLast Go.Proofs.YtoooapknoobkiaaW.PrintMore Go.Proofs.Ytoooapknoobkiaa.Pk Go.Proofs.Ytoooapknoobkiaa.Jo Go.Proofs.Ytoooapknoobkiaa.Sp Go.Proofs.Ytoooapknoobkiaa.Pl
set_option linter.unusedVariables false
set_option linter.unusedSimpArgs false
theorem splitW_no (x : Int) (h0 : 0 ≤ x) (h1 : x < 18446744073709551616) (hx : ¬ x < 4294967296) (A : Option Addr) (c : Nat) (w : World) (h : Kd.C (Kd.int .i64) w A 3 [16, 8, 8]) :
    Calls Try.prog 22 #[.slice A 3 c, .int .u64 x] w fun e w' => ∃ A' c', e = .returned (.tuple #[.slice A' 0 c', .bool false]) ∧ Below w.heap.size w w' := by
  have := split_calls A 3 c [16, 8, 8] x w rfl h (fun i => by rcases i with _ | _ | _ | i <;> simp) (by decide) h0
  have e := split_word x.toNat (by omega)
  rw [Int.toNat_of_nonneg h0, if_neg (by omega)] at e
  rw [e] at this
  refine this.mono ?_
  rintro e w' ⟨A', c', rfl, _, _, hb⟩
  exact ⟨A', c', rfl, hb⟩
theorem splitW_yes (x v0 v1 v2 : Int) (h0 : 0 ≤ x) (hx : x < 4294967296) (e0 : v0 = x % 65536) (e1 : v1 = x / 65536 % 256) (e2 : v2 = x / 16777216 % 256) (A : Option Addr) (c : Nat) (w : World) (h : Kd.C (Kd.int .i64) w A 3 [16, 8, 8]) :
    Calls Try.prog 22 #[.slice A 3 c, .int .u64 x] w fun e w' => ∃ ad c', e = .returned (.tuple #[.slice (some ad) 3 c', .bool true]) ∧ w'.cell? ad = some (.int .u64 v0) ∧ w'.cell? (ad.add 1) = some (.int .u64 v1) ∧ w'.cell? (ad.add 2) = some (.int .u64 v2) ∧ Below w.heap.size w w' := by
  have := split_calls A 3 c [16, 8, 8] x w rfl h (fun i => by rcases i with _ | _ | _ | i <;> simp) (by decide) h0
  have e := split_word x.toNat (by omega)
  rw [Int.toNat_of_nonneg h0, if_pos (by omega)] at e
  rw [e] at this
  refine this.mono ?_
  rintro e w' ⟨A', c', rfl, hK, _, hb⟩
  obtain ⟨ad, ea, hx0⟩ := Kd.at_int hK 0 (by decide) (by simp)
  obtain ⟨ad1, ea1, hx1⟩ := Kd.at_int hK 1 (by decide) (by simp)
  obtain ⟨ad2, ea2, hx2⟩ := Kd.at_int hK 2 (by decide) (by simp)
  subst ea
  cases ea1
  cases ea2
  refine ⟨ad, c', rfl, ?_, ?_, ?_, hb⟩
  · have t : ad.add (0 : Int).toNat = ad := by simp [Addr.add]
    rw [t] at hx0
    rw [hx0]
    simp [rd]
    omega
  · rw [show (1 : Int).toNat = 1 from rfl] at hx1
    rw [hx1]
    simp [rd]
    omega
  · rw [show (2 : Int).toNat = 2 from rfl] at hx2
    rw [hx2]
    simp [rd]
    omega
theorem of_calls (n : Int) (w : World) : Calls Try.prog 23 #[.int .i64 n] w fun e w' => e = .returned (.int .i64 (cls n)) ∧ Below w.heap.size w w' := by
  refine (PBlockWords.classes_Of.calls 10 n _ w (cof n)).mono ?_
  rintro e w' ⟨rfl, h⟩
  exact ⟨rfl, by first | exact h | exact h.below⟩

set_option maxHeartbeats 8000000 in
set_option maxRecDepth 100000 in
theorem read_zero (kl : Int) (w : World) : Calls Try.prog 16 #[.int .u64 0, .int .i64 kl] w fun e w' => e = .returned (.tuple #[.agg #[.int .i64 0, .int .i64 0, .int .i64 0], .int .i64 0]) ∧ Below w.heap.size w w' := by
  have hu23 := Try.underlying23
  have HB := Aside0.mk (Below.refl w.heap.size w)
  go_enter Try.func16, Try.ntmps16
  go_wp2_with ((with_reducible refine gate_dst (N := 4) rfl ?_); refine box_event ?hg (N := 4) ?hd (cs := #[.int .i64 0, .int .i64 0, .int .i64 0]) (t := 23) ?hr ?_; (case hd => rfl); (case hg => rfl); (case hr => first | (go_simp; done) | (go_simp; rfl)); intro g4 hg w1_ hbox hb; have n0_ := Aside0.mk (below_step (by repeat (first | (with_reducible first | exact HB.out | apply below_alloc | apply pw_below_drewN | apply below_drew1) | exact HB.out)) hb); have n1_ := Aside0.mk hbox; have n2_ := Aside0.mk ((by rw [hg]; exact (below_size (by repeat (first | (with_reducible first | exact HB.out | apply below_alloc | apply pw_below_drewN | apply below_drew1) | exact HB.out)))) : w.heap.size ≤ g4); clear HB; have HB := n0_; have BK4 := n1_; have GE4 := n2_; clear n0_ n1_ n2_; clear hb hbox hg; have hc4_0 : w1_.cell? ⟨g4, 0, none⟩ = some (.int .i64 0) := (blk_cell BK4.out 0).trans rfl; have hf4_0 := blk_frozen BK4.out 0; have hc4_1 : w1_.cell? ⟨g4, 1, none⟩ = some (.int .i64 0) := (blk_cell BK4.out 1).trans rfl; have hf4_1 := blk_frozen BK4.out 1; have hc4_2 : w1_.cell? ⟨g4, 2, none⟩ = some (.int .i64 0) := (blk_cell BK4.out 2).trans rfl; have hf4_2 := blk_frozen BK4.out 2)
  refine bodyPost_ret (results_ct rfl _ _ g4 23 #[.int .i64 0, .int .i64 0, .int .i64 0] (0, 0) _ rfl (by (with_reducible repeat (first | refine blk_drewN ?_ _ | refine blk_drew ?_ | refine blk_alloc ?_ _)); refine blk_put (cs := #[.int .i64 0, .int .i64 0, .int .i64 0]) ?_ 2 _ rfl; (with_reducible repeat (first | refine blk_drewN ?_ _ | refine blk_drew ?_ | refine blk_alloc ?_ _)); refine blk_put (cs := #[.int .i64 0, .int .i64 0, .int .i64 0]) ?_ 1 _ rfl; (with_reducible repeat (first | refine blk_drewN ?_ _ | refine blk_drew ?_ | refine blk_alloc ?_ _)); refine blk_put (cs := #[.int .i64 0, .int .i64 0, .int .i64 0]) ?_ 0 _ rfl; (with_reducible repeat (first | refine blk_drewN ?_ _ | refine blk_drew ?_ | refine blk_alloc ?_ _)); exact BK4.out) Try.underlying23 rfl (by kernel_rfl)) rfl ?_
  exact ⟨rfl, (by repeat (first | (with_reducible first | exact HB.out | apply below_alloc | apply pw_below_drewN | apply below_drew1 | refine below_set ?_ GE4.out) | exact HB.out))⟩

set_option maxHeartbeats 8000000 in
set_option maxRecDepth 100000 in
theorem read_long (x kl : Int) (w : World) (hz : ¬ x = 0) (h0 : 0 ≤ x) (h1 : x < 18446744073709551616) (hx : ¬ x < 4294967296) : Calls Try.prog 16 #[.int .u64 x, .int .i64 kl] w fun e w' => e = .returned (.tuple #[.agg #[.int .i64 0, .int .i64 0, .int .i64 0], .int .i64 11]) ∧ Below w.heap.size w w' := by
  have hu23 := Try.underlying23
  have HB := Aside0.mk (Below.refl w.heap.size w)
  go_enter Try.func16, Try.ntmps16
  go_wp2_with (first | ((with_reducible refine gate_dst (N := 4) rfl ?_); refine box_event ?hg (N := 4) ?hd (cs := #[.int .i64 0, .int .i64 0, .int .i64 0]) (t := 23) ?hr ?_; (case hd => rfl); (case hg => rfl); (case hr => first | (go_simp; done) | (go_simp; rfl)); intro g4 hg w1_ hbox hb; have n0_ := Aside0.mk (below_step (by repeat (first | (with_reducible first | exact HB.out | apply below_alloc | apply pw_below_drewN | apply below_drew1) | exact HB.out)) hb); have n1_ := Aside0.mk hbox; have n2_ := Aside0.mk ((by rw [hg]; exact (below_size (by repeat (first | (with_reducible first | exact HB.out | apply below_alloc | apply pw_below_drewN | apply below_drew1) | exact HB.out)))) : w.heap.size ≤ g4); clear HB; have HB := n0_; have BK4 := n1_; have GE4 := n2_; clear n0_ n1_ n2_; clear hb hbox hg; have hc4_0 : w1_.cell? ⟨g4, 0, none⟩ = some (.int .i64 0) := (blk_cell BK4.out 0).trans rfl; have hf4_0 := blk_frozen BK4.out 0; have hc4_1 : w1_.cell? ⟨g4, 1, none⟩ = some (.int .i64 0) := (blk_cell BK4.out 1).trans rfl; have hf4_1 := blk_frozen BK4.out 1; have hc4_2 : w1_.cell? ⟨g4, 2, none⟩ = some (.int .i64 0) := (blk_cell BK4.out 2).trans rfl; have hf4_2 := blk_frozen BK4.out 2) | ((with_reducible refine gate_callee (f := 21) rfl ?_); refine goesL_ (some 13) rfl rfl Try.func21 (by kernel_rfl) rfl #[] rfl (by (try simp only [List.map_toArray, List.map_cons, List.map_nil]); first | done | rfl | (simp only [List.length_drop, List.length_take]; rfl)) ?_; (with_reducible refine (widths_calls _).mono ?_); rintro e w2_ ⟨A1_, c1_, rfl, hK, hb⟩; refine ⟨_, rfl, ?_⟩; have n0_ := Aside0.mk (below_step (by repeat (first | (with_reducible first | exact HB.out | apply below_alloc | apply pw_below_drewN | apply below_drew1 | refine below_set ?_ GE4.out) | exact HB.out)) hb); have n1_ := Aside0.mk (blk_below (g := g4) (o := .cells #[.int .i64 0, .int .i64 0, .int .i64 0] 23 (0, 0)) (by (with_reducible repeat (first | refine blk_drewN ?_ _ | refine blk_drew ?_ | refine blk_alloc ?_ _)); exact BK4.out) hb); clear HB; clear BK4; have HB := n0_; have BK4 := n1_; clear n0_ n1_; clear hb; have hc4_0 : w2_.cell? ⟨g4, 0, none⟩ = some (.int .i64 0) := (blk_cell BK4.out 0).trans rfl; have hf4_0 := blk_frozen BK4.out 0; have hc4_1 : w2_.cell? ⟨g4, 1, none⟩ = some (.int .i64 0) := (blk_cell BK4.out 1).trans rfl; have hf4_1 := blk_frozen BK4.out 1; have hc4_2 : w2_.cell? ⟨g4, 2, none⟩ = some (.int .i64 0) := (blk_cell BK4.out 2).trans rfl; have hf4_2 := blk_frozen BK4.out 2; have HK1 := Aside0.mk hK; clear hK) | ((with_reducible refine gate_callee (f := 22) rfl ?_); refine goesL_ (some 15) rfl rfl Try.func22 (by kernel_rfl) rfl #[.slice A1_ 3 c1_, .int .u64 x] rfl (by (try simp only [List.map_toArray, List.map_cons, List.map_nil]); first | done | rfl | (simp only [List.length_drop, List.length_take]; rfl)) ?_; (with_reducible refine (splitW_no x h0 h1 hx A1_ c1_ _ HK1.out).mono ?_); rintro e w3_ ⟨A2_, c2_, rfl, hb⟩; refine ⟨_, rfl, ?_⟩; have n0_ := Aside0.mk (below_step (by repeat (first | (with_reducible first | exact HB.out | apply below_alloc | apply pw_below_drewN | apply below_drew1 | refine below_set ?_ GE4.out) | exact HB.out)) hb); have n1_ := Aside0.mk (blk_below (g := g4) (o := .cells #[.int .i64 0, .int .i64 0, .int .i64 0] 23 (0, 0)) (by (with_reducible repeat (first | refine blk_drewN ?_ _ | refine blk_drew ?_ | refine blk_alloc ?_ _)); exact BK4.out) hb); clear HB; clear BK4; have HB := n0_; have BK4 := n1_; clear n0_ n1_; clear hb; have hc4_0 : w3_.cell? ⟨g4, 0, none⟩ = some (.int .i64 0) := (blk_cell BK4.out 0).trans rfl; have hf4_0 := blk_frozen BK4.out 0; have hc4_1 : w3_.cell? ⟨g4, 1, none⟩ = some (.int .i64 0) := (blk_cell BK4.out 1).trans rfl; have hf4_1 := blk_frozen BK4.out 1; have hc4_2 : w3_.cell? ⟨g4, 2, none⟩ = some (.int .i64 0) := (blk_cell BK4.out 2).trans rfl; have hf4_2 := blk_frozen BK4.out 2))
  refine bodyPost_ret (results_ct rfl _ _ g4 23 #[.int .i64 0, .int .i64 0, .int .i64 0] (0, 0) _ rfl (by (with_reducible repeat (first | refine blk_drewN ?_ _ | refine blk_drew ?_ | refine blk_alloc ?_ _)); refine blk_put (cs := #[.int .i64 0, .int .i64 0, .int .i64 0]) ?_ 2 _ rfl; (with_reducible repeat (first | refine blk_drewN ?_ _ | refine blk_drew ?_ | refine blk_alloc ?_ _)); refine blk_put (cs := #[.int .i64 0, .int .i64 0, .int .i64 0]) ?_ 1 _ rfl; (with_reducible repeat (first | refine blk_drewN ?_ _ | refine blk_drew ?_ | refine blk_alloc ?_ _)); refine blk_put (cs := #[.int .i64 0, .int .i64 0, .int .i64 0]) ?_ 0 _ rfl; (with_reducible repeat (first | refine blk_drewN ?_ _ | refine blk_drew ?_ | refine blk_alloc ?_ _)); exact BK4.out) Try.underlying23 rfl (by kernel_rfl)) rfl ?_
  exact ⟨rfl, (by repeat (first | (with_reducible first | exact HB.out | apply below_alloc | apply pw_below_drewN | apply below_drew1 | refine below_set ?_ GE4.out) | exact HB.out))⟩

set_option maxHeartbeats 8000000 in
set_option maxRecDepth 100000 in
theorem read_no_may (x v0 v1 v2 kl : Int) (w : World) (hz : ¬ x = 0) (h0 : 0 ≤ x) (hx : x < 4294967296) (HE : Aside0 (v0 = x % 65536 ∧ v1 = x / 65536 % 256 ∧ v2 = x / 16777216 % 256)) (r0 : 0 ≤ v0 ∧ v0 < 65536) (r1 : 0 ≤ v1 ∧ v1 < 256) (r2 : 0 ≤ v2 ∧ v2 < 256) (HM : Aside0 (mayO v0 v1 v2 = false)) : Calls Try.prog 16 #[.int .u64 x, .int .i64 kl] w fun e w' => e = .returned (.tuple #[.agg #[.int .i64 0, .int .i64 0, .int .i64 0], .int .i64 11]) ∧ Below w.heap.size w w' := by
  have hu23 := Try.underlying23
  have HB := Aside0.mk (Below.refl w.heap.size w)
  go_enter Try.func16, Try.ntmps16
  go_upto_region 6 with (first | ((with_reducible refine gate_dst (N := 4) rfl ?_); refine box_event ?hg (N := 4) ?hd (cs := #[.int .i64 0, .int .i64 0, .int .i64 0]) (t := 23) ?hr ?_; (case hd => rfl); (case hg => rfl); (case hr => first | (go_simp; done) | (go_simp; rfl)); intro g4 hg w1_ hbox hb; have n0_ := Aside0.mk (below_step (by repeat (first | (with_reducible first | exact HB.out | apply below_alloc | apply pw_below_drewN | apply below_drew1) | exact HB.out)) hb); have n1_ := Aside0.mk hbox; have n2_ := Aside0.mk ((by rw [hg]; exact (below_size (by repeat (first | (with_reducible first | exact HB.out | apply below_alloc | apply pw_below_drewN | apply below_drew1) | exact HB.out)))) : w.heap.size ≤ g4); clear HB; have HB := n0_; have BK4 := n1_; have GE4 := n2_; clear n0_ n1_ n2_; clear hb hbox hg; have hc4_0 : w1_.cell? ⟨g4, 0, none⟩ = some (.int .i64 0) := (blk_cell BK4.out 0).trans rfl; have hf4_0 := blk_frozen BK4.out 0; have hc4_1 : w1_.cell? ⟨g4, 1, none⟩ = some (.int .i64 0) := (blk_cell BK4.out 1).trans rfl; have hf4_1 := blk_frozen BK4.out 1; have hc4_2 : w1_.cell? ⟨g4, 2, none⟩ = some (.int .i64 0) := (blk_cell BK4.out 2).trans rfl; have hf4_2 := blk_frozen BK4.out 2) | ((with_reducible refine gate_callee (f := 21) rfl ?_); refine goesL_ (some 13) rfl rfl Try.func21 (by kernel_rfl) rfl #[] rfl (by (try simp only [List.map_toArray, List.map_cons, List.map_nil]); first | done | rfl | (simp only [List.length_drop, List.length_take]; rfl)) ?_; (with_reducible refine (widths_calls _).mono ?_); rintro e w2_ ⟨A1_, c1_, rfl, hK, hb⟩; refine ⟨_, rfl, ?_⟩; have n0_ := Aside0.mk (below_step (by repeat (first | (with_reducible first | exact HB.out | apply below_alloc | apply pw_below_drewN | apply below_drew1 | refine below_set ?_ GE4.out) | exact HB.out)) hb); have n1_ := Aside0.mk (blk_below (g := g4) (o := .cells #[.int .i64 0, .int .i64 0, .int .i64 0] 23 (0, 0)) (by (with_reducible repeat (first | refine blk_drewN ?_ _ | refine blk_drew ?_ | refine blk_alloc ?_ _)); exact BK4.out) hb); clear HB; clear BK4; have HB := n0_; have BK4 := n1_; clear n0_ n1_; clear hb; have hc4_0 : w2_.cell? ⟨g4, 0, none⟩ = some (.int .i64 0) := (blk_cell BK4.out 0).trans rfl; have hf4_0 := blk_frozen BK4.out 0; have hc4_1 : w2_.cell? ⟨g4, 1, none⟩ = some (.int .i64 0) := (blk_cell BK4.out 1).trans rfl; have hf4_1 := blk_frozen BK4.out 1; have hc4_2 : w2_.cell? ⟨g4, 2, none⟩ = some (.int .i64 0) := (blk_cell BK4.out 2).trans rfl; have hf4_2 := blk_frozen BK4.out 2; have HK1 := Aside0.mk hK; clear hK) | ((with_reducible refine gate_callee (f := 22) rfl ?_); refine goesL_ (some 15) rfl rfl Try.func22 (by kernel_rfl) rfl #[.slice A1_ 3 c1_, .int .u64 x] rfl (by (try simp only [List.map_toArray, List.map_cons, List.map_nil]); first | done | rfl | (simp only [List.length_drop, List.length_take]; rfl)) ?_; (with_reducible refine (splitW_yes x v0 v1 v2 h0 hx HE.out.1 HE.out.2.1 HE.out.2.2 A1_ c1_ _ HK1.out).mono ?_); rintro e w3_ ⟨ad, c2_, rfl, hx0, hx1, hx2, hb⟩; refine ⟨_, rfl, ?_⟩; have n0_ := Aside0.mk (below_step (by repeat (first | (with_reducible first | exact HB.out | apply below_alloc | apply pw_below_drewN | apply below_drew1 | refine below_set ?_ GE4.out) | exact HB.out)) hb); have n1_ := Aside0.mk (blk_below (g := g4) (o := .cells #[.int .i64 0, .int .i64 0, .int .i64 0] 23 (0, 0)) (by (with_reducible repeat (first | refine blk_drewN ?_ _ | refine blk_drew ?_ | refine blk_alloc ?_ _)); exact BK4.out) hb); clear HB; clear BK4; have HB := n0_; have BK4 := n1_; clear n0_ n1_; clear hb))
  have hy1 : w3_.cell? { block := ad.block, off := ad.off + 1 } = some (.int .u64 v1) := hx1
  have hy2 : w3_.cell? { block := ad.block, off := ad.off + 2 } = some (.int .u64 v2) := hx2
  clear hx1 hx2
  have hz0 : (w3_.alloc (.cells #[.int .i64 0, .int .i64 0, .int .i64 0] 23)).cell? ad = some (.int .u64 v0) := (World.cell?_alloc_some _ _ _ (by rw [hx0]; rfl)).trans hx0
  have hz1 : (w3_.alloc (.cells #[.int .i64 0, .int .i64 0, .int .i64 0] 23)).cell? { block := ad.block, off := ad.off + 1 } = some (.int .u64 v1) := (World.cell?_alloc_some _ _ _ (by rw [hy1]; rfl)).trans hy1
  have hz2 : (w3_.alloc (.cells #[.int .i64 0, .int .i64 0, .int .i64 0] 23)).cell? { block := ad.block, off := ad.off + 2 } = some (.int .u64 v2) := (World.cell?_alloc_some _ _ _ (by rw [hy2]; rfl)).trans hy2
  go_region
  clear hx0 hy1 hy2 hz0 hz1 hz2
  have BK8 := Aside0.mk (blk_drew (blk_new w3_ (.cells #[.int .i64 v0, .int .i64 v1, .int .i64 v2] 23)))
  have n1_ := Aside0.mk (blk_drew (blk_alloc BK4.out (.cells #[.int .i64 v0, .int .i64 v1, .int .i64 v2] 23)))
  have n2_ := Aside0.mk (below_drew1 (below_alloc HB.out (.cells #[.int .i64 v0, .int .i64 v1, .int .i64 v2] 23)))
  have NE4_8 := Aside0.mk (Nat.ne_of_lt (blk_lt (g := g4) (o := .cells #[.int .i64 0, .int .i64 0, .int .i64 0] 23 (0, 0)) BK4.out))
  have GE8 := Aside0.mk (below_size HB.out)
  generalize hW : (w3_.alloc (.cells #[.int .i64 v0, .int .i64 v1, .int .i64 v2] 23)).drew = w4_ at BK8 n1_ n2_ ⊢
  generalize hg8 : w3_.heap.size = g8 at BK8 NE4_8 GE8 ⊢
  clear HB BK4 hW hg8
  have HB := n2_
  have BK4 := n1_
  clear n1_ n2_
  clear hc4_0 hf4_0 hc4_1 hf4_1 hc4_2 hf4_2
  have hc4_0 : w4_.cell? ⟨g4, 0, none⟩ = some (.int .i64 0) := (blk_cell BK4.out 0).trans rfl
  have hf4_0 := blk_frozen BK4.out 0
  have hc4_1 : w4_.cell? ⟨g4, 1, none⟩ = some (.int .i64 0) := (blk_cell BK4.out 1).trans rfl
  have hf4_1 := blk_frozen BK4.out 1
  have hc4_2 : w4_.cell? ⟨g4, 2, none⟩ = some (.int .i64 0) := (blk_cell BK4.out 2).trans rfl
  have hf4_2 := blk_frozen BK4.out 2
  have hc8_0 : w4_.cell? ⟨g8, 0, none⟩ = some (.int .i64 v0) := (blk_cell BK8.out 0).trans rfl
  have hf8_0 := blk_frozen BK8.out 0
  have hc8_1 : w4_.cell? ⟨g8, 1, none⟩ = some (.int .i64 v1) := (blk_cell BK8.out 1).trans rfl
  have hf8_1 := blk_frozen BK8.out 1
  have hc8_2 : w4_.cell? ⟨g8, 2, none⟩ = some (.int .i64 v2) := (blk_cell BK8.out 2).trans rfl
  have hf8_2 := blk_frozen BK8.out 2
  go_wp2_with (first | ((with_reducible refine gate_callee (f := 19) rfl ?_); refine goesL_ (some 35) rfl rfl Try.func19 (by kernel_rfl) rfl #[obj v0 v1 v2] rfl (by (try simp only [List.map_toArray, List.map_cons, List.map_nil]); first | done | rfl | (simp only [List.length_drop, List.length_take]; rfl)) ?_; (with_reducible refine (may_calls v0 v1 v2 _).mono ?_); rintro e w5_ ⟨rfl, hb⟩; refine ⟨_, rfl, ?_⟩; have n0_ := Aside0.mk (below_step (by repeat (first | (with_reducible first | exact HB.out | apply below_alloc | apply pw_below_drewN | apply below_drew1 | refine below_set ?_ GE4.out | refine below_set ?_ GE8.out) | exact HB.out)) hb); have n1_ := Aside0.mk (blk_below (g := g4) (o := .cells #[.int .i64 0, .int .i64 0, .int .i64 0] 23 (0, 0)) (by (with_reducible repeat (first | refine blk_drewN ?_ _ | refine blk_drew ?_ | refine blk_alloc ?_ _)); exact BK4.out) hb); have n2_ := Aside0.mk (blk_below (g := g8) (o := .cells #[.int .i64 v0, .int .i64 v1, .int .i64 v2] 23 (0, 0)) (by (with_reducible repeat (first | refine blk_drewN ?_ _ | refine blk_drew ?_ | refine blk_alloc ?_ _)); exact BK8.out) hb); clear HB; clear BK4; clear BK8; have HB := n0_; have BK4 := n1_; have BK8 := n2_; clear n0_ n1_ n2_; clear hb; have hc4_0 : w5_.cell? ⟨g4, 0, none⟩ = some (.int .i64 0) := (blk_cell BK4.out 0).trans rfl; have hf4_0 := blk_frozen BK4.out 0; have hc4_1 : w5_.cell? ⟨g4, 1, none⟩ = some (.int .i64 0) := (blk_cell BK4.out 1).trans rfl; have hf4_1 := blk_frozen BK4.out 1; have hc4_2 : w5_.cell? ⟨g4, 2, none⟩ = some (.int .i64 0) := (blk_cell BK4.out 2).trans rfl; have hf4_2 := blk_frozen BK4.out 2; have hc8_0 : w5_.cell? ⟨g8, 0, none⟩ = some (.int .i64 v0) := (blk_cell BK8.out 0).trans rfl; have hf8_0 := blk_frozen BK8.out 0; have hc8_1 : w5_.cell? ⟨g8, 1, none⟩ = some (.int .i64 v1) := (blk_cell BK8.out 1).trans rfl; have hf8_1 := blk_frozen BK8.out 1; have hc8_2 : w5_.cell? ⟨g8, 2, none⟩ = some (.int .i64 v2) := (blk_cell BK8.out 2).trans rfl; have hf8_2 := blk_frozen BK8.out 2; rw [HM.out]))
  refine bodyPost_ret (results_ct rfl _ _ g4 23 #[.int .i64 0, .int .i64 0, .int .i64 0] (0, 0) _ rfl (by (with_reducible repeat (first | refine blk_drewN ?_ _ | refine blk_drew ?_ | refine blk_alloc ?_ _)); refine blk_put (cs := #[.int .i64 0, .int .i64 0, .int .i64 0]) ?_ 2 _ rfl; (with_reducible repeat (first | refine blk_drewN ?_ _ | refine blk_drew ?_ | refine blk_alloc ?_ _)); refine blk_put (cs := #[.int .i64 0, .int .i64 0, .int .i64 0]) ?_ 1 _ rfl; (with_reducible repeat (first | refine blk_drewN ?_ _ | refine blk_drew ?_ | refine blk_alloc ?_ _)); refine blk_put (cs := #[.int .i64 0, .int .i64 0, .int .i64 0]) ?_ 0 _ rfl; (with_reducible repeat (first | refine blk_drewN ?_ _ | refine blk_drew ?_ | refine blk_alloc ?_ _)); exact BK4.out) Try.underlying23 rfl (by kernel_rfl)) rfl ?_
  exact ⟨rfl, (by repeat (first | (with_reducible first | exact HB.out | apply below_alloc | apply pw_below_drewN | apply below_drew1 | refine below_set ?_ GE4.out | refine below_set ?_ GE8.out) | exact HB.out))⟩

set_option maxHeartbeats 8000000 in
set_option maxRecDepth 100000 in
theorem read_no_class (x v0 v1 v2 kl : Int) (w : World) (hz : ¬ x = 0) (h0 : 0 ≤ x) (hx : x < 4294967296) (HE : Aside0 (v0 = x % 65536 ∧ v1 = x / 65536 % 256 ∧ v2 = x / 16777216 % 256)) (r0 : 0 ≤ v0 ∧ v0 < 65536) (r1 : 0 ≤ v1 ∧ v1 < 256) (r2 : 0 ≤ v2 ∧ v2 < 256) (HM : Aside0 (mayO v0 v1 v2 = true)) (hc : ¬ cls v2 = kl) : Calls Try.prog 16 #[.int .u64 x, .int .i64 kl] w fun e w' => e = .returned (.tuple #[.agg #[.int .i64 0, .int .i64 0, .int .i64 0], .int .i64 11]) ∧ Below w.heap.size w w' := by
  have hu23 := Try.underlying23
  have HB := Aside0.mk (Below.refl w.heap.size w)
  go_enter Try.func16, Try.ntmps16
  go_upto_region 6 with (first | ((with_reducible refine gate_dst (N := 4) rfl ?_); refine box_event ?hg (N := 4) ?hd (cs := #[.int .i64 0, .int .i64 0, .int .i64 0]) (t := 23) ?hr ?_; (case hd => rfl); (case hg => rfl); (case hr => first | (go_simp; done) | (go_simp; rfl)); intro g4 hg w1_ hbox hb; have n0_ := Aside0.mk (below_step (by repeat (first | (with_reducible first | exact HB.out | apply below_alloc | apply pw_below_drewN | apply below_drew1) | exact HB.out)) hb); have n1_ := Aside0.mk hbox; have n2_ := Aside0.mk ((by rw [hg]; exact (below_size (by repeat (first | (with_reducible first | exact HB.out | apply below_alloc | apply pw_below_drewN | apply below_drew1) | exact HB.out)))) : w.heap.size ≤ g4); clear HB; have HB := n0_; have BK4 := n1_; have GE4 := n2_; clear n0_ n1_ n2_; clear hb hbox hg; have hc4_0 : w1_.cell? ⟨g4, 0, none⟩ = some (.int .i64 0) := (blk_cell BK4.out 0).trans rfl; have hf4_0 := blk_frozen BK4.out 0; have hc4_1 : w1_.cell? ⟨g4, 1, none⟩ = some (.int .i64 0) := (blk_cell BK4.out 1).trans rfl; have hf4_1 := blk_frozen BK4.out 1; have hc4_2 : w1_.cell? ⟨g4, 2, none⟩ = some (.int .i64 0) := (blk_cell BK4.out 2).trans rfl; have hf4_2 := blk_frozen BK4.out 2) | ((with_reducible refine gate_callee (f := 21) rfl ?_); refine goesL_ (some 13) rfl rfl Try.func21 (by kernel_rfl) rfl #[] rfl (by (try simp only [List.map_toArray, List.map_cons, List.map_nil]); first | done | rfl | (simp only [List.length_drop, List.length_take]; rfl)) ?_; (with_reducible refine (widths_calls _).mono ?_); rintro e w2_ ⟨A1_, c1_, rfl, hK, hb⟩; refine ⟨_, rfl, ?_⟩; have n0_ := Aside0.mk (below_step (by repeat (first | (with_reducible first | exact HB.out | apply below_alloc | apply pw_below_drewN | apply below_drew1 | refine below_set ?_ GE4.out) | exact HB.out)) hb); have n1_ := Aside0.mk (blk_below (g := g4) (o := .cells #[.int .i64 0, .int .i64 0, .int .i64 0] 23 (0, 0)) (by (with_reducible repeat (first | refine blk_drewN ?_ _ | refine blk_drew ?_ | refine blk_alloc ?_ _)); exact BK4.out) hb); clear HB; clear BK4; have HB := n0_; have BK4 := n1_; clear n0_ n1_; clear hb; have hc4_0 : w2_.cell? ⟨g4, 0, none⟩ = some (.int .i64 0) := (blk_cell BK4.out 0).trans rfl; have hf4_0 := blk_frozen BK4.out 0; have hc4_1 : w2_.cell? ⟨g4, 1, none⟩ = some (.int .i64 0) := (blk_cell BK4.out 1).trans rfl; have hf4_1 := blk_frozen BK4.out 1; have hc4_2 : w2_.cell? ⟨g4, 2, none⟩ = some (.int .i64 0) := (blk_cell BK4.out 2).trans rfl; have hf4_2 := blk_frozen BK4.out 2; have HK1 := Aside0.mk hK; clear hK) | ((with_reducible refine gate_callee (f := 22) rfl ?_); refine goesL_ (some 15) rfl rfl Try.func22 (by kernel_rfl) rfl #[.slice A1_ 3 c1_, .int .u64 x] rfl (by (try simp only [List.map_toArray, List.map_cons, List.map_nil]); first | done | rfl | (simp only [List.length_drop, List.length_take]; rfl)) ?_; (with_reducible refine (splitW_yes x v0 v1 v2 h0 hx HE.out.1 HE.out.2.1 HE.out.2.2 A1_ c1_ _ HK1.out).mono ?_); rintro e w3_ ⟨ad, c2_, rfl, hx0, hx1, hx2, hb⟩; refine ⟨_, rfl, ?_⟩; have n0_ := Aside0.mk (below_step (by repeat (first | (with_reducible first | exact HB.out | apply below_alloc | apply pw_below_drewN | apply below_drew1 | refine below_set ?_ GE4.out) | exact HB.out)) hb); have n1_ := Aside0.mk (blk_below (g := g4) (o := .cells #[.int .i64 0, .int .i64 0, .int .i64 0] 23 (0, 0)) (by (with_reducible repeat (first | refine blk_drewN ?_ _ | refine blk_drew ?_ | refine blk_alloc ?_ _)); exact BK4.out) hb); clear HB; clear BK4; have HB := n0_; have BK4 := n1_; clear n0_ n1_; clear hb))
  have hy1 : w3_.cell? { block := ad.block, off := ad.off + 1 } = some (.int .u64 v1) := hx1
  have hy2 : w3_.cell? { block := ad.block, off := ad.off + 2 } = some (.int .u64 v2) := hx2
  clear hx1 hx2
  have hz0 : (w3_.alloc (.cells #[.int .i64 0, .int .i64 0, .int .i64 0] 23)).cell? ad = some (.int .u64 v0) := (World.cell?_alloc_some _ _ _ (by rw [hx0]; rfl)).trans hx0
  have hz1 : (w3_.alloc (.cells #[.int .i64 0, .int .i64 0, .int .i64 0] 23)).cell? { block := ad.block, off := ad.off + 1 } = some (.int .u64 v1) := (World.cell?_alloc_some _ _ _ (by rw [hy1]; rfl)).trans hy1
  have hz2 : (w3_.alloc (.cells #[.int .i64 0, .int .i64 0, .int .i64 0] 23)).cell? { block := ad.block, off := ad.off + 2 } = some (.int .u64 v2) := (World.cell?_alloc_some _ _ _ (by rw [hy2]; rfl)).trans hy2
  go_region
  clear hx0 hy1 hy2 hz0 hz1 hz2
  have BK8 := Aside0.mk (blk_drew (blk_new w3_ (.cells #[.int .i64 v0, .int .i64 v1, .int .i64 v2] 23)))
  have n1_ := Aside0.mk (blk_drew (blk_alloc BK4.out (.cells #[.int .i64 v0, .int .i64 v1, .int .i64 v2] 23)))
  have n2_ := Aside0.mk (below_drew1 (below_alloc HB.out (.cells #[.int .i64 v0, .int .i64 v1, .int .i64 v2] 23)))
  have NE4_8 := Aside0.mk (Nat.ne_of_lt (blk_lt (g := g4) (o := .cells #[.int .i64 0, .int .i64 0, .int .i64 0] 23 (0, 0)) BK4.out))
  have GE8 := Aside0.mk (below_size HB.out)
  generalize hW : (w3_.alloc (.cells #[.int .i64 v0, .int .i64 v1, .int .i64 v2] 23)).drew = w4_ at BK8 n1_ n2_ ⊢
  generalize hg8 : w3_.heap.size = g8 at BK8 NE4_8 GE8 ⊢
  clear HB BK4 hW hg8
  have HB := n2_
  have BK4 := n1_
  clear n1_ n2_
  clear hc4_0 hf4_0 hc4_1 hf4_1 hc4_2 hf4_2
  have hc4_0 : w4_.cell? ⟨g4, 0, none⟩ = some (.int .i64 0) := (blk_cell BK4.out 0).trans rfl
  have hf4_0 := blk_frozen BK4.out 0
  have hc4_1 : w4_.cell? ⟨g4, 1, none⟩ = some (.int .i64 0) := (blk_cell BK4.out 1).trans rfl
  have hf4_1 := blk_frozen BK4.out 1
  have hc4_2 : w4_.cell? ⟨g4, 2, none⟩ = some (.int .i64 0) := (blk_cell BK4.out 2).trans rfl
  have hf4_2 := blk_frozen BK4.out 2
  have hc8_0 : w4_.cell? ⟨g8, 0, none⟩ = some (.int .i64 v0) := (blk_cell BK8.out 0).trans rfl
  have hf8_0 := blk_frozen BK8.out 0
  have hc8_1 : w4_.cell? ⟨g8, 1, none⟩ = some (.int .i64 v1) := (blk_cell BK8.out 1).trans rfl
  have hf8_1 := blk_frozen BK8.out 1
  have hc8_2 : w4_.cell? ⟨g8, 2, none⟩ = some (.int .i64 v2) := (blk_cell BK8.out 2).trans rfl
  have hf8_2 := blk_frozen BK8.out 2
  go_wp2_with (first | ((with_reducible refine gate_callee (f := 19) rfl ?_); refine goesL_ (some 35) rfl rfl Try.func19 (by kernel_rfl) rfl #[obj v0 v1 v2] rfl (by (try simp only [List.map_toArray, List.map_cons, List.map_nil]); first | done | rfl | (simp only [List.length_drop, List.length_take]; rfl)) ?_; (with_reducible refine (may_calls v0 v1 v2 _).mono ?_); rintro e w5_ ⟨rfl, hb⟩; refine ⟨_, rfl, ?_⟩; have n0_ := Aside0.mk (below_step (by repeat (first | (with_reducible first | exact HB.out | apply below_alloc | apply pw_below_drewN | apply below_drew1 | refine below_set ?_ GE4.out | refine below_set ?_ GE8.out) | exact HB.out)) hb); have n1_ := Aside0.mk (blk_below (g := g4) (o := .cells #[.int .i64 0, .int .i64 0, .int .i64 0] 23 (0, 0)) (by (with_reducible repeat (first | refine blk_drewN ?_ _ | refine blk_drew ?_ | refine blk_alloc ?_ _)); exact BK4.out) hb); have n2_ := Aside0.mk (blk_below (g := g8) (o := .cells #[.int .i64 v0, .int .i64 v1, .int .i64 v2] 23 (0, 0)) (by (with_reducible repeat (first | refine blk_drewN ?_ _ | refine blk_drew ?_ | refine blk_alloc ?_ _)); exact BK8.out) hb); clear HB; clear BK4; clear BK8; have HB := n0_; have BK4 := n1_; have BK8 := n2_; clear n0_ n1_ n2_; clear hb; have hc4_0 : w5_.cell? ⟨g4, 0, none⟩ = some (.int .i64 0) := (blk_cell BK4.out 0).trans rfl; have hf4_0 := blk_frozen BK4.out 0; have hc4_1 : w5_.cell? ⟨g4, 1, none⟩ = some (.int .i64 0) := (blk_cell BK4.out 1).trans rfl; have hf4_1 := blk_frozen BK4.out 1; have hc4_2 : w5_.cell? ⟨g4, 2, none⟩ = some (.int .i64 0) := (blk_cell BK4.out 2).trans rfl; have hf4_2 := blk_frozen BK4.out 2; have hc8_0 : w5_.cell? ⟨g8, 0, none⟩ = some (.int .i64 v0) := (blk_cell BK8.out 0).trans rfl; have hf8_0 := blk_frozen BK8.out 0; have hc8_1 : w5_.cell? ⟨g8, 1, none⟩ = some (.int .i64 v1) := (blk_cell BK8.out 1).trans rfl; have hf8_1 := blk_frozen BK8.out 1; have hc8_2 : w5_.cell? ⟨g8, 2, none⟩ = some (.int .i64 v2) := (blk_cell BK8.out 2).trans rfl; have hf8_2 := blk_frozen BK8.out 2; rw [HM.out]) | (go_at_call 23; (with_reducible refine (of_calls v2 _).mono ?_); rintro e w6_ ⟨rfl, hb⟩; have n0_ := Aside0.mk (below_step (by repeat (first | (with_reducible first | exact HB.out | apply below_alloc | apply pw_below_drewN | apply below_drew1 | refine below_set ?_ GE4.out | refine below_set ?_ GE8.out) | exact HB.out)) hb); have n1_ := Aside0.mk (blk_below (g := g4) (o := .cells #[.int .i64 0, .int .i64 0, .int .i64 0] 23 (0, 0)) (by (with_reducible repeat (first | refine blk_drewN ?_ _ | refine blk_drew ?_ | refine blk_alloc ?_ _)); exact BK4.out) hb); have n2_ := Aside0.mk (blk_below (g := g8) (o := .cells #[.int .i64 v0, .int .i64 v1, .int .i64 v2] 23 (0, 0)) (by (with_reducible repeat (first | refine blk_drewN ?_ _ | refine blk_drew ?_ | refine blk_alloc ?_ _)); exact BK8.out) hb); clear HB; clear BK4; clear BK8; have HB := n0_; have BK4 := n1_; have BK8 := n2_; clear n0_ n1_ n2_; clear hb; have hc4_0 : w6_.cell? ⟨g4, 0, none⟩ = some (.int .i64 0) := (blk_cell BK4.out 0).trans rfl; have hf4_0 := blk_frozen BK4.out 0; have hc4_1 : w6_.cell? ⟨g4, 1, none⟩ = some (.int .i64 0) := (blk_cell BK4.out 1).trans rfl; have hf4_1 := blk_frozen BK4.out 1; have hc4_2 : w6_.cell? ⟨g4, 2, none⟩ = some (.int .i64 0) := (blk_cell BK4.out 2).trans rfl; have hf4_2 := blk_frozen BK4.out 2; have hc8_0 : w6_.cell? ⟨g8, 0, none⟩ = some (.int .i64 v0) := (blk_cell BK8.out 0).trans rfl; have hf8_0 := blk_frozen BK8.out 0; have hc8_1 : w6_.cell? ⟨g8, 1, none⟩ = some (.int .i64 v1) := (blk_cell BK8.out 1).trans rfl; have hf8_1 := blk_frozen BK8.out 1; have hc8_2 : w6_.cell? ⟨g8, 2, none⟩ = some (.int .i64 v2) := (blk_cell BK8.out 2).trans rfl; have hf8_2 := blk_frozen BK8.out 2))
  refine bodyPost_ret (results_ct rfl _ _ g4 23 #[.int .i64 0, .int .i64 0, .int .i64 0] (0, 0) _ rfl (by (with_reducible repeat (first | refine blk_drewN ?_ _ | refine blk_drew ?_ | refine blk_alloc ?_ _)); refine blk_put (cs := #[.int .i64 0, .int .i64 0, .int .i64 0]) ?_ 2 _ rfl; (with_reducible repeat (first | refine blk_drewN ?_ _ | refine blk_drew ?_ | refine blk_alloc ?_ _)); refine blk_put (cs := #[.int .i64 0, .int .i64 0, .int .i64 0]) ?_ 1 _ rfl; (with_reducible repeat (first | refine blk_drewN ?_ _ | refine blk_drew ?_ | refine blk_alloc ?_ _)); refine blk_put (cs := #[.int .i64 0, .int .i64 0, .int .i64 0]) ?_ 0 _ rfl; (with_reducible repeat (first | refine blk_drewN ?_ _ | refine blk_drew ?_ | refine blk_alloc ?_ _)); exact BK4.out) Try.underlying23 rfl (by kernel_rfl)) rfl ?_
  exact ⟨rfl, (by repeat (first | (with_reducible first | exact HB.out | apply below_alloc | apply pw_below_drewN | apply below_drew1 | refine below_set ?_ GE4.out | refine below_set ?_ GE8.out) | exact HB.out))⟩

set_option maxHeartbeats 8000000 in
set_option maxRecDepth 100000 in
theorem read_yes (x v0 v1 v2 : Int) (w : World) (hz : ¬ x = 0) (h0 : 0 ≤ x) (hx : x < 4294967296) (HE : Aside0 (v0 = x % 65536 ∧ v1 = x / 65536 % 256 ∧ v2 = x / 16777216 % 256)) (r0 : 0 ≤ v0 ∧ v0 < 65536) (r1 : 0 ≤ v1 ∧ v1 < 256) (r2 : 0 ≤ v2 ∧ v2 < 256) (HM : Aside0 (mayO v0 v1 v2 = true)) : Calls Try.prog 16 #[.int .u64 x, .int .i64 (cls v2)] w fun e w' => e = .returned (.tuple #[.agg #[.int .i64 v0, .int .i64 v1, .int .i64 v2], .int .i64 0]) ∧ Below w.heap.size w w' := by
  have hu23 := Try.underlying23
  have HB := Aside0.mk (Below.refl w.heap.size w)
  go_enter Try.func16, Try.ntmps16
  go_upto_region 6 with (first | ((with_reducible refine gate_dst (N := 4) rfl ?_); refine box_event ?hg (N := 4) ?hd (cs := #[.int .i64 0, .int .i64 0, .int .i64 0]) (t := 23) ?hr ?_; (case hd => rfl); (case hg => rfl); (case hr => first | (go_simp; done) | (go_simp; rfl)); intro g4 hg w1_ hbox hb; have n0_ := Aside0.mk (below_step (by repeat (first | (with_reducible first | exact HB.out | apply below_alloc | apply pw_below_drewN | apply below_drew1) | exact HB.out)) hb); have n1_ := Aside0.mk hbox; have n2_ := Aside0.mk ((by rw [hg]; exact (below_size (by repeat (first | (with_reducible first | exact HB.out | apply below_alloc | apply pw_below_drewN | apply below_drew1) | exact HB.out)))) : w.heap.size ≤ g4); clear HB; have HB := n0_; have BK4 := n1_; have GE4 := n2_; clear n0_ n1_ n2_; clear hb hbox hg; have hc4_0 : w1_.cell? ⟨g4, 0, none⟩ = some (.int .i64 0) := (blk_cell BK4.out 0).trans rfl; have hf4_0 := blk_frozen BK4.out 0; have hc4_1 : w1_.cell? ⟨g4, 1, none⟩ = some (.int .i64 0) := (blk_cell BK4.out 1).trans rfl; have hf4_1 := blk_frozen BK4.out 1; have hc4_2 : w1_.cell? ⟨g4, 2, none⟩ = some (.int .i64 0) := (blk_cell BK4.out 2).trans rfl; have hf4_2 := blk_frozen BK4.out 2) | ((with_reducible refine gate_callee (f := 21) rfl ?_); refine goesL_ (some 13) rfl rfl Try.func21 (by kernel_rfl) rfl #[] rfl (by (try simp only [List.map_toArray, List.map_cons, List.map_nil]); first | done | rfl | (simp only [List.length_drop, List.length_take]; rfl)) ?_; (with_reducible refine (widths_calls _).mono ?_); rintro e w2_ ⟨A1_, c1_, rfl, hK, hb⟩; refine ⟨_, rfl, ?_⟩; have n0_ := Aside0.mk (below_step (by repeat (first | (with_reducible first | exact HB.out | apply below_alloc | apply pw_below_drewN | apply below_drew1 | refine below_set ?_ GE4.out) | exact HB.out)) hb); have n1_ := Aside0.mk (blk_below (g := g4) (o := .cells #[.int .i64 0, .int .i64 0, .int .i64 0] 23 (0, 0)) (by (with_reducible repeat (first | refine blk_drewN ?_ _ | refine blk_drew ?_ | refine blk_alloc ?_ _)); exact BK4.out) hb); clear HB; clear BK4; have HB := n0_; have BK4 := n1_; clear n0_ n1_; clear hb; have hc4_0 : w2_.cell? ⟨g4, 0, none⟩ = some (.int .i64 0) := (blk_cell BK4.out 0).trans rfl; have hf4_0 := blk_frozen BK4.out 0; have hc4_1 : w2_.cell? ⟨g4, 1, none⟩ = some (.int .i64 0) := (blk_cell BK4.out 1).trans rfl; have hf4_1 := blk_frozen BK4.out 1; have hc4_2 : w2_.cell? ⟨g4, 2, none⟩ = some (.int .i64 0) := (blk_cell BK4.out 2).trans rfl; have hf4_2 := blk_frozen BK4.out 2; have HK1 := Aside0.mk hK; clear hK) | ((with_reducible refine gate_callee (f := 22) rfl ?_); refine goesL_ (some 15) rfl rfl Try.func22 (by kernel_rfl) rfl #[.slice A1_ 3 c1_, .int .u64 x] rfl (by (try simp only [List.map_toArray, List.map_cons, List.map_nil]); first | done | rfl | (simp only [List.length_drop, List.length_take]; rfl)) ?_; (with_reducible refine (splitW_yes x v0 v1 v2 h0 hx HE.out.1 HE.out.2.1 HE.out.2.2 A1_ c1_ _ HK1.out).mono ?_); rintro e w3_ ⟨ad, c2_, rfl, hx0, hx1, hx2, hb⟩; refine ⟨_, rfl, ?_⟩; have n0_ := Aside0.mk (below_step (by repeat (first | (with_reducible first | exact HB.out | apply below_alloc | apply pw_below_drewN | apply below_drew1 | refine below_set ?_ GE4.out) | exact HB.out)) hb); have n1_ := Aside0.mk (blk_below (g := g4) (o := .cells #[.int .i64 0, .int .i64 0, .int .i64 0] 23 (0, 0)) (by (with_reducible repeat (first | refine blk_drewN ?_ _ | refine blk_drew ?_ | refine blk_alloc ?_ _)); exact BK4.out) hb); clear HB; clear BK4; have HB := n0_; have BK4 := n1_; clear n0_ n1_; clear hb))
  have hy1 : w3_.cell? { block := ad.block, off := ad.off + 1 } = some (.int .u64 v1) := hx1
  have hy2 : w3_.cell? { block := ad.block, off := ad.off + 2 } = some (.int .u64 v2) := hx2
  clear hx1 hx2
  have hz0 : (w3_.alloc (.cells #[.int .i64 0, .int .i64 0, .int .i64 0] 23)).cell? ad = some (.int .u64 v0) := (World.cell?_alloc_some _ _ _ (by rw [hx0]; rfl)).trans hx0
  have hz1 : (w3_.alloc (.cells #[.int .i64 0, .int .i64 0, .int .i64 0] 23)).cell? { block := ad.block, off := ad.off + 1 } = some (.int .u64 v1) := (World.cell?_alloc_some _ _ _ (by rw [hy1]; rfl)).trans hy1
  have hz2 : (w3_.alloc (.cells #[.int .i64 0, .int .i64 0, .int .i64 0] 23)).cell? { block := ad.block, off := ad.off + 2 } = some (.int .u64 v2) := (World.cell?_alloc_some _ _ _ (by rw [hy2]; rfl)).trans hy2
  go_region
  clear hx0 hy1 hy2 hz0 hz1 hz2
  have BK8 := Aside0.mk (blk_drew (blk_new w3_ (.cells #[.int .i64 v0, .int .i64 v1, .int .i64 v2] 23)))
  have n1_ := Aside0.mk (blk_drew (blk_alloc BK4.out (.cells #[.int .i64 v0, .int .i64 v1, .int .i64 v2] 23)))
  have n2_ := Aside0.mk (below_drew1 (below_alloc HB.out (.cells #[.int .i64 v0, .int .i64 v1, .int .i64 v2] 23)))
  have NE4_8 := Aside0.mk (Nat.ne_of_lt (blk_lt (g := g4) (o := .cells #[.int .i64 0, .int .i64 0, .int .i64 0] 23 (0, 0)) BK4.out))
  have GE8 := Aside0.mk (below_size HB.out)
  generalize hW : (w3_.alloc (.cells #[.int .i64 v0, .int .i64 v1, .int .i64 v2] 23)).drew = w4_ at BK8 n1_ n2_ ⊢
  generalize hg8 : w3_.heap.size = g8 at BK8 NE4_8 GE8 ⊢
  clear HB BK4 hW hg8
  have HB := n2_
  have BK4 := n1_
  clear n1_ n2_
  clear hc4_0 hf4_0 hc4_1 hf4_1 hc4_2 hf4_2
  have hc4_0 : w4_.cell? ⟨g4, 0, none⟩ = some (.int .i64 0) := (blk_cell BK4.out 0).trans rfl
  have hf4_0 := blk_frozen BK4.out 0
  have hc4_1 : w4_.cell? ⟨g4, 1, none⟩ = some (.int .i64 0) := (blk_cell BK4.out 1).trans rfl
  have hf4_1 := blk_frozen BK4.out 1
  have hc4_2 : w4_.cell? ⟨g4, 2, none⟩ = some (.int .i64 0) := (blk_cell BK4.out 2).trans rfl
  have hf4_2 := blk_frozen BK4.out 2
  have hc8_0 : w4_.cell? ⟨g8, 0, none⟩ = some (.int .i64 v0) := (blk_cell BK8.out 0).trans rfl
  have hf8_0 := blk_frozen BK8.out 0
  have hc8_1 : w4_.cell? ⟨g8, 1, none⟩ = some (.int .i64 v1) := (blk_cell BK8.out 1).trans rfl
  have hf8_1 := blk_frozen BK8.out 1
  have hc8_2 : w4_.cell? ⟨g8, 2, none⟩ = some (.int .i64 v2) := (blk_cell BK8.out 2).trans rfl
  have hf8_2 := blk_frozen BK8.out 2
  go_wp2_with (first | ((with_reducible refine gate_callee (f := 19) rfl ?_); refine goesL_ (some 35) rfl rfl Try.func19 (by kernel_rfl) rfl #[obj v0 v1 v2] rfl (by (try simp only [List.map_toArray, List.map_cons, List.map_nil]); first | done | rfl | (simp only [List.length_drop, List.length_take]; rfl)) ?_; (with_reducible refine (may_calls v0 v1 v2 _).mono ?_); rintro e w5_ ⟨rfl, hb⟩; refine ⟨_, rfl, ?_⟩; have n0_ := Aside0.mk (below_step (by repeat (first | (with_reducible first | exact HB.out | apply below_alloc | apply pw_below_drewN | apply below_drew1 | refine below_set ?_ GE4.out | refine below_set ?_ GE8.out) | exact HB.out)) hb); have n1_ := Aside0.mk (blk_below (g := g4) (o := .cells #[.int .i64 0, .int .i64 0, .int .i64 0] 23 (0, 0)) (by (with_reducible repeat (first | refine blk_drewN ?_ _ | refine blk_drew ?_ | refine blk_alloc ?_ _)); exact BK4.out) hb); have n2_ := Aside0.mk (blk_below (g := g8) (o := .cells #[.int .i64 v0, .int .i64 v1, .int .i64 v2] 23 (0, 0)) (by (with_reducible repeat (first | refine blk_drewN ?_ _ | refine blk_drew ?_ | refine blk_alloc ?_ _)); exact BK8.out) hb); clear HB; clear BK4; clear BK8; have HB := n0_; have BK4 := n1_; have BK8 := n2_; clear n0_ n1_ n2_; clear hb; have hc4_0 : w5_.cell? ⟨g4, 0, none⟩ = some (.int .i64 0) := (blk_cell BK4.out 0).trans rfl; have hf4_0 := blk_frozen BK4.out 0; have hc4_1 : w5_.cell? ⟨g4, 1, none⟩ = some (.int .i64 0) := (blk_cell BK4.out 1).trans rfl; have hf4_1 := blk_frozen BK4.out 1; have hc4_2 : w5_.cell? ⟨g4, 2, none⟩ = some (.int .i64 0) := (blk_cell BK4.out 2).trans rfl; have hf4_2 := blk_frozen BK4.out 2; have hc8_0 : w5_.cell? ⟨g8, 0, none⟩ = some (.int .i64 v0) := (blk_cell BK8.out 0).trans rfl; have hf8_0 := blk_frozen BK8.out 0; have hc8_1 : w5_.cell? ⟨g8, 1, none⟩ = some (.int .i64 v1) := (blk_cell BK8.out 1).trans rfl; have hf8_1 := blk_frozen BK8.out 1; have hc8_2 : w5_.cell? ⟨g8, 2, none⟩ = some (.int .i64 v2) := (blk_cell BK8.out 2).trans rfl; have hf8_2 := blk_frozen BK8.out 2; rw [HM.out]) | (go_at_call 23; (with_reducible refine (of_calls v2 _).mono ?_); rintro e w6_ ⟨rfl, hb⟩; have n0_ := Aside0.mk (below_step (by repeat (first | (with_reducible first | exact HB.out | apply below_alloc | apply pw_below_drewN | apply below_drew1 | refine below_set ?_ GE4.out | refine below_set ?_ GE8.out) | exact HB.out)) hb); have n1_ := Aside0.mk (blk_below (g := g4) (o := .cells #[.int .i64 0, .int .i64 0, .int .i64 0] 23 (0, 0)) (by (with_reducible repeat (first | refine blk_drewN ?_ _ | refine blk_drew ?_ | refine blk_alloc ?_ _)); exact BK4.out) hb); have n2_ := Aside0.mk (blk_below (g := g8) (o := .cells #[.int .i64 v0, .int .i64 v1, .int .i64 v2] 23 (0, 0)) (by (with_reducible repeat (first | refine blk_drewN ?_ _ | refine blk_drew ?_ | refine blk_alloc ?_ _)); exact BK8.out) hb); clear HB; clear BK4; clear BK8; have HB := n0_; have BK4 := n1_; have BK8 := n2_; clear n0_ n1_ n2_; clear hb; have hc4_0 : w6_.cell? ⟨g4, 0, none⟩ = some (.int .i64 0) := (blk_cell BK4.out 0).trans rfl; have hf4_0 := blk_frozen BK4.out 0; have hc4_1 : w6_.cell? ⟨g4, 1, none⟩ = some (.int .i64 0) := (blk_cell BK4.out 1).trans rfl; have hf4_1 := blk_frozen BK4.out 1; have hc4_2 : w6_.cell? ⟨g4, 2, none⟩ = some (.int .i64 0) := (blk_cell BK4.out 2).trans rfl; have hf4_2 := blk_frozen BK4.out 2; have hc8_0 : w6_.cell? ⟨g8, 0, none⟩ = some (.int .i64 v0) := (blk_cell BK8.out 0).trans rfl; have hf8_0 := blk_frozen BK8.out 0; have hc8_1 : w6_.cell? ⟨g8, 1, none⟩ = some (.int .i64 v1) := (blk_cell BK8.out 1).trans rfl; have hf8_1 := blk_frozen BK8.out 1; have hc8_2 : w6_.cell? ⟨g8, 2, none⟩ = some (.int .i64 v2) := (blk_cell BK8.out 2).trans rfl; have hf8_2 := blk_frozen BK8.out 2))
  refine bodyPost_ret (results_ct rfl _ _ g4 23 #[.int .i64 v0, .int .i64 v1, .int .i64 v2] (0, 0) _ rfl (by (with_reducible repeat (first | refine blk_drewN ?_ _ | refine blk_drew ?_ | refine blk_alloc ?_ _)); refine blk_put (cs := #[.int .i64 v0, .int .i64 v1, .int .i64 0]) ?_ 2 _ rfl; (with_reducible repeat (first | refine blk_drewN ?_ _ | refine blk_drew ?_ | refine blk_alloc ?_ _)); refine blk_put (cs := #[.int .i64 v0, .int .i64 0, .int .i64 0]) ?_ 1 _ rfl; (with_reducible repeat (first | refine blk_drewN ?_ _ | refine blk_drew ?_ | refine blk_alloc ?_ _)); refine blk_put (cs := #[.int .i64 0, .int .i64 0, .int .i64 0]) ?_ 0 _ rfl; (with_reducible repeat (first | refine blk_drewN ?_ _ | refine blk_drew ?_ | refine blk_alloc ?_ _)); exact BK4.out) Try.underlying23 rfl (by kernel_rfl)) rfl ?_
  exact ⟨rfl, (by repeat (first | (with_reducible first | exact HB.out | apply below_alloc | apply pw_below_drewN | apply below_drew1 | refine below_set ?_ GE4.out | refine below_set ?_ GE8.out) | exact HB.out))⟩

theorem read_calls (x kl : Int) (h0 : 0 ≤ x) (h1 : x < 18446744073709551616) (w : World) : Calls Try.prog 16 #[.int .u64 x, .int .i64 kl] w fun e w' => e = .returned (.tuple #[obj (readV x kl).1.1 (readV x kl).1.2.1 (readV x kl).1.2.2, .int .i64 (readV x kl).2]) ∧ Below w.heap.size w w' := by
  unfold readV
  by_cases hx : x = 0
  · subst hx
    exact read_zero kl w
  · rw [if_neg hx]
    by_cases hl : x < 4294967296
    · have t0 : 0 ≤ x % 65536 ∧ x % 65536 < 65536 := by omega
      have t1 : 0 ≤ x / 65536 % 256 ∧ x / 65536 % 256 < 256 := by omega
      have t2 : 0 ≤ x / 16777216 % 256 ∧ x / 16777216 % 256 < 256 := by omega
      have E : Aside0 (x % 65536 = x % 65536 ∧ x / 65536 % 256 = x / 65536 % 256 ∧ x / 16777216 % 256 = x / 16777216 % 256) := Aside0.mk ⟨rfl, rfl, rfl⟩
      cases hm : mayO (x % 65536) (x / 65536 % 256) (x / 16777216 % 256) with
      | false =>
        rw [if_neg (fun h => by simp at h)]
        exact read_no_may x _ _ _ kl w hx h0 hl E t0 t1 t2 (Aside0.mk hm)
      | true =>
        by_cases hc : cls (x / 16777216 % 256) = kl
        · rw [if_pos ⟨hl, rfl, hc⟩]
          subst hc
          exact read_yes x _ _ _ w hx h0 hl E t0 t1 t2 (Aside0.mk hm)
        · rw [if_neg (fun h => hc h.2.2)]
          exact read_no_class x _ _ _ kl w hx h0 hl E t0 t1 t2 (Aside0.mk hm) hc
    · rw [if_neg (fun h => hl h.1)]
      exact read_long x kl w hx h0 h1 hl

end Go.Proofs.Ytoooapknoobkiaa.Bl
