/- Pmem: an operation of the law; the document's examples. -/
import Derived.Test.YtpefbnhicfflpaaPm16
namespace Go.Proofs.Ytpefbnhicfflpaa.Pm
open Go.RowKit Go.Maps Go.ChangeMaps Go.MapKept Go.Proofs.YtpefbnhicfflpaaW.PrintWords Go.Proofs.YtpefbnhicfflpaaW.PrintLast Go.Proofs.YtpefbnhicfflpaaW.PrintMore
set_option linter.unusedSimpArgs false
set_option linter.unusedVariables false
theorem Post.mono {W0 W : World} {B p N : Nat} {S K : List Int} {D : DataW Unit} {n : Nat} {ok ok' : Nat → Prop} {w' : World} (h : Post W B p N S K D n ok w') (hb : Below W0.heap.size W0 W) (hB : B ≤ W0.heap.size) (ho : ∀ j, ok' j → ok j) : Post W0 B p N S K D n ok' w' := by
  obtain ⟨S', K', D', n', h1, h2, h3, h4, h5⟩ := h
  exact ⟨S', K', D', n', h1, h2, h3, fun j x hj hk => h4 j x hj (ho j hk), (hb.mono hB).trans h5⟩

set_option maxHeartbeats 2000000 in
theorem do_3 (W : World) {B p N : Nat} {S K : List Int} {D : DataW Unit} {n : Nat} (h : St W B p N S K D n) (hD : WFD N D) (hN : N ≤ 64) (hN0 : 0 < N) (hN8 : N % 8 = 0) (hn : n ≤ 1000) {A : Option Addr} {m c : Nat} (hPL : PL W B A m) (kd a x : Int) (hk0 : 0 ≤ kd) (HC : Aside0 (kd % 8 = 3)) :
    Calls Try.prog 13 #[.pointer (some ⟨p, 0, none⟩), .agg #[.int .u8 kd, .int .i64 a, .int .u64 x, .slice A m c]] W fun e w' => (∃ v, e = .returned v) ∧ Post W B p N S K D n (fun j => kd % 8 > 2 ∨ (j : Int) ≠ a) w' := by
  have HB := Aside0.mk (Below.refl W.heap.size W)
  have PL0 := Aside0.mk hPL
  have hq3 : (kd % 8 == 3) = true := by rw [HC.out]; rfl
  clear hPL
  go_enter Try.func13, Try.ntmps13
  go_wp2_with (first | ((with_reducible refine gate_dst (N := 3) rfl ?_); refine box_event ?hg (N := 3) ?hd (cs := #[.int .u8 kd, .int .i64 a, .int .u64 x, .slice A m c]) (t := 41) ?hr ?_; (case hd => rfl); (case hg => rfl); (case hr => first | (go_simp; done) | (go_simp; rfl)); intro g3 hg w1_ hbox hb; have n0_ := Aside0.mk (below_step (by repeat (first | (with_reducible first | exact HB.out | apply below_alloc | apply pw_below_drewN | apply below_drew1) | exact HB.out)) hb); have n1_ := Aside0.mk hbox; have n2_ := Aside0.mk ((by rw [hg]; exact (below_size (by repeat (first | (with_reducible first | exact HB.out | apply below_alloc | apply pw_below_drewN | apply below_drew1) | exact HB.out)))) : W.heap.size ≤ g3); clear HB; have HB := n0_; have BK3 := n1_; have GE3 := n2_; clear n0_ n1_ n2_; clear hb hbox hg; have hc3_0 : w1_.cell? ⟨g3, 0, none⟩ = some (.int .u8 kd) := (blk_cell BK3.out 0).trans rfl; have hf3_0 := blk_frozen BK3.out 0; have hc3_1 : w1_.cell? ⟨g3, 1, none⟩ = some (.int .i64 a) := (blk_cell BK3.out 1).trans rfl; have hf3_1 := blk_frozen BK3.out 1; have hc3_2 : w1_.cell? ⟨g3, 2, none⟩ = some (.int .u64 x) := (blk_cell BK3.out 2).trans rfl; have hf3_2 := blk_frozen BK3.out 2; have hc3_3 : w1_.cell? ⟨g3, 3, none⟩ = some (.slice A m c) := (blk_cell BK3.out 3).trans rfl; have hf3_3 := blk_frozen BK3.out 3) | (go_at_call 19; have hT := h.below HB.out; refine (step_load _ hT hD a).mono ?_; rintro e w5 ⟨⟨v, rfl⟩, hP⟩))
  go_end0
  exact ⟨⟨_, rfl⟩, hP.mono HB.out h.lt (fun _ _ => trivial)⟩
set_option maxHeartbeats 2000000 in
theorem do_4 (W : World) {B p N : Nat} {S K : List Int} {D : DataW Unit} {n : Nat} (h : St W B p N S K D n) (hD : WFD N D) (hN : N ≤ 64) (hN0 : 0 < N) (hN8 : N % 8 = 0) (hn : n ≤ 1000) {A : Option Addr} {m c : Nat} (hPL : PL W B A m) (kd a x : Int) (hk0 : 0 ≤ kd) (HC : Aside0 (kd % 8 = 4)) :
    Calls Try.prog 13 #[.pointer (some ⟨p, 0, none⟩), .agg #[.int .u8 kd, .int .i64 a, .int .u64 x, .slice A m c]] W fun e w' => (∃ v, e = .returned v) ∧ Post W B p N S K D n (fun j => kd % 8 > 2 ∨ (j : Int) ≠ a) w' := by
  have HB := Aside0.mk (Below.refl W.heap.size W)
  have PL0 := Aside0.mk hPL
  have hq3 : (kd % 8 == 3) = false := by simp; have := HC.out; omega
  have hq4 : (kd % 8 == 4) = true := by rw [HC.out]; rfl
  clear hPL
  go_enter Try.func13, Try.ntmps13
  go_wp2_with (first | ((with_reducible refine gate_dst (N := 3) rfl ?_); refine box_event ?hg (N := 3) ?hd (cs := #[.int .u8 kd, .int .i64 a, .int .u64 x, .slice A m c]) (t := 41) ?hr ?_; (case hd => rfl); (case hg => rfl); (case hr => first | (go_simp; done) | (go_simp; rfl)); intro g3 hg w1_ hbox hb; have n0_ := Aside0.mk (below_step (by repeat (first | (with_reducible first | exact HB.out | apply below_alloc | apply pw_below_drewN | apply below_drew1) | exact HB.out)) hb); have n1_ := Aside0.mk hbox; have n2_ := Aside0.mk ((by rw [hg]; exact (below_size (by repeat (first | (with_reducible first | exact HB.out | apply below_alloc | apply pw_below_drewN | apply below_drew1) | exact HB.out)))) : W.heap.size ≤ g3); clear HB; have HB := n0_; have BK3 := n1_; have GE3 := n2_; clear n0_ n1_ n2_; clear hb hbox hg; have hc3_0 : w1_.cell? ⟨g3, 0, none⟩ = some (.int .u8 kd) := (blk_cell BK3.out 0).trans rfl; have hf3_0 := blk_frozen BK3.out 0; have hc3_1 : w1_.cell? ⟨g3, 1, none⟩ = some (.int .i64 a) := (blk_cell BK3.out 1).trans rfl; have hf3_1 := blk_frozen BK3.out 1; have hc3_2 : w1_.cell? ⟨g3, 2, none⟩ = some (.int .u64 x) := (blk_cell BK3.out 2).trans rfl; have hf3_2 := blk_frozen BK3.out 2; have hc3_3 : w1_.cell? ⟨g3, 3, none⟩ = some (.slice A m c) := (blk_cell BK3.out 3).trans rfl; have hf3_3 := blk_frozen BK3.out 3) | (go_at_call 15; have hT := h.below HB.out; refine (step_flush _ hT hD hN hN8 hn a).mono ?_; rintro e w5 ⟨⟨v, rfl⟩, hP⟩))
  go_end0
  exact ⟨⟨_, rfl⟩, hP.mono HB.out h.lt (fun _ _ => trivial)⟩
set_option maxHeartbeats 2000000 in
theorem do_5 (W : World) {B p N : Nat} {S K : List Int} {D : DataW Unit} {n : Nat} (h : St W B p N S K D n) (hD : WFD N D) (hN : N ≤ 64) (hN0 : 0 < N) (hN8 : N % 8 = 0) (hn : n ≤ 1000) {A : Option Addr} {m c : Nat} (hPL : PL W B A m) (kd a x : Int) (hk0 : 0 ≤ kd) (HC : Aside0 (kd % 8 = 5)) :
    Calls Try.prog 13 #[.pointer (some ⟨p, 0, none⟩), .agg #[.int .u8 kd, .int .i64 a, .int .u64 x, .slice A m c]] W fun e w' => (∃ v, e = .returned v) ∧ Post W B p N S K D n (fun j => kd % 8 > 2 ∨ (j : Int) ≠ a) w' := by
  have HB := Aside0.mk (Below.refl W.heap.size W)
  have PL0 := Aside0.mk hPL
  have hq3 : (kd % 8 == 3) = false := by simp; have := HC.out; omega
  have hq4 : (kd % 8 == 4) = false := by simp; have := HC.out; omega
  have hq5 : (kd % 8 == 5) = true := by rw [HC.out]; rfl
  clear hPL
  go_enter Try.func13, Try.ntmps13
  go_wp2_with (first | ((with_reducible refine gate_dst (N := 3) rfl ?_); refine box_event ?hg (N := 3) ?hd (cs := #[.int .u8 kd, .int .i64 a, .int .u64 x, .slice A m c]) (t := 41) ?hr ?_; (case hd => rfl); (case hg => rfl); (case hr => first | (go_simp; done) | (go_simp; rfl)); intro g3 hg w1_ hbox hb; have n0_ := Aside0.mk (below_step (by repeat (first | (with_reducible first | exact HB.out | apply below_alloc | apply pw_below_drewN | apply below_drew1) | exact HB.out)) hb); have n1_ := Aside0.mk hbox; have n2_ := Aside0.mk ((by rw [hg]; exact (below_size (by repeat (first | (with_reducible first | exact HB.out | apply below_alloc | apply pw_below_drewN | apply below_drew1) | exact HB.out)))) : W.heap.size ≤ g3); clear HB; have HB := n0_; have BK3 := n1_; have GE3 := n2_; clear n0_ n1_ n2_; clear hb hbox hg; have hc3_0 : w1_.cell? ⟨g3, 0, none⟩ = some (.int .u8 kd) := (blk_cell BK3.out 0).trans rfl; have hf3_0 := blk_frozen BK3.out 0; have hc3_1 : w1_.cell? ⟨g3, 1, none⟩ = some (.int .i64 a) := (blk_cell BK3.out 1).trans rfl; have hf3_1 := blk_frozen BK3.out 1; have hc3_2 : w1_.cell? ⟨g3, 2, none⟩ = some (.int .u64 x) := (blk_cell BK3.out 2).trans rfl; have hf3_2 := blk_frozen BK3.out 2; have hc3_3 : w1_.cell? ⟨g3, 3, none⟩ = some (.slice A m c) := (blk_cell BK3.out 3).trans rfl; have hf3_3 := blk_frozen BK3.out 3) | (go_at_call 16; have hT := h.below HB.out; refine (step_fence _ hT hD hN hN0).mono ?_; rintro e w5 ⟨⟨v, rfl⟩, K', hS5, hK5, hB5⟩))
  go_end0
  exact ⟨⟨_, rfl⟩, S, K', _, 0, hS5, by omega, wfd_nil N, fun j x hj _ hk => keep_fence hk (hK5 j hj), (HB.out.mono h.lt).trans hB5⟩
set_option maxHeartbeats 2000000 in
theorem do_6 (W : World) {B p N : Nat} {S K : List Int} {D : DataW Unit} {n : Nat} (h : St W B p N S K D n) (hD : WFD N D) (hN : N ≤ 64) (hN0 : 0 < N) (hN8 : N % 8 = 0) (hn : n ≤ 1000) {A : Option Addr} {m c : Nat} (hPL : PL W B A m) (kd a x : Int) (hk0 : 0 ≤ kd) (HC : Aside0 (kd % 8 = 6)) :
    Calls Try.prog 13 #[.pointer (some ⟨p, 0, none⟩), .agg #[.int .u8 kd, .int .i64 a, .int .u64 x, .slice A m c]] W fun e w' => (∃ v, e = .returned v) ∧ Post W B p N S K D n (fun j => kd % 8 > 2 ∨ (j : Int) ≠ a) w' := by
  have HB := Aside0.mk (Below.refl W.heap.size W)
  have PL0 := Aside0.mk hPL
  have hq3 : (kd % 8 == 3) = false := by simp; have := HC.out; omega
  have hq4 : (kd % 8 == 4) = false := by simp; have := HC.out; omega
  have hq5 : (kd % 8 == 5) = false := by simp; have := HC.out; omega
  have hq6 : (kd % 8 == 6) = true := by rw [HC.out]; rfl
  clear hPL
  go_enter Try.func13, Try.ntmps13
  go_wp2_with (first | ((with_reducible refine gate_dst (N := 3) rfl ?_); refine box_event ?hg (N := 3) ?hd (cs := #[.int .u8 kd, .int .i64 a, .int .u64 x, .slice A m c]) (t := 41) ?hr ?_; (case hd => rfl); (case hg => rfl); (case hr => first | (go_simp; done) | (go_simp; rfl)); intro g3 hg w1_ hbox hb; have n0_ := Aside0.mk (below_step (by repeat (first | (with_reducible first | exact HB.out | apply below_alloc | apply pw_below_drewN | apply below_drew1) | exact HB.out)) hb); have n1_ := Aside0.mk hbox; have n2_ := Aside0.mk ((by rw [hg]; exact (below_size (by repeat (first | (with_reducible first | exact HB.out | apply below_alloc | apply pw_below_drewN | apply below_drew1) | exact HB.out)))) : W.heap.size ≤ g3); clear HB; have HB := n0_; have BK3 := n1_; have GE3 := n2_; clear n0_ n1_ n2_; clear hb hbox hg; have hc3_0 : w1_.cell? ⟨g3, 0, none⟩ = some (.int .u8 kd) := (blk_cell BK3.out 0).trans rfl; have hf3_0 := blk_frozen BK3.out 0; have hc3_1 : w1_.cell? ⟨g3, 1, none⟩ = some (.int .i64 a) := (blk_cell BK3.out 1).trans rfl; have hf3_1 := blk_frozen BK3.out 1; have hc3_2 : w1_.cell? ⟨g3, 2, none⟩ = some (.int .u64 x) := (blk_cell BK3.out 2).trans rfl; have hf3_2 := blk_frozen BK3.out 2; have hc3_3 : w1_.cell? ⟨g3, 3, none⟩ = some (.slice A m c) := (blk_cell BK3.out 3).trans rfl; have hf3_3 := blk_frozen BK3.out 3) | (go_at_call 28; have hT := h.below HB.out; refine (step_evict _ hT hD hN hN8 hn a).mono ?_; rintro e w5 ⟨⟨v, rfl⟩, hP⟩))
  go_end0
  exact ⟨⟨_, rfl⟩, hP.mono HB.out h.lt (fun _ _ => trivial)⟩
set_option maxHeartbeats 2000000 in
theorem do_7 (W : World) {B p N : Nat} {S K : List Int} {D : DataW Unit} {n : Nat} (h : St W B p N S K D n) (hD : WFD N D) (hN : N ≤ 64) (hN0 : 0 < N) (hN8 : N % 8 = 0) (hn : n ≤ 1000) {A : Option Addr} {m c : Nat} (hPL : PL W B A m) (kd a x : Int) (hk0 : 0 ≤ kd) (HC : Aside0 (kd % 8 = 7)) :
    Calls Try.prog 13 #[.pointer (some ⟨p, 0, none⟩), .agg #[.int .u8 kd, .int .i64 a, .int .u64 x, .slice A m c]] W fun e w' => (∃ v, e = .returned v) ∧ Post W B p N S K D n (fun j => kd % 8 > 2 ∨ (j : Int) ≠ a) w' := by
  have HB := Aside0.mk (Below.refl W.heap.size W)
  have PL0 := Aside0.mk hPL
  have hq3 : (kd % 8 == 3) = false := by simp; have := HC.out; omega
  have hq4 : (kd % 8 == 4) = false := by simp; have := HC.out; omega
  have hq5 : (kd % 8 == 5) = false := by simp; have := HC.out; omega
  have hq6 : (kd % 8 == 6) = false := by simp; have := HC.out; omega
  have hq7 : (kd % 8 == 7) = true := by rw [HC.out]; rfl
  clear hPL
  go_enter Try.func13, Try.ntmps13
  go_wp2_with (first | ((with_reducible refine gate_dst (N := 3) rfl ?_); refine box_event ?hg (N := 3) ?hd (cs := #[.int .u8 kd, .int .i64 a, .int .u64 x, .slice A m c]) (t := 41) ?hr ?_; (case hd => rfl); (case hg => rfl); (case hr => first | (go_simp; done) | (go_simp; rfl)); intro g3 hg w1_ hbox hb; have n0_ := Aside0.mk (below_step (by repeat (first | (with_reducible first | exact HB.out | apply below_alloc | apply pw_below_drewN | apply below_drew1) | exact HB.out)) hb); have n1_ := Aside0.mk hbox; have n2_ := Aside0.mk ((by rw [hg]; exact (below_size (by repeat (first | (with_reducible first | exact HB.out | apply below_alloc | apply pw_below_drewN | apply below_drew1) | exact HB.out)))) : W.heap.size ≤ g3); clear HB; have HB := n0_; have BK3 := n1_; have GE3 := n2_; clear n0_ n1_ n2_; clear hb hbox hg; have hc3_0 : w1_.cell? ⟨g3, 0, none⟩ = some (.int .u8 kd) := (blk_cell BK3.out 0).trans rfl; have hf3_0 := blk_frozen BK3.out 0; have hc3_1 : w1_.cell? ⟨g3, 1, none⟩ = some (.int .i64 a) := (blk_cell BK3.out 1).trans rfl; have hf3_1 := blk_frozen BK3.out 1; have hc3_2 : w1_.cell? ⟨g3, 2, none⟩ = some (.int .u64 x) := (blk_cell BK3.out 2).trans rfl; have hf3_2 := blk_frozen BK3.out 2; have hc3_3 : w1_.cell? ⟨g3, 3, none⟩ = some (.slice A m c) := (blk_cell BK3.out 3).trans rfl; have hf3_3 := blk_frozen BK3.out 3) | (go_at_call 18; have hT := h.below HB.out; refine (picks_calls _ (PL0.out.kept (fun q hq => HB.out.block q (by have := h.lt; omega))) (by have := h.lt; have := HB.out.size; omega)).mono ?_; rintro e w4 ⟨bc, bl, rfl, hPk, hb4, hbc, hbl⟩; have T0 := Aside0.mk hT; have PK := Aside0.mk hPk; have HB4 := Aside0.mk hb4; clear hPk hb4 hT) | (go_at_call 17; refine (step_crash _ hN hN0 hN8 PK.out _ T0.out hbc hbl HB4.out).mono ?_; rintro e w5 ⟨⟨v, rfl⟩, K', hS5, _, hK5, hB5⟩))
  go_end0
  exact ⟨⟨_, rfl⟩, K', K', _, 0, hS5, by omega, wfd_nil N, fun j x hj _ hk => keep_crash hk (hK5 j hj), ((HB.out.mono h.lt).trans (HB4.out.mono (by have := h.lt; have := HB.out.size; omega))).trans hB5⟩
set_option maxHeartbeats 2000000 in
theorem do_0 (W : World) {B p N : Nat} {S K : List Int} {D : DataW Unit} {n : Nat} (h : St W B p N S K D n) (hD : WFD N D) (hN : N ≤ 64) (hN0 : 0 < N) (hN8 : N % 8 = 0) (hn : n ≤ 1000) {A : Option Addr} {m c : Nat} (hPL : PL W B A m) (kd a x : Int) (hk0 : 0 ≤ kd) (HC : Aside0 (¬ kd % 8 > 2)) :
    Calls Try.prog 13 #[.pointer (some ⟨p, 0, none⟩), .agg #[.int .u8 kd, .int .i64 a, .int .u64 x, .slice A m c]] W fun e w' => (∃ v, e = .returned v) ∧ Post W B p N S K D n (fun j => kd % 8 > 2 ∨ (j : Int) ≠ a) w' := by
  have HB := Aside0.mk (Below.refl W.heap.size W)
  have PL0 := Aside0.mk hPL
  have hq3 : (kd % 8 == 3) = false := by simp; have := HC.out; omega
  have hq4 : (kd % 8 == 4) = false := by simp; have := HC.out; omega
  have hq5 : (kd % 8 == 5) = false := by simp; have := HC.out; omega
  have hq6 : (kd % 8 == 6) = false := by simp; have := HC.out; omega
  have hq7 : (kd % 8 == 7) = false := by simp; have := HC.out; omega
  clear hPL
  go_enter Try.func13, Try.ntmps13
  go_wp2_with (first | ((with_reducible refine gate_dst (N := 3) rfl ?_); refine box_event ?hg (N := 3) ?hd (cs := #[.int .u8 kd, .int .i64 a, .int .u64 x, .slice A m c]) (t := 41) ?hr ?_; (case hd => rfl); (case hg => rfl); (case hr => first | (go_simp; done) | (go_simp; rfl)); intro g3 hg w1_ hbox hb; have n0_ := Aside0.mk (below_step (by repeat (first | (with_reducible first | exact HB.out | apply below_alloc | apply pw_below_drewN | apply below_drew1) | exact HB.out)) hb); have n1_ := Aside0.mk hbox; have n2_ := Aside0.mk ((by rw [hg]; exact (below_size (by repeat (first | (with_reducible first | exact HB.out | apply below_alloc | apply pw_below_drewN | apply below_drew1) | exact HB.out)))) : W.heap.size ≤ g3); clear HB; have HB := n0_; have BK3 := n1_; have GE3 := n2_; clear n0_ n1_ n2_; clear hb hbox hg; have hc3_0 : w1_.cell? ⟨g3, 0, none⟩ = some (.int .u8 kd) := (blk_cell BK3.out 0).trans rfl; have hf3_0 := blk_frozen BK3.out 0; have hc3_1 : w1_.cell? ⟨g3, 1, none⟩ = some (.int .i64 a) := (blk_cell BK3.out 1).trans rfl; have hf3_1 := blk_frozen BK3.out 1; have hc3_2 : w1_.cell? ⟨g3, 2, none⟩ = some (.int .u64 x) := (blk_cell BK3.out 2).trans rfl; have hf3_2 := blk_frozen BK3.out 2; have hc3_3 : w1_.cell? ⟨g3, 3, none⟩ = some (.slice A m c) := (blk_cell BK3.out 3).trans rfl; have hf3_3 := blk_frozen BK3.out 3) | (go_at_call 14; have hT := h.below HB.out; refine (step_store _ hT hD a x).mono ?_; rintro e w5 ⟨⟨v, rfl⟩, hP⟩))
  go_end0
  exact ⟨⟨_, rfl⟩, hP.mono HB.out h.lt (fun j hj => by have h0 := HC.out; rcases hj with h1 | h1; exact absurd h1 (by omega); exact h1)⟩
theorem do_calls (W : World) {B p N : Nat} {S K : List Int} {D : DataW Unit} {n : Nat} (h : St W B p N S K D n) (hD : WFD N D) (hN : N ≤ 64) (hN0 : 0 < N) (hN8 : N % 8 = 0) (hn : n ≤ 1000) {A : Option Addr} {m c : Nat} (hPL : PL W B A m) (kd a x : Int) (hk0 : 0 ≤ kd) :
    Calls Try.prog 13 #[.pointer (some ⟨p, 0, none⟩), .agg #[.int .u8 kd, .int .i64 a, .int .u64 x, .slice A m c]] W fun e w' => (∃ v, e = .returned v) ∧ Post W B p N S K D n (fun j => kd % 8 > 2 ∨ (j : Int) ≠ a) w' := by
  by_cases h0 : ¬ kd % 8 > 2
  · exact do_0 W h hD hN hN0 hN8 hn hPL kd a x hk0 ⟨h0⟩
  · rcases (by omega : kd % 8 = 3 ∨ kd % 8 = 4 ∨ kd % 8 = 5 ∨ kd % 8 = 6 ∨ kd % 8 = 7) with e | e | e | e | e
    · exact do_3 W h hD hN hN0 hN8 hn hPL kd a x hk0 ⟨e⟩
    · exact do_4 W h hD hN hN0 hN8 hn hPL kd a x hk0 ⟨e⟩
    · exact do_5 W h hD hN hN0 hN8 hn hPL kd a x hk0 ⟨e⟩
    · exact do_6 W h hD hN hN0 hN8 hn hPL kd a x hk0 ⟨e⟩
    · exact do_7 W h hD hN hN0 hN8 hn hPL kd a x hk0 ⟨e⟩
theorem store_ex (W : World) {B p N : Nat} {S K : List Int} {D : DataW Unit} {n : Nat} (h : St W B p N S K D n) (a : Nat) (x : Int) (ha : a < N) : Calls Try.prog 14 #[.pointer (some ⟨p, 0, none⟩), .int .i64 (a : Int), .int .u64 x] W fun e w' => (∃ v, e = .returned v) ∧ (∃ S', St w' B p N S' K D n ∧ S'.getD a 0 = x) ∧ Below B W w' := by
  obtain ⟨gs, gk, bm, cs, ck, h1, h2⟩ := h
  refine (store_in W h1 (a : Int) x ⟨by omega, by omega⟩ (decide_eq_true ⟨by omega, by omega⟩) B h2.1 h2.2.1).mono ?_
  rintro e w' ⟨hv, hR, hB⟩
  refine ⟨hv, ⟨_, ⟨gs, gk, bm, cs, ck, hR, h2⟩, ?_⟩, hB⟩
  rw [Int.toNat_natCast, set_at _ _ _ _ (by rw [h1.rs.len]; exact ha), if_pos rfl]
theorem flush_ex (W : World) {B p N : Nat} {S K : List Int} {D : DataW Unit} {n : Nat} (h : St W B p N S K D n) (hD : WFD N D) (hN : N ≤ 64) (hN8 : N % 8 = 0) (hn : n ≤ 1000) (a : Nat) (ha : a < N) : Calls Try.prog 15 #[.pointer (some ⟨p, 0, none⟩), .int .i64 (a : Int)] W fun e w' => (∃ v, e = .returned v) ∧ (∃ D', St w' B p N S K D' (n + 1) ∧ WFD N D' ∧ pendAt D' a = some (S.getD a 0)) ∧ Below B W w' := by
  obtain ⟨gs, gk, bm, cs, ck, h1, h2⟩ := h
  obtain ⟨i, hi⟩ : ∃ i : Nat, (a : Int) - (a : Int) % 8 = i := ⟨((a : Int) - (a : Int) % 8).toNat, by omega⟩
  have hi8 : i + 8 ≤ N := by omega
  refine (flush_in W h1 (by simp only [maxLen]; omega) (a : Int) ⟨by omega, by omega⟩ (decide_eq_true ⟨by omega, by omega⟩) i ⟨hi⟩ hi8 hN (S.getD (i + 0) 0) (S.getD (i + 1) 0) (S.getD (i + 2) 0) (S.getD (i + 3) 0) (S.getD (i + 4) 0) (S.getD (i + 5) 0) (S.getD (i + 6) 0) (S.getD (i + 7) 0) ⟨⟨rfl, rfl, rfl, rfl, rfl, rfl, rfl, rfl⟩⟩ B h2.1 h2.2.2.2).mono ?_
  rintro e w' ⟨hv, hR, hB⟩
  refine ⟨hv, ⟨_, ⟨gs, gk, bm, cs, ck, hR, h2⟩, wfd_put hD i (by omega) hi8 _, ?_⟩, hB⟩
  rw [pend_put hD.map, if_pos (by omega), word_eight S i (a % 8) (by omega), show i + a % 8 = a by omega]
theorem load_ex (W : World) {B p N : Nat} {S K : List Int} {D : DataW Unit} {n : Nat} (h : St W B p N S K D n) (a : Nat) (x : Int) (ha : a < N) (hx : S.getD a 0 = x) : Calls Try.prog 19 #[.pointer (some ⟨p, 0, none⟩), .int .i64 (a : Int)] W fun e w' => e = .returned (.tuple #[.int .u64 x, .int .i64 0]) ∧ St w' B p N S K D n ∧ Below B W w' := by
  obtain ⟨gs, gk, bm, cs, ck, h1, h2⟩ := h
  refine (load_in W h1 (a : Int) x ⟨by omega, by omega⟩ (decide_eq_true ⟨by omega, by omega⟩) ⟨by rw [Int.toNat_natCast]; exact hx⟩ B h2.1).mono ?_
  rintro e w' ⟨rfl, hR, hB⟩
  exact ⟨rfl, ⟨gs, gk, bm, cs, ck, hR, h2⟩, hB⟩
theorem new_St (W : World) (N : Nat) (hN : N = 8 ∨ N = 64) : Calls Try.prog 12 #[.int .i64 (N : Int)] W fun e w' => (∃ p, e = .returned (.pointer (some ⟨p, 0, none⟩)) ∧ St w' W.heap.size p N (List.replicate N 0) (List.replicate N 0) (.map []) 0) ∧ Below W.heap.size W w' := by
  refine (new_calls W N hN).mono ?_
  rintro e w' ⟨p, gs, gk, bm, cs, ck, rfl, hR, hB, l1, l2, l3, l4⟩
  exact ⟨⟨p, rfl, gs, gk, bm, cs, ck, hR, l4, l1, l2, l3⟩, hB⟩
theorem PL_nil (W : World) (B : Nat) : PL W B none 0 := ⟨fun h => absurd h (by decide), fun ad h => by cases h⟩
set_option maxHeartbeats 4000000 in
theorem alive_calls (W : World) : Calls Try.prog 11 #[] W fun e w' => e = .returned (.bool true) ∧ Below W.heap.size W w' := by
  go_enter Try.func11, Try.ntmps11
  go_wp2_with ((first
    | (go_at_call 12; refine (new_St W 8 (Or.inl rfl)).mono ?_; rintro e w1 ⟨⟨p, rfl, h1⟩, b1⟩; have H1 := Aside0.mk h1; have B1 := Aside0.mk b1; clear h1 b1)
    | (go_at_call 14; first
      | (refine (store_ex _ H4.out 3 7 (by decide)).mono ?_; rintro e w7 ⟨⟨v7, rfl⟩, ⟨S7, h7, hs7⟩, b7⟩; have H7 := Aside0.mk h7; have S7_ := Aside0.mk hs7; have B7 := Aside0.mk (B6.out.trans b7); clear h7 hs7 b7)
      | (refine (store_ex _ H1.out 3 7 (by decide)).mono ?_; rintro e w2 ⟨⟨v2, rfl⟩, ⟨S2, h2, hs2⟩, b2⟩; have H2 := Aside0.mk h2; have B2 := Aside0.mk (B1.out.trans b2); clear h2 hs2 b2))
    | (go_at_call 18; first
      | (refine (picks_calls _ (PL_nil _ W.heap.size) B9.out.size).mono ?_; rintro e wa ⟨bc2, bl2, rfl, hPk2, ba, hbc2, hbl2⟩; have PK2 := Aside0.mk hPk2; have BA := Aside0.mk ba; clear hPk2 ba)
      | (refine (picks_calls _ (PL_nil _ W.heap.size) B2.out.size).mono ?_; rintro e w3 ⟨bc, bl, rfl, hPk, b3, hbc, hbl⟩; have PK := Aside0.mk hPk; have B3 := Aside0.mk b3; clear hPk b3))
    | (go_at_call 17; first
      | (refine (step_crash _ (by decide) (by decide) (by decide) PK2.out _ H9.out hbc2 hbl2 BA.out).mono ?_; rintro e wb ⟨⟨vb, rfl⟩, Kb, hb, hKb, _, bb⟩; have HC := Aside0.mk hb; have BC := Aside0.mk ((B9.out.trans (BA.out.mono B9.out.size)).trans bb); have KC := Aside0.mk ((hKb rfl 3).trans K9.out); clear hb hKb bb)
      | (refine (step_crash _ (by decide) (by decide) (by decide) PK.out _ H2.out hbc hbl B3.out).mono ?_; rintro e w4 ⟨⟨v4, rfl⟩, K4, h4, hK4, _, b4⟩; have H4 := Aside0.mk h4; have B4 := Aside0.mk ((B2.out.trans (B3.out.mono B2.out.size)).trans b4); have K4_ := Aside0.mk (hK4 rfl 3); clear h4 hK4 b4))
    | (go_at_call 19; first
      | (refine (load_ex _ HC.out 3 7 (by decide) KC.out).mono ?_; rintro e wd ⟨rfl, hd, bd⟩; have BD := Aside0.mk (BC.out.trans bd); clear hd bd)
      | (refine (load_ex _ H4.out 3 0 (by decide) K4_.out).mono ?_; rintro e w6 ⟨rfl, h6, b6⟩; have H4' := Aside0.mk h6; have B6 := Aside0.mk (B4.out.trans b6); clear H4; have H4 := H4'; clear h6 b6))
    | (go_at_call 15; refine (flush_ex _ H7.out (wfd_nil 8) (by decide) (by decide) (by decide) 3 (by decide)).mono ?_; rintro e w8 ⟨⟨v8, rfl⟩, ⟨D8, h8, hd8, hp8⟩, b8⟩; have H8 := Aside0.mk h8; have D8_ := Aside0.mk hd8; have P8 := Aside0.mk hp8; have B8 := Aside0.mk (B7.out.trans b8); clear h8 hd8 hp8 b8)
    | (go_at_call 16; refine (step_fence _ H8.out D8_.out (by decide) (by decide)).mono ?_; rintro e w9 ⟨⟨v9, rfl⟩, K9, h9, hK9, b9⟩; have H9 := Aside0.mk h9; have K9 := Aside0.mk (show K9.getD 3 0 = 7 from (hK9 3 (by decide)).trans (by rw [P8.out]; exact S7_.out)); have B9 := Aside0.mk (B8.out.trans b9); clear h9 hK9 b9)))

  go_ret
  exact ⟨rfl, BD.out⟩
end Go.Proofs.Ytpefbnhicfflpaa.Pm