/- Diff: Quiet and Count. Condition: the list lies in memory. -/
import Derived.Test.YtekggbmajemmhaaDi5
namespace Go.Proofs.Ytekggbmajemmhaa.Di
open Go.RowKit Go.Shelf Go.Maps Go.ChangeMaps Go.MapKept Go.Proofs.YtekggbmajemmhaaW.PrintWords Go.Proofs.YtekggbmajemmhaaW.PrintLast Go.Proofs.YtekggbmajemmhaaW.PrintMore
set_option linter.unusedSimpArgs false
set_option linter.unusedVariables false
theorem add_block (ad : Addr) (k : Nat) : (ad.add k).block = ad.block := by unfold Addr.add; split <;> rfl
theorem add_zero (ad : Addr) : ad.add 0 = ad := by simp [Addr.add]
/-- A change. -/
structure ChV where
  (k a i was is : Int)
instance : Inhabited ChV := ⟨⟨0, 0, 0, 0, 0⟩⟩
/-- A list of changes that lies in memory ahead of block B. -/
def CL (W : World) (B : Nat) (a : Option Addr) (len : Nat) (F : Nat → ChV) : Prop := ∀ i, i < len → ∃ y, a = some y ∧ y.block < B ∧ W.cell? ((y.add (i * 5)).add 0) = some (.int .i64 (F i).k) ∧ W.cell? ((y.add (i * 5)).add 1) = some (.int .i64 (F i).a) ∧ W.cell? ((y.add (i * 5)).add 2) = some (.int .i64 (F i).i) ∧ W.cell? ((y.add (i * 5)).add 3) = some (.int .u64 (F i).was) ∧ W.cell? ((y.add (i * 5)).add 4) = some (.int .u64 (F i).is)
theorem CL.kept {W W' : World} {B : Nat} {a : Option Addr} {len : Nat} {F : Nat → ChV} (h : CL W B a len F) (hb : ∀ k, k < B → W'.heap[k]? = W.heap[k]?) : CL W' B a len F := fun i hi => by
  obtain ⟨y, h1, h2, h3, h4, h5, h6, h7⟩ := h i hi
  have hk : ∀ j, W'.cell? ((y.add (i * 5)).add j) = W.cell? ((y.add (i * 5)).add j) := fun j => World.cell?_of_block (hb _ (by rw [add_block, add_block]; exact h2))
  exact ⟨y, h1, h2, (hk 0).trans h3, (hk 1).trans h4, (hk 2).trans h5, (hk 3).trans h6, (hk 4).trans h7⟩
theorem CL.mono {W : World} {B B' : Nat} {a : Option Addr} {len : Nat} {F : Nat → ChV} (h : CL W B a len F) (hb : B ≤ B') : CL W B' a len F := fun i hi => by
  obtain ⟨y, h1, h2, h3⟩ := h i hi
  exact ⟨y, h1, Nat.lt_of_lt_of_le h2 hb, h3⟩
/-- Are the first n all written ones? -/
def qF (F : Nat → ChV) : Nat → Bool
  | 0 => true
  | n + 1 => qF F n && decide ((F n).k = 5)
theorem qF_false {F : Nat → ChV} {i : Nat} (h : (F i).k ≠ 5) : ∀ n, i < n → qF F n = false
  | 0, h0 => absurd h0 (by omega)
  | n + 1, h0 => by
    by_cases e : i = n
    · subst e
      simp [qF, h]
    · simp [qF, qF_false h n (by omega)]
theorem quiet1_calls (W : World) (k a i was is : Int) : Calls Try.prog 32 #[.agg #[.int .i64 k, .int .i64 a, .int .i64 i, .int .u64 was, .int .u64 is]] W fun e W' => e = .returned (.bool (k != 5)) ∧ Below W.heap.size W W' := by
  have HB := Aside0.mk (Below.refl W.heap.size W)
  go_enter Try.func32, Try.ntmps32
  go_wp2_with ((with_reducible refine gate_dst (N := 1) rfl ?_); refine box_event ?hg (N := 1) ?hd (cs := #[.int .i64 k, .int .i64 a, .int .i64 i, .int .u64 was, .int .u64 is]) (t := 44) ?hr ?_; (case hd => rfl); (case hg => rfl); (case hr => first | (go_simp; done) | (go_simp; rfl)); intro g1 hg w1_ hbox hb; have n0_ := Aside0.mk (below_step (by repeat (first | (with_reducible first | exact HB.out | apply below_alloc | apply pw_below_drewN | apply below_drew1) | exact HB.out)) hb); have n1_ := Aside0.mk hbox; have n2_ := Aside0.mk ((by rw [hg]; exact (below_size (by repeat (first | (with_reducible first | exact HB.out | apply below_alloc | apply pw_below_drewN | apply below_drew1) | exact HB.out)))) : W.heap.size ≤ g1); clear HB; have HB := n0_; have BK1 := n1_; have GE1 := n2_; clear n0_ n1_ n2_; clear hb hbox hg; have hc1_0 : w1_.cell? ⟨g1, 0, none⟩ = some (.int .i64 k) := (blk_cell BK1.out 0).trans rfl; have hf1_0 := blk_frozen BK1.out 0; have hc1_1 : w1_.cell? ⟨g1, 1, none⟩ = some (.int .i64 a) := (blk_cell BK1.out 1).trans rfl; have hf1_1 := blk_frozen BK1.out 1; have hc1_2 : w1_.cell? ⟨g1, 2, none⟩ = some (.int .i64 i) := (blk_cell BK1.out 2).trans rfl; have hf1_2 := blk_frozen BK1.out 2; have hc1_3 : w1_.cell? ⟨g1, 3, none⟩ = some (.int .u64 was) := (blk_cell BK1.out 3).trans rfl; have hf1_3 := blk_frozen BK1.out 3; have hc1_4 : w1_.cell? ⟨g1, 4, none⟩ = some (.int .u64 is) := (blk_cell BK1.out 4).trans rfl; have hf1_4 := blk_frozen BK1.out 4)
  go_ret
  exact ⟨rfl, HB.out⟩
set_option maxHeartbeats 4000000 in
theorem index_calls (W : World) (a : Option Addr) (len cap : Nat) (F : Nat → ChV) (HC : Aside0 (CL W W.heap.size a len F)) (hlen : len ≤ 9223372036854775807) : Calls Try.prog 51 #[.slice a len cap, .func (.func 32) #[] #[]] W fun e W' => (∃ r : Int, e = .returned (.int .i64 r) ∧ decide (r ≥ 0) = !qF F len) ∧ Below W.heap.size W W' := by
  go_enter Try.func51, Try.ntmps51
  go_wp2
  go_loopw [8] (fun v wr => ∃ i : Nat, i ≤ len ∧ v = .int .i64 (i : Int) ∧ Aside0 (Below W.heap.size W wr) ∧ Aside0 (qF F i = true)) (fun v _ => len - (intOf v).toNat)
  case atStart => exact ⟨0, by omega, rfl, Aside0.mk (Below.refl _ _), Aside0.mk rfl⟩
  case round =>
    obtain ⟨i, hi, rfl, HB, HQ⟩ := hrel
    by_cases hgo : i < len
    · have hd : decide ((i : Int) < (len : Int)) = true := decide_eq_true (by omega)
      obtain ⟨y, e, hyb, hy0, hy1, hy2, hy3, hy4⟩ := (HC.out.kept (fun k hk => HB.out.block k hk)) i hgo
      subst e
      obtain ⟨kd, hkd_⟩ : ∃ k, k = (F i).k := ⟨_, rfl⟩
      obtain ⟨ca, hca_⟩ : ∃ k, k = (F i).a := ⟨_, rfl⟩
      obtain ⟨ci, hci_⟩ : ∃ k, k = (F i).i := ⟨_, rfl⟩
      obtain ⟨cw, hcw_⟩ : ∃ k, k = (F i).was := ⟨_, rfl⟩
      obtain ⟨cs, hcs_⟩ : ∃ k, k = (F i).is := ⟨_, rfl⟩
      rw [add_zero, ← hkd_] at hy0
      rw [← hca_] at hy1
      rw [← hci_] at hy2
      rw [← hcw_] at hy3
      rw [← hcs_] at hy4
      have hz1 : wr.cell? { block := (y.add (i * 5)).block, off := (y.add (i * 5)).off + 1 } = some (.int .i64 ca) := hy1
      have hz2 : wr.cell? { block := (y.add (i * 5)).block, off := (y.add (i * 5)).off + 2 } = some (.int .i64 ci) := hy2
      have hz3 : wr.cell? { block := (y.add (i * 5)).block, off := (y.add (i * 5)).off + 3 } = some (.int .u64 cw) := hy3
      have hz4 : wr.cell? { block := (y.add (i * 5)).block, off := (y.add (i * 5)).off + 4 } = some (.int .u64 cs) := hy4
      clear hy1 hy2 hy3 hy4 hca_ hci_ hcw_ hcs_
      have HKD := Aside0.mk hkd_
      clear hkd_
      have hi0 : (0 : Int) ≤ (i : Int) := by omega
      have hi1 : (i : Int) < (len : Int) := by omega
      by_cases h5 : kd = 5
      · have hq : (kd != 5) = false := by rw [h5]; rfl
        have HQ' := Aside0.mk (show qF F (i + 1) = true by rw [show qF F (i + 1) = (qF F i && decide ((F i).k = 5)) from rfl, HQ.out, ← HKD.out, h5]; rfl)
        clear h5
        go_wp2_with (go_at_call 32; refine (quiet1_calls _ kd ca ci cw cs).mono ?_; rintro e w3 ⟨rfl, hb3⟩; have HB3 := Aside0.mk (below_step HB.out hb3); clear hb3; rw [hq])
        refine ⟨⟨i + 1, by omega, by push_cast; rfl, HB3, HQ'⟩, ?_⟩
        show len - ((i : Int) + 1).toNat < len - (i : Int).toNat
        omega
      · have hq : (kd != 5) = true := by simp; exact h5
        have HQ' := Aside0.mk (show qF F len = false from qF_false (by rw [← HKD.out]; exact h5) len hgo)
        clear h5
        go_wp2_with (go_at_call 32; refine (quiet1_calls _ kd ca ci cw cs).mono ?_; rintro e w3 ⟨rfl, hb3⟩; have HB3 := Aside0.mk (below_step HB.out hb3); clear hb3; rw [hq])
        go_ret
        exact ⟨⟨(i : Int), rfl, by rw [HQ'.out]; simp⟩, HB3.out⟩
    · obtain rfl : i = len := by omega
      have hd : decide ((i : Int) < (i : Int)) = false := decide_eq_false (by omega)
      go_wp2
      go_ret
      exact ⟨⟨-1, rfl, by rw [HQ.out]; rfl⟩, HB.out⟩
theorem contains_calls (W : World) (a : Option Addr) (len cap : Nat) (F : Nat → ChV) (HC : Aside0 (CL W W.heap.size a len F)) (hlen : len ≤ 9223372036854775807) : Calls Try.prog 31 #[.slice a len cap, .func (.func 32) #[] #[]] W fun e W' => e = .returned (.bool (!qF F len)) ∧ Below W.heap.size W W' := by
  go_enter Try.func31, Try.ntmps31
  go_wp2_with (go_at_call 51; refine (index_calls _ a len cap F HC hlen).mono ?_; rintro e w3 ⟨⟨r, rfl, hr⟩, hb⟩)
  go_ret
  exact ⟨rfl, hb⟩
theorem quiet_calls (W : World) (a : Option Addr) (len cap : Nat) (F : Nat → ChV) (HC : Aside0 (CL W W.heap.size a len F)) (hlen : len ≤ 9223372036854775807) : Calls Try.prog 15 #[.slice a len cap] W fun e W' => e = .returned (.bool (qF F len)) ∧ Below W.heap.size W W' := by
  go_enter Try.func15, Try.ntmps15
  go_wp2_with (go_at_call 31; refine (contains_calls _ a len cap F HC hlen).mono ?_; rintro e w3 ⟨rfl, hb⟩)
  go_ret
  exact ⟨by simp, hb⟩
/-- How many of each kind. -/
structure C6 where
  (c0 c1 c2 c3 c4 c5 : Int)
def C6.bump (c : C6) (k : Int) : C6 :=
  if k = 1 then { c with c1 := wrap64 (c.c1 + 1) } else if k = 2 then { c with c2 := wrap64 (c.c2 + 1) } else if k = 3 then { c with c3 := wrap64 (c.c3 + 1) } else if k = 4 then { c with c4 := wrap64 (c.c4 + 1) } else if k = 5 then { c with c5 := wrap64 (c.c5 + 1) } else { c with c0 := wrap64 (c.c0 + 1) }
def cntF (F : Nat → ChV) : Nat → C6
  | 0 => ⟨0, 0, 0, 0, 0, 0⟩
  | n + 1 => (cntF F n).bump (F n).k
abbrev C6.cells (c : C6) : Array Value := #[.int .i64 c.c0, .int .i64 c.c1, .int .i64 c.c2, .int .i64 c.c3, .int .i64 c.c4, .int .i64 c.c5]
theorem bump_out (c : C6) {k : Int} (h : k < 0 ∨ k ≥ 6) : c.bump k = { c with c0 := wrap64 (c.c0 + 1) } := by
  unfold C6.bump
  rw [if_neg (by omega), if_neg (by omega), if_neg (by omega), if_neg (by omega), if_neg (by omega)]
set_option maxHeartbeats 8000000 in
set_option maxRecDepth 100000 in
theorem count_calls (W : World) (a : Option Addr) (len cap : Nat) (F : Nat → ChV) (HC : Aside0 (CL W W.heap.size a len F)) (hlen : len ≤ 9223372036854775807) : Calls Try.prog 13 #[.slice a len cap] W fun e W' => e = .returned (.agg (cntF F len).cells) ∧ Below W.heap.size W W' := by
  have HB := Aside0.mk (Below.refl W.heap.size W)
  go_enter Try.func13, Try.ntmps13
  go_upto_region 2 with (first | ((with_reducible refine gate_dst (N := 2) rfl ?_); refine box_event ?hg (N := 2) ?hd (cs := #[.int .i64 0, .int .i64 0, .int .i64 0, .int .i64 0, .int .i64 0, .int .i64 0]) (t := 34) ?hr ?_; (case hd => rfl); (case hg => rfl); (case hr => first | (go_simp; done) | (go_simp; rfl)); intro g2 hg w1_ hbox hb; have n0_ := Aside0.mk (below_step (by repeat (first | (with_reducible first | exact HB.out | apply below_alloc | apply pw_below_drewN | apply below_drew1) | exact HB.out)) hb); have n1_ := Aside0.mk hbox; have n2_ := Aside0.mk ((by rw [hg]; exact (below_size (by repeat (first | (with_reducible first | exact HB.out | apply below_alloc | apply pw_below_drewN | apply below_drew1) | exact HB.out)))) : W.heap.size ≤ g2); clear HB; have HB := n0_; have BK2 := n1_; have GE2 := n2_; clear n0_ n1_ n2_; clear hb hbox hg) | ((with_reducible refine gate_dst (N := 3) rfl ?_); refine box_event ?hg (N := 3) ?hd (cs := #[.int .i64 0, .int .i64 0, .int .i64 0, .int .i64 0, .int .i64 0, .int .i64 0]) (t := 34) ?hr ?_; (case hd => rfl); (case hg => rfl); (case hr => first | (go_simp; done) | (go_simp; rfl)); intro g3 hg w2_ hbox hb; have n0_ := Aside0.mk (below_step (by repeat (first | (with_reducible first | exact HB.out | apply below_alloc | apply pw_below_drewN | apply below_drew1 | refine below_set ?_ GE2.out) | exact HB.out)) hb); have n1_ := Aside0.mk (blk_below (g := g2) (o := .cells #[.int .i64 0, .int .i64 0, .int .i64 0, .int .i64 0, .int .i64 0, .int .i64 0] 34 (0, 0)) (by (with_reducible repeat (first | refine blk_drewN ?_ _ | refine blk_drew ?_ | refine blk_alloc ?_ _)); exact BK2.out) hb); have n2_ := Aside0.mk hbox; have n3_ := Aside0.mk ((by rw [hg]; exact (below_size (by repeat (first | (with_reducible first | exact HB.out | apply below_alloc | apply pw_below_drewN | apply below_drew1 | refine below_set ?_ GE2.out) | exact HB.out)))) : W.heap.size ≤ g3); have n4_ := Aside0.mk ((by rw [hg]; exact Nat.ne_of_lt (blk_lt (g := g2) (o := .cells #[.int .i64 0, .int .i64 0, .int .i64 0, .int .i64 0, .int .i64 0, .int .i64 0] 34 (0, 0)) (by (with_reducible repeat (first | refine blk_drewN ?_ _ | refine blk_drew ?_ | refine blk_alloc ?_ _)); exact BK2.out))) : g2 ≠ g3); clear HB; clear BK2; have HB := n0_; have BK2 := n1_; have BK3 := n2_; have GE3 := n3_; have NE2_3 := n4_; clear n0_ n1_ n2_ n3_ n4_; clear hb hbox hg))
  go_wp2
  go_loopw [8] (fun v wr => ∃ i : Nat, i ≤ len ∧ v = .int .i64 (i : Int) ∧ Aside0 (Below W.heap.size W wr) ∧ Aside0 (wr.heap[g3]? = some (.cells (cntF F i).cells 34 (0, 0))) ∧ Aside0 (wr.heap[g2]? = some (.cells #[.int .i64 0, .int .i64 0, .int .i64 0, .int .i64 0, .int .i64 0, .int .i64 0] 34 (0, 0)))) (fun v _ => len - (intOf v).toNat)
  case atStart => exact ⟨0, by omega, rfl, HB, BK3, BK2⟩
  case round =>
    clear HB BK2 BK3
    obtain ⟨i, hi, rfl, HBB, BK3, BK2⟩ := hrel
    by_cases hgo : i < len
    · have hd : decide ((i : Int) < (len : Int)) = true := decide_eq_true (by omega)
      obtain ⟨y, e, hyb, hy0, hy1, hy2, hy3, hy4⟩ := (HC.out.kept (fun k hk => HBB.out.block k hk)) i hgo
      subst e
      obtain ⟨kd, hkd_⟩ : ∃ k, k = (F i).k := ⟨_, rfl⟩
      obtain ⟨ca, hca_⟩ : ∃ k, k = (F i).a := ⟨_, rfl⟩
      obtain ⟨ci, hci_⟩ : ∃ k, k = (F i).i := ⟨_, rfl⟩
      obtain ⟨cw, hcw_⟩ : ∃ k, k = (F i).was := ⟨_, rfl⟩
      obtain ⟨cs, hcs_⟩ : ∃ k, k = (F i).is := ⟨_, rfl⟩
      rw [add_zero, ← hkd_] at hy0
      rw [← hca_] at hy1
      rw [← hci_] at hy2
      rw [← hcw_] at hy3
      rw [← hcs_] at hy4
      have hz1 : wr.cell? { block := (y.add (i * 5)).block, off := (y.add (i * 5)).off + 1 } = some (.int .i64 ca) := hy1
      have hz2 : wr.cell? { block := (y.add (i * 5)).block, off := (y.add (i * 5)).off + 2 } = some (.int .i64 ci) := hy2
      have hz3 : wr.cell? { block := (y.add (i * 5)).block, off := (y.add (i * 5)).off + 3 } = some (.int .u64 cw) := hy3
      have hz4 : wr.cell? { block := (y.add (i * 5)).block, off := (y.add (i * 5)).off + 4 } = some (.int .u64 cs) := hy4
      clear hy1 hy2 hy3 hy4 hca_ hci_ hcw_ hcs_
      have HKD := Aside0.mk hkd_
      clear hkd_
      have hi0 : (0 : Int) ≤ (i : Int) := by omega
      have hi1 : (i : Int) < (len : Int) := by omega
      obtain ⟨C, hC⟩ : ∃ C, C = cntF F i := ⟨_, rfl⟩
      rw [← hC] at BK3
      have HN := Aside0.mk (show cntF F (i + 1) = C.bump kd by rw [hC, HKD.out]; rfl)
      clear hC
      obtain ⟨c0, c1, c2, c3, c4, c5⟩ := C
      have HB := Aside0.mk (Below.refl wr.heap.size wr)
      go_upto_region 5 with ((with_reducible refine gate_dst (N := 5) rfl ?_); refine box_event ?hg (N := 5) ?hd (cs := #[.int .i64 0, .int .i64 0, .int .i64 0, .int .u64 0, .int .u64 0]) (t := 44) ?hr ?_; (case hd => rfl); (case hg => rfl); (case hr => first | (go_simp; done) | (go_simp; rfl)); intro g5 hg w1_ hbox hb; have n0_ := Aside0.mk (below_step (by repeat (first | (with_reducible first | exact HB.out | apply below_alloc | apply pw_below_drewN | apply below_drew1) | exact HB.out)) hb); have n1_ := Aside0.mk hbox; have n2_ := Aside0.mk ((by rw [hg]; exact (below_size (by repeat (first | (with_reducible first | exact HB.out | apply below_alloc | apply pw_below_drewN | apply below_drew1) | exact HB.out)))) : wr.heap.size ≤ g5); clear HB; have HB := n0_; have BK5 := n1_; have GE5 := n2_; clear n0_ n1_ n2_; clear hb hbox hg; have hc5_0 : w1_.cell? ⟨g5, 0, none⟩ = some (.int .i64 0) := (blk_cell BK5.out 0).trans rfl; have hf5_0 := blk_frozen BK5.out 0; have hc5_1 : w1_.cell? ⟨g5, 1, none⟩ = some (.int .i64 0) := (blk_cell BK5.out 1).trans rfl; have hf5_1 := blk_frozen BK5.out 1; have hc5_2 : w1_.cell? ⟨g5, 2, none⟩ = some (.int .i64 0) := (blk_cell BK5.out 2).trans rfl; have hf5_2 := blk_frozen BK5.out 2; have hc5_3 : w1_.cell? ⟨g5, 3, none⟩ = some (.int .u64 0) := (blk_cell BK5.out 3).trans rfl; have hf5_3 := blk_frozen BK5.out 3; have hc5_4 : w1_.cell? ⟨g5, 4, none⟩ = some (.int .u64 0) := (blk_cell BK5.out 4).trans rfl; have hf5_4 := blk_frozen BK5.out 4)
      generalize hw_ : (((((w1_.setCell ⟨g5, 0, none⟩ (.int .i64 kd)).setCell ⟨g5, 1, none⟩ (.int .i64 ca)).setCell ⟨g5, 2, none⟩ (.int .i64 ci)).setCell ⟨g5, 3, none⟩ (.int .u64 cw)).setCell ⟨g5, 4, none⟩ (.int .u64 cs)) = w2_
      have n0_ := Aside0.mk (show Below wr.heap.size wr w2_ from by rw [← hw_]; exact (by repeat (first | (with_reducible first | exact HB.out | apply below_alloc | apply pw_below_drewN | apply below_drew1 | refine below_set ?_ GE5.out) | exact HB.out)))
      have n1_ := Aside0.mk (show w2_.heap[g5]? = some (.cells #[.int .i64 kd, .int .i64 ca, .int .i64 ci, .int .u64 cw, .int .u64 cs] 44 (0, 0)) from by rw [← hw_]; exact (by (with_reducible repeat (first | refine blk_drewN ?_ _ | refine blk_drew ?_ | refine blk_alloc ?_ _)); refine blk_put (cs := #[.int .i64 kd, .int .i64 ca, .int .i64 ci, .int .u64 cw, .int .u64 0]) ?_ 4 _ rfl; (with_reducible repeat (first | refine blk_drewN ?_ _ | refine blk_drew ?_ | refine blk_alloc ?_ _)); refine blk_put (cs := #[.int .i64 kd, .int .i64 ca, .int .i64 ci, .int .u64 0, .int .u64 0]) ?_ 3 _ rfl; (with_reducible repeat (first | refine blk_drewN ?_ _ | refine blk_drew ?_ | refine blk_alloc ?_ _)); refine blk_put (cs := #[.int .i64 kd, .int .i64 ca, .int .i64 0, .int .u64 0, .int .u64 0]) ?_ 2 _ rfl; (with_reducible repeat (first | refine blk_drewN ?_ _ | refine blk_drew ?_ | refine blk_alloc ?_ _)); refine blk_put (cs := #[.int .i64 kd, .int .i64 0, .int .i64 0, .int .u64 0, .int .u64 0]) ?_ 1 _ rfl; (with_reducible repeat (first | refine blk_drewN ?_ _ | refine blk_drew ?_ | refine blk_alloc ?_ _)); refine blk_put (cs := #[.int .i64 0, .int .i64 0, .int .i64 0, .int .u64 0, .int .u64 0]) ?_ 0 _ rfl; (with_reducible repeat (first | refine blk_drewN ?_ _ | refine blk_drew ?_ | refine blk_alloc ?_ _)); exact BK5.out))
      clear HB
      clear BK5
      have HB := n0_
      have BK5 := n1_
      clear n0_ n1_
      clear hw_
      have hc5_0 : w2_.cell? ⟨g5, 0, none⟩ = some (.int .i64 kd) := (blk_cell BK5.out 0).trans rfl
      have hf5_0 := blk_frozen BK5.out 0
      have hc5_1 : w2_.cell? ⟨g5, 1, none⟩ = some (.int .i64 ca) := (blk_cell BK5.out 1).trans rfl
      have hf5_1 := blk_frozen BK5.out 1
      have hc5_2 : w2_.cell? ⟨g5, 2, none⟩ = some (.int .i64 ci) := (blk_cell BK5.out 2).trans rfl
      have hf5_2 := blk_frozen BK5.out 2
      have hc5_3 : w2_.cell? ⟨g5, 3, none⟩ = some (.int .u64 cw) := (blk_cell BK5.out 3).trans rfl
      have hf5_3 := blk_frozen BK5.out 3
      have hc5_4 : w2_.cell? ⟨g5, 4, none⟩ = some (.int .u64 cs) := (blk_cell BK5.out 4).trans rfl
      have hf5_4 := blk_frozen BK5.out 4
      have BKw := blk_below BK3.out HB.out
      have BK2w := blk_below BK2.out HB.out
      have hc3_0 : w2_.cell? ⟨g3, 0, none⟩ = some (.int .i64 c0) := (blk_cell BKw 0).trans rfl
      have hf3_0 := blk_frozen BKw 0
      have hc3_1 : w2_.cell? ⟨g3, 1, none⟩ = some (.int .i64 c1) := (blk_cell BKw 1).trans rfl
      have hf3_1 := blk_frozen BKw 1
      have hc3_2 : w2_.cell? ⟨g3, 2, none⟩ = some (.int .i64 c2) := (blk_cell BKw 2).trans rfl
      have hf3_2 := blk_frozen BKw 2
      have hc3_3 : w2_.cell? ⟨g3, 3, none⟩ = some (.int .i64 c3) := (blk_cell BKw 3).trans rfl
      have hf3_3 := blk_frozen BKw 3
      have hc3_4 : w2_.cell? ⟨g3, 4, none⟩ = some (.int .i64 c4) := (blk_cell BKw 4).trans rfl
      have hf3_4 := blk_frozen BKw 4
      have hc3_5 : w2_.cell? ⟨g3, 5, none⟩ = some (.int .i64 c5) := (blk_cell BKw 5).trans rfl
      have hf3_5 := blk_frozen BKw 5
      have HBW := Aside0.mk (HBB.out.trans (HB.out.mono HBB.out.size))
      have HKW := Aside0.mk BKw
      have HKV := Aside0.mk BK2w
      clear BKw BK2w HB BK3 BK2 HBB
      rcases (by omega : kd < 0 ∨ kd ≥ 6 ∨ kd = 0 ∨ kd = 1 ∨ kd = 2 ∨ kd = 3 ∨ kd = 4 ∨ kd = 5) with hk | hk | rfl | rfl | rfl | rfl | rfl | rfl
      · have hd1 : decide (kd < 0) = true := decide_eq_true hk
        rw [bump_out _ (Or.inl hk)] at HN
        clear hk
        go_wp2
        refine ⟨⟨i + 1, by omega, by push_cast; rfl, Aside0.mk (HBW.out.setCell (p := ⟨g3, 0, none⟩) GE3.out _), Aside0.mk (by rw [HN.out]; exact blk_put (cs := #[.int .i64 c0, .int .i64 c1, .int .i64 c2, .int .i64 c3, .int .i64 c4, .int .i64 c5]) HKW.out 0 _ rfl), Aside0.mk (blk_far HKV.out NE2_3.out _)⟩, ?_⟩
        show len - ((i : Int) + 1).toNat < len - (i : Int).toNat
        omega
      · have hd1 : decide (kd < 0) = false := decide_eq_false (by omega)
        have hd2 : decide (kd ≥ 6) = true := decide_eq_true hk
        rw [bump_out _ (Or.inr hk)] at HN
        clear hk
        go_wp2
        refine ⟨⟨i + 1, by omega, by push_cast; rfl, Aside0.mk (HBW.out.setCell (p := ⟨g3, 0, none⟩) GE3.out _), Aside0.mk (by rw [HN.out]; exact blk_put (cs := #[.int .i64 c0, .int .i64 c1, .int .i64 c2, .int .i64 c3, .int .i64 c4, .int .i64 c5]) HKW.out 0 _ rfl), Aside0.mk (blk_far HKV.out NE2_3.out _)⟩, ?_⟩
        show len - ((i : Int) + 1).toNat < len - (i : Int).toNat
        omega
      · go_wp2
        refine ⟨⟨i + 1, by omega, by push_cast; rfl, Aside0.mk (HBW.out.setCell (p := ⟨g3, 0, none⟩) GE3.out _), Aside0.mk (by rw [HN.out]; exact blk_put (cs := #[.int .i64 c0, .int .i64 c1, .int .i64 c2, .int .i64 c3, .int .i64 c4, .int .i64 c5]) HKW.out 0 _ rfl), Aside0.mk (blk_far HKV.out NE2_3.out _)⟩, ?_⟩
        show len - ((i : Int) + 1).toNat < len - (i : Int).toNat
        omega
      · go_wp2
        refine ⟨⟨i + 1, by omega, by push_cast; rfl, Aside0.mk (HBW.out.setCell (p := ⟨g3, 1, none⟩) GE3.out _), Aside0.mk (by rw [HN.out]; exact blk_put (cs := #[.int .i64 c0, .int .i64 c1, .int .i64 c2, .int .i64 c3, .int .i64 c4, .int .i64 c5]) HKW.out 1 _ rfl), Aside0.mk (blk_far HKV.out NE2_3.out _)⟩, ?_⟩
        show len - ((i : Int) + 1).toNat < len - (i : Int).toNat
        omega
      · go_wp2
        refine ⟨⟨i + 1, by omega, by push_cast; rfl, Aside0.mk (HBW.out.setCell (p := ⟨g3, 2, none⟩) GE3.out _), Aside0.mk (by rw [HN.out]; exact blk_put (cs := #[.int .i64 c0, .int .i64 c1, .int .i64 c2, .int .i64 c3, .int .i64 c4, .int .i64 c5]) HKW.out 2 _ rfl), Aside0.mk (blk_far HKV.out NE2_3.out _)⟩, ?_⟩
        show len - ((i : Int) + 1).toNat < len - (i : Int).toNat
        omega
      · go_wp2
        refine ⟨⟨i + 1, by omega, by push_cast; rfl, Aside0.mk (HBW.out.setCell (p := ⟨g3, 3, none⟩) GE3.out _), Aside0.mk (by rw [HN.out]; exact blk_put (cs := #[.int .i64 c0, .int .i64 c1, .int .i64 c2, .int .i64 c3, .int .i64 c4, .int .i64 c5]) HKW.out 3 _ rfl), Aside0.mk (blk_far HKV.out NE2_3.out _)⟩, ?_⟩
        show len - ((i : Int) + 1).toNat < len - (i : Int).toNat
        omega
      · go_wp2
        refine ⟨⟨i + 1, by omega, by push_cast; rfl, Aside0.mk (HBW.out.setCell (p := ⟨g3, 4, none⟩) GE3.out _), Aside0.mk (by rw [HN.out]; exact blk_put (cs := #[.int .i64 c0, .int .i64 c1, .int .i64 c2, .int .i64 c3, .int .i64 c4, .int .i64 c5]) HKW.out 4 _ rfl), Aside0.mk (blk_far HKV.out NE2_3.out _)⟩, ?_⟩
        show len - ((i : Int) + 1).toNat < len - (i : Int).toNat
        omega
      · go_wp2
        refine ⟨⟨i + 1, by omega, by push_cast; rfl, Aside0.mk (HBW.out.setCell (p := ⟨g3, 5, none⟩) GE3.out _), Aside0.mk (by rw [HN.out]; exact blk_put (cs := #[.int .i64 c0, .int .i64 c1, .int .i64 c2, .int .i64 c3, .int .i64 c4, .int .i64 c5]) HKW.out 5 _ rfl), Aside0.mk (blk_far HKV.out NE2_3.out _)⟩, ?_⟩
        show len - ((i : Int) + 1).toNat < len - (i : Int).toNat
        omega
    · obtain rfl : i = len := by omega
      have hd : decide ((i : Int) < (i : Int)) = false := decide_eq_false (by omega)
      obtain ⟨C, hC⟩ : ∃ C, C = cntF F i := ⟨_, rfl⟩
      rw [← hC] at BK3
      have HN := Aside0.mk hC
      clear hC
      obtain ⟨c0, c1, c2, c3, c4, c5⟩ := C
      have HB := HBB
      have hc2_0 : wr.cell? ⟨g2, 0, none⟩ = some (.int .i64 0) := (blk_cell BK2.out 0).trans rfl
      have hf2_0 := blk_frozen BK2.out 0
      have hc2_1 : wr.cell? ⟨g2, 1, none⟩ = some (.int .i64 0) := (blk_cell BK2.out 1).trans rfl
      have hf2_1 := blk_frozen BK2.out 1
      have hc2_2 : wr.cell? ⟨g2, 2, none⟩ = some (.int .i64 0) := (blk_cell BK2.out 2).trans rfl
      have hf2_2 := blk_frozen BK2.out 2
      have hc2_3 : wr.cell? ⟨g2, 3, none⟩ = some (.int .i64 0) := (blk_cell BK2.out 3).trans rfl
      have hf2_3 := blk_frozen BK2.out 3
      have hc2_4 : wr.cell? ⟨g2, 4, none⟩ = some (.int .i64 0) := (blk_cell BK2.out 4).trans rfl
      have hf2_4 := blk_frozen BK2.out 4
      have hc2_5 : wr.cell? ⟨g2, 5, none⟩ = some (.int .i64 0) := (blk_cell BK2.out 5).trans rfl
      have hf2_5 := blk_frozen BK2.out 5
      have hc3_0 : wr.cell? ⟨g3, 0, none⟩ = some (.int .i64 c0) := (blk_cell BK3.out 0).trans rfl
      have hf3_0 := blk_frozen BK3.out 0
      have hc3_1 : wr.cell? ⟨g3, 1, none⟩ = some (.int .i64 c1) := (blk_cell BK3.out 1).trans rfl
      have hf3_1 := blk_frozen BK3.out 1
      have hc3_2 : wr.cell? ⟨g3, 2, none⟩ = some (.int .i64 c2) := (blk_cell BK3.out 2).trans rfl
      have hf3_2 := blk_frozen BK3.out 2
      have hc3_3 : wr.cell? ⟨g3, 3, none⟩ = some (.int .i64 c3) := (blk_cell BK3.out 3).trans rfl
      have hf3_3 := blk_frozen BK3.out 3
      have hc3_4 : wr.cell? ⟨g3, 4, none⟩ = some (.int .i64 c4) := (blk_cell BK3.out 4).trans rfl
      have hf3_4 := blk_frozen BK3.out 4
      have hc3_5 : wr.cell? ⟨g3, 5, none⟩ = some (.int .i64 c5) := (blk_cell BK3.out 5).trans rfl
      have hf3_5 := blk_frozen BK3.out 5
      go_wp2
      generalize hw_ : ((((((wr.setCell ⟨g2, 0, none⟩ (.int .i64 c0)).setCell ⟨g2, 1, none⟩ (.int .i64 c1)).setCell ⟨g2, 2, none⟩ (.int .i64 c2)).setCell ⟨g2, 3, none⟩ (.int .i64 c3)).setCell ⟨g2, 4, none⟩ (.int .i64 c4)).setCell ⟨g2, 5, none⟩ (.int .i64 c5)) = w1_
      have n0_ := Aside0.mk (show Below W.heap.size W w1_ from by rw [← hw_]; exact (by repeat (first | (with_reducible first | exact HB.out | apply below_alloc | apply pw_below_drewN | apply below_drew1 | refine below_set ?_ GE2.out | refine below_set ?_ GE3.out) | exact HB.out)))
      have n1_ := Aside0.mk (show w1_.heap[g2]? = some (.cells #[.int .i64 c0, .int .i64 c1, .int .i64 c2, .int .i64 c3, .int .i64 c4, .int .i64 c5] 34 (0, 0)) from by rw [← hw_]; exact (by (with_reducible repeat (first | refine blk_drewN ?_ _ | refine blk_drew ?_ | refine blk_alloc ?_ _)); refine blk_put (cs := #[.int .i64 c0, .int .i64 c1, .int .i64 c2, .int .i64 c3, .int .i64 c4, .int .i64 0]) ?_ 5 _ rfl; (with_reducible repeat (first | refine blk_drewN ?_ _ | refine blk_drew ?_ | refine blk_alloc ?_ _)); refine blk_put (cs := #[.int .i64 c0, .int .i64 c1, .int .i64 c2, .int .i64 c3, .int .i64 0, .int .i64 0]) ?_ 4 _ rfl; (with_reducible repeat (first | refine blk_drewN ?_ _ | refine blk_drew ?_ | refine blk_alloc ?_ _)); refine blk_put (cs := #[.int .i64 c0, .int .i64 c1, .int .i64 c2, .int .i64 0, .int .i64 0, .int .i64 0]) ?_ 3 _ rfl; (with_reducible repeat (first | refine blk_drewN ?_ _ | refine blk_drew ?_ | refine blk_alloc ?_ _)); refine blk_put (cs := #[.int .i64 c0, .int .i64 c1, .int .i64 0, .int .i64 0, .int .i64 0, .int .i64 0]) ?_ 2 _ rfl; (with_reducible repeat (first | refine blk_drewN ?_ _ | refine blk_drew ?_ | refine blk_alloc ?_ _)); refine blk_put (cs := #[.int .i64 c0, .int .i64 0, .int .i64 0, .int .i64 0, .int .i64 0, .int .i64 0]) ?_ 1 _ rfl; (with_reducible repeat (first | refine blk_drewN ?_ _ | refine blk_drew ?_ | refine blk_alloc ?_ _)); refine blk_put (cs := #[.int .i64 0, .int .i64 0, .int .i64 0, .int .i64 0, .int .i64 0, .int .i64 0]) ?_ 0 _ rfl; (with_reducible repeat (first | refine blk_drewN ?_ _ | refine blk_drew ?_ | refine blk_alloc ?_ _)); exact BK2.out))
      have n2_ := Aside0.mk (show w1_.heap[g3]? = some (.cells #[.int .i64 c0, .int .i64 c1, .int .i64 c2, .int .i64 c3, .int .i64 c4, .int .i64 c5] 34 (0, 0)) from by rw [← hw_]; refine blk_far ?_ NE2_3.out.symm _; refine blk_far ?_ NE2_3.out.symm _; refine blk_far ?_ NE2_3.out.symm _; refine blk_far ?_ NE2_3.out.symm _; refine blk_far ?_ NE2_3.out.symm _; refine blk_far ?_ NE2_3.out.symm _; exact BK3.out)
      clear HB
      clear BK2
      clear BK3
      have HB := n0_
      have BK2 := n1_
      have BK3 := n2_
      clear n0_ n1_ n2_
      clear hw_
      have hc2_0 : w1_.cell? ⟨g2, 0, none⟩ = some (.int .i64 c0) := (blk_cell BK2.out 0).trans rfl
      have hf2_0 := blk_frozen BK2.out 0
      have hc2_1 : w1_.cell? ⟨g2, 1, none⟩ = some (.int .i64 c1) := (blk_cell BK2.out 1).trans rfl
      have hf2_1 := blk_frozen BK2.out 1
      have hc2_2 : w1_.cell? ⟨g2, 2, none⟩ = some (.int .i64 c2) := (blk_cell BK2.out 2).trans rfl
      have hf2_2 := blk_frozen BK2.out 2
      have hc2_3 : w1_.cell? ⟨g2, 3, none⟩ = some (.int .i64 c3) := (blk_cell BK2.out 3).trans rfl
      have hf2_3 := blk_frozen BK2.out 3
      have hc2_4 : w1_.cell? ⟨g2, 4, none⟩ = some (.int .i64 c4) := (blk_cell BK2.out 4).trans rfl
      have hf2_4 := blk_frozen BK2.out 4
      have hc2_5 : w1_.cell? ⟨g2, 5, none⟩ = some (.int .i64 c5) := (blk_cell BK2.out 5).trans rfl
      have hf2_5 := blk_frozen BK2.out 5
      refine bodyPost_ret (results_cell_row rfl _ _ g2 34 #[.int .i64 c0, .int .i64 c1, .int .i64 c2, .int .i64 c3, .int .i64 c4, .int .i64 c5] (0, 0) _ rfl BK2.out Try.underlying34 rfl (by kernel_rfl)) rfl ?_
      exact ⟨by rw [← HN.out], HB.out⟩
end Go.Proofs.Ytekggbmajemmhaa.Di
