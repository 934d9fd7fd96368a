/- DiffCounts' walk. No condition beyond what the row gives. -/
import Derived.Test.YtekggbmajemmhaaDi6
namespace Go.Proofs.Ytekggbmajemmhaa.Di
open Go.RowKit Go.Shelf Go.Maps Go.ChangeMaps Go.MapKept Go.Proofs.YtekggbmajemmhaaW.PrintWords Go.Proofs.YtekggbmajemmhaaW.PrintLast Go.Proofs.YtekggbmajemmhaaW.PrintMore
set_option linter.unusedSimpArgs false
set_option linter.unusedVariables false
def d1.T15 : Bool × List (List Nat × List Nat) := (true, [([], []), ([0], [0]), ([], []), ([1, 2], [1, 2]), ([3, 1], [3]), ([4], [4]), ([5, 4, 4], [4, 5]), ([4], [4]), ([6, 7, 4], [4, 6, 7]), ([4, 8], [4, 8]), ([9, 6, 0, 1, 2, 3, 4, 5, 6, 7, 8, 9], [9])])
def d1.B15 : List Nat := [0, 1, 0, 7, 15, 31, 63, 31, 255, 511, 1023]
theorem d1.tab15 : rtab .any (opsOf Try.f6 15) = d1.T15 := by kernel_rfl
theorem d1.bits15 : waitsOk d1.T15.2 d1.B15 = true := by kernel_rfl
theorem eq34 (c0 c1 c2 c3 c4 c5 : Int) (w : World) : (Op.equalIn 10000 34 (.agg #[.int .i64 c0, .int .i64 c1, .int .i64 c2, .int .i64 c3, .int .i64 c4, .int .i64 c5]) (.agg #[.int .i64 c0, .int .i64 c1, .int .i64 c2, .int .i64 c3, .int .i64 c4, .int .i64 c5])).run Try.prog w = .ok true w := by
  have u3 := Try.underlying3
  have a3 := Try.isAgg3
  have z3 := Try.sizeOf3
  rw [show (10000 : Nat) = 9999 + 1 from rfl, Op.equalIn]
  simp only [Sem.run_bind, run_underlying Try.underlying34, Result.andThen_ok]
  simp only [Std.Legacy.Range.forIn_eq_forIn_range', Std.Legacy.Range.size, Nat.sub_zero, Nat.add_sub_cancel, Nat.div_one, List.range'_succ, List.range'_zero, List.forIn_cons, List.forIn_nil]
  go_simp
attribute [local go_sem] eq34
theorem count_at (W : World) (ad : Option Addr) (len cap : Nat) (F : Nat → ChV) (HC : Aside0 (CL W W.heap.size ad len F)) (hlen : len ≤ 9223372036854775807) (C : C6) (hC : C = cntF F len) : Calls Try.prog 13 #[.slice ad len cap] W fun e W' => e = .returned (.agg C.cells) ∧ Below W.heap.size W W' := by
  rw [hC]
  exact count_calls W ad len cap F HC hlen
theorem quiet_at (W : World) (ad : Option Addr) (len cap : Nat) (F : Nat → ChV) (HC : Aside0 (CL W W.heap.size ad len F)) (hlen : len ≤ 9223372036854775807) (q : Bool) (hq : q = qF F len) : Calls Try.prog 15 #[.slice ad len cap] W fun e W' => e = .returned (.bool q) ∧ Below W.heap.size W W' := by
  rw [hq]
  exact quiet_calls W ad len cap F HC hlen
set_option maxHeartbeats 8000000 in
set_option maxRecDepth 100000 in
theorem counts_at (W : World) (ad : Option Addr) (len cap : Nat) (F : Nat → ChV) (HC : Aside0 (CL W W.heap.size ad len F)) (hlen : len ≤ 9223372036854775807) : Calls Try.prog 6 #[.slice ad len cap] W fun e W' => e = .returned (.bool true) ∧ Below W.heap.size W W' := by
  by_cases hgr : len > 200
  · have hg : decide ((len : Int) > 200) = true := decide_eq_true (by omega)
    go_enter Try.func6, Try.ntmps6
    go_wp2_with (go_at_call 7; refine (alive_calls _).mono ?_; rintro e w1 ⟨rfl, hb⟩; have HB := Aside0.mk hb; clear hb)
    go_ret
    exact ⟨rfl, HB.out⟩
  · have hg : decide ((len : Int) > 200) = false := decide_eq_false (by omega)
    go_enter Try.func6, Try.ntmps6
    go_upto_region 5 with (go_at_call 7; refine (alive_calls _).mono ?_; rintro e w1 ⟨rfl, hb⟩; have HB := Aside0.mk hb; clear hb)
    go_upto_region 6 with ((with_reducible refine gate_dst (N := 3) rfl ?_); refine box_event ?hg (N := 3) ?hd (cs := #[.int .i64 0, .int .i64 0, .int .i64 0, .int .i64 0, .int .i64 0, .int .i64 0]) (t := 34) ?hr ?_; (case hd => rfl); (case hg => rfl); (case hr => first | (go_simp; done) | (go_simp; rfl)); intro g3 hg w1_ hbox hb; have n0_ := Aside0.mk (below_step (by repeat (first | (with_reducible first | exact HB.out | apply below_alloc | apply pw_below_drewN | apply below_drew1) | exact HB.out)) hb); have n1_ := Aside0.mk hbox; have n2_ := Aside0.mk ((by rw [hg]; exact (below_size (by repeat (first | (with_reducible first | exact HB.out | apply below_alloc | apply pw_below_drewN | apply below_drew1) | exact HB.out)))) : W.heap.size ≤ g3); clear HB; have HB := n0_; have BK3 := n1_; have GE3 := n2_; clear n0_ n1_ n2_; clear hb hbox hg)
    go_wp2
    go_loopw [4, 5] (fun q v wr => ∃ i : Nat, i ≤ len ∧ q = .bool (qF F i) ∧ v = .int .i64 (i : Int) ∧ Aside0 (Below W.heap.size W wr) ∧ Aside0 (wr.heap[g3]? = some (.cells (cntF F i).cells 34 (0, 0)))) (fun _ v _ => len - (intOf v).toNat)
    case atStart => exact ⟨0, by omega, rfl, rfl, HB, BK3⟩
    case round =>
      clear HB BK3
      obtain ⟨i, hi, rfl, rfl, HB, BK3⟩ := hrel
      by_cases hgo : i < len
      · have hd : decide ((i : Int) < (len : Int)) = true := decide_eq_true (by omega)
        obtain ⟨y, e, hyb, hy0, _⟩ := (HC.out.kept (fun k hk => HB.out.block k hk)) i hgo
        subst e
        obtain ⟨kd, hkd_⟩ : ∃ k, k = (F i).k := ⟨_, rfl⟩
        rw [add_zero, ← hkd_] at hy0
        obtain ⟨C, hC⟩ : ∃ C, C = cntF F i := ⟨_, rfl⟩
        rw [← hC] at BK3
        have HN := Aside0.mk (show cntF F (i + 1) = C.bump kd by rw [hC, hkd_]; rfl)
        obtain ⟨q, hq_⟩ : ∃ q, q = qF F i := ⟨_, rfl⟩
        rw [← hq_]
        have HQ := Aside0.mk (show qF F (i + 1) = (q && decide (kd = 5)) by rw [hq_, hkd_]; rfl)
        clear hkd_ hC hq_
        obtain ⟨c0, c1, c2, c3, c4, c5⟩ := C
        have hi0 : (0 : Int) ≤ (i : Int) := by omega
        have hi1 : (i : Int) < (len : Int) := by omega
        have hc3_0 : wr.cell? ⟨g3, 0, none⟩ = some (.int .i64 c0) := (blk_cell BK3.out 0).trans rfl
        have hf3_0 := blk_frozen BK3.out 0
        have hc3_1 : wr.cell? ⟨g3, 1, none⟩ = some (.int .i64 c1) := (blk_cell BK3.out 1).trans rfl
        have hf3_1 := blk_frozen BK3.out 1
        have hc3_2 : wr.cell? ⟨g3, 2, none⟩ = some (.int .i64 c2) := (blk_cell BK3.out 2).trans rfl
        have hf3_2 := blk_frozen BK3.out 2
        have hc3_3 : wr.cell? ⟨g3, 3, none⟩ = some (.int .i64 c3) := (blk_cell BK3.out 3).trans rfl
        have hf3_3 := blk_frozen BK3.out 3
        have hc3_4 : wr.cell? ⟨g3, 4, none⟩ = some (.int .i64 c4) := (blk_cell BK3.out 4).trans rfl
        have hf3_4 := blk_frozen BK3.out 4
        have hc3_5 : wr.cell? ⟨g3, 5, none⟩ = some (.int .i64 c5) := (blk_cell BK3.out 5).trans rfl
        have hf3_5 := blk_frozen BK3.out 5
        rcases (by omega : kd < 0 ∨ kd > 5 ∨ kd = 0 ∨ kd = 1 ∨ kd = 2 ∨ kd = 3 ∨ kd = 4 ∨ kd = 5) with hk | hk | rfl | rfl | rfl | rfl | rfl | rfl
        · have hd1 : decide (kd < 0) = true := decide_eq_true hk
          rw [bump_out _ (Or.inl hk)] at HN
          rw [decide_eq_false (show ¬ kd = 5 by omega)] at HQ
          clear hk
          cases q
          · go_wp2
            refine ⟨⟨i + 1, by omega, by rw [HQ.out]; rfl, by push_cast; rfl, Aside0.mk (HB.out.setCell (p := ⟨g3, 0, none⟩) GE3.out _), Aside0.mk (by rw [HN.out]; exact blk_put (cs := #[.int .i64 c0, .int .i64 c1, .int .i64 c2, .int .i64 c3, .int .i64 c4, .int .i64 c5]) BK3.out 0 _ rfl)⟩, ?_⟩
            show len - ((i : Int) + 1).toNat < len - (i : Int).toNat
            omega
          · go_wp2
            refine ⟨⟨i + 1, by omega, by rw [HQ.out]; rfl, by push_cast; rfl, Aside0.mk (HB.out.setCell (p := ⟨g3, 0, none⟩) GE3.out _), Aside0.mk (by rw [HN.out]; exact blk_put (cs := #[.int .i64 c0, .int .i64 c1, .int .i64 c2, .int .i64 c3, .int .i64 c4, .int .i64 c5]) BK3.out 0 _ rfl)⟩, ?_⟩
            show len - ((i : Int) + 1).toNat < len - (i : Int).toNat
            omega
        · have hd1 : decide (kd < 0) = false := decide_eq_false (by omega)
          have hd2 : decide (kd > 5) = true := decide_eq_true hk
          rw [bump_out _ (Or.inr (by omega))] at HN
          rw [decide_eq_false (show ¬ kd = 5 by omega)] at HQ
          clear hk
          cases q
          · go_wp2
            refine ⟨⟨i + 1, by omega, by rw [HQ.out]; rfl, by push_cast; rfl, Aside0.mk (HB.out.setCell (p := ⟨g3, 0, none⟩) GE3.out _), Aside0.mk (by rw [HN.out]; exact blk_put (cs := #[.int .i64 c0, .int .i64 c1, .int .i64 c2, .int .i64 c3, .int .i64 c4, .int .i64 c5]) BK3.out 0 _ rfl)⟩, ?_⟩
            show len - ((i : Int) + 1).toNat < len - (i : Int).toNat
            omega
          · go_wp2
            refine ⟨⟨i + 1, by omega, by rw [HQ.out]; rfl, by push_cast; rfl, Aside0.mk (HB.out.setCell (p := ⟨g3, 0, none⟩) GE3.out _), Aside0.mk (by rw [HN.out]; exact blk_put (cs := #[.int .i64 c0, .int .i64 c1, .int .i64 c2, .int .i64 c3, .int .i64 c4, .int .i64 c5]) BK3.out 0 _ rfl)⟩, ?_⟩
            show len - ((i : Int) + 1).toNat < len - (i : Int).toNat
            omega
        · cases q
          · go_wp2
            refine ⟨⟨i + 1, by omega, by rw [HQ.out]; rfl, by push_cast; rfl, Aside0.mk (HB.out.setCell (p := ⟨g3, 0, none⟩) GE3.out _), Aside0.mk (by rw [HN.out]; exact blk_put (cs := #[.int .i64 c0, .int .i64 c1, .int .i64 c2, .int .i64 c3, .int .i64 c4, .int .i64 c5]) BK3.out 0 _ rfl)⟩, ?_⟩
            show len - ((i : Int) + 1).toNat < len - (i : Int).toNat
            omega
          · go_wp2
            refine ⟨⟨i + 1, by omega, by rw [HQ.out]; rfl, by push_cast; rfl, Aside0.mk (HB.out.setCell (p := ⟨g3, 0, none⟩) GE3.out _), Aside0.mk (by rw [HN.out]; exact blk_put (cs := #[.int .i64 c0, .int .i64 c1, .int .i64 c2, .int .i64 c3, .int .i64 c4, .int .i64 c5]) BK3.out 0 _ rfl)⟩, ?_⟩
            show len - ((i : Int) + 1).toNat < len - (i : Int).toNat
            omega
        · cases q
          · go_wp2
            refine ⟨⟨i + 1, by omega, by rw [HQ.out]; rfl, by push_cast; rfl, Aside0.mk (HB.out.setCell (p := ⟨g3, 1, none⟩) GE3.out _), Aside0.mk (by rw [HN.out]; exact blk_put (cs := #[.int .i64 c0, .int .i64 c1, .int .i64 c2, .int .i64 c3, .int .i64 c4, .int .i64 c5]) BK3.out 1 _ rfl)⟩, ?_⟩
            show len - ((i : Int) + 1).toNat < len - (i : Int).toNat
            omega
          · go_wp2
            refine ⟨⟨i + 1, by omega, by rw [HQ.out]; rfl, by push_cast; rfl, Aside0.mk (HB.out.setCell (p := ⟨g3, 1, none⟩) GE3.out _), Aside0.mk (by rw [HN.out]; exact blk_put (cs := #[.int .i64 c0, .int .i64 c1, .int .i64 c2, .int .i64 c3, .int .i64 c4, .int .i64 c5]) BK3.out 1 _ rfl)⟩, ?_⟩
            show len - ((i : Int) + 1).toNat < len - (i : Int).toNat
            omega
        · cases q
          · go_wp2
            refine ⟨⟨i + 1, by omega, by rw [HQ.out]; rfl, by push_cast; rfl, Aside0.mk (HB.out.setCell (p := ⟨g3, 2, none⟩) GE3.out _), Aside0.mk (by rw [HN.out]; exact blk_put (cs := #[.int .i64 c0, .int .i64 c1, .int .i64 c2, .int .i64 c3, .int .i64 c4, .int .i64 c5]) BK3.out 2 _ rfl)⟩, ?_⟩
            show len - ((i : Int) + 1).toNat < len - (i : Int).toNat
            omega
          · go_wp2
            refine ⟨⟨i + 1, by omega, by rw [HQ.out]; rfl, by push_cast; rfl, Aside0.mk (HB.out.setCell (p := ⟨g3, 2, none⟩) GE3.out _), Aside0.mk (by rw [HN.out]; exact blk_put (cs := #[.int .i64 c0, .int .i64 c1, .int .i64 c2, .int .i64 c3, .int .i64 c4, .int .i64 c5]) BK3.out 2 _ rfl)⟩, ?_⟩
            show len - ((i : Int) + 1).toNat < len - (i : Int).toNat
            omega
        · cases q
          · go_wp2
            refine ⟨⟨i + 1, by omega, by rw [HQ.out]; rfl, by push_cast; rfl, Aside0.mk (HB.out.setCell (p := ⟨g3, 3, none⟩) GE3.out _), Aside0.mk (by rw [HN.out]; exact blk_put (cs := #[.int .i64 c0, .int .i64 c1, .int .i64 c2, .int .i64 c3, .int .i64 c4, .int .i64 c5]) BK3.out 3 _ rfl)⟩, ?_⟩
            show len - ((i : Int) + 1).toNat < len - (i : Int).toNat
            omega
          · go_wp2
            refine ⟨⟨i + 1, by omega, by rw [HQ.out]; rfl, by push_cast; rfl, Aside0.mk (HB.out.setCell (p := ⟨g3, 3, none⟩) GE3.out _), Aside0.mk (by rw [HN.out]; exact blk_put (cs := #[.int .i64 c0, .int .i64 c1, .int .i64 c2, .int .i64 c3, .int .i64 c4, .int .i64 c5]) BK3.out 3 _ rfl)⟩, ?_⟩
            show len - ((i : Int) + 1).toNat < len - (i : Int).toNat
            omega
        · cases q
          · go_wp2
            refine ⟨⟨i + 1, by omega, by rw [HQ.out]; rfl, by push_cast; rfl, Aside0.mk (HB.out.setCell (p := ⟨g3, 4, none⟩) GE3.out _), Aside0.mk (by rw [HN.out]; exact blk_put (cs := #[.int .i64 c0, .int .i64 c1, .int .i64 c2, .int .i64 c3, .int .i64 c4, .int .i64 c5]) BK3.out 4 _ rfl)⟩, ?_⟩
            show len - ((i : Int) + 1).toNat < len - (i : Int).toNat
            omega
          · go_wp2
            refine ⟨⟨i + 1, by omega, by rw [HQ.out]; rfl, by push_cast; rfl, Aside0.mk (HB.out.setCell (p := ⟨g3, 4, none⟩) GE3.out _), Aside0.mk (by rw [HN.out]; exact blk_put (cs := #[.int .i64 c0, .int .i64 c1, .int .i64 c2, .int .i64 c3, .int .i64 c4, .int .i64 c5]) BK3.out 4 _ rfl)⟩, ?_⟩
            show len - ((i : Int) + 1).toNat < len - (i : Int).toNat
            omega
        · cases q
          · go_wp2
            refine ⟨⟨i + 1, by omega, by rw [HQ.out]; rfl, by push_cast; rfl, Aside0.mk (HB.out.setCell (p := ⟨g3, 5, none⟩) GE3.out _), Aside0.mk (by rw [HN.out]; exact blk_put (cs := #[.int .i64 c0, .int .i64 c1, .int .i64 c2, .int .i64 c3, .int .i64 c4, .int .i64 c5]) BK3.out 5 _ rfl)⟩, ?_⟩
            show len - ((i : Int) + 1).toNat < len - (i : Int).toNat
            omega
          · go_wp2
            refine ⟨⟨i + 1, by omega, by rw [HQ.out]; rfl, by push_cast; rfl, Aside0.mk (HB.out.setCell (p := ⟨g3, 5, none⟩) GE3.out _), Aside0.mk (by rw [HN.out]; exact blk_put (cs := #[.int .i64 c0, .int .i64 c1, .int .i64 c2, .int .i64 c3, .int .i64 c4, .int .i64 c5]) BK3.out 5 _ rfl)⟩, ?_⟩
            show len - ((i : Int) + 1).toNat < len - (i : Int).toNat
            omega
      · obtain rfl : i = len := by omega
        have hd : decide ((i : Int) < (i : Int)) = false := decide_eq_false (by omega)
        obtain ⟨C, hC⟩ : ∃ C, C = cntF F i := ⟨_, rfl⟩
        rw [← hC] at BK3
        have HN := Aside0.mk hC
        obtain ⟨q, hq_⟩ : ∃ q, q = qF F i := ⟨_, rfl⟩
        rw [← hq_]
        have HQ := Aside0.mk hq_
        clear hC hq_
        obtain ⟨c0, c1, c2, c3, c4, c5⟩ := C
        obtain ⟨len, hlq⟩ : ∃ len, len = i := ⟨_, rfl⟩
        subst hlq
        have hu34 := Try.underlying34
        go_upto_region 15 with fail
        refine start_ (n := 11) (S := fun w' => True) (ds := []) #[false, false, false, false, false, false, false, false, false, false, false] (by kernel_rfl) rfl rfl trivial (fun hHeld => ?_)
        refine with_tabW d1.tab15 d1.bits15 (fun HT_ HW_ => ?_)
        refine inv_at [0, 1, 2, 3, 4, 5, 6, 7, 8, 9, 10] (fun a0_ b a w' => a = putSel a0_ b [(0, 39, .slice ad len cap), (1, 40, .agg #[.int .i64 c0, .int .i64 c1, .int .i64 c2, .int .i64 c3, .int .i64 c4, .int .i64 c5]), (2, 41, .agg #[.int .i64 c0, .int .i64 c1, .int .i64 c2, .int .i64 c3, .int .i64 c4, .int .i64 c5]), (3, 42, .bool true), (4, 43, .bool true), (5, 44, .slice ad len cap), (6, 45, .bool q), (7, 46, .bool q), (8, 47, .bool true), (9, 48, .bool true), (10, 2, .bool true)] ∧ (Below W.heap.size W w') ∧ (w'.heap[g3]? = some (.cells #[.int .i64 c0, .int .i64 c1, .int .i64 c2, .int .i64 c3, .int .i64 c4, .int .i64 c5] 34 (0, 0)))) HT_.out HW_.out (by kernel_rfl) (by kernel_rfl) ?_ ?_ ?_
        · exact ⟨by simp only [putSel, Bool.false_eq_true, if_false], below_drew1 HB.out, BK3.out⟩
        · skip
          clear BK3 HB
          refine steps_cons ?_ ?_
          · rintro b a w' ⟨ha, Q_HB, Q_BK3⟩ hb_ hon hoff
            refine ⟨_, rfl, fun K hK => ?_⟩
            have e0 : a.tmps[0]? = some (.slice ad len cap) := by rw [ha]; exact (putSel_off rfl).trans rfl
            replace ha := Aside0.mk ha
            have HB := Aside0.mk Q_HB
            have BK3 := Aside0.mk Q_BK3
            refine value_ (w1 := w') (v := .slice ad len cap) (by rfl) rfl ?_ ?_
            · go_simp
              (try simp only [i64_w])
              try rfl
            refine hK.out _ _ ⟨(by rw [ha.out]; exact putSel_upk 0 hb_ rfl rfl rfl), Q_HB, Q_BK3⟩
          refine steps_cons ?_ ?_
          · rintro b a w' ⟨ha, Q_HB, Q_BK3⟩ hb_ hon hoff
            refine ⟨_, rfl, fun K hK => ?_⟩
            have e39 : a.tmps[39]? = some (.slice ad len cap) := by rw [ha]; exact putSel_on (e := (0, 39, .slice ad len cap)) 0 rfl rfl (hon 0 (by kernel_rfl)) rfl
            replace ha := Aside0.mk ha
            have HB := Aside0.mk Q_HB
            have BK3 := Aside0.mk Q_BK3
            refine goes_ Try.func13 (by kernel_rfl) rfl #[.slice ad len cap] (by rfl) rfl rfl (by first | (simp only [List.map_toArray, List.map_cons, List.map_nil, Act.eval, Array.getD_eq_getD_getElem?, Option.getD_some, e39]; done) | (simp only [List.map_toArray, List.map_cons, List.map_nil, Act.eval, Array.getD_eq_getD_getElem?, Option.getD_some, e39]; rfl)) ?_
            with_reducible refine (count_at _ ad len cap F (Aside0.mk ((HC.out.kept (fun k hk => HB.out.block k hk)).mono HB.out.size)) hlen _ HN.out).mono ?_
            rintro e w3 ⟨rfl, hb⟩
            refine ⟨_, rfl, ?_⟩
            refine hK.out _ _ ⟨(by rw [ha.out]; exact putSel_upk 1 hb_ rfl rfl rfl), (below_step HB.out hb), (blk_below BK3.out hb)⟩
          refine steps_cons ?_ ?_
          · rintro b a w' ⟨ha, Q_HB, Q_BK3⟩ hb_ hon hoff
            refine ⟨_, rfl, fun K hK => ?_⟩
            have e3 : a.tmps[3]? = some (.pointer (some ⟨g3, 0, none⟩)) := by rw [ha]; exact (putSel_off rfl).trans rfl
            replace ha := Aside0.mk ha
            have HB := Aside0.mk Q_HB
            have BK3 := Aside0.mk Q_BK3
            have hl_0 : w'.cell? ⟨g3, 0, none⟩ = some (.int .i64 c0) := (blk_cell BK3.out 0).trans rfl
            have hl_1 : w'.cell? ⟨g3, 1, none⟩ = some (.int .i64 c1) := (blk_cell BK3.out 1).trans rfl
            have hl_2 : w'.cell? ⟨g3, 2, none⟩ = some (.int .i64 c2) := (blk_cell BK3.out 2).trans rfl
            have hl_3 : w'.cell? ⟨g3, 3, none⟩ = some (.int .i64 c3) := (blk_cell BK3.out 3).trans rfl
            have hl_4 : w'.cell? ⟨g3, 4, none⟩ = some (.int .i64 c4) := (blk_cell BK3.out 4).trans rfl
            have hl_5 : w'.cell? ⟨g3, 5, none⟩ = some (.int .i64 c5) := (blk_cell BK3.out 5).trans rfl
            refine value_ (w1 := w') (v := .agg #[.int .i64 c0, .int .i64 c1, .int .i64 c2, .int .i64 c3, .int .i64 c4, .int .i64 c5]) (by rfl) rfl ?_ ?_
            · go_simp
              (try simp only [i64_w])
              try rfl
            refine hK.out _ _ ⟨(by rw [ha.out]; exact putSel_upk 2 hb_ rfl rfl rfl), Q_HB, Q_BK3⟩
          refine steps_cons ?_ ?_
          · rintro b a w' ⟨ha, Q_HB, Q_BK3⟩ hb_ hon hoff
            refine ⟨_, rfl, fun K hK => ?_⟩
            have e40 : a.tmps[40]? = some (.agg #[.int .i64 c0, .int .i64 c1, .int .i64 c2, .int .i64 c3, .int .i64 c4, .int .i64 c5]) := by rw [ha]; exact putSel_on (e := (1, 40, .agg #[.int .i64 c0, .int .i64 c1, .int .i64 c2, .int .i64 c3, .int .i64 c4, .int .i64 c5])) 1 rfl rfl (hon 1 (by kernel_rfl)) rfl
            have e41 : a.tmps[41]? = some (.agg #[.int .i64 c0, .int .i64 c1, .int .i64 c2, .int .i64 c3, .int .i64 c4, .int .i64 c5]) := by rw [ha]; exact putSel_on (e := (2, 41, .agg #[.int .i64 c0, .int .i64 c1, .int .i64 c2, .int .i64 c3, .int .i64 c4, .int .i64 c5])) 2 rfl rfl (hon 2 (by kernel_rfl)) rfl
            replace ha := Aside0.mk ha
            have HB := Aside0.mk Q_HB
            have BK3 := Aside0.mk Q_BK3
            refine value_ (w1 := w') (v := .bool true) (by rfl) rfl ?_ ?_
            · go_simp
              (try simp only [i64_w])
              try rfl
            refine hK.out _ _ ⟨(by rw [ha.out]; exact putSel_upk 3 hb_ rfl rfl rfl), Q_HB, Q_BK3⟩
          refine steps_cons ?_ ?_
          · rintro b a w' ⟨ha, Q_HB, Q_BK3⟩ hb_ hon hoff
            refine ⟨_, rfl, fun K hK => ?_⟩
            have e42 : a.tmps[42]? = some (.bool true) := by rw [ha]; exact putSel_on (e := (3, 42, .bool true)) 3 rfl rfl (hon 3 (by kernel_rfl)) rfl
            replace ha := Aside0.mk ha
            have HB := Aside0.mk Q_HB
            have BK3 := Aside0.mk Q_BK3
            refine value_ (w1 := w') (v := .bool true) (by rfl) rfl ?_ ?_
            · go_simp
              (try simp only [i64_w])
              try rfl
            refine hK.out _ _ ⟨(by rw [ha.out]; exact putSel_upk 4 hb_ rfl rfl rfl), Q_HB, Q_BK3⟩
          refine steps_cons ?_ ?_
          · rintro b a w' ⟨ha, Q_HB, Q_BK3⟩ hb_ hon hoff
            refine ⟨_, rfl, fun K hK => ?_⟩
            have e0 : a.tmps[0]? = some (.slice ad len cap) := by rw [ha]; exact (putSel_off rfl).trans rfl
            have e43 : a.tmps[43]? = some (.bool true) := by rw [ha]; exact putSel_on (e := (4, 43, .bool true)) 4 rfl rfl (hon 4 (by kernel_rfl)) rfl
            replace ha := Aside0.mk ha
            have HB := Aside0.mk Q_HB
            have BK3 := Aside0.mk Q_BK3
            refine value_ (w1 := w') (v := .slice ad len cap) (wanted_on rfl rfl rfl (e43.trans (by first | rfl | (simp [*]; done)))) rfl ?_ ?_
            · go_simp
              (try simp only [i64_w])
              try rfl
            refine hK.out _ _ ⟨(by rw [ha.out]; exact putSel_upk 5 hb_ rfl rfl rfl), Q_HB, Q_BK3⟩
          refine steps_cons ?_ ?_
          · rintro b a w' ⟨ha, Q_HB, Q_BK3⟩ hb_ hon hoff
            refine ⟨_, rfl, fun K hK => ?_⟩
            have e44 : a.tmps[44]? = some (.slice ad len cap) := by rw [ha]; exact putSel_on (e := (5, 44, .slice ad len cap)) 5 rfl rfl (hon 5 (by kernel_rfl)) rfl
            have e43 : a.tmps[43]? = some (.bool true) := by rw [ha]; exact putSel_on (e := (4, 43, .bool true)) 4 rfl rfl (hon 4 (by kernel_rfl)) rfl
            replace ha := Aside0.mk ha
            have HB := Aside0.mk Q_HB
            have BK3 := Aside0.mk Q_BK3
            refine goes_ Try.func15 (by kernel_rfl) rfl #[.slice ad len cap] (wanted_on rfl rfl rfl (e43.trans (by first | rfl | (simp [*]; done)))) rfl rfl (by first | (simp only [List.map_toArray, List.map_cons, List.map_nil, Act.eval, Array.getD_eq_getD_getElem?, Option.getD_some, e44, e43]; done) | (simp only [List.map_toArray, List.map_cons, List.map_nil, Act.eval, Array.getD_eq_getD_getElem?, Option.getD_some, e44, e43]; rfl)) ?_
            with_reducible refine (quiet_at _ ad len cap F (Aside0.mk ((HC.out.kept (fun k hk => HB.out.block k hk)).mono HB.out.size)) hlen q HQ.out).mono ?_
            rintro e w3 ⟨rfl, hb⟩
            refine ⟨_, rfl, ?_⟩
            refine hK.out _ _ ⟨(by rw [ha.out]; exact putSel_upk 6 hb_ rfl rfl rfl), (below_step HB.out hb), (blk_below BK3.out hb)⟩
          refine steps_cons ?_ ?_
          · rintro b a w' ⟨ha, Q_HB, Q_BK3⟩ hb_ hon hoff
            refine ⟨_, rfl, fun K hK => ?_⟩
            have e4 : a.tmps[4]? = some (.bool q) := by rw [ha]; exact (putSel_off rfl).trans rfl
            have e43 : a.tmps[43]? = some (.bool true) := by rw [ha]; exact putSel_on (e := (4, 43, .bool true)) 4 rfl rfl (hon 4 (by kernel_rfl)) rfl
            replace ha := Aside0.mk ha
            have HB := Aside0.mk Q_HB
            have BK3 := Aside0.mk Q_BK3
            refine value_ (w1 := w') (v := .bool q) (wanted_on rfl rfl rfl (e43.trans (by first | rfl | (simp [*]; done)))) rfl ?_ ?_
            · go_simp
              (try simp only [i64_w])
              try rfl
            refine hK.out _ _ ⟨(by rw [ha.out]; exact putSel_upk 7 hb_ rfl rfl rfl), Q_HB, Q_BK3⟩
          refine steps_cons ?_ ?_
          · rintro b a w' ⟨ha, Q_HB, Q_BK3⟩ hb_ hon hoff
            refine ⟨_, rfl, fun K hK => ?_⟩
            have e45 : a.tmps[45]? = some (.bool q) := by rw [ha]; exact putSel_on (e := (6, 45, .bool q)) 6 rfl rfl (hon 6 (by kernel_rfl)) rfl
            have e46 : a.tmps[46]? = some (.bool q) := by rw [ha]; exact putSel_on (e := (7, 46, .bool q)) 7 rfl rfl (hon 7 (by kernel_rfl)) rfl
            have e43 : a.tmps[43]? = some (.bool true) := by rw [ha]; exact putSel_on (e := (4, 43, .bool true)) 4 rfl rfl (hon 4 (by kernel_rfl)) rfl
            replace ha := Aside0.mk ha
            have HB := Aside0.mk Q_HB
            have BK3 := Aside0.mk Q_BK3
            refine value_ (w1 := w') (v := .bool true) (wanted_on rfl rfl rfl (e43.trans (by first | rfl | (simp [*]; done)))) rfl ?_ ?_
            · go_simp
              (try simp only [i64_w])
              try rfl
            refine hK.out _ _ ⟨(by rw [ha.out]; exact putSel_upk 8 hb_ rfl rfl rfl), Q_HB, Q_BK3⟩
          refine steps_cons ?_ ?_
          · rintro b a w' ⟨ha, Q_HB, Q_BK3⟩ hb_ hon hoff
            refine ⟨_, rfl, fun K hK => ?_⟩
            have e43 : a.tmps[43]? = some (.bool true) := by rw [ha]; exact putSel_on (e := (4, 43, .bool true)) 4 rfl rfl (hon 4 (by kernel_rfl)) rfl
            have e47 : a.tmps[47]? = some (.bool true) := by rw [ha]; exact putSel_on (e := (8, 47, .bool true)) 8 rfl rfl (hon 8 (by kernel_rfl)) rfl
            replace ha := Aside0.mk ha
            have HB := Aside0.mk Q_HB
            have BK3 := Aside0.mk Q_BK3
            refine value_ (w1 := w') (v := .bool true) (by rfl) rfl ?_ ?_
            · go_simp
              (try simp only [i64_w])
              try rfl
            refine hK.out _ _ ⟨(by rw [ha.out]; exact putSel_upk 9 hb_ rfl rfl rfl), Q_HB, Q_BK3⟩
          refine steps_cons ?_ ?_
          · rintro b a w' ⟨ha, Q_HB, Q_BK3⟩ hb_ hon hoff
            refine ⟨_, rfl, fun K hK => ?_⟩
            have e48 : a.tmps[48]? = some (.bool true) := by rw [ha]; exact putSel_on (e := (9, 48, .bool true)) 9 rfl rfl (hon 9 (by kernel_rfl)) rfl
            replace ha := Aside0.mk ha
            have HB := Aside0.mk Q_HB
            have BK3 := Aside0.mk Q_BK3
            refine value_ (w1 := w') (v := .bool true) (by rfl) rfl ?_ ?_
            · go_simp
              (try simp only [i64_w])
              try rfl
            refine hK.out _ _ ⟨(by rw [ha.out]; exact putSel_upk 10 hb_ rfl rfl rfl), Q_HB, Q_BK3⟩
          exact steps_nil
        rintro b a wz hall ⟨ha, Q_HB, Q_BK3⟩
        clear BK3 HB
        have hb0_ := hall 0 (by kernel_rfl)
        have hb1_ := hall 1 (by kernel_rfl)
        have hb2_ := hall 2 (by kernel_rfl)
        have hb3_ := hall 3 (by kernel_rfl)
        have hb4_ := hall 4 (by kernel_rfl)
        have hb5_ := hall 5 (by kernel_rfl)
        have hb6_ := hall 6 (by kernel_rfl)
        have hb7_ := hall 7 (by kernel_rfl)
        have hb8_ := hall 8 (by kernel_rfl)
        have hb9_ := hall 9 (by kernel_rfl)
        have hb10_ := hall 10 (by kernel_rfl)
        subst ha
        simp only [putSel, hb0_, hb1_, hb2_, hb3_, hb4_, hb5_, hb6_, hb7_, hb8_, hb9_, hb10_, if_true, Act.put, List.setIfInBounds_toArray, List.set_cons_zero, List.set_cons_succ]
        have HB := Aside0.mk Q_HB
        clear Q_HB
        have BK3 := Aside0.mk Q_BK3
        clear Q_BK3
        clear hall hb0_ hb1_ hb2_ hb3_ hb4_ hb5_ hb6_ hb7_ hb8_ hb9_ hb10_
        go_wp2
        go_ret
        exact ⟨rfl, HB.out⟩
end Go.Proofs.Ytekggbmajemmhaa.Di
