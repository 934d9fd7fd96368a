/- Parts of one proof, set together: Bk5, Bk6. What each says stands at its head; no condition beyond theirs. -/
import Derived.Test.YtekggbmajemmhaaDb22
/- DiffBack's walk. Condition: both graphs lie in memory ahead of the walk. -/
namespace Go.Proofs.Ytekggbmajemmhaa.Gr
open Go.RowKit Go.Shelf Go.Maps Go.ChangeMaps Go.MapKept Go.Proofs.YtekggbmajemmhaaW.PrintWords Go.Proofs.YtekggbmajemmhaaW.PrintLast Go.Proofs.YtekggbmajemmhaaW.PrintMore
set_option linter.unusedSimpArgs false
set_option linter.unusedVariables false
theorem NL_up {W : World} {B B' : Nat} {a : Option Addr} {n : Nat} {M : List Nd} (h : NL W B a n M) (hb : B ≤ B') : NL W B' a n M := ⟨h.1, fun i hi => by
  obtain ⟨y, e, hy, hc⟩ := h.2 i hi
  exact ⟨y, e, Nat.lt_of_lt_of_le hy hb, hc⟩⟩
theorem GM_up {W : World} {B B' : Nat} {g : Gd} (h : GM W B g) (hb : B ≤ B') : GM W B' g := ⟨h.rts.up hb, NL_up h.nds hb, fun n hn => ⟨(h.sub n hn).1.up hb, (h.sub n hn).2.up hb⟩, h.ok, h.rok, h.sok⟩
theorem NL_to {W W' : World} {a : Option Addr} {n : Nat} {M : List Nd} (h : NL W W.heap.size a n M) (hb : Below W.heap.size W W') : NL W' W'.heap.size a n M := NL_up (h.kept fun k hk => hb.block k hk) hb.size
theorem NL_of_row40 {W : World} {X n c : Nat} {a : Option Addr} {M : List Nd} (h : W.ownsRow X 40 6 (.slice a n c) n (nds M)) (hl : M.length = n) : NL W W.heap.size a n M := NL_of_row h
theorem one_at (W : World) (x : Nd) (X : Nat) (hX : X < W.heap.size) (hb : W.heap[X]? = some (.cells #[.int .i64 x.adr, .int .i64 x.refs, .int .i64 x.sl, .int .i64 x.words, .slice x.A x.m x.c, .slice x.B x.n x.d] 40 (0, 0))) : NL W W.heap.size (some ⟨X, 0, none⟩) 1 [x] := by
  refine ⟨rfl, fun i hi => ?_⟩
  obtain rfl : i = 0 := by omega
  refine ⟨⟨X, 0, none⟩, rfl, hX, ?_⟩
  have hc := fun j => blk_cell hb j
  exact ⟨(hc 0).trans rfl, (hc 1).trans rfl, (hc 2).trans rfl, (hc 3).trans rfl, (hc 4).trans rfl, (hc 5).trans rfl⟩
/-- Two nodes that say one thing, each alone in a graph. -/
theorem one_same (w : World) (x y : Nd) (ka kb : Nat) (hka : ka = w.heap.size) (hkb : kb = w.heap.size + 1) (hx : DL w w.heap.size x) (hy : DL w w.heap.size y) (e : x.pn = y.pn) (hm : x.m ≤ 1000 ∧ x.n ≤ 1000) : Calls Try.prog 11 #[.agg #[.slice none 0 0, .slice (some ⟨ka, 0, none⟩) 1 1], .agg #[.slice none 0 0, .slice (some ⟨kb, 0, none⟩) 1 1]] ((w.alloc (.cells #[.int .i64 x.adr, .int .i64 x.refs, .int .i64 x.sl, .int .i64 x.words, .slice x.A x.m x.c, .slice x.B x.n x.d] 40)).alloc (.cells #[.int .i64 y.adr, .int .i64 y.refs, .int .i64 y.sl, .int .i64 y.words, .slice y.A y.m y.c, .slice y.B y.n y.d] 40)) fun e W' => e = .returned (.bool true) ∧ Below ((w.alloc (.cells #[.int .i64 x.adr, .int .i64 x.refs, .int .i64 x.sl, .int .i64 x.words, .slice x.A x.m x.c, .slice x.B x.n x.d] 40)).alloc (.cells #[.int .i64 y.adr, .int .i64 y.refs, .int .i64 y.sl, .int .i64 y.words, .slice y.A y.m y.c, .slice y.B y.n y.d] 40)).heap.size ((w.alloc (.cells #[.int .i64 x.adr, .int .i64 x.refs, .int .i64 x.sl, .int .i64 x.words, .slice x.A x.m x.c, .slice x.B x.n x.d] 40)).alloc (.cells #[.int .i64 y.adr, .int .i64 y.refs, .int .i64 y.sl, .int .i64 y.words, .slice y.A y.m y.c, .slice y.B y.n y.d] 40)) W' := by
  obtain ⟨w1, hw1⟩ : ∃ v, v = w.alloc (.cells #[.int .i64 x.adr, .int .i64 x.refs, .int .i64 x.sl, .int .i64 x.words, .slice x.A x.m x.c, .slice x.B x.n x.d] 40) := ⟨_, rfl⟩
  obtain ⟨w2, hw2⟩ : ∃ v, v = w1.alloc (.cells #[.int .i64 y.adr, .int .i64 y.refs, .int .i64 y.sl, .int .i64 y.words, .slice y.A y.m y.c, .slice y.B y.n y.d] 40) := ⟨_, rfl⟩
  have hsz1 : w1.heap.size = w.heap.size + 1 := by rw [hw1, World.size_alloc]
  rw [← hw1, ← hw2, hka, hkb, ← hsz1]
  have hb1 : Below w.heap.size w w1 := by rw [hw1]; exact below_alloc (Below.refl _ _) _
  have hb2 : Below w1.heap.size w1 w2 := by rw [hw2]; exact below_alloc (Below.refl _ _) _
  have k1 : w1.heap[w.heap.size]? = some (.cells #[.int .i64 x.adr, .int .i64 x.refs, .int .i64 x.sl, .int .i64 x.words, .slice x.A x.m x.c, .slice x.B x.n x.d] 40 (0, 0)) := by rw [hw1]; exact blk_new _ _
  have k2 : w2.heap[w1.heap.size]? = some (.cells #[.int .i64 y.adr, .int .i64 y.refs, .int .i64 y.sl, .int .i64 y.words, .slice y.A y.m y.c, .slice y.B y.n y.d] 40 (0, 0)) := by rw [hw2]; exact blk_new _ _
  have k12 := blk_below k1 hb2
  have hbb := below_step hb1 hb2
  exact same0_yes w2 none none _ _ 0 0 0 1 1 1 [] [x] [y] (Aside0.mk (IL_nil _ _)) (Aside0.mk (IL_nil _ _)) (Aside0.mk (one_at w2 x _ (blk_lt k12) k12)) (Aside0.mk (one_at w2 y _ (blk_lt k2) k2)) (Aside0.mk fun q hq => by rw [List.mem_singleton.1 hq]; exact hx.to hbb) (Aside0.mk fun q hq => by rw [List.mem_singleton.1 hq]; exact hy.to hbb) (Aside0.mk (by rw [List.map_singleton, List.map_singleton, e])) (by omega) (by omega) (Aside0.mk fun q hq => by rw [List.mem_singleton.1 hq]; exact hm)
def bk21.T21 : Bool × List (List Nat × List Nat) := (true, [([], []), ([0], [0]), ([], []), ([1, 2], [1, 2]), ([3], [3]), ([], []), ([5], [5]), ([], []), ([6, 7], [6, 7]), ([8], [8]), ([4, 9], [4, 9])])
def bk21.B21 : List Nat := [0, 1, 0, 7, 15, 0, 32, 0, 224, 480, 1023]
theorem bk21.tab21 : rtab .any (opsOf Try.f4 21) = bk21.T21 := by kernel_rfl
theorem bk21.bits21 : waitsOk bk21.T21.2 bk21.B21 = true := by kernel_rfl
def bk26.T26 : Bool × List (List Nat × List Nat) := (true, [([], []), ([0], [0]), ([], []), ([1, 2], [1, 2]), ([3], [3]), ([], []), ([], []), ([5, 6], [5, 6]), ([7], [7]), ([], []), ([], []), ([9, 4, 0, 1, 2, 3, 4, 9, 10], [4, 9]), ([10, 8, 11, 0, 1, 2, 3, 4, 5, 6, 7, 8, 9, 10, 11], [8, 10])])
def bk26.B26 : List Nat := [0, 1, 0, 7, 15, 0, 0, 96, 224, 0, 0, 1567, 4095]
theorem bk26.tab26 : rtab .any (opsOf Try.f4 26) = bk26.T26 := by kernel_rfl
theorem bk26.bits26 : waitsOk bk26.T26.2 bk26.B26 = true := by kernel_rfl
set_option maxHeartbeats 16000000 in
set_option maxRecDepth 100000 in
theorem back_calls (W : World) (B : Nat) (hB : B ≤ W.heap.size) (ga gb : Gd) (HG : Aside0 (GM W B ga)) (HH : Aside0 (GM W B gb)) (HT : Aside0 (∀ n ∈ gb.NS, ∀ x ∈ n.T, (Lit.int .u64 x).wf = true)) (hna : ga.nl ≤ 9223372036854775807) (hnb : gb.nl ≤ 9223372036854775807) : Calls Try.prog 4 #[.agg #[.slice ga.rA ga.rl ga.rc, .slice ga.nA ga.nl ga.nc], .agg #[.slice gb.rA gb.rl gb.rc, .slice gb.nA gb.nl gb.nc]] W fun e W' => e = .returned (.bool true) ∧ Below W.heap.size W W' := by
  have HB := Aside0.mk (Below.refl W.heap.size W)
  go_enter Try.func4, Try.ntmps4
  go_upto_region 3 with (first | ((with_reducible refine gate_dst (N := 2) rfl ?_); refine box_event ?hg (N := 2) ?hd (cs := #[.slice ga.rA ga.rl ga.rc, .slice ga.nA ga.nl ga.nc]) (t := 25) ?hr ?_; (case hd => rfl); (case hg => rfl); (case hr => first | (go_simp; done) | (go_simp; rfl)); intro g2 hg w1_ hbox hb; have n0_ := Aside0.mk (below_step (by repeat (first | (with_reducible first | exact HB.out | apply below_alloc | apply pw_below_drewN | apply below_drew1) | exact HB.out)) hb); have n1_ := Aside0.mk hbox; have n2_ := Aside0.mk ((by rw [hg]; exact (below_size (by repeat (first | (with_reducible first | exact HB.out | apply below_alloc | apply pw_below_drewN | apply below_drew1) | exact HB.out)))) : W.heap.size ≤ g2); clear HB; have HB := n0_; have BK2 := n1_; have GE2 := n2_; clear n0_ n1_ n2_; clear hb hbox hg) | ((with_reducible refine gate_dst (N := 3) rfl ?_); refine box_event ?hg (N := 3) ?hd (cs := #[.slice gb.rA gb.rl gb.rc, .slice gb.nA gb.nl gb.nc]) (t := 25) ?hr ?_; (case hd => rfl); (case hg => rfl); (case hr => first | (go_simp; done) | (go_simp; rfl)); intro g3 hg w2_ hbox hb; have n0_ := Aside0.mk (below_step (by repeat (first | (with_reducible first | exact HB.out | apply below_alloc | apply pw_below_drewN | apply below_drew1 | refine below_set ?_ GE2.out) | exact HB.out)) hb); have n1_ := Aside0.mk (blk_below (g := g2) (o := .cells #[.slice ga.rA ga.rl ga.rc, .slice ga.nA ga.nl ga.nc] 25 (0, 0)) (by (with_reducible repeat (first | refine blk_drewN ?_ _ | refine blk_drew ?_ | refine blk_alloc ?_ _)); exact BK2.out) hb); have n2_ := Aside0.mk hbox; have n3_ := Aside0.mk ((by rw [hg]; exact (below_size (by repeat (first | (with_reducible first | exact HB.out | apply below_alloc | apply pw_below_drewN | apply below_drew1 | refine below_set ?_ GE2.out) | exact HB.out)))) : W.heap.size ≤ g3); have n4_ := Aside0.mk ((by rw [hg]; exact Nat.ne_of_lt (blk_lt (g := g2) (o := .cells #[.slice ga.rA ga.rl ga.rc, .slice ga.nA ga.nl ga.nc] 25 (0, 0)) (by (with_reducible repeat (first | refine blk_drewN ?_ _ | refine blk_drew ?_ | refine blk_alloc ?_ _)); exact BK2.out))) : g2 ≠ g3); clear HB; clear BK2; have HB := n0_; have BK2 := n1_; have BK3 := n2_; have GE3 := n3_; have NE2_3 := n4_; clear n0_ n1_ n2_ n3_ n4_; clear hb hbox hg) | ((with_reducible refine gate_callee (f := 7) rfl ?_); refine goesL_ (some 15) rfl rfl Try.func7 (by kernel_rfl) rfl #[] rfl (by (try simp only [List.map_toArray, List.map_cons, List.map_nil]); first | done | rfl | (simp only [List.length_drop, List.length_take]; rfl)) ?_; (with_reducible refine (Di.alive_calls _).mono ?_); rintro e w3_ ⟨rfl, hb⟩; refine ⟨_, rfl, ?_⟩; have n0_ := Aside0.mk (below_step (by repeat (first | (with_reducible first | exact HB.out | apply below_alloc | apply pw_below_drewN | apply below_drew1 | refine below_set ?_ GE2.out | refine below_set ?_ GE3.out) | exact HB.out)) hb); have n1_ := Aside0.mk (blk_below (g := g2) (o := .cells #[.slice ga.rA ga.rl ga.rc, .slice ga.nA ga.nl ga.nc] 25 (0, 0)) (by (with_reducible repeat (first | refine blk_drewN ?_ _ | refine blk_drew ?_ | refine blk_alloc ?_ _)); exact BK2.out) hb); have n2_ := Aside0.mk (blk_below (g := g3) (o := .cells #[.slice gb.rA gb.rl gb.rc, .slice gb.nA gb.nl gb.nc] 25 (0, 0)) (by (with_reducible repeat (first | refine blk_drewN ?_ _ | refine blk_drew ?_ | refine blk_alloc ?_ _)); exact BK3.out) hb); clear HB; clear BK2; clear BK3; have HB := n0_; have BK2 := n1_; have BK3 := n2_; clear n0_ n1_ n2_; clear hb; have hc2_0 : w3_.cell? ⟨g2, 0, none⟩ = some (.slice ga.rA ga.rl ga.rc) := (blk_cell BK2.out 0).trans rfl; have hf2_0 := blk_frozen BK2.out 0; have hc2_1 : w3_.cell? ⟨g2, 1, none⟩ = some (.slice ga.nA ga.nl ga.nc) := (blk_cell BK2.out 1).trans rfl; have hf2_1 := blk_frozen BK2.out 1; have hc3_0 : w3_.cell? ⟨g3, 0, none⟩ = some (.slice gb.rA gb.rl gb.rc) := (blk_cell BK3.out 0).trans rfl; have hf3_0 := blk_frozen BK3.out 0; have hc3_1 : w3_.cell? ⟨g3, 1, none⟩ = some (.slice gb.nA gb.nl gb.nc) := (blk_cell BK3.out 1).trans rfl; have hf3_1 := blk_frozen BK3.out 1))
  by_cases hsa : Small ga
  · by_cases hsb : Small gb
    · by_cases hrl : ga.rl = gb.rl
      · have hne : ((ga.rl : Int) != (gb.rl : Int)) = false := nat_eq hrl
        have HRL := Aside0.mk hrl
        clear hrl
        go_upto_region 5 with (first | ((with_reducible refine gate_callee (f := 8) rfl ?_); refine goesL_ (some 18) rfl rfl Try.func8 (by kernel_rfl) rfl #[.agg #[.slice ga.rA ga.rl ga.rc, .slice ga.nA ga.nl ga.nc]] rfl (by (try simp only [List.map_toArray, List.map_cons, List.map_nil]); first | done | rfl | (simp only [List.length_drop, List.length_take]; rfl)) ?_; (with_reducible refine (great_no _ B (Nat.le_trans hB HB.out.size) ga (Aside0.mk (HG.out.kept fun k hk => HB.out.block k (by omega))) hna hsa).mono ?_); rintro e w4_ ⟨rfl, hb⟩; refine ⟨_, rfl, ?_⟩; have n0_ := Aside0.mk (below_step (by repeat (first | (with_reducible first | exact HB.out | apply below_alloc | apply pw_below_drewN | apply below_drew1 | refine below_set ?_ GE2.out | refine below_set ?_ GE3.out) | exact HB.out)) hb); have n1_ := Aside0.mk (blk_below (g := g2) (o := .cells #[.slice ga.rA ga.rl ga.rc, .slice ga.nA ga.nl ga.nc] 25 (0, 0)) (by (with_reducible repeat (first | refine blk_drewN ?_ _ | refine blk_drew ?_ | refine blk_alloc ?_ _)); exact BK2.out) hb); have n2_ := Aside0.mk (blk_below (g := g3) (o := .cells #[.slice gb.rA gb.rl gb.rc, .slice gb.nA gb.nl gb.nc] 25 (0, 0)) (by (with_reducible repeat (first | refine blk_drewN ?_ _ | refine blk_drew ?_ | refine blk_alloc ?_ _)); exact BK3.out) hb); clear HB; clear BK2; clear BK3; have HB := n0_; have BK2 := n1_; have BK3 := n2_; clear n0_ n1_ n2_; clear hb; have hc2_0 : w4_.cell? ⟨g2, 0, none⟩ = some (.slice ga.rA ga.rl ga.rc) := (blk_cell BK2.out 0).trans rfl; have hf2_0 := blk_frozen BK2.out 0; have hc2_1 : w4_.cell? ⟨g2, 1, none⟩ = some (.slice ga.nA ga.nl ga.nc) := (blk_cell BK2.out 1).trans rfl; have hf2_1 := blk_frozen BK2.out 1; have hc3_0 : w4_.cell? ⟨g3, 0, none⟩ = some (.slice gb.rA gb.rl gb.rc) := (blk_cell BK3.out 0).trans rfl; have hf3_0 := blk_frozen BK3.out 0; have hc3_1 : w4_.cell? ⟨g3, 1, none⟩ = some (.slice gb.nA gb.nl gb.nc) := (blk_cell BK3.out 1).trans rfl; have hf3_1 := blk_frozen BK3.out 1) | (go_at_call 8; (with_reducible refine (great_no _ B (Nat.le_trans hB HB.out.size) gb (Aside0.mk (HH.out.kept fun k hk => HB.out.block k (by omega))) hnb hsb).mono ?_); rintro e w5_ ⟨rfl, hb⟩; have n0_ := Aside0.mk (below_step (by repeat (first | (with_reducible first | exact HB.out | apply below_alloc | apply pw_below_drewN | apply below_drew1 | refine below_set ?_ GE2.out | refine below_set ?_ GE3.out) | exact HB.out)) hb); have n1_ := Aside0.mk (blk_below (g := g2) (o := .cells #[.slice ga.rA ga.rl ga.rc, .slice ga.nA ga.nl ga.nc] 25 (0, 0)) (by (with_reducible repeat (first | refine blk_drewN ?_ _ | refine blk_drew ?_ | refine blk_alloc ?_ _)); exact BK2.out) hb); have n2_ := Aside0.mk (blk_below (g := g3) (o := .cells #[.slice gb.rA gb.rl gb.rc, .slice gb.nA gb.nl gb.nc] 25 (0, 0)) (by (with_reducible repeat (first | refine blk_drewN ?_ _ | refine blk_drew ?_ | refine blk_alloc ?_ _)); exact BK3.out) hb); clear HB; clear BK2; clear BK3; have HB := n0_; have BK2 := n1_; have BK3 := n2_; clear n0_ n1_ n2_; clear hb; have hc2_0 : w5_.cell? ⟨g2, 0, none⟩ = some (.slice ga.rA ga.rl ga.rc) := (blk_cell BK2.out 0).trans rfl; have hf2_0 := blk_frozen BK2.out 0; have hc2_1 : w5_.cell? ⟨g2, 1, none⟩ = some (.slice ga.nA ga.nl ga.nc) := (blk_cell BK2.out 1).trans rfl; have hf2_1 := blk_frozen BK2.out 1; have hc3_0 : w5_.cell? ⟨g3, 0, none⟩ = some (.slice gb.rA gb.rl gb.rc) := (blk_cell BK3.out 0).trans rfl; have hf3_0 := blk_frozen BK3.out 0; have hc3_1 : w5_.cell? ⟨g3, 1, none⟩ = some (.slice gb.nA gb.nl gb.nc) := (blk_cell BK3.out 1).trans rfl; have hf3_1 := blk_frozen BK3.out 1))
        go_upto_region 6 with (go_at_call 12; refine (of_calls _ B (Nat.le_trans hB HB.out.size) ga gb hsa hsb (Aside0.mk (HG.out.kept fun k hk => HB.out.block k (by omega))) (Aside0.mk (HH.out.kept fun k hk => HB.out.block k (by omega)))).mono ?_; rintro e wo ⟨vv, K, rfl, hk, hrow, hb⟩; obtain ⟨L, hL⟩ : ∃ L, L = (ofR ga.NS ga.R gb.NS gb.R K) := ⟨_, rfl⟩; rw [← hL] at hrow; obtain ⟨n, hn⟩ : ∃ n, n = L.length := ⟨_, rfl⟩; rw [← hn] at hrow; obtain ⟨a1, c1, rfl⟩ := row44_slice hrow; have HK := Aside0.mk hk; have HL := Aside0.mk hL; have HN := Aside0.mk hn; have HCM := Aside0.mk (chs_mem hrow hn.symm); have hmx := row_max hrow; have HBo := Aside0.mk (below_step HB.out hb); have BK2o := Aside0.mk (blk_below BK2.out hb); have BK3o := Aside0.mk (blk_below BK3.out hb); clear hk hL hn hrow hb)
        go_upto_region 7 with (go_at_call 13; refine (Di.count_calls _ a1 n c1 (chF L) (Aside0.mk (chs_list HCM.out)) hmx).mono ?_; rintro e wc ⟨rfl, hb⟩; have HBc := Aside0.mk (below_step HBo.out hb); have HCMc := Aside0.mk (HCM.out.kept fun k hk => hb.block k hk); have HCS := Aside0.mk hb.size; have BK2c := Aside0.mk (blk_below BK2o.out hb); have BK3c := Aside0.mk (blk_below BK3o.out hb); clear hb)
        have HLE := Aside0.mk (show L.length ≤ 100000 by rw [HL.out]; exact ofR_le HK.out (by rw [HG.out.rts.1]; exact hsa.r40) (by rw [HH.out.rts.1]; exact hsb.r40) (Nat.le_trans (walkR_len _ _) (by rw [HG.out.nds.1]; exact hsa.n40)) (Nat.le_trans (walkR_len _ _) (by rw [HH.out.nds.1]; exact hsb.n40)) hsa.sz)
        have HCW := Aside0.mk (show CW L by rw [HL.out]; exact ofR_wf HK.out HG.out.ok HH.out.ok HT.out)
        obtain ⟨s, hs, hall⟩ := cnt_sum L HLE.out
        rw [← HN.out] at hs
        have HALL := Aside0.mk hall
        clear hall
        obtain ⟨cc, hcc⟩ : ∃ c, c = Di.cntF (chF L) n := ⟨_, rfl⟩
        rw [← hcc] at hs ⊢
        clear hcc
        obtain ⟨k0, k1, k2, k3, k4, k5⟩ := cc
        dsimp only at hs
        obtain ⟨g6, hg6⟩ : ∃ x, x = wc.heap.size := ⟨_, rfl⟩
        obtain ⟨wd, hwd⟩ : ∃ x, x = wc.alloc (.cells #[.int .i64 k0, .int .i64 k1, .int .i64 k2, .int .i64 k3, .int .i64 k4, .int .i64 k5] 34) := ⟨_, rfl⟩
        rw [← hg6, ← hwd]
        have hbd : Below wc.heap.size wc wd := by rw [hwd]; exact below_alloc (Below.refl _ _) _
        have BK6d := Aside0.mk (show wd.heap[g6]? = some (.cells #[.int .i64 k0, .int .i64 k1, .int .i64 k2, .int .i64 k3, .int .i64 k4, .int .i64 k5] 34 (0, 0)) by rw [hwd, hg6]; exact blk_new _ _)
        have HBd := Aside0.mk (below_step HBc.out hbd)
        have HCMd := Aside0.mk (HCMc.out.kept fun k hk => hbd.block k (Nat.lt_of_lt_of_le hk HCS.out))
        have HCSd := Aside0.mk (Nat.le_trans HCS.out hbd.size)
        have BK2d := Aside0.mk (blk_below BK2c.out hbd)
        have BK3d := Aside0.mk (blk_below BK3c.out hbd)
        clear hbd hwd hg6 HBc HCMc HCS BK2c BK3c BK2o BK3o HCM
        have hc6_1 : wd.cell? ⟨g6, 1, none⟩ = some (.int .i64 k1) := (blk_cell BK6d.out 1).trans rfl
        have hc6_2 : wd.cell? ⟨g6, 2, none⟩ = some (.int .i64 k2) := (blk_cell BK6d.out 2).trans rfl
        have hc6_3 : wd.cell? ⟨g6, 3, none⟩ = some (.int .i64 k3) := (blk_cell BK6d.out 3).trans rfl
        by_cases hs0 : s > 0
        · have hds : decide (s > 0) = true := decide_eq_true hs0
          have hds' : decide (0 < s) = true := decide_eq_true hs0
          go_wp2
          go_ret
          exact ⟨rfl, HBd.out⟩
        · have hds : decide (s > 0) = false := decide_eq_false hs0
          have hds' : decide (0 < s) = false := decide_eq_false hs0
          go_wp2
          have HNK := Aside0.mk (HALL.out hs0)
          clear hs hds hds' hs0 hc6_1 hc6_2 hc6_3
          go_loopw [7] (fun v wr => ∃ i : Nat, i ≤ ga.nl ∧ v = .int .i64 (i : Int) ∧ Aside0 (∀ j, j < i → (ga.NS.getD j default).adr ≠ 0) ∧ Aside0 (Below wd.heap.size wd wr)) (fun v _ => ga.nl - (intOf v).toNat)
          case atStart => exact ⟨0, by omega, rfl, Aside0.mk fun j hj => absurd hj (Nat.not_lt_zero j), Aside0.mk (Below.refl _ _)⟩
          case round =>
            obtain ⟨i, hi_, rfl, HNZ, HBl⟩ := hrel
            have BK2l := Aside0.mk (blk_below BK2d.out HBl.out)
            have hr2_1 : wr.cell? ⟨g2, 1, none⟩ = some (.slice ga.nA ga.nl ga.nc) := (blk_cell BK2l.out 1).trans rfl
            have HBL := Aside0.mk (below_step HBd.out HBl.out)
            by_cases hgo : i < ga.nl
            · have hd : decide ((i : Int) < (ga.nl : Int)) = true := decide_eq_true (by omega)
              obtain ⟨y, ey, _, hz0', _, _, _, _, _⟩ := (HG.out.nds.kept fun k hk => HBL.out.block k (by omega)).2 i hgo
              obtain ⟨ad, had⟩ : ∃ x, x = (ga.NS.getD i default).adr := ⟨_, rfl⟩
              rw [← had] at hz0'
              have HAD := Aside0.mk had
              have hz0 : wr.cell? (y.add (i * 6)) = some (.int .i64 ad) := (congrArg _ (add_zero _).symm).trans hz0'
              clear had hz0'
              rw [ey] at hr2_1
              have EY := Aside0.mk ey
              clear ey
              have hi0 : (0 : Int) ≤ (i : Int) := by omega
              have hi1 : (i : Int) < (ga.nl : Int) := by omega
              have hi1n : i + 1 ≤ ga.nl := by omega
              by_cases h0 : ad = 0
              · have hd0 : (ad == 0) = true := by simp [h0]
                clear h0
                go_wp2
                go_ret
                exact ⟨rfl, HBL.out⟩
              · have hd0 : (ad == 0) = false := by simp [h0]
                have HNZ2 := Aside0.mk (show ∀ j, j < i + 1 → (ga.NS.getD j default).adr ≠ 0 from fun j hj => by
                  rcases Nat.lt_or_ge j i with h | h
                  · exact HNZ.out j h
                  · obtain rfl : j = i := by omega
                    rw [← HAD.out]; exact h0)
                clear h0
                go_wp2
                go_roundw
                case measure => exact meas_i hgo (by push_cast; rfl)
                case rel => exact ⟨i + 1, hi1n, by push_cast; rfl, HNZ2, HBl⟩
            · obtain rfl : i = ga.nl := by omega
              have hd : decide ((ga.nl : Int) < (ga.nl : Int)) = false := decide_eq_false (by omega)
              have BK3l := Aside0.mk (blk_below BK3d.out HBl.out)
              have HCMl := Aside0.mk (HCMd.out.kept fun k hk => HBl.out.block k (Nat.lt_of_lt_of_le hk HCSd.out))
              have HCSl := Aside0.mk (Nat.le_trans HCSd.out HBl.out.size)
              go_upto_region 14 with fail
              have HNZ := Aside0.mk (show ∀ x ∈ ga.NS, x.adr ≠ 0 ∧ Fit x from fun x hx => by
                obtain ⟨j, hj, e⟩ := List.getElem_of_mem hx
                have h1 := HNZ.out j (by rw [← HG.out.nds.1]; exact hj)
                rw [List.getD_eq_getElem?_getD, List.getElem?_eq_getElem hj, Option.getD_some, e] at h1
                exact ⟨h1, (HG.out.sub x hx).1.1, (HG.out.sub x hx).2.1, HG.out.sok x hx⟩)
              have hr2_0 : wr.cell? ⟨g2, 0, none⟩ = some (.slice ga.rA ga.rl ga.rc) := (blk_cell BK2l.out 0).trans rfl
              go_upto_region 15 with (go_at_call 9; refine (dapplyB_calls _ wo.heap.size HCSl.out ga hsa (Aside0.mk (GM_up (HG.out.kept fun k hk => HBL.out.block k (by omega)) (Nat.le_trans hB HBo.out.size))) a1 n c1 L HCMl HCW (by rw [HN.out]; exact HLE.out)).mono ?_; rintro e w5 ⟨rA, rl, rc, nA, nl, nc, R1, M1, ok1, rfl, hor1, hR1, hN1, hD1, hb5⟩; have HOR1 := Aside0.mk hor1; have HR1 := Aside0.mk hR1; have HN1 := Aside0.mk hN1; have HD1 := Aside0.mk hD1; have HB5 := Aside0.mk (below_step HBL.out hb5); have BK35 := Aside0.mk (blk_below BK3l.out hb5); clear hor1 hR1 hN1 hD1 hb5)
              obtain ⟨g8, hg8⟩ : ∃ x, x = w5.heap.size := ⟨_, rfl⟩
              obtain ⟨w6, hw6⟩ : ∃ x, x = w5.alloc (.cells #[.slice rA rl rc, .slice nA nl nc] 25) := ⟨_, rfl⟩
              rw [← hg8, ← hw6]
              have hb6 : Below w5.heap.size w5 w6 := by rw [hw6]; exact below_alloc (Below.refl _ _) _
              have BK86 := Aside0.mk (show w6.heap[g8]? = some (.cells #[.slice rA rl rc, .slice nA nl nc] 25 (0, 0)) by rw [hw6, hg8]; exact blk_new _ _)
              have HB6 := Aside0.mk (below_step HB5.out hb6)
              have HR6 := Aside0.mk (HR1.out.to hb6)
              have HN6 := Aside0.mk (NL_to HN1.out hb6)
              have HD6 := Aside0.mk (fun q hq => (HD1.out q hq).to hb6 : ∀ q ∈ M1, DL w6 w6.heap.size q)
              have BK36 := Aside0.mk (blk_below BK35.out hb6)
              clear hb6 hw6 hg8 HB5 HR1 HN1 HD1 BK35 hr2_1 hr2_0
              have hd3_0 : w6.cell? ⟨g3, 0, none⟩ = some (.slice gb.rA gb.rl gb.rc) := (blk_cell BK36.out 0).trans rfl
              have hd3_1 : w6.cell? ⟨g3, 1, none⟩ = some (.slice gb.nA gb.nl gb.nc) := (blk_cell BK36.out 1).trans rfl
              go_upto_region 16 with (go_at_call 14; refine (rnodes_calls _ B (Nat.le_trans hB HB6.out.size) gb hsb (Aside0.mk (HH.out.kept fun k hk => HB6.out.block k (by omega)))).mono ?_; rintro e w7 ⟨vn, rfl, hrow, hb7⟩; obtain ⟨MS, hMS⟩ : ∃ M, M = sorted gb.NS (walkR gb.NS gb.R) := ⟨_, rfl⟩; rw [← hMS] at hrow; obtain ⟨mn, hmn⟩ : ∃ n, n = MS.length := ⟨_, rfl⟩; rw [← hmn] at hrow; obtain ⟨a10, c10, rfl⟩ := row40_slice hrow; have HMS := Aside0.mk hMS; have HMN := Aside0.mk hmn; have HN2 := Aside0.mk (NL_of_row40 hrow hmn.symm); have HB7 := Aside0.mk (below_step HB6.out hb7); have HX7 := Aside0.mk hb7; have BK87 := Aside0.mk (blk_below BK86.out hb7); have BK37 := Aside0.mk (blk_below BK36.out hb7); clear hMS hmn hrow hb7)
              have hout := back_out HK.out (by rw [HG.out.rts.1, HH.out.rts.1]; exact HRL.out) HH.out.rok HNZ.out (fun y hy => ⟨(HH.out.sub y hy).1.1, (HH.out.sub y hy).2.1, HH.out.sok y hy⟩) (by rw [← HL.out]; exact HNK.out) (by rw [← HL.out]; exact HOR1.out)
              rw [← HMS.out, ← HMN.out] at hout
              obtain ⟨ho, hRR, hml, hel⟩ := hout
              have HEL := Aside0.mk hel
              subst ho
              have hnl : nl = mn := by rw [← hml]; exact HN6.out.1.symm
              have HRR := Aside0.mk hRR
              clear hml hel hRR
              subst hnl
              have hrr : rl = gb.rl := by rw [← HR6.out.1, HRR.out]; exact HH.out.rts.1
              have hnn : ((nl : Int) != (nl : Int)) = false := by simp
              have hrn : ((rl : Int) != (gb.rl : Int)) = false := nat_eq hrr
              have HRQ := Aside0.mk hrr
              clear hrr
              have hnt : (!true) = false := rfl
              have hc8_0 : w7.cell? ⟨g8, 0, none⟩ = some (.slice rA rl rc) := (blk_cell BK87.out 0).trans rfl
              have hc8_1 : w7.cell? ⟨g8, 1, none⟩ = some (.slice nA nl nc) := (blk_cell BK87.out 1).trans rfl
              have hc3_0 : w7.cell? ⟨g3, 0, none⟩ = some (.slice gb.rA gb.rl gb.rc) := (blk_cell BK37.out 0).trans rfl
              go_wp2
              have HR7 := Aside0.mk (HR6.out.to HX7.out)
              have HN7 := Aside0.mk (NL_to HN6.out HX7.out)
              have HD7 := Aside0.mk (fun q hq => (HD6.out q hq).to HX7.out : ∀ q ∈ M1, DL w7 w7.heap.size q)
              clear hc8_0 hc8_1 hc3_0 hd3_0 hd3_1
              obtain ⟨wA, hwA⟩ : ∃ x, x = wr := ⟨_, rfl⟩
              subst hwA
              go_loopw [11] (fun v wr => ∃ i : Nat, i ≤ rl ∧ v = .int .i64 (i : Int) ∧ Aside0 (Below w7.heap.size w7 wr)) (fun v _ => rl - (intOf v).toNat)
              case atStart => exact ⟨0, by omega, rfl, Aside0.mk (Below.refl _ _)⟩
              case round =>
                obtain ⟨i, hi2_, rfl, HBm⟩ := hrel
                have BK8 := Aside0.mk (blk_below BK87.out HBm.out)
                have BK3 := Aside0.mk (blk_below BK37.out HBm.out)
                have HBM := Aside0.mk (below_step HB7.out HBm.out)
                have hr8_0 : wr.cell? ⟨g8, 0, none⟩ = some (.slice rA rl rc) := (blk_cell BK8.out 0).trans rfl
                by_cases hgo : i < rl
                · have hd2 : decide ((i : Int) < (rl : Int)) = true := decide_eq_true (by omega)
                  have hgb : i < gb.rl := by have := HRQ.out; omega
                  obtain ⟨ya, ea, _, hya⟩ := (HR7.out.kept fun k hk => HBm.out.block k hk).2 i hgo
                  obtain ⟨yb, eb, _, hyb⟩ := (HH.out.rts.kept fun k hk => HBM.out.block k (by omega)).2 i hgb
                  obtain ⟨x, hx⟩ : ∃ x, x = gb.R.getD i 0 := ⟨_, rfl⟩
                  rw [HRR.out, ← hx] at hya
                  rw [← hx] at hyb
                  clear hx
                  have EA := Aside0.mk ea
                  have EB := Aside0.mk eb
                  clear ea eb
                  have BK8s := Aside0.mk (show wr.heap[g8]? = some (.cells #[.slice (some ya) rl rc, .slice nA nl nc] 25 (0, 0)) by rw [← EA.out]; exact BK8.out)
                  have BK3s := Aside0.mk (show wr.heap[g3]? = some (.cells #[.slice (some yb) gb.rl gb.rc, .slice gb.nA gb.nl gb.nc] 25 (0, 0)) by rw [← EB.out]; exact BK3.out)
                  have hi0 : (0 : Int) ≤ (i : Int) := by omega
                  have hi1 : (i : Int) < (rl : Int) := by omega
                  have hi1b : (i : Int) < (gb.rl : Int) := by omega
                  have hi1n : i + 1 ≤ rl := by omega
                  have hxx : (x != x) = false := by simp
                  have hr40 : rl ≤ 40 := by have h1 := HRQ.out; have h2 := hsb.r40; omega
                  go_upto_region 21 with fail
                  have HR := Aside0.mk (Below.refl wr.heap.size wr)
                  clear BK8 BK3
                  have BK8 := BK8s
                  have BK3 := BK3s
                  refine start_ (n := 11) (S := fun w' => True) (ds := []) #[false, false, false, false, false, false, false, false, false, false, false] (by kernel_rfl) rfl rfl trivial (fun hHeld => ?_)
                  refine with_tabW bk21.tab21 bk21.bits21 (fun HT_ HW_ => ?_)
                  refine inv_at [0, 1, 2, 3, 4, 5, 6, 7, 8, 9, 10] (fun a0_ b a w' => a = putSel a0_ b [(0, 94, .pointer (some ⟨g8, 0, none⟩)), (1, 95, .slice (some ya) rl rc), (2, 96, .int .i64 (i : Int)), (3, 97, .pointer (some (ya.add i))), (4, 98, .int .i64 x), (5, 99, .pointer (some ⟨g3, 0, none⟩)), (6, 100, .slice (some yb) gb.rl gb.rc), (7, 101, .int .i64 (i : Int)), (8, 102, .pointer (some (yb.add i))), (9, 103, .int .i64 x), (10, 104, .bool false)] ∧ (Below wr.heap.size wr w')) HT_.out HW_.out (by kernel_rfl) (by kernel_rfl) ?_ ?_ ?_
                  · exact ⟨by simp only [putSel, Bool.false_eq_true, if_false], below_drew1 HR.out⟩
                  · skip
                    clear HR
                    refine steps_cons ?_ ?_
                    · rintro b a w' ⟨ha, Q_HR⟩ hb_ hon hoff
                      refine ⟨_, rfl, fun K hK => ?_⟩
                      have e8 : a.tmps[8]? = some (.pointer (some ⟨g8, 0, none⟩)) := by rw [ha]; exact (putSel_off rfl).trans rfl
                      replace ha := Aside0.mk ha
                      have HR := Aside0.mk Q_HR
                      refine value_ (w1 := w') (v := .pointer (some ⟨g8, 0, none⟩)) (by rfl) rfl ?_ ?_
                      · go_simp
                        (try simp only [i64_w])
                        try rfl
                      refine hK.out _ _ ⟨(by rw [ha.out]; exact putSel_upk 0 hb_ rfl rfl rfl), Q_HR⟩
                    refine steps_cons ?_ ?_
                    · rintro b a w' ⟨ha, Q_HR⟩ hb_ hon hoff
                      refine ⟨_, rfl, fun K hK => ?_⟩
                      have e94 : a.tmps[94]? = some (.pointer (some ⟨g8, 0, none⟩)) := by rw [ha]; exact putSel_on (e := (0, 94, .pointer (some ⟨g8, 0, none⟩))) 0 rfl rfl (hon 0 (by kernel_rfl)) rfl
                      replace ha := Aside0.mk ha
                      have HR := Aside0.mk Q_HR
                      have hl95_0 : w'.cell? ⟨g8, 0, none⟩ = some (.slice (some ya) rl rc) := (blk_cell (blk_below BK8.out HR.out) 0).trans rfl
                      refine value_ (w1 := w') (v := .slice (some ya) rl rc) (by rfl) rfl ?_ ?_
                      · go_simp
                        (try simp only [i64_w])
                        try rfl
                      refine hK.out _ _ ⟨(by rw [ha.out]; exact putSel_upk 1 hb_ rfl rfl rfl), Q_HR⟩
                    refine steps_cons ?_ ?_
                    · rintro b a w' ⟨ha, Q_HR⟩ hb_ hon hoff
                      refine ⟨_, rfl, fun K hK => ?_⟩
                      have e11 : a.tmps[11]? = some (.int .i64 (i : Int)) := by rw [ha]; exact (putSel_off rfl).trans rfl
                      replace ha := Aside0.mk ha
                      have HR := Aside0.mk Q_HR
                      refine value_ (w1 := w') (v := .int .i64 (i : Int)) (by rfl) rfl ?_ ?_
                      · go_simp
                        (try simp only [i64_w])
                        try rfl
                      refine hK.out _ _ ⟨(by rw [ha.out]; exact putSel_upk 2 hb_ rfl rfl rfl), Q_HR⟩
                    refine steps_cons ?_ ?_
                    · rintro b a w' ⟨ha, Q_HR⟩ hb_ hon hoff
                      refine ⟨_, rfl, fun K hK => ?_⟩
                      have e95 : a.tmps[95]? = some (.slice (some ya) rl rc) := by rw [ha]; exact putSel_on (e := (1, 95, .slice (some ya) rl rc)) 1 rfl rfl (hon 1 (by kernel_rfl)) rfl
                      have e96 : a.tmps[96]? = some (.int .i64 (i : Int)) := by rw [ha]; exact putSel_on (e := (2, 96, .int .i64 (i : Int))) 2 rfl rfl (hon 2 (by kernel_rfl)) rfl
                      replace ha := Aside0.mk ha
                      have HR := Aside0.mk Q_HR
                      refine value_ (w1 := w') (v := .pointer (some (ya.add i))) (by rfl) rfl ?_ ?_
                      · go_simp
                        (try simp only [i64_w])
                        try rfl
                      refine hK.out _ _ ⟨(by rw [ha.out]; exact putSel_upk 3 hb_ rfl rfl rfl), Q_HR⟩
                    refine steps_cons ?_ ?_
                    · rintro b a w' ⟨ha, Q_HR⟩ hb_ hon hoff
                      refine ⟨_, rfl, fun K hK => ?_⟩
                      have e97 : a.tmps[97]? = some (.pointer (some (ya.add i))) := by rw [ha]; exact putSel_on (e := (3, 97, .pointer (some (ya.add i)))) 3 rfl rfl (hon 3 (by kernel_rfl)) rfl
                      replace ha := Aside0.mk ha
                      have HR := Aside0.mk Q_HR
                      have hl98 : w'.cell? (ya.add i) = some (.int .i64 x) := (HR.out.cell (p := ya.add i) (cell_lt hya)).trans hya
                      refine value_ (w1 := w') (v := .int .i64 x) (by rfl) rfl ?_ ?_
                      · go_simp
                        (try simp only [i64_w])
                        try rfl
                      refine hK.out _ _ ⟨(by rw [ha.out]; exact putSel_upk 4 hb_ rfl rfl rfl), Q_HR⟩
                    refine steps_cons ?_ ?_
                    · rintro b a w' ⟨ha, Q_HR⟩ hb_ hon hoff
                      refine ⟨_, rfl, fun K hK => ?_⟩
                      have e3 : a.tmps[3]? = some (.pointer (some ⟨g3, 0, none⟩)) := by rw [ha]; exact (putSel_off rfl).trans rfl
                      replace ha := Aside0.mk ha
                      have HR := Aside0.mk Q_HR
                      refine value_ (w1 := w') (v := .pointer (some ⟨g3, 0, none⟩)) (by rfl) rfl ?_ ?_
                      · go_simp
                        (try simp only [i64_w])
                        try rfl
                      refine hK.out _ _ ⟨(by rw [ha.out]; exact putSel_upk 5 hb_ rfl rfl rfl), Q_HR⟩
                    refine steps_cons ?_ ?_
                    · rintro b a w' ⟨ha, Q_HR⟩ hb_ hon hoff
                      refine ⟨_, rfl, fun K hK => ?_⟩
                      have e99 : a.tmps[99]? = some (.pointer (some ⟨g3, 0, none⟩)) := by rw [ha]; exact putSel_on (e := (5, 99, .pointer (some ⟨g3, 0, none⟩))) 5 rfl rfl (hon 5 (by kernel_rfl)) rfl
                      replace ha := Aside0.mk ha
                      have HR := Aside0.mk Q_HR
                      have hl100_0 : w'.cell? ⟨g3, 0, none⟩ = some (.slice (some yb) gb.rl gb.rc) := (blk_cell (blk_below BK3.out HR.out) 0).trans rfl
                      refine value_ (w1 := w') (v := .slice (some yb) gb.rl gb.rc) (by rfl) rfl ?_ ?_
                      · go_simp
                        (try simp only [i64_w])
                        try rfl
                      refine hK.out _ _ ⟨(by rw [ha.out]; exact putSel_upk 6 hb_ rfl rfl rfl), Q_HR⟩
                    refine steps_cons ?_ ?_
                    · rintro b a w' ⟨ha, Q_HR⟩ hb_ hon hoff
                      refine ⟨_, rfl, fun K hK => ?_⟩
                      have e11 : a.tmps[11]? = some (.int .i64 (i : Int)) := by rw [ha]; exact (putSel_off rfl).trans rfl
                      replace ha := Aside0.mk ha
                      have HR := Aside0.mk Q_HR
                      refine value_ (w1 := w') (v := .int .i64 (i : Int)) (by rfl) rfl ?_ ?_
                      · go_simp
                        (try simp only [i64_w])
                        try rfl
                      refine hK.out _ _ ⟨(by rw [ha.out]; exact putSel_upk 7 hb_ rfl rfl rfl), Q_HR⟩
                    refine steps_cons ?_ ?_
                    · rintro b a w' ⟨ha, Q_HR⟩ hb_ hon hoff
                      refine ⟨_, rfl, fun K hK => ?_⟩
                      have e100 : a.tmps[100]? = some (.slice (some yb) gb.rl gb.rc) := by rw [ha]; exact putSel_on (e := (6, 100, .slice (some yb) gb.rl gb.rc)) 6 rfl rfl (hon 6 (by kernel_rfl)) rfl
                      have e101 : a.tmps[101]? = some (.int .i64 (i : Int)) := by rw [ha]; exact putSel_on (e := (7, 101, .int .i64 (i : Int))) 7 rfl rfl (hon 7 (by kernel_rfl)) rfl
                      replace ha := Aside0.mk ha
                      have HR := Aside0.mk Q_HR
                      refine value_ (w1 := w') (v := .pointer (some (yb.add i))) (by rfl) rfl ?_ ?_
                      · go_simp
                        (try simp only [i64_w])
                        try rfl
                      refine hK.out _ _ ⟨(by rw [ha.out]; exact putSel_upk 8 hb_ rfl rfl rfl), Q_HR⟩
                    refine steps_cons ?_ ?_
                    · rintro b a w' ⟨ha, Q_HR⟩ hb_ hon hoff
                      refine ⟨_, rfl, fun K hK => ?_⟩
                      have e102 : a.tmps[102]? = some (.pointer (some (yb.add i))) := by rw [ha]; exact putSel_on (e := (8, 102, .pointer (some (yb.add i)))) 8 rfl rfl (hon 8 (by kernel_rfl)) rfl
                      replace ha := Aside0.mk ha
                      have HR := Aside0.mk Q_HR
                      have hl103 : w'.cell? (yb.add i) = some (.int .i64 x) := (HR.out.cell (p := yb.add i) (cell_lt hyb)).trans hyb
                      refine value_ (w1 := w') (v := .int .i64 x) (by rfl) rfl ?_ ?_
                      · go_simp
                        (try simp only [i64_w])
                        try rfl
                      refine hK.out _ _ ⟨(by rw [ha.out]; exact putSel_upk 9 hb_ rfl rfl rfl), Q_HR⟩
                    refine steps_cons ?_ ?_
                    · rintro b a w' ⟨ha, Q_HR⟩ hb_ hon hoff
                      refine ⟨_, rfl, fun K hK => ?_⟩
                      have e98 : a.tmps[98]? = some (.int .i64 x) := by rw [ha]; exact putSel_on (e := (4, 98, .int .i64 x)) 4 rfl rfl (hon 4 (by kernel_rfl)) rfl
                      have e103 : a.tmps[103]? = some (.int .i64 x) := by rw [ha]; exact putSel_on (e := (9, 103, .int .i64 x)) 9 rfl rfl (hon 9 (by kernel_rfl)) rfl
                      replace ha := Aside0.mk ha
                      have HR := Aside0.mk Q_HR
                      refine value_ (w1 := w') (v := .bool false) (by rfl) rfl ?_ ?_
                      · go_simp
                        (try simp only [i64_w])
                        try rfl
                      refine hK.out _ _ ⟨(by rw [ha.out]; exact putSel_upk 10 hb_ rfl rfl rfl), Q_HR⟩
                    exact steps_nil
                  rintro b a wx hall ⟨ha, Q_HR⟩
                  clear HR
                  have hb0_ := hall 0 (by kernel_rfl)
                  have hb1_ := hall 1 (by kernel_rfl)
                  have hb2_ := hall 2 (by kernel_rfl)
                  have hb3_ := hall 3 (by kernel_rfl)
                  have hb4_ := hall 4 (by kernel_rfl)
                  have hb5_ := hall 5 (by kernel_rfl)
                  have hb6_ := hall 6 (by kernel_rfl)
                  have hb7_ := hall 7 (by kernel_rfl)
                  have hb8_ := hall 8 (by kernel_rfl)
                  have hb9_ := hall 9 (by kernel_rfl)
                  have hb10_ := hall 10 (by kernel_rfl)
                  subst ha
                  simp only [putSel, hb0_, hb1_, hb2_, hb3_, hb4_, hb5_, hb6_, hb7_, hb8_, hb9_, hb10_, if_true, Act.put, List.setIfInBounds_toArray, List.set_cons_zero, List.set_cons_succ]
                  have HR := Aside0.mk Q_HR
                  clear Q_HR
                  clear hall hb0_ hb1_ hb2_ hb3_ hb4_ hb5_ hb6_ hb7_ hb8_ hb9_ hb10_
                  have HBm2 := Aside0.mk (below_step HBm.out HR.out)
                  go_wp2
                  go_roundw
                  case measure => exact meas_i hgo (by push_cast; rfl)
                  case rel => exact ⟨i + 1, hi1n, by push_cast; rfl, HBm2⟩
                · have hd2 : decide ((rl : Int) < (rl : Int)) = false := decide_eq_false (by omega)
                  obtain rfl : i = rl := by omega
                  go_wp2
                  clear hr8_0
                  obtain ⟨wB, hwB⟩ : ∃ x, x = wr := ⟨_, rfl⟩
                  subst hwB
                  have HBn := HBm
                  clear HBm BK8 BK3 HBM
                  have hml40 : nl ≤ 40 := by rw [HMN.out, HMS.out]; have h1 := (sorted_walk gb.NS gb.R).len; have h2 := walkR_len gb.NS gb.R; have h3 := HH.out.nds.1; have h4 := hsb.n40; omega
                  go_loopw [12] (fun v wr => ∃ i : Nat, i ≤ nl ∧ v = .int .i64 (i : Int) ∧ Aside0 (Below w7.heap.size w7 wr)) (fun v _ => nl - (intOf v).toNat)
                  case atStart => exact ⟨0, by omega, rfl, HBn⟩
                  case round =>
                    obtain ⟨i, hi3_, rfl, HBm⟩ := hrel
                    have BK8 := Aside0.mk (blk_below BK87.out HBm.out)
                    have HBM := Aside0.mk (below_step HB7.out HBm.out)
                    by_cases hgo : i < nl
                    · have hd3 : decide ((i : Int) < (nl : Int)) = true := decide_eq_true (by omega)
                      obtain ⟨ya, ea, _, ha0', ha1', ha2', ha3', ha4', ha5'⟩ := (HN7.out.kept fun k hk => HBm.out.block k hk).2 i hgo
                      obtain ⟨yb, eb, _, hb0', hb1', hb2', hb3', hb4', hb5'⟩ := (HN2.out.kept fun k hk => HBm.out.block k hk).2 i hgo
                      have hel := HEL.out i (by rw [HN7.out.1]; exact hgo)
                      obtain ⟨q1, hq1⟩ : ∃ q, q = M1.getD i default := ⟨_, rfl⟩
                      obtain ⟨q2, hq2⟩ : ∃ q, q = MS.getD i default := ⟨_, rfl⟩
                      rw [← hq1] at ha0' ha1' ha2' ha3' ha4' ha5' hel
                      rw [← hq2] at hb0' hb1' hb2' hb3' hb4' hb5' hel
                      have hm1 : q1 ∈ M1 := by rw [hq1]; exact node_mem (by rw [HN7.out.1]; exact hgo)
                      have hm2 : q2 ∈ gb.NS := (sorted_walk gb.NS gb.R).mem q2 (by rw [← HMS.out, hq2]; exact node_mem (by rw [HN2.out.1]; exact hgo))
                      have hd1 : DL wr wr.heap.size q1 := (HD7.out q1 hm1).to HBm.out
                      have hd2 : DL wr wr.heap.size q2 := by
                        have h := (HH.out.sub q2 hm2).kept fun k hk => HBM.out.block k (Nat.lt_of_lt_of_le hk hB)
                        exact ⟨h.1.up (Nat.le_trans hB HBM.out.size), h.2.up (Nat.le_trans hB HBM.out.size)⟩
                      have hsz : q2.m ≤ 1000 ∧ q2.n ≤ 1000 := by have h := hsb.sz q2 hm2; exact ⟨by omega, by omega⟩
                      clear hq1 hq2 hm1 hm2
                      obtain ⟨pa, pr, ps, pw, A1, m, e1, B1, n1, d1, Sl, Tl⟩ := q1
                      obtain ⟨pa', qr, qs, qw, A2, m', e2, B2, n1', d2, Sl', Tl'⟩ := q2
                      dsimp only [DL] at ha0' ha1' ha2' ha3' ha4' ha5' hb0' hb1' hb2' hb3' hb4' hb5' hd1 hd2 hsz hel
                      obtain ⟨rfl, rfl, rfl⟩ := hel
                      obtain rfl : m = m' := hd1.1.1.symm.trans hd2.1.1
                      obtain rfl : n1 = n1' := hd1.2.1.symm.trans hd2.2.1
                      have HD1 := Aside0.mk hd1
                      have HD2 := Aside0.mk hd2
                      clear hd1 hd2
                      subst ea
                      subst eb
                      have hi0 : (0 : Int) ≤ (i : Int) := by omega
                      have hi1 : (i : Int) < (nl : Int) := by omega
                      have hi1n : i + 1 ≤ nl := by omega
                      have ha0 : wr.cell? (ya.add (i * 6)) = some (.int .i64 pa) := (congrArg _ (add_zero _).symm).trans ha0'
                      have ha1 : wr.cell? { block := (ya.add (i * 6)).block, off := (ya.add (i * 6)).off + 1 } = some (.int .i64 pr) := ha1'
                      have ha2 : wr.cell? { block := (ya.add (i * 6)).block, off := (ya.add (i * 6)).off + 2 } = some (.int .i64 ps) := ha2'
                      have ha3 : wr.cell? { block := (ya.add (i * 6)).block, off := (ya.add (i * 6)).off + 3 } = some (.int .i64 pw) := ha3'
                      have ha4 : wr.cell? { block := (ya.add (i * 6)).block, off := (ya.add (i * 6)).off + 4 } = some (.slice A1 m e1) := ha4'
                      have ha5 : wr.cell? { block := (ya.add (i * 6)).block, off := (ya.add (i * 6)).off + 5 } = some (.slice B1 n1 d1) := ha5'
                      have hb0 : wr.cell? (yb.add (i * 6)) = some (.int .i64 pa) := (congrArg _ (add_zero _).symm).trans hb0'
                      have hb1 : wr.cell? { block := (yb.add (i * 6)).block, off := (yb.add (i * 6)).off + 1 } = some (.int .i64 qr) := hb1'
                      have hb2 : wr.cell? { block := (yb.add (i * 6)).block, off := (yb.add (i * 6)).off + 2 } = some (.int .i64 qs) := hb2'
                      have hb3 : wr.cell? { block := (yb.add (i * 6)).block, off := (yb.add (i * 6)).off + 3 } = some (.int .i64 qw) := hb3'
                      have hb4 : wr.cell? { block := (yb.add (i * 6)).block, off := (yb.add (i * 6)).off + 4 } = some (.slice A2 m e2) := hb4'
                      have hb5 : wr.cell? { block := (yb.add (i * 6)).block, off := (yb.add (i * 6)).off + 5 } = some (.slice B2 n1 d2) := hb5'
                      clear ha0' ha1' ha2' ha3' ha4' ha5' hb0' hb1' hb2' hb3' hb4' hb5'
                      go_upto_region 26 with fail
                      have HR := Aside0.mk (Below.refl wr.heap.size wr)
                      have US := Aside0.mk (show 0 < wr.drew.heap.size from Nat.lt_of_le_of_lt (Nat.zero_le _) (blk_lt BK8.out))
                      have U6 := US
                      have U7 := US
                      refine start_ (n := 13) (S := fun w' => True) (ds := []) #[false, false, false, false, false, false, false, false, false, false, false, false, false] (by kernel_rfl) rfl rfl trivial (fun hHeld => ?_)
                      refine with_tabW bk26.tab26 bk26.bits26 (fun HT_ HW_ => ?_)
                      refine inv_at [0, 1, 2, 3, 4, 5, 6, 7, 8, 9, 10, 11, 12] (fun a0_ b a w' => ∃ (g6 : Nat) (g7 : Nat) (m9_ : Value) (m10_ : Value), a = putSel a0_ b [(0, 111, .pointer (some ⟨g8, 1, none⟩)), (1, 112, .slice (some ya) nl nc), (2, 113, .int .i64 (i : Int)), (3, 114, .pointer (some (ya.add (i * 6)))), (4, 115, .agg #[.int .i64 pa, .int .i64 pr, .int .i64 ps, .int .i64 pw, .slice A1 m e1, .slice B1 n1 d1]), (5, 116, .slice (some yb) nl c10), (6, 117, .int .i64 (i : Int)), (7, 118, .pointer (some (yb.add (i * 6)))), (8, 119, .agg #[.int .i64 pa, .int .i64 qr, .int .i64 qs, .int .i64 qw, .slice A2 m e2, .slice B2 n1 d2]), (9, 13, m9_), (10, 14, m10_)] ∧ (Below wr.heap.size wr w') ∧ (b 9 = true → b 11 = false → w'.heap[g6]? = some (.cells #[.int .i64 0, .int .i64 0, .int .i64 0, .int .i64 0, .slice none 0 0, .slice none 0 0] 40 (0, 0)) ∧ wr.heap.size ≤ g6) ∧ (b 10 = true → b 12 = false → w'.heap[g7]? = some (.cells #[.int .i64 0, .int .i64 0, .int .i64 0, .int .i64 0, .slice none 0 0, .slice none 0 0] 40 (0, 0)) ∧ wr.heap.size ≤ g7) ∧ (b 11 = true → w'.heap[g6]? = some (.cells #[.int .i64 pa, .int .i64 pr, .int .i64 ps, .int .i64 pw, .slice A1 m e1, .slice B1 n1 d1] 40 (0, 0)) ∧ wr.heap.size ≤ g6) ∧ (b 12 = true → w'.heap[g7]? = some (.cells #[.int .i64 pa, .int .i64 qr, .int .i64 qs, .int .i64 qw, .slice A2 m e2, .slice B2 n1 d2] 40 (0, 0)) ∧ wr.heap.size ≤ g7) ∧ (b 9 = true → b 10 = true → g6 ≠ g7) ∧ (g6 < w'.heap.size) ∧ (g7 < w'.heap.size) ∧ (b 9 = true → (m9_ : Value) = .pointer (some ⟨g6, 0, none⟩)) ∧ (b 10 = true → (m10_ : Value) = .pointer (some ⟨g7, 0, none⟩))) HT_.out HW_.out (by kernel_rfl) (by kernel_rfl) ?_ ?_ ?_
                      · exact ⟨0, 0, .bool false, .bool false, by simp only [putSel, Bool.false_eq_true, if_false], below_drew1 HR.out, fun h_ => absurd h_ (by decide), fun h_ => absurd h_ (by decide), fun h_ => absurd h_ (by decide), fun h_ => absurd h_ (by decide), fun h_ => absurd h_ (by decide), US.out, US.out, fun h_ => absurd h_ (by decide), fun h_ => absurd h_ (by decide)⟩
                      · skip
                        clear HR U6 U7
                        refine steps_cons ?_ ?_
                        · rintro b a w' ⟨g6, g7, m9_, m10_, ha, Q_HR, Q_BA6, Q_BA7, Q_BX6, Q_BX7, Q_NE, Q_U6, Q_U7, Q_X9_, Q_X10_⟩ hb_ hon hoff
                          refine ⟨_, rfl, fun K hK => ?_⟩
                          have e8 : a.tmps[8]? = some (.pointer (some ⟨g8, 0, none⟩)) := by rw [ha]; exact (putSel_off rfl).trans rfl
                          replace ha := Aside0.mk ha
                          have HR := Aside0.mk Q_HR
                          have U6 := Aside0.mk Q_U6
                          have U7 := Aside0.mk Q_U7
                          refine value_ (w1 := w') (v := .pointer (some ⟨g8, 1, none⟩)) (by rfl) rfl ?_ ?_
                          · go_simp
                            (try simp only [i64_w])
                            try rfl
                          refine hK.out _ _ ⟨g6, g7, m9_, m10_, (by rw [ha.out]; exact putSel_upk 0 hb_ rfl rfl rfl), Q_HR, Q_BA6, Q_BA7, fun h0_ => absurd ((hoff 11 (by kernel_rfl)).symm.trans h0_) (by decide), fun h0_ => absurd ((hoff 12 (by kernel_rfl)).symm.trans h0_) (by decide), Q_NE, Q_U6, Q_U7, Q_X9_, Q_X10_⟩
                        refine steps_cons ?_ ?_
                        · rintro b a w' ⟨g6, g7, m9_, m10_, ha, Q_HR, Q_BA6, Q_BA7, Q_BX6, Q_BX7, Q_NE, Q_U6, Q_U7, Q_X9_, Q_X10_⟩ hb_ hon hoff
                          refine ⟨_, rfl, fun K hK => ?_⟩
                          have e111 : a.tmps[111]? = some (.pointer (some ⟨g8, 1, none⟩)) := by rw [ha]; exact putSel_on (e := (0, 111, .pointer (some ⟨g8, 1, none⟩))) 0 rfl rfl (hon 0 (by kernel_rfl)) rfl
                          replace ha := Aside0.mk ha
                          have HR := Aside0.mk Q_HR
                          have U6 := Aside0.mk Q_U6
                          have U7 := Aside0.mk Q_U7
                          have hl112_0 : w'.cell? ⟨g8, 1, none⟩ = some (.slice (some ya) nl nc) := (blk_cell (blk_below BK8.out HR.out) 1).trans rfl
                          refine value_ (w1 := w') (v := .slice (some ya) nl nc) (by rfl) rfl ?_ ?_
                          · go_simp
                            (try simp only [i64_w])
                            try rfl
                          refine hK.out _ _ ⟨g6, g7, m9_, m10_, (by rw [ha.out]; exact putSel_upk 1 hb_ rfl rfl rfl), Q_HR, Q_BA6, Q_BA7, fun h0_ => absurd ((hoff 11 (by kernel_rfl)).symm.trans h0_) (by decide), fun h0_ => absurd ((hoff 12 (by kernel_rfl)).symm.trans h0_) (by decide), Q_NE, Q_U6, Q_U7, Q_X9_, Q_X10_⟩
                        refine steps_cons ?_ ?_
                        · rintro b a w' ⟨g6, g7, m9_, m10_, ha, Q_HR, Q_BA6, Q_BA7, Q_BX6, Q_BX7, Q_NE, Q_U6, Q_U7, Q_X9_, Q_X10_⟩ hb_ hon hoff
                          refine ⟨_, rfl, fun K hK => ?_⟩
                          have e12 : a.tmps[12]? = some (.int .i64 (i : Int)) := by rw [ha]; exact (putSel_off rfl).trans rfl
                          replace ha := Aside0.mk ha
                          have HR := Aside0.mk Q_HR
                          have U6 := Aside0.mk Q_U6
                          have U7 := Aside0.mk Q_U7
                          refine value_ (w1 := w') (v := .int .i64 (i : Int)) (by rfl) rfl ?_ ?_
                          · go_simp
                            (try simp only [i64_w])
                            try rfl
                          refine hK.out _ _ ⟨g6, g7, m9_, m10_, (by rw [ha.out]; exact putSel_upk 2 hb_ rfl rfl rfl), Q_HR, Q_BA6, Q_BA7, fun h0_ => absurd ((hoff 11 (by kernel_rfl)).symm.trans h0_) (by decide), fun h0_ => absurd ((hoff 12 (by kernel_rfl)).symm.trans h0_) (by decide), Q_NE, Q_U6, Q_U7, Q_X9_, Q_X10_⟩
                        refine steps_cons ?_ ?_
                        · rintro b a w' ⟨g6, g7, m9_, m10_, ha, Q_HR, Q_BA6, Q_BA7, Q_BX6, Q_BX7, Q_NE, Q_U6, Q_U7, Q_X9_, Q_X10_⟩ hb_ hon hoff
                          refine ⟨_, rfl, fun K hK => ?_⟩
                          have e112 : a.tmps[112]? = some (.slice (some ya) nl nc) := by rw [ha]; exact putSel_on (e := (1, 112, .slice (some ya) nl nc)) 1 rfl rfl (hon 1 (by kernel_rfl)) rfl
                          have e113 : a.tmps[113]? = some (.int .i64 (i : Int)) := by rw [ha]; exact putSel_on (e := (2, 113, .int .i64 (i : Int))) 2 rfl rfl (hon 2 (by kernel_rfl)) rfl
                          replace ha := Aside0.mk ha
                          have HR := Aside0.mk Q_HR
                          have U6 := Aside0.mk Q_U6
                          have U7 := Aside0.mk Q_U7
                          refine value_ (w1 := w') (v := .pointer (some (ya.add (i * 6)))) (by rfl) rfl ?_ ?_
                          · go_simp
                            (try simp only [i64_w])
                            try rfl
                          refine hK.out _ _ ⟨g6, g7, m9_, m10_, (by rw [ha.out]; exact putSel_upk 3 hb_ rfl rfl rfl), Q_HR, Q_BA6, Q_BA7, fun h0_ => absurd ((hoff 11 (by kernel_rfl)).symm.trans h0_) (by decide), fun h0_ => absurd ((hoff 12 (by kernel_rfl)).symm.trans h0_) (by decide), Q_NE, Q_U6, Q_U7, Q_X9_, Q_X10_⟩
                        refine steps_cons ?_ ?_
                        · rintro b a w' ⟨g6, g7, m9_, m10_, ha, Q_HR, Q_BA6, Q_BA7, Q_BX6, Q_BX7, Q_NE, Q_U6, Q_U7, Q_X9_, Q_X10_⟩ hb_ hon hoff
                          refine ⟨_, rfl, fun K hK => ?_⟩
                          have e114 : a.tmps[114]? = some (.pointer (some (ya.add (i * 6)))) := by rw [ha]; exact putSel_on (e := (3, 114, .pointer (some (ya.add (i * 6))))) 3 rfl rfl (hon 3 (by kernel_rfl)) rfl
                          replace ha := Aside0.mk ha
                          have HR := Aside0.mk Q_HR
                          have U6 := Aside0.mk Q_U6
                          have U7 := Aside0.mk Q_U7
                          have hz115_0 : w'.cell? (ya.add (i * 6)) = some (.int .i64 pa) := (HR.out.cell (p := (ya.add (i * 6))) (cell_lt ha0)).trans ha0
                          have hz115_1 : w'.cell? { block := (ya.add (i * 6)).block, off := (ya.add (i * 6)).off + 1 } = some (.int .i64 pr) := (HR.out.cell (p := { block := (ya.add (i * 6)).block, off := (ya.add (i * 6)).off + 1 }) (cell_lt ha1)).trans ha1
                          have hz115_2 : w'.cell? { block := (ya.add (i * 6)).block, off := (ya.add (i * 6)).off + 2 } = some (.int .i64 ps) := (HR.out.cell (p := { block := (ya.add (i * 6)).block, off := (ya.add (i * 6)).off + 2 }) (cell_lt ha2)).trans ha2
                          have hz115_3 : w'.cell? { block := (ya.add (i * 6)).block, off := (ya.add (i * 6)).off + 3 } = some (.int .i64 pw) := (HR.out.cell (p := { block := (ya.add (i * 6)).block, off := (ya.add (i * 6)).off + 3 }) (cell_lt ha3)).trans ha3
                          have hz115_4 : w'.cell? { block := (ya.add (i * 6)).block, off := (ya.add (i * 6)).off + 4 } = some (.slice A1 m e1) := (HR.out.cell (p := { block := (ya.add (i * 6)).block, off := (ya.add (i * 6)).off + 4 }) (cell_lt ha4)).trans ha4
                          have hz115_5 : w'.cell? { block := (ya.add (i * 6)).block, off := (ya.add (i * 6)).off + 5 } = some (.slice B1 n1 d1) := (HR.out.cell (p := { block := (ya.add (i * 6)).block, off := (ya.add (i * 6)).off + 5 }) (cell_lt ha5)).trans ha5
                          refine value_ (w1 := w') (v := .agg #[.int .i64 pa, .int .i64 pr, .int .i64 ps, .int .i64 pw, .slice A1 m e1, .slice B1 n1 d1]) (by rfl) rfl ?_ ?_
                          · go_simp
                            (try simp only [i64_w])
                            try rfl
                          refine hK.out _ _ ⟨g6, g7, m9_, m10_, (by rw [ha.out]; exact putSel_upk 4 hb_ rfl rfl rfl), Q_HR, Q_BA6, Q_BA7, fun h0_ => absurd ((hoff 11 (by kernel_rfl)).symm.trans h0_) (by decide), fun h0_ => absurd ((hoff 12 (by kernel_rfl)).symm.trans h0_) (by decide), Q_NE, Q_U6, Q_U7, Q_X9_, Q_X10_⟩
                        refine steps_cons ?_ ?_
                        · rintro b a w' ⟨g6, g7, m9_, m10_, ha, Q_HR, Q_BA6, Q_BA7, Q_BX6, Q_BX7, Q_NE, Q_U6, Q_U7, Q_X9_, Q_X10_⟩ hb_ hon hoff
                          refine ⟨_, rfl, fun K hK => ?_⟩
                          have e10 : a.tmps[10]? = some (.slice (some yb) nl c10) := by rw [ha]; exact (putSel_off rfl).trans rfl
                          replace ha := Aside0.mk ha
                          have HR := Aside0.mk Q_HR
                          have U6 := Aside0.mk Q_U6
                          have U7 := Aside0.mk Q_U7
                          refine value_ (w1 := w') (v := .slice (some yb) nl c10) (by rfl) rfl ?_ ?_
                          · go_simp
                            (try simp only [i64_w])
                            try rfl
                          refine hK.out _ _ ⟨g6, g7, m9_, m10_, (by rw [ha.out]; exact putSel_upk 5 hb_ rfl rfl rfl), Q_HR, Q_BA6, Q_BA7, Q_BX6, fun h0_ => absurd ((hoff 12 (by kernel_rfl)).symm.trans h0_) (by decide), Q_NE, Q_U6, Q_U7, Q_X9_, Q_X10_⟩
                        refine steps_cons ?_ ?_
                        · rintro b a w' ⟨g6, g7, m9_, m10_, ha, Q_HR, Q_BA6, Q_BA7, Q_BX6, Q_BX7, Q_NE, Q_U6, Q_U7, Q_X9_, Q_X10_⟩ hb_ hon hoff
                          refine ⟨_, rfl, fun K hK => ?_⟩
                          have e12 : a.tmps[12]? = some (.int .i64 (i : Int)) := by rw [ha]; exact (putSel_off rfl).trans rfl
                          replace ha := Aside0.mk ha
                          have HR := Aside0.mk Q_HR
                          have U6 := Aside0.mk Q_U6
                          have U7 := Aside0.mk Q_U7
                          refine value_ (w1 := w') (v := .int .i64 (i : Int)) (by rfl) rfl ?_ ?_
                          · go_simp
                            (try simp only [i64_w])
                            try rfl
                          refine hK.out _ _ ⟨g6, g7, m9_, m10_, (by rw [ha.out]; exact putSel_upk 6 hb_ rfl rfl rfl), Q_HR, Q_BA6, Q_BA7, Q_BX6, fun h0_ => absurd ((hoff 12 (by kernel_rfl)).symm.trans h0_) (by decide), Q_NE, Q_U6, Q_U7, Q_X9_, Q_X10_⟩
                        refine steps_cons ?_ ?_
                        · rintro b a w' ⟨g6, g7, m9_, m10_, ha, Q_HR, Q_BA6, Q_BA7, Q_BX6, Q_BX7, Q_NE, Q_U6, Q_U7, Q_X9_, Q_X10_⟩ hb_ hon hoff
                          refine ⟨_, rfl, fun K hK => ?_⟩
                          have e116 : a.tmps[116]? = some (.slice (some yb) nl c10) := by rw [ha]; exact putSel_on (e := (5, 116, .slice (some yb) nl c10)) 5 rfl rfl (hon 5 (by kernel_rfl)) rfl
                          have e117 : a.tmps[117]? = some (.int .i64 (i : Int)) := by rw [ha]; exact putSel_on (e := (6, 117, .int .i64 (i : Int))) 6 rfl rfl (hon 6 (by kernel_rfl)) rfl
                          replace ha := Aside0.mk ha
                          have HR := Aside0.mk Q_HR
                          have U6 := Aside0.mk Q_U6
                          have U7 := Aside0.mk Q_U7
                          refine value_ (w1 := w') (v := .pointer (some (yb.add (i * 6)))) (by rfl) rfl ?_ ?_
                          · go_simp
                            (try simp only [i64_w])
                            try rfl
                          refine hK.out _ _ ⟨g6, g7, m9_, m10_, (by rw [ha.out]; exact putSel_upk 7 hb_ rfl rfl rfl), Q_HR, Q_BA6, Q_BA7, Q_BX6, fun h0_ => absurd ((hoff 12 (by kernel_rfl)).symm.trans h0_) (by decide), Q_NE, Q_U6, Q_U7, Q_X9_, Q_X10_⟩
                        refine steps_cons ?_ ?_
                        · rintro b a w' ⟨g6, g7, m9_, m10_, ha, Q_HR, Q_BA6, Q_BA7, Q_BX6, Q_BX7, Q_NE, Q_U6, Q_U7, Q_X9_, Q_X10_⟩ hb_ hon hoff
                          refine ⟨_, rfl, fun K hK => ?_⟩
                          have e118 : a.tmps[118]? = some (.pointer (some (yb.add (i * 6)))) := by rw [ha]; exact putSel_on (e := (7, 118, .pointer (some (yb.add (i * 6))))) 7 rfl rfl (hon 7 (by kernel_rfl)) rfl
                          replace ha := Aside0.mk ha
                          have HR := Aside0.mk Q_HR
                          have U6 := Aside0.mk Q_U6
                          have U7 := Aside0.mk Q_U7
                          have hz119_0 : w'.cell? (yb.add (i * 6)) = some (.int .i64 pa) := (HR.out.cell (p := (yb.add (i * 6))) (cell_lt hb0)).trans hb0
                          have hz119_1 : w'.cell? { block := (yb.add (i * 6)).block, off := (yb.add (i * 6)).off + 1 } = some (.int .i64 qr) := (HR.out.cell (p := { block := (yb.add (i * 6)).block, off := (yb.add (i * 6)).off + 1 }) (cell_lt hb1)).trans hb1
                          have hz119_2 : w'.cell? { block := (yb.add (i * 6)).block, off := (yb.add (i * 6)).off + 2 } = some (.int .i64 qs) := (HR.out.cell (p := { block := (yb.add (i * 6)).block, off := (yb.add (i * 6)).off + 2 }) (cell_lt hb2)).trans hb2
                          have hz119_3 : w'.cell? { block := (yb.add (i * 6)).block, off := (yb.add (i * 6)).off + 3 } = some (.int .i64 qw) := (HR.out.cell (p := { block := (yb.add (i * 6)).block, off := (yb.add (i * 6)).off + 3 }) (cell_lt hb3)).trans hb3
                          have hz119_4 : w'.cell? { block := (yb.add (i * 6)).block, off := (yb.add (i * 6)).off + 4 } = some (.slice A2 m e2) := (HR.out.cell (p := { block := (yb.add (i * 6)).block, off := (yb.add (i * 6)).off + 4 }) (cell_lt hb4)).trans hb4
                          have hz119_5 : w'.cell? { block := (yb.add (i * 6)).block, off := (yb.add (i * 6)).off + 5 } = some (.slice B2 n1 d2) := (HR.out.cell (p := { block := (yb.add (i * 6)).block, off := (yb.add (i * 6)).off + 5 }) (cell_lt hb5)).trans hb5
                          refine value_ (w1 := w') (v := .agg #[.int .i64 pa, .int .i64 qr, .int .i64 qs, .int .i64 qw, .slice A2 m e2, .slice B2 n1 d2]) (by rfl) rfl ?_ ?_
                          · go_simp
                            (try simp only [i64_w])
                            try rfl
                          refine hK.out _ _ ⟨g6, g7, m9_, m10_, (by rw [ha.out]; exact putSel_upk 8 hb_ rfl rfl rfl), Q_HR, Q_BA6, Q_BA7, Q_BX6, fun h0_ => absurd ((hoff 12 (by kernel_rfl)).symm.trans h0_) (by decide), Q_NE, Q_U6, Q_U7, Q_X9_, Q_X10_⟩
                        refine steps_cons ?_ ?_
                        · rintro b a w' ⟨g6, g7, m9_, m10_, ha, Q_HR, Q_BA6, Q_BA7, Q_BX6, Q_BX7, Q_NE, Q_U6, Q_U7, Q_X9_, Q_X10_⟩ hb_ hon hoff
                          refine ⟨_, rfl, fun K hK => ?_⟩
                          replace ha := Aside0.mk ha
                          have HR := Aside0.mk Q_HR
                          have U6 := Aside0.mk Q_U6
                          have U7 := Aside0.mk Q_U7
                          refine value_ (w1 := ?_) (v := ?_) (by rfl) rfl ?_ ?_
                          rotate_left 2
                          · go_simp
                            constructor
                            · rfl
                            · rfl
                          have hb := below_alloc (Below.refl w'.heap.size w') (.cells #[.int .i64 0, .int .i64 0, .int .i64 0, .int .i64 0, .slice none 0 0, .slice none 0 0] 40)
                          refine hK.out _ _ ⟨w'.heap.size, g7, (.pointer (some ⟨w'.heap.size, 0, none⟩)), m10_, (by rw [ha.out]; exact putSel_upk 9 hb_ rfl rfl rfl), (below_step HR.out hb), fun _ _ => ⟨blk_new w' (.cells #[.int .i64 0, .int .i64 0, .int .i64 0, .int .i64 0, .slice none 0 0, .slice none 0 0] 40), below_size HR.out⟩, fun h0_ h1_ => ⟨blk_below (Q_BA7 h0_ h1_).1 hb, (Q_BA7 h0_ h1_).2⟩, fun h0_ => absurd ((hoff 11 (by kernel_rfl)).symm.trans h0_) (by decide), fun h0_ => absurd ((hoff 12 (by kernel_rfl)).symm.trans h0_) (by decide), fun _ _ => (Nat.ne_of_gt U7.out), (by rw [World.size_alloc]; exact Nat.lt_succ_self _), (Nat.lt_of_lt_of_le U7.out hb.size), fun _ => rfl, Q_X10_⟩
                        refine steps_cons ?_ ?_
                        · rintro b a w' ⟨g6, g7, m9_, m10_, ha, Q_HR, Q_BA6, Q_BA7, Q_BX6, Q_BX7, Q_NE, Q_U6, Q_U7, Q_X9_, Q_X10_⟩ hb_ hon hoff
                          refine ⟨_, rfl, fun K hK => ?_⟩
                          replace ha := Aside0.mk ha
                          have HR := Aside0.mk Q_HR
                          have U6 := Aside0.mk Q_U6
                          have U7 := Aside0.mk Q_U7
                          refine value_ (w1 := ?_) (v := ?_) (by rfl) rfl ?_ ?_
                          rotate_left 2
                          · go_simp
                            constructor
                            · rfl
                            · rfl
                          have hb := below_alloc (Below.refl w'.heap.size w') (.cells #[.int .i64 0, .int .i64 0, .int .i64 0, .int .i64 0, .slice none 0 0, .slice none 0 0] 40)
                          refine hK.out _ _ ⟨g6, w'.heap.size, m9_, (.pointer (some ⟨w'.heap.size, 0, none⟩)), (by rw [ha.out]; exact putSel_upk 10 hb_ rfl rfl rfl), (below_step HR.out hb), fun h0_ h1_ => ⟨blk_below (Q_BA6 h0_ h1_).1 hb, (Q_BA6 h0_ h1_).2⟩, fun _ _ => ⟨blk_new w' (.cells #[.int .i64 0, .int .i64 0, .int .i64 0, .int .i64 0, .slice none 0 0, .slice none 0 0] 40), below_size HR.out⟩, fun h0_ => absurd ((hoff 11 (by kernel_rfl)).symm.trans h0_) (by decide), fun h0_ => absurd ((hoff 12 (by kernel_rfl)).symm.trans h0_) (by decide), fun _ _ => (Nat.ne_of_lt U6.out), (Nat.lt_of_lt_of_le U6.out hb.size), (by rw [World.size_alloc]; exact Nat.lt_succ_self _), Q_X9_, fun _ => rfl⟩
                        refine steps_cons ?_ ?_
                        · rintro b a w' ⟨g6, g7, m9_, m10_, ha, Q_HR, Q_BA6, Q_BA7, Q_BX6, Q_BX7, Q_NE, Q_U6, Q_U7, Q_X9_, Q_X10_⟩ hb_ hon hoff
                          refine ⟨_, rfl, fun K hK => ?_⟩
                          have e13 : a.tmps[13]? = some (m9_) := by rw [ha]; exact putSel_on (e := (9, 13, m9_)) 9 rfl rfl (hon 9 (by kernel_rfl)) rfl
                          rw [Q_X9_ (hon 9 (by kernel_rfl))] at e13
                          have e115 : a.tmps[115]? = some (.agg #[.int .i64 pa, .int .i64 pr, .int .i64 ps, .int .i64 pw, .slice A1 m e1, .slice B1 n1 d1]) := by rw [ha]; exact putSel_on (e := (4, 115, .agg #[.int .i64 pa, .int .i64 pr, .int .i64 ps, .int .i64 pw, .slice A1 m e1, .slice B1 n1 d1])) 4 rfl rfl (hon 4 (by kernel_rfl)) rfl
                          replace ha := Aside0.mk ha
                          have HR := Aside0.mk Q_HR
                          have BA6 := Aside0.mk (Q_BA6 (hon 9 (by kernel_rfl)) hb_)
                          have BA7 := Aside0.mk (Q_BA7 (hon 10 (by kernel_rfl)) (hoff 12 (by kernel_rfl)))
                          have NE := Aside0.mk (Q_NE (hon 9 (by kernel_rfl)) (hon 10 (by kernel_rfl)))
                          have U6 := Aside0.mk Q_U6
                          have U7 := Aside0.mk Q_U7
                          have hq6_0 : w'.cell? ⟨g6, 0, none⟩ = some (.int .i64 0) := (blk_cell BA6.out.1 0).trans rfl
                          have hq6_1 : w'.cell? ⟨g6, 1, none⟩ = some (.int .i64 0) := (blk_cell BA6.out.1 1).trans rfl
                          have hq6_2 : w'.cell? ⟨g6, 2, none⟩ = some (.int .i64 0) := (blk_cell BA6.out.1 2).trans rfl
                          have hq6_3 : w'.cell? ⟨g6, 3, none⟩ = some (.int .i64 0) := (blk_cell BA6.out.1 3).trans rfl
                          have hq6_4 : w'.cell? ⟨g6, 4, none⟩ = some (.slice none 0 0) := (blk_cell BA6.out.1 4).trans rfl
                          have hq6_5 : w'.cell? ⟨g6, 5, none⟩ = some (.slice none 0 0) := (blk_cell BA6.out.1 5).trans rfl
                          have hf6_0 := blk_frozen BA6.out.1 0
                          have hf6_1 := blk_frozen BA6.out.1 1
                          have hf6_2 := blk_frozen BA6.out.1 2
                          have hf6_3 := blk_frozen BA6.out.1 3
                          have hf6_4 := blk_frozen BA6.out.1 4
                          have hf6_5 := blk_frozen BA6.out.1 5
                          refine skip_ (w1 := ?_) (by rfl) rfl ?_ ?_
                          rotate_left
                          · go_simp
                            rfl
                          refine hK.out _ _ ⟨g6, g7, m9_, m10_, (by rw [ha.out]; exact putSel_none (v := undef) rfl), (by (repeat (refine below_set ?_ BA6.out.2)); exact HR.out), fun _ h1_ => absurd ((up_self b 11).symm.trans h1_) (by decide), fun _ _ => ⟨(by refine blk_far ?_ NE.out.symm _; refine blk_far ?_ NE.out.symm _; refine blk_far ?_ NE.out.symm _; refine blk_far ?_ NE.out.symm _; refine blk_far ?_ NE.out.symm _; refine blk_far ?_ NE.out.symm _; exact BA7.out.1), BA7.out.2⟩, fun _ => ⟨(by (with_reducible repeat (first | refine blk_drewN ?_ _ | refine blk_drew ?_ | refine blk_alloc ?_ _)); refine blk_put (cs := #[.int .i64 pa, .int .i64 pr, .int .i64 ps, .int .i64 pw, .slice A1 m e1, .slice none 0 0]) ?_ 5 _ rfl; (with_reducible repeat (first | refine blk_drewN ?_ _ | refine blk_drew ?_ | refine blk_alloc ?_ _)); refine blk_put (cs := #[.int .i64 pa, .int .i64 pr, .int .i64 ps, .int .i64 pw, .slice none 0 0, .slice none 0 0]) ?_ 4 _ rfl; (with_reducible repeat (first | refine blk_drewN ?_ _ | refine blk_drew ?_ | refine blk_alloc ?_ _)); refine blk_put (cs := #[.int .i64 pa, .int .i64 pr, .int .i64 ps, .int .i64 0, .slice none 0 0, .slice none 0 0]) ?_ 3 _ rfl; (with_reducible repeat (first | refine blk_drewN ?_ _ | refine blk_drew ?_ | refine blk_alloc ?_ _)); refine blk_put (cs := #[.int .i64 pa, .int .i64 pr, .int .i64 0, .int .i64 0, .slice none 0 0, .slice none 0 0]) ?_ 2 _ rfl; (with_reducible repeat (first | refine blk_drewN ?_ _ | refine blk_drew ?_ | refine blk_alloc ?_ _)); refine blk_put (cs := #[.int .i64 pa, .int .i64 0, .int .i64 0, .int .i64 0, .slice none 0 0, .slice none 0 0]) ?_ 1 _ rfl; (with_reducible repeat (first | refine blk_drewN ?_ _ | refine blk_drew ?_ | refine blk_alloc ?_ _)); refine blk_put (cs := #[.int .i64 0, .int .i64 0, .int .i64 0, .int .i64 0, .slice none 0 0, .slice none 0 0]) ?_ 0 _ rfl; (with_reducible repeat (first | refine blk_drewN ?_ _ | refine blk_drew ?_ | refine blk_alloc ?_ _)); exact BA6.out.1), BA6.out.2⟩, fun h0_ => absurd ((hoff 12 (by kernel_rfl)).symm.trans h0_) (by decide), fun _ _ => NE.out, (by simpa [World.setCell] using U6.out), (by simpa [World.setCell] using U7.out), Q_X9_, Q_X10_⟩
                        refine steps_cons ?_ ?_
                        · rintro b a w' ⟨g6, g7, m9_, m10_, ha, Q_HR, Q_BA6, Q_BA7, Q_BX6, Q_BX7, Q_NE, Q_U6, Q_U7, Q_X9_, Q_X10_⟩ hb_ hon hoff
                          refine ⟨_, rfl, fun K hK => ?_⟩
                          have e14 : a.tmps[14]? = some (m10_) := by rw [ha]; exact putSel_on (e := (10, 14, m10_)) 10 rfl rfl (hon 10 (by kernel_rfl)) rfl
                          rw [Q_X10_ (hon 10 (by kernel_rfl))] at e14
                          have e119 : a.tmps[119]? = some (.agg #[.int .i64 pa, .int .i64 qr, .int .i64 qs, .int .i64 qw, .slice A2 m e2, .slice B2 n1 d2]) := by rw [ha]; exact putSel_on (e := (8, 119, .agg #[.int .i64 pa, .int .i64 qr, .int .i64 qs, .int .i64 qw, .slice A2 m e2, .slice B2 n1 d2])) 8 rfl rfl (hon 8 (by kernel_rfl)) rfl
                          replace ha := Aside0.mk ha
                          have HR := Aside0.mk Q_HR
                          have BA7 := Aside0.mk (Q_BA7 (hon 10 (by kernel_rfl)) hb_)
                          have BX6 := Aside0.mk (Q_BX6 (hon 11 (by kernel_rfl)))
                          have NE := Aside0.mk (Q_NE (hon 9 (by kernel_rfl)) (hon 10 (by kernel_rfl)))
                          have U6 := Aside0.mk Q_U6
                          have U7 := Aside0.mk Q_U7
                          have hq7_0 : w'.cell? ⟨g7, 0, none⟩ = some (.int .i64 0) := (blk_cell BA7.out.1 0).trans rfl
                          have hq7_1 : w'.cell? ⟨g7, 1, none⟩ = some (.int .i64 0) := (blk_cell BA7.out.1 1).trans rfl
                          have hq7_2 : w'.cell? ⟨g7, 2, none⟩ = some (.int .i64 0) := (blk_cell BA7.out.1 2).trans rfl
                          have hq7_3 : w'.cell? ⟨g7, 3, none⟩ = some (.int .i64 0) := (blk_cell BA7.out.1 3).trans rfl
                          have hq7_4 : w'.cell? ⟨g7, 4, none⟩ = some (.slice none 0 0) := (blk_cell BA7.out.1 4).trans rfl
                          have hq7_5 : w'.cell? ⟨g7, 5, none⟩ = some (.slice none 0 0) := (blk_cell BA7.out.1 5).trans rfl
                          have hf7_0 := blk_frozen BA7.out.1 0
                          have hf7_1 := blk_frozen BA7.out.1 1
                          have hf7_2 := blk_frozen BA7.out.1 2
                          have hf7_3 := blk_frozen BA7.out.1 3
                          have hf7_4 := blk_frozen BA7.out.1 4
                          have hf7_5 := blk_frozen BA7.out.1 5
                          refine skip_ (w1 := ?_) (by rfl) rfl ?_ ?_
                          rotate_left
                          · go_simp
                            rfl
                          refine hK.out _ _ ⟨g6, g7, m9_, m10_, (by rw [ha.out]; exact putSel_none (v := undef) rfl), (by (repeat (refine below_set ?_ BA7.out.2)); exact HR.out), fun _ h1_ => absurd ((hon 11 (by kernel_rfl)).symm.trans h1_) (by decide), fun _ h1_ => absurd ((up_self b 12).symm.trans h1_) (by decide), fun _ => ⟨(by refine blk_far ?_ NE.out _; refine blk_far ?_ NE.out _; refine blk_far ?_ NE.out _; refine blk_far ?_ NE.out _; refine blk_far ?_ NE.out _; refine blk_far ?_ NE.out _; exact BX6.out.1), BX6.out.2⟩, fun _ => ⟨(by (with_reducible repeat (first | refine blk_drewN ?_ _ | refine blk_drew ?_ | refine blk_alloc ?_ _)); refine blk_put (cs := #[.int .i64 pa, .int .i64 qr, .int .i64 qs, .int .i64 qw, .slice A2 m e2, .slice none 0 0]) ?_ 5 _ rfl; (with_reducible repeat (first | refine blk_drewN ?_ _ | refine blk_drew ?_ | refine blk_alloc ?_ _)); refine blk_put (cs := #[.int .i64 pa, .int .i64 qr, .int .i64 qs, .int .i64 qw, .slice none 0 0, .slice none 0 0]) ?_ 4 _ rfl; (with_reducible repeat (first | refine blk_drewN ?_ _ | refine blk_drew ?_ | refine blk_alloc ?_ _)); refine blk_put (cs := #[.int .i64 pa, .int .i64 qr, .int .i64 qs, .int .i64 0, .slice none 0 0, .slice none 0 0]) ?_ 3 _ rfl; (with_reducible repeat (first | refine blk_drewN ?_ _ | refine blk_drew ?_ | refine blk_alloc ?_ _)); refine blk_put (cs := #[.int .i64 pa, .int .i64 qr, .int .i64 0, .int .i64 0, .slice none 0 0, .slice none 0 0]) ?_ 2 _ rfl; (with_reducible repeat (first | refine blk_drewN ?_ _ | refine blk_drew ?_ | refine blk_alloc ?_ _)); refine blk_put (cs := #[.int .i64 pa, .int .i64 0, .int .i64 0, .int .i64 0, .slice none 0 0, .slice none 0 0]) ?_ 1 _ rfl; (with_reducible repeat (first | refine blk_drewN ?_ _ | refine blk_drew ?_ | refine blk_alloc ?_ _)); refine blk_put (cs := #[.int .i64 0, .int .i64 0, .int .i64 0, .int .i64 0, .slice none 0 0, .slice none 0 0]) ?_ 0 _ rfl; (with_reducible repeat (first | refine blk_drewN ?_ _ | refine blk_drew ?_ | refine blk_alloc ?_ _)); exact BA7.out.1), BA7.out.2⟩, fun _ _ => NE.out, (by simpa [World.setCell] using U6.out), (by simpa [World.setCell] using U7.out), Q_X9_, Q_X10_⟩
                        exact steps_nil
                      rintro b a wx hall ⟨g6, g7, m9_, m10_, ha, Q_HR, Q_BA6, Q_BA7, Q_BX6, Q_BX7, Q_NE, Q_U6, Q_U7, Q_X9_, Q_X10_⟩
                      clear HR U6 U7
                      have hb0_ := hall 0 (by kernel_rfl)
                      have hb1_ := hall 1 (by kernel_rfl)
                      have hb2_ := hall 2 (by kernel_rfl)
                      have hb3_ := hall 3 (by kernel_rfl)
                      have hb4_ := hall 4 (by kernel_rfl)
                      have hb5_ := hall 5 (by kernel_rfl)
                      have hb6_ := hall 6 (by kernel_rfl)
                      have hb7_ := hall 7 (by kernel_rfl)
                      have hb8_ := hall 8 (by kernel_rfl)
                      have hb9_ := hall 9 (by kernel_rfl)
                      have hb10_ := hall 10 (by kernel_rfl)
                      have hb11_ := hall 11 (by kernel_rfl)
                      have hb12_ := hall 12 (by kernel_rfl)
                      subst ha
                      obtain rfl := Q_X9_ hb9_
                      obtain rfl := Q_X10_ hb10_
                      simp only [putSel, hb0_, hb1_, hb2_, hb3_, hb4_, hb5_, hb6_, hb7_, hb8_, hb9_, hb10_, hb11_, hb12_, if_true, Act.put, List.setIfInBounds_toArray, List.set_cons_zero, List.set_cons_succ]
                      have HR := Aside0.mk Q_HR
                      clear Q_HR
                      clear Q_BA6
                      clear Q_BA7
                      have BX6 := Aside0.mk (Q_BX6 hb11_)
                      clear Q_BX6
                      have BX7 := Aside0.mk (Q_BX7 hb12_)
                      clear Q_BX7
                      have NE := Aside0.mk (Q_NE hb9_ hb10_)
                      clear Q_NE
                      have U6 := Aside0.mk Q_U6
                      clear Q_U6
                      have U7 := Aside0.mk Q_U7
                      clear Q_U7
                      clear hall hb0_ hb1_ hb2_ hb3_ hb4_ hb5_ hb6_ hb7_ hb8_ hb9_ hb10_ hb11_ hb12_
                      have hx6_0 : wx.cell? ⟨g6, 0, none⟩ = some (.int .i64 pa) := (blk_cell BX6.out.1 0).trans rfl
                      have hx6_1 : wx.cell? ⟨g6, 1, none⟩ = some (.int .i64 pr) := (blk_cell BX6.out.1 1).trans rfl
                      have hx6_2 : wx.cell? ⟨g6, 2, none⟩ = some (.int .i64 ps) := (blk_cell BX6.out.1 2).trans rfl
                      have hx6_3 : wx.cell? ⟨g6, 3, none⟩ = some (.int .i64 pw) := (blk_cell BX6.out.1 3).trans rfl
                      have hx6_4 : wx.cell? ⟨g6, 4, none⟩ = some (.slice A1 m e1) := (blk_cell BX6.out.1 4).trans rfl
                      have hx6_5 : wx.cell? ⟨g6, 5, none⟩ = some (.slice B1 n1 d1) := (blk_cell BX6.out.1 5).trans rfl
                      have hx7_0 : wx.cell? ⟨g7, 0, none⟩ = some (.int .i64 pa) := (blk_cell BX7.out.1 0).trans rfl
                      have hx7_1 : wx.cell? ⟨g7, 1, none⟩ = some (.int .i64 qr) := (blk_cell BX7.out.1 1).trans rfl
                      have hx7_2 : wx.cell? ⟨g7, 2, none⟩ = some (.int .i64 qs) := (blk_cell BX7.out.1 2).trans rfl
                      have hx7_3 : wx.cell? ⟨g7, 3, none⟩ = some (.int .i64 qw) := (blk_cell BX7.out.1 3).trans rfl
                      have hx7_4 : wx.cell? ⟨g7, 4, none⟩ = some (.slice A2 m e2) := (blk_cell BX7.out.1 4).trans rfl
                      have hx7_5 : wx.cell? ⟨g7, 5, none⟩ = some (.slice B2 n1 d2) := (blk_cell BX7.out.1 5).trans rfl
                      have hf6_0 := blk_frozen BX6.out.1 0
                      have hf6_1 := blk_frozen BX6.out.1 1
                      have hf6_2 := blk_frozen BX6.out.1 2
                      have hf6_3 := blk_frozen BX6.out.1 3
                      have hf6_4 := blk_frozen BX6.out.1 4
                      have hf6_5 := blk_frozen BX6.out.1 5
                      go_upto_region 28 with fail
                      obtain ⟨w27, hw27⟩ : ∃ x, x = ((wx.setCell ⟨g6, 1, none⟩ (.int .i64 qr)).setCell ⟨g6, 2, none⟩ (.int .i64 qs)).setCell ⟨g6, 3, none⟩ (.int .i64 qw) := ⟨_, rfl⟩
                      rw [← hw27]
                      have HY27 := Aside0.mk (show Below wr.heap.size wr w27 by rw [hw27]; (repeat (refine below_set ?_ BX6.out.2)); exact HR.out)
                      have HB27 := Aside0.mk (below_step HBM.out HY27.out)
                      have BX6n := Aside0.mk (show w27.heap[g6]? = some (.cells #[.int .i64 pa, .int .i64 qr, .int .i64 qs, .int .i64 qw, .slice A1 m e1, .slice B1 n1 d1] 40 (0, 0)) by rw [hw27]; exact blk_put (blk_put (blk_put BX6.out.1 1 _ rfl) 2 _ rfl) 3 _ rfl)
                      have BX7n := Aside0.mk (show w27.heap[g7]? = some (.cells #[.int .i64 pa, .int .i64 qr, .int .i64 qs, .int .i64 qw, .slice A2 m e2, .slice B2 n1 d2] 40 (0, 0)) by rw [hw27]; refine blk_far ?_ NE.out.symm _; refine blk_far ?_ NE.out.symm _; refine blk_far ?_ NE.out.symm _; exact BX7.out.1)
                      have HDa := Aside0.mk (show DL w27 w27.heap.size (⟨pa, qr, qs, qw, A1, m, e1, B1, n1, d1, Sl, Tl⟩ : Nd) from DL.to (n := ⟨pa, qr, qs, qw, A1, m, e1, B1, n1, d1, Sl, Tl⟩) HD1.out HY27.out)
                      have HDb := Aside0.mk (show DL w27 w27.heap.size (⟨pa, qr, qs, qw, A2, m, e2, B2, n1, d2, Sl, Tl⟩ : Nd) from DL.to (n := ⟨pa, qr, qs, qw, A2, m, e2, B2, n1, d2, Sl, Tl⟩) HD2.out HY27.out)
                      clear hw27
                      clear hx6_0 hx6_1 hx6_2 hx6_3 hx6_4 hx6_5 hx7_0 hx7_1 hx7_2 hx7_3 hx7_4 hx7_5
                      have hy6_0 : w27.cell? ⟨g6, 0, none⟩ = some (.int .i64 pa) := (blk_cell BX6n.out 0).trans rfl
                      have hy6_1 : w27.cell? ⟨g6, 1, none⟩ = some (.int .i64 qr) := (blk_cell BX6n.out 1).trans rfl
                      have hy6_2 : w27.cell? ⟨g6, 2, none⟩ = some (.int .i64 qs) := (blk_cell BX6n.out 2).trans rfl
                      have hy6_3 : w27.cell? ⟨g6, 3, none⟩ = some (.int .i64 qw) := (blk_cell BX6n.out 3).trans rfl
                      have hy6_4 : w27.cell? ⟨g6, 4, none⟩ = some (.slice A1 m e1) := (blk_cell BX6n.out 4).trans rfl
                      have hy6_5 : w27.cell? ⟨g6, 5, none⟩ = some (.slice B1 n1 d1) := (blk_cell BX6n.out 5).trans rfl
                      have hy7_0 : w27.cell? ⟨g7, 0, none⟩ = some (.int .i64 pa) := (blk_cell BX7n.out 0).trans rfl
                      have hy7_1 : w27.cell? ⟨g7, 1, none⟩ = some (.int .i64 qr) := (blk_cell BX7n.out 1).trans rfl
                      have hy7_2 : w27.cell? ⟨g7, 2, none⟩ = some (.int .i64 qs) := (blk_cell BX7n.out 2).trans rfl
                      have hy7_3 : w27.cell? ⟨g7, 3, none⟩ = some (.int .i64 qw) := (blk_cell BX7n.out 3).trans rfl
                      have hy7_4 : w27.cell? ⟨g7, 4, none⟩ = some (.slice A2 m e2) := (blk_cell BX7n.out 4).trans rfl
                      have hy7_5 : w27.cell? ⟨g7, 5, none⟩ = some (.slice B2 n1 d2) := (blk_cell BX7n.out 5).trans rfl
                      have hv7_0 : (w27.alloc (.cells #[.int .i64 pa, .int .i64 qr, .int .i64 qs, .int .i64 qw, .slice A1 m e1, .slice B1 n1 d1] 40)).cell? ⟨g7, 0, none⟩ = some (.int .i64 pa) := (blk_cell (blk_alloc BX7n.out _) 0).trans rfl
                      have hv7_1 : (w27.alloc (.cells #[.int .i64 pa, .int .i64 qr, .int .i64 qs, .int .i64 qw, .slice A1 m e1, .slice B1 n1 d1] 40)).cell? ⟨g7, 1, none⟩ = some (.int .i64 qr) := (blk_cell (blk_alloc BX7n.out _) 1).trans rfl
                      have hv7_2 : (w27.alloc (.cells #[.int .i64 pa, .int .i64 qr, .int .i64 qs, .int .i64 qw, .slice A1 m e1, .slice B1 n1 d1] 40)).cell? ⟨g7, 2, none⟩ = some (.int .i64 qs) := (blk_cell (blk_alloc BX7n.out _) 2).trans rfl
                      have hv7_3 : (w27.alloc (.cells #[.int .i64 pa, .int .i64 qr, .int .i64 qs, .int .i64 qw, .slice A1 m e1, .slice B1 n1 d1] 40)).cell? ⟨g7, 3, none⟩ = some (.int .i64 qw) := (blk_cell (blk_alloc BX7n.out _) 3).trans rfl
                      have hv7_4 : (w27.alloc (.cells #[.int .i64 pa, .int .i64 qr, .int .i64 qs, .int .i64 qw, .slice A1 m e1, .slice B1 n1 d1] 40)).cell? ⟨g7, 4, none⟩ = some (.slice A2 m e2) := (blk_cell (blk_alloc BX7n.out _) 4).trans rfl
                      have hv7_5 : (w27.alloc (.cells #[.int .i64 pa, .int .i64 qr, .int .i64 qs, .int .i64 qw, .slice A1 m e1, .slice B1 n1 d1] 40)).cell? ⟨g7, 5, none⟩ = some (.slice B2 n1 d2) := (blk_cell (blk_alloc BX7n.out _) 5).trans rfl
                      go_wp2_with (go_at_call 11; refine (one_same _ (⟨pa, qr, qs, qw, A1, m, e1, B1, n1, d1, Sl, Tl⟩ : Nd) (⟨pa, qr, qs, qw, A2, m, e2, B2, n1, d2, Sl, Tl⟩ : Nd) _ _ rfl (by first | rfl | (rw [World.size_alloc])) HDa.out HDb.out rfl hsz).mono ?_; rintro e w9 ⟨rfl, hb9⟩; have HB9 := Aside0.mk (below_step (below_alloc (below_alloc HB27.out _) _) hb9); have HY9 := Aside0.mk (below_step (below_alloc (below_alloc HY27.out _) _) hb9); clear hb9)
                      have HBm2 := Aside0.mk (below_step HBm.out HY9.out)
                      go_roundw
                      case measure => exact meas_i hgo (by push_cast; rfl)
                      case rel => exact ⟨i + 1, hi1n, by push_cast; rfl, HBm2⟩
                    · have hd3 : decide ((nl : Int) < (nl : Int)) = false := decide_eq_false (by omega)
                      obtain rfl : i = nl := by omega
                      go_wp2
                      go_ret
                      exact ⟨rfl, HBM.out⟩
      · have hne : ((ga.rl : Int) != (gb.rl : Int)) = true := nat_ne hrl
        go_wp2_with (first | ((with_reducible refine gate_callee (f := 8) rfl ?_); refine goesL_ (some 18) rfl rfl Try.func8 (by kernel_rfl) rfl #[.agg #[.slice ga.rA ga.rl ga.rc, .slice ga.nA ga.nl ga.nc]] rfl (by (try simp only [List.map_toArray, List.map_cons, List.map_nil]); first | done | rfl | (simp only [List.length_drop, List.length_take]; rfl)) ?_; (with_reducible refine (great_no _ B (Nat.le_trans hB HB.out.size) ga (Aside0.mk (HG.out.kept fun k hk => HB.out.block k (by omega))) hna hsa).mono ?_); rintro e w4_ ⟨rfl, hb⟩; refine ⟨_, rfl, ?_⟩; have n0_ := Aside0.mk (below_step (by repeat (first | (with_reducible first | exact HB.out | apply below_alloc | apply pw_below_drewN | apply below_drew1 | refine below_set ?_ GE2.out | refine below_set ?_ GE3.out) | exact HB.out)) hb); have n1_ := Aside0.mk (blk_below (g := g2) (o := .cells #[.slice ga.rA ga.rl ga.rc, .slice ga.nA ga.nl ga.nc] 25 (0, 0)) (by (with_reducible repeat (first | refine blk_drewN ?_ _ | refine blk_drew ?_ | refine blk_alloc ?_ _)); exact BK2.out) hb); have n2_ := Aside0.mk (blk_below (g := g3) (o := .cells #[.slice gb.rA gb.rl gb.rc, .slice gb.nA gb.nl gb.nc] 25 (0, 0)) (by (with_reducible repeat (first | refine blk_drewN ?_ _ | refine blk_drew ?_ | refine blk_alloc ?_ _)); exact BK3.out) hb); clear HB; clear BK2; clear BK3; have HB := n0_; have BK2 := n1_; have BK3 := n2_; clear n0_ n1_ n2_; clear hb; have hc2_0 : w4_.cell? ⟨g2, 0, none⟩ = some (.slice ga.rA ga.rl ga.rc) := (blk_cell BK2.out 0).trans rfl; have hf2_0 := blk_frozen BK2.out 0; have hc2_1 : w4_.cell? ⟨g2, 1, none⟩ = some (.slice ga.nA ga.nl ga.nc) := (blk_cell BK2.out 1).trans rfl; have hf2_1 := blk_frozen BK2.out 1; have hc3_0 : w4_.cell? ⟨g3, 0, none⟩ = some (.slice gb.rA gb.rl gb.rc) := (blk_cell BK3.out 0).trans rfl; have hf3_0 := blk_frozen BK3.out 0; have hc3_1 : w4_.cell? ⟨g3, 1, none⟩ = some (.slice gb.nA gb.nl gb.nc) := (blk_cell BK3.out 1).trans rfl; have hf3_1 := blk_frozen BK3.out 1) | (go_at_call 8; (with_reducible refine (great_no _ B (Nat.le_trans hB HB.out.size) gb (Aside0.mk (HH.out.kept fun k hk => HB.out.block k (by omega))) hnb hsb).mono ?_); rintro e w5_ ⟨rfl, hb⟩; have n0_ := Aside0.mk (below_step (by repeat (first | (with_reducible first | exact HB.out | apply below_alloc | apply pw_below_drewN | apply below_drew1 | refine below_set ?_ GE2.out | refine below_set ?_ GE3.out) | exact HB.out)) hb); have n1_ := Aside0.mk (blk_below (g := g2) (o := .cells #[.slice ga.rA ga.rl ga.rc, .slice ga.nA ga.nl ga.nc] 25 (0, 0)) (by (with_reducible repeat (first | refine blk_drewN ?_ _ | refine blk_drew ?_ | refine blk_alloc ?_ _)); exact BK2.out) hb); have n2_ := Aside0.mk (blk_below (g := g3) (o := .cells #[.slice gb.rA gb.rl gb.rc, .slice gb.nA gb.nl gb.nc] 25 (0, 0)) (by (with_reducible repeat (first | refine blk_drewN ?_ _ | refine blk_drew ?_ | refine blk_alloc ?_ _)); exact BK3.out) hb); clear HB; clear BK2; clear BK3; have HB := n0_; have BK2 := n1_; have BK3 := n2_; clear n0_ n1_ n2_; clear hb; have hc2_0 : w5_.cell? ⟨g2, 0, none⟩ = some (.slice ga.rA ga.rl ga.rc) := (blk_cell BK2.out 0).trans rfl; have hf2_0 := blk_frozen BK2.out 0; have hc2_1 : w5_.cell? ⟨g2, 1, none⟩ = some (.slice ga.nA ga.nl ga.nc) := (blk_cell BK2.out 1).trans rfl; have hf2_1 := blk_frozen BK2.out 1; have hc3_0 : w5_.cell? ⟨g3, 0, none⟩ = some (.slice gb.rA gb.rl gb.rc) := (blk_cell BK3.out 0).trans rfl; have hf3_0 := blk_frozen BK3.out 0; have hc3_1 : w5_.cell? ⟨g3, 1, none⟩ = some (.slice gb.nA gb.nl gb.nc) := (blk_cell BK3.out 1).trans rfl; have hf3_1 := blk_frozen BK3.out 1))
        go_ret
        exact ⟨rfl, HB.out⟩
    · go_wp2_with (first | ((with_reducible refine gate_callee (f := 8) rfl ?_); refine goesL_ (some 18) rfl rfl Try.func8 (by kernel_rfl) rfl #[.agg #[.slice ga.rA ga.rl ga.rc, .slice ga.nA ga.nl ga.nc]] rfl (by (try simp only [List.map_toArray, List.map_cons, List.map_nil]); first | done | rfl | (simp only [List.length_drop, List.length_take]; rfl)) ?_; (with_reducible refine (great_no _ B (Nat.le_trans hB HB.out.size) ga (Aside0.mk (HG.out.kept fun k hk => HB.out.block k (by omega))) hna hsa).mono ?_); rintro e w4_ ⟨rfl, hb⟩; refine ⟨_, rfl, ?_⟩; have n0_ := Aside0.mk (below_step (by repeat (first | (with_reducible first | exact HB.out | apply below_alloc | apply pw_below_drewN | apply below_drew1 | refine below_set ?_ GE2.out | refine below_set ?_ GE3.out) | exact HB.out)) hb); have n1_ := Aside0.mk (blk_below (g := g2) (o := .cells #[.slice ga.rA ga.rl ga.rc, .slice ga.nA ga.nl ga.nc] 25 (0, 0)) (by (with_reducible repeat (first | refine blk_drewN ?_ _ | refine blk_drew ?_ | refine blk_alloc ?_ _)); exact BK2.out) hb); have n2_ := Aside0.mk (blk_below (g := g3) (o := .cells #[.slice gb.rA gb.rl gb.rc, .slice gb.nA gb.nl gb.nc] 25 (0, 0)) (by (with_reducible repeat (first | refine blk_drewN ?_ _ | refine blk_drew ?_ | refine blk_alloc ?_ _)); exact BK3.out) hb); clear HB; clear BK2; clear BK3; have HB := n0_; have BK2 := n1_; have BK3 := n2_; clear n0_ n1_ n2_; clear hb; have hc2_0 : w4_.cell? ⟨g2, 0, none⟩ = some (.slice ga.rA ga.rl ga.rc) := (blk_cell BK2.out 0).trans rfl; have hf2_0 := blk_frozen BK2.out 0; have hc2_1 : w4_.cell? ⟨g2, 1, none⟩ = some (.slice ga.nA ga.nl ga.nc) := (blk_cell BK2.out 1).trans rfl; have hf2_1 := blk_frozen BK2.out 1; have hc3_0 : w4_.cell? ⟨g3, 0, none⟩ = some (.slice gb.rA gb.rl gb.rc) := (blk_cell BK3.out 0).trans rfl; have hf3_0 := blk_frozen BK3.out 0; have hc3_1 : w4_.cell? ⟨g3, 1, none⟩ = some (.slice gb.nA gb.nl gb.nc) := (blk_cell BK3.out 1).trans rfl; have hf3_1 := blk_frozen BK3.out 1) | (go_at_call 8; (with_reducible refine (great_yes _ B (Nat.le_trans hB HB.out.size) gb (Aside0.mk (HH.out.kept fun k hk => HB.out.block k (by omega))) hnb hsb).mono ?_); rintro e w5_ ⟨rfl, hb⟩; have n0_ := Aside0.mk (below_step (by repeat (first | (with_reducible first | exact HB.out | apply below_alloc | apply pw_below_drewN | apply below_drew1 | refine below_set ?_ GE2.out | refine below_set ?_ GE3.out) | exact HB.out)) hb); have n1_ := Aside0.mk (blk_below (g := g2) (o := .cells #[.slice ga.rA ga.rl ga.rc, .slice ga.nA ga.nl ga.nc] 25 (0, 0)) (by (with_reducible repeat (first | refine blk_drewN ?_ _ | refine blk_drew ?_ | refine blk_alloc ?_ _)); exact BK2.out) hb); have n2_ := Aside0.mk (blk_below (g := g3) (o := .cells #[.slice gb.rA gb.rl gb.rc, .slice gb.nA gb.nl gb.nc] 25 (0, 0)) (by (with_reducible repeat (first | refine blk_drewN ?_ _ | refine blk_drew ?_ | refine blk_alloc ?_ _)); exact BK3.out) hb); clear HB; clear BK2; clear BK3; have HB := n0_; have BK2 := n1_; have BK3 := n2_; clear n0_ n1_ n2_; clear hb; have hc2_0 : w5_.cell? ⟨g2, 0, none⟩ = some (.slice ga.rA ga.rl ga.rc) := (blk_cell BK2.out 0).trans rfl; have hf2_0 := blk_frozen BK2.out 0; have hc2_1 : w5_.cell? ⟨g2, 1, none⟩ = some (.slice ga.nA ga.nl ga.nc) := (blk_cell BK2.out 1).trans rfl; have hf2_1 := blk_frozen BK2.out 1; have hc3_0 : w5_.cell? ⟨g3, 0, none⟩ = some (.slice gb.rA gb.rl gb.rc) := (blk_cell BK3.out 0).trans rfl; have hf3_0 := blk_frozen BK3.out 0; have hc3_1 : w5_.cell? ⟨g3, 1, none⟩ = some (.slice gb.nA gb.nl gb.nc) := (blk_cell BK3.out 1).trans rfl; have hf3_1 := blk_frozen BK3.out 1))
      go_ret
      exact ⟨rfl, HB.out⟩
  · go_wp2_with ((with_reducible refine gate_callee (f := 8) rfl ?_); refine goesL_ (some 18) rfl rfl Try.func8 (by kernel_rfl) rfl #[.agg #[.slice ga.rA ga.rl ga.rc, .slice ga.nA ga.nl ga.nc]] rfl (by (try simp only [List.map_toArray, List.map_cons, List.map_nil]); first | done | rfl | (simp only [List.length_drop, List.length_take]; rfl)) ?_; (with_reducible refine (great_yes _ B (Nat.le_trans hB HB.out.size) ga (Aside0.mk (HG.out.kept fun k hk => HB.out.block k (by omega))) hna hsa).mono ?_); rintro e w4_ ⟨rfl, hb⟩; refine ⟨_, rfl, ?_⟩; have n0_ := Aside0.mk (below_step (by repeat (first | (with_reducible first | exact HB.out | apply below_alloc | apply pw_below_drewN | apply below_drew1 | refine below_set ?_ GE2.out | refine below_set ?_ GE3.out) | exact HB.out)) hb); have n1_ := Aside0.mk (blk_below (g := g2) (o := .cells #[.slice ga.rA ga.rl ga.rc, .slice ga.nA ga.nl ga.nc] 25 (0, 0)) (by (with_reducible repeat (first | refine blk_drewN ?_ _ | refine blk_drew ?_ | refine blk_alloc ?_ _)); exact BK2.out) hb); have n2_ := Aside0.mk (blk_below (g := g3) (o := .cells #[.slice gb.rA gb.rl gb.rc, .slice gb.nA gb.nl gb.nc] 25 (0, 0)) (by (with_reducible repeat (first | refine blk_drewN ?_ _ | refine blk_drew ?_ | refine blk_alloc ?_ _)); exact BK3.out) hb); clear HB; clear BK2; clear BK3; have HB := n0_; have BK2 := n1_; have BK3 := n2_; clear n0_ n1_ n2_; clear hb; have hc2_0 : w4_.cell? ⟨g2, 0, none⟩ = some (.slice ga.rA ga.rl ga.rc) := (blk_cell BK2.out 0).trans rfl; have hf2_0 := blk_frozen BK2.out 0; have hc2_1 : w4_.cell? ⟨g2, 1, none⟩ = some (.slice ga.nA ga.nl ga.nc) := (blk_cell BK2.out 1).trans rfl; have hf2_1 := blk_frozen BK2.out 1; have hc3_0 : w4_.cell? ⟨g3, 0, none⟩ = some (.slice gb.rA gb.rl gb.rc) := (blk_cell BK3.out 0).trans rfl; have hf3_0 := blk_frozen BK3.out 0; have hc3_1 : w4_.cell? ⟨g3, 1, none⟩ = some (.slice gb.nA gb.nl gb.nc) := (blk_cell BK3.out 1).trans rfl; have hf3_1 := blk_frozen BK3.out 1)
    go_ret
    exact ⟨rfl, HB.out⟩
end Go.Proofs.Ytekggbmajemmhaa.Gr
/- DiffBack: a graph, read out of the arguments, with the facts on its data. No condition beyond the reading. -/
namespace Go.Proofs.Ytekggbmajemmhaa.Gr
open Go.ChangeShapes Go.WideShapes Go.ChangeAt Go.RowKit Go.Deep Go.Joins
set_option linter.unusedSimpArgs false
set_option linter.unusedVariables false
set_option maxRecDepth 100000
theorem open_nodeT {H : Type} {enc : TypeId × Value → H} {w : World} {fuel : Nat} {cs : List Value} {x : DataW H × List MemPlace} (h : DataW.trod enc Try.prog w 0 (fun _ => true) true fuel 40 cs = some x) (hlen : cs.length = 6) :
    ∃ n : Nd, cs = [.int .i64 n.adr, .int .i64 n.refs, .int .i64 n.sl, .int .i64 n.words, .slice n.A n.m n.c, .slice n.B n.n n.d] ∧ DL w w.heap.size n ∧ (Lit.int .i64 n.adr).wf = true ∧ (∀ x ∈ n.S, (Lit.int .i64 x).wf = true) ∧ ∀ x ∈ n.T, (Lit.int .u64 x).wf = true := by
  obtain ⟨y0, y1, y2, y3, k, _, _, g0, g1, g2, g3⟩ := trod_struct4 Try.underlying40 h
  match cs, hlen with
  | [v0, v1, v2, v3, v4, v5], _ =>
    have c3 : Try.prog.cellsOf 3 = 1 := by kernel_rfl
    have c37 : Try.prog.cellsOf 37 = 3 := by kernel_rfl
    have c22 : Try.prog.cellsOf 22 = 1 := by kernel_rfl
    have c38 : Try.prog.cellsOf 38 = 1 := by kernel_rfl
    have c42 : Try.prog.cellsOf 42 = 1 := by kernel_rfl
    simp only [c3, c37, c22, c38] at g0 g1 g2 g3
    obtain ⟨z0, z1, z2, k2, _, _, e0, e1, e2⟩ := trod_struct3 Try.underlying37 g1
    simp only [c3] at e0 e1 e2
    obtain ⟨b0, hv0, _, wf0⟩ := DataW.trod_int Try.underlying3 g0
    obtain ⟨b1, hv1, _, _⟩ := DataW.trod_int Try.underlying3 e0
    obtain ⟨b2, hv2, _, _⟩ := DataW.trod_int Try.underlying3 e1
    obtain ⟨b3, hv3, _, _⟩ := DataW.trod_int Try.underlying3 e2
    obtain ⟨A, m, c, S, hv4, hS, wS, _⟩ := open_il Try.underlying22 Try.underlying3 c3 (v := v4) (by simpa using g2)
    obtain ⟨B, n, d, D, hv5, hD, wD, _⟩ := open_il Try.underlying38 Try.underlying42 c42 (v := v5) (by simpa using g3)
    simp at hv0 hv1 hv2 hv3
    subst_vars
    exact ⟨⟨b0, b1, b2, b3, A, m, c, B, n, d, S, D⟩, rfl, ⟨hS, hD⟩, wf0, wS, wD⟩
theorem open_nodesT {H : Type} {enc : TypeId × Value → H} {w : World} {fuel : Nat} {v : Value} {x : DataW H × List MemPlace} (h : DataW.trod enc Try.prog w 0 (fun _ => true) true fuel 23 [v] = some x) :
    ∃ A m c NS, v = .slice A m c ∧ NL w w.heap.size A m NS ∧ (∀ n ∈ NS, DL w w.heap.size n) ∧ (∀ n ∈ NS, (Lit.int .i64 n.adr).wf = true) ∧ (∀ n ∈ NS, ∀ x ∈ n.S, (Lit.int .i64 x).wf = true) ∧ (∀ n ∈ NS, ∀ x ∈ n.T, (Lit.int .u64 x).wf = true) ∧ m ≤ 9223372036854775807 := by
  rcases open_slice Try.underlying23 h with ⟨hcs, _⟩ | ⟨y, l, c, m, n, D, Pl, hcs, hb, hl, hm, hmm, rfl, hx⟩
  · simp at hcs
    subst hcs
    exact ⟨none, 0, 0, [], rfl, ⟨rfl, fun i hi => absurd hi (by omega)⟩, by simp, by simp, by simp, by simp, by omega⟩
  · simp at hcs
    subst hcs
    have c40 : Try.prog.cellsOf 40 = 6 := by kernel_rfl
    have each : ∀ i, i < l → ∃ q : Nd, (w.cell? ((y.add (i * 6)).add 0) = some (.int .i64 q.adr) ∧ w.cell? ((y.add (i * 6)).add 1) = some (.int .i64 q.refs) ∧ w.cell? ((y.add (i * 6)).add 2) = some (.int .i64 q.sl) ∧ w.cell? ((y.add (i * 6)).add 3) = some (.int .i64 q.words) ∧
        w.cell? ((y.add (i * 6)).add 4) = some (.slice q.A q.m q.c) ∧ w.cell? ((y.add (i * 6)).add 5) = some (.slice q.B q.n q.d)) ∧ DL w w.heap.size q ∧ (Lit.int .i64 q.adr).wf = true ∧ (∀ x ∈ q.S, (Lit.int .i64 x).wf = true) ∧ ∀ x ∈ q.T, (Lit.int .u64 x).wf = true := by
      intro i hi
      obtain ⟨cs', h1, h2⟩ := hx i (by rw [hmm, if_pos rfl]; omega)
      rw [c40] at h1
      obtain ⟨_, hlen, hcell⟩ := World.cells?_some h1
      obtain ⟨q, hq, hD, w1, w2, w3⟩ := open_nodeT h2 hlen
      have d0 := hcell 0 (by omega)
      have d1 := hcell 1 (by omega)
      have d2 := hcell 2 (by omega)
      have d3 := hcell 3 (by omega)
      have d4 := hcell 4 (by omega)
      have d5 := hcell 5 (by omega)
      subst hq
      simp only [List.getElem?_cons_zero, List.getElem?_cons_succ] at d0 d1 d2 d3 d4 d5
      exact ⟨q, ⟨d0, d1, d2, d3, d4, d5⟩, hD, w1, w2, w3⟩
    obtain ⟨q, hq⟩ := choose_lt each
    have hmem : ∀ n, n ∈ (List.range l).map q → ∃ i, i < l ∧ q i = n := fun n hn => by
      obtain ⟨i, hi, e⟩ := List.mem_map.1 hn
      exact ⟨i, List.mem_range.1 hi, e⟩
    refine ⟨some y, l, c, (List.range l).map q, rfl, ⟨by simp, fun i hi => ⟨y, rfl, ?_, ?_⟩⟩, fun n hn => ?_, fun n hn => ?_, fun n hn => ?_, fun n hn => ?_, by unfold maxLen at hm; omega⟩
    · have := cell_lt (hq i hi).1.1
      rwa [add_block, add_block] at this
    · have e : ((List.range l).map q).getD i default = q i := by simp [List.getD_eq_getElem?_getD, hi]
      rw [e]
      exact (hq i hi).1
    · obtain ⟨i, hi, rfl⟩ := hmem n hn
      exact (hq i hi).2.1
    · obtain ⟨i, hi, rfl⟩ := hmem n hn
      exact (hq i hi).2.2.1
    · obtain ⟨i, hi, rfl⟩ := hmem n hn
      exact (hq i hi).2.2.2.1
    · obtain ⟨i, hi, rfl⟩ := hmem n hn
      exact (hq i hi).2.2.2.2
theorem open_graphT {H : Type} {enc : TypeId × Value → H} {w : World} {r : Reach} {b0 : Nat} {v : Value} {d : DataW H} {p : List MemPlace} (hv : Value.okWide Try.prog w r b0 25 v) (h : DataW.Trod enc Try.prog w 0 (fun _ => true) true 25 v d p) :
    ∃ g : Gd, v = g.val ∧ (GM w w.heap.size g ∧ ∀ n ∈ g.NS, ∀ x ∈ n.T, (Lit.int .u64 x).wf = true) ∧ g.nl ≤ 9223372036854775807 := by
  obtain ⟨v0, v1, y0, y1, n, rfl, _, _, g0, g1⟩ := open_agg2 Try.underlying25 (by kernel_rfl) (by kernel_rfl) hv h
  obtain ⟨rA, rl, rc, R, rfl, hR, wR, _⟩ := open_il Try.underlying22 Try.underlying3 (by kernel_rfl) g0
  obtain ⟨nA, nl, nc, NS, rfl, hN, hD, w1, w2, w3, hm⟩ := open_nodesT g1
  exact ⟨⟨rA, rl, rc, R, nA, nl, nc, NS⟩, rfl, ⟨⟨hR, hN, hD, w1, wR, w2⟩, w3⟩, hm⟩
theorem back_row (ga gb : Gd) (W : World) (wa : GM W W.heap.size ga ∧ ∀ n ∈ ga.NS, ∀ x ∈ n.T, (Lit.int .u64 x).wf = true) (ya : ga.nl ≤ 9223372036854775807) (wb : GM W W.heap.size gb ∧ ∀ n ∈ gb.NS, ∀ x ∈ n.T, (Lit.int .u64 x).wf = true) (yb : gb.nl ≤ 9223372036854775807) : Calls Try.prog 4 #[ga.val, gb.val] W fun e w' => e = .returned (.bool true) ∧ Below W.heap.size W w' :=
  back_calls W W.heap.size (Nat.le_refl _) ga gb ⟨wa.1⟩ ⟨wb.1⟩ ⟨wb.2⟩ ya yb
end Go.Proofs.Ytekggbmajemmhaa.Gr
