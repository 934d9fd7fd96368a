/- Parts of one proof, set together: Gr11. What each says stands at its head; no condition beyond theirs. -/
import Derived.Test.YtekggbmajemmhaaDb12
/- Diff: inside. Conditions: both nodes' lists lie in memory; at most 300 of each. -/
namespace Go.Proofs.Ytekggbmajemmhaa.Gr
open Go.RowKit Go.Shelf Go.Maps Go.ChangeMaps Go.MapKept Go.Proofs.YtekggbmajemmhaaW.PrintWords Go.Proofs.YtekggbmajemmhaaW.PrintLast Go.Proofs.YtekggbmajemmhaaW.PrintMore
set_option linter.unusedSimpArgs false
set_option linter.unusedVariables false
abbrev Ch.cells (c : Ch) : List Value := [.int .i64 c.k, .int .i64 c.a, .int .i64 c.i, .int .u64 c.was, .int .u64 c.is]
def chs (l : List Ch) : List Value := l.flatMap Ch.cells
theorem chs_snoc (l : List Ch) (c : Ch) : chs (l ++ [c]) = chs l ++ c.cells := by simp [chs]
theorem own_keeps {W W' : World} {X : Nat} {e : TypeId} {s n : Nat} {v : Value} {xs : List Value} (h : W.ownsRow X e s v n xs) (hg : W.grownBy W' v.ownBlock) {j : Nat} {cs : Array Value} {t : TypeId} (hj : W.heap[j]? = some (.cells cs t (0, 0))) (ht : t ≠ e) : W'.heap[j]? = some (.cells cs t (0, 0)) := by
  refine (hg.block j (blk_lt hj) ?_).trans hj
  rcases h.2 with ⟨rfl, _⟩ | ⟨g0, cap, cur, rfl, _, hgb, _⟩
  · simp [Value.ownBlock]
  · intro e'
    obtain rfl : j = g0 := by simpa [Value.ownBlock] using e'
    rw [hgb] at hj
    cases hj
    exact ht rfl
theorem own_below {w W W' : World} {X : Nat} {e : TypeId} {s n : Nat} {v : Value} {xs : List Value} (hb : Below X w W) (hX : X ≤ w.heap.size) (h : W.ownsRow X e s v n xs) (hg : W.grownBy W' v.ownBlock) : Below X w W' :=
  hb.grown hg (Nat.le_trans hX hb.size) (fun k e => (h.lt k e).1)
variable {P : Program} {ops : Array Oper} {Q : Exit → Act → World → Prop}
theorem append_ {oi : Oper} {N : Option Tmp} {a : Act} {w : World} {K : Act → World → Prop} (hw : Region.wanted oi (yielded ops a.tmps) = true) (hN : oi.dst = N) (s x : Operand) (t : TypeId)
    (ho : oi.op = .call { callee := .builtin .append, args := #[s, x], argTypes := #[t, t] })
    (base : Nat) (e : TypeId) (i : TypeInfo) (z : Value) (size bytes : Nat) (ht : P.underlying t = some (.slice e)) (hi : P.info? e = some i) (hz : i.zero = some z)
    (hsize : i.size = size) (hby : i.bytes = bytes) (hzs : z.cells.size = size) (hsz : 0 < size)
    (v : Value) (n : Nat) (xs : List Value) (hs : a.eval s = v) (hown : w.ownsRow base e size v n xs)
    (ad : Addr) (m c : Nat) (news : List Value) (hx : a.eval x = .slice (some ad) m c) (hl : news.length = m * size) (hnews : ∀ j u, news[j]? = some u → w.cell? (ad.add j) = some u) (h1 : ∀ u ∈ news, u.oneCell' = true)
    (h63 : n + m ≤ maxLen) (hbytes : (n + m) * bytes ≤ 140737488355328) (hbase : base ≤ w.heap.size)
    (h : ∀ v' w', w'.ownsRow base e size v' (n + m) (xs ++ news) → w.grownBy w' v.ownBlock → K (a.put N v') w') : if Region.wanted oi (yielded ops a.tmps) = true then Oper.wp P oi a w K Q else K (a.put N undef) w := by
  rw [if_pos hw]
  subst hN
  exact wp_append_own w s x t ho base e i z size bytes ht hi hz hsize hby hzs hsz v n xs hs hown ad m c news hx hl hnews h1 h63 hbytes hbase (fun v' w' h2 h3 _ => h v' w' h2 h3)
theorem ch_cells {W : World} {g : Nat} {k a i u1 u2 : Int} (h : W.heap[g]? = some (.cells #[.int .i64 k, .int .i64 a, .int .i64 i, .int .u64 u1, .int .u64 u2] 44 (0, 0))) : ∀ j u, [Value.int .i64 k, .int .i64 a, .int .i64 i, .int .u64 u1, .int .u64 u2][j]? = some u → W.cell? ((⟨g, 0, none⟩ : Addr).add j) = some u := by
  intro j u hju
  have hc := fun n => blk_cell h n
  rcases j with _ | _ | _ | _ | _ | j
  · simp at hju; subst hju; exact (hc 0).trans rfl
  · simp at hju; subst hju; exact (hc 1).trans rfl
  · simp at hju; subst hju; exact (hc 2).trans rfl
  · simp at hju; subst hju; exact (hc 3).trans rfl
  · simp at hju; subst hju; exact (hc 4).trans rfl
  · simp at hju
theorem row_one {W : World} {X g : Nat} {k a i u1 u2 : Int} (h : W.heap[g]? = some (.cells #[.int .i64 k, .int .i64 a, .int .i64 i, .int .u64 u1, .int .u64 u2] 44 (0, 0))) (hX : X ≤ g) : W.ownsRow X 44 5 (.slice (some ⟨g, 0, none⟩) 1 1) 1 [.int .i64 k, .int .i64 a, .int .i64 i, .int .u64 u1, .int .u64 u2] :=
  ⟨rfl, .inr ⟨g, 1, _, rfl, hX, h, Nat.le_refl _, by unfold maxLen; omega, rfl, rfl⟩⟩
theorem nat_ne {a b : Nat} (h : a ≠ b) : ((a : Int) != (b : Int)) = true := by simp; omega
theorem nat_eq {a b : Nat} (h : a = b) : ((a : Int) != (b : Int)) = false := by rw [h]; simp
theorem slots_eq {x y : Nd} {i : Nat} (h : x.S.getD i 0 = y.S.getD i 0) : slotsTo x y (i + 1) = slotsTo x y i := by rw [slotsTo_succ, if_pos h, List.append_nil]
theorem slots_ne {x y : Nd} {i : Nat} (h : ¬ x.S.getD i 0 = y.S.getD i 0) : slotsTo x y (i + 1) = slotsTo x y i ++ [⟨4, x.adr, i, u64 (x.S.getD i 0), u64 (y.S.getD i 0)⟩] := by rw [slotsTo_succ, if_neg h]
theorem data_eq {x y : Nd} {i : Nat} (h : x.T.getD i 0 = y.T.getD i 0) : dataTo x y (i + 1) = dataTo x y i := by rw [dataTo_succ, if_pos h, List.append_nil]
theorem data_ne {x y : Nd} {i : Nat} (h : ¬ x.T.getD i 0 = y.T.getD i 0) : dataTo x y (i + 1) = dataTo x y i ++ [⟨5, x.adr, i, x.T.getD i 0, y.T.getD i 0⟩] := by rw [dataTo_succ, if_neg h]
theorem words_calls (W : World) (adr refs sl words : Int) (A1 : Option Addr) (m c : Nat) (B1 : Option Addr) (n d : Nat) : Calls Try.prog 35 #[.agg #[.int .i64 adr, .int .i64 refs, .int .i64 sl, .int .i64 words, .slice A1 m c, .slice B1 n d]] W fun e W' => e = .returned (.int .u64 (u64 words)) ∧ Below W.heap.size W W' := by
  have HB := Aside0.mk (Below.refl W.heap.size W)
  go_enter Try.func35, Try.ntmps35
  go_wp2_with ((with_reducible refine gate_dst (N := 1) rfl ?_); refine box_event ?hg (N := 1) ?hd (cs := #[.int .i64 adr, .int .i64 refs, .int .i64 sl, .int .i64 words, .slice A1 m c, .slice B1 n d]) (t := 40) ?hr ?_; (case hd => rfl); (case hg => rfl); (case hr => first | (go_simp; done) | (go_simp; rfl)); intro g1 hg w1_ hbox hb; have n0_ := Aside0.mk (below_step (by repeat (first | (with_reducible first | exact HB.out | apply below_alloc | apply pw_below_drewN | apply below_drew1) | exact HB.out)) hb); have n1_ := Aside0.mk hbox; have n2_ := Aside0.mk ((by rw [hg]; exact (below_size (by repeat (first | (with_reducible first | exact HB.out | apply below_alloc | apply pw_below_drewN | apply below_drew1) | exact HB.out)))) : W.heap.size ≤ g1); clear HB; have HB := n0_; have BK1 := n1_; have GE1 := n2_; clear n0_ n1_ n2_; clear hb hbox hg; have hc1_0 : w1_.cell? ⟨g1, 0, none⟩ = some (.int .i64 adr) := (blk_cell BK1.out 0).trans rfl; have hf1_0 := blk_frozen BK1.out 0; have hc1_1 : w1_.cell? ⟨g1, 1, none⟩ = some (.int .i64 refs) := (blk_cell BK1.out 1).trans rfl; have hf1_1 := blk_frozen BK1.out 1; have hc1_2 : w1_.cell? ⟨g1, 2, none⟩ = some (.int .i64 sl) := (blk_cell BK1.out 2).trans rfl; have hf1_2 := blk_frozen BK1.out 2; have hc1_3 : w1_.cell? ⟨g1, 3, none⟩ = some (.int .i64 words) := (blk_cell BK1.out 3).trans rfl; have hf1_3 := blk_frozen BK1.out 3; have hc1_4 : w1_.cell? ⟨g1, 4, none⟩ = some (.slice A1 m c) := (blk_cell BK1.out 4).trans rfl; have hf1_4 := blk_frozen BK1.out 4; have hc1_5 : w1_.cell? ⟨g1, 5, none⟩ = some (.slice B1 n d) := (blk_cell BK1.out 5).trans rfl; have hf1_5 := blk_frozen BK1.out 5)
  go_ret
  exact ⟨rfl, HB.out⟩
def i2.T2 : Bool × List (List Nat × List Nat) := (true, [([], []), ([0], [0]), ([], []), ([2], [2]), ([], []), ([4, 3], [4]), ([1, 3, 5], [1, 3, 5]), ([6], [6]), ([7, 5, 0, 1, 2, 3, 4, 5, 6, 7], [7])])
def i2.B2 : List Nat := [0, 1, 0, 4, 0, 28, 63, 127, 255]
theorem i2.tab2 : rtab .any (opsOf Try.f49 2) = i2.T2 := by kernel_rfl
theorem i2.bits2 : waitsOk i2.T2.2 i2.B2 = true := by kernel_rfl
def i7.T7 : Bool × List (List Nat × List Nat) := (true, [([], []), ([0], [0]), ([], []), ([1, 2], [1, 2]), ([3], [3]), ([], []), ([5], [5]), ([], []), ([6, 7], [6, 7]), ([8], [8]), ([4, 9], [4, 9])])
def i7.B7 : List Nat := [0, 1, 0, 7, 15, 0, 32, 0, 224, 480, 1023]
theorem i7.tab7 : rtab .any (opsOf Try.f49 7) = i7.T7 := by kernel_rfl
theorem i7.bits7 : waitsOk i7.T7.2 i7.B7 = true := by kernel_rfl
def i8.T8 : Bool × List (List Nat × List Nat) := (true, [([], []), ([], []), ([1], [1]), ([], []), ([], []), ([4], [4]), ([], []), ([5, 6], [5, 6]), ([7], [7]), ([8], [8]), ([], []), ([10], [10]), ([], []), ([11, 12], [11, 12]), ([13], [13]), ([14], [14]), ([2, 3, 9, 15], [2, 3, 9, 15]), ([16], [16]), ([0, 17], [0, 17]), ([18, 18, 0, 1, 2, 3, 4, 5, 6, 7, 8, 9, 10, 11, 12, 13, 14, 15, 16, 17, 18], [0, 18])])
def i8.B8 : List Nat := [0, 0, 2, 0, 0, 16, 0, 112, 240, 496, 0, 1024, 0, 7168, 15360, 31744, 65534, 131070, 262143, 524287]
theorem i8.tab8 : rtab .any (opsOf Try.f49 8) = i8.T8 := by kernel_rfl
theorem i8.bits8 : waitsOk i8.T8.2 i8.B8 = true := by kernel_rfl
def i13.T13 : Bool × List (List Nat × List Nat) := (true, [([], []), ([0], [0]), ([], []), ([1, 2], [1, 2]), ([3], [3]), ([], []), ([5], [5]), ([], []), ([6, 7], [6, 7]), ([8], [8]), ([4, 9], [4, 9])])
def i13.B13 : List Nat := [0, 1, 0, 7, 15, 0, 32, 0, 224, 480, 1023]
theorem i13.tab13 : rtab .any (opsOf Try.f49 13) = i13.T13 := by kernel_rfl
theorem i13.bits13 : waitsOk i13.T13.2 i13.B13 = true := by kernel_rfl
def i14.T14 : Bool × List (List Nat × List Nat) := (true, [([], []), ([], []), ([1], [1]), ([], []), ([], []), ([4], [4]), ([], []), ([5, 6], [5, 6]), ([7], [7]), ([], []), ([9], [9]), ([], []), ([10, 11], [10, 11]), ([12], [12]), ([2, 3, 8, 13], [2, 3, 8, 13]), ([14], [14]), ([0, 15], [0, 15]), ([16, 16, 0, 1, 2, 3, 4, 5, 6, 7, 8, 9, 10, 11, 12, 13, 14, 15, 16], [0, 16])])
def i14.B14 : List Nat := [0, 0, 2, 0, 0, 16, 0, 112, 240, 0, 512, 0, 3584, 7680, 16382, 32766, 65535, 131071]
theorem i14.tab14 : rtab .any (opsOf Try.f49 14) = i14.T14 := by kernel_rfl
theorem i14.bits14 : waitsOk i14.T14.2 i14.B14 = true := by kernel_rfl
theorem il_at {k : IntKind} {w : World} {B : Nat} (hB : B ≤ w.heap.size) {a : Option Addr} {len : Nat} {l : List Int} (h : IL k w B a len l) {i : Nat} (hi : i < len) : ∃ y, a = some y ∧ ∀ W', Below w.heap.size w W' → W'.cell? (y.add i) = some (.int k (l.getD i 0)) := by
  obtain ⟨y, e, hy, hc⟩ := h.2 i hi
  exact ⟨y, e, fun W' hb => (World.cell?_of_block (hb.block _ (by rw [add_block]; omega))).trans hc⟩
set_option maxHeartbeats 8000000 in
set_option maxRecDepth 100000 in
theorem inside_calls (w : World) (B : Nat) (hB : B ≤ w.heap.size) (pa pr ps pw : Int) (pA : Option Addr) (pm pc : Nat) (pB : Option Addr) (pn pd : Nat) (pS pT : List Int) (qa qr qs qw : Int) (qA : Option Addr) (qm qc : Nat) (qB : Option Addr) (qn qd : Nat) (qS qT : List Int)
    (HP : Aside0 (DL w B ⟨pa, pr, ps, pw, pA, pm, pc, pB, pn, pd, pS, pT⟩)) (HQ : Aside0 (DL w B ⟨qa, qr, qs, qw, qA, qm, qc, qB, qn, qd, qS, qT⟩)) (hpm : pm ≤ 300) (hpn : pn ≤ 300) :
    Calls Try.prog 49 #[.agg #[.int .i64 pa, .int .i64 pr, .int .i64 ps, .int .i64 pw, .slice pA pm pc, .slice pB pn pd], .agg #[.int .i64 qa, .int .i64 qr, .int .i64 qs, .int .i64 qw, .slice qA qm qc, .slice qB qn qd]] w fun e W' => ∃ v, e = .returned v ∧ W'.ownsRow w.heap.size 44 5 v (insideR ⟨pa, pr, ps, pw, pA, pm, pc, pB, pn, pd, pS, pT⟩ ⟨qa, qr, qs, qw, qA, qm, qc, qB, qn, qd, qS, qT⟩).length (chs (insideR ⟨pa, pr, ps, pw, pA, pm, pc, pB, pn, pd, pS, pT⟩ ⟨qa, qr, qs, qw, qA, qm, qc, qB, qn, qd, qS, qT⟩)) ∧ Below w.heap.size w W' := by
  obtain ⟨i0, hi, hz0, hz1, hz2⟩ := info_parts Di.info44
  have HB := Aside0.mk (Below.refl w.heap.size w)
  by_cases hdif : pm ≠ qm ∨ pw ≠ qw ∨ pn ≠ qn
  · have HI := Aside0.mk (show insideR ⟨pa, pr, ps, pw, pA, pm, pc, pB, pn, pd, pS, pT⟩ ⟨qa, qr, qs, qw, qA, qm, qc, qB, qn, qd, qS, qT⟩ = [⟨3, pa, 0, u64 pw, u64 qw⟩] from if_pos hdif)
    rw [HI.out]
    go_enter Try.func49, Try.ntmps49
    go_upto_region 1 with (first | ((with_reducible refine gate_dst (N := 2) rfl ?_); refine box_event ?hg (N := 2) ?hd (cs := #[.int .i64 pa, .int .i64 pr, .int .i64 ps, .int .i64 pw, .slice pA pm pc, .slice pB pn pd]) (t := 40) ?hr ?_; (case hd => rfl); (case hg => rfl); (case hr => first | (go_simp; done) | (go_simp; rfl)); intro g2 hg w1_ hbox hb; have n0_ := Aside0.mk (below_step (by repeat (first | (with_reducible first | exact HB.out | apply below_alloc | apply pw_below_drewN | apply below_drew1) | exact HB.out)) hb); have n1_ := Aside0.mk hbox; have n2_ := Aside0.mk ((by rw [hg]; exact (below_size (by repeat (first | (with_reducible first | exact HB.out | apply below_alloc | apply pw_below_drewN | apply below_drew1) | exact HB.out)))) : w.heap.size ≤ g2); clear HB; have HB := n0_; have BK2 := n1_; have GE2 := n2_; clear n0_ n1_ n2_; clear hb hbox hg) | ((with_reducible refine gate_dst (N := 3) rfl ?_); refine box_event ?hg (N := 3) ?hd (cs := #[.int .i64 qa, .int .i64 qr, .int .i64 qs, .int .i64 qw, .slice qA qm qc, .slice qB qn qd]) (t := 40) ?hr ?_; (case hd => rfl); (case hg => rfl); (case hr => first | (go_simp; done) | (go_simp; rfl)); intro g3 hg w2_ hbox hb; have n0_ := Aside0.mk (below_step (by repeat (first | (with_reducible first | exact HB.out | apply below_alloc | apply pw_below_drewN | apply below_drew1 | refine below_set ?_ GE2.out) | exact HB.out)) hb); have n1_ := Aside0.mk (blk_below (g := g2) (o := .cells #[.int .i64 pa, .int .i64 pr, .int .i64 ps, .int .i64 pw, .slice pA pm pc, .slice pB pn pd] 40 (0, 0)) (by (with_reducible repeat (first | refine blk_drewN ?_ _ | refine blk_drew ?_ | refine blk_alloc ?_ _)); exact BK2.out) hb); have n2_ := Aside0.mk hbox; have n3_ := Aside0.mk ((by rw [hg]; exact (below_size (by repeat (first | (with_reducible first | exact HB.out | apply below_alloc | apply pw_below_drewN | apply below_drew1 | refine below_set ?_ GE2.out) | exact HB.out)))) : w.heap.size ≤ g3); have n4_ := Aside0.mk ((by rw [hg]; exact Nat.ne_of_lt (blk_lt (g := g2) (o := .cells #[.int .i64 pa, .int .i64 pr, .int .i64 ps, .int .i64 pw, .slice pA pm pc, .slice pB pn pd] 40 (0, 0)) (by (with_reducible repeat (first | refine blk_drewN ?_ _ | refine blk_drew ?_ | refine blk_alloc ?_ _)); exact BK2.out))) : g2 ≠ g3); clear HB; clear BK2; have HB := n0_; have BK2 := n1_; have BK3 := n2_; have GE3 := n3_; have NE2_3 := n4_; clear n0_ n1_ n2_ n3_ n4_; clear hb hbox hg))
    have hc2_0 : w2_.cell? ⟨g2, 0, none⟩ = some (.int .i64 pa) := (blk_cell BK2.out 0).trans rfl
    have hf2_0 := blk_frozen BK2.out 0
    have hc2_1 : w2_.cell? ⟨g2, 1, none⟩ = some (.int .i64 pr) := (blk_cell BK2.out 1).trans rfl
    have hf2_1 := blk_frozen BK2.out 1
    have hc2_2 : w2_.cell? ⟨g2, 2, none⟩ = some (.int .i64 ps) := (blk_cell BK2.out 2).trans rfl
    have hf2_2 := blk_frozen BK2.out 2
    have hc2_3 : w2_.cell? ⟨g2, 3, none⟩ = some (.int .i64 pw) := (blk_cell BK2.out 3).trans rfl
    have hf2_3 := blk_frozen BK2.out 3
    have hc2_4 : w2_.cell? ⟨g2, 4, none⟩ = some (.slice pA pm pc) := (blk_cell BK2.out 4).trans rfl
    have hf2_4 := blk_frozen BK2.out 4
    have hc2_5 : w2_.cell? ⟨g2, 5, none⟩ = some (.slice pB pn pd) := (blk_cell BK2.out 5).trans rfl
    have hf2_5 := blk_frozen BK2.out 5
    have hc3_0 : w2_.cell? ⟨g3, 0, none⟩ = some (.int .i64 qa) := (blk_cell BK3.out 0).trans rfl
    have hf3_0 := blk_frozen BK3.out 0
    have hc3_1 : w2_.cell? ⟨g3, 1, none⟩ = some (.int .i64 qr) := (blk_cell BK3.out 1).trans rfl
    have hf3_1 := blk_frozen BK3.out 1
    have hc3_2 : w2_.cell? ⟨g3, 2, none⟩ = some (.int .i64 qs) := (blk_cell BK3.out 2).trans rfl
    have hf3_2 := blk_frozen BK3.out 2
    have hc3_3 : w2_.cell? ⟨g3, 3, none⟩ = some (.int .i64 qw) := (blk_cell BK3.out 3).trans rfl
    have hf3_3 := blk_frozen BK3.out 3
    have hc3_4 : w2_.cell? ⟨g3, 4, none⟩ = some (.slice qA qm qc) := (blk_cell BK3.out 4).trans rfl
    have hf3_4 := blk_frozen BK3.out 4
    have hc3_5 : w2_.cell? ⟨g3, 5, none⟩ = some (.slice qB qn qd) := (blk_cell BK3.out 5).trans rfl
    have hf3_5 := blk_frozen BK3.out 5
    by_cases h1 : pm = qm
    · have d1 := nat_eq h1
      by_cases h2 : pw = qw
      · have d2 : (pw != qw) = false := by rw [h2]; simp
        have d3 := nat_ne (show pn ≠ qn by
          rcases hdif with h | h | h
          · exact absurd h1 h
          · exact absurd h2 h
          · exact h)
        clear h1 h2 hdif
        skip
        go_upto_region 2 with fail
        refine start_ (n := 9) (S := fun w' => True) (ds := []) #[false, false, false, false, false, false, false, false, false] (by kernel_rfl) rfl rfl trivial (fun hHeld => ?_)
        refine with_tabW i2.tab2 i2.bits2 (fun HT_ HW_ => ?_)
        refine inv_at [0, 1, 2, 3, 4, 5, 6, 7, 8] (fun a0_ b a w' => ∃ (gz : Nat) (m7_ : Value) (m8_ : Value), a = putSel a0_ b [(0, 33, .pointer (some ⟨g2, 0, none⟩)), (1, 34, .int .i64 pa), (2, 35, .agg #[.int .i64 pa, .int .i64 pr, .int .i64 ps, .int .i64 pw, .slice pA pm pc, .slice pB pn pd]), (3, 36, .int .u64 (u64 pw)), (4, 37, .agg #[.int .i64 qa, .int .i64 qr, .int .i64 qs, .int .i64 qw, .slice qA qm qc, .slice qB qn qd]), (5, 38, .int .u64 (u64 qw)), (6, 39, .agg #[.int .i64 3, .int .i64 pa, .int .i64 0, .int .u64 (u64 pw), .int .u64 (u64 qw)]), (7, 40, m7_), (8, 4, m8_)] ∧ (Below w.heap.size w w') ∧ (w'.heap[g2]? = some (.cells #[.int .i64 pa, .int .i64 pr, .int .i64 ps, .int .i64 pw, .slice pA pm pc, .slice pB pn pd] 40 (0, 0))) ∧ (w'.heap[g3]? = some (.cells #[.int .i64 qa, .int .i64 qr, .int .i64 qs, .int .i64 qw, .slice qA qm qc, .slice qB qn qd] 40 (0, 0))) ∧ (b 7 = true → w'.heap[gz]? = some (.cells #[.int .i64 3, .int .i64 pa, .int .i64 0, .int .u64 (u64 pw), .int .u64 (u64 qw)] 44 (0, 0)) ∧ w.heap.size ≤ gz) ∧ (b 7 = true → (m7_ : Value) = .slice (some ⟨gz, 0, none⟩) 1 1) ∧ (b 8 = true → (m8_ : Value) = .slice (some ⟨gz, 0, none⟩) 1 1)) HT_.out HW_.out (by kernel_rfl) (by kernel_rfl) ?_ ?_ ?_
        · exact ⟨0, .bool false, .bool false, by simp only [putSel, Bool.false_eq_true, if_false], below_drew1 HB.out, BK2.out, BK3.out, fun h_ => absurd h_ (by decide), fun h_ => absurd h_ (by decide), fun h_ => absurd h_ (by decide)⟩
        · skip
          clear BK2 BK3 HB
          refine steps_cons ?_ ?_
          · rintro b a w' ⟨gz, m7_, m8_, ha, Q_HB, Q_BK2, Q_BK3, Q_BZ, Q_X7_, Q_X8_⟩ hb_ hon hoff
            refine ⟨_, rfl, fun K hK => ?_⟩
            have e2 : a.tmps[2]? = some (.pointer (some ⟨g2, 0, none⟩)) := by rw [ha]; exact (putSel_off rfl).trans rfl
            replace ha := Aside0.mk ha
            have HB := Aside0.mk Q_HB
            have BK2 := Aside0.mk Q_BK2
            have BK3 := Aside0.mk Q_BK3
            refine value_ (w1 := w') (v := .pointer (some ⟨g2, 0, none⟩)) (by rfl) rfl ?_ ?_
            · go_simp
              (try simp only [i64_w])
              try rfl
            refine hK.out _ _ ⟨gz, m7_, m8_, (by rw [ha.out]; exact putSel_upk 0 hb_ rfl rfl rfl), Q_HB, Q_BK2, Q_BK3, fun h0_ => absurd ((hoff 7 (by kernel_rfl)).symm.trans h0_) (by decide), fun h0_ => absurd ((hoff 7 (by kernel_rfl)).symm.trans h0_) (by decide), fun h0_ => absurd ((hoff 8 (by kernel_rfl)).symm.trans h0_) (by decide)⟩
          refine steps_cons ?_ ?_
          · rintro b a w' ⟨gz, m7_, m8_, ha, Q_HB, Q_BK2, Q_BK3, Q_BZ, Q_X7_, Q_X8_⟩ hb_ hon hoff
            refine ⟨_, rfl, fun K hK => ?_⟩
            have e33 : a.tmps[33]? = some (.pointer (some ⟨g2, 0, none⟩)) := by rw [ha]; exact putSel_on (e := (0, 33, .pointer (some ⟨g2, 0, none⟩))) 0 rfl rfl (hon 0 (by kernel_rfl)) rfl
            replace ha := Aside0.mk ha
            have HB := Aside0.mk Q_HB
            have BK2 := Aside0.mk Q_BK2
            have BK3 := Aside0.mk Q_BK3
            have hc0 : w'.cell? ⟨g2, 0, none⟩ = some (.int .i64 pa) := (blk_cell BK2.out 0).trans rfl
            refine value_ (w1 := w') (v := .int .i64 pa) (by rfl) rfl ?_ ?_
            · go_simp
              (try simp only [i64_w])
              try rfl
            refine hK.out _ _ ⟨gz, m7_, m8_, (by rw [ha.out]; exact putSel_upk 1 hb_ rfl rfl rfl), Q_HB, Q_BK2, Q_BK3, fun h0_ => absurd ((hoff 7 (by kernel_rfl)).symm.trans h0_) (by decide), fun h0_ => absurd ((hoff 7 (by kernel_rfl)).symm.trans h0_) (by decide), fun h0_ => absurd ((hoff 8 (by kernel_rfl)).symm.trans h0_) (by decide)⟩
          refine steps_cons ?_ ?_
          · rintro b a w' ⟨gz, m7_, m8_, ha, Q_HB, Q_BK2, Q_BK3, Q_BZ, Q_X7_, Q_X8_⟩ hb_ hon hoff
            refine ⟨_, rfl, fun K hK => ?_⟩
            have e2 : a.tmps[2]? = some (.pointer (some ⟨g2, 0, none⟩)) := by rw [ha]; exact (putSel_off rfl).trans rfl
            replace ha := Aside0.mk ha
            have HB := Aside0.mk Q_HB
            have BK2 := Aside0.mk Q_BK2
            have BK3 := Aside0.mk Q_BK3
            have hg2_0 : w'.cell? ⟨g2, 0, none⟩ = some (.int .i64 pa) := (blk_cell BK2.out 0).trans rfl
            have hg2_1 : w'.cell? ⟨g2, 1, none⟩ = some (.int .i64 pr) := (blk_cell BK2.out 1).trans rfl
            have hg2_2 : w'.cell? ⟨g2, 2, none⟩ = some (.int .i64 ps) := (blk_cell BK2.out 2).trans rfl
            have hg2_3 : w'.cell? ⟨g2, 3, none⟩ = some (.int .i64 pw) := (blk_cell BK2.out 3).trans rfl
            have hg2_4 : w'.cell? ⟨g2, 4, none⟩ = some (.slice pA pm pc) := (blk_cell BK2.out 4).trans rfl
            have hg2_5 : w'.cell? ⟨g2, 5, none⟩ = some (.slice pB pn pd) := (blk_cell BK2.out 5).trans rfl
            refine value_ (w1 := w') (v := .agg #[.int .i64 pa, .int .i64 pr, .int .i64 ps, .int .i64 pw, .slice pA pm pc, .slice pB pn pd]) (by rfl) rfl ?_ ?_
            · go_simp
              (try simp only [i64_w])
              try rfl
            refine hK.out _ _ ⟨gz, m7_, m8_, (by rw [ha.out]; exact putSel_upk 2 hb_ rfl rfl rfl), Q_HB, Q_BK2, Q_BK3, fun h0_ => absurd ((hoff 7 (by kernel_rfl)).symm.trans h0_) (by decide), fun h0_ => absurd ((hoff 7 (by kernel_rfl)).symm.trans h0_) (by decide), fun h0_ => absurd ((hoff 8 (by kernel_rfl)).symm.trans h0_) (by decide)⟩
          refine steps_cons ?_ ?_
          · rintro b a w' ⟨gz, m7_, m8_, ha, Q_HB, Q_BK2, Q_BK3, Q_BZ, Q_X7_, Q_X8_⟩ hb_ hon hoff
            refine ⟨_, rfl, fun K hK => ?_⟩
            have e35 : a.tmps[35]? = some (.agg #[.int .i64 pa, .int .i64 pr, .int .i64 ps, .int .i64 pw, .slice pA pm pc, .slice pB pn pd]) := by rw [ha]; exact putSel_on (e := (2, 35, .agg #[.int .i64 pa, .int .i64 pr, .int .i64 ps, .int .i64 pw, .slice pA pm pc, .slice pB pn pd])) 2 rfl rfl (hon 2 (by kernel_rfl)) rfl
            replace ha := Aside0.mk ha
            have HB := Aside0.mk Q_HB
            have BK2 := Aside0.mk Q_BK2
            have BK3 := Aside0.mk Q_BK3
            refine goes_ Try.func35 (by kernel_rfl) rfl #[.agg #[.int .i64 pa, .int .i64 pr, .int .i64 ps, .int .i64 pw, .slice pA pm pc, .slice pB pn pd]] (by rfl) rfl rfl (by first | (simp only [List.map_toArray, List.map_cons, List.map_nil, Act.eval, Array.getD_eq_getD_getElem?, Option.getD_some, e35]; done) | (simp only [List.map_toArray, List.map_cons, List.map_nil, Act.eval, Array.getD_eq_getD_getElem?, Option.getD_some, e35]; rfl)) ?_
            with_reducible refine (words_calls _ pa pr ps pw pA pm pc pB pn pd).mono ?_
            rintro e w3 ⟨rfl, hb⟩
            refine ⟨_, rfl, ?_⟩
            refine hK.out _ _ ⟨gz, m7_, m8_, (by rw [ha.out]; exact putSel_upk 3 hb_ rfl rfl rfl), (below_step HB.out hb), (blk_below BK2.out hb), (blk_below BK3.out hb), fun h0_ => absurd ((hoff 7 (by kernel_rfl)).symm.trans h0_) (by decide), fun h0_ => absurd ((hoff 7 (by kernel_rfl)).symm.trans h0_) (by decide), fun h0_ => absurd ((hoff 8 (by kernel_rfl)).symm.trans h0_) (by decide)⟩
          refine steps_cons ?_ ?_
          · rintro b a w' ⟨gz, m7_, m8_, ha, Q_HB, Q_BK2, Q_BK3, Q_BZ, Q_X7_, Q_X8_⟩ hb_ hon hoff
            refine ⟨_, rfl, fun K hK => ?_⟩
            have e3 : a.tmps[3]? = some (.pointer (some ⟨g3, 0, none⟩)) := by rw [ha]; exact (putSel_off rfl).trans rfl
            replace ha := Aside0.mk ha
            have HB := Aside0.mk Q_HB
            have BK2 := Aside0.mk Q_BK2
            have BK3 := Aside0.mk Q_BK3
            have hg3_0 : w'.cell? ⟨g3, 0, none⟩ = some (.int .i64 qa) := (blk_cell BK3.out 0).trans rfl
            have hg3_1 : w'.cell? ⟨g3, 1, none⟩ = some (.int .i64 qr) := (blk_cell BK3.out 1).trans rfl
            have hg3_2 : w'.cell? ⟨g3, 2, none⟩ = some (.int .i64 qs) := (blk_cell BK3.out 2).trans rfl
            have hg3_3 : w'.cell? ⟨g3, 3, none⟩ = some (.int .i64 qw) := (blk_cell BK3.out 3).trans rfl
            have hg3_4 : w'.cell? ⟨g3, 4, none⟩ = some (.slice qA qm qc) := (blk_cell BK3.out 4).trans rfl
            have hg3_5 : w'.cell? ⟨g3, 5, none⟩ = some (.slice qB qn qd) := (blk_cell BK3.out 5).trans rfl
            refine value_ (w1 := w') (v := .agg #[.int .i64 qa, .int .i64 qr, .int .i64 qs, .int .i64 qw, .slice qA qm qc, .slice qB qn qd]) (by rfl) rfl ?_ ?_
            · go_simp
              (try simp only [i64_w])
              try rfl
            refine hK.out _ _ ⟨gz, m7_, m8_, (by rw [ha.out]; exact putSel_upk 4 hb_ rfl rfl rfl), Q_HB, Q_BK2, Q_BK3, fun h0_ => absurd ((hoff 7 (by kernel_rfl)).symm.trans h0_) (by decide), fun h0_ => absurd ((hoff 7 (by kernel_rfl)).symm.trans h0_) (by decide), fun h0_ => absurd ((hoff 8 (by kernel_rfl)).symm.trans h0_) (by decide)⟩
          refine steps_cons ?_ ?_
          · rintro b a w' ⟨gz, m7_, m8_, ha, Q_HB, Q_BK2, Q_BK3, Q_BZ, Q_X7_, Q_X8_⟩ hb_ hon hoff
            refine ⟨_, rfl, fun K hK => ?_⟩
            have e37 : a.tmps[37]? = some (.agg #[.int .i64 qa, .int .i64 qr, .int .i64 qs, .int .i64 qw, .slice qA qm qc, .slice qB qn qd]) := by rw [ha]; exact putSel_on (e := (4, 37, .agg #[.int .i64 qa, .int .i64 qr, .int .i64 qs, .int .i64 qw, .slice qA qm qc, .slice qB qn qd])) 4 rfl rfl (hon 4 (by kernel_rfl)) rfl
            replace ha := Aside0.mk ha
            have HB := Aside0.mk Q_HB
            have BK2 := Aside0.mk Q_BK2
            have BK3 := Aside0.mk Q_BK3
            refine goes_ Try.func35 (by kernel_rfl) rfl #[.agg #[.int .i64 qa, .int .i64 qr, .int .i64 qs, .int .i64 qw, .slice qA qm qc, .slice qB qn qd]] (by rfl) rfl rfl (by first | (simp only [List.map_toArray, List.map_cons, List.map_nil, Act.eval, Array.getD_eq_getD_getElem?, Option.getD_some, e37]; done) | (simp only [List.map_toArray, List.map_cons, List.map_nil, Act.eval, Array.getD_eq_getD_getElem?, Option.getD_some, e37]; rfl)) ?_
            with_reducible refine (words_calls _ qa qr qs qw qA qm qc qB qn qd).mono ?_
            rintro e w3 ⟨rfl, hb⟩
            refine ⟨_, rfl, ?_⟩
            refine hK.out _ _ ⟨gz, m7_, m8_, (by rw [ha.out]; exact putSel_upk 5 hb_ rfl rfl rfl), (below_step HB.out hb), (blk_below BK2.out hb), (blk_below BK3.out hb), fun h0_ => absurd ((hoff 7 (by kernel_rfl)).symm.trans h0_) (by decide), fun h0_ => absurd ((hoff 7 (by kernel_rfl)).symm.trans h0_) (by decide), fun h0_ => absurd ((hoff 8 (by kernel_rfl)).symm.trans h0_) (by decide)⟩
          refine steps_cons ?_ ?_
          · rintro b a w' ⟨gz, m7_, m8_, ha, Q_HB, Q_BK2, Q_BK3, Q_BZ, Q_X7_, Q_X8_⟩ hb_ hon hoff
            refine ⟨_, rfl, fun K hK => ?_⟩
            have e34 : a.tmps[34]? = some (.int .i64 pa) := by rw [ha]; exact putSel_on (e := (1, 34, .int .i64 pa)) 1 rfl rfl (hon 1 (by kernel_rfl)) rfl
            have e36 : a.tmps[36]? = some (.int .u64 (u64 pw)) := by rw [ha]; exact putSel_on (e := (3, 36, .int .u64 (u64 pw))) 3 rfl rfl (hon 3 (by kernel_rfl)) rfl
            have e38 : a.tmps[38]? = some (.int .u64 (u64 qw)) := by rw [ha]; exact putSel_on (e := (5, 38, .int .u64 (u64 qw))) 5 rfl rfl (hon 5 (by kernel_rfl)) rfl
            replace ha := Aside0.mk ha
            have HB := Aside0.mk Q_HB
            have BK2 := Aside0.mk Q_BK2
            have BK3 := Aside0.mk Q_BK3
            refine value_ (w1 := w') (v := .agg #[.int .i64 3, .int .i64 pa, .int .i64 0, .int .u64 (u64 pw), .int .u64 (u64 qw)]) (by rfl) rfl ?_ ?_
            · go_simp
              (try simp only [i64_w])
              try rfl
            refine hK.out _ _ ⟨gz, m7_, m8_, (by rw [ha.out]; exact putSel_upk 6 hb_ rfl rfl rfl), Q_HB, Q_BK2, Q_BK3, fun h0_ => absurd ((hoff 7 (by kernel_rfl)).symm.trans h0_) (by decide), fun h0_ => absurd ((hoff 7 (by kernel_rfl)).symm.trans h0_) (by decide), fun h0_ => absurd ((hoff 8 (by kernel_rfl)).symm.trans h0_) (by decide)⟩
          refine steps_cons ?_ ?_
          · rintro b a w' ⟨gz, m7_, m8_, ha, Q_HB, Q_BK2, Q_BK3, Q_BZ, Q_X7_, Q_X8_⟩ hb_ hon hoff
            refine ⟨_, rfl, fun K hK => ?_⟩
            have e39 : a.tmps[39]? = some (.agg #[.int .i64 3, .int .i64 pa, .int .i64 0, .int .u64 (u64 pw), .int .u64 (u64 qw)]) := by rw [ha]; exact putSel_on (e := (6, 39, .agg #[.int .i64 3, .int .i64 pa, .int .i64 0, .int .u64 (u64 pw), .int .u64 (u64 qw)])) 6 rfl rfl (hon 6 (by kernel_rfl)) rfl
            replace ha := Aside0.mk ha
            have HB := Aside0.mk Q_HB
            have BK2 := Aside0.mk Q_BK2
            have BK3 := Aside0.mk Q_BK3
            refine value_ (w1 := ?_) (v := ?_) (by rfl) rfl ?_ ?_
            rotate_left 2
            · go_simp
              constructor
              · rfl
              · rfl
            have hb := below_alloc (Below.refl w'.heap.size w') (.cells #[.int .i64 3, .int .i64 pa, .int .i64 0, .int .u64 (u64 pw), .int .u64 (u64 qw)] 44)
            refine hK.out _ _ ⟨w'.heap.size, (.slice (some ⟨w'.heap.size, 0, none⟩) 1 1), m8_, (by rw [ha.out]; exact putSel_upk 7 hb_ rfl rfl rfl), (below_step HB.out hb), (blk_below BK2.out hb), (blk_below BK3.out hb), fun _ => ⟨blk_new w' (.cells #[.int .i64 3, .int .i64 pa, .int .i64 0, .int .u64 (u64 pw), .int .u64 (u64 qw)] 44), below_size HB.out⟩, fun _ => rfl, fun h0_ => absurd ((hoff 8 (by kernel_rfl)).symm.trans h0_) (by decide)⟩
          refine steps_cons ?_ ?_
          · rintro b a w' ⟨gz, m7_, m8_, ha, Q_HB, Q_BK2, Q_BK3, Q_BZ, Q_X7_, Q_X8_⟩ hb_ hon hoff
            refine ⟨_, rfl, fun K hK => ?_⟩
            have e40 : a.tmps[40]? = some (m7_) := by rw [ha]; exact putSel_on (e := (7, 40, m7_)) 7 rfl rfl (hon 7 (by kernel_rfl)) rfl
            rw [Q_X7_ (hon 7 (by kernel_rfl))] at e40
            replace ha := Aside0.mk ha
            have HB := Aside0.mk Q_HB
            have BK2 := Aside0.mk Q_BK2
            have BK3 := Aside0.mk Q_BK3
            have BZ := Aside0.mk (Q_BZ (hon 7 (by kernel_rfl)))
            refine value_ (w1 := w') (v := .slice (some ⟨gz, 0, none⟩) 1 1) (by rfl) rfl ?_ ?_
            · go_simp
              (try simp only [i64_w])
              try rfl
            refine hK.out _ _ ⟨gz, m7_, (.slice (some ⟨gz, 0, none⟩) 1 1), (by rw [ha.out]; exact putSel_upk 8 hb_ rfl rfl rfl), Q_HB, Q_BK2, Q_BK3, Q_BZ, Q_X7_, fun _ => rfl⟩
          exact steps_nil
        rintro b a wz hall ⟨gz, m7_, m8_, ha, Q_HB, Q_BK2, Q_BK3, Q_BZ, Q_X7_, Q_X8_⟩
        clear BK2 BK3 HB
        have hb0_ := hall 0 (by kernel_rfl)
        have hb1_ := hall 1 (by kernel_rfl)
        have hb2_ := hall 2 (by kernel_rfl)
        have hb3_ := hall 3 (by kernel_rfl)
        have hb4_ := hall 4 (by kernel_rfl)
        have hb5_ := hall 5 (by kernel_rfl)
        have hb6_ := hall 6 (by kernel_rfl)
        have hb7_ := hall 7 (by kernel_rfl)
        have hb8_ := hall 8 (by kernel_rfl)
        subst ha
        obtain rfl := Q_X7_ hb7_
        obtain rfl := Q_X8_ hb8_
        simp only [putSel, hb0_, hb1_, hb2_, hb3_, hb4_, hb5_, hb6_, hb7_, hb8_, if_true, Act.put, List.setIfInBounds_toArray, List.set_cons_zero, List.set_cons_succ]
        have HB := Aside0.mk Q_HB
        clear Q_HB
        have BK2 := Aside0.mk Q_BK2
        clear Q_BK2
        have BK3 := Aside0.mk Q_BK3
        clear Q_BK3
        have BZ := Aside0.mk (Q_BZ hb7_)
        clear Q_BZ
        clear hall hb0_ hb1_ hb2_ hb3_ hb4_ hb5_ hb6_ hb7_ hb8_
        go_wp2
        go_ret
        exact ⟨_, rfl, row_one BZ.out.1 BZ.out.2, HB.out⟩
      · have d2 : (pw != qw) = true := by simp; exact h2
        clear h1 h2 hdif
        skip
        go_upto_region 2 with fail
        refine start_ (n := 9) (S := fun w' => True) (ds := []) #[false, false, false, false, false, false, false, false, false] (by kernel_rfl) rfl rfl trivial (fun hHeld => ?_)
        refine with_tabW i2.tab2 i2.bits2 (fun HT_ HW_ => ?_)
        refine inv_at [0, 1, 2, 3, 4, 5, 6, 7, 8] (fun a0_ b a w' => ∃ (gz : Nat) (m7_ : Value) (m8_ : Value), a = putSel a0_ b [(0, 33, .pointer (some ⟨g2, 0, none⟩)), (1, 34, .int .i64 pa), (2, 35, .agg #[.int .i64 pa, .int .i64 pr, .int .i64 ps, .int .i64 pw, .slice pA pm pc, .slice pB pn pd]), (3, 36, .int .u64 (u64 pw)), (4, 37, .agg #[.int .i64 qa, .int .i64 qr, .int .i64 qs, .int .i64 qw, .slice qA qm qc, .slice qB qn qd]), (5, 38, .int .u64 (u64 qw)), (6, 39, .agg #[.int .i64 3, .int .i64 pa, .int .i64 0, .int .u64 (u64 pw), .int .u64 (u64 qw)]), (7, 40, m7_), (8, 4, m8_)] ∧ (Below w.heap.size w w') ∧ (w'.heap[g2]? = some (.cells #[.int .i64 pa, .int .i64 pr, .int .i64 ps, .int .i64 pw, .slice pA pm pc, .slice pB pn pd] 40 (0, 0))) ∧ (w'.heap[g3]? = some (.cells #[.int .i64 qa, .int .i64 qr, .int .i64 qs, .int .i64 qw, .slice qA qm qc, .slice qB qn qd] 40 (0, 0))) ∧ (b 7 = true → w'.heap[gz]? = some (.cells #[.int .i64 3, .int .i64 pa, .int .i64 0, .int .u64 (u64 pw), .int .u64 (u64 qw)] 44 (0, 0)) ∧ w.heap.size ≤ gz) ∧ (b 7 = true → (m7_ : Value) = .slice (some ⟨gz, 0, none⟩) 1 1) ∧ (b 8 = true → (m8_ : Value) = .slice (some ⟨gz, 0, none⟩) 1 1)) HT_.out HW_.out (by kernel_rfl) (by kernel_rfl) ?_ ?_ ?_
        · exact ⟨0, .bool false, .bool false, by simp only [putSel, Bool.false_eq_true, if_false], below_drew1 HB.out, BK2.out, BK3.out, fun h_ => absurd h_ (by decide), fun h_ => absurd h_ (by decide), fun h_ => absurd h_ (by decide)⟩
        · skip
          clear BK2 BK3 HB
          refine steps_cons ?_ ?_
          · rintro b a w' ⟨gz, m7_, m8_, ha, Q_HB, Q_BK2, Q_BK3, Q_BZ, Q_X7_, Q_X8_⟩ hb_ hon hoff
            refine ⟨_, rfl, fun K hK => ?_⟩
            have e2 : a.tmps[2]? = some (.pointer (some ⟨g2, 0, none⟩)) := by rw [ha]; exact (putSel_off rfl).trans rfl
            replace ha := Aside0.mk ha
            have HB := Aside0.mk Q_HB
            have BK2 := Aside0.mk Q_BK2
            have BK3 := Aside0.mk Q_BK3
            refine value_ (w1 := w') (v := .pointer (some ⟨g2, 0, none⟩)) (by rfl) rfl ?_ ?_
            · go_simp
              (try simp only [i64_w])
              try rfl
            refine hK.out _ _ ⟨gz, m7_, m8_, (by rw [ha.out]; exact putSel_upk 0 hb_ rfl rfl rfl), Q_HB, Q_BK2, Q_BK3, fun h0_ => absurd ((hoff 7 (by kernel_rfl)).symm.trans h0_) (by decide), fun h0_ => absurd ((hoff 7 (by kernel_rfl)).symm.trans h0_) (by decide), fun h0_ => absurd ((hoff 8 (by kernel_rfl)).symm.trans h0_) (by decide)⟩
          refine steps_cons ?_ ?_
          · rintro b a w' ⟨gz, m7_, m8_, ha, Q_HB, Q_BK2, Q_BK3, Q_BZ, Q_X7_, Q_X8_⟩ hb_ hon hoff
            refine ⟨_, rfl, fun K hK => ?_⟩
            have e33 : a.tmps[33]? = some (.pointer (some ⟨g2, 0, none⟩)) := by rw [ha]; exact putSel_on (e := (0, 33, .pointer (some ⟨g2, 0, none⟩))) 0 rfl rfl (hon 0 (by kernel_rfl)) rfl
            replace ha := Aside0.mk ha
            have HB := Aside0.mk Q_HB
            have BK2 := Aside0.mk Q_BK2
            have BK3 := Aside0.mk Q_BK3
            have hc0 : w'.cell? ⟨g2, 0, none⟩ = some (.int .i64 pa) := (blk_cell BK2.out 0).trans rfl
            refine value_ (w1 := w') (v := .int .i64 pa) (by rfl) rfl ?_ ?_
            · go_simp
              (try simp only [i64_w])
              try rfl
            refine hK.out _ _ ⟨gz, m7_, m8_, (by rw [ha.out]; exact putSel_upk 1 hb_ rfl rfl rfl), Q_HB, Q_BK2, Q_BK3, fun h0_ => absurd ((hoff 7 (by kernel_rfl)).symm.trans h0_) (by decide), fun h0_ => absurd ((hoff 7 (by kernel_rfl)).symm.trans h0_) (by decide), fun h0_ => absurd ((hoff 8 (by kernel_rfl)).symm.trans h0_) (by decide)⟩
          refine steps_cons ?_ ?_
          · rintro b a w' ⟨gz, m7_, m8_, ha, Q_HB, Q_BK2, Q_BK3, Q_BZ, Q_X7_, Q_X8_⟩ hb_ hon hoff
            refine ⟨_, rfl, fun K hK => ?_⟩
            have e2 : a.tmps[2]? = some (.pointer (some ⟨g2, 0, none⟩)) := by rw [ha]; exact (putSel_off rfl).trans rfl
            replace ha := Aside0.mk ha
            have HB := Aside0.mk Q_HB
            have BK2 := Aside0.mk Q_BK2
            have BK3 := Aside0.mk Q_BK3
            have hg2_0 : w'.cell? ⟨g2, 0, none⟩ = some (.int .i64 pa) := (blk_cell BK2.out 0).trans rfl
            have hg2_1 : w'.cell? ⟨g2, 1, none⟩ = some (.int .i64 pr) := (blk_cell BK2.out 1).trans rfl
            have hg2_2 : w'.cell? ⟨g2, 2, none⟩ = some (.int .i64 ps) := (blk_cell BK2.out 2).trans rfl
            have hg2_3 : w'.cell? ⟨g2, 3, none⟩ = some (.int .i64 pw) := (blk_cell BK2.out 3).trans rfl
            have hg2_4 : w'.cell? ⟨g2, 4, none⟩ = some (.slice pA pm pc) := (blk_cell BK2.out 4).trans rfl
            have hg2_5 : w'.cell? ⟨g2, 5, none⟩ = some (.slice pB pn pd) := (blk_cell BK2.out 5).trans rfl
            refine value_ (w1 := w') (v := .agg #[.int .i64 pa, .int .i64 pr, .int .i64 ps, .int .i64 pw, .slice pA pm pc, .slice pB pn pd]) (by rfl) rfl ?_ ?_
            · go_simp
              (try simp only [i64_w])
              try rfl
            refine hK.out _ _ ⟨gz, m7_, m8_, (by rw [ha.out]; exact putSel_upk 2 hb_ rfl rfl rfl), Q_HB, Q_BK2, Q_BK3, fun h0_ => absurd ((hoff 7 (by kernel_rfl)).symm.trans h0_) (by decide), fun h0_ => absurd ((hoff 7 (by kernel_rfl)).symm.trans h0_) (by decide), fun h0_ => absurd ((hoff 8 (by kernel_rfl)).symm.trans h0_) (by decide)⟩
          refine steps_cons ?_ ?_
          · rintro b a w' ⟨gz, m7_, m8_, ha, Q_HB, Q_BK2, Q_BK3, Q_BZ, Q_X7_, Q_X8_⟩ hb_ hon hoff
            refine ⟨_, rfl, fun K hK => ?_⟩
            have e35 : a.tmps[35]? = some (.agg #[.int .i64 pa, .int .i64 pr, .int .i64 ps, .int .i64 pw, .slice pA pm pc, .slice pB pn pd]) := by rw [ha]; exact putSel_on (e := (2, 35, .agg #[.int .i64 pa, .int .i64 pr, .int .i64 ps, .int .i64 pw, .slice pA pm pc, .slice pB pn pd])) 2 rfl rfl (hon 2 (by kernel_rfl)) rfl
            replace ha := Aside0.mk ha
            have HB := Aside0.mk Q_HB
            have BK2 := Aside0.mk Q_BK2
            have BK3 := Aside0.mk Q_BK3
            refine goes_ Try.func35 (by kernel_rfl) rfl #[.agg #[.int .i64 pa, .int .i64 pr, .int .i64 ps, .int .i64 pw, .slice pA pm pc, .slice pB pn pd]] (by rfl) rfl rfl (by first | (simp only [List.map_toArray, List.map_cons, List.map_nil, Act.eval, Array.getD_eq_getD_getElem?, Option.getD_some, e35]; done) | (simp only [List.map_toArray, List.map_cons, List.map_nil, Act.eval, Array.getD_eq_getD_getElem?, Option.getD_some, e35]; rfl)) ?_
            with_reducible refine (words_calls _ pa pr ps pw pA pm pc pB pn pd).mono ?_
            rintro e w3 ⟨rfl, hb⟩
            refine ⟨_, rfl, ?_⟩
            refine hK.out _ _ ⟨gz, m7_, m8_, (by rw [ha.out]; exact putSel_upk 3 hb_ rfl rfl rfl), (below_step HB.out hb), (blk_below BK2.out hb), (blk_below BK3.out hb), fun h0_ => absurd ((hoff 7 (by kernel_rfl)).symm.trans h0_) (by decide), fun h0_ => absurd ((hoff 7 (by kernel_rfl)).symm.trans h0_) (by decide), fun h0_ => absurd ((hoff 8 (by kernel_rfl)).symm.trans h0_) (by decide)⟩
          refine steps_cons ?_ ?_
          · rintro b a w' ⟨gz, m7_, m8_, ha, Q_HB, Q_BK2, Q_BK3, Q_BZ, Q_X7_, Q_X8_⟩ hb_ hon hoff
            refine ⟨_, rfl, fun K hK => ?_⟩
            have e3 : a.tmps[3]? = some (.pointer (some ⟨g3, 0, none⟩)) := by rw [ha]; exact (putSel_off rfl).trans rfl
            replace ha := Aside0.mk ha
            have HB := Aside0.mk Q_HB
            have BK2 := Aside0.mk Q_BK2
            have BK3 := Aside0.mk Q_BK3
            have hg3_0 : w'.cell? ⟨g3, 0, none⟩ = some (.int .i64 qa) := (blk_cell BK3.out 0).trans rfl
            have hg3_1 : w'.cell? ⟨g3, 1, none⟩ = some (.int .i64 qr) := (blk_cell BK3.out 1).trans rfl
            have hg3_2 : w'.cell? ⟨g3, 2, none⟩ = some (.int .i64 qs) := (blk_cell BK3.out 2).trans rfl
            have hg3_3 : w'.cell? ⟨g3, 3, none⟩ = some (.int .i64 qw) := (blk_cell BK3.out 3).trans rfl
            have hg3_4 : w'.cell? ⟨g3, 4, none⟩ = some (.slice qA qm qc) := (blk_cell BK3.out 4).trans rfl
            have hg3_5 : w'.cell? ⟨g3, 5, none⟩ = some (.slice qB qn qd) := (blk_cell BK3.out 5).trans rfl
            refine value_ (w1 := w') (v := .agg #[.int .i64 qa, .int .i64 qr, .int .i64 qs, .int .i64 qw, .slice qA qm qc, .slice qB qn qd]) (by rfl) rfl ?_ ?_
            · go_simp
              (try simp only [i64_w])
              try rfl
            refine hK.out _ _ ⟨gz, m7_, m8_, (by rw [ha.out]; exact putSel_upk 4 hb_ rfl rfl rfl), Q_HB, Q_BK2, Q_BK3, fun h0_ => absurd ((hoff 7 (by kernel_rfl)).symm.trans h0_) (by decide), fun h0_ => absurd ((hoff 7 (by kernel_rfl)).symm.trans h0_) (by decide), fun h0_ => absurd ((hoff 8 (by kernel_rfl)).symm.trans h0_) (by decide)⟩
          refine steps_cons ?_ ?_
          · rintro b a w' ⟨gz, m7_, m8_, ha, Q_HB, Q_BK2, Q_BK3, Q_BZ, Q_X7_, Q_X8_⟩ hb_ hon hoff
            refine ⟨_, rfl, fun K hK => ?_⟩
            have e37 : a.tmps[37]? = some (.agg #[.int .i64 qa, .int .i64 qr, .int .i64 qs, .int .i64 qw, .slice qA qm qc, .slice qB qn qd]) := by rw [ha]; exact putSel_on (e := (4, 37, .agg #[.int .i64 qa, .int .i64 qr, .int .i64 qs, .int .i64 qw, .slice qA qm qc, .slice qB qn qd])) 4 rfl rfl (hon 4 (by kernel_rfl)) rfl
            replace ha := Aside0.mk ha
            have HB := Aside0.mk Q_HB
            have BK2 := Aside0.mk Q_BK2
            have BK3 := Aside0.mk Q_BK3
            refine goes_ Try.func35 (by kernel_rfl) rfl #[.agg #[.int .i64 qa, .int .i64 qr, .int .i64 qs, .int .i64 qw, .slice qA qm qc, .slice qB qn qd]] (by rfl) rfl rfl (by first | (simp only [List.map_toArray, List.map_cons, List.map_nil, Act.eval, Array.getD_eq_getD_getElem?, Option.getD_some, e37]; done) | (simp only [List.map_toArray, List.map_cons, List.map_nil, Act.eval, Array.getD_eq_getD_getElem?, Option.getD_some, e37]; rfl)) ?_
            with_reducible refine (words_calls _ qa qr qs qw qA qm qc qB qn qd).mono ?_
            rintro e w3 ⟨rfl, hb⟩
            refine ⟨_, rfl, ?_⟩
            refine hK.out _ _ ⟨gz, m7_, m8_, (by rw [ha.out]; exact putSel_upk 5 hb_ rfl rfl rfl), (below_step HB.out hb), (blk_below BK2.out hb), (blk_below BK3.out hb), fun h0_ => absurd ((hoff 7 (by kernel_rfl)).symm.trans h0_) (by decide), fun h0_ => absurd ((hoff 7 (by kernel_rfl)).symm.trans h0_) (by decide), fun h0_ => absurd ((hoff 8 (by kernel_rfl)).symm.trans h0_) (by decide)⟩
          refine steps_cons ?_ ?_
          · rintro b a w' ⟨gz, m7_, m8_, ha, Q_HB, Q_BK2, Q_BK3, Q_BZ, Q_X7_, Q_X8_⟩ hb_ hon hoff
            refine ⟨_, rfl, fun K hK => ?_⟩
            have e34 : a.tmps[34]? = some (.int .i64 pa) := by rw [ha]; exact putSel_on (e := (1, 34, .int .i64 pa)) 1 rfl rfl (hon 1 (by kernel_rfl)) rfl
            have e36 : a.tmps[36]? = some (.int .u64 (u64 pw)) := by rw [ha]; exact putSel_on (e := (3, 36, .int .u64 (u64 pw))) 3 rfl rfl (hon 3 (by kernel_rfl)) rfl
            have e38 : a.tmps[38]? = some (.int .u64 (u64 qw)) := by rw [ha]; exact putSel_on (e := (5, 38, .int .u64 (u64 qw))) 5 rfl rfl (hon 5 (by kernel_rfl)) rfl
            replace ha := Aside0.mk ha
            have HB := Aside0.mk Q_HB
            have BK2 := Aside0.mk Q_BK2
            have BK3 := Aside0.mk Q_BK3
            refine value_ (w1 := w') (v := .agg #[.int .i64 3, .int .i64 pa, .int .i64 0, .int .u64 (u64 pw), .int .u64 (u64 qw)]) (by rfl) rfl ?_ ?_
            · go_simp
              (try simp only [i64_w])
              try rfl
            refine hK.out _ _ ⟨gz, m7_, m8_, (by rw [ha.out]; exact putSel_upk 6 hb_ rfl rfl rfl), Q_HB, Q_BK2, Q_BK3, fun h0_ => absurd ((hoff 7 (by kernel_rfl)).symm.trans h0_) (by decide), fun h0_ => absurd ((hoff 7 (by kernel_rfl)).symm.trans h0_) (by decide), fun h0_ => absurd ((hoff 8 (by kernel_rfl)).symm.trans h0_) (by decide)⟩
          refine steps_cons ?_ ?_
          · rintro b a w' ⟨gz, m7_, m8_, ha, Q_HB, Q_BK2, Q_BK3, Q_BZ, Q_X7_, Q_X8_⟩ hb_ hon hoff
            refine ⟨_, rfl, fun K hK => ?_⟩
            have e39 : a.tmps[39]? = some (.agg #[.int .i64 3, .int .i64 pa, .int .i64 0, .int .u64 (u64 pw), .int .u64 (u64 qw)]) := by rw [ha]; exact putSel_on (e := (6, 39, .agg #[.int .i64 3, .int .i64 pa, .int .i64 0, .int .u64 (u64 pw), .int .u64 (u64 qw)])) 6 rfl rfl (hon 6 (by kernel_rfl)) rfl
            replace ha := Aside0.mk ha
            have HB := Aside0.mk Q_HB
            have BK2 := Aside0.mk Q_BK2
            have BK3 := Aside0.mk Q_BK3
            refine value_ (w1 := ?_) (v := ?_) (by rfl) rfl ?_ ?_
            rotate_left 2
            · go_simp
              constructor
              · rfl
              · rfl
            have hb := below_alloc (Below.refl w'.heap.size w') (.cells #[.int .i64 3, .int .i64 pa, .int .i64 0, .int .u64 (u64 pw), .int .u64 (u64 qw)] 44)
            refine hK.out _ _ ⟨w'.heap.size, (.slice (some ⟨w'.heap.size, 0, none⟩) 1 1), m8_, (by rw [ha.out]; exact putSel_upk 7 hb_ rfl rfl rfl), (below_step HB.out hb), (blk_below BK2.out hb), (blk_below BK3.out hb), fun _ => ⟨blk_new w' (.cells #[.int .i64 3, .int .i64 pa, .int .i64 0, .int .u64 (u64 pw), .int .u64 (u64 qw)] 44), below_size HB.out⟩, fun _ => rfl, fun h0_ => absurd ((hoff 8 (by kernel_rfl)).symm.trans h0_) (by decide)⟩
          refine steps_cons ?_ ?_
          · rintro b a w' ⟨gz, m7_, m8_, ha, Q_HB, Q_BK2, Q_BK3, Q_BZ, Q_X7_, Q_X8_⟩ hb_ hon hoff
            refine ⟨_, rfl, fun K hK => ?_⟩
            have e40 : a.tmps[40]? = some (m7_) := by rw [ha]; exact putSel_on (e := (7, 40, m7_)) 7 rfl rfl (hon 7 (by kernel_rfl)) rfl
            rw [Q_X7_ (hon 7 (by kernel_rfl))] at e40
            replace ha := Aside0.mk ha
            have HB := Aside0.mk Q_HB
            have BK2 := Aside0.mk Q_BK2
            have BK3 := Aside0.mk Q_BK3
            have BZ := Aside0.mk (Q_BZ (hon 7 (by kernel_rfl)))
            refine value_ (w1 := w') (v := .slice (some ⟨gz, 0, none⟩) 1 1) (by rfl) rfl ?_ ?_
            · go_simp
              (try simp only [i64_w])
              try rfl
            refine hK.out _ _ ⟨gz, m7_, (.slice (some ⟨gz, 0, none⟩) 1 1), (by rw [ha.out]; exact putSel_upk 8 hb_ rfl rfl rfl), Q_HB, Q_BK2, Q_BK3, Q_BZ, Q_X7_, fun _ => rfl⟩
          exact steps_nil
        rintro b a wz hall ⟨gz, m7_, m8_, ha, Q_HB, Q_BK2, Q_BK3, Q_BZ, Q_X7_, Q_X8_⟩
        clear BK2 BK3 HB
        have hb0_ := hall 0 (by kernel_rfl)
        have hb1_ := hall 1 (by kernel_rfl)
        have hb2_ := hall 2 (by kernel_rfl)
        have hb3_ := hall 3 (by kernel_rfl)
        have hb4_ := hall 4 (by kernel_rfl)
        have hb5_ := hall 5 (by kernel_rfl)
        have hb6_ := hall 6 (by kernel_rfl)
        have hb7_ := hall 7 (by kernel_rfl)
        have hb8_ := hall 8 (by kernel_rfl)
        subst ha
        obtain rfl := Q_X7_ hb7_
        obtain rfl := Q_X8_ hb8_
        simp only [putSel, hb0_, hb1_, hb2_, hb3_, hb4_, hb5_, hb6_, hb7_, hb8_, if_true, Act.put, List.setIfInBounds_toArray, List.set_cons_zero, List.set_cons_succ]
        have HB := Aside0.mk Q_HB
        clear Q_HB
        have BK2 := Aside0.mk Q_BK2
        clear Q_BK2
        have BK3 := Aside0.mk Q_BK3
        clear Q_BK3
        have BZ := Aside0.mk (Q_BZ hb7_)
        clear Q_BZ
        clear hall hb0_ hb1_ hb2_ hb3_ hb4_ hb5_ hb6_ hb7_ hb8_
        go_wp2
        go_ret
        exact ⟨_, rfl, row_one BZ.out.1 BZ.out.2, HB.out⟩
    · have d1 := nat_ne h1
      clear h1 hdif
      skip
      go_upto_region 2 with fail
      refine start_ (n := 9) (S := fun w' => True) (ds := []) #[false, false, false, false, false, false, false, false, false] (by kernel_rfl) rfl rfl trivial (fun hHeld => ?_)
      refine with_tabW i2.tab2 i2.bits2 (fun HT_ HW_ => ?_)
      refine inv_at [0, 1, 2, 3, 4, 5, 6, 7, 8] (fun a0_ b a w' => ∃ (gz : Nat) (m7_ : Value) (m8_ : Value), a = putSel a0_ b [(0, 33, .pointer (some ⟨g2, 0, none⟩)), (1, 34, .int .i64 pa), (2, 35, .agg #[.int .i64 pa, .int .i64 pr, .int .i64 ps, .int .i64 pw, .slice pA pm pc, .slice pB pn pd]), (3, 36, .int .u64 (u64 pw)), (4, 37, .agg #[.int .i64 qa, .int .i64 qr, .int .i64 qs, .int .i64 qw, .slice qA qm qc, .slice qB qn qd]), (5, 38, .int .u64 (u64 qw)), (6, 39, .agg #[.int .i64 3, .int .i64 pa, .int .i64 0, .int .u64 (u64 pw), .int .u64 (u64 qw)]), (7, 40, m7_), (8, 4, m8_)] ∧ (Below w.heap.size w w') ∧ (w'.heap[g2]? = some (.cells #[.int .i64 pa, .int .i64 pr, .int .i64 ps, .int .i64 pw, .slice pA pm pc, .slice pB pn pd] 40 (0, 0))) ∧ (w'.heap[g3]? = some (.cells #[.int .i64 qa, .int .i64 qr, .int .i64 qs, .int .i64 qw, .slice qA qm qc, .slice qB qn qd] 40 (0, 0))) ∧ (b 7 = true → w'.heap[gz]? = some (.cells #[.int .i64 3, .int .i64 pa, .int .i64 0, .int .u64 (u64 pw), .int .u64 (u64 qw)] 44 (0, 0)) ∧ w.heap.size ≤ gz) ∧ (b 7 = true → (m7_ : Value) = .slice (some ⟨gz, 0, none⟩) 1 1) ∧ (b 8 = true → (m8_ : Value) = .slice (some ⟨gz, 0, none⟩) 1 1)) HT_.out HW_.out (by kernel_rfl) (by kernel_rfl) ?_ ?_ ?_
      · exact ⟨0, .bool false, .bool false, by simp only [putSel, Bool.false_eq_true, if_false], below_drew1 HB.out, BK2.out, BK3.out, fun h_ => absurd h_ (by decide), fun h_ => absurd h_ (by decide), fun h_ => absurd h_ (by decide)⟩
      · skip
        clear BK2 BK3 HB
        refine steps_cons ?_ ?_
        · rintro b a w' ⟨gz, m7_, m8_, ha, Q_HB, Q_BK2, Q_BK3, Q_BZ, Q_X7_, Q_X8_⟩ hb_ hon hoff
          refine ⟨_, rfl, fun K hK => ?_⟩
          have e2 : a.tmps[2]? = some (.pointer (some ⟨g2, 0, none⟩)) := by rw [ha]; exact (putSel_off rfl).trans rfl
          replace ha := Aside0.mk ha
          have HB := Aside0.mk Q_HB
          have BK2 := Aside0.mk Q_BK2
          have BK3 := Aside0.mk Q_BK3
          refine value_ (w1 := w') (v := .pointer (some ⟨g2, 0, none⟩)) (by rfl) rfl ?_ ?_
          · go_simp
            (try simp only [i64_w])
            try rfl
          refine hK.out _ _ ⟨gz, m7_, m8_, (by rw [ha.out]; exact putSel_upk 0 hb_ rfl rfl rfl), Q_HB, Q_BK2, Q_BK3, fun h0_ => absurd ((hoff 7 (by kernel_rfl)).symm.trans h0_) (by decide), fun h0_ => absurd ((hoff 7 (by kernel_rfl)).symm.trans h0_) (by decide), fun h0_ => absurd ((hoff 8 (by kernel_rfl)).symm.trans h0_) (by decide)⟩
        refine steps_cons ?_ ?_
        · rintro b a w' ⟨gz, m7_, m8_, ha, Q_HB, Q_BK2, Q_BK3, Q_BZ, Q_X7_, Q_X8_⟩ hb_ hon hoff
          refine ⟨_, rfl, fun K hK => ?_⟩
          have e33 : a.tmps[33]? = some (.pointer (some ⟨g2, 0, none⟩)) := by rw [ha]; exact putSel_on (e := (0, 33, .pointer (some ⟨g2, 0, none⟩))) 0 rfl rfl (hon 0 (by kernel_rfl)) rfl
          replace ha := Aside0.mk ha
          have HB := Aside0.mk Q_HB
          have BK2 := Aside0.mk Q_BK2
          have BK3 := Aside0.mk Q_BK3
          have hc0 : w'.cell? ⟨g2, 0, none⟩ = some (.int .i64 pa) := (blk_cell BK2.out 0).trans rfl
          refine value_ (w1 := w') (v := .int .i64 pa) (by rfl) rfl ?_ ?_
          · go_simp
            (try simp only [i64_w])
            try rfl
          refine hK.out _ _ ⟨gz, m7_, m8_, (by rw [ha.out]; exact putSel_upk 1 hb_ rfl rfl rfl), Q_HB, Q_BK2, Q_BK3, fun h0_ => absurd ((hoff 7 (by kernel_rfl)).symm.trans h0_) (by decide), fun h0_ => absurd ((hoff 7 (by kernel_rfl)).symm.trans h0_) (by decide), fun h0_ => absurd ((hoff 8 (by kernel_rfl)).symm.trans h0_) (by decide)⟩
        refine steps_cons ?_ ?_
        · rintro b a w' ⟨gz, m7_, m8_, ha, Q_HB, Q_BK2, Q_BK3, Q_BZ, Q_X7_, Q_X8_⟩ hb_ hon hoff
          refine ⟨_, rfl, fun K hK => ?_⟩
          have e2 : a.tmps[2]? = some (.pointer (some ⟨g2, 0, none⟩)) := by rw [ha]; exact (putSel_off rfl).trans rfl
          replace ha := Aside0.mk ha
          have HB := Aside0.mk Q_HB
          have BK2 := Aside0.mk Q_BK2
          have BK3 := Aside0.mk Q_BK3
          have hg2_0 : w'.cell? ⟨g2, 0, none⟩ = some (.int .i64 pa) := (blk_cell BK2.out 0).trans rfl
          have hg2_1 : w'.cell? ⟨g2, 1, none⟩ = some (.int .i64 pr) := (blk_cell BK2.out 1).trans rfl
          have hg2_2 : w'.cell? ⟨g2, 2, none⟩ = some (.int .i64 ps) := (blk_cell BK2.out 2).trans rfl
          have hg2_3 : w'.cell? ⟨g2, 3, none⟩ = some (.int .i64 pw) := (blk_cell BK2.out 3).trans rfl
          have hg2_4 : w'.cell? ⟨g2, 4, none⟩ = some (.slice pA pm pc) := (blk_cell BK2.out 4).trans rfl
          have hg2_5 : w'.cell? ⟨g2, 5, none⟩ = some (.slice pB pn pd) := (blk_cell BK2.out 5).trans rfl
          refine value_ (w1 := w') (v := .agg #[.int .i64 pa, .int .i64 pr, .int .i64 ps, .int .i64 pw, .slice pA pm pc, .slice pB pn pd]) (by rfl) rfl ?_ ?_
          · go_simp
            (try simp only [i64_w])
            try rfl
          refine hK.out _ _ ⟨gz, m7_, m8_, (by rw [ha.out]; exact putSel_upk 2 hb_ rfl rfl rfl), Q_HB, Q_BK2, Q_BK3, fun h0_ => absurd ((hoff 7 (by kernel_rfl)).symm.trans h0_) (by decide), fun h0_ => absurd ((hoff 7 (by kernel_rfl)).symm.trans h0_) (by decide), fun h0_ => absurd ((hoff 8 (by kernel_rfl)).symm.trans h0_) (by decide)⟩
        refine steps_cons ?_ ?_
        · rintro b a w' ⟨gz, m7_, m8_, ha, Q_HB, Q_BK2, Q_BK3, Q_BZ, Q_X7_, Q_X8_⟩ hb_ hon hoff
          refine ⟨_, rfl, fun K hK => ?_⟩
          have e35 : a.tmps[35]? = some (.agg #[.int .i64 pa, .int .i64 pr, .int .i64 ps, .int .i64 pw, .slice pA pm pc, .slice pB pn pd]) := by rw [ha]; exact putSel_on (e := (2, 35, .agg #[.int .i64 pa, .int .i64 pr, .int .i64 ps, .int .i64 pw, .slice pA pm pc, .slice pB pn pd])) 2 rfl rfl (hon 2 (by kernel_rfl)) rfl
          replace ha := Aside0.mk ha
          have HB := Aside0.mk Q_HB
          have BK2 := Aside0.mk Q_BK2
          have BK3 := Aside0.mk Q_BK3
          refine goes_ Try.func35 (by kernel_rfl) rfl #[.agg #[.int .i64 pa, .int .i64 pr, .int .i64 ps, .int .i64 pw, .slice pA pm pc, .slice pB pn pd]] (by rfl) rfl rfl (by first | (simp only [List.map_toArray, List.map_cons, List.map_nil, Act.eval, Array.getD_eq_getD_getElem?, Option.getD_some, e35]; done) | (simp only [List.map_toArray, List.map_cons, List.map_nil, Act.eval, Array.getD_eq_getD_getElem?, Option.getD_some, e35]; rfl)) ?_
          with_reducible refine (words_calls _ pa pr ps pw pA pm pc pB pn pd).mono ?_
          rintro e w3 ⟨rfl, hb⟩
          refine ⟨_, rfl, ?_⟩
          refine hK.out _ _ ⟨gz, m7_, m8_, (by rw [ha.out]; exact putSel_upk 3 hb_ rfl rfl rfl), (below_step HB.out hb), (blk_below BK2.out hb), (blk_below BK3.out hb), fun h0_ => absurd ((hoff 7 (by kernel_rfl)).symm.trans h0_) (by decide), fun h0_ => absurd ((hoff 7 (by kernel_rfl)).symm.trans h0_) (by decide), fun h0_ => absurd ((hoff 8 (by kernel_rfl)).symm.trans h0_) (by decide)⟩
        refine steps_cons ?_ ?_
        · rintro b a w' ⟨gz, m7_, m8_, ha, Q_HB, Q_BK2, Q_BK3, Q_BZ, Q_X7_, Q_X8_⟩ hb_ hon hoff
          refine ⟨_, rfl, fun K hK => ?_⟩
          have e3 : a.tmps[3]? = some (.pointer (some ⟨g3, 0, none⟩)) := by rw [ha]; exact (putSel_off rfl).trans rfl
          replace ha := Aside0.mk ha
          have HB := Aside0.mk Q_HB
          have BK2 := Aside0.mk Q_BK2
          have BK3 := Aside0.mk Q_BK3
          have hg3_0 : w'.cell? ⟨g3, 0, none⟩ = some (.int .i64 qa) := (blk_cell BK3.out 0).trans rfl
          have hg3_1 : w'.cell? ⟨g3, 1, none⟩ = some (.int .i64 qr) := (blk_cell BK3.out 1).trans rfl
          have hg3_2 : w'.cell? ⟨g3, 2, none⟩ = some (.int .i64 qs) := (blk_cell BK3.out 2).trans rfl
          have hg3_3 : w'.cell? ⟨g3, 3, none⟩ = some (.int .i64 qw) := (blk_cell BK3.out 3).trans rfl
          have hg3_4 : w'.cell? ⟨g3, 4, none⟩ = some (.slice qA qm qc) := (blk_cell BK3.out 4).trans rfl
          have hg3_5 : w'.cell? ⟨g3, 5, none⟩ = some (.slice qB qn qd) := (blk_cell BK3.out 5).trans rfl
          refine value_ (w1 := w') (v := .agg #[.int .i64 qa, .int .i64 qr, .int .i64 qs, .int .i64 qw, .slice qA qm qc, .slice qB qn qd]) (by rfl) rfl ?_ ?_
          · go_simp
            (try simp only [i64_w])
            try rfl
          refine hK.out _ _ ⟨gz, m7_, m8_, (by rw [ha.out]; exact putSel_upk 4 hb_ rfl rfl rfl), Q_HB, Q_BK2, Q_BK3, fun h0_ => absurd ((hoff 7 (by kernel_rfl)).symm.trans h0_) (by decide), fun h0_ => absurd ((hoff 7 (by kernel_rfl)).symm.trans h0_) (by decide), fun h0_ => absurd ((hoff 8 (by kernel_rfl)).symm.trans h0_) (by decide)⟩
        refine steps_cons ?_ ?_
        · rintro b a w' ⟨gz, m7_, m8_, ha, Q_HB, Q_BK2, Q_BK3, Q_BZ, Q_X7_, Q_X8_⟩ hb_ hon hoff
          refine ⟨_, rfl, fun K hK => ?_⟩
          have e37 : a.tmps[37]? = some (.agg #[.int .i64 qa, .int .i64 qr, .int .i64 qs, .int .i64 qw, .slice qA qm qc, .slice qB qn qd]) := by rw [ha]; exact putSel_on (e := (4, 37, .agg #[.int .i64 qa, .int .i64 qr, .int .i64 qs, .int .i64 qw, .slice qA qm qc, .slice qB qn qd])) 4 rfl rfl (hon 4 (by kernel_rfl)) rfl
          replace ha := Aside0.mk ha
          have HB := Aside0.mk Q_HB
          have BK2 := Aside0.mk Q_BK2
          have BK3 := Aside0.mk Q_BK3
          refine goes_ Try.func35 (by kernel_rfl) rfl #[.agg #[.int .i64 qa, .int .i64 qr, .int .i64 qs, .int .i64 qw, .slice qA qm qc, .slice qB qn qd]] (by rfl) rfl rfl (by first | (simp only [List.map_toArray, List.map_cons, List.map_nil, Act.eval, Array.getD_eq_getD_getElem?, Option.getD_some, e37]; done) | (simp only [List.map_toArray, List.map_cons, List.map_nil, Act.eval, Array.getD_eq_getD_getElem?, Option.getD_some, e37]; rfl)) ?_
          with_reducible refine (words_calls _ qa qr qs qw qA qm qc qB qn qd).mono ?_
          rintro e w3 ⟨rfl, hb⟩
          refine ⟨_, rfl, ?_⟩
          refine hK.out _ _ ⟨gz, m7_, m8_, (by rw [ha.out]; exact putSel_upk 5 hb_ rfl rfl rfl), (below_step HB.out hb), (blk_below BK2.out hb), (blk_below BK3.out hb), fun h0_ => absurd ((hoff 7 (by kernel_rfl)).symm.trans h0_) (by decide), fun h0_ => absurd ((hoff 7 (by kernel_rfl)).symm.trans h0_) (by decide), fun h0_ => absurd ((hoff 8 (by kernel_rfl)).symm.trans h0_) (by decide)⟩
        refine steps_cons ?_ ?_
        · rintro b a w' ⟨gz, m7_, m8_, ha, Q_HB, Q_BK2, Q_BK3, Q_BZ, Q_X7_, Q_X8_⟩ hb_ hon hoff
          refine ⟨_, rfl, fun K hK => ?_⟩
          have e34 : a.tmps[34]? = some (.int .i64 pa) := by rw [ha]; exact putSel_on (e := (1, 34, .int .i64 pa)) 1 rfl rfl (hon 1 (by kernel_rfl)) rfl
          have e36 : a.tmps[36]? = some (.int .u64 (u64 pw)) := by rw [ha]; exact putSel_on (e := (3, 36, .int .u64 (u64 pw))) 3 rfl rfl (hon 3 (by kernel_rfl)) rfl
          have e38 : a.tmps[38]? = some (.int .u64 (u64 qw)) := by rw [ha]; exact putSel_on (e := (5, 38, .int .u64 (u64 qw))) 5 rfl rfl (hon 5 (by kernel_rfl)) rfl
          replace ha := Aside0.mk ha
          have HB := Aside0.mk Q_HB
          have BK2 := Aside0.mk Q_BK2
          have BK3 := Aside0.mk Q_BK3
          refine value_ (w1 := w') (v := .agg #[.int .i64 3, .int .i64 pa, .int .i64 0, .int .u64 (u64 pw), .int .u64 (u64 qw)]) (by rfl) rfl ?_ ?_
          · go_simp
            (try simp only [i64_w])
            try rfl
          refine hK.out _ _ ⟨gz, m7_, m8_, (by rw [ha.out]; exact putSel_upk 6 hb_ rfl rfl rfl), Q_HB, Q_BK2, Q_BK3, fun h0_ => absurd ((hoff 7 (by kernel_rfl)).symm.trans h0_) (by decide), fun h0_ => absurd ((hoff 7 (by kernel_rfl)).symm.trans h0_) (by decide), fun h0_ => absurd ((hoff 8 (by kernel_rfl)).symm.trans h0_) (by decide)⟩
        refine steps_cons ?_ ?_
        · rintro b a w' ⟨gz, m7_, m8_, ha, Q_HB, Q_BK2, Q_BK3, Q_BZ, Q_X7_, Q_X8_⟩ hb_ hon hoff
          refine ⟨_, rfl, fun K hK => ?_⟩
          have e39 : a.tmps[39]? = some (.agg #[.int .i64 3, .int .i64 pa, .int .i64 0, .int .u64 (u64 pw), .int .u64 (u64 qw)]) := by rw [ha]; exact putSel_on (e := (6, 39, .agg #[.int .i64 3, .int .i64 pa, .int .i64 0, .int .u64 (u64 pw), .int .u64 (u64 qw)])) 6 rfl rfl (hon 6 (by kernel_rfl)) rfl
          replace ha := Aside0.mk ha
          have HB := Aside0.mk Q_HB
          have BK2 := Aside0.mk Q_BK2
          have BK3 := Aside0.mk Q_BK3
          refine value_ (w1 := ?_) (v := ?_) (by rfl) rfl ?_ ?_
          rotate_left 2
          · go_simp
            constructor
            · rfl
            · rfl
          have hb := below_alloc (Below.refl w'.heap.size w') (.cells #[.int .i64 3, .int .i64 pa, .int .i64 0, .int .u64 (u64 pw), .int .u64 (u64 qw)] 44)
          refine hK.out _ _ ⟨w'.heap.size, (.slice (some ⟨w'.heap.size, 0, none⟩) 1 1), m8_, (by rw [ha.out]; exact putSel_upk 7 hb_ rfl rfl rfl), (below_step HB.out hb), (blk_below BK2.out hb), (blk_below BK3.out hb), fun _ => ⟨blk_new w' (.cells #[.int .i64 3, .int .i64 pa, .int .i64 0, .int .u64 (u64 pw), .int .u64 (u64 qw)] 44), below_size HB.out⟩, fun _ => rfl, fun h0_ => absurd ((hoff 8 (by kernel_rfl)).symm.trans h0_) (by decide)⟩
        refine steps_cons ?_ ?_
        · rintro b a w' ⟨gz, m7_, m8_, ha, Q_HB, Q_BK2, Q_BK3, Q_BZ, Q_X7_, Q_X8_⟩ hb_ hon hoff
          refine ⟨_, rfl, fun K hK => ?_⟩
          have e40 : a.tmps[40]? = some (m7_) := by rw [ha]; exact putSel_on (e := (7, 40, m7_)) 7 rfl rfl (hon 7 (by kernel_rfl)) rfl
          rw [Q_X7_ (hon 7 (by kernel_rfl))] at e40
          replace ha := Aside0.mk ha
          have HB := Aside0.mk Q_HB
          have BK2 := Aside0.mk Q_BK2
          have BK3 := Aside0.mk Q_BK3
          have BZ := Aside0.mk (Q_BZ (hon 7 (by kernel_rfl)))
          refine value_ (w1 := w') (v := .slice (some ⟨gz, 0, none⟩) 1 1) (by rfl) rfl ?_ ?_
          · go_simp
            (try simp only [i64_w])
            try rfl
          refine hK.out _ _ ⟨gz, m7_, (.slice (some ⟨gz, 0, none⟩) 1 1), (by rw [ha.out]; exact putSel_upk 8 hb_ rfl rfl rfl), Q_HB, Q_BK2, Q_BK3, Q_BZ, Q_X7_, fun _ => rfl⟩
        exact steps_nil
      rintro b a wz hall ⟨gz, m7_, m8_, ha, Q_HB, Q_BK2, Q_BK3, Q_BZ, Q_X7_, Q_X8_⟩
      clear BK2 BK3 HB
      have hb0_ := hall 0 (by kernel_rfl)
      have hb1_ := hall 1 (by kernel_rfl)
      have hb2_ := hall 2 (by kernel_rfl)
      have hb3_ := hall 3 (by kernel_rfl)
      have hb4_ := hall 4 (by kernel_rfl)
      have hb5_ := hall 5 (by kernel_rfl)
      have hb6_ := hall 6 (by kernel_rfl)
      have hb7_ := hall 7 (by kernel_rfl)
      have hb8_ := hall 8 (by kernel_rfl)
      subst ha
      obtain rfl := Q_X7_ hb7_
      obtain rfl := Q_X8_ hb8_
      simp only [putSel, hb0_, hb1_, hb2_, hb3_, hb4_, hb5_, hb6_, hb7_, hb8_, if_true, Act.put, List.setIfInBounds_toArray, List.set_cons_zero, List.set_cons_succ]
      have HB := Aside0.mk Q_HB
      clear Q_HB
      have BK2 := Aside0.mk Q_BK2
      clear Q_BK2
      have BK3 := Aside0.mk Q_BK3
      clear Q_BK3
      have BZ := Aside0.mk (Q_BZ hb7_)
      clear Q_BZ
      clear hall hb0_ hb1_ hb2_ hb3_ hb4_ hb5_ hb6_ hb7_ hb8_
      go_wp2
      go_ret
      exact ⟨_, rfl, row_one BZ.out.1 BZ.out.2, HB.out⟩
  · have h1 : pm = qm := Decidable.byContradiction fun h => hdif (Or.inl h)
    have h2 : pw = qw := Decidable.byContradiction fun h => hdif (Or.inr (Or.inl h))
    have h3 : pn = qn := Decidable.byContradiction fun h => hdif (Or.inr (Or.inr h))
    have HI := Aside0.mk (show insideR ⟨pa, pr, ps, pw, pA, pm, pc, pB, pn, pd, pS, pT⟩ ⟨qa, qr, qs, qw, qA, qm, qc, qB, qn, qd, qS, qT⟩ = slotsTo ⟨pa, pr, ps, pw, pA, pm, pc, pB, pn, pd, pS, pT⟩ ⟨qa, qr, qs, qw, qA, qm, qc, qB, qn, qd, qS, qT⟩ pm ++ dataTo ⟨pa, pr, ps, pw, pA, pm, pc, pB, pn, pd, pS, pT⟩ ⟨qa, qr, qs, qw, qA, qm, qc, qB, qn, qd, qS, qT⟩ pn from if_neg hdif)
    rw [HI.out]
    have d1 := nat_eq h1
    have d2 : (pw != qw) = false := by rw [h2]; simp
    have d3 := nat_eq h3
    have H1 := Aside0.mk h1
    have H3 := Aside0.mk h3
    clear h1 h2 h3 hdif
    go_enter Try.func49, Try.ntmps49
    go_upto_region 1 with (first | ((with_reducible refine gate_dst (N := 2) rfl ?_); refine box_event ?hg (N := 2) ?hd (cs := #[.int .i64 pa, .int .i64 pr, .int .i64 ps, .int .i64 pw, .slice pA pm pc, .slice pB pn pd]) (t := 40) ?hr ?_; (case hd => rfl); (case hg => rfl); (case hr => first | (go_simp; done) | (go_simp; rfl)); intro g2 hg w1_ hbox hb; have n0_ := Aside0.mk (below_step (by repeat (first | (with_reducible first | exact HB.out | apply below_alloc | apply pw_below_drewN | apply below_drew1) | exact HB.out)) hb); have n1_ := Aside0.mk hbox; have n2_ := Aside0.mk ((by rw [hg]; exact (below_size (by repeat (first | (with_reducible first | exact HB.out | apply below_alloc | apply pw_below_drewN | apply below_drew1) | exact HB.out)))) : w.heap.size ≤ g2); clear HB; have HB := n0_; have BK2 := n1_; have GE2 := n2_; clear n0_ n1_ n2_; clear hb hbox hg) | ((with_reducible refine gate_dst (N := 3) rfl ?_); refine box_event ?hg (N := 3) ?hd (cs := #[.int .i64 qa, .int .i64 qr, .int .i64 qs, .int .i64 qw, .slice qA qm qc, .slice qB qn qd]) (t := 40) ?hr ?_; (case hd => rfl); (case hg => rfl); (case hr => first | (go_simp; done) | (go_simp; rfl)); intro g3 hg w2_ hbox hb; have n0_ := Aside0.mk (below_step (by repeat (first | (with_reducible first | exact HB.out | apply below_alloc | apply pw_below_drewN | apply below_drew1 | refine below_set ?_ GE2.out) | exact HB.out)) hb); have n1_ := Aside0.mk (blk_below (g := g2) (o := .cells #[.int .i64 pa, .int .i64 pr, .int .i64 ps, .int .i64 pw, .slice pA pm pc, .slice pB pn pd] 40 (0, 0)) (by (with_reducible repeat (first | refine blk_drewN ?_ _ | refine blk_drew ?_ | refine blk_alloc ?_ _)); exact BK2.out) hb); have n2_ := Aside0.mk hbox; have n3_ := Aside0.mk ((by rw [hg]; exact (below_size (by repeat (first | (with_reducible first | exact HB.out | apply below_alloc | apply pw_below_drewN | apply below_drew1 | refine below_set ?_ GE2.out) | exact HB.out)))) : w.heap.size ≤ g3); have n4_ := Aside0.mk ((by rw [hg]; exact Nat.ne_of_lt (blk_lt (g := g2) (o := .cells #[.int .i64 pa, .int .i64 pr, .int .i64 ps, .int .i64 pw, .slice pA pm pc, .slice pB pn pd] 40 (0, 0)) (by (with_reducible repeat (first | refine blk_drewN ?_ _ | refine blk_drew ?_ | refine blk_alloc ?_ _)); exact BK2.out))) : g2 ≠ g3); clear HB; clear BK2; have HB := n0_; have BK2 := n1_; have BK3 := n2_; have GE3 := n3_; have NE2_3 := n4_; clear n0_ n1_ n2_ n3_ n4_; clear hb hbox hg))
    have hc2_0 : w2_.cell? ⟨g2, 0, none⟩ = some (.int .i64 pa) := (blk_cell BK2.out 0).trans rfl
    have hf2_0 := blk_frozen BK2.out 0
    have hc2_1 : w2_.cell? ⟨g2, 1, none⟩ = some (.int .i64 pr) := (blk_cell BK2.out 1).trans rfl
    have hf2_1 := blk_frozen BK2.out 1
    have hc2_2 : w2_.cell? ⟨g2, 2, none⟩ = some (.int .i64 ps) := (blk_cell BK2.out 2).trans rfl
    have hf2_2 := blk_frozen BK2.out 2
    have hc2_3 : w2_.cell? ⟨g2, 3, none⟩ = some (.int .i64 pw) := (blk_cell BK2.out 3).trans rfl
    have hf2_3 := blk_frozen BK2.out 3
    have hc2_4 : w2_.cell? ⟨g2, 4, none⟩ = some (.slice pA pm pc) := (blk_cell BK2.out 4).trans rfl
    have hf2_4 := blk_frozen BK2.out 4
    have hc2_5 : w2_.cell? ⟨g2, 5, none⟩ = some (.slice pB pn pd) := (blk_cell BK2.out 5).trans rfl
    have hf2_5 := blk_frozen BK2.out 5
    have hc3_0 : w2_.cell? ⟨g3, 0, none⟩ = some (.int .i64 qa) := (blk_cell BK3.out 0).trans rfl
    have hf3_0 := blk_frozen BK3.out 0
    have hc3_1 : w2_.cell? ⟨g3, 1, none⟩ = some (.int .i64 qr) := (blk_cell BK3.out 1).trans rfl
    have hf3_1 := blk_frozen BK3.out 1
    have hc3_2 : w2_.cell? ⟨g3, 2, none⟩ = some (.int .i64 qs) := (blk_cell BK3.out 2).trans rfl
    have hf3_2 := blk_frozen BK3.out 2
    have hc3_3 : w2_.cell? ⟨g3, 3, none⟩ = some (.int .i64 qw) := (blk_cell BK3.out 3).trans rfl
    have hf3_3 := blk_frozen BK3.out 3
    have hc3_4 : w2_.cell? ⟨g3, 4, none⟩ = some (.slice qA qm qc) := (blk_cell BK3.out 4).trans rfl
    have hf3_4 := blk_frozen BK3.out 4
    have hc3_5 : w2_.cell? ⟨g3, 5, none⟩ = some (.slice qB qn qd) := (blk_cell BK3.out 5).trans rfl
    have hf3_5 := blk_frozen BK3.out 5
    go_wp2
    go_loopw [5, 44] (fun o v wr => ∃ (vv : Value) (i : Nat), vv = o ∧ i ≤ pm ∧ v = .int .i64 (i : Int) ∧ Aside0 (wr.ownsRow w.heap.size 44 5 vv (slotsTo ⟨pa, pr, ps, pw, pA, pm, pc, pB, pn, pd, pS, pT⟩ ⟨qa, qr, qs, qw, qA, qm, qc, qB, qn, qd, qS, qT⟩ i).length (chs (slotsTo ⟨pa, pr, ps, pw, pA, pm, pc, pB, pn, pd, pS, pT⟩ ⟨qa, qr, qs, qw, qA, qm, qc, qB, qn, qd, qS, qT⟩ i))) ∧ Aside0 (Below w.heap.size w wr) ∧ Aside0 (wr.heap[g2]? = some (.cells #[.int .i64 pa, .int .i64 pr, .int .i64 ps, .int .i64 pw, .slice pA pm pc, .slice pB pn pd] 40 (0, 0))) ∧ Aside0 (wr.heap[g3]? = some (.cells #[.int .i64 qa, .int .i64 qr, .int .i64 qs, .int .i64 qw, .slice qA qm qc, .slice qB qn qd] 40 (0, 0)))) (fun _ v _ => pm - (intOf v).toNat)
    case atStart => exact ⟨_, 0, rfl, by omega, rfl, Aside0.mk (World.ownsRow_nil _ _ _ _), HB, BK2, BK3⟩
    case round =>
      clear HB BK2 BK3
      have hmq := H1.out
      have hnq := H3.out
      obtain ⟨vv, i, hov, hi_, rfl, OWN, HB, BK2, BK3⟩ := hrel
      subst hov
      by_cases hgo : i < pm
      · have hd : decide ((i : Int) < (pm : Int)) = true := decide_eq_true (by omega)
        obtain ⟨yp, e, hcx⟩ := il_at hB HP.out.1 hgo
        replace e : pA = some yp := e
        subst e
        obtain ⟨yq, e, hcy⟩ := il_at hB HQ.out.1 (show i < qm by omega)
        replace e : qA = some yq := e
        subst e
        replace hcx : ∀ W', Below w.heap.size w W' → W'.cell? (yp.add i) = some (.int .i64 (pS.getD i 0)) := hcx
        replace hcy : ∀ W', Below w.heap.size w W' → W'.cell? (yq.add i) = some (.int .i64 (qS.getD i 0)) := hcy
        obtain ⟨vx, hvx⟩ : ∃ x, x = pS.getD i 0 := ⟨_, rfl⟩
        obtain ⟨vy, hvy⟩ : ∃ x, x = qS.getD i 0 := ⟨_, rfl⟩
        rw [← hvx] at hcx
        rw [← hvy] at hcy
        have HCX := Aside0.mk hcx
        have HCY := Aside0.mk hcy
        have HVX := Aside0.mk hvx
        have HVY := Aside0.mk hvy
        clear hcx hcy hvx hvy
        obtain ⟨nn, hnn⟩ : ∃ n, n = (slotsTo (⟨pa, pr, ps, pw, some yp, pm, pc, pB, pn, pd, pS, pT⟩ : Nd) (⟨qa, qr, qs, qw, some yq, qm, qc, qB, qn, qd, qS, qT⟩ : Nd) i).length := ⟨_, rfl⟩
        obtain ⟨xs, hxs⟩ : ∃ x, x = chs (slotsTo (⟨pa, pr, ps, pw, some yp, pm, pc, pB, pn, pd, pS, pT⟩ : Nd) (⟨qa, qr, qs, qw, some yq, qm, qc, qB, qn, qd, qS, qT⟩ : Nd) i) := ⟨_, rfl⟩
        have hn6 : nn ≤ 600 := by rw [hnn]; have := slotsTo_le (⟨pa, pr, ps, pw, some yp, pm, pc, pB, pn, pd, pS, pT⟩ : Nd) (⟨qa, qr, qs, qw, some yq, qm, qc, qB, qn, qd, qS, qT⟩ : Nd) i; omega
        rw [← hnn, ← hxs] at OWN
        have HNN := Aside0.mk hnn
        have HXS := Aside0.mk hxs
        clear hnn hxs
        have hi0 : (0 : Int) ≤ (i : Int) := by omega
        have hi1 : (i : Int) < (pm : Int) := by omega
        have hi2 : (i : Int) < (qm : Int) := by omega
        by_cases hxy : vx = vy
        · have hne : (vx != vy) = false := by rw [hxy]; simp
          have HXY := Aside0.mk (show pS.getD i 0 = qS.getD i 0 by rw [← HVX.out, ← HVY.out, hxy])
          clear hxy
          go_upto_region 7 with fail
          refine start_ (n := 11) (S := fun w' => True) (ds := []) #[false, false, false, false, false, false, false, false, false, false, false] (by kernel_rfl) rfl rfl trivial (fun hHeld => ?_)
          refine with_tabW i7.tab7 i7.bits7 (fun HT_ HW_ => ?_)
          refine inv_at [0, 1, 2, 3, 4, 5, 6, 7, 8, 9, 10] (fun a0_ b a w' => a = putSel a0_ b [(0, 47, .pointer (some ⟨g2, 4, none⟩)), (1, 48, .slice (some yp) pm pc), (2, 49, .int .i64 (i : Int)), (3, 50, .pointer (some (yp.add i))), (4, 51, .int .i64 vx), (5, 52, .pointer (some ⟨g3, 4, none⟩)), (6, 53, .slice (some yq) qm qc), (7, 54, .int .i64 (i : Int)), (8, 55, .pointer (some (yq.add i))), (9, 56, .int .i64 vy), (10, 57, .bool (vx != vy))] ∧ (Below w.heap.size w w') ∧ (w'.heap[g2]? = some (.cells #[.int .i64 pa, .int .i64 pr, .int .i64 ps, .int .i64 pw, .slice (some yp) pm pc, .slice pB pn pd] 40 (0, 0))) ∧ (w'.heap[g3]? = some (.cells #[.int .i64 qa, .int .i64 qr, .int .i64 qs, .int .i64 qw, .slice (some yq) qm qc, .slice qB qn qd] 40 (0, 0))) ∧ (w'.ownsRow w.heap.size 44 5 vv nn xs)) HT_.out HW_.out (by kernel_rfl) (by kernel_rfl) ?_ ?_ ?_
          · exact ⟨by simp only [putSel, Bool.false_eq_true, if_false], below_drew1 HB.out, BK2.out, BK3.out, OWN.out⟩
          · skip
            clear BK2 BK3 HB OWN
            refine steps_cons ?_ ?_
            · rintro b a w' ⟨ha, Q_HB, Q_BK2, Q_BK3, Q_OWN⟩ hb_ hon hoff
              refine ⟨_, rfl, fun K hK => ?_⟩
              have e2 : a.tmps[2]? = some (.pointer (some ⟨g2, 0, none⟩)) := by rw [ha]; exact (putSel_off rfl).trans rfl
              replace ha := Aside0.mk ha
              have HB := Aside0.mk Q_HB
              have BK2 := Aside0.mk Q_BK2
              have BK3 := Aside0.mk Q_BK3
              have OWN := Aside0.mk Q_OWN
              refine value_ (w1 := w') (v := .pointer (some ⟨g2, 4, none⟩)) (by rfl) rfl ?_ ?_
              · go_simp
                (try simp only [i64_w])
                try rfl
              refine hK.out _ _ ⟨(by rw [ha.out]; exact putSel_upk 0 hb_ rfl rfl rfl), Q_HB, Q_BK2, Q_BK3, Q_OWN⟩
            refine steps_cons ?_ ?_
            · rintro b a w' ⟨ha, Q_HB, Q_BK2, Q_BK3, Q_OWN⟩ hb_ hon hoff
              refine ⟨_, rfl, fun K hK => ?_⟩
              have e47 : a.tmps[47]? = some (.pointer (some ⟨g2, 4, none⟩)) := by rw [ha]; exact putSel_on (e := (0, 47, .pointer (some ⟨g2, 4, none⟩))) 0 rfl rfl (hon 0 (by kernel_rfl)) rfl
              replace ha := Aside0.mk ha
              have HB := Aside0.mk Q_HB
              have BK2 := Aside0.mk Q_BK2
              have BK3 := Aside0.mk Q_BK3
              have OWN := Aside0.mk Q_OWN
              have hp : w'.cell? ⟨g2, 4, none⟩ = some (.slice (some yp) pm pc) := (blk_cell BK2.out 4).trans rfl
              refine value_ (w1 := w') (v := .slice (some yp) pm pc) (by rfl) rfl ?_ ?_
              · go_simp
                (try simp only [i64_w])
                try rfl
              refine hK.out _ _ ⟨(by rw [ha.out]; exact putSel_upk 1 hb_ rfl rfl rfl), Q_HB, Q_BK2, Q_BK3, Q_OWN⟩
            refine steps_cons ?_ ?_
            · rintro b a w' ⟨ha, Q_HB, Q_BK2, Q_BK3, Q_OWN⟩ hb_ hon hoff
              refine ⟨_, rfl, fun K hK => ?_⟩
              have e6 : a.tmps[6]? = some (.int .i64 (i : Int)) := by rw [ha]; exact (putSel_off rfl).trans rfl
              replace ha := Aside0.mk ha
              have HB := Aside0.mk Q_HB
              have BK2 := Aside0.mk Q_BK2
              have BK3 := Aside0.mk Q_BK3
              have OWN := Aside0.mk Q_OWN
              refine value_ (w1 := w') (v := .int .i64 (i : Int)) (by rfl) rfl ?_ ?_
              · go_simp
                (try simp only [i64_w])
                try rfl
              refine hK.out _ _ ⟨(by rw [ha.out]; exact putSel_upk 2 hb_ rfl rfl rfl), Q_HB, Q_BK2, Q_BK3, Q_OWN⟩
            refine steps_cons ?_ ?_
            · rintro b a w' ⟨ha, Q_HB, Q_BK2, Q_BK3, Q_OWN⟩ hb_ hon hoff
              refine ⟨_, rfl, fun K hK => ?_⟩
              have e48 : a.tmps[48]? = some (.slice (some yp) pm pc) := by rw [ha]; exact putSel_on (e := (1, 48, .slice (some yp) pm pc)) 1 rfl rfl (hon 1 (by kernel_rfl)) rfl
              have e49 : a.tmps[49]? = some (.int .i64 (i : Int)) := by rw [ha]; exact putSel_on (e := (2, 49, .int .i64 (i : Int))) 2 rfl rfl (hon 2 (by kernel_rfl)) rfl
              replace ha := Aside0.mk ha
              have HB := Aside0.mk Q_HB
              have BK2 := Aside0.mk Q_BK2
              have BK3 := Aside0.mk Q_BK3
              have OWN := Aside0.mk Q_OWN
              refine value_ (w1 := w') (v := .pointer (some (yp.add i))) (by rfl) rfl ?_ ?_
              · go_simp
                (try simp only [i64_w])
                try rfl
              refine hK.out _ _ ⟨(by rw [ha.out]; exact putSel_upk 3 hb_ rfl rfl rfl), Q_HB, Q_BK2, Q_BK3, Q_OWN⟩
            refine steps_cons ?_ ?_
            · rintro b a w' ⟨ha, Q_HB, Q_BK2, Q_BK3, Q_OWN⟩ hb_ hon hoff
              refine ⟨_, rfl, fun K hK => ?_⟩
              have e50 : a.tmps[50]? = some (.pointer (some (yp.add i))) := by rw [ha]; exact putSel_on (e := (3, 50, .pointer (some (yp.add i)))) 3 rfl rfl (hon 3 (by kernel_rfl)) rfl
              replace ha := Aside0.mk ha
              have HB := Aside0.mk Q_HB
              have BK2 := Aside0.mk Q_BK2
              have BK3 := Aside0.mk Q_BK3
              have OWN := Aside0.mk Q_OWN
              have h51 : w'.cell? (yp.add i) = some (.int .i64 vx) := HCX.out w' HB.out
              refine value_ (w1 := w') (v := .int .i64 vx) (by rfl) rfl ?_ ?_
              · go_simp
                (try simp only [i64_w])
                try rfl
              refine hK.out _ _ ⟨(by rw [ha.out]; exact putSel_upk 4 hb_ rfl rfl rfl), Q_HB, Q_BK2, Q_BK3, Q_OWN⟩
            refine steps_cons ?_ ?_
            · rintro b a w' ⟨ha, Q_HB, Q_BK2, Q_BK3, Q_OWN⟩ hb_ hon hoff
              refine ⟨_, rfl, fun K hK => ?_⟩
              have e3 : a.tmps[3]? = some (.pointer (some ⟨g3, 0, none⟩)) := by rw [ha]; exact (putSel_off rfl).trans rfl
              replace ha := Aside0.mk ha
              have HB := Aside0.mk Q_HB
              have BK2 := Aside0.mk Q_BK2
              have BK3 := Aside0.mk Q_BK3
              have OWN := Aside0.mk Q_OWN
              refine value_ (w1 := w') (v := .pointer (some ⟨g3, 4, none⟩)) (by rfl) rfl ?_ ?_
              · go_simp
                (try simp only [i64_w])
                try rfl
              refine hK.out _ _ ⟨(by rw [ha.out]; exact putSel_upk 5 hb_ rfl rfl rfl), Q_HB, Q_BK2, Q_BK3, Q_OWN⟩
            refine steps_cons ?_ ?_
            · rintro b a w' ⟨ha, Q_HB, Q_BK2, Q_BK3, Q_OWN⟩ hb_ hon hoff
              refine ⟨_, rfl, fun K hK => ?_⟩
              have e52 : a.tmps[52]? = some (.pointer (some ⟨g3, 4, none⟩)) := by rw [ha]; exact putSel_on (e := (5, 52, .pointer (some ⟨g3, 4, none⟩))) 5 rfl rfl (hon 5 (by kernel_rfl)) rfl
              replace ha := Aside0.mk ha
              have HB := Aside0.mk Q_HB
              have BK2 := Aside0.mk Q_BK2
              have BK3 := Aside0.mk Q_BK3
              have OWN := Aside0.mk Q_OWN
              have hq : w'.cell? ⟨g3, 4, none⟩ = some (.slice (some yq) qm qc) := (blk_cell BK3.out 4).trans rfl
              refine value_ (w1 := w') (v := .slice (some yq) qm qc) (by rfl) rfl ?_ ?_
              · go_simp
                (try simp only [i64_w])
                try rfl
              refine hK.out _ _ ⟨(by rw [ha.out]; exact putSel_upk 6 hb_ rfl rfl rfl), Q_HB, Q_BK2, Q_BK3, Q_OWN⟩
            refine steps_cons ?_ ?_
            · rintro b a w' ⟨ha, Q_HB, Q_BK2, Q_BK3, Q_OWN⟩ hb_ hon hoff
              refine ⟨_, rfl, fun K hK => ?_⟩
              have e6 : a.tmps[6]? = some (.int .i64 (i : Int)) := by rw [ha]; exact (putSel_off rfl).trans rfl
              replace ha := Aside0.mk ha
              have HB := Aside0.mk Q_HB
              have BK2 := Aside0.mk Q_BK2
              have BK3 := Aside0.mk Q_BK3
              have OWN := Aside0.mk Q_OWN
              refine value_ (w1 := w') (v := .int .i64 (i : Int)) (by rfl) rfl ?_ ?_
              · go_simp
                (try simp only [i64_w])
                try rfl
              refine hK.out _ _ ⟨(by rw [ha.out]; exact putSel_upk 7 hb_ rfl rfl rfl), Q_HB, Q_BK2, Q_BK3, Q_OWN⟩
            refine steps_cons ?_ ?_
            · rintro b a w' ⟨ha, Q_HB, Q_BK2, Q_BK3, Q_OWN⟩ hb_ hon hoff
              refine ⟨_, rfl, fun K hK => ?_⟩
              have e53 : a.tmps[53]? = some (.slice (some yq) qm qc) := by rw [ha]; exact putSel_on (e := (6, 53, .slice (some yq) qm qc)) 6 rfl rfl (hon 6 (by kernel_rfl)) rfl
              have e54 : a.tmps[54]? = some (.int .i64 (i : Int)) := by rw [ha]; exact putSel_on (e := (7, 54, .int .i64 (i : Int))) 7 rfl rfl (hon 7 (by kernel_rfl)) rfl
              replace ha := Aside0.mk ha
              have HB := Aside0.mk Q_HB
              have BK2 := Aside0.mk Q_BK2
              have BK3 := Aside0.mk Q_BK3
              have OWN := Aside0.mk Q_OWN
              refine value_ (w1 := w') (v := .pointer (some (yq.add i))) (by rfl) rfl ?_ ?_
              · go_simp
                (try simp only [i64_w])
                try rfl
              refine hK.out _ _ ⟨(by rw [ha.out]; exact putSel_upk 8 hb_ rfl rfl rfl), Q_HB, Q_BK2, Q_BK3, Q_OWN⟩
            refine steps_cons ?_ ?_
            · rintro b a w' ⟨ha, Q_HB, Q_BK2, Q_BK3, Q_OWN⟩ hb_ hon hoff
              refine ⟨_, rfl, fun K hK => ?_⟩
              have e55 : a.tmps[55]? = some (.pointer (some (yq.add i))) := by rw [ha]; exact putSel_on (e := (8, 55, .pointer (some (yq.add i)))) 8 rfl rfl (hon 8 (by kernel_rfl)) rfl
              replace ha := Aside0.mk ha
              have HB := Aside0.mk Q_HB
              have BK2 := Aside0.mk Q_BK2
              have BK3 := Aside0.mk Q_BK3
              have OWN := Aside0.mk Q_OWN
              have h56 : w'.cell? (yq.add i) = some (.int .i64 vy) := HCY.out w' HB.out
              refine value_ (w1 := w') (v := .int .i64 vy) (by rfl) rfl ?_ ?_
              · go_simp
                (try simp only [i64_w])
                try rfl
              refine hK.out _ _ ⟨(by rw [ha.out]; exact putSel_upk 9 hb_ rfl rfl rfl), Q_HB, Q_BK2, Q_BK3, Q_OWN⟩
            refine steps_cons ?_ ?_
            · rintro b a w' ⟨ha, Q_HB, Q_BK2, Q_BK3, Q_OWN⟩ hb_ hon hoff
              refine ⟨_, rfl, fun K hK => ?_⟩
              have e51 : a.tmps[51]? = some (.int .i64 vx) := by rw [ha]; exact putSel_on (e := (4, 51, .int .i64 vx)) 4 rfl rfl (hon 4 (by kernel_rfl)) rfl
              have e56 : a.tmps[56]? = some (.int .i64 vy) := by rw [ha]; exact putSel_on (e := (9, 56, .int .i64 vy)) 9 rfl rfl (hon 9 (by kernel_rfl)) rfl
              replace ha := Aside0.mk ha
              have HB := Aside0.mk Q_HB
              have BK2 := Aside0.mk Q_BK2
              have BK3 := Aside0.mk Q_BK3
              have OWN := Aside0.mk Q_OWN
              refine value_ (w1 := w') (v := .bool (vx != vy)) (by rfl) rfl ?_ ?_
              · go_simp
                (try simp only [i64_w])
                try rfl
              refine hK.out _ _ ⟨(by rw [ha.out]; exact putSel_upk 10 hb_ rfl rfl rfl), Q_HB, Q_BK2, Q_BK3, Q_OWN⟩
            exact steps_nil
          rintro b a wz hall ⟨ha, Q_HB, Q_BK2, Q_BK3, Q_OWN⟩
          clear BK2 BK3 HB OWN
          have hb0_ := hall 0 (by kernel_rfl)
          have hb1_ := hall 1 (by kernel_rfl)
          have hb2_ := hall 2 (by kernel_rfl)
          have hb3_ := hall 3 (by kernel_rfl)
          have hb4_ := hall 4 (by kernel_rfl)
          have hb5_ := hall 5 (by kernel_rfl)
          have hb6_ := hall 6 (by kernel_rfl)
          have hb7_ := hall 7 (by kernel_rfl)
          have hb8_ := hall 8 (by kernel_rfl)
          have hb9_ := hall 9 (by kernel_rfl)
          have hb10_ := hall 10 (by kernel_rfl)
          subst ha
          simp only [putSel, hb0_, hb1_, hb2_, hb3_, hb4_, hb5_, hb6_, hb7_, hb8_, hb9_, hb10_, if_true, Act.put, List.setIfInBounds_toArray, List.set_cons_zero, List.set_cons_succ]
          have HB := Aside0.mk Q_HB
          clear Q_HB
          have BK2 := Aside0.mk Q_BK2
          clear Q_BK2
          have BK3 := Aside0.mk Q_BK3
          clear Q_BK3
          have OWN := Aside0.mk Q_OWN
          clear Q_OWN
          clear hall hb0_ hb1_ hb2_ hb3_ hb4_ hb5_ hb6_ hb7_ hb8_ hb9_ hb10_
          go_wp2
          refine ⟨⟨vv, i + 1, rfl, by omega, by push_cast; rfl, Aside0.mk (by rw [slots_eq (x := (⟨pa, pr, ps, pw, some yp, pm, pc, pB, pn, pd, pS, pT⟩ : Nd)) (y := (⟨qa, qr, qs, qw, some yq, qm, qc, qB, qn, qd, qS, qT⟩ : Nd)) HXY.out, ← HNN.out, ← HXS.out]; exact OWN.out), HB, BK2, BK3⟩, ?_⟩
          show pm - ((i : Int) + 1).toNat < pm - (i : Int).toNat
          omega
        · have hne : (vx != vy) = true := by simp; exact hxy
          have HXY := Aside0.mk (show ¬ pS.getD i 0 = qS.getD i 0 by rw [← HVX.out, ← HVY.out]; exact hxy)
          clear hxy
          go_upto_region 7 with fail
          refine start_ (n := 11) (S := fun w' => True) (ds := []) #[false, false, false, false, false, false, false, false, false, false, false] (by kernel_rfl) rfl rfl trivial (fun hHeld => ?_)
          refine with_tabW i7.tab7 i7.bits7 (fun HT_ HW_ => ?_)
          refine inv_at [0, 1, 2, 3, 4, 5, 6, 7, 8, 9, 10] (fun a0_ b a w' => a = putSel a0_ b [(0, 47, .pointer (some ⟨g2, 4, none⟩)), (1, 48, .slice (some yp) pm pc), (2, 49, .int .i64 (i : Int)), (3, 50, .pointer (some (yp.add i))), (4, 51, .int .i64 vx), (5, 52, .pointer (some ⟨g3, 4, none⟩)), (6, 53, .slice (some yq) qm qc), (7, 54, .int .i64 (i : Int)), (8, 55, .pointer (some (yq.add i))), (9, 56, .int .i64 vy), (10, 57, .bool (vx != vy))] ∧ (Below w.heap.size w w') ∧ (w'.heap[g2]? = some (.cells #[.int .i64 pa, .int .i64 pr, .int .i64 ps, .int .i64 pw, .slice (some yp) pm pc, .slice pB pn pd] 40 (0, 0))) ∧ (w'.heap[g3]? = some (.cells #[.int .i64 qa, .int .i64 qr, .int .i64 qs, .int .i64 qw, .slice (some yq) qm qc, .slice qB qn qd] 40 (0, 0))) ∧ (w'.ownsRow w.heap.size 44 5 vv nn xs)) HT_.out HW_.out (by kernel_rfl) (by kernel_rfl) ?_ ?_ ?_
          · exact ⟨by simp only [putSel, Bool.false_eq_true, if_false], below_drew1 HB.out, BK2.out, BK3.out, OWN.out⟩
          · skip
            clear BK2 BK3 HB OWN
            refine steps_cons ?_ ?_
            · rintro b a w' ⟨ha, Q_HB, Q_BK2, Q_BK3, Q_OWN⟩ hb_ hon hoff
              refine ⟨_, rfl, fun K hK => ?_⟩
              have e2 : a.tmps[2]? = some (.pointer (some ⟨g2, 0, none⟩)) := by rw [ha]; exact (putSel_off rfl).trans rfl
              replace ha := Aside0.mk ha
              have HB := Aside0.mk Q_HB
              have BK2 := Aside0.mk Q_BK2
              have BK3 := Aside0.mk Q_BK3
              have OWN := Aside0.mk Q_OWN
              refine value_ (w1 := w') (v := .pointer (some ⟨g2, 4, none⟩)) (by rfl) rfl ?_ ?_
              · go_simp
                (try simp only [i64_w])
                try rfl
              refine hK.out _ _ ⟨(by rw [ha.out]; exact putSel_upk 0 hb_ rfl rfl rfl), Q_HB, Q_BK2, Q_BK3, Q_OWN⟩
            refine steps_cons ?_ ?_
            · rintro b a w' ⟨ha, Q_HB, Q_BK2, Q_BK3, Q_OWN⟩ hb_ hon hoff
              refine ⟨_, rfl, fun K hK => ?_⟩
              have e47 : a.tmps[47]? = some (.pointer (some ⟨g2, 4, none⟩)) := by rw [ha]; exact putSel_on (e := (0, 47, .pointer (some ⟨g2, 4, none⟩))) 0 rfl rfl (hon 0 (by kernel_rfl)) rfl
              replace ha := Aside0.mk ha
              have HB := Aside0.mk Q_HB
              have BK2 := Aside0.mk Q_BK2
              have BK3 := Aside0.mk Q_BK3
              have OWN := Aside0.mk Q_OWN
              have hp : w'.cell? ⟨g2, 4, none⟩ = some (.slice (some yp) pm pc) := (blk_cell BK2.out 4).trans rfl
              refine value_ (w1 := w') (v := .slice (some yp) pm pc) (by rfl) rfl ?_ ?_
              · go_simp
                (try simp only [i64_w])
                try rfl
              refine hK.out _ _ ⟨(by rw [ha.out]; exact putSel_upk 1 hb_ rfl rfl rfl), Q_HB, Q_BK2, Q_BK3, Q_OWN⟩
            refine steps_cons ?_ ?_
            · rintro b a w' ⟨ha, Q_HB, Q_BK2, Q_BK3, Q_OWN⟩ hb_ hon hoff
              refine ⟨_, rfl, fun K hK => ?_⟩
              have e6 : a.tmps[6]? = some (.int .i64 (i : Int)) := by rw [ha]; exact (putSel_off rfl).trans rfl
              replace ha := Aside0.mk ha
              have HB := Aside0.mk Q_HB
              have BK2 := Aside0.mk Q_BK2
              have BK3 := Aside0.mk Q_BK3
              have OWN := Aside0.mk Q_OWN
              refine value_ (w1 := w') (v := .int .i64 (i : Int)) (by rfl) rfl ?_ ?_
              · go_simp
                (try simp only [i64_w])
                try rfl
              refine hK.out _ _ ⟨(by rw [ha.out]; exact putSel_upk 2 hb_ rfl rfl rfl), Q_HB, Q_BK2, Q_BK3, Q_OWN⟩
            refine steps_cons ?_ ?_
            · rintro b a w' ⟨ha, Q_HB, Q_BK2, Q_BK3, Q_OWN⟩ hb_ hon hoff
              refine ⟨_, rfl, fun K hK => ?_⟩
              have e48 : a.tmps[48]? = some (.slice (some yp) pm pc) := by rw [ha]; exact putSel_on (e := (1, 48, .slice (some yp) pm pc)) 1 rfl rfl (hon 1 (by kernel_rfl)) rfl
              have e49 : a.tmps[49]? = some (.int .i64 (i : Int)) := by rw [ha]; exact putSel_on (e := (2, 49, .int .i64 (i : Int))) 2 rfl rfl (hon 2 (by kernel_rfl)) rfl
              replace ha := Aside0.mk ha
              have HB := Aside0.mk Q_HB
              have BK2 := Aside0.mk Q_BK2
              have BK3 := Aside0.mk Q_BK3
              have OWN := Aside0.mk Q_OWN
              refine value_ (w1 := w') (v := .pointer (some (yp.add i))) (by rfl) rfl ?_ ?_
              · go_simp
                (try simp only [i64_w])
                try rfl
              refine hK.out _ _ ⟨(by rw [ha.out]; exact putSel_upk 3 hb_ rfl rfl rfl), Q_HB, Q_BK2, Q_BK3, Q_OWN⟩
            refine steps_cons ?_ ?_
            · rintro b a w' ⟨ha, Q_HB, Q_BK2, Q_BK3, Q_OWN⟩ hb_ hon hoff
              refine ⟨_, rfl, fun K hK => ?_⟩
              have e50 : a.tmps[50]? = some (.pointer (some (yp.add i))) := by rw [ha]; exact putSel_on (e := (3, 50, .pointer (some (yp.add i)))) 3 rfl rfl (hon 3 (by kernel_rfl)) rfl
              replace ha := Aside0.mk ha
              have HB := Aside0.mk Q_HB
              have BK2 := Aside0.mk Q_BK2
              have BK3 := Aside0.mk Q_BK3
              have OWN := Aside0.mk Q_OWN
              have h51 : w'.cell? (yp.add i) = some (.int .i64 vx) := HCX.out w' HB.out
              refine value_ (w1 := w') (v := .int .i64 vx) (by rfl) rfl ?_ ?_
              · go_simp
                (try simp only [i64_w])
                try rfl
              refine hK.out _ _ ⟨(by rw [ha.out]; exact putSel_upk 4 hb_ rfl rfl rfl), Q_HB, Q_BK2, Q_BK3, Q_OWN⟩
            refine steps_cons ?_ ?_
            · rintro b a w' ⟨ha, Q_HB, Q_BK2, Q_BK3, Q_OWN⟩ hb_ hon hoff
              refine ⟨_, rfl, fun K hK => ?_⟩
              have e3 : a.tmps[3]? = some (.pointer (some ⟨g3, 0, none⟩)) := by rw [ha]; exact (putSel_off rfl).trans rfl
              replace ha := Aside0.mk ha
              have HB := Aside0.mk Q_HB
              have BK2 := Aside0.mk Q_BK2
              have BK3 := Aside0.mk Q_BK3
              have OWN := Aside0.mk Q_OWN
              refine value_ (w1 := w') (v := .pointer (some ⟨g3, 4, none⟩)) (by rfl) rfl ?_ ?_
              · go_simp
                (try simp only [i64_w])
                try rfl
              refine hK.out _ _ ⟨(by rw [ha.out]; exact putSel_upk 5 hb_ rfl rfl rfl), Q_HB, Q_BK2, Q_BK3, Q_OWN⟩
            refine steps_cons ?_ ?_
            · rintro b a w' ⟨ha, Q_HB, Q_BK2, Q_BK3, Q_OWN⟩ hb_ hon hoff
              refine ⟨_, rfl, fun K hK => ?_⟩
              have e52 : a.tmps[52]? = some (.pointer (some ⟨g3, 4, none⟩)) := by rw [ha]; exact putSel_on (e := (5, 52, .pointer (some ⟨g3, 4, none⟩))) 5 rfl rfl (hon 5 (by kernel_rfl)) rfl
              replace ha := Aside0.mk ha
              have HB := Aside0.mk Q_HB
              have BK2 := Aside0.mk Q_BK2
              have BK3 := Aside0.mk Q_BK3
              have OWN := Aside0.mk Q_OWN
              have hq : w'.cell? ⟨g3, 4, none⟩ = some (.slice (some yq) qm qc) := (blk_cell BK3.out 4).trans rfl
              refine value_ (w1 := w') (v := .slice (some yq) qm qc) (by rfl) rfl ?_ ?_
              · go_simp
                (try simp only [i64_w])
                try rfl
              refine hK.out _ _ ⟨(by rw [ha.out]; exact putSel_upk 6 hb_ rfl rfl rfl), Q_HB, Q_BK2, Q_BK3, Q_OWN⟩
            refine steps_cons ?_ ?_
            · rintro b a w' ⟨ha, Q_HB, Q_BK2, Q_BK3, Q_OWN⟩ hb_ hon hoff
              refine ⟨_, rfl, fun K hK => ?_⟩
              have e6 : a.tmps[6]? = some (.int .i64 (i : Int)) := by rw [ha]; exact (putSel_off rfl).trans rfl
              replace ha := Aside0.mk ha
              have HB := Aside0.mk Q_HB
              have BK2 := Aside0.mk Q_BK2
              have BK3 := Aside0.mk Q_BK3
              have OWN := Aside0.mk Q_OWN
              refine value_ (w1 := w') (v := .int .i64 (i : Int)) (by rfl) rfl ?_ ?_
              · go_simp
                (try simp only [i64_w])
                try rfl
              refine hK.out _ _ ⟨(by rw [ha.out]; exact putSel_upk 7 hb_ rfl rfl rfl), Q_HB, Q_BK2, Q_BK3, Q_OWN⟩
            refine steps_cons ?_ ?_
            · rintro b a w' ⟨ha, Q_HB, Q_BK2, Q_BK3, Q_OWN⟩ hb_ hon hoff
              refine ⟨_, rfl, fun K hK => ?_⟩
              have e53 : a.tmps[53]? = some (.slice (some yq) qm qc) := by rw [ha]; exact putSel_on (e := (6, 53, .slice (some yq) qm qc)) 6 rfl rfl (hon 6 (by kernel_rfl)) rfl
              have e54 : a.tmps[54]? = some (.int .i64 (i : Int)) := by rw [ha]; exact putSel_on (e := (7, 54, .int .i64 (i : Int))) 7 rfl rfl (hon 7 (by kernel_rfl)) rfl
              replace ha := Aside0.mk ha
              have HB := Aside0.mk Q_HB
              have BK2 := Aside0.mk Q_BK2
              have BK3 := Aside0.mk Q_BK3
              have OWN := Aside0.mk Q_OWN
              refine value_ (w1 := w') (v := .pointer (some (yq.add i))) (by rfl) rfl ?_ ?_
              · go_simp
                (try simp only [i64_w])
                try rfl
              refine hK.out _ _ ⟨(by rw [ha.out]; exact putSel_upk 8 hb_ rfl rfl rfl), Q_HB, Q_BK2, Q_BK3, Q_OWN⟩
            refine steps_cons ?_ ?_
            · rintro b a w' ⟨ha, Q_HB, Q_BK2, Q_BK3, Q_OWN⟩ hb_ hon hoff
              refine ⟨_, rfl, fun K hK => ?_⟩
              have e55 : a.tmps[55]? = some (.pointer (some (yq.add i))) := by rw [ha]; exact putSel_on (e := (8, 55, .pointer (some (yq.add i)))) 8 rfl rfl (hon 8 (by kernel_rfl)) rfl
              replace ha := Aside0.mk ha
              have HB := Aside0.mk Q_HB
              have BK2 := Aside0.mk Q_BK2
              have BK3 := Aside0.mk Q_BK3
              have OWN := Aside0.mk Q_OWN
              have h56 : w'.cell? (yq.add i) = some (.int .i64 vy) := HCY.out w' HB.out
              refine value_ (w1 := w') (v := .int .i64 vy) (by rfl) rfl ?_ ?_
              · go_simp
                (try simp only [i64_w])
                try rfl
              refine hK.out _ _ ⟨(by rw [ha.out]; exact putSel_upk 9 hb_ rfl rfl rfl), Q_HB, Q_BK2, Q_BK3, Q_OWN⟩
            refine steps_cons ?_ ?_
            · rintro b a w' ⟨ha, Q_HB, Q_BK2, Q_BK3, Q_OWN⟩ hb_ hon hoff
              refine ⟨_, rfl, fun K hK => ?_⟩
              have e51 : a.tmps[51]? = some (.int .i64 vx) := by rw [ha]; exact putSel_on (e := (4, 51, .int .i64 vx)) 4 rfl rfl (hon 4 (by kernel_rfl)) rfl
              have e56 : a.tmps[56]? = some (.int .i64 vy) := by rw [ha]; exact putSel_on (e := (9, 56, .int .i64 vy)) 9 rfl rfl (hon 9 (by kernel_rfl)) rfl
              replace ha := Aside0.mk ha
              have HB := Aside0.mk Q_HB
              have BK2 := Aside0.mk Q_BK2
              have BK3 := Aside0.mk Q_BK3
              have OWN := Aside0.mk Q_OWN
              refine value_ (w1 := w') (v := .bool (vx != vy)) (by rfl) rfl ?_ ?_
              · go_simp
                (try simp only [i64_w])
                try rfl
              refine hK.out _ _ ⟨(by rw [ha.out]; exact putSel_upk 10 hb_ rfl rfl rfl), Q_HB, Q_BK2, Q_BK3, Q_OWN⟩
            exact steps_nil
          rintro b a wz hall ⟨ha, Q_HB, Q_BK2, Q_BK3, Q_OWN⟩
          clear BK2 BK3 HB OWN
          have hb0_ := hall 0 (by kernel_rfl)
          have hb1_ := hall 1 (by kernel_rfl)
          have hb2_ := hall 2 (by kernel_rfl)
          have hb3_ := hall 3 (by kernel_rfl)
          have hb4_ := hall 4 (by kernel_rfl)
          have hb5_ := hall 5 (by kernel_rfl)
          have hb6_ := hall 6 (by kernel_rfl)
          have hb7_ := hall 7 (by kernel_rfl)
          have hb8_ := hall 8 (by kernel_rfl)
          have hb9_ := hall 9 (by kernel_rfl)
          have hb10_ := hall 10 (by kernel_rfl)
          subst ha
          simp only [putSel, hb0_, hb1_, hb2_, hb3_, hb4_, hb5_, hb6_, hb7_, hb8_, hb9_, hb10_, if_true, Act.put, List.setIfInBounds_toArray, List.set_cons_zero, List.set_cons_succ]
          have HB := Aside0.mk Q_HB
          clear Q_HB
          have BK2 := Aside0.mk Q_BK2
          clear Q_BK2
          have BK3 := Aside0.mk Q_BK3
          clear Q_BK3
          have OWN := Aside0.mk Q_OWN
          clear Q_OWN
          clear hall hb0_ hb1_ hb2_ hb3_ hb4_ hb5_ hb6_ hb7_ hb8_ hb9_ hb10_
          go_upto_region 8 with fail
          refine start_ (n := 20) (S := fun w' => True) (ds := []) #[false, false, false, false, false, false, false, false, false, false, false, false, false, false, false, false, false, false, false, false] (by kernel_rfl) rfl rfl trivial (fun hHeld => ?_)
          refine with_tabW i8.tab8 i8.bits8 (fun HT_ HW_ => ?_)
          refine inv_at [0, 1, 2, 3, 4, 5, 6, 7, 8, 9, 10, 11, 12, 13, 14, 15, 16, 17, 18, 19] (fun a0_ b a w' => ∃ (gz : Nat) (v76 : Value) (m17_ : Value) (m19_ : Value), a = putSel a0_ b [(0, 58, vv), (1, 59, .pointer (some ⟨g2, 0, none⟩)), (2, 60, .int .i64 pa), (3, 61, .int .i64 (i : Int)), (4, 62, .pointer (some ⟨g2, 4, none⟩)), (5, 63, .slice (some yp) pm pc), (6, 64, .int .i64 (i : Int)), (7, 65, .pointer (some (yp.add i))), (8, 66, .int .i64 vx), (9, 67, .int .u64 (IntKind.u64.wrap vx)), (10, 68, .pointer (some ⟨g3, 4, none⟩)), (11, 69, .slice (some yq) qm qc), (12, 70, .int .i64 (i : Int)), (13, 71, .pointer (some (yq.add i))), (14, 72, .int .i64 vy), (15, 73, .int .u64 (IntKind.u64.wrap vy)), (16, 74, .agg #[.int .i64 4, .int .i64 pa, .int .i64 (i : Int), .int .u64 (IntKind.u64.wrap vx), .int .u64 (IntKind.u64.wrap vy)]), (17, 75, m17_), (18, 76, v76), (19, 5, m19_)] ∧ (Below w.heap.size w w') ∧ (w'.heap[g2]? = some (.cells #[.int .i64 pa, .int .i64 pr, .int .i64 ps, .int .i64 pw, .slice (some yp) pm pc, .slice pB pn pd] 40 (0, 0))) ∧ (w'.heap[g3]? = some (.cells #[.int .i64 qa, .int .i64 qr, .int .i64 qs, .int .i64 qw, .slice (some yq) qm qc, .slice qB qn qd] 40 (0, 0))) ∧ (b 18 = false → w'.ownsRow w.heap.size 44 5 vv nn xs) ∧ (b 17 = true → b 18 = false → w'.heap[gz]? = some (.cells #[.int .i64 4, .int .i64 pa, .int .i64 (i : Int), .int .u64 (IntKind.u64.wrap vx), .int .u64 (IntKind.u64.wrap vy)] 44 (0, 0))) ∧ (b 18 = true → w'.ownsRow w.heap.size 44 5 v76 (nn + 1) (xs ++ [Value.int .i64 4, .int .i64 pa, .int .i64 (i : Int), .int .u64 (IntKind.u64.wrap vx), .int .u64 (IntKind.u64.wrap vy)])) ∧ (b 17 = true → (m17_ : Value) = .slice (some ⟨gz, 0, none⟩) 1 1) ∧ (b 19 = true → (m19_ : Value) = v76)) HT_.out HW_.out (by kernel_rfl) (by kernel_rfl) ?_ ?_ ?_
          · exact ⟨0, undef, .bool false, .bool false, by simp only [putSel, Bool.false_eq_true, if_false], below_drew1 HB.out, BK2.out, BK3.out, fun _ => OWN.out, fun h_ => absurd h_ (by decide), fun h_ => absurd h_ (by decide), fun h_ => absurd h_ (by decide), fun h_ => absurd h_ (by decide)⟩
          · skip
            clear BK2 BK3 HB OWN
            refine steps_cons ?_ ?_
            · rintro b a w' ⟨gz, v76, m17_, m19_, ha, Q_HB, Q_BK2, Q_BK3, Q_OWN, Q_BZ, Q_OWN2, Q_X17_, Q_X19_⟩ hb_ hon hoff
              refine ⟨_, rfl, fun K hK => ?_⟩
              have e5 : a.tmps[5]? = some (vv) := by rw [ha]; exact (putSel_not (hoff 19 (by kernel_rfl)) rfl).trans rfl
              replace ha := Aside0.mk ha
              have HB := Aside0.mk Q_HB
              have BK2 := Aside0.mk Q_BK2
              have BK3 := Aside0.mk Q_BK3
              have OWN := Aside0.mk (Q_OWN (hoff 18 (by kernel_rfl)))
              refine value_ (w1 := w') (v := vv) (by rfl) rfl ?_ ?_
              · go_simp
                (try simp only [i64_w])
                try rfl
              refine hK.out _ _ ⟨gz, v76, m17_, m19_, (by rw [ha.out]; exact putSel_upk 0 hb_ rfl rfl rfl), Q_HB, Q_BK2, Q_BK3, Q_OWN, Q_BZ, fun h0_ => absurd ((hoff 18 (by kernel_rfl)).symm.trans h0_) (by decide), Q_X17_, fun h0_ => absurd ((hoff 19 (by kernel_rfl)).symm.trans h0_) (by decide)⟩
            refine steps_cons ?_ ?_
            · rintro b a w' ⟨gz, v76, m17_, m19_, ha, Q_HB, Q_BK2, Q_BK3, Q_OWN, Q_BZ, Q_OWN2, Q_X17_, Q_X19_⟩ hb_ hon hoff
              refine ⟨_, rfl, fun K hK => ?_⟩
              have e2 : a.tmps[2]? = some (.pointer (some ⟨g2, 0, none⟩)) := by rw [ha]; exact (putSel_off rfl).trans rfl
              replace ha := Aside0.mk ha
              have HB := Aside0.mk Q_HB
              have BK2 := Aside0.mk Q_BK2
              have BK3 := Aside0.mk Q_BK3
              have OWN := Aside0.mk (Q_OWN (hoff 18 (by kernel_rfl)))
              refine value_ (w1 := w') (v := .pointer (some ⟨g2, 0, none⟩)) (by rfl) rfl ?_ ?_
              · go_simp
                (try simp only [i64_w])
                try rfl
              refine hK.out _ _ ⟨gz, v76, m17_, m19_, (by rw [ha.out]; exact putSel_upk 1 hb_ rfl rfl rfl), Q_HB, Q_BK2, Q_BK3, Q_OWN, fun h0_ _ => absurd ((hoff 17 (by kernel_rfl)).symm.trans h0_) (by decide), fun h0_ => absurd ((hoff 18 (by kernel_rfl)).symm.trans h0_) (by decide), fun h0_ => absurd ((hoff 17 (by kernel_rfl)).symm.trans h0_) (by decide), fun h0_ => absurd ((hoff 19 (by kernel_rfl)).symm.trans h0_) (by decide)⟩
            refine steps_cons ?_ ?_
            · rintro b a w' ⟨gz, v76, m17_, m19_, ha, Q_HB, Q_BK2, Q_BK3, Q_OWN, Q_BZ, Q_OWN2, Q_X17_, Q_X19_⟩ hb_ hon hoff
              refine ⟨_, rfl, fun K hK => ?_⟩
              have e59 : a.tmps[59]? = some (.pointer (some ⟨g2, 0, none⟩)) := by rw [ha]; exact putSel_on (e := (1, 59, .pointer (some ⟨g2, 0, none⟩))) 1 rfl rfl (hon 1 (by kernel_rfl)) rfl
              replace ha := Aside0.mk ha
              have HB := Aside0.mk Q_HB
              have BK2 := Aside0.mk Q_BK2
              have BK3 := Aside0.mk Q_BK3
              have OWN := Aside0.mk (Q_OWN (hoff 18 (by kernel_rfl)))
              have hc0 : w'.cell? ⟨g2, 0, none⟩ = some (.int .i64 pa) := (blk_cell BK2.out 0).trans rfl
              refine value_ (w1 := w') (v := .int .i64 pa) (by rfl) rfl ?_ ?_
              · go_simp
                (try simp only [i64_w])
                try rfl
              refine hK.out _ _ ⟨gz, v76, m17_, m19_, (by rw [ha.out]; exact putSel_upk 2 hb_ rfl rfl rfl), Q_HB, Q_BK2, Q_BK3, Q_OWN, fun h0_ _ => absurd ((hoff 17 (by kernel_rfl)).symm.trans h0_) (by decide), fun h0_ => absurd ((hoff 18 (by kernel_rfl)).symm.trans h0_) (by decide), fun h0_ => absurd ((hoff 17 (by kernel_rfl)).symm.trans h0_) (by decide), fun h0_ => absurd ((hoff 19 (by kernel_rfl)).symm.trans h0_) (by decide)⟩
            refine steps_cons ?_ ?_
            · rintro b a w' ⟨gz, v76, m17_, m19_, ha, Q_HB, Q_BK2, Q_BK3, Q_OWN, Q_BZ, Q_OWN2, Q_X17_, Q_X19_⟩ hb_ hon hoff
              refine ⟨_, rfl, fun K hK => ?_⟩
              have e6 : a.tmps[6]? = some (.int .i64 (i : Int)) := by rw [ha]; exact (putSel_off rfl).trans rfl
              replace ha := Aside0.mk ha
              have HB := Aside0.mk Q_HB
              have BK2 := Aside0.mk Q_BK2
              have BK3 := Aside0.mk Q_BK3
              have OWN := Aside0.mk (Q_OWN (hoff 18 (by kernel_rfl)))
              refine value_ (w1 := w') (v := .int .i64 (i : Int)) (by rfl) rfl ?_ ?_
              · go_simp
                (try simp only [i64_w])
                try rfl
              refine hK.out _ _ ⟨gz, v76, m17_, m19_, (by rw [ha.out]; exact putSel_upk 3 hb_ rfl rfl rfl), Q_HB, Q_BK2, Q_BK3, Q_OWN, fun h0_ _ => absurd ((hoff 17 (by kernel_rfl)).symm.trans h0_) (by decide), fun h0_ => absurd ((hoff 18 (by kernel_rfl)).symm.trans h0_) (by decide), fun h0_ => absurd ((hoff 17 (by kernel_rfl)).symm.trans h0_) (by decide), fun h0_ => absurd ((hoff 19 (by kernel_rfl)).symm.trans h0_) (by decide)⟩
            refine steps_cons ?_ ?_
            · rintro b a w' ⟨gz, v76, m17_, m19_, ha, Q_HB, Q_BK2, Q_BK3, Q_OWN, Q_BZ, Q_OWN2, Q_X17_, Q_X19_⟩ hb_ hon hoff
              refine ⟨_, rfl, fun K hK => ?_⟩
              have e2 : a.tmps[2]? = some (.pointer (some ⟨g2, 0, none⟩)) := by rw [ha]; exact (putSel_off rfl).trans rfl
              replace ha := Aside0.mk ha
              have HB := Aside0.mk Q_HB
              have BK2 := Aside0.mk Q_BK2
              have BK3 := Aside0.mk Q_BK3
              have OWN := Aside0.mk (Q_OWN (hoff 18 (by kernel_rfl)))
              refine value_ (w1 := w') (v := .pointer (some ⟨g2, 4, none⟩)) (by rfl) rfl ?_ ?_
              · go_simp
                (try simp only [i64_w])
                try rfl
              refine hK.out _ _ ⟨gz, v76, m17_, m19_, (by rw [ha.out]; exact putSel_upk 4 hb_ rfl rfl rfl), Q_HB, Q_BK2, Q_BK3, Q_OWN, fun h0_ _ => absurd ((hoff 17 (by kernel_rfl)).symm.trans h0_) (by decide), fun h0_ => absurd ((hoff 18 (by kernel_rfl)).symm.trans h0_) (by decide), fun h0_ => absurd ((hoff 17 (by kernel_rfl)).symm.trans h0_) (by decide), fun h0_ => absurd ((hoff 19 (by kernel_rfl)).symm.trans h0_) (by decide)⟩
            refine steps_cons ?_ ?_
            · rintro b a w' ⟨gz, v76, m17_, m19_, ha, Q_HB, Q_BK2, Q_BK3, Q_OWN, Q_BZ, Q_OWN2, Q_X17_, Q_X19_⟩ hb_ hon hoff
              refine ⟨_, rfl, fun K hK => ?_⟩
              have e62 : a.tmps[62]? = some (.pointer (some ⟨g2, 4, none⟩)) := by rw [ha]; exact putSel_on (e := (4, 62, .pointer (some ⟨g2, 4, none⟩))) 4 rfl rfl (hon 4 (by kernel_rfl)) rfl
              replace ha := Aside0.mk ha
              have HB := Aside0.mk Q_HB
              have BK2 := Aside0.mk Q_BK2
              have BK3 := Aside0.mk Q_BK3
              have OWN := Aside0.mk (Q_OWN (hoff 18 (by kernel_rfl)))
              have hp : w'.cell? ⟨g2, 4, none⟩ = some (.slice (some yp) pm pc) := (blk_cell BK2.out 4).trans rfl
              refine value_ (w1 := w') (v := .slice (some yp) pm pc) (by rfl) rfl ?_ ?_
              · go_simp
                (try simp only [i64_w])
                try rfl
              refine hK.out _ _ ⟨gz, v76, m17_, m19_, (by rw [ha.out]; exact putSel_upk 5 hb_ rfl rfl rfl), Q_HB, Q_BK2, Q_BK3, Q_OWN, fun h0_ _ => absurd ((hoff 17 (by kernel_rfl)).symm.trans h0_) (by decide), fun h0_ => absurd ((hoff 18 (by kernel_rfl)).symm.trans h0_) (by decide), fun h0_ => absurd ((hoff 17 (by kernel_rfl)).symm.trans h0_) (by decide), fun h0_ => absurd ((hoff 19 (by kernel_rfl)).symm.trans h0_) (by decide)⟩
            refine steps_cons ?_ ?_
            · rintro b a w' ⟨gz, v76, m17_, m19_, ha, Q_HB, Q_BK2, Q_BK3, Q_OWN, Q_BZ, Q_OWN2, Q_X17_, Q_X19_⟩ hb_ hon hoff
              refine ⟨_, rfl, fun K hK => ?_⟩
              have e6 : a.tmps[6]? = some (.int .i64 (i : Int)) := by rw [ha]; exact (putSel_off rfl).trans rfl
              replace ha := Aside0.mk ha
              have HB := Aside0.mk Q_HB
              have BK2 := Aside0.mk Q_BK2
              have BK3 := Aside0.mk Q_BK3
              have OWN := Aside0.mk (Q_OWN (hoff 18 (by kernel_rfl)))
              refine value_ (w1 := w') (v := .int .i64 (i : Int)) (by rfl) rfl ?_ ?_
              · go_simp
                (try simp only [i64_w])
                try rfl
              refine hK.out _ _ ⟨gz, v76, m17_, m19_, (by rw [ha.out]; exact putSel_upk 6 hb_ rfl rfl rfl), Q_HB, Q_BK2, Q_BK3, Q_OWN, fun h0_ _ => absurd ((hoff 17 (by kernel_rfl)).symm.trans h0_) (by decide), fun h0_ => absurd ((hoff 18 (by kernel_rfl)).symm.trans h0_) (by decide), fun h0_ => absurd ((hoff 17 (by kernel_rfl)).symm.trans h0_) (by decide), fun h0_ => absurd ((hoff 19 (by kernel_rfl)).symm.trans h0_) (by decide)⟩
            refine steps_cons ?_ ?_
            · rintro b a w' ⟨gz, v76, m17_, m19_, ha, Q_HB, Q_BK2, Q_BK3, Q_OWN, Q_BZ, Q_OWN2, Q_X17_, Q_X19_⟩ hb_ hon hoff
              refine ⟨_, rfl, fun K hK => ?_⟩
              have e63 : a.tmps[63]? = some (.slice (some yp) pm pc) := by rw [ha]; exact putSel_on (e := (5, 63, .slice (some yp) pm pc)) 5 rfl rfl (hon 5 (by kernel_rfl)) rfl
              have e64 : a.tmps[64]? = some (.int .i64 (i : Int)) := by rw [ha]; exact putSel_on (e := (6, 64, .int .i64 (i : Int))) 6 rfl rfl (hon 6 (by kernel_rfl)) rfl
              replace ha := Aside0.mk ha
              have HB := Aside0.mk Q_HB
              have BK2 := Aside0.mk Q_BK2
              have BK3 := Aside0.mk Q_BK3
              have OWN := Aside0.mk (Q_OWN (hoff 18 (by kernel_rfl)))
              refine value_ (w1 := w') (v := .pointer (some (yp.add i))) (by rfl) rfl ?_ ?_
              · go_simp
                (try simp only [i64_w])
                try rfl
              refine hK.out _ _ ⟨gz, v76, m17_, m19_, (by rw [ha.out]; exact putSel_upk 7 hb_ rfl rfl rfl), Q_HB, Q_BK2, Q_BK3, Q_OWN, fun h0_ _ => absurd ((hoff 17 (by kernel_rfl)).symm.trans h0_) (by decide), fun h0_ => absurd ((hoff 18 (by kernel_rfl)).symm.trans h0_) (by decide), fun h0_ => absurd ((hoff 17 (by kernel_rfl)).symm.trans h0_) (by decide), fun h0_ => absurd ((hoff 19 (by kernel_rfl)).symm.trans h0_) (by decide)⟩
            refine steps_cons ?_ ?_
            · rintro b a w' ⟨gz, v76, m17_, m19_, ha, Q_HB, Q_BK2, Q_BK3, Q_OWN, Q_BZ, Q_OWN2, Q_X17_, Q_X19_⟩ hb_ hon hoff
              refine ⟨_, rfl, fun K hK => ?_⟩
              have e65 : a.tmps[65]? = some (.pointer (some (yp.add i))) := by rw [ha]; exact putSel_on (e := (7, 65, .pointer (some (yp.add i)))) 7 rfl rfl (hon 7 (by kernel_rfl)) rfl
              replace ha := Aside0.mk ha
              have HB := Aside0.mk Q_HB
              have BK2 := Aside0.mk Q_BK2
              have BK3 := Aside0.mk Q_BK3
              have OWN := Aside0.mk (Q_OWN (hoff 18 (by kernel_rfl)))
              have h66 : w'.cell? (yp.add i) = some (.int .i64 vx) := HCX.out w' HB.out
              refine value_ (w1 := w') (v := .int .i64 vx) (by rfl) rfl ?_ ?_
              · go_simp
                (try simp only [i64_w])
                try rfl
              refine hK.out _ _ ⟨gz, v76, m17_, m19_, (by rw [ha.out]; exact putSel_upk 8 hb_ rfl rfl rfl), Q_HB, Q_BK2, Q_BK3, Q_OWN, fun h0_ _ => absurd ((hoff 17 (by kernel_rfl)).symm.trans h0_) (by decide), fun h0_ => absurd ((hoff 18 (by kernel_rfl)).symm.trans h0_) (by decide), fun h0_ => absurd ((hoff 17 (by kernel_rfl)).symm.trans h0_) (by decide), fun h0_ => absurd ((hoff 19 (by kernel_rfl)).symm.trans h0_) (by decide)⟩
            refine steps_cons ?_ ?_
            · rintro b a w' ⟨gz, v76, m17_, m19_, ha, Q_HB, Q_BK2, Q_BK3, Q_OWN, Q_BZ, Q_OWN2, Q_X17_, Q_X19_⟩ hb_ hon hoff
              refine ⟨_, rfl, fun K hK => ?_⟩
              have e66 : a.tmps[66]? = some (.int .i64 vx) := by rw [ha]; exact putSel_on (e := (8, 66, .int .i64 vx)) 8 rfl rfl (hon 8 (by kernel_rfl)) rfl
              replace ha := Aside0.mk ha
              have HB := Aside0.mk Q_HB
              have BK2 := Aside0.mk Q_BK2
              have BK3 := Aside0.mk Q_BK3
              have OWN := Aside0.mk (Q_OWN (hoff 18 (by kernel_rfl)))
              refine value_ (w1 := w') (v := .int .u64 (IntKind.u64.wrap vx)) (by rfl) rfl ?_ ?_
              · go_simp
                (try simp only [i64_w])
                try rfl
              refine hK.out _ _ ⟨gz, v76, m17_, m19_, (by rw [ha.out]; exact putSel_upk 9 hb_ rfl rfl rfl), Q_HB, Q_BK2, Q_BK3, Q_OWN, fun h0_ _ => absurd ((hoff 17 (by kernel_rfl)).symm.trans h0_) (by decide), fun h0_ => absurd ((hoff 18 (by kernel_rfl)).symm.trans h0_) (by decide), fun h0_ => absurd ((hoff 17 (by kernel_rfl)).symm.trans h0_) (by decide), fun h0_ => absurd ((hoff 19 (by kernel_rfl)).symm.trans h0_) (by decide)⟩
            refine steps_cons ?_ ?_
            · rintro b a w' ⟨gz, v76, m17_, m19_, ha, Q_HB, Q_BK2, Q_BK3, Q_OWN, Q_BZ, Q_OWN2, Q_X17_, Q_X19_⟩ hb_ hon hoff
              refine ⟨_, rfl, fun K hK => ?_⟩
              have e3 : a.tmps[3]? = some (.pointer (some ⟨g3, 0, none⟩)) := by rw [ha]; exact (putSel_off rfl).trans rfl
              replace ha := Aside0.mk ha
              have HB := Aside0.mk Q_HB
              have BK2 := Aside0.mk Q_BK2
              have BK3 := Aside0.mk Q_BK3
              have OWN := Aside0.mk (Q_OWN (hoff 18 (by kernel_rfl)))
              refine value_ (w1 := w') (v := .pointer (some ⟨g3, 4, none⟩)) (by rfl) rfl ?_ ?_
              · go_simp
                (try simp only [i64_w])
                try rfl
              refine hK.out _ _ ⟨gz, v76, m17_, m19_, (by rw [ha.out]; exact putSel_upk 10 hb_ rfl rfl rfl), Q_HB, Q_BK2, Q_BK3, Q_OWN, fun h0_ _ => absurd ((hoff 17 (by kernel_rfl)).symm.trans h0_) (by decide), fun h0_ => absurd ((hoff 18 (by kernel_rfl)).symm.trans h0_) (by decide), fun h0_ => absurd ((hoff 17 (by kernel_rfl)).symm.trans h0_) (by decide), fun h0_ => absurd ((hoff 19 (by kernel_rfl)).symm.trans h0_) (by decide)⟩
            refine steps_cons ?_ ?_
            · rintro b a w' ⟨gz, v76, m17_, m19_, ha, Q_HB, Q_BK2, Q_BK3, Q_OWN, Q_BZ, Q_OWN2, Q_X17_, Q_X19_⟩ hb_ hon hoff
              refine ⟨_, rfl, fun K hK => ?_⟩
              have e68 : a.tmps[68]? = some (.pointer (some ⟨g3, 4, none⟩)) := by rw [ha]; exact putSel_on (e := (10, 68, .pointer (some ⟨g3, 4, none⟩))) 10 rfl rfl (hon 10 (by kernel_rfl)) rfl
              replace ha := Aside0.mk ha
              have HB := Aside0.mk Q_HB
              have BK2 := Aside0.mk Q_BK2
              have BK3 := Aside0.mk Q_BK3
              have OWN := Aside0.mk (Q_OWN (hoff 18 (by kernel_rfl)))
              have hq : w'.cell? ⟨g3, 4, none⟩ = some (.slice (some yq) qm qc) := (blk_cell BK3.out 4).trans rfl
              refine value_ (w1 := w') (v := .slice (some yq) qm qc) (by rfl) rfl ?_ ?_
              · go_simp
                (try simp only [i64_w])
                try rfl
              refine hK.out _ _ ⟨gz, v76, m17_, m19_, (by rw [ha.out]; exact putSel_upk 11 hb_ rfl rfl rfl), Q_HB, Q_BK2, Q_BK3, Q_OWN, fun h0_ _ => absurd ((hoff 17 (by kernel_rfl)).symm.trans h0_) (by decide), fun h0_ => absurd ((hoff 18 (by kernel_rfl)).symm.trans h0_) (by decide), fun h0_ => absurd ((hoff 17 (by kernel_rfl)).symm.trans h0_) (by decide), fun h0_ => absurd ((hoff 19 (by kernel_rfl)).symm.trans h0_) (by decide)⟩
            refine steps_cons ?_ ?_
            · rintro b a w' ⟨gz, v76, m17_, m19_, ha, Q_HB, Q_BK2, Q_BK3, Q_OWN, Q_BZ, Q_OWN2, Q_X17_, Q_X19_⟩ hb_ hon hoff
              refine ⟨_, rfl, fun K hK => ?_⟩
              have e6 : a.tmps[6]? = some (.int .i64 (i : Int)) := by rw [ha]; exact (putSel_off rfl).trans rfl
              replace ha := Aside0.mk ha
              have HB := Aside0.mk Q_HB
              have BK2 := Aside0.mk Q_BK2
              have BK3 := Aside0.mk Q_BK3
              have OWN := Aside0.mk (Q_OWN (hoff 18 (by kernel_rfl)))
              refine value_ (w1 := w') (v := .int .i64 (i : Int)) (by rfl) rfl ?_ ?_
              · go_simp
                (try simp only [i64_w])
                try rfl
              refine hK.out _ _ ⟨gz, v76, m17_, m19_, (by rw [ha.out]; exact putSel_upk 12 hb_ rfl rfl rfl), Q_HB, Q_BK2, Q_BK3, Q_OWN, fun h0_ _ => absurd ((hoff 17 (by kernel_rfl)).symm.trans h0_) (by decide), fun h0_ => absurd ((hoff 18 (by kernel_rfl)).symm.trans h0_) (by decide), fun h0_ => absurd ((hoff 17 (by kernel_rfl)).symm.trans h0_) (by decide), fun h0_ => absurd ((hoff 19 (by kernel_rfl)).symm.trans h0_) (by decide)⟩
            refine steps_cons ?_ ?_
            · rintro b a w' ⟨gz, v76, m17_, m19_, ha, Q_HB, Q_BK2, Q_BK3, Q_OWN, Q_BZ, Q_OWN2, Q_X17_, Q_X19_⟩ hb_ hon hoff
              refine ⟨_, rfl, fun K hK => ?_⟩
              have e69 : a.tmps[69]? = some (.slice (some yq) qm qc) := by rw [ha]; exact putSel_on (e := (11, 69, .slice (some yq) qm qc)) 11 rfl rfl (hon 11 (by kernel_rfl)) rfl
              have e70 : a.tmps[70]? = some (.int .i64 (i : Int)) := by rw [ha]; exact putSel_on (e := (12, 70, .int .i64 (i : Int))) 12 rfl rfl (hon 12 (by kernel_rfl)) rfl
              replace ha := Aside0.mk ha
              have HB := Aside0.mk Q_HB
              have BK2 := Aside0.mk Q_BK2
              have BK3 := Aside0.mk Q_BK3
              have OWN := Aside0.mk (Q_OWN (hoff 18 (by kernel_rfl)))
              refine value_ (w1 := w') (v := .pointer (some (yq.add i))) (by rfl) rfl ?_ ?_
              · go_simp
                (try simp only [i64_w])
                try rfl
              refine hK.out _ _ ⟨gz, v76, m17_, m19_, (by rw [ha.out]; exact putSel_upk 13 hb_ rfl rfl rfl), Q_HB, Q_BK2, Q_BK3, Q_OWN, fun h0_ _ => absurd ((hoff 17 (by kernel_rfl)).symm.trans h0_) (by decide), fun h0_ => absurd ((hoff 18 (by kernel_rfl)).symm.trans h0_) (by decide), fun h0_ => absurd ((hoff 17 (by kernel_rfl)).symm.trans h0_) (by decide), fun h0_ => absurd ((hoff 19 (by kernel_rfl)).symm.trans h0_) (by decide)⟩
            refine steps_cons ?_ ?_
            · rintro b a w' ⟨gz, v76, m17_, m19_, ha, Q_HB, Q_BK2, Q_BK3, Q_OWN, Q_BZ, Q_OWN2, Q_X17_, Q_X19_⟩ hb_ hon hoff
              refine ⟨_, rfl, fun K hK => ?_⟩
              have e71 : a.tmps[71]? = some (.pointer (some (yq.add i))) := by rw [ha]; exact putSel_on (e := (13, 71, .pointer (some (yq.add i)))) 13 rfl rfl (hon 13 (by kernel_rfl)) rfl
              replace ha := Aside0.mk ha
              have HB := Aside0.mk Q_HB
              have BK2 := Aside0.mk Q_BK2
              have BK3 := Aside0.mk Q_BK3
              have OWN := Aside0.mk (Q_OWN (hoff 18 (by kernel_rfl)))
              have h72 : w'.cell? (yq.add i) = some (.int .i64 vy) := HCY.out w' HB.out
              refine value_ (w1 := w') (v := .int .i64 vy) (by rfl) rfl ?_ ?_
              · go_simp
                (try simp only [i64_w])
                try rfl
              refine hK.out _ _ ⟨gz, v76, m17_, m19_, (by rw [ha.out]; exact putSel_upk 14 hb_ rfl rfl rfl), Q_HB, Q_BK2, Q_BK3, Q_OWN, fun h0_ _ => absurd ((hoff 17 (by kernel_rfl)).symm.trans h0_) (by decide), fun h0_ => absurd ((hoff 18 (by kernel_rfl)).symm.trans h0_) (by decide), fun h0_ => absurd ((hoff 17 (by kernel_rfl)).symm.trans h0_) (by decide), fun h0_ => absurd ((hoff 19 (by kernel_rfl)).symm.trans h0_) (by decide)⟩
            refine steps_cons ?_ ?_
            · rintro b a w' ⟨gz, v76, m17_, m19_, ha, Q_HB, Q_BK2, Q_BK3, Q_OWN, Q_BZ, Q_OWN2, Q_X17_, Q_X19_⟩ hb_ hon hoff
              refine ⟨_, rfl, fun K hK => ?_⟩
              have e72 : a.tmps[72]? = some (.int .i64 vy) := by rw [ha]; exact putSel_on (e := (14, 72, .int .i64 vy)) 14 rfl rfl (hon 14 (by kernel_rfl)) rfl
              replace ha := Aside0.mk ha
              have HB := Aside0.mk Q_HB
              have BK2 := Aside0.mk Q_BK2
              have BK3 := Aside0.mk Q_BK3
              have OWN := Aside0.mk (Q_OWN (hoff 18 (by kernel_rfl)))
              refine value_ (w1 := w') (v := .int .u64 (IntKind.u64.wrap vy)) (by rfl) rfl ?_ ?_
              · go_simp
                (try simp only [i64_w])
                try rfl
              refine hK.out _ _ ⟨gz, v76, m17_, m19_, (by rw [ha.out]; exact putSel_upk 15 hb_ rfl rfl rfl), Q_HB, Q_BK2, Q_BK3, Q_OWN, fun h0_ _ => absurd ((hoff 17 (by kernel_rfl)).symm.trans h0_) (by decide), fun h0_ => absurd ((hoff 18 (by kernel_rfl)).symm.trans h0_) (by decide), fun h0_ => absurd ((hoff 17 (by kernel_rfl)).symm.trans h0_) (by decide), fun h0_ => absurd ((hoff 19 (by kernel_rfl)).symm.trans h0_) (by decide)⟩
            refine steps_cons ?_ ?_
            · rintro b a w' ⟨gz, v76, m17_, m19_, ha, Q_HB, Q_BK2, Q_BK3, Q_OWN, Q_BZ, Q_OWN2, Q_X17_, Q_X19_⟩ hb_ hon hoff
              refine ⟨_, rfl, fun K hK => ?_⟩
              have e60 : a.tmps[60]? = some (.int .i64 pa) := by rw [ha]; exact putSel_on (e := (2, 60, .int .i64 pa)) 2 rfl rfl (hon 2 (by kernel_rfl)) rfl
              have e61 : a.tmps[61]? = some (.int .i64 (i : Int)) := by rw [ha]; exact putSel_on (e := (3, 61, .int .i64 (i : Int))) 3 rfl rfl (hon 3 (by kernel_rfl)) rfl
              have e67 : a.tmps[67]? = some (.int .u64 (IntKind.u64.wrap vx)) := by rw [ha]; exact putSel_on (e := (9, 67, .int .u64 (IntKind.u64.wrap vx))) 9 rfl rfl (hon 9 (by kernel_rfl)) rfl
              have e73 : a.tmps[73]? = some (.int .u64 (IntKind.u64.wrap vy)) := by rw [ha]; exact putSel_on (e := (15, 73, .int .u64 (IntKind.u64.wrap vy))) 15 rfl rfl (hon 15 (by kernel_rfl)) rfl
              replace ha := Aside0.mk ha
              have HB := Aside0.mk Q_HB
              have BK2 := Aside0.mk Q_BK2
              have BK3 := Aside0.mk Q_BK3
              have OWN := Aside0.mk (Q_OWN (hoff 18 (by kernel_rfl)))
              refine value_ (w1 := w') (v := .agg #[.int .i64 4, .int .i64 pa, .int .i64 (i : Int), .int .u64 (IntKind.u64.wrap vx), .int .u64 (IntKind.u64.wrap vy)]) (by rfl) rfl ?_ ?_
              · go_simp
                (try simp only [i64_w])
                try rfl
              refine hK.out _ _ ⟨gz, v76, m17_, m19_, (by rw [ha.out]; exact putSel_upk 16 hb_ rfl rfl rfl), Q_HB, Q_BK2, Q_BK3, Q_OWN, fun h0_ _ => absurd ((hoff 17 (by kernel_rfl)).symm.trans h0_) (by decide), fun h0_ => absurd ((hoff 18 (by kernel_rfl)).symm.trans h0_) (by decide), fun h0_ => absurd ((hoff 17 (by kernel_rfl)).symm.trans h0_) (by decide), fun h0_ => absurd ((hoff 19 (by kernel_rfl)).symm.trans h0_) (by decide)⟩
            refine steps_cons ?_ ?_
            · rintro b a w' ⟨gz, v76, m17_, m19_, ha, Q_HB, Q_BK2, Q_BK3, Q_OWN, Q_BZ, Q_OWN2, Q_X17_, Q_X19_⟩ hb_ hon hoff
              refine ⟨_, rfl, fun K hK => ?_⟩
              have e74 : a.tmps[74]? = some (.agg #[.int .i64 4, .int .i64 pa, .int .i64 (i : Int), .int .u64 (IntKind.u64.wrap vx), .int .u64 (IntKind.u64.wrap vy)]) := by rw [ha]; exact putSel_on (e := (16, 74, .agg #[.int .i64 4, .int .i64 pa, .int .i64 (i : Int), .int .u64 (IntKind.u64.wrap vx), .int .u64 (IntKind.u64.wrap vy)])) 16 rfl rfl (hon 16 (by kernel_rfl)) rfl
              replace ha := Aside0.mk ha
              have HB := Aside0.mk Q_HB
              have BK2 := Aside0.mk Q_BK2
              have BK3 := Aside0.mk Q_BK3
              have OWN := Aside0.mk (Q_OWN (hoff 18 (by kernel_rfl)))
              refine value_ (w1 := ?_) (v := ?_) (by rfl) rfl ?_ ?_
              rotate_left 2
              · go_simp
                constructor
                · rfl
                · rfl
              have hb := below_alloc (Below.refl w'.heap.size w') (.cells #[.int .i64 4, .int .i64 pa, .int .i64 (i : Int), .int .u64 (IntKind.u64.wrap vx), .int .u64 (IntKind.u64.wrap vy)] 44)
              refine hK.out _ _ ⟨w'.heap.size, v76, (.slice (some ⟨w'.heap.size, 0, none⟩) 1 1), m19_, (by rw [ha.out]; exact putSel_upk 17 hb_ rfl rfl rfl), (below_step HB.out hb), (blk_below BK2.out hb), (blk_below BK3.out hb), fun _ => (Di.row_below OWN.out hb), fun _ _ => (blk_new w' (.cells #[.int .i64 4, .int .i64 pa, .int .i64 (i : Int), .int .u64 (IntKind.u64.wrap vx), .int .u64 (IntKind.u64.wrap vy)] 44)), fun h0_ => absurd ((hoff 18 (by kernel_rfl)).symm.trans h0_) (by decide), fun _ => rfl, fun h0_ => absurd ((hoff 19 (by kernel_rfl)).symm.trans h0_) (by decide)⟩
            refine steps_cons ?_ ?_
            · rintro b a w' ⟨gz, v76, m17_, m19_, ha, Q_HB, Q_BK2, Q_BK3, Q_OWN, Q_BZ, Q_OWN2, Q_X17_, Q_X19_⟩ hb_ hon hoff
              refine ⟨_, rfl, fun K hK => ?_⟩
              have e58 : a.tmps[58]? = some (vv) := by rw [ha]; exact putSel_on (e := (0, 58, vv)) 0 rfl rfl (hon 0 (by kernel_rfl)) rfl
              have e75 : a.tmps[75]? = some (m17_) := by rw [ha]; exact putSel_on (e := (17, 75, m17_)) 17 rfl rfl (hon 17 (by kernel_rfl)) rfl
              rw [Q_X17_ (hon 17 (by kernel_rfl))] at e75
              replace ha := Aside0.mk ha
              have HB := Aside0.mk Q_HB
              have BK2 := Aside0.mk Q_BK2
              have BK3 := Aside0.mk Q_BK3
              have OWN := Aside0.mk (Q_OWN hb_)
              have BZ := Aside0.mk (Q_BZ (hon 17 (by kernel_rfl)) hb_)
              refine append_ (by rfl) rfl (.tmp 58) (.tmp 75) 26 rfl w.heap.size 44 i0 (.agg #[.int .i64 0, .int .i64 0, .int .i64 0, .int .u64 0, .int .u64 0]) 5 40 Try.underlying26 hi hz0 hz1 hz2 rfl (by decide) vv nn xs ?qs1 OWN.out ⟨gz, 0, none⟩ 1 1 [Value.int .i64 4, .int .i64 pa, .int .i64 (i : Int), .int .u64 (IntKind.u64.wrap vx), .int .u64 (IntKind.u64.wrap vy)] ?qx1 rfl (ch_cells BZ.out) ?qo1 (by unfold maxLen; omega) (by omega) (below_size HB.out) ?_
              (case qs1 => simp [Act.eval, e58])
              (case qx1 => simp [Act.eval, e75])
              (case qo1 => intro u hu; simp at hu; rcases hu with rfl | rfl | rfl | rfl | rfl <;> rfl)
              intro v9 w9 hown9 hgr9
              refine hK.out _ _ ⟨gz, v9, m17_, m19_, (by rw [ha.out]; exact putSel_upk 18 hb_ rfl rfl rfl), (own_below HB.out (Nat.le_refl _) OWN.out hgr9), (own_keeps OWN.out hgr9 BK2.out (by decide)), (own_keeps OWN.out hgr9 BK3.out (by decide)), fun h0_ => absurd ((up_self b 18).symm.trans h0_) (by decide), fun _ h1_ => absurd ((up_self b 18).symm.trans h1_) (by decide), fun _ => hown9, Q_X17_, fun h0_ => absurd ((hoff 19 (by kernel_rfl)).symm.trans h0_) (by decide)⟩
            refine steps_cons ?_ ?_
            · rintro b a w' ⟨gz, v76, m17_, m19_, ha, Q_HB, Q_BK2, Q_BK3, Q_OWN, Q_BZ, Q_OWN2, Q_X17_, Q_X19_⟩ hb_ hon hoff
              refine ⟨_, rfl, fun K hK => ?_⟩
              have e76 : a.tmps[76]? = some (v76) := by rw [ha]; exact putSel_on (e := (18, 76, v76)) 18 rfl rfl (hon 18 (by kernel_rfl)) rfl
              replace ha := Aside0.mk ha
              have HB := Aside0.mk Q_HB
              have BK2 := Aside0.mk Q_BK2
              have BK3 := Aside0.mk Q_BK3
              have OWN2 := Aside0.mk (Q_OWN2 (hon 18 (by kernel_rfl)))
              refine value_ (w1 := w') (v := v76) (by rfl) rfl ?_ ?_
              · go_simp
                (try simp only [i64_w])
                try rfl
              refine hK.out _ _ ⟨gz, v76, m17_, (v76), (by rw [ha.out]; exact putSel_upk 19 hb_ rfl rfl rfl), Q_HB, Q_BK2, Q_BK3, fun h0_ => absurd ((hon 18 (by kernel_rfl)).symm.trans h0_) (by decide), fun _ h1_ => absurd ((hon 18 (by kernel_rfl)).symm.trans h1_) (by decide), Q_OWN2, Q_X17_, fun _ => rfl⟩
            exact steps_nil
          rintro b a wy hall ⟨gz, v76, m17_, m19_, ha, Q_HB, Q_BK2, Q_BK3, Q_OWN, Q_BZ, Q_OWN2, Q_X17_, Q_X19_⟩
          clear BK2 BK3 HB OWN
          have hb0_ := hall 0 (by kernel_rfl)
          have hb1_ := hall 1 (by kernel_rfl)
          have hb2_ := hall 2 (by kernel_rfl)
          have hb3_ := hall 3 (by kernel_rfl)
          have hb4_ := hall 4 (by kernel_rfl)
          have hb5_ := hall 5 (by kernel_rfl)
          have hb6_ := hall 6 (by kernel_rfl)
          have hb7_ := hall 7 (by kernel_rfl)
          have hb8_ := hall 8 (by kernel_rfl)
          have hb9_ := hall 9 (by kernel_rfl)
          have hb10_ := hall 10 (by kernel_rfl)
          have hb11_ := hall 11 (by kernel_rfl)
          have hb12_ := hall 12 (by kernel_rfl)
          have hb13_ := hall 13 (by kernel_rfl)
          have hb14_ := hall 14 (by kernel_rfl)
          have hb15_ := hall 15 (by kernel_rfl)
          have hb16_ := hall 16 (by kernel_rfl)
          have hb17_ := hall 17 (by kernel_rfl)
          have hb18_ := hall 18 (by kernel_rfl)
          have hb19_ := hall 19 (by kernel_rfl)
          subst ha
          obtain rfl := Q_X17_ hb17_
          obtain rfl := Q_X19_ hb19_
          simp only [putSel, hb0_, hb1_, hb2_, hb3_, hb4_, hb5_, hb6_, hb7_, hb8_, hb9_, hb10_, hb11_, hb12_, hb13_, hb14_, hb15_, hb16_, hb17_, hb18_, hb19_, if_true, Act.put, List.setIfInBounds_toArray, List.set_cons_zero, List.set_cons_succ]
          have HB := Aside0.mk Q_HB
          clear Q_HB
          have BK2 := Aside0.mk Q_BK2
          clear Q_BK2
          have BK3 := Aside0.mk Q_BK3
          clear Q_BK3
          clear Q_OWN
          clear Q_BZ
          have OWN2 := Aside0.mk (Q_OWN2 hb18_)
          clear Q_OWN2
          clear hall hb0_ hb1_ hb2_ hb3_ hb4_ hb5_ hb6_ hb7_ hb8_ hb9_ hb10_ hb11_ hb12_ hb13_ hb14_ hb15_ hb16_ hb17_ hb18_ hb19_
          go_wp2
          refine ⟨⟨_, i + 1, rfl, by omega, by push_cast; rfl, Aside0.mk (by
            have e1 : slotsTo (⟨pa, pr, ps, pw, some yp, pm, pc, pB, pn, pd, pS, pT⟩ : Nd) (⟨qa, qr, qs, qw, some yq, qm, qc, qB, qn, qd, qS, qT⟩ : Nd) (i + 1) = (slotsTo (⟨pa, pr, ps, pw, some yp, pm, pc, pB, pn, pd, pS, pT⟩ : Nd) (⟨qa, qr, qs, qw, some yq, qm, qc, qB, qn, qd, qS, qT⟩ : Nd) i) ++ [⟨4, pa, (i : Int), IntKind.u64.wrap vx, IntKind.u64.wrap vy⟩] := by
              rw [slots_ne (x := (⟨pa, pr, ps, pw, some yp, pm, pc, pB, pn, pd, pS, pT⟩ : Nd)) (y := (⟨qa, qr, qs, qw, some yq, qm, qc, qB, qn, qd, qS, qT⟩ : Nd)) HXY.out, HVX.out, HVY.out]
            rw [e1, List.length_append, ← HNN.out, chs_snoc, ← HXS.out]
            exact OWN2.out), HB, BK2, BK3⟩, ?_⟩
          show pm - ((i : Int) + 1).toNat < pm - (i : Int).toNat
          omega
      · obtain rfl : pm = i := by omega
        have hd : decide ((pm : Int) < (pm : Int)) = false := decide_eq_false (by omega)
        have hl2_5 : wr.cell? ⟨g2, 5, none⟩ = some (.slice pB pn pd) := (blk_cell BK2.out 5).trans rfl
        have HD0 := Aside0.mk (show wr.ownsRow w.heap.size 44 5 vv (slotsTo ⟨pa, pr, ps, pw, pA, pm, pc, pB, pn, pd, pS, pT⟩ ⟨qa, qr, qs, qw, qA, qm, qc, qB, qn, qd, qS, qT⟩ pm ++ dataTo ⟨pa, pr, ps, pw, pA, pm, pc, pB, pn, pd, pS, pT⟩ ⟨qa, qr, qs, qw, qA, qm, qc, qB, qn, qd, qS, qT⟩ 0).length (chs (slotsTo ⟨pa, pr, ps, pw, pA, pm, pc, pB, pn, pd, pS, pT⟩ ⟨qa, qr, qs, qw, qA, qm, qc, qB, qn, qd, qS, qT⟩ pm ++ dataTo ⟨pa, pr, ps, pw, pA, pm, pc, pB, pn, pd, pS, pT⟩ ⟨qa, qr, qs, qw, qA, qm, qc, qB, qn, qd, qS, qT⟩ 0)) by rw [show dataTo ⟨pa, pr, ps, pw, pA, pm, pc, pB, pn, pd, pS, pT⟩ ⟨qa, qr, qs, qw, qA, qm, qc, qB, qn, qd, qS, qT⟩ 0 = [] from rfl, List.append_nil]; exact OWN.out)
        have HHB := HB
        have HK2 := BK2
        have HK3 := BK3
        go_wp2
        go_loopw [5, 81] (fun o v wr => ∃ (vv : Value) (j : Nat), vv = o ∧ j ≤ pn ∧ v = .int .i64 (j : Int) ∧ Aside0 (wr.ownsRow w.heap.size 44 5 vv (slotsTo ⟨pa, pr, ps, pw, pA, pm, pc, pB, pn, pd, pS, pT⟩ ⟨qa, qr, qs, qw, qA, qm, qc, qB, qn, qd, qS, qT⟩ pm ++ dataTo ⟨pa, pr, ps, pw, pA, pm, pc, pB, pn, pd, pS, pT⟩ ⟨qa, qr, qs, qw, qA, qm, qc, qB, qn, qd, qS, qT⟩ j).length (chs (slotsTo ⟨pa, pr, ps, pw, pA, pm, pc, pB, pn, pd, pS, pT⟩ ⟨qa, qr, qs, qw, qA, qm, qc, qB, qn, qd, qS, qT⟩ pm ++ dataTo ⟨pa, pr, ps, pw, pA, pm, pc, pB, pn, pd, pS, pT⟩ ⟨qa, qr, qs, qw, qA, qm, qc, qB, qn, qd, qS, qT⟩ j))) ∧ Aside0 (Below w.heap.size w wr) ∧ Aside0 (wr.heap[g2]? = some (.cells #[.int .i64 pa, .int .i64 pr, .int .i64 ps, .int .i64 pw, .slice pA pm pc, .slice pB pn pd] 40 (0, 0))) ∧ Aside0 (wr.heap[g3]? = some (.cells #[.int .i64 qa, .int .i64 qr, .int .i64 qs, .int .i64 qw, .slice qA qm qc, .slice qB qn qd] 40 (0, 0)))) (fun _ v _ => pn - (intOf v).toNat)
        case atStart => exact ⟨_, 0, rfl, by omega, rfl, HD0, HHB, HK2, HK3⟩
        case round =>
          clear HB BK2 BK3 HHB HK2 HK3 HD0 OWN hgo hd hl2_5 hi_
          obtain ⟨vv, i, hov, hi_, rfl, OWN, HB, BK2, BK3⟩ := hrel
          subst hov
          by_cases hgo : i < pn
          · have hd : decide ((i : Int) < (pn : Int)) = true := decide_eq_true (by omega)
            obtain ⟨yp, e, hcx⟩ := il_at hB HP.out.2 hgo
            replace e : pB = some yp := e
            subst e
            obtain ⟨yq, e, hcy⟩ := il_at hB HQ.out.2 (show i < qn by omega)
            replace e : qB = some yq := e
            subst e
            replace hcx : ∀ W', Below w.heap.size w W' → W'.cell? (yp.add i) = some (.int .u64 (pT.getD i 0)) := hcx
            replace hcy : ∀ W', Below w.heap.size w W' → W'.cell? (yq.add i) = some (.int .u64 (qT.getD i 0)) := hcy
            obtain ⟨vx, hvx⟩ : ∃ x, x = pT.getD i 0 := ⟨_, rfl⟩
            obtain ⟨vy, hvy⟩ : ∃ x, x = qT.getD i 0 := ⟨_, rfl⟩
            rw [← hvx] at hcx
            rw [← hvy] at hcy
            have HCX := Aside0.mk hcx
            have HCY := Aside0.mk hcy
            have HVX := Aside0.mk hvx
            have HVY := Aside0.mk hvy
            clear hcx hcy hvx hvy
            obtain ⟨nn, hnn⟩ : ∃ n, n = (slotsTo (⟨pa, pr, ps, pw, pA, pm, pc, some yp, pn, pd, pS, pT⟩ : Nd) (⟨qa, qr, qs, qw, qA, qm, qc, some yq, qn, qd, qS, qT⟩ : Nd) pm ++ dataTo (⟨pa, pr, ps, pw, pA, pm, pc, some yp, pn, pd, pS, pT⟩ : Nd) (⟨qa, qr, qs, qw, qA, qm, qc, some yq, qn, qd, qS, qT⟩ : Nd) i).length := ⟨_, rfl⟩
            obtain ⟨xs, hxs⟩ : ∃ x, x = chs (slotsTo (⟨pa, pr, ps, pw, pA, pm, pc, some yp, pn, pd, pS, pT⟩ : Nd) (⟨qa, qr, qs, qw, qA, qm, qc, some yq, qn, qd, qS, qT⟩ : Nd) pm ++ dataTo (⟨pa, pr, ps, pw, pA, pm, pc, some yp, pn, pd, pS, pT⟩ : Nd) (⟨qa, qr, qs, qw, qA, qm, qc, some yq, qn, qd, qS, qT⟩ : Nd) i) := ⟨_, rfl⟩
            have hn6 : nn ≤ 600 := by rw [hnn]; have := slotsTo_le (⟨pa, pr, ps, pw, pA, pm, pc, some yp, pn, pd, pS, pT⟩ : Nd) (⟨qa, qr, qs, qw, qA, qm, qc, some yq, qn, qd, qS, qT⟩ : Nd) pm; have := dataTo_le (⟨pa, pr, ps, pw, pA, pm, pc, some yp, pn, pd, pS, pT⟩ : Nd) (⟨qa, qr, qs, qw, qA, qm, qc, some yq, qn, qd, qS, qT⟩ : Nd) i; rw [List.length_append]; omega
            rw [← hnn, ← hxs] at OWN
            have HNN := Aside0.mk hnn
            have HXS := Aside0.mk hxs
            clear hnn hxs
            have hi0 : (0 : Int) ≤ (i : Int) := by omega
            have hi1 : (i : Int) < (pn : Int) := by omega
            have hi2 : (i : Int) < (qn : Int) := by omega
            by_cases hxy : vx = vy
            · have hne : (vx != vy) = false := by rw [hxy]; simp
              have HXY := Aside0.mk (show pT.getD i 0 = qT.getD i 0 by rw [← HVX.out, ← HVY.out, hxy])
              clear hxy
              go_upto_region 13 with fail
              refine start_ (n := 11) (S := fun w' => True) (ds := []) #[false, false, false, false, false, false, false, false, false, false, false] (by kernel_rfl) rfl rfl trivial (fun hHeld => ?_)
              refine with_tabW i13.tab13 i13.bits13 (fun HT_ HW_ => ?_)
              refine inv_at [0, 1, 2, 3, 4, 5, 6, 7, 8, 9, 10] (fun a0_ b a w' => a = putSel a0_ b [(0, 84, .pointer (some ⟨g2, 5, none⟩)), (1, 85, .slice (some yp) pn pd), (2, 86, .int .i64 (i : Int)), (3, 87, .pointer (some (yp.add i))), (4, 88, .int .u64 vx), (5, 89, .pointer (some ⟨g3, 5, none⟩)), (6, 90, .slice (some yq) qn qd), (7, 91, .int .i64 (i : Int)), (8, 92, .pointer (some (yq.add i))), (9, 93, .int .u64 vy), (10, 94, .bool (vx != vy))] ∧ (Below w.heap.size w w') ∧ (w'.heap[g2]? = some (.cells #[.int .i64 pa, .int .i64 pr, .int .i64 ps, .int .i64 pw, .slice pA pm pc, .slice (some yp) pn pd] 40 (0, 0))) ∧ (w'.heap[g3]? = some (.cells #[.int .i64 qa, .int .i64 qr, .int .i64 qs, .int .i64 qw, .slice qA qm qc, .slice (some yq) qn qd] 40 (0, 0))) ∧ (w'.ownsRow w.heap.size 44 5 vv nn xs)) HT_.out HW_.out (by kernel_rfl) (by kernel_rfl) ?_ ?_ ?_
              · exact ⟨by simp only [putSel, Bool.false_eq_true, if_false], below_drew1 HB.out, BK2.out, BK3.out, OWN.out⟩
              · skip
                clear BK2 BK3 HB OWN
                refine steps_cons ?_ ?_
                · rintro b a w' ⟨ha, Q_HB, Q_BK2, Q_BK3, Q_OWN⟩ hb_ hon hoff
                  refine ⟨_, rfl, fun K hK => ?_⟩
                  have e2 : a.tmps[2]? = some (.pointer (some ⟨g2, 0, none⟩)) := by rw [ha]; exact (putSel_off rfl).trans rfl
                  replace ha := Aside0.mk ha
                  have HB := Aside0.mk Q_HB
                  have BK2 := Aside0.mk Q_BK2
                  have BK3 := Aside0.mk Q_BK3
                  have OWN := Aside0.mk Q_OWN
                  refine value_ (w1 := w') (v := .pointer (some ⟨g2, 5, none⟩)) (by rfl) rfl ?_ ?_
                  · go_simp
                    (try simp only [i64_w])
                    try rfl
                  refine hK.out _ _ ⟨(by rw [ha.out]; exact putSel_upk 0 hb_ rfl rfl rfl), Q_HB, Q_BK2, Q_BK3, Q_OWN⟩
                refine steps_cons ?_ ?_
                · rintro b a w' ⟨ha, Q_HB, Q_BK2, Q_BK3, Q_OWN⟩ hb_ hon hoff
                  refine ⟨_, rfl, fun K hK => ?_⟩
                  have e84 : a.tmps[84]? = some (.pointer (some ⟨g2, 5, none⟩)) := by rw [ha]; exact putSel_on (e := (0, 84, .pointer (some ⟨g2, 5, none⟩))) 0 rfl rfl (hon 0 (by kernel_rfl)) rfl
                  replace ha := Aside0.mk ha
                  have HB := Aside0.mk Q_HB
                  have BK2 := Aside0.mk Q_BK2
                  have BK3 := Aside0.mk Q_BK3
                  have OWN := Aside0.mk Q_OWN
                  have hp : w'.cell? ⟨g2, 5, none⟩ = some (.slice (some yp) pn pd) := (blk_cell BK2.out 5).trans rfl
                  refine value_ (w1 := w') (v := .slice (some yp) pn pd) (by rfl) rfl ?_ ?_
                  · go_simp
                    (try simp only [i64_w])
                    try rfl
                  refine hK.out _ _ ⟨(by rw [ha.out]; exact putSel_upk 1 hb_ rfl rfl rfl), Q_HB, Q_BK2, Q_BK3, Q_OWN⟩
                refine steps_cons ?_ ?_
                · rintro b a w' ⟨ha, Q_HB, Q_BK2, Q_BK3, Q_OWN⟩ hb_ hon hoff
                  refine ⟨_, rfl, fun K hK => ?_⟩
                  have e7 : a.tmps[7]? = some (.int .i64 (i : Int)) := by rw [ha]; exact (putSel_off rfl).trans rfl
                  replace ha := Aside0.mk ha
                  have HB := Aside0.mk Q_HB
                  have BK2 := Aside0.mk Q_BK2
                  have BK3 := Aside0.mk Q_BK3
                  have OWN := Aside0.mk Q_OWN
                  refine value_ (w1 := w') (v := .int .i64 (i : Int)) (by rfl) rfl ?_ ?_
                  · go_simp
                    (try simp only [i64_w])
                    try rfl
                  refine hK.out _ _ ⟨(by rw [ha.out]; exact putSel_upk 2 hb_ rfl rfl rfl), Q_HB, Q_BK2, Q_BK3, Q_OWN⟩
                refine steps_cons ?_ ?_
                · rintro b a w' ⟨ha, Q_HB, Q_BK2, Q_BK3, Q_OWN⟩ hb_ hon hoff
                  refine ⟨_, rfl, fun K hK => ?_⟩
                  have e85 : a.tmps[85]? = some (.slice (some yp) pn pd) := by rw [ha]; exact putSel_on (e := (1, 85, .slice (some yp) pn pd)) 1 rfl rfl (hon 1 (by kernel_rfl)) rfl
                  have e86 : a.tmps[86]? = some (.int .i64 (i : Int)) := by rw [ha]; exact putSel_on (e := (2, 86, .int .i64 (i : Int))) 2 rfl rfl (hon 2 (by kernel_rfl)) rfl
                  replace ha := Aside0.mk ha
                  have HB := Aside0.mk Q_HB
                  have BK2 := Aside0.mk Q_BK2
                  have BK3 := Aside0.mk Q_BK3
                  have OWN := Aside0.mk Q_OWN
                  refine value_ (w1 := w') (v := .pointer (some (yp.add i))) (by rfl) rfl ?_ ?_
                  · go_simp
                    (try simp only [i64_w])
                    try rfl
                  refine hK.out _ _ ⟨(by rw [ha.out]; exact putSel_upk 3 hb_ rfl rfl rfl), Q_HB, Q_BK2, Q_BK3, Q_OWN⟩
                refine steps_cons ?_ ?_
                · rintro b a w' ⟨ha, Q_HB, Q_BK2, Q_BK3, Q_OWN⟩ hb_ hon hoff
                  refine ⟨_, rfl, fun K hK => ?_⟩
                  have e87 : a.tmps[87]? = some (.pointer (some (yp.add i))) := by rw [ha]; exact putSel_on (e := (3, 87, .pointer (some (yp.add i)))) 3 rfl rfl (hon 3 (by kernel_rfl)) rfl
                  replace ha := Aside0.mk ha
                  have HB := Aside0.mk Q_HB
                  have BK2 := Aside0.mk Q_BK2
                  have BK3 := Aside0.mk Q_BK3
                  have OWN := Aside0.mk Q_OWN
                  have h88 : w'.cell? (yp.add i) = some (.int .u64 vx) := HCX.out w' HB.out
                  refine value_ (w1 := w') (v := .int .u64 vx) (by rfl) rfl ?_ ?_
                  · go_simp
                    (try simp only [i64_w])
                    try rfl
                  refine hK.out _ _ ⟨(by rw [ha.out]; exact putSel_upk 4 hb_ rfl rfl rfl), Q_HB, Q_BK2, Q_BK3, Q_OWN⟩
                refine steps_cons ?_ ?_
                · rintro b a w' ⟨ha, Q_HB, Q_BK2, Q_BK3, Q_OWN⟩ hb_ hon hoff
                  refine ⟨_, rfl, fun K hK => ?_⟩
                  have e3 : a.tmps[3]? = some (.pointer (some ⟨g3, 0, none⟩)) := by rw [ha]; exact (putSel_off rfl).trans rfl
                  replace ha := Aside0.mk ha
                  have HB := Aside0.mk Q_HB
                  have BK2 := Aside0.mk Q_BK2
                  have BK3 := Aside0.mk Q_BK3
                  have OWN := Aside0.mk Q_OWN
                  refine value_ (w1 := w') (v := .pointer (some ⟨g3, 5, none⟩)) (by rfl) rfl ?_ ?_
                  · go_simp
                    (try simp only [i64_w])
                    try rfl
                  refine hK.out _ _ ⟨(by rw [ha.out]; exact putSel_upk 5 hb_ rfl rfl rfl), Q_HB, Q_BK2, Q_BK3, Q_OWN⟩
                refine steps_cons ?_ ?_
                · rintro b a w' ⟨ha, Q_HB, Q_BK2, Q_BK3, Q_OWN⟩ hb_ hon hoff
                  refine ⟨_, rfl, fun K hK => ?_⟩
                  have e89 : a.tmps[89]? = some (.pointer (some ⟨g3, 5, none⟩)) := by rw [ha]; exact putSel_on (e := (5, 89, .pointer (some ⟨g3, 5, none⟩))) 5 rfl rfl (hon 5 (by kernel_rfl)) rfl
                  replace ha := Aside0.mk ha
                  have HB := Aside0.mk Q_HB
                  have BK2 := Aside0.mk Q_BK2
                  have BK3 := Aside0.mk Q_BK3
                  have OWN := Aside0.mk Q_OWN
                  have hq : w'.cell? ⟨g3, 5, none⟩ = some (.slice (some yq) qn qd) := (blk_cell BK3.out 5).trans rfl
                  refine value_ (w1 := w') (v := .slice (some yq) qn qd) (by rfl) rfl ?_ ?_
                  · go_simp
                    (try simp only [i64_w])
                    try rfl
                  refine hK.out _ _ ⟨(by rw [ha.out]; exact putSel_upk 6 hb_ rfl rfl rfl), Q_HB, Q_BK2, Q_BK3, Q_OWN⟩
                refine steps_cons ?_ ?_
                · rintro b a w' ⟨ha, Q_HB, Q_BK2, Q_BK3, Q_OWN⟩ hb_ hon hoff
                  refine ⟨_, rfl, fun K hK => ?_⟩
                  have e7 : a.tmps[7]? = some (.int .i64 (i : Int)) := by rw [ha]; exact (putSel_off rfl).trans rfl
                  replace ha := Aside0.mk ha
                  have HB := Aside0.mk Q_HB
                  have BK2 := Aside0.mk Q_BK2
                  have BK3 := Aside0.mk Q_BK3
                  have OWN := Aside0.mk Q_OWN
                  refine value_ (w1 := w') (v := .int .i64 (i : Int)) (by rfl) rfl ?_ ?_
                  · go_simp
                    (try simp only [i64_w])
                    try rfl
                  refine hK.out _ _ ⟨(by rw [ha.out]; exact putSel_upk 7 hb_ rfl rfl rfl), Q_HB, Q_BK2, Q_BK3, Q_OWN⟩
                refine steps_cons ?_ ?_
                · rintro b a w' ⟨ha, Q_HB, Q_BK2, Q_BK3, Q_OWN⟩ hb_ hon hoff
                  refine ⟨_, rfl, fun K hK => ?_⟩
                  have e90 : a.tmps[90]? = some (.slice (some yq) qn qd) := by rw [ha]; exact putSel_on (e := (6, 90, .slice (some yq) qn qd)) 6 rfl rfl (hon 6 (by kernel_rfl)) rfl
                  have e91 : a.tmps[91]? = some (.int .i64 (i : Int)) := by rw [ha]; exact putSel_on (e := (7, 91, .int .i64 (i : Int))) 7 rfl rfl (hon 7 (by kernel_rfl)) rfl
                  replace ha := Aside0.mk ha
                  have HB := Aside0.mk Q_HB
                  have BK2 := Aside0.mk Q_BK2
                  have BK3 := Aside0.mk Q_BK3
                  have OWN := Aside0.mk Q_OWN
                  refine value_ (w1 := w') (v := .pointer (some (yq.add i))) (by rfl) rfl ?_ ?_
                  · go_simp
                    (try simp only [i64_w])
                    try rfl
                  refine hK.out _ _ ⟨(by rw [ha.out]; exact putSel_upk 8 hb_ rfl rfl rfl), Q_HB, Q_BK2, Q_BK3, Q_OWN⟩
                refine steps_cons ?_ ?_
                · rintro b a w' ⟨ha, Q_HB, Q_BK2, Q_BK3, Q_OWN⟩ hb_ hon hoff
                  refine ⟨_, rfl, fun K hK => ?_⟩
                  have e92 : a.tmps[92]? = some (.pointer (some (yq.add i))) := by rw [ha]; exact putSel_on (e := (8, 92, .pointer (some (yq.add i)))) 8 rfl rfl (hon 8 (by kernel_rfl)) rfl
                  replace ha := Aside0.mk ha
                  have HB := Aside0.mk Q_HB
                  have BK2 := Aside0.mk Q_BK2
                  have BK3 := Aside0.mk Q_BK3
                  have OWN := Aside0.mk Q_OWN
                  have h93 : w'.cell? (yq.add i) = some (.int .u64 vy) := HCY.out w' HB.out
                  refine value_ (w1 := w') (v := .int .u64 vy) (by rfl) rfl ?_ ?_
                  · go_simp
                    (try simp only [i64_w])
                    try rfl
                  refine hK.out _ _ ⟨(by rw [ha.out]; exact putSel_upk 9 hb_ rfl rfl rfl), Q_HB, Q_BK2, Q_BK3, Q_OWN⟩
                refine steps_cons ?_ ?_
                · rintro b a w' ⟨ha, Q_HB, Q_BK2, Q_BK3, Q_OWN⟩ hb_ hon hoff
                  refine ⟨_, rfl, fun K hK => ?_⟩
                  have e88 : a.tmps[88]? = some (.int .u64 vx) := by rw [ha]; exact putSel_on (e := (4, 88, .int .u64 vx)) 4 rfl rfl (hon 4 (by kernel_rfl)) rfl
                  have e93 : a.tmps[93]? = some (.int .u64 vy) := by rw [ha]; exact putSel_on (e := (9, 93, .int .u64 vy)) 9 rfl rfl (hon 9 (by kernel_rfl)) rfl
                  replace ha := Aside0.mk ha
                  have HB := Aside0.mk Q_HB
                  have BK2 := Aside0.mk Q_BK2
                  have BK3 := Aside0.mk Q_BK3
                  have OWN := Aside0.mk Q_OWN
                  refine value_ (w1 := w') (v := .bool (vx != vy)) (by rfl) rfl ?_ ?_
                  · go_simp
                    (try simp only [i64_w])
                    try rfl
                  refine hK.out _ _ ⟨(by rw [ha.out]; exact putSel_upk 10 hb_ rfl rfl rfl), Q_HB, Q_BK2, Q_BK3, Q_OWN⟩
                exact steps_nil
              rintro b a wz hall ⟨ha, Q_HB, Q_BK2, Q_BK3, Q_OWN⟩
              clear BK2 BK3 HB OWN
              have hb0_ := hall 0 (by kernel_rfl)
              have hb1_ := hall 1 (by kernel_rfl)
              have hb2_ := hall 2 (by kernel_rfl)
              have hb3_ := hall 3 (by kernel_rfl)
              have hb4_ := hall 4 (by kernel_rfl)
              have hb5_ := hall 5 (by kernel_rfl)
              have hb6_ := hall 6 (by kernel_rfl)
              have hb7_ := hall 7 (by kernel_rfl)
              have hb8_ := hall 8 (by kernel_rfl)
              have hb9_ := hall 9 (by kernel_rfl)
              have hb10_ := hall 10 (by kernel_rfl)
              subst ha
              simp only [putSel, hb0_, hb1_, hb2_, hb3_, hb4_, hb5_, hb6_, hb7_, hb8_, hb9_, hb10_, if_true, Act.put, List.setIfInBounds_toArray, List.set_cons_zero, List.set_cons_succ]
              have HB := Aside0.mk Q_HB
              clear Q_HB
              have BK2 := Aside0.mk Q_BK2
              clear Q_BK2
              have BK3 := Aside0.mk Q_BK3
              clear Q_BK3
              have OWN := Aside0.mk Q_OWN
              clear Q_OWN
              clear hall hb0_ hb1_ hb2_ hb3_ hb4_ hb5_ hb6_ hb7_ hb8_ hb9_ hb10_
              go_wp2
              refine ⟨⟨vv, i + 1, rfl, by omega, by push_cast; rfl, Aside0.mk (by rw [data_eq (x := (⟨pa, pr, ps, pw, pA, pm, pc, some yp, pn, pd, pS, pT⟩ : Nd)) (y := (⟨qa, qr, qs, qw, qA, qm, qc, some yq, qn, qd, qS, qT⟩ : Nd)) HXY.out, ← HNN.out, ← HXS.out]; exact OWN.out), HB, BK2, BK3⟩, ?_⟩
              show pn - ((i : Int) + 1).toNat < pn - (i : Int).toNat
              omega
            · have hne : (vx != vy) = true := by simp; exact hxy
              have HXY := Aside0.mk (show ¬ pT.getD i 0 = qT.getD i 0 by rw [← HVX.out, ← HVY.out]; exact hxy)
              clear hxy
              go_upto_region 13 with fail
              refine start_ (n := 11) (S := fun w' => True) (ds := []) #[false, false, false, false, false, false, false, false, false, false, false] (by kernel_rfl) rfl rfl trivial (fun hHeld => ?_)
              refine with_tabW i13.tab13 i13.bits13 (fun HT_ HW_ => ?_)
              refine inv_at [0, 1, 2, 3, 4, 5, 6, 7, 8, 9, 10] (fun a0_ b a w' => a = putSel a0_ b [(0, 84, .pointer (some ⟨g2, 5, none⟩)), (1, 85, .slice (some yp) pn pd), (2, 86, .int .i64 (i : Int)), (3, 87, .pointer (some (yp.add i))), (4, 88, .int .u64 vx), (5, 89, .pointer (some ⟨g3, 5, none⟩)), (6, 90, .slice (some yq) qn qd), (7, 91, .int .i64 (i : Int)), (8, 92, .pointer (some (yq.add i))), (9, 93, .int .u64 vy), (10, 94, .bool (vx != vy))] ∧ (Below w.heap.size w w') ∧ (w'.heap[g2]? = some (.cells #[.int .i64 pa, .int .i64 pr, .int .i64 ps, .int .i64 pw, .slice pA pm pc, .slice (some yp) pn pd] 40 (0, 0))) ∧ (w'.heap[g3]? = some (.cells #[.int .i64 qa, .int .i64 qr, .int .i64 qs, .int .i64 qw, .slice qA qm qc, .slice (some yq) qn qd] 40 (0, 0))) ∧ (w'.ownsRow w.heap.size 44 5 vv nn xs)) HT_.out HW_.out (by kernel_rfl) (by kernel_rfl) ?_ ?_ ?_
              · exact ⟨by simp only [putSel, Bool.false_eq_true, if_false], below_drew1 HB.out, BK2.out, BK3.out, OWN.out⟩
              · skip
                clear BK2 BK3 HB OWN
                refine steps_cons ?_ ?_
                · rintro b a w' ⟨ha, Q_HB, Q_BK2, Q_BK3, Q_OWN⟩ hb_ hon hoff
                  refine ⟨_, rfl, fun K hK => ?_⟩
                  have e2 : a.tmps[2]? = some (.pointer (some ⟨g2, 0, none⟩)) := by rw [ha]; exact (putSel_off rfl).trans rfl
                  replace ha := Aside0.mk ha
                  have HB := Aside0.mk Q_HB
                  have BK2 := Aside0.mk Q_BK2
                  have BK3 := Aside0.mk Q_BK3
                  have OWN := Aside0.mk Q_OWN
                  refine value_ (w1 := w') (v := .pointer (some ⟨g2, 5, none⟩)) (by rfl) rfl ?_ ?_
                  · go_simp
                    (try simp only [i64_w])
                    try rfl
                  refine hK.out _ _ ⟨(by rw [ha.out]; exact putSel_upk 0 hb_ rfl rfl rfl), Q_HB, Q_BK2, Q_BK3, Q_OWN⟩
                refine steps_cons ?_ ?_
                · rintro b a w' ⟨ha, Q_HB, Q_BK2, Q_BK3, Q_OWN⟩ hb_ hon hoff
                  refine ⟨_, rfl, fun K hK => ?_⟩
                  have e84 : a.tmps[84]? = some (.pointer (some ⟨g2, 5, none⟩)) := by rw [ha]; exact putSel_on (e := (0, 84, .pointer (some ⟨g2, 5, none⟩))) 0 rfl rfl (hon 0 (by kernel_rfl)) rfl
                  replace ha := Aside0.mk ha
                  have HB := Aside0.mk Q_HB
                  have BK2 := Aside0.mk Q_BK2
                  have BK3 := Aside0.mk Q_BK3
                  have OWN := Aside0.mk Q_OWN
                  have hp : w'.cell? ⟨g2, 5, none⟩ = some (.slice (some yp) pn pd) := (blk_cell BK2.out 5).trans rfl
                  refine value_ (w1 := w') (v := .slice (some yp) pn pd) (by rfl) rfl ?_ ?_
                  · go_simp
                    (try simp only [i64_w])
                    try rfl
                  refine hK.out _ _ ⟨(by rw [ha.out]; exact putSel_upk 1 hb_ rfl rfl rfl), Q_HB, Q_BK2, Q_BK3, Q_OWN⟩
                refine steps_cons ?_ ?_
                · rintro b a w' ⟨ha, Q_HB, Q_BK2, Q_BK3, Q_OWN⟩ hb_ hon hoff
                  refine ⟨_, rfl, fun K hK => ?_⟩
                  have e7 : a.tmps[7]? = some (.int .i64 (i : Int)) := by rw [ha]; exact (putSel_off rfl).trans rfl
                  replace ha := Aside0.mk ha
                  have HB := Aside0.mk Q_HB
                  have BK2 := Aside0.mk Q_BK2
                  have BK3 := Aside0.mk Q_BK3
                  have OWN := Aside0.mk Q_OWN
                  refine value_ (w1 := w') (v := .int .i64 (i : Int)) (by rfl) rfl ?_ ?_
                  · go_simp
                    (try simp only [i64_w])
                    try rfl
                  refine hK.out _ _ ⟨(by rw [ha.out]; exact putSel_upk 2 hb_ rfl rfl rfl), Q_HB, Q_BK2, Q_BK3, Q_OWN⟩
                refine steps_cons ?_ ?_
                · rintro b a w' ⟨ha, Q_HB, Q_BK2, Q_BK3, Q_OWN⟩ hb_ hon hoff
                  refine ⟨_, rfl, fun K hK => ?_⟩
                  have e85 : a.tmps[85]? = some (.slice (some yp) pn pd) := by rw [ha]; exact putSel_on (e := (1, 85, .slice (some yp) pn pd)) 1 rfl rfl (hon 1 (by kernel_rfl)) rfl
                  have e86 : a.tmps[86]? = some (.int .i64 (i : Int)) := by rw [ha]; exact putSel_on (e := (2, 86, .int .i64 (i : Int))) 2 rfl rfl (hon 2 (by kernel_rfl)) rfl
                  replace ha := Aside0.mk ha
                  have HB := Aside0.mk Q_HB
                  have BK2 := Aside0.mk Q_BK2
                  have BK3 := Aside0.mk Q_BK3
                  have OWN := Aside0.mk Q_OWN
                  refine value_ (w1 := w') (v := .pointer (some (yp.add i))) (by rfl) rfl ?_ ?_
                  · go_simp
                    (try simp only [i64_w])
                    try rfl
                  refine hK.out _ _ ⟨(by rw [ha.out]; exact putSel_upk 3 hb_ rfl rfl rfl), Q_HB, Q_BK2, Q_BK3, Q_OWN⟩
                refine steps_cons ?_ ?_
                · rintro b a w' ⟨ha, Q_HB, Q_BK2, Q_BK3, Q_OWN⟩ hb_ hon hoff
                  refine ⟨_, rfl, fun K hK => ?_⟩
                  have e87 : a.tmps[87]? = some (.pointer (some (yp.add i))) := by rw [ha]; exact putSel_on (e := (3, 87, .pointer (some (yp.add i)))) 3 rfl rfl (hon 3 (by kernel_rfl)) rfl
                  replace ha := Aside0.mk ha
                  have HB := Aside0.mk Q_HB
                  have BK2 := Aside0.mk Q_BK2
                  have BK3 := Aside0.mk Q_BK3
                  have OWN := Aside0.mk Q_OWN
                  have h88 : w'.cell? (yp.add i) = some (.int .u64 vx) := HCX.out w' HB.out
                  refine value_ (w1 := w') (v := .int .u64 vx) (by rfl) rfl ?_ ?_
                  · go_simp
                    (try simp only [i64_w])
                    try rfl
                  refine hK.out _ _ ⟨(by rw [ha.out]; exact putSel_upk 4 hb_ rfl rfl rfl), Q_HB, Q_BK2, Q_BK3, Q_OWN⟩
                refine steps_cons ?_ ?_
                · rintro b a w' ⟨ha, Q_HB, Q_BK2, Q_BK3, Q_OWN⟩ hb_ hon hoff
                  refine ⟨_, rfl, fun K hK => ?_⟩
                  have e3 : a.tmps[3]? = some (.pointer (some ⟨g3, 0, none⟩)) := by rw [ha]; exact (putSel_off rfl).trans rfl
                  replace ha := Aside0.mk ha
                  have HB := Aside0.mk Q_HB
                  have BK2 := Aside0.mk Q_BK2
                  have BK3 := Aside0.mk Q_BK3
                  have OWN := Aside0.mk Q_OWN
                  refine value_ (w1 := w') (v := .pointer (some ⟨g3, 5, none⟩)) (by rfl) rfl ?_ ?_
                  · go_simp
                    (try simp only [i64_w])
                    try rfl
                  refine hK.out _ _ ⟨(by rw [ha.out]; exact putSel_upk 5 hb_ rfl rfl rfl), Q_HB, Q_BK2, Q_BK3, Q_OWN⟩
                refine steps_cons ?_ ?_
                · rintro b a w' ⟨ha, Q_HB, Q_BK2, Q_BK3, Q_OWN⟩ hb_ hon hoff
                  refine ⟨_, rfl, fun K hK => ?_⟩
                  have e89 : a.tmps[89]? = some (.pointer (some ⟨g3, 5, none⟩)) := by rw [ha]; exact putSel_on (e := (5, 89, .pointer (some ⟨g3, 5, none⟩))) 5 rfl rfl (hon 5 (by kernel_rfl)) rfl
                  replace ha := Aside0.mk ha
                  have HB := Aside0.mk Q_HB
                  have BK2 := Aside0.mk Q_BK2
                  have BK3 := Aside0.mk Q_BK3
                  have OWN := Aside0.mk Q_OWN
                  have hq : w'.cell? ⟨g3, 5, none⟩ = some (.slice (some yq) qn qd) := (blk_cell BK3.out 5).trans rfl
                  refine value_ (w1 := w') (v := .slice (some yq) qn qd) (by rfl) rfl ?_ ?_
                  · go_simp
                    (try simp only [i64_w])
                    try rfl
                  refine hK.out _ _ ⟨(by rw [ha.out]; exact putSel_upk 6 hb_ rfl rfl rfl), Q_HB, Q_BK2, Q_BK3, Q_OWN⟩
                refine steps_cons ?_ ?_
                · rintro b a w' ⟨ha, Q_HB, Q_BK2, Q_BK3, Q_OWN⟩ hb_ hon hoff
                  refine ⟨_, rfl, fun K hK => ?_⟩
                  have e7 : a.tmps[7]? = some (.int .i64 (i : Int)) := by rw [ha]; exact (putSel_off rfl).trans rfl
                  replace ha := Aside0.mk ha
                  have HB := Aside0.mk Q_HB
                  have BK2 := Aside0.mk Q_BK2
                  have BK3 := Aside0.mk Q_BK3
                  have OWN := Aside0.mk Q_OWN
                  refine value_ (w1 := w') (v := .int .i64 (i : Int)) (by rfl) rfl ?_ ?_
                  · go_simp
                    (try simp only [i64_w])
                    try rfl
                  refine hK.out _ _ ⟨(by rw [ha.out]; exact putSel_upk 7 hb_ rfl rfl rfl), Q_HB, Q_BK2, Q_BK3, Q_OWN⟩
                refine steps_cons ?_ ?_
                · rintro b a w' ⟨ha, Q_HB, Q_BK2, Q_BK3, Q_OWN⟩ hb_ hon hoff
                  refine ⟨_, rfl, fun K hK => ?_⟩
                  have e90 : a.tmps[90]? = some (.slice (some yq) qn qd) := by rw [ha]; exact putSel_on (e := (6, 90, .slice (some yq) qn qd)) 6 rfl rfl (hon 6 (by kernel_rfl)) rfl
                  have e91 : a.tmps[91]? = some (.int .i64 (i : Int)) := by rw [ha]; exact putSel_on (e := (7, 91, .int .i64 (i : Int))) 7 rfl rfl (hon 7 (by kernel_rfl)) rfl
                  replace ha := Aside0.mk ha
                  have HB := Aside0.mk Q_HB
                  have BK2 := Aside0.mk Q_BK2
                  have BK3 := Aside0.mk Q_BK3
                  have OWN := Aside0.mk Q_OWN
                  refine value_ (w1 := w') (v := .pointer (some (yq.add i))) (by rfl) rfl ?_ ?_
                  · go_simp
                    (try simp only [i64_w])
                    try rfl
                  refine hK.out _ _ ⟨(by rw [ha.out]; exact putSel_upk 8 hb_ rfl rfl rfl), Q_HB, Q_BK2, Q_BK3, Q_OWN⟩
                refine steps_cons ?_ ?_
                · rintro b a w' ⟨ha, Q_HB, Q_BK2, Q_BK3, Q_OWN⟩ hb_ hon hoff
                  refine ⟨_, rfl, fun K hK => ?_⟩
                  have e92 : a.tmps[92]? = some (.pointer (some (yq.add i))) := by rw [ha]; exact putSel_on (e := (8, 92, .pointer (some (yq.add i)))) 8 rfl rfl (hon 8 (by kernel_rfl)) rfl
                  replace ha := Aside0.mk ha
                  have HB := Aside0.mk Q_HB
                  have BK2 := Aside0.mk Q_BK2
                  have BK3 := Aside0.mk Q_BK3
                  have OWN := Aside0.mk Q_OWN
                  have h93 : w'.cell? (yq.add i) = some (.int .u64 vy) := HCY.out w' HB.out
                  refine value_ (w1 := w') (v := .int .u64 vy) (by rfl) rfl ?_ ?_
                  · go_simp
                    (try simp only [i64_w])
                    try rfl
                  refine hK.out _ _ ⟨(by rw [ha.out]; exact putSel_upk 9 hb_ rfl rfl rfl), Q_HB, Q_BK2, Q_BK3, Q_OWN⟩
                refine steps_cons ?_ ?_
                · rintro b a w' ⟨ha, Q_HB, Q_BK2, Q_BK3, Q_OWN⟩ hb_ hon hoff
                  refine ⟨_, rfl, fun K hK => ?_⟩
                  have e88 : a.tmps[88]? = some (.int .u64 vx) := by rw [ha]; exact putSel_on (e := (4, 88, .int .u64 vx)) 4 rfl rfl (hon 4 (by kernel_rfl)) rfl
                  have e93 : a.tmps[93]? = some (.int .u64 vy) := by rw [ha]; exact putSel_on (e := (9, 93, .int .u64 vy)) 9 rfl rfl (hon 9 (by kernel_rfl)) rfl
                  replace ha := Aside0.mk ha
                  have HB := Aside0.mk Q_HB
                  have BK2 := Aside0.mk Q_BK2
                  have BK3 := Aside0.mk Q_BK3
                  have OWN := Aside0.mk Q_OWN
                  refine value_ (w1 := w') (v := .bool (vx != vy)) (by rfl) rfl ?_ ?_
                  · go_simp
                    (try simp only [i64_w])
                    try rfl
                  refine hK.out _ _ ⟨(by rw [ha.out]; exact putSel_upk 10 hb_ rfl rfl rfl), Q_HB, Q_BK2, Q_BK3, Q_OWN⟩
                exact steps_nil
              rintro b a wz hall ⟨ha, Q_HB, Q_BK2, Q_BK3, Q_OWN⟩
              clear BK2 BK3 HB OWN
              have hb0_ := hall 0 (by kernel_rfl)
              have hb1_ := hall 1 (by kernel_rfl)
              have hb2_ := hall 2 (by kernel_rfl)
              have hb3_ := hall 3 (by kernel_rfl)
              have hb4_ := hall 4 (by kernel_rfl)
              have hb5_ := hall 5 (by kernel_rfl)
              have hb6_ := hall 6 (by kernel_rfl)
              have hb7_ := hall 7 (by kernel_rfl)
              have hb8_ := hall 8 (by kernel_rfl)
              have hb9_ := hall 9 (by kernel_rfl)
              have hb10_ := hall 10 (by kernel_rfl)
              subst ha
              simp only [putSel, hb0_, hb1_, hb2_, hb3_, hb4_, hb5_, hb6_, hb7_, hb8_, hb9_, hb10_, if_true, Act.put, List.setIfInBounds_toArray, List.set_cons_zero, List.set_cons_succ]
              have HB := Aside0.mk Q_HB
              clear Q_HB
              have BK2 := Aside0.mk Q_BK2
              clear Q_BK2
              have BK3 := Aside0.mk Q_BK3
              clear Q_BK3
              have OWN := Aside0.mk Q_OWN
              clear Q_OWN
              clear hall hb0_ hb1_ hb2_ hb3_ hb4_ hb5_ hb6_ hb7_ hb8_ hb9_ hb10_
              go_upto_region 14 with fail
              refine start_ (n := 18) (S := fun w' => True) (ds := []) #[false, false, false, false, false, false, false, false, false, false, false, false, false, false, false, false, false, false] (by kernel_rfl) rfl rfl trivial (fun hHeld => ?_)
              refine with_tabW i14.tab14 i14.bits14 (fun HT_ HW_ => ?_)
              refine inv_at [0, 1, 2, 3, 4, 5, 6, 7, 8, 9, 10, 11, 12, 13, 14, 15, 16, 17] (fun a0_ b a w' => ∃ (gz : Nat) (v76 : Value) (m15_ : Value) (m17_ : Value), a = putSel a0_ b [(0, 95, vv), (1, 96, .pointer (some ⟨g2, 0, none⟩)), (2, 97, .int .i64 pa), (3, 98, .int .i64 (i : Int)), (4, 99, .pointer (some ⟨g2, 5, none⟩)), (5, 100, .slice (some yp) pn pd), (6, 101, .int .i64 (i : Int)), (7, 102, .pointer (some (yp.add i))), (8, 103, .int .u64 vx), (9, 104, .pointer (some ⟨g3, 5, none⟩)), (10, 105, .slice (some yq) qn qd), (11, 106, .int .i64 (i : Int)), (12, 107, .pointer (some (yq.add i))), (13, 108, .int .u64 vy), (14, 109, .agg #[.int .i64 5, .int .i64 pa, .int .i64 (i : Int), .int .u64 vx, .int .u64 vy]), (15, 110, m15_), (16, 111, v76), (17, 5, m17_)] ∧ (Below w.heap.size w w') ∧ (w'.heap[g2]? = some (.cells #[.int .i64 pa, .int .i64 pr, .int .i64 ps, .int .i64 pw, .slice pA pm pc, .slice (some yp) pn pd] 40 (0, 0))) ∧ (w'.heap[g3]? = some (.cells #[.int .i64 qa, .int .i64 qr, .int .i64 qs, .int .i64 qw, .slice qA qm qc, .slice (some yq) qn qd] 40 (0, 0))) ∧ (b 16 = false → w'.ownsRow w.heap.size 44 5 vv nn xs) ∧ (b 15 = true → b 16 = false → w'.heap[gz]? = some (.cells #[.int .i64 5, .int .i64 pa, .int .i64 (i : Int), .int .u64 vx, .int .u64 vy] 44 (0, 0))) ∧ (b 16 = true → w'.ownsRow w.heap.size 44 5 v76 (nn + 1) (xs ++ [Value.int .i64 5, .int .i64 pa, .int .i64 (i : Int), .int .u64 vx, .int .u64 vy])) ∧ (b 15 = true → (m15_ : Value) = .slice (some ⟨gz, 0, none⟩) 1 1) ∧ (b 17 = true → (m17_ : Value) = v76)) HT_.out HW_.out (by kernel_rfl) (by kernel_rfl) ?_ ?_ ?_
              · exact ⟨0, undef, .bool false, .bool false, by simp only [putSel, Bool.false_eq_true, if_false], below_drew1 HB.out, BK2.out, BK3.out, fun _ => OWN.out, fun h_ => absurd h_ (by decide), fun h_ => absurd h_ (by decide), fun h_ => absurd h_ (by decide), fun h_ => absurd h_ (by decide)⟩
              · skip
                clear BK2 BK3 HB OWN
                refine steps_cons ?_ ?_
                · rintro b a w' ⟨gz, v76, m15_, m17_, ha, Q_HB, Q_BK2, Q_BK3, Q_OWN, Q_BZ, Q_OWN2, Q_X15_, Q_X17_⟩ hb_ hon hoff
                  refine ⟨_, rfl, fun K hK => ?_⟩
                  have e5 : a.tmps[5]? = some (vv) := by rw [ha]; exact (putSel_not (hoff 17 (by kernel_rfl)) rfl).trans rfl
                  replace ha := Aside0.mk ha
                  have HB := Aside0.mk Q_HB
                  have BK2 := Aside0.mk Q_BK2
                  have BK3 := Aside0.mk Q_BK3
                  have OWN := Aside0.mk (Q_OWN (hoff 16 (by kernel_rfl)))
                  refine value_ (w1 := w') (v := vv) (by rfl) rfl ?_ ?_
                  · go_simp
                    (try simp only [i64_w])
                    try rfl
                  refine hK.out _ _ ⟨gz, v76, m15_, m17_, (by rw [ha.out]; exact putSel_upk 0 hb_ rfl rfl rfl), Q_HB, Q_BK2, Q_BK3, Q_OWN, Q_BZ, fun h0_ => absurd ((hoff 16 (by kernel_rfl)).symm.trans h0_) (by decide), Q_X15_, fun h0_ => absurd ((hoff 17 (by kernel_rfl)).symm.trans h0_) (by decide)⟩
                refine steps_cons ?_ ?_
                · rintro b a w' ⟨gz, v76, m15_, m17_, ha, Q_HB, Q_BK2, Q_BK3, Q_OWN, Q_BZ, Q_OWN2, Q_X15_, Q_X17_⟩ hb_ hon hoff
                  refine ⟨_, rfl, fun K hK => ?_⟩
                  have e2 : a.tmps[2]? = some (.pointer (some ⟨g2, 0, none⟩)) := by rw [ha]; exact (putSel_off rfl).trans rfl
                  replace ha := Aside0.mk ha
                  have HB := Aside0.mk Q_HB
                  have BK2 := Aside0.mk Q_BK2
                  have BK3 := Aside0.mk Q_BK3
                  have OWN := Aside0.mk (Q_OWN (hoff 16 (by kernel_rfl)))
                  refine value_ (w1 := w') (v := .pointer (some ⟨g2, 0, none⟩)) (by rfl) rfl ?_ ?_
                  · go_simp
                    (try simp only [i64_w])
                    try rfl
                  refine hK.out _ _ ⟨gz, v76, m15_, m17_, (by rw [ha.out]; exact putSel_upk 1 hb_ rfl rfl rfl), Q_HB, Q_BK2, Q_BK3, Q_OWN, fun h0_ _ => absurd ((hoff 15 (by kernel_rfl)).symm.trans h0_) (by decide), fun h0_ => absurd ((hoff 16 (by kernel_rfl)).symm.trans h0_) (by decide), fun h0_ => absurd ((hoff 15 (by kernel_rfl)).symm.trans h0_) (by decide), fun h0_ => absurd ((hoff 17 (by kernel_rfl)).symm.trans h0_) (by decide)⟩
                refine steps_cons ?_ ?_
                · rintro b a w' ⟨gz, v76, m15_, m17_, ha, Q_HB, Q_BK2, Q_BK3, Q_OWN, Q_BZ, Q_OWN2, Q_X15_, Q_X17_⟩ hb_ hon hoff
                  refine ⟨_, rfl, fun K hK => ?_⟩
                  have e96 : a.tmps[96]? = some (.pointer (some ⟨g2, 0, none⟩)) := by rw [ha]; exact putSel_on (e := (1, 96, .pointer (some ⟨g2, 0, none⟩))) 1 rfl rfl (hon 1 (by kernel_rfl)) rfl
                  replace ha := Aside0.mk ha
                  have HB := Aside0.mk Q_HB
                  have BK2 := Aside0.mk Q_BK2
                  have BK3 := Aside0.mk Q_BK3
                  have OWN := Aside0.mk (Q_OWN (hoff 16 (by kernel_rfl)))
                  have hc0 : w'.cell? ⟨g2, 0, none⟩ = some (.int .i64 pa) := (blk_cell BK2.out 0).trans rfl
                  refine value_ (w1 := w') (v := .int .i64 pa) (by rfl) rfl ?_ ?_
                  · go_simp
                    (try simp only [i64_w])
                    try rfl
                  refine hK.out _ _ ⟨gz, v76, m15_, m17_, (by rw [ha.out]; exact putSel_upk 2 hb_ rfl rfl rfl), Q_HB, Q_BK2, Q_BK3, Q_OWN, fun h0_ _ => absurd ((hoff 15 (by kernel_rfl)).symm.trans h0_) (by decide), fun h0_ => absurd ((hoff 16 (by kernel_rfl)).symm.trans h0_) (by decide), fun h0_ => absurd ((hoff 15 (by kernel_rfl)).symm.trans h0_) (by decide), fun h0_ => absurd ((hoff 17 (by kernel_rfl)).symm.trans h0_) (by decide)⟩
                refine steps_cons ?_ ?_
                · rintro b a w' ⟨gz, v76, m15_, m17_, ha, Q_HB, Q_BK2, Q_BK3, Q_OWN, Q_BZ, Q_OWN2, Q_X15_, Q_X17_⟩ hb_ hon hoff
                  refine ⟨_, rfl, fun K hK => ?_⟩
                  have e7 : a.tmps[7]? = some (.int .i64 (i : Int)) := by rw [ha]; exact (putSel_off rfl).trans rfl
                  replace ha := Aside0.mk ha
                  have HB := Aside0.mk Q_HB
                  have BK2 := Aside0.mk Q_BK2
                  have BK3 := Aside0.mk Q_BK3
                  have OWN := Aside0.mk (Q_OWN (hoff 16 (by kernel_rfl)))
                  refine value_ (w1 := w') (v := .int .i64 (i : Int)) (by rfl) rfl ?_ ?_
                  · go_simp
                    (try simp only [i64_w])
                    try rfl
                  refine hK.out _ _ ⟨gz, v76, m15_, m17_, (by rw [ha.out]; exact putSel_upk 3 hb_ rfl rfl rfl), Q_HB, Q_BK2, Q_BK3, Q_OWN, fun h0_ _ => absurd ((hoff 15 (by kernel_rfl)).symm.trans h0_) (by decide), fun h0_ => absurd ((hoff 16 (by kernel_rfl)).symm.trans h0_) (by decide), fun h0_ => absurd ((hoff 15 (by kernel_rfl)).symm.trans h0_) (by decide), fun h0_ => absurd ((hoff 17 (by kernel_rfl)).symm.trans h0_) (by decide)⟩
                refine steps_cons ?_ ?_
                · rintro b a w' ⟨gz, v76, m15_, m17_, ha, Q_HB, Q_BK2, Q_BK3, Q_OWN, Q_BZ, Q_OWN2, Q_X15_, Q_X17_⟩ hb_ hon hoff
                  refine ⟨_, rfl, fun K hK => ?_⟩
                  have e2 : a.tmps[2]? = some (.pointer (some ⟨g2, 0, none⟩)) := by rw [ha]; exact (putSel_off rfl).trans rfl
                  replace ha := Aside0.mk ha
                  have HB := Aside0.mk Q_HB
                  have BK2 := Aside0.mk Q_BK2
                  have BK3 := Aside0.mk Q_BK3
                  have OWN := Aside0.mk (Q_OWN (hoff 16 (by kernel_rfl)))
                  refine value_ (w1 := w') (v := .pointer (some ⟨g2, 5, none⟩)) (by rfl) rfl ?_ ?_
                  · go_simp
                    (try simp only [i64_w])
                    try rfl
                  refine hK.out _ _ ⟨gz, v76, m15_, m17_, (by rw [ha.out]; exact putSel_upk 4 hb_ rfl rfl rfl), Q_HB, Q_BK2, Q_BK3, Q_OWN, fun h0_ _ => absurd ((hoff 15 (by kernel_rfl)).symm.trans h0_) (by decide), fun h0_ => absurd ((hoff 16 (by kernel_rfl)).symm.trans h0_) (by decide), fun h0_ => absurd ((hoff 15 (by kernel_rfl)).symm.trans h0_) (by decide), fun h0_ => absurd ((hoff 17 (by kernel_rfl)).symm.trans h0_) (by decide)⟩
                refine steps_cons ?_ ?_
                · rintro b a w' ⟨gz, v76, m15_, m17_, ha, Q_HB, Q_BK2, Q_BK3, Q_OWN, Q_BZ, Q_OWN2, Q_X15_, Q_X17_⟩ hb_ hon hoff
                  refine ⟨_, rfl, fun K hK => ?_⟩
                  have e99 : a.tmps[99]? = some (.pointer (some ⟨g2, 5, none⟩)) := by rw [ha]; exact putSel_on (e := (4, 99, .pointer (some ⟨g2, 5, none⟩))) 4 rfl rfl (hon 4 (by kernel_rfl)) rfl
                  replace ha := Aside0.mk ha
                  have HB := Aside0.mk Q_HB
                  have BK2 := Aside0.mk Q_BK2
                  have BK3 := Aside0.mk Q_BK3
                  have OWN := Aside0.mk (Q_OWN (hoff 16 (by kernel_rfl)))
                  have hp : w'.cell? ⟨g2, 5, none⟩ = some (.slice (some yp) pn pd) := (blk_cell BK2.out 5).trans rfl
                  refine value_ (w1 := w') (v := .slice (some yp) pn pd) (by rfl) rfl ?_ ?_
                  · go_simp
                    (try simp only [i64_w])
                    try rfl
                  refine hK.out _ _ ⟨gz, v76, m15_, m17_, (by rw [ha.out]; exact putSel_upk 5 hb_ rfl rfl rfl), Q_HB, Q_BK2, Q_BK3, Q_OWN, fun h0_ _ => absurd ((hoff 15 (by kernel_rfl)).symm.trans h0_) (by decide), fun h0_ => absurd ((hoff 16 (by kernel_rfl)).symm.trans h0_) (by decide), fun h0_ => absurd ((hoff 15 (by kernel_rfl)).symm.trans h0_) (by decide), fun h0_ => absurd ((hoff 17 (by kernel_rfl)).symm.trans h0_) (by decide)⟩
                refine steps_cons ?_ ?_
                · rintro b a w' ⟨gz, v76, m15_, m17_, ha, Q_HB, Q_BK2, Q_BK3, Q_OWN, Q_BZ, Q_OWN2, Q_X15_, Q_X17_⟩ hb_ hon hoff
                  refine ⟨_, rfl, fun K hK => ?_⟩
                  have e7 : a.tmps[7]? = some (.int .i64 (i : Int)) := by rw [ha]; exact (putSel_off rfl).trans rfl
                  replace ha := Aside0.mk ha
                  have HB := Aside0.mk Q_HB
                  have BK2 := Aside0.mk Q_BK2
                  have BK3 := Aside0.mk Q_BK3
                  have OWN := Aside0.mk (Q_OWN (hoff 16 (by kernel_rfl)))
                  refine value_ (w1 := w') (v := .int .i64 (i : Int)) (by rfl) rfl ?_ ?_
                  · go_simp
                    (try simp only [i64_w])
                    try rfl
                  refine hK.out _ _ ⟨gz, v76, m15_, m17_, (by rw [ha.out]; exact putSel_upk 6 hb_ rfl rfl rfl), Q_HB, Q_BK2, Q_BK3, Q_OWN, fun h0_ _ => absurd ((hoff 15 (by kernel_rfl)).symm.trans h0_) (by decide), fun h0_ => absurd ((hoff 16 (by kernel_rfl)).symm.trans h0_) (by decide), fun h0_ => absurd ((hoff 15 (by kernel_rfl)).symm.trans h0_) (by decide), fun h0_ => absurd ((hoff 17 (by kernel_rfl)).symm.trans h0_) (by decide)⟩
                refine steps_cons ?_ ?_
                · rintro b a w' ⟨gz, v76, m15_, m17_, ha, Q_HB, Q_BK2, Q_BK3, Q_OWN, Q_BZ, Q_OWN2, Q_X15_, Q_X17_⟩ hb_ hon hoff
                  refine ⟨_, rfl, fun K hK => ?_⟩
                  have e100 : a.tmps[100]? = some (.slice (some yp) pn pd) := by rw [ha]; exact putSel_on (e := (5, 100, .slice (some yp) pn pd)) 5 rfl rfl (hon 5 (by kernel_rfl)) rfl
                  have e101 : a.tmps[101]? = some (.int .i64 (i : Int)) := by rw [ha]; exact putSel_on (e := (6, 101, .int .i64 (i : Int))) 6 rfl rfl (hon 6 (by kernel_rfl)) rfl
                  replace ha := Aside0.mk ha
                  have HB := Aside0.mk Q_HB
                  have BK2 := Aside0.mk Q_BK2
                  have BK3 := Aside0.mk Q_BK3
                  have OWN := Aside0.mk (Q_OWN (hoff 16 (by kernel_rfl)))
                  refine value_ (w1 := w') (v := .pointer (some (yp.add i))) (by rfl) rfl ?_ ?_
                  · go_simp
                    (try simp only [i64_w])
                    try rfl
                  refine hK.out _ _ ⟨gz, v76, m15_, m17_, (by rw [ha.out]; exact putSel_upk 7 hb_ rfl rfl rfl), Q_HB, Q_BK2, Q_BK3, Q_OWN, fun h0_ _ => absurd ((hoff 15 (by kernel_rfl)).symm.trans h0_) (by decide), fun h0_ => absurd ((hoff 16 (by kernel_rfl)).symm.trans h0_) (by decide), fun h0_ => absurd ((hoff 15 (by kernel_rfl)).symm.trans h0_) (by decide), fun h0_ => absurd ((hoff 17 (by kernel_rfl)).symm.trans h0_) (by decide)⟩
                refine steps_cons ?_ ?_
                · rintro b a w' ⟨gz, v76, m15_, m17_, ha, Q_HB, Q_BK2, Q_BK3, Q_OWN, Q_BZ, Q_OWN2, Q_X15_, Q_X17_⟩ hb_ hon hoff
                  refine ⟨_, rfl, fun K hK => ?_⟩
                  have e102 : a.tmps[102]? = some (.pointer (some (yp.add i))) := by rw [ha]; exact putSel_on (e := (7, 102, .pointer (some (yp.add i)))) 7 rfl rfl (hon 7 (by kernel_rfl)) rfl
                  replace ha := Aside0.mk ha
                  have HB := Aside0.mk Q_HB
                  have BK2 := Aside0.mk Q_BK2
                  have BK3 := Aside0.mk Q_BK3
                  have OWN := Aside0.mk (Q_OWN (hoff 16 (by kernel_rfl)))
                  have h103 : w'.cell? (yp.add i) = some (.int .u64 vx) := HCX.out w' HB.out
                  refine value_ (w1 := w') (v := .int .u64 vx) (by rfl) rfl ?_ ?_
                  · go_simp
                    (try simp only [i64_w])
                    try rfl
                  refine hK.out _ _ ⟨gz, v76, m15_, m17_, (by rw [ha.out]; exact putSel_upk 8 hb_ rfl rfl rfl), Q_HB, Q_BK2, Q_BK3, Q_OWN, fun h0_ _ => absurd ((hoff 15 (by kernel_rfl)).symm.trans h0_) (by decide), fun h0_ => absurd ((hoff 16 (by kernel_rfl)).symm.trans h0_) (by decide), fun h0_ => absurd ((hoff 15 (by kernel_rfl)).symm.trans h0_) (by decide), fun h0_ => absurd ((hoff 17 (by kernel_rfl)).symm.trans h0_) (by decide)⟩
                refine steps_cons ?_ ?_
                · rintro b a w' ⟨gz, v76, m15_, m17_, ha, Q_HB, Q_BK2, Q_BK3, Q_OWN, Q_BZ, Q_OWN2, Q_X15_, Q_X17_⟩ hb_ hon hoff
                  refine ⟨_, rfl, fun K hK => ?_⟩
                  have e3 : a.tmps[3]? = some (.pointer (some ⟨g3, 0, none⟩)) := by rw [ha]; exact (putSel_off rfl).trans rfl
                  replace ha := Aside0.mk ha
                  have HB := Aside0.mk Q_HB
                  have BK2 := Aside0.mk Q_BK2
                  have BK3 := Aside0.mk Q_BK3
                  have OWN := Aside0.mk (Q_OWN (hoff 16 (by kernel_rfl)))
                  refine value_ (w1 := w') (v := .pointer (some ⟨g3, 5, none⟩)) (by rfl) rfl ?_ ?_
                  · go_simp
                    (try simp only [i64_w])
                    try rfl
                  refine hK.out _ _ ⟨gz, v76, m15_, m17_, (by rw [ha.out]; exact putSel_upk 9 hb_ rfl rfl rfl), Q_HB, Q_BK2, Q_BK3, Q_OWN, fun h0_ _ => absurd ((hoff 15 (by kernel_rfl)).symm.trans h0_) (by decide), fun h0_ => absurd ((hoff 16 (by kernel_rfl)).symm.trans h0_) (by decide), fun h0_ => absurd ((hoff 15 (by kernel_rfl)).symm.trans h0_) (by decide), fun h0_ => absurd ((hoff 17 (by kernel_rfl)).symm.trans h0_) (by decide)⟩
                refine steps_cons ?_ ?_
                · rintro b a w' ⟨gz, v76, m15_, m17_, ha, Q_HB, Q_BK2, Q_BK3, Q_OWN, Q_BZ, Q_OWN2, Q_X15_, Q_X17_⟩ hb_ hon hoff
                  refine ⟨_, rfl, fun K hK => ?_⟩
                  have e104 : a.tmps[104]? = some (.pointer (some ⟨g3, 5, none⟩)) := by rw [ha]; exact putSel_on (e := (9, 104, .pointer (some ⟨g3, 5, none⟩))) 9 rfl rfl (hon 9 (by kernel_rfl)) rfl
                  replace ha := Aside0.mk ha
                  have HB := Aside0.mk Q_HB
                  have BK2 := Aside0.mk Q_BK2
                  have BK3 := Aside0.mk Q_BK3
                  have OWN := Aside0.mk (Q_OWN (hoff 16 (by kernel_rfl)))
                  have hq : w'.cell? ⟨g3, 5, none⟩ = some (.slice (some yq) qn qd) := (blk_cell BK3.out 5).trans rfl
                  refine value_ (w1 := w') (v := .slice (some yq) qn qd) (by rfl) rfl ?_ ?_
                  · go_simp
                    (try simp only [i64_w])
                    try rfl
                  refine hK.out _ _ ⟨gz, v76, m15_, m17_, (by rw [ha.out]; exact putSel_upk 10 hb_ rfl rfl rfl), Q_HB, Q_BK2, Q_BK3, Q_OWN, fun h0_ _ => absurd ((hoff 15 (by kernel_rfl)).symm.trans h0_) (by decide), fun h0_ => absurd ((hoff 16 (by kernel_rfl)).symm.trans h0_) (by decide), fun h0_ => absurd ((hoff 15 (by kernel_rfl)).symm.trans h0_) (by decide), fun h0_ => absurd ((hoff 17 (by kernel_rfl)).symm.trans h0_) (by decide)⟩
                refine steps_cons ?_ ?_
                · rintro b a w' ⟨gz, v76, m15_, m17_, ha, Q_HB, Q_BK2, Q_BK3, Q_OWN, Q_BZ, Q_OWN2, Q_X15_, Q_X17_⟩ hb_ hon hoff
                  refine ⟨_, rfl, fun K hK => ?_⟩
                  have e7 : a.tmps[7]? = some (.int .i64 (i : Int)) := by rw [ha]; exact (putSel_off rfl).trans rfl
                  replace ha := Aside0.mk ha
                  have HB := Aside0.mk Q_HB
                  have BK2 := Aside0.mk Q_BK2
                  have BK3 := Aside0.mk Q_BK3
                  have OWN := Aside0.mk (Q_OWN (hoff 16 (by kernel_rfl)))
                  refine value_ (w1 := w') (v := .int .i64 (i : Int)) (by rfl) rfl ?_ ?_
                  · go_simp
                    (try simp only [i64_w])
                    try rfl
                  refine hK.out _ _ ⟨gz, v76, m15_, m17_, (by rw [ha.out]; exact putSel_upk 11 hb_ rfl rfl rfl), Q_HB, Q_BK2, Q_BK3, Q_OWN, fun h0_ _ => absurd ((hoff 15 (by kernel_rfl)).symm.trans h0_) (by decide), fun h0_ => absurd ((hoff 16 (by kernel_rfl)).symm.trans h0_) (by decide), fun h0_ => absurd ((hoff 15 (by kernel_rfl)).symm.trans h0_) (by decide), fun h0_ => absurd ((hoff 17 (by kernel_rfl)).symm.trans h0_) (by decide)⟩
                refine steps_cons ?_ ?_
                · rintro b a w' ⟨gz, v76, m15_, m17_, ha, Q_HB, Q_BK2, Q_BK3, Q_OWN, Q_BZ, Q_OWN2, Q_X15_, Q_X17_⟩ hb_ hon hoff
                  refine ⟨_, rfl, fun K hK => ?_⟩
                  have e105 : a.tmps[105]? = some (.slice (some yq) qn qd) := by rw [ha]; exact putSel_on (e := (10, 105, .slice (some yq) qn qd)) 10 rfl rfl (hon 10 (by kernel_rfl)) rfl
                  have e106 : a.tmps[106]? = some (.int .i64 (i : Int)) := by rw [ha]; exact putSel_on (e := (11, 106, .int .i64 (i : Int))) 11 rfl rfl (hon 11 (by kernel_rfl)) rfl
                  replace ha := Aside0.mk ha
                  have HB := Aside0.mk Q_HB
                  have BK2 := Aside0.mk Q_BK2
                  have BK3 := Aside0.mk Q_BK3
                  have OWN := Aside0.mk (Q_OWN (hoff 16 (by kernel_rfl)))
                  refine value_ (w1 := w') (v := .pointer (some (yq.add i))) (by rfl) rfl ?_ ?_
                  · go_simp
                    (try simp only [i64_w])
                    try rfl
                  refine hK.out _ _ ⟨gz, v76, m15_, m17_, (by rw [ha.out]; exact putSel_upk 12 hb_ rfl rfl rfl), Q_HB, Q_BK2, Q_BK3, Q_OWN, fun h0_ _ => absurd ((hoff 15 (by kernel_rfl)).symm.trans h0_) (by decide), fun h0_ => absurd ((hoff 16 (by kernel_rfl)).symm.trans h0_) (by decide), fun h0_ => absurd ((hoff 15 (by kernel_rfl)).symm.trans h0_) (by decide), fun h0_ => absurd ((hoff 17 (by kernel_rfl)).symm.trans h0_) (by decide)⟩
                refine steps_cons ?_ ?_
                · rintro b a w' ⟨gz, v76, m15_, m17_, ha, Q_HB, Q_BK2, Q_BK3, Q_OWN, Q_BZ, Q_OWN2, Q_X15_, Q_X17_⟩ hb_ hon hoff
                  refine ⟨_, rfl, fun K hK => ?_⟩
                  have e107 : a.tmps[107]? = some (.pointer (some (yq.add i))) := by rw [ha]; exact putSel_on (e := (12, 107, .pointer (some (yq.add i)))) 12 rfl rfl (hon 12 (by kernel_rfl)) rfl
                  replace ha := Aside0.mk ha
                  have HB := Aside0.mk Q_HB
                  have BK2 := Aside0.mk Q_BK2
                  have BK3 := Aside0.mk Q_BK3
                  have OWN := Aside0.mk (Q_OWN (hoff 16 (by kernel_rfl)))
                  have h108 : w'.cell? (yq.add i) = some (.int .u64 vy) := HCY.out w' HB.out
                  refine value_ (w1 := w') (v := .int .u64 vy) (by rfl) rfl ?_ ?_
                  · go_simp
                    (try simp only [i64_w])
                    try rfl
                  refine hK.out _ _ ⟨gz, v76, m15_, m17_, (by rw [ha.out]; exact putSel_upk 13 hb_ rfl rfl rfl), Q_HB, Q_BK2, Q_BK3, Q_OWN, fun h0_ _ => absurd ((hoff 15 (by kernel_rfl)).symm.trans h0_) (by decide), fun h0_ => absurd ((hoff 16 (by kernel_rfl)).symm.trans h0_) (by decide), fun h0_ => absurd ((hoff 15 (by kernel_rfl)).symm.trans h0_) (by decide), fun h0_ => absurd ((hoff 17 (by kernel_rfl)).symm.trans h0_) (by decide)⟩
                refine steps_cons ?_ ?_
                · rintro b a w' ⟨gz, v76, m15_, m17_, ha, Q_HB, Q_BK2, Q_BK3, Q_OWN, Q_BZ, Q_OWN2, Q_X15_, Q_X17_⟩ hb_ hon hoff
                  refine ⟨_, rfl, fun K hK => ?_⟩
                  have e97 : a.tmps[97]? = some (.int .i64 pa) := by rw [ha]; exact putSel_on (e := (2, 97, .int .i64 pa)) 2 rfl rfl (hon 2 (by kernel_rfl)) rfl
                  have e98 : a.tmps[98]? = some (.int .i64 (i : Int)) := by rw [ha]; exact putSel_on (e := (3, 98, .int .i64 (i : Int))) 3 rfl rfl (hon 3 (by kernel_rfl)) rfl
                  have e103 : a.tmps[103]? = some (.int .u64 vx) := by rw [ha]; exact putSel_on (e := (8, 103, .int .u64 vx)) 8 rfl rfl (hon 8 (by kernel_rfl)) rfl
                  have e108 : a.tmps[108]? = some (.int .u64 vy) := by rw [ha]; exact putSel_on (e := (13, 108, .int .u64 vy)) 13 rfl rfl (hon 13 (by kernel_rfl)) rfl
                  replace ha := Aside0.mk ha
                  have HB := Aside0.mk Q_HB
                  have BK2 := Aside0.mk Q_BK2
                  have BK3 := Aside0.mk Q_BK3
                  have OWN := Aside0.mk (Q_OWN (hoff 16 (by kernel_rfl)))
                  refine value_ (w1 := w') (v := .agg #[.int .i64 5, .int .i64 pa, .int .i64 (i : Int), .int .u64 vx, .int .u64 vy]) (by rfl) rfl ?_ ?_
                  · go_simp
                    (try simp only [i64_w])
                    try rfl
                  refine hK.out _ _ ⟨gz, v76, m15_, m17_, (by rw [ha.out]; exact putSel_upk 14 hb_ rfl rfl rfl), Q_HB, Q_BK2, Q_BK3, Q_OWN, fun h0_ _ => absurd ((hoff 15 (by kernel_rfl)).symm.trans h0_) (by decide), fun h0_ => absurd ((hoff 16 (by kernel_rfl)).symm.trans h0_) (by decide), fun h0_ => absurd ((hoff 15 (by kernel_rfl)).symm.trans h0_) (by decide), fun h0_ => absurd ((hoff 17 (by kernel_rfl)).symm.trans h0_) (by decide)⟩
                refine steps_cons ?_ ?_
                · rintro b a w' ⟨gz, v76, m15_, m17_, ha, Q_HB, Q_BK2, Q_BK3, Q_OWN, Q_BZ, Q_OWN2, Q_X15_, Q_X17_⟩ hb_ hon hoff
                  refine ⟨_, rfl, fun K hK => ?_⟩
                  have e109 : a.tmps[109]? = some (.agg #[.int .i64 5, .int .i64 pa, .int .i64 (i : Int), .int .u64 vx, .int .u64 vy]) := by rw [ha]; exact putSel_on (e := (14, 109, .agg #[.int .i64 5, .int .i64 pa, .int .i64 (i : Int), .int .u64 vx, .int .u64 vy])) 14 rfl rfl (hon 14 (by kernel_rfl)) rfl
                  replace ha := Aside0.mk ha
                  have HB := Aside0.mk Q_HB
                  have BK2 := Aside0.mk Q_BK2
                  have BK3 := Aside0.mk Q_BK3
                  have OWN := Aside0.mk (Q_OWN (hoff 16 (by kernel_rfl)))
                  refine value_ (w1 := ?_) (v := ?_) (by rfl) rfl ?_ ?_
                  rotate_left 2
                  · go_simp
                    constructor
                    · rfl
                    · rfl
                  have hb := below_alloc (Below.refl w'.heap.size w') (.cells #[.int .i64 5, .int .i64 pa, .int .i64 (i : Int), .int .u64 vx, .int .u64 vy] 44)
                  refine hK.out _ _ ⟨w'.heap.size, v76, (.slice (some ⟨w'.heap.size, 0, none⟩) 1 1), m17_, (by rw [ha.out]; exact putSel_upk 15 hb_ rfl rfl rfl), (below_step HB.out hb), (blk_below BK2.out hb), (blk_below BK3.out hb), fun _ => (Di.row_below OWN.out hb), fun _ _ => (blk_new w' (.cells #[.int .i64 5, .int .i64 pa, .int .i64 (i : Int), .int .u64 vx, .int .u64 vy] 44)), fun h0_ => absurd ((hoff 16 (by kernel_rfl)).symm.trans h0_) (by decide), fun _ => rfl, fun h0_ => absurd ((hoff 17 (by kernel_rfl)).symm.trans h0_) (by decide)⟩
                refine steps_cons ?_ ?_
                · rintro b a w' ⟨gz, v76, m15_, m17_, ha, Q_HB, Q_BK2, Q_BK3, Q_OWN, Q_BZ, Q_OWN2, Q_X15_, Q_X17_⟩ hb_ hon hoff
                  refine ⟨_, rfl, fun K hK => ?_⟩
                  have e95 : a.tmps[95]? = some (vv) := by rw [ha]; exact putSel_on (e := (0, 95, vv)) 0 rfl rfl (hon 0 (by kernel_rfl)) rfl
                  have e110 : a.tmps[110]? = some (m15_) := by rw [ha]; exact putSel_on (e := (15, 110, m15_)) 15 rfl rfl (hon 15 (by kernel_rfl)) rfl
                  rw [Q_X15_ (hon 15 (by kernel_rfl))] at e110
                  replace ha := Aside0.mk ha
                  have HB := Aside0.mk Q_HB
                  have BK2 := Aside0.mk Q_BK2
                  have BK3 := Aside0.mk Q_BK3
                  have OWN := Aside0.mk (Q_OWN hb_)
                  have BZ := Aside0.mk (Q_BZ (hon 15 (by kernel_rfl)) hb_)
                  refine append_ (by rfl) rfl (.tmp 95) (.tmp 110) 26 rfl w.heap.size 44 i0 (.agg #[.int .i64 0, .int .i64 0, .int .i64 0, .int .u64 0, .int .u64 0]) 5 40 Try.underlying26 hi hz0 hz1 hz2 rfl (by decide) vv nn xs ?qs1 OWN.out ⟨gz, 0, none⟩ 1 1 [Value.int .i64 5, .int .i64 pa, .int .i64 (i : Int), .int .u64 vx, .int .u64 vy] ?qx1 rfl (ch_cells BZ.out) ?qo1 (by unfold maxLen; omega) (by omega) (below_size HB.out) ?_
                  (case qs1 => simp [Act.eval, e95])
                  (case qx1 => simp [Act.eval, e110])
                  (case qo1 => intro u hu; simp at hu; rcases hu with rfl | rfl | rfl | rfl | rfl <;> rfl)
                  intro v9 w9 hown9 hgr9
                  refine hK.out _ _ ⟨gz, v9, m15_, m17_, (by rw [ha.out]; exact putSel_upk 16 hb_ rfl rfl rfl), (own_below HB.out (Nat.le_refl _) OWN.out hgr9), (own_keeps OWN.out hgr9 BK2.out (by decide)), (own_keeps OWN.out hgr9 BK3.out (by decide)), fun h0_ => absurd ((up_self b 16).symm.trans h0_) (by decide), fun _ h1_ => absurd ((up_self b 16).symm.trans h1_) (by decide), fun _ => hown9, Q_X15_, fun h0_ => absurd ((hoff 17 (by kernel_rfl)).symm.trans h0_) (by decide)⟩
                refine steps_cons ?_ ?_
                · rintro b a w' ⟨gz, v76, m15_, m17_, ha, Q_HB, Q_BK2, Q_BK3, Q_OWN, Q_BZ, Q_OWN2, Q_X15_, Q_X17_⟩ hb_ hon hoff
                  refine ⟨_, rfl, fun K hK => ?_⟩
                  have e111 : a.tmps[111]? = some (v76) := by rw [ha]; exact putSel_on (e := (16, 111, v76)) 16 rfl rfl (hon 16 (by kernel_rfl)) rfl
                  replace ha := Aside0.mk ha
                  have HB := Aside0.mk Q_HB
                  have BK2 := Aside0.mk Q_BK2
                  have BK3 := Aside0.mk Q_BK3
                  have OWN2 := Aside0.mk (Q_OWN2 (hon 16 (by kernel_rfl)))
                  refine value_ (w1 := w') (v := v76) (by rfl) rfl ?_ ?_
                  · go_simp
                    (try simp only [i64_w])
                    try rfl
                  refine hK.out _ _ ⟨gz, v76, m15_, (v76), (by rw [ha.out]; exact putSel_upk 17 hb_ rfl rfl rfl), Q_HB, Q_BK2, Q_BK3, fun h0_ => absurd ((hon 16 (by kernel_rfl)).symm.trans h0_) (by decide), fun _ h1_ => absurd ((hon 16 (by kernel_rfl)).symm.trans h1_) (by decide), Q_OWN2, Q_X15_, fun _ => rfl⟩
                exact steps_nil
              rintro b a wy hall ⟨gz, v76, m15_, m17_, ha, Q_HB, Q_BK2, Q_BK3, Q_OWN, Q_BZ, Q_OWN2, Q_X15_, Q_X17_⟩
              clear BK2 BK3 HB OWN
              have hb0_ := hall 0 (by kernel_rfl)
              have hb1_ := hall 1 (by kernel_rfl)
              have hb2_ := hall 2 (by kernel_rfl)
              have hb3_ := hall 3 (by kernel_rfl)
              have hb4_ := hall 4 (by kernel_rfl)
              have hb5_ := hall 5 (by kernel_rfl)
              have hb6_ := hall 6 (by kernel_rfl)
              have hb7_ := hall 7 (by kernel_rfl)
              have hb8_ := hall 8 (by kernel_rfl)
              have hb9_ := hall 9 (by kernel_rfl)
              have hb10_ := hall 10 (by kernel_rfl)
              have hb11_ := hall 11 (by kernel_rfl)
              have hb12_ := hall 12 (by kernel_rfl)
              have hb13_ := hall 13 (by kernel_rfl)
              have hb14_ := hall 14 (by kernel_rfl)
              have hb15_ := hall 15 (by kernel_rfl)
              have hb16_ := hall 16 (by kernel_rfl)
              have hb17_ := hall 17 (by kernel_rfl)
              subst ha
              obtain rfl := Q_X15_ hb15_
              obtain rfl := Q_X17_ hb17_
              simp only [putSel, hb0_, hb1_, hb2_, hb3_, hb4_, hb5_, hb6_, hb7_, hb8_, hb9_, hb10_, hb11_, hb12_, hb13_, hb14_, hb15_, hb16_, hb17_, if_true, Act.put, List.setIfInBounds_toArray, List.set_cons_zero, List.set_cons_succ]
              have HB := Aside0.mk Q_HB
              clear Q_HB
              have BK2 := Aside0.mk Q_BK2
              clear Q_BK2
              have BK3 := Aside0.mk Q_BK3
              clear Q_BK3
              clear Q_OWN
              clear Q_BZ
              have OWN2 := Aside0.mk (Q_OWN2 hb16_)
              clear Q_OWN2
              clear hall hb0_ hb1_ hb2_ hb3_ hb4_ hb5_ hb6_ hb7_ hb8_ hb9_ hb10_ hb11_ hb12_ hb13_ hb14_ hb15_ hb16_ hb17_
              go_wp2
              refine ⟨⟨_, i + 1, rfl, by omega, by push_cast; rfl, Aside0.mk (by
                have e1 : slotsTo (⟨pa, pr, ps, pw, pA, pm, pc, some yp, pn, pd, pS, pT⟩ : Nd) (⟨qa, qr, qs, qw, qA, qm, qc, some yq, qn, qd, qS, qT⟩ : Nd) pm ++ dataTo (⟨pa, pr, ps, pw, pA, pm, pc, some yp, pn, pd, pS, pT⟩ : Nd) (⟨qa, qr, qs, qw, qA, qm, qc, some yq, qn, qd, qS, qT⟩ : Nd) (i + 1) = (slotsTo (⟨pa, pr, ps, pw, pA, pm, pc, some yp, pn, pd, pS, pT⟩ : Nd) (⟨qa, qr, qs, qw, qA, qm, qc, some yq, qn, qd, qS, qT⟩ : Nd) pm ++ dataTo (⟨pa, pr, ps, pw, pA, pm, pc, some yp, pn, pd, pS, pT⟩ : Nd) (⟨qa, qr, qs, qw, qA, qm, qc, some yq, qn, qd, qS, qT⟩ : Nd) i) ++ [⟨5, pa, (i : Int), vx, vy⟩] := by
                  rw [data_ne (x := (⟨pa, pr, ps, pw, pA, pm, pc, some yp, pn, pd, pS, pT⟩ : Nd)) (y := (⟨qa, qr, qs, qw, qA, qm, qc, some yq, qn, qd, qS, qT⟩ : Nd)) HXY.out, HVX.out, HVY.out]; rw [List.append_assoc]
                rw [e1, List.length_append, ← HNN.out, chs_snoc, ← HXS.out]
                exact OWN2.out), HB, BK2, BK3⟩, ?_⟩
              show pn - ((i : Int) + 1).toNat < pn - (i : Int).toNat
              omega
          · obtain rfl : pn = i := by omega
            have hd : decide ((pn : Int) < (pn : Int)) = false := decide_eq_false (by omega)
            go_wp2
            go_ret
            exact ⟨_, rfl, OWN.out, HB.out⟩
end Go.Proofs.Ytekggbmajemmhaa.Gr
