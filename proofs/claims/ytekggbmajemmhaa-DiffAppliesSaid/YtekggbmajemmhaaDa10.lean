/- Parts of one proof, set together: Gr10, Gr11, Gr12, Gr13, Gr14, Gr15, Gr16, Gr17, Gr18. What each says stands at its head; no condition beyond theirs. -/
import Derived.Test.YtekggbmajemmhaaDa9
import Derived.Lib.OwnBridge
import Derived.Sort.OwnSortedInts
/- Diff: inside. Conditions: both nodes' lists lie in memory; at most 300 of each. -/
namespace Go.Proofs.Ytekggbmajemmhaa.Gr
open Go.RowKit Go.Shelf Go.Maps Go.ChangeMaps Go.MapKept Go.Proofs.YtekggbmajemmhaaW.PrintWords Go.Proofs.YtekggbmajemmhaaW.PrintLast Go.Proofs.YtekggbmajemmhaaW.PrintMore
set_option linter.unusedSimpArgs false
set_option linter.unusedVariables false
abbrev Ch.cells (c : Ch) : List Value := [.int .i64 c.k, .int .i64 c.a, .int .i64 c.i, .int .u64 c.was, .int .u64 c.is]
theorem own_below {w W W' : World} {X : Nat} {e : TypeId} {s n : Nat} {v : Value} {xs : List Value} (hb : Below X w W) (hX : X ≤ w.heap.size) (h : W.ownsRow X e s v n xs) (hg : W.grownBy W' v.ownBlock) : Below X w W' :=
  hb.grown hg (Nat.le_trans hX hb.size) (fun k e => (h.lt k e).1)
variable {P : Program} {ops : Array Oper} {Q : Exit → Act → World → Prop}
theorem append_ {oi : Oper} {N : Option Tmp} {a : Act} {w : World} {K : Act → World → Prop} (hw : Region.wanted oi (yielded ops a.tmps) = true) (hN : oi.dst = N) (s x : Operand) (t : TypeId)
    (ho : oi.op = .call { callee := .builtin .append, args := #[s, x], argTypes := #[t, t] })
    (base : Nat) (e : TypeId) (i : TypeInfo) (z : Value) (size bytes : Nat) (ht : P.underlying t = some (.slice e)) (hi : P.info? e = some i) (hz : i.zero = some z)
    (hsize : i.size = size) (hby : i.bytes = bytes) (hzs : z.cells.size = size) (hsz : 0 < size)
    (v : Value) (n : Nat) (xs : List Value) (hs : a.eval s = v) (hown : w.ownsRow base e size v n xs)
    (ad : Addr) (m c : Nat) (news : List Value) (hx : a.eval x = .slice (some ad) m c) (hl : news.length = m * size) (hnews : ∀ j u, news[j]? = some u → w.cell? (ad.add j) = some u) (h1 : ∀ u ∈ news, u.oneCell' = true)
    (h63 : n + m ≤ maxLen) (hbytes : (n + m) * bytes ≤ 140737488355328) (hbase : base ≤ w.heap.size)
    (h : ∀ v' w', w'.ownsRow base e size v' (n + m) (xs ++ news) → w.grownBy w' v.ownBlock → K (a.put N v') w') : if Region.wanted oi (yielded ops a.tmps) = true then Oper.wp P oi a w K Q else K (a.put N undef) w := by
  rw [if_pos hw]
  subst hN
  exact wp_append_own w s x t ho base e i z size bytes ht hi hz hsize hby hzs hsz v n xs hs hown ad m c news hx hl hnews h1 h63 hbytes hbase (fun v' w' h2 h3 _ => h v' w' h2 h3)
theorem words_calls (W : World) (adr refs sl words : Int) (A1 : Option Addr) (m c : Nat) (B1 : Option Addr) (n d : Nat) : Calls Try.prog 35 #[.agg #[.int .i64 adr, .int .i64 refs, .int .i64 sl, .int .i64 words, .slice A1 m c, .slice B1 n d]] W fun e W' => e = .returned (.int .u64 (u64 words)) ∧ Below W.heap.size W W' := by
  have HB := Aside0.mk (Below.refl W.heap.size W)
  go_enter Try.func35, Try.ntmps35
  go_wp2_with ((with_reducible refine gate_dst (N := 1) rfl ?_); refine box_event ?hg (N := 1) ?hd (cs := #[.int .i64 adr, .int .i64 refs, .int .i64 sl, .int .i64 words, .slice A1 m c, .slice B1 n d]) (t := 40) ?hr ?_; (case hd => rfl); (case hg => rfl); (case hr => first | (go_simp; done) | (go_simp; rfl)); intro g1 hg w1_ hbox hb; have n0_ := Aside0.mk (below_step (by repeat (first | (with_reducible first | exact HB.out | apply below_alloc | apply pw_below_drewN | apply below_drew1) | exact HB.out)) hb); have n1_ := Aside0.mk hbox; have n2_ := Aside0.mk ((by rw [hg]; exact (below_size (by repeat (first | (with_reducible first | exact HB.out | apply below_alloc | apply pw_below_drewN | apply below_drew1) | exact HB.out)))) : W.heap.size ≤ g1); clear HB; have HB := n0_; have BK1 := n1_; have GE1 := n2_; clear n0_ n1_ n2_; clear hb hbox hg; have hc1_0 : w1_.cell? ⟨g1, 0, none⟩ = some (.int .i64 adr) := (blk_cell BK1.out 0).trans rfl; have hf1_0 := blk_frozen BK1.out 0; have hc1_1 : w1_.cell? ⟨g1, 1, none⟩ = some (.int .i64 refs) := (blk_cell BK1.out 1).trans rfl; have hf1_1 := blk_frozen BK1.out 1; have hc1_2 : w1_.cell? ⟨g1, 2, none⟩ = some (.int .i64 sl) := (blk_cell BK1.out 2).trans rfl; have hf1_2 := blk_frozen BK1.out 2; have hc1_3 : w1_.cell? ⟨g1, 3, none⟩ = some (.int .i64 words) := (blk_cell BK1.out 3).trans rfl; have hf1_3 := blk_frozen BK1.out 3; have hc1_4 : w1_.cell? ⟨g1, 4, none⟩ = some (.slice A1 m c) := (blk_cell BK1.out 4).trans rfl; have hf1_4 := blk_frozen BK1.out 4; have hc1_5 : w1_.cell? ⟨g1, 5, none⟩ = some (.slice B1 n d) := (blk_cell BK1.out 5).trans rfl; have hf1_5 := blk_frozen BK1.out 5)
  go_ret
  exact ⟨rfl, HB.out⟩
def i2.B2 : List Nat := [0, 1, 0, 4, 0, 28, 63, 127, 255]
def i8.T8 : Bool × List (List Nat × List Nat) := (true, [([], []), ([], []), ([1], [1]), ([], []), ([], []), ([4], [4]), ([], []), ([5, 6], [5, 6]), ([7], [7]), ([8], [8]), ([], []), ([10], [10]), ([], []), ([11, 12], [11, 12]), ([13], [13]), ([14], [14]), ([2, 3, 9, 15], [2, 3, 9, 15]), ([16], [16]), ([0, 17], [0, 17]), ([18, 18, 0, 1, 2, 3, 4, 5, 6, 7, 8, 9, 10, 11, 12, 13, 14, 15, 16, 17, 18], [0, 18])])
def i8.B8 : List Nat := [0, 0, 2, 0, 0, 16, 0, 112, 240, 496, 0, 1024, 0, 7168, 15360, 31744, 65534, 131070, 262143, 524287]
theorem i8.tab8 : rtab .any (opsOf Try.f49 8) = i8.T8 := by kernel_rfl
theorem i8.bits8 : waitsOk i8.T8.2 i8.B8 = true := by kernel_rfl
def i13.T13 : Bool × List (List Nat × List Nat) := (true, [([], []), ([0], [0]), ([], []), ([1, 2], [1, 2]), ([3], [3]), ([], []), ([5], [5]), ([], []), ([6, 7], [6, 7]), ([8], [8]), ([4, 9], [4, 9])])
def i13.B13 : List Nat := [0, 1, 0, 7, 15, 0, 32, 0, 224, 480, 1023]
theorem i13.tab13 : rtab .any (opsOf Try.f49 13) = i13.T13 := by kernel_rfl
theorem i13.bits13 : waitsOk i13.T13.2 i13.B13 = true := by kernel_rfl
end Go.Proofs.Ytekggbmajemmhaa.Gr
/- Diff: roots. Conditions: both graphs lie in memory; at most 40 roots each. -/
namespace Go.Proofs.Ytekggbmajemmhaa.Gr
open Go.RowKit Go.Shelf Go.Maps Go.ChangeMaps Go.MapKept Go.Proofs.YtekggbmajemmhaaW.PrintWords Go.Proofs.YtekggbmajemmhaaW.PrintLast Go.Proofs.YtekggbmajemmhaaW.PrintMore
set_option linter.unusedSimpArgs false
set_option linter.unusedVariables false
def q5.T5 : Bool × List (List Nat × List Nat) := (true, [([], []), ([0], [0]), ([], []), ([1, 2], [1, 2]), ([], []), ([4], [4]), ([], []), ([5, 6, 3], [5, 6]), ([3, 7, 0, 1, 2, 3], [3]), ([7, 8, 0, 1, 2, 3, 4, 5, 6, 7, 8], [7])])
def q5.B5 : List Nat := [0, 1, 0, 7, 0, 16, 0, 127, 255, 511]
theorem q5.tab5 : rtab .any (opsOf Try.f27 5) = q5.T5 := by kernel_rfl
theorem q5.bits5 : waitsOk q5.T5.2 q5.B5 = true := by kernel_rfl
end Go.Proofs.Ytekggbmajemmhaa.Gr
/- Diff: what the changes' iterator keeps. No program text is walked here. -/
namespace Go.Proofs.Ytekggbmajemmhaa.Gr
open Go.RowKit Go.Shelf Go.Maps Go.ChangeMaps Go.MapKept Go.Proofs.YtekggbmajemmhaaW.PrintWords Go.Proofs.YtekggbmajemmhaaW.PrintLast Go.Proofs.YtekggbmajemmhaaW.PrintMore
set_option linter.unusedSimpArgs false
set_option linter.unusedVariables false
/-- What a round keeps: the arguments' memory; every block of cells, and every map, but for the body's own box and the row that it owns. -/
def KpC (B Bo : Nat) (W W' : World) : Prop := (∀ k, k < B → W'.heap[k]? = W.heap[k]?) ∧ ∀ v, W.heap[Bo]? = some (.cells #[v] 26 (0, 0)) → ∃ v', W'.heap[Bo]? = some (.cells #[v'] 26 (0, 0)) ∧ (v'.ownBlock = v.ownBlock ∨ ∃ k, v'.ownBlock = some k ∧ W.heap.size ≤ k) ∧ (∀ k, v'.ownBlock = some k → (v.ownBlock = some k ∨ k < W'.heap.size)) ∧ W.heap.size ≤ W'.heap.size ∧
  ∀ k o, W.heap[k]? = some o → o.isCells = true ∨ o.isWalk = true → k ≠ Bo → v.ownBlock ≠ some k → W'.heap[k]? = some o
theorem KpC.t {B Bo : Nat} {X Y Z : World} (h : KpC B Bo X Y) (k : KpC B Bo Y Z) : KpC B Bo X Z := by
  refine ⟨fun q hq => (k.1 q hq).trans (h.1 q hq), fun v hv => ?_⟩
  obtain ⟨v1, a1, a2, a3, a4, a5⟩ := h.2 v hv
  obtain ⟨v2, b1, b2, b3, b4, b5⟩ := k.2 v1 a1
  refine ⟨v2, b1, ?_, ?_, by omega, fun q o hq ho hne hv' => ?_⟩
  · rcases b2 with e | ⟨q, e, hq⟩
    · rw [e]
      exact a2
    · exact Or.inr ⟨q, e, by omega⟩
  · intro q hq
    rcases b3 q hq with e | e
    · rcases a3 q e with e' | e'
      · exact Or.inl e'
      · exact Or.inr (by omega)
    · exact Or.inr e
  · have hql : q < X.heap.size := (Array.getElem?_eq_some_iff.1 hq).1
    refine b5 q o (a5 q o hq ho hne hv') ho hne ?_
    rcases a2 with e | ⟨r, e, hr⟩
    · rw [e]; exact hv'
    · rw [e]
      intro e'
      have := Option.some.inj e'
      omega
theorem KpC.b {B Bo n : Nat} (hB : B ≤ n) (W : World) (l : Nat) (o o' : Obj) (hl : n ≤ l) (h : W.heap[l]? = some o) (ho : o.isCells = false) (hw : o.isWalk = false) : KpC B Bo W (W.putObj l o') := by
  refine ⟨fun k hk => World.putObj_heap_other (by omega), fun v hv => ⟨v, (World.putObj_heap_other (fun e => ?_)).trans hv, Or.inl rfl, fun k hk => Or.inl hk, (grownBy_putObj' W l o').size, fun k q hq hcw hne hv' => (World.putObj_heap_other (fun e => ?_)).trans hq⟩⟩
  · subst e
    rw [h] at hv
    cases hv
    cases ho
  · subst e
    rw [h] at hq
    cases hq
    rcases hcw with e | e
    · rw [ho] at e; cases e
    · rw [hw] at e; cases e
/-- The iterator's own things. -/
structure Cx where
  (X B Bo m1 m2 : Nat)
  aK : Option Addr
  cK : Nat
structure CS (W : World) (q : Cx) (a b : Gd) (K : List Int) (v : Value) : Prop where
  o1 : W.ownsMap Try.prog 3 nR q.m1 40 (OD a.NS (walkR a.NS a.R))
  o2 : W.ownsMap Try.prog 3 nR q.m2 40 (OD b.NS (walkR b.NS b.R))
  row : W.ownsRow q.X 3 1 (.slice q.aK K.length q.cK) K.length (K.map (Value.int .i64))
  ga : GM W q.B a
  gb : GM W q.B b
  box : W.heap[q.Bo]? = some (.cells #[v] 26 (0, 0))
  own : ∀ k, v.ownBlock = some k → k < W.heap.size ∧ k ≠ q.m1 ∧ k ≠ q.m2 ∧ (Value.slice q.aK K.length q.cK).ownBlock ≠ some k
  hB : q.B ≤ W.heap.size
theorem CS.below {W W' : World} {q : Cx} {a b : Gd} {K : List Int} {v : Value} (h : CS W q a b K v) (hb : Below W.heap.size W W') : CS W' q a b K v :=
  ⟨owns_below h.o1 hb, owns_below h.o2 hb, Di.row_below h.row hb, h.ga.kept fun k hk => hb.block k (by have := h.hB; omega), h.gb.kept fun k hk => hb.block k (by have := h.hB; omega), blk_below h.box hb, fun k hk => ⟨Nat.lt_of_lt_of_le (h.own k hk).1 hb.size, (h.own k hk).2⟩, Nat.le_trans h.hB hb.size⟩
end Go.Proofs.Ytekggbmajemmhaa.Gr
/- Diff: the changes' iterator. Conditions: both graphs lie in memory and are small. -/
namespace Go.Proofs.Ytekggbmajemmhaa.Gr
open Go.RowKit Go.Shelf Go.Maps Go.ChangeMaps Go.MapKept Go.Proofs.YtekggbmajemmhaaW.PrintWords Go.Proofs.YtekggbmajemmhaaW.PrintLast Go.Proofs.YtekggbmajemmhaaW.PrintMore
set_option linter.unusedSimpArgs false
set_option linter.unusedVariables false
attribute [local go_sem] Oper.semAt_some
def z0.T0 : Bool × List (List Nat × List Nat) := (true, [([], []), ([0], [0]), ([], []), ([2, 1], [2]), ([1, 3, 0, 1], [1]), ([3, 4, 0, 1, 2, 3, 4], [3])])
def z0.B0 : List Nat := [0, 1, 0, 7, 15, 31]
theorem z0.tab0 : rtab .any (opsOf Try.f43 0) = z0.T0 := by kernel_rfl
theorem z0.bits0 : waitsOk z0.T0.2 z0.B0 = true := by kernel_rfl
end Go.Proofs.Ytekggbmajemmhaa.Gr
/- Diff: slices.AppendSeq of changes. Conditions: both graphs lie in memory and are small. -/
namespace Go.Proofs.Ytekggbmajemmhaa.Gr
open Go.RowKit Go.Shelf Go.Maps Go.ChangeMaps Go.MapKept Go.Proofs.YtekggbmajemmhaaW.PrintWords Go.Proofs.YtekggbmajemmhaaW.PrintLast Go.Proofs.YtekggbmajemmhaaW.PrintMore
set_option linter.unusedSimpArgs false
set_option linter.unusedVariables false
attribute [local go_sem] Oper.semAt_some
theorem KpC.alloc {B Bo : Nat} (W : World) (o : Obj) (hB : B ≤ W.heap.size) : KpC B Bo W (W.alloc o) :=
  ⟨fun k hk => Below.heap_alloc W o k (by omega), fun v hv => ⟨v, blk_alloc hv o, Or.inl rfl, fun k hk => Or.inl hk, by rw [World.size_alloc]; omega, fun k q hk _ _ _ => blk_alloc hk o⟩⟩
end Go.Proofs.Ytekggbmajemmhaa.Gr
/- Diff: Of. Conditions: both graphs lie in memory and are small. -/
namespace Go.Proofs.Ytekggbmajemmhaa.Gr
open Go.RowKit Go.Shelf Go.Maps Go.ChangeMaps Go.MapKept Go.Proofs.YtekggbmajemmhaaW.PrintWords Go.Proofs.YtekggbmajemmhaaW.PrintLast Go.Proofs.YtekggbmajemmhaaW.PrintMore
set_option linter.unusedSimpArgs false
set_option linter.unusedVariables false
def o2.T1 : Bool × List (List Nat × List Nat) := (true, [([], []), ([], []), ([0, 1], [0, 1]), ([], []), ([], []), ([3, 4, 2], [3, 4]), ([2, 5, 5], [2, 5]), ([6, 6, 0, 1, 2, 3, 4, 5, 6], [6])])
def o2.B1 : List Nat := [0, 0, 3, 0, 0, 31, 63, 127]
theorem o2.tab1 : rtab .any (opsOf Try.f12 1) = o2.T1 := by kernel_rfl
theorem o2.bits1 : waitsOk o2.T1.2 o2.B1 = true := by kernel_rfl
end Go.Proofs.Ytekggbmajemmhaa.Gr
/- Diff: whether a graph is great. Condition: its nodes lie in memory. -/
namespace Go.Proofs.Ytekggbmajemmhaa.Gr
open Go.RowKit Go.Shelf Go.Maps Go.ChangeMaps Go.MapKept Go.Proofs.YtekggbmajemmhaaW.PrintWords Go.Proofs.YtekggbmajemmhaaW.PrintLast Go.Proofs.YtekggbmajemmhaaW.PrintMore
set_option linter.unusedSimpArgs false
set_option linter.unusedVariables false
set_option maxHeartbeats 8000000 in
set_option maxRecDepth 100000 in
theorem great_calls (w : World) (B : Nat) (hB : B ≤ w.heap.size) (rA nA : Option Addr) (rl rc nl nc : Nat) (NS : List Nd) (HN : Aside0 (NL w B nA nl NS)) (hnl : nl ≤ 9223372036854775807) : Calls Try.prog 8 #[.agg #[.slice rA rl rc, .slice nA nl nc]] w (fun (e : Ending) (W' : World) => ∃ b : Bool, e = .returned (.bool b) ∧ (b = false ↔ nl ≤ 40 ∧ rl ≤ 40 ∧ ∀ i, i < nl → (NS.getD i default).m ≤ 300 ∧ (NS.getD i default).n ≤ 300) ∧ Below w.heap.size w W') := by
  have HB := Aside0.mk (Below.refl w.heap.size w)
  go_enter Try.func8, Try.ntmps8
  go_upto_region 1 with ((with_reducible refine gate_dst (N := 1) rfl ?_); refine box_event ?hg (N := 1) ?hd (cs := #[.slice rA rl rc, .slice nA nl nc]) (t := 25) ?hr ?_; (case hd => rfl); (case hg => rfl); (case hr => first | (go_simp; done) | (go_simp; rfl)); intro g1 hg w1_ hbox hb; have n0_ := Aside0.mk (below_step (by repeat (first | (with_reducible first | exact HB.out | apply below_alloc | apply pw_below_drewN | apply below_drew1) | exact HB.out)) hb); have n1_ := Aside0.mk hbox; have n2_ := Aside0.mk ((by rw [hg]; exact (below_size (by repeat (first | (with_reducible first | exact HB.out | apply below_alloc | apply pw_below_drewN | apply below_drew1) | exact HB.out)))) : w.heap.size ≤ g1); clear HB; have HB := n0_; have BK1 := n1_; have GE1 := n2_; clear n0_ n1_ n2_; clear hb hbox hg)
  go_upto_region 2 with fail
  go_loopw [3] (fun v wr => ∃ i : Nat, i ≤ nl ∧ v = .int .i64 (i : Int) ∧ Aside0 (∀ j, j < i → (NS.getD j default).m ≤ 300 ∧ (NS.getD j default).n ≤ 300) ∧ Aside0 (Below w.heap.size w wr) ∧ Aside0 (wr.heap[g1]? = some (.cells #[.slice rA rl rc, .slice nA nl nc] 25 (0, 0)))) (fun v _ => nl - (intOf v).toNat)
  case atStart => exact ⟨0, by omega, rfl, Aside0.mk (fun j hj => absurd hj (by omega)), HB, BK1⟩
  case round =>
    clear HB BK1
    obtain ⟨i, hi_, rfl, SZ, HB, BK1⟩ := hrel
    have hc1_0 : wr.cell? ⟨g1, 0, none⟩ = some (.slice rA rl rc) := (blk_cell BK1.out 0).trans rfl
    have hc1_1 : wr.cell? ⟨g1, 1, none⟩ = some (.slice nA nl nc) := (blk_cell BK1.out 1).trans rfl
    by_cases hgo : i < nl
    · have hd : decide ((i : Int) < (nl : Int)) = true := decide_eq_true (by omega)
      obtain ⟨y, e, hy, h0, h1, h2, h3, h4, h5⟩ := (HN.out.kept (fun k hk => HB.out.block k (by omega)) : NL wr B nA nl NS).2 i hgo
      subst e
      have hS := SZ.out
      obtain ⟨q, hq⟩ : ∃ q, q = NS.getD i default := ⟨_, rfl⟩
      rw [← hq] at h0 h1 h2 h3 h4 h5
      have HQ := Aside0.mk hq
      have hz4 : wr.cell? ⟨(y.add (i * 6)).block, (y.add (i * 6)).off + 4, none⟩ = some (.slice q.A q.m q.c) := h4
      have hz5 : wr.cell? ⟨(y.add (i * 6)).block, (y.add (i * 6)).off + 5, none⟩ = some (.slice q.B q.n q.d) := h5
      clear h4 h5
      clear hq h0 h1 h2 h3 hS
      have hi0 : (0 : Int) ≤ (i : Int) := by omega
      have hi1 : (i : Int) < (nl : Int) := by omega
      by_cases hm : 300 < q.m
      · have hdm : decide ((q.m : Int) > 300) = true := decide_eq_true (by omega)
        have hdm' : decide ((300 : Int) < (q.m : Int)) = true := decide_eq_true (by omega)
        go_wp2
        go_ret
        exact ⟨true, rfl, ⟨fun h => absurd h (by decide), fun h => absurd (h.2.2 i hgo) (by rw [← HQ.out]; omega)⟩, HB.out⟩
      · have hdm : decide ((q.m : Int) > 300) = false := decide_eq_false (by omega)
        have hdm' : decide ((300 : Int) < (q.m : Int)) = false := decide_eq_false (by omega)
        by_cases hn : 300 < q.n
        · have hdn : decide ((q.n : Int) > 300) = true := decide_eq_true (by omega)
          have hdn' : decide ((300 : Int) < (q.n : Int)) = true := decide_eq_true (by omega)
          go_wp2
          go_ret
          exact ⟨true, rfl, ⟨fun h => absurd h (by decide), fun h => absurd (h.2.2 i hgo) (by rw [← HQ.out]; omega)⟩, HB.out⟩
        · have hdn : decide ((q.n : Int) > 300) = false := decide_eq_false (by omega)
          have hdn' : decide ((300 : Int) < (q.n : Int)) = false := decide_eq_false (by omega)
          have hwr : wrap64 ((i : Int) + 1) = ((i + 1 : Nat) : Int) := by unfold wrap64; omega
          go_wp2
          go_roundw
          case measure => (try rw [hwr]); simp [intOf]; omega
          case rel => exact ⟨i + 1, by omega, by first | rfl | rw [hwr], Aside0.mk (fun j hj => by rcases Nat.lt_succ_iff_lt_or_eq.1 hj with h | rfl; exact SZ.out j h; rw [← HQ.out]; omega), HB, BK1⟩
    · have hd : decide ((i : Int) < (nl : Int)) = false := decide_eq_false (by omega)
      have hin : i = nl := by omega
      by_cases hm : 40 < nl
      · have hdm : decide ((nl : Int) > 40) = true := decide_eq_true (by omega)
        have hdm' : decide ((40 : Int) < (nl : Int)) = true := decide_eq_true (by omega)
        go_wp2
        go_ret
        exact ⟨true, rfl, ⟨fun h => absurd h (by decide), fun h => by omega⟩, HB.out⟩
      · have hdm : decide ((nl : Int) > 40) = false := decide_eq_false (by omega)
        have hdm' : decide ((40 : Int) < (nl : Int)) = false := decide_eq_false (by omega)
        by_cases hn : 40 < rl
        · have hdn : decide ((rl : Int) > 40) = true := decide_eq_true (by omega)
          have hdn' : decide ((40 : Int) < (rl : Int)) = true := decide_eq_true (by omega)
          go_wp2
          go_ret
          exact ⟨true, rfl, ⟨fun h => absurd h (by decide), fun h => by omega⟩, HB.out⟩
        · have hdn : decide ((rl : Int) > 40) = false := decide_eq_false (by omega)
          have hdn' : decide ((40 : Int) < (rl : Int)) = false := decide_eq_false (by omega)
          go_wp2
          go_ret
          exact ⟨false, rfl, ⟨fun _ => ⟨by omega, by omega, fun j hj => SZ.out j (by omega)⟩, fun _ => rfl⟩, HB.out⟩
theorem great_iff {W : World} {B : Nat} {g : Gd} (HG : Aside0 (GM W B g)) : (g.nl ≤ 40 ∧ g.rl ≤ 40 ∧ ∀ i, i < g.nl → (g.NS.getD i default).m ≤ 300 ∧ (g.NS.getD i default).n ≤ 300) ↔ Small g := by
  have hl := HG.out.nds.1
  refine ⟨fun ⟨h1, h2, h3⟩ => ⟨h1, h2, fun n hn => ?_⟩, fun h => ⟨h.n40, h.r40, fun i hi => ?_⟩⟩
  · obtain ⟨i, hi, rfl⟩ := List.mem_iff_getElem.1 hn
    have := h3 i (by omega)
    rw [List.getD_eq_getElem?_getD, List.getElem?_eq_getElem hi] at this
    exact this
  · rw [List.getD_eq_getElem?_getD, List.getElem?_eq_getElem (show i < g.NS.length by omega)]
    exact h.sz _ (List.getElem_mem _)
theorem great_no (w : World) (B : Nat) (hB : B ≤ w.heap.size) (g : Gd) (HG : Aside0 (GM w B g)) (hnl : g.nl ≤ 9223372036854775807) (hs : Small g) : Calls Try.prog 8 #[.agg #[.slice g.rA g.rl g.rc, .slice g.nA g.nl g.nc]] w fun e W' => e = .returned (.bool false) ∧ Below w.heap.size w W' := by
  refine (great_calls w B hB g.rA g.nA g.rl g.rc g.nl g.nc g.NS (Aside0.mk HG.out.nds) hnl).mono ?_
  rintro e W' ⟨b, rfl, h, hb⟩
  rw [h.2 ((great_iff HG).2 hs)]
  exact ⟨rfl, hb⟩
theorem great_yes (w : World) (B : Nat) (hB : B ≤ w.heap.size) (g : Gd) (HG : Aside0 (GM w B g)) (hnl : g.nl ≤ 9223372036854775807) (hs : ¬ Small g) : Calls Try.prog 8 #[.agg #[.slice g.rA g.rl g.rc, .slice g.nA g.nl g.nc]] w fun e W' => e = .returned (.bool true) ∧ Below w.heap.size w W' := by
  refine (great_calls w B hB g.rA g.nA g.rl g.rc g.nl g.nc g.NS (Aside0.mk HG.out.nds) hnl).mono ?_
  rintro e W' ⟨b, rfl, h, hb⟩
  cases b with
  | true => exact ⟨rfl, hb⟩
  | false => exact absurd ((great_iff HG).1 (h.1 rfl)) hs
end Go.Proofs.Ytekggbmajemmhaa.Gr
/- DiffTurns' walk. Condition: both graphs lie in memory ahead of the walk. -/
namespace Go.Proofs.Ytekggbmajemmhaa.Gr
open Go.RowKit Go.Shelf Go.Maps Go.ChangeMaps Go.MapKept Go.Proofs.YtekggbmajemmhaaW.PrintWords Go.Proofs.YtekggbmajemmhaaW.PrintLast Go.Proofs.YtekggbmajemmhaaW.PrintMore
set_option linter.unusedSimpArgs false
set_option linter.unusedVariables false
theorem cell_lt {w : World} {a : Addr} {v : Value} (h : w.cell? a = some v) : a.block < w.heap.size := by
  rcases Nat.lt_or_ge a.block w.heap.size with h0 | h0
  · exact h0
  · have h3 : w.heap[a.block]? = none := Array.getElem?_eq_none h0
    simp [World.cell?, h3] at h
def o5.T5 : Bool × List (List Nat × List Nat) := (true, [([], []), ([], []), ([0, 1], [0, 1]), ([], []), ([], []), ([3, 4, 2], [3, 4]), ([2, 5, 0, 1, 2], [2]), ([5, 6, 0, 1, 2, 3, 4, 5, 6], [5])])
def o5.B5 : List Nat := [0, 0, 3, 0, 0, 31, 63, 127]
theorem o5.tab5 : rtab .any (opsOf Try.f5 5) = o5.T5 := by kernel_rfl
theorem o5.bits5 : waitsOk o5.T5.2 o5.B5 = true := by kernel_rfl
end Go.Proofs.Ytekggbmajemmhaa.Gr
