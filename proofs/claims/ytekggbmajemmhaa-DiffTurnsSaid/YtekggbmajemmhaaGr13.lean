/- Diff: what the changes' iterator keeps. No program text is walked here. -/
import Derived.Test.YtekggbmajemmhaaGr12
namespace Go.Proofs.Ytekggbmajemmhaa.Gr
open Go.RowKit Go.Shelf Go.Maps Go.ChangeMaps Go.MapKept Go.Proofs.YtekggbmajemmhaaW.PrintWords Go.Proofs.YtekggbmajemmhaaW.PrintLast Go.Proofs.YtekggbmajemmhaaW.PrintMore
set_option linter.unusedSimpArgs false
set_option linter.unusedVariables false
/-- What a round keeps: the arguments' memory; every block of cells, and every map, but for the body's own box and the row that it owns. -/
def KpC (B Bo : Nat) (W W' : World) : Prop := (∀ k, k < B → W'.heap[k]? = W.heap[k]?) ∧ ∀ v, W.heap[Bo]? = some (.cells #[v] 26 (0, 0)) → ∃ v', W'.heap[Bo]? = some (.cells #[v'] 26 (0, 0)) ∧ (v'.ownBlock = v.ownBlock ∨ ∃ k, v'.ownBlock = some k ∧ W.heap.size ≤ k) ∧ (∀ k, v'.ownBlock = some k → (v.ownBlock = some k ∨ k < W'.heap.size)) ∧ W.heap.size ≤ W'.heap.size ∧
  ∀ k o, W.heap[k]? = some o → o.isCells = true ∨ o.isWalk = true → k ≠ Bo → v.ownBlock ≠ some k → W'.heap[k]? = some o
theorem KpC.t {B Bo : Nat} {X Y Z : World} (h : KpC B Bo X Y) (k : KpC B Bo Y Z) : KpC B Bo X Z := by
  refine ⟨fun q hq => (k.1 q hq).trans (h.1 q hq), fun v hv => ?_⟩
  obtain ⟨v1, a1, a2, a3, a4, a5⟩ := h.2 v hv
  obtain ⟨v2, b1, b2, b3, b4, b5⟩ := k.2 v1 a1
  refine ⟨v2, b1, ?_, ?_, by omega, fun q o hq ho hne hv' => ?_⟩
  · rcases b2 with e | ⟨q, e, hq⟩
    · rw [e]
      exact a2
    · exact Or.inr ⟨q, e, by omega⟩
  · intro q hq
    rcases b3 q hq with e | e
    · rcases a3 q e with e' | e'
      · exact Or.inl e'
      · exact Or.inr (by omega)
    · exact Or.inr e
  · have hql : q < X.heap.size := (Array.getElem?_eq_some_iff.1 hq).1
    refine b5 q o (a5 q o hq ho hne hv') ho hne ?_
    rcases a2 with e | ⟨r, e, hr⟩
    · rw [e]; exact hv'
    · rw [e]
      intro e'
      have := Option.some.inj e'
      omega
theorem KpC.b {B Bo n : Nat} (hB : B ≤ n) (W : World) (l : Nat) (o o' : Obj) (hl : n ≤ l) (h : W.heap[l]? = some o) (ho : o.isCells = false) (hw : o.isWalk = false) : KpC B Bo W (W.putObj l o') := by
  refine ⟨fun k hk => World.putObj_heap_other (by omega), fun v hv => ⟨v, (World.putObj_heap_other (fun e => ?_)).trans hv, Or.inl rfl, fun k hk => Or.inl hk, (grownBy_putObj' W l o').size, fun k q hq hcw hne hv' => (World.putObj_heap_other (fun e => ?_)).trans hq⟩⟩
  · subst e
    rw [h] at hv
    cases hv
    cases ho
  · subst e
    rw [h] at hq
    cases hq
    rcases hcw with e | e
    · rw [ho] at e; cases e
    · rw [hw] at e; cases e
/-- The iterator's own things. -/
structure Cx where
  (X B Bo m1 m2 : Nat)
  aK : Option Addr
  cK : Nat
structure CS (W : World) (q : Cx) (a b : Gd) (K : List Int) (v : Value) : Prop where
  o1 : W.ownsMap Try.prog 3 nR q.m1 40 (OD a.NS (walkR a.NS a.R))
  o2 : W.ownsMap Try.prog 3 nR q.m2 40 (OD b.NS (walkR b.NS b.R))
  row : W.ownsRow q.X 3 1 (.slice q.aK K.length q.cK) K.length (K.map (Value.int .i64))
  ga : GM W q.B a
  gb : GM W q.B b
  box : W.heap[q.Bo]? = some (.cells #[v] 26 (0, 0))
  own : ∀ k, v.ownBlock = some k → k < W.heap.size ∧ k ≠ q.m1 ∧ k ≠ q.m2 ∧ (Value.slice q.aK K.length q.cK).ownBlock ≠ some k
  hB : q.B ≤ W.heap.size
theorem CS.below {W W' : World} {q : Cx} {a b : Gd} {K : List Int} {v : Value} (h : CS W q a b K v) (hb : Below W.heap.size W W') : CS W' q a b K v :=
  ⟨owns_below h.o1 hb, owns_below h.o2 hb, Di.row_below h.row hb, h.ga.kept fun k hk => hb.block k (by have := h.hB; omega), h.gb.kept fun k hk => hb.block k (by have := h.hB; omega), blk_below h.box hb, fun k hk => ⟨Nat.lt_of_lt_of_le (h.own k hk).1 hb.size, (h.own k hk).2⟩, Nat.le_trans h.hB hb.size⟩
theorem row_same {W W' : World} {X : Nat} {e : TypeId} {s n : Nat} {v : Value} {xs : List Value} (h : W.ownsRow X e s v n xs) (hs : ∀ k o, v.ownBlock = some k → W.heap[k]? = some o → o.isCells = true → W'.heap[k]? = some o) : W'.ownsRow X e s v n xs := by
  refine ⟨h.1, ?_⟩
  rcases h.2 with hn | ⟨g, cap, cur, rfl, hb, hgg, rest⟩
  · exact .inl hn
  · exact .inr ⟨g, cap, cur, rfl, hb, hs g _ rfl hgg rfl, rest⟩
theorem map_same {W W' : World} {P : Program} {k : TypeId} {H : Type} {R : Value → Option (DataW H × List MemPlace)} {b n : Nat} {D : DataW H} (h : W.ownsMap P k R b n D) (hs : ∀ o, W.heap[b]? = some o → o.isWalk = true → W'.heap[b]? = some o) : W'.ownsMap P k R b n D := by
  obtain ⟨es, clock, hb, F, h1, hD⟩ := h
  exact ⟨es, clock, hs _ hb rfl, F, h1, hD⟩
theorem row_not_box {W : World} {X : Nat} {e : TypeId} {s n j : Nat} {v u : Value} {xs : List Value} {t : TypeId} (h : W.ownsRow X e s v n xs) (hj : W.heap[j]? = some (.cells #[u] t (0, 0))) (ht : t ≠ e) : v.ownBlock ≠ some j := by
  rcases h.2 with ⟨rfl, _⟩ | ⟨g0, cap, cur, rfl, _, hgb, _⟩
  · simp [Value.ownBlock]
  · intro e'
    obtain rfl : g0 = j := by simpa [Value.ownBlock] using e'
    rw [hgb] at hj
    cases hj
    exact ht rfl
theorem CS.round {W W' : World} {q : Cx} {a b : Gd} {K : List Int} {v : Value} (h : CS W q a b K v) (hk : KpC q.B q.Bo W W') :
    ∃ v', CS W' q a b K v' ∧ ∀ {X : Nat} {u : Value} {n : Nat} {xs : List Value}, W.ownsRow X 44 5 u n xs → (∀ j, u.ownBlock = some j → v.ownBlock ≠ some j ∧ j ≠ q.Bo) → W'.ownsRow X 44 5 u n xs ∧ ∀ j, u.ownBlock = some j → v'.ownBlock ≠ some j ∧ j ≠ q.Bo := by
  obtain ⟨v', h1, h2, h3, h4, h5⟩ := hk.2 v h.box
  have hm1 := map_ne_cells h.o1 h.box
  have hm2 := map_ne_cells h.o2 h.box
  have hnew : ∀ j, j < W.heap.size → v.ownBlock ≠ some j → v'.ownBlock ≠ some j := fun j hj hv e => by
    rcases h2 with e' | ⟨r, e', hr⟩
    · exact hv (e'.symm.trans e)
    · rw [e'] at e
      have := Option.some.inj e
      omega
  have n1 : v.ownBlock ≠ some q.m1 := fun e => (h.own _ e).2.1 rfl
  have n2 : v.ownBlock ≠ some q.m2 := fun e => (h.own _ e).2.2.1 rfl
  refine ⟨v', ⟨map_same h.o1 fun o ho hw => h5 _ o ho (Or.inr hw) hm1.symm n1, map_same h.o2 fun o ho hw => h5 _ o ho (Or.inr hw) hm2.symm n2, row_same h.row fun k o hk' ho hc => h5 k o ho (Or.inl hc) (fun e => row_not_box h.row h.box (by decide) (e ▸ hk')) (fun e => (h.own k e).2.2.2 hk'), h.ga.kept hk.1, h.gb.kept hk.1, h1, fun k hk' => ?_, Nat.le_trans h.hB h4⟩, fun {X u n xs} hr hd => ⟨row_same hr fun k o hk' ho hc => h5 k o ho (Or.inl hc) (hd k hk').2 (hd k hk').1, fun j hj => ⟨hnew j (hr.lt j hj).2 (hd j hj).1, (hd j hj).2⟩⟩⟩
  refine ⟨?_, ?_, ?_, ?_⟩
  · rcases h3 k hk' with e | e
    · exact Nat.lt_of_lt_of_le (h.own k e).1 h4
    · exact e
  · rintro rfl
    exact hnew _ h.o1.lt n1 hk'
  · rintro rfl
    exact hnew _ h.o2.lt n2 hk'
  · intro e
    exact hnew k (h.row.lt k e).2 (fun e' => (h.own k e').2.2.2 e) hk'
theorem row44_form {W : World} {X n : Nat} {v : Value} {xs : List Value} (h : W.ownsRow X 44 5 v n xs) : (v = .slice none 0 0 ∧ n = 0) ∨ ∃ g cap, v = .slice (some ⟨g, 0, none⟩) n cap := by
  rcases h.2 with h0 | ⟨g, cap, cur, rfl, _⟩
  · exact .inl h0
  · exact .inr ⟨g, cap, rfl⟩
theorem chs_at {L : List Ch} {i : Nat} {c : Ch} (h : L[i]? = some c) (j : Nat) (hj : j < 5) : (chs L)[i * 5 + j]? = c.cells[j]? := by
  induction L generalizing i with
  | nil => simp at h
  | cons x L ih =>
    cases i with
    | zero =>
      simp at h
      subst h
      show (x.cells ++ chs L)[0 * 5 + j]? = _
      rw [List.getElem?_append_left (by simp; omega), Nat.zero_mul, Nat.zero_add]
    | succ i =>
      have h' : L[i]? = some c := by simpa using h
      show (x.cells ++ chs L)[(i + 1) * 5 + j]? = _
      rw [List.getElem?_append_right (by simp; omega)]
      have := ih h'
      rw [← this]
      congr 1
      simp
      omega
theorem row44_cell {W : World} {X n g cap : Nat} {L : List Ch} (h : W.ownsRow X 44 5 (.slice (some ⟨g, 0, none⟩) n cap) n (chs L)) {i : Nat} {c : Ch} (hc : L[i]? = some c) (j : Nat) (hj : j < 5) (u : Value) (hu : c.cells[j]? = some u) : W.cell? ⟨g, i * 5 + j, none⟩ = some u := by
  have := h.cells (g := g) rfl (i * 5 + j) u (by rw [chs_at hc j hj]; exact hu)
  have e : (⟨g, 0, none⟩ : Addr).add (i * 5 + j) = ⟨g, i * 5 + j, none⟩ := by unfold Addr.add; split <;> simp_all
  rw [e] at this
  exact this
theorem chs_len (L : List Ch) : (chs L).length = L.length * 5 := by
  induction L with
  | nil => rfl
  | cons x L ih =>
    show (x.cells ++ chs L).length = _
    rw [List.length_append, ih]
    show 5 + L.length * 5 = (L.length + 1) * 5
    omega
theorem nd_DL {W : World} {B : Nat} {g : Gd} (h : GM W B g) (w : List Int) (k : Int) : DL W B (nd g.NS w k) := by
  unfold nd
  by_cases hk : k ∈ w
  · rw [if_pos hk]
    cases hf : find g.NS k with
    | none => exact ⟨⟨rfl, fun i hi => absurd hi (by show ¬ i < 0; omega)⟩, ⟨rfl, fun i hi => absurd hi (by show ¬ i < 0; omega)⟩⟩
    | some n => exact h.sub n (find_mem hf)
  · rw [if_neg hk]
    exact ⟨⟨rfl, fun i hi => absurd hi (by show ¬ i < 0; omega)⟩, ⟨rfl, fun i hi => absurd hi (by show ¬ i < 0; omega)⟩⟩
theorem nd_small {g : Gd} (h : Small g) (w : List Int) (k : Int) : (nd g.NS w k).m ≤ 300 ∧ (nd g.NS w k).n ≤ 300 := by
  unfold nd
  by_cases hk : k ∈ w
  · rw [if_pos hk]
    cases hf : find g.NS k with
    | none => exact ⟨Nat.zero_le _, Nat.zero_le _⟩
    | some n => exact h.sz n (find_mem hf)
  · rw [if_neg hk]
    exact ⟨Nat.zero_le _, Nat.zero_le _⟩
theorem inside_nd (w : World) (B : Nat) (hB : B ≤ w.heap.size) (x y : Nd) (HX : Aside0 (DL w B x)) (HY : Aside0 (DL w B y)) (hm : x.m ≤ 300 ∧ x.n ≤ 300) (L : List Ch) (hL : L = insideR x y) : Calls Try.prog 49 #[.agg #[.int .i64 x.adr, .int .i64 x.refs, .int .i64 x.sl, .int .i64 x.words, .slice x.A x.m x.c, .slice x.B x.n x.d], .agg #[.int .i64 y.adr, .int .i64 y.refs, .int .i64 y.sl, .int .i64 y.words, .slice y.A y.m y.c, .slice y.B y.n y.d]] w fun e W' => ∃ v, e = .returned v ∧ W'.ownsRow w.heap.size 44 5 v L.length (chs L) ∧ Below w.heap.size w W' := by
  subst hL
  obtain ⟨pa, pr, ps, pw, pA, pm, pc, pB, pn, pd, pS, pT⟩ := x
  obtain ⟨qa, qr, qs, qw, qA, qm, qc, qB, qn, qd, qS, qT⟩ := y
  exact inside_calls w B hB pa pr ps pw pA pm pc pB pn pd pS pT qa qr qs qw qA qm qc qB qn qd qS qT HX HY hm.1 hm.2
theorem change_le {a b : Gd} (ha : Small a) (k : Int) : (changeR a.NS (walkR a.NS a.R) b.NS (walkR b.NS b.R) k).length ≤ 600 := by
  unfold changeR
  split
  · simp
  · split
    · simp
    · exact insideR_le _ _ (nd_small ha _ _)
end Go.Proofs.Ytekggbmajemmhaa.Gr
