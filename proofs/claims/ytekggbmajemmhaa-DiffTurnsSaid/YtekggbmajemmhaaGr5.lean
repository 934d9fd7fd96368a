/- Diff: what a walk's variables hold. No program text is walked here. -/
import Derived.Test.YtekggbmajemmhaaGr4
namespace Go.Proofs.Ytekggbmajemmhaa.Gr
open Go.RowKit Go.Shelf Go.Maps Go.ChangeMaps Go.MapKept Go.Proofs.YtekggbmajemmhaaW.PrintWords Go.Proofs.YtekggbmajemmhaaW.PrintLast Go.Proofs.YtekggbmajemmhaaW.PrintMore
set_option linter.unusedSimpArgs false
set_option linter.unusedVariables false
/-- What the closure captures. -/
structure Vx where
  (X B b3 b4 b5 b6 mb ms : Nat)
abbrev Vx.caps (q : Vx) : Array Value := #[.pointer (some ⟨q.b3, 0, none⟩), .pointer (some ⟨q.b5, 0, none⟩), .pointer (some ⟨q.b4, 0, none⟩), .pointer (some ⟨q.b6, 0, none⟩)]
/-- A walk's variables: s1 was seen, s2 is out. -/
structure VS (W : World) (q : Vx) (g : Gd) (s1 s2 : List Int) : Prop where
  by_ : W.heap[q.b3]? = some (.cells #[.map (some q.mb)] 46 (0, 0))
  mp : W.ownsMap Try.prog 3 nR q.mb 40 (MD g.NS)
  sb : W.heap[q.b5]? = some (.cells #[.map (some q.ms)] 90 (0, 0))
  sm : W.ownsMap Try.prog 3 (plainElem Try.prog 4) q.ms s1.length (SD s1)
  out : ∃ v, W.heap[q.b4]? = some (.cells #[v] 22 (0, 0)) ∧ W.ownsRow q.X 3 1 v s2.length (s2.map (Value.int .i64))
  vb : W.heap[q.b6]? = some (.cells #[.func (.func 54) #[] #[.pointer (some ⟨q.b3, 0, none⟩), .pointer (some ⟨q.b5, 0, none⟩), .pointer (some ⟨q.b4, 0, none⟩), .pointer (some ⟨q.b6, 0, none⟩)]] 85 (0, 0))
  gm : GM W q.B g
  ge : q.X ≤ q.b3 ∧ q.X ≤ q.b4 ∧ q.X ≤ q.b5 ∧ q.X ≤ q.b6 ∧ q.X ≤ q.mb ∧ q.X ≤ q.ms ∧ q.B ≤ q.X ∧ q.X ≤ W.heap.size
  ne : q.mb ≠ q.ms
theorem grown_of_below {W W' : World} (hb : Below W.heap.size W W') : W.grownBy W' none := ⟨hb.os, hb.tape, hb.output, hb.size, fun k hk _ => hb.block k hk⟩
theorem VS.below {W W' : World} {q : Vx} {g : Gd} {s1 s2 : List Int} (h : VS W q g s1 s2) (hb : Below W.heap.size W W') : VS W' q g s1 s2 := by
  obtain ⟨v, hv1, hv2⟩ := h.out
  exact ⟨blk_below h.by_ hb, owns_below h.mp hb, blk_below h.sb hb, owns_below h.sm hb, ⟨v, blk_below hv1 hb, Di.row_below hv2 hb⟩, blk_below h.vb hb, h.gm.kept fun k hk => hb.block k (by have := h.ge; omega), by have := h.ge; have := hb.size; omega, h.ne⟩
theorem map_ne_cells {W : World} {P : Program} {k : TypeId} {H : Type} {R : Value → Option (DataW H × List MemPlace)} {b n : Nat} {D : DataW H} (h : W.ownsMap P k R b n D) {j : Nat} {cs : Array Value} {t : TypeId} (hj : W.heap[j]? = some (.cells cs t (0, 0))) : j ≠ b := by
  obtain ⟨es, clock, hb, _⟩ := h
  rintro rfl
  rw [hb] at hj
  cases hj
theorem VS.seen {W W' : World} {q : Vx} {g : Gd} {s1 s2 : List Int} {x : Int} (h : VS W q g s1 s2) (hg : W.grownBy W' (some q.ms)) (ho : W'.ownsMap Try.prog 3 (plainElem Try.prog 4) q.ms (s1.length + 1) ((SD s1).put (key x) (.lit (.bool true)))) :
    VS W' q g (s1 ++ [x]) s2 ∧ Below q.X W W' := by
  obtain ⟨v, hv1, hv2⟩ := h.out
  have hn : ∀ {j : Nat} {cs : Array Value} {t : TypeId}, W.heap[j]? = some (.cells cs t (0, 0)) → W'.heap[j]? = some (.cells cs t (0, 0)) := fun hj => (hg.block _ (blk_lt hj) (by simpa using map_ne_cells h.sm hj)).trans hj
  refine ⟨⟨hn h.by_, h.mp.kept hg (by simpa using h.ne), hn h.sb, by rw [List.length_append, SD_snoc]; exact ho, ⟨v, hn hv1, hv2.kept hg ?_⟩, hn h.vb, h.gm.kept fun k hk => hg.block k (by have := h.ge; omega) (by have := h.ge; simp; omega), by have := h.ge; have := hg.size; omega, h.ne⟩, ⟨hg.os, hg.tape, hg.output, hg.size, fun k hk => hg.block k (by have := h.ge; omega) (by have := h.ge; simp; omega)⟩⟩
  rcases hv2.2 with ⟨rfl, _⟩ | ⟨g0, cap, cur, rfl, _, hgb, _⟩
  · exact .inl rfl
  · exact .inr (by simpa [Value.ownBlock] using map_ne_cells h.sm hgb)
theorem VS.push {W w1 : World} {q : Vx} {g : Gd} {s1 s2 : List Int} {x : Int} {v v' : Value} {tmp : Obj} (h : VS W q g s1 s2) (hv1 : W.heap[q.b4]? = some (.cells #[v] 22 (0, 0))) (hv2 : W.ownsRow q.X 3 1 v s2.length (s2.map (Value.int .i64)))
    (hown : w1.ownsRow q.X 3 1 v' (s2.length + 1) (s2.map (Value.int .i64) ++ [.int .i64 x])) (hg : (W.alloc tmp).grownBy w1 v.ownBlock) :
    w1.heap[q.b4]? = some (.cells #[v] 22 (0, 0)) ∧ VS (w1.setCell ⟨q.b4, 0, none⟩ v') q g s1 (s2 ++ [x]) ∧ Below q.X W (w1.setCell ⟨q.b4, 0, none⟩ v') ∧ (∀ {j : Nat} {cs : Array Value} {t : TypeId}, W.heap[j]? = some (.cells cs t (0, 0)) → t ≠ 3 → t ≠ 22 → (w1.setCell ⟨q.b4, 0, none⟩ v').heap[j]? = some (.cells cs t (0, 0))) := by
  have own : ∀ {j : Nat} {cs : Array Value} {t : TypeId}, W.heap[j]? = some (.cells cs t (0, 0)) → t ≠ 3 → some j ≠ v.ownBlock := by
    intro j cs t hj ht
    rcases hv2.2 with ⟨rfl, _⟩ | ⟨g0, cap, cur, rfl, _, hgb, _⟩
    · simp [Value.ownBlock]
    · intro e
      obtain rfl : j = g0 := by simpa [Value.ownBlock] using e
      rw [hgb] at hj
      cases hj
      exact ht rfl
  have c1 : ∀ {j : Nat} {cs : Array Value} {t : TypeId}, W.heap[j]? = some (.cells cs t (0, 0)) → t ≠ 3 → w1.heap[j]? = some (.cells cs t (0, 0)) := fun hj ht =>
    (hg.block _ (by have := blk_lt hj; rw [World.size_alloc]; omega) (own hj ht)).trans (blk_alloc hj _)
  have c2 : ∀ {j : Nat} {cs : Array Value} {t : TypeId}, W.heap[j]? = some (.cells cs t (0, 0)) → t ≠ 3 → t ≠ 22 → (w1.setCell ⟨q.b4, 0, none⟩ v').heap[j]? = some (.cells cs t (0, 0)) := fun {j cs t} hj ht h22 =>
    blk_far (c1 hj ht) (p := ⟨q.b4, 0, none⟩) (by rintro rfl; rw [hv1] at hj; cases hj; exact h22 rfl) _
  have mown : ∀ {b n : Nat} {H : Type} {R : Value → Option (DataW H × List MemPlace)} {D : DataW H}, W.ownsMap Try.prog 3 R b n D → (w1.setCell ⟨q.b4, 0, none⟩ v').ownsMap Try.prog 3 R b n D := by
    intro b n H R D hm
    refine owns_far ((owns_alloc hm tmp).kept hg ?_) (p := ⟨q.b4, 0, none⟩) (map_ne_cells hm hv1).symm _
    rcases hv2.2 with ⟨rfl, _⟩ | ⟨g0, cap, cur, rfl, _, hgb, _⟩
    · simp [Value.ownBlock]
    · simpa [Value.ownBlock] using (map_ne_cells hm hgb).symm
  have hlow : ∀ k, k < q.X → (w1.setCell ⟨q.b4, 0, none⟩ v').heap[k]? = W.heap[k]? := fun k hk => by
    have hge := h.ge
    have h1 : (w1.setCell ⟨q.b4, 0, none⟩ v').heap[k]? = w1.heap[k]? := Below.heap_setCell w1 ⟨q.b4, 0, none⟩ v' k (by show k ≠ q.b4; omega)
    rw [h1, hg.block k (by rw [World.size_alloc]; omega) (fun e => ?_), Below.heap_alloc W tmp k (by omega)]
    rcases hv2.2 with ⟨rfl, _⟩ | ⟨g0, cap, cur, rfl, hX, _⟩
    · simp [Value.ownBlock] at e
    · obtain rfl : k = g0 := by simpa [Value.ownBlock] using e
      omega
  have hsz : W.heap.size ≤ (w1.setCell ⟨q.b4, 0, none⟩ v').heap.size := by
    have := hg.size
    rw [World.size_alloc] at this
    have e := (KeepsWalks.setCell w1 ⟨q.b4, 0, none⟩ v').size
    omega
  have hlt4 := c1 hv1 (by decide)
  refine ⟨hlt4, ⟨c2 h.by_ (by decide) (by decide), mown h.mp, c2 h.sb (by decide) (by decide), mown h.sm, ⟨v', ?_, ?_⟩, c2 h.vb (by decide) (by decide), h.gm.kept fun k hk => hlow k (by have := h.ge; omega), by have := h.ge; omega, h.ne⟩, ⟨hg.os, hg.tape, hg.output, hsz, hlow⟩, c2⟩
  · exact (Boxed.set v' (show Boxed w1 q.b4 22 v from hlt4))
  · rw [List.length_append, List.map_append]
    refine hown.kept (grownBy_setCell' w1 q.b4 v') (.inr ?_)
    exact (Boxed.not_row (show Boxed w1 q.b4 22 v from hlt4) (by decide) hown).symm
end Go.Proofs.Ytekggbmajemmhaa.Gr
