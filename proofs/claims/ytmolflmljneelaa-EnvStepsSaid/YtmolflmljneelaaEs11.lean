/- Parts of one proof, set together: En14, En16, En17, En18. What each says stands at its head; no condition beyond theirs. -/
import Derived.Test.YtmolflmljneelaaEs10
/- The document's Run.Step. -/
namespace Go.Proofs.Ytmolflmljneelaa.En
open Go.RowKit Go.Proofs.YtmolflmljneelaaW.PrintWords Go.Proofs.YtmolflmljneelaaW.PrintLast Go.Proofs.YtmolflmljneelaaW.PrintMore
open Pm (Fr Rg Row thereB pendAt WFD) 
open Lk (Tbl takeR leaveR ownerV Only)
set_option linter.unusedSimpArgs false
set_option linter.unusedVariables false
/-- The document's region and table hold s. -/
def RSh (W : World) (r : RLoc) (fd : Nat) (s : SS) : Prop := ∃ cd M P, Rf W r fd cd s.S s.K M P ∧ (∀ j, j < 16 → s.P j = if P.getD (j / 8) false = true then some (M.getD j 0) else none) ∧ RT W r s.L
/-- The document's run: how many were done, what was told. -/
structure Ru (W : World) (B qb : Nat) (ad : Option Addr) (n cap : Nat) (who : Int) (d : Nat) (wv : Value) (τ : List Int) : Prop where
  tp : W.heap[qb]? = some (.cells #[.slice ad n cap, .int .i64 who, .int .i64 d, wv] 46 (0, 0))
  own : Wds W B wv τ
def RqX (r : RLoc) (fd qb : Nat) (wv : Value) (b : Nat) : Prop := r.FX fd b ∨ r.UX b ∨ b = qb ∨ wv.ownBlock = some b
theorem RSh.fr {X : Nat → Prop} {W W' : World} {r : RLoc} {fd : Nat} {s : SS} (h : RSh W r fd s) (hf : Fr X W W') (hx : ∀ b, (r.FX fd b ∨ r.UX b) → ¬ X b) : RSh W' r fd s := by
  obtain ⟨cd, M, P, h1, h2, h3⟩ := h
  exact ⟨cd, M, P, h1.fr hf (fun b hb => hx b (.inl hb)), h2, h3.fr hf (hx _ (.inr (.inl rfl))) (hx _ (.inr (.inr rfl)))⟩
theorem RSh.below {W W' : World} {r : RLoc} {fd : Nat} {s : SS} (h : RSh W r fd s) (hb : Below W.heap.size W W') : RSh W' r fd s := h.fr (X := fun _ => False) (Fr.of hb) (fun _ _ h => h)
theorem Ru.fr {X : Nat → Prop} {W W' : World} {B qb : Nat} {ad : Option Addr} {n cap d : Nat} {who : Int} {wv : Value} {τ : List Int} (h : Ru W B qb ad n cap who d wv τ) (hf : Fr X W W') (h1 : ¬ X qb) (h2 : ∀ g, wv.ownBlock = some g → ¬ X g) : Ru W' B qb ad n cap who d wv τ := ⟨hf.keeps h.tp h1, h.own.fr hf h2⟩
theorem Ru.below {W W' : World} {B qb : Nat} {ad : Option Addr} {n cap d : Nat} {who : Int} {wv : Value} {τ : List Int} (h : Ru W B qb ad n cap who d wv τ) (hb : Below W.heap.size W W') : Ru W' B qb ad n cap who d wv τ := h.fr (X := fun _ => False) (Fr.of hb) (fun h => h) (fun _ _ h => h)
/-- The row of what was told is none of the region's. -/
def RApt (r : RLoc) (wv : Value) : Prop := ∀ g, wv.ownBlock = some g → g ≠ r.fs ∧ g ≠ r.fk ∧ g ≠ r.fn
theorem RSh.lt {W : World} {r : RLoc} {fd : Nat} {s : SS} (h : RSh W r fd s) : ∀ b, (r.FX fd b ∨ r.UX b) → b < W.heap.size := by
  obtain ⟨cd, M, P, h1, h2, h3⟩ := h
  obtain ⟨st, a1⟩ := h1.tp
  obtain ⟨_, a2⟩ := h1.rs.blk
  obtain ⟨_, a3⟩ := h1.rk.blk
  obtain ⟨_, a4⟩ := h1.rm.blk
  obtain ⟨_, a5⟩ := h1.rp.blk
  obtain ⟨k, a6⟩ := h3.tp
  rintro b ((rfl | rfl | rfl | rfl | rfl) | (rfl | rfl))
  · exact blk_lt a1
  · exact blk_lt a2
  · exact blk_lt a3
  · exact blk_lt a4
  · exact blk_lt a5
  · exact blk_lt a6
  · exact blk_lt h3.tg
theorem RSh.apart {W : World} {r : RLoc} {fd : Nat} {s : SS} (h : RSh W r fd s) {b : Nat} {c : Array Value} {t : Nat} (hb : W.heap[b]? = some (.cells c t (0, 0))) (h1 : t ≠ 68) (h2 : t ≠ 49) (h3 : t ≠ 4) (h4 : t ≠ 70) (h5 : t ≠ 3) : ¬ (r.FX fd b ∨ r.UX b) := by
  obtain ⟨cd, M, P, g1, g2, g3⟩ := h
  obtain ⟨st, a1⟩ := g1.tp
  obtain ⟨_, a2⟩ := g1.rs.blk
  obtain ⟨_, a3⟩ := g1.rk.blk
  obtain ⟨_, a4⟩ := g1.rm.blk
  obtain ⟨_, a5⟩ := g1.rp.blk
  obtain ⟨k, a6⟩ := g3.tp
  rintro ((e | e | e | e | e) | (e | e))
  · exact type_ne hb a1 h1 e
  · exact type_ne hb a2 h2 e
  · exact type_ne hb a3 h2 e
  · exact type_ne hb a4 h2 e
  · exact type_ne hb a5 h3 e
  · exact type_ne hb a6 h4 e
  · exact type_ne hb g3.tg h5 e
theorem RSh.apart49 {W : World} {r : RLoc} {fd : Nat} {s : SS} (h : RSh W r fd s) {b : Nat} {c : Array Value} (hb : W.heap[b]? = some (.cells c 49 (0, 0))) (h1 : b ≠ r.fs ∧ b ≠ r.fk ∧ b ≠ r.fn) : ¬ (r.FX fd b ∨ r.UX b) := by
  obtain ⟨cd, M, P, g1, g2, g3⟩ := h
  obtain ⟨st, a1⟩ := g1.tp
  obtain ⟨_, a5⟩ := g1.rp.blk
  obtain ⟨k, a6⟩ := g3.tp
  rintro ((e | e | e | e | e) | (e | e))
  · exact type_ne hb a1 (by decide) e
  · exact h1.1 e
  · exact h1.2.1 e
  · exact h1.2.2 e
  · exact type_ne hb a5 (by decide) e
  · exact type_ne hb a6 (by decide) e
  · exact type_ne hb g3.tg (by decide) e
/-- The region's deeds leave the table, and the other way round. -/
theorem RSh.ofRf {W W' : World} {r : RLoc} {fd fd' cd' : Nat} {s : SS} (h : RSh W r fd s) (hf : Fr (r.FX fd) W W') {S' K' M' : List Int} {P' : List Bool} {Pn : Nat → Option Int} (h1 : Rf W' r fd' cd' S' K' M' P') (h2 : ∀ j, j < 16 → Pn j = if P'.getD (j / 8) false = true then some (M'.getD j 0) else none) {c n : _} : RSh W' r fd' { s with S := S', K := K', P := Pn, c := c, n := n } := by
  obtain ⟨cd, M, P, g1, g2, g3⟩ := h
  obtain ⟨st, a1⟩ := g1.tp
  obtain ⟨_, a2⟩ := g1.rs.blk
  obtain ⟨_, a3⟩ := g1.rk.blk
  obtain ⟨_, a4⟩ := g1.rm.blk
  obtain ⟨_, a5⟩ := g1.rp.blk
  obtain ⟨k, a6⟩ := g3.tp
  refine ⟨cd', M', P', h1, h2, g3.fr hf ?_ ?_⟩
  · rintro (e | e | e | e | e)
    · exact type_ne a6 a1 (by decide) e
    · exact type_ne a6 a2 (by decide) e
    · exact type_ne a6 a3 (by decide) e
    · exact type_ne a6 a4 (by decide) e
    · exact type_ne a6 a5 (by decide) e
  · rintro (e | e | e | e | e)
    · exact type_ne g3.tg a1 (by decide) e
    · exact type_ne g3.tg a2 (by decide) e
    · exact type_ne g3.tg a3 (by decide) e
    · exact type_ne g3.tg a4 (by decide) e
    · exact type_ne g3.tg a5 (by decide) e
theorem RSh.ofRT {W W' : World} {r : RLoc} {fd : Nat} {s : SS} (h : RSh W r fd s) (hf : Fr r.UX W W') {L' : List Int} (h1 : RT W' r L') : RSh W' r fd { s with L := L' } := by
  obtain ⟨cd, M, P, g1, g2, g3⟩ := h
  obtain ⟨st, a1⟩ := g1.tp
  obtain ⟨_, a2⟩ := g1.rs.blk
  obtain ⟨_, a3⟩ := g1.rk.blk
  obtain ⟨_, a4⟩ := g1.rm.blk
  obtain ⟨_, a5⟩ := g1.rp.blk
  obtain ⟨k, a6⟩ := g3.tp
  refine ⟨cd, M, P, g1.fr hf ?_, g2, h1⟩
  rintro b (rfl | rfl | rfl | rfl | rfl) (e | e)
  · exact type_ne a1 a6 (by decide) e
  · exact type_ne a1 g3.tg (by decide) e
  · exact type_ne a2 a6 (by decide) e
  · exact type_ne a2 g3.tg (by decide) e
  · exact type_ne a3 a6 (by decide) e
  · exact type_ne a3 g3.tg (by decide) e
  · exact type_ne a4 a6 (by decide) e
  · exact type_ne a4 g3.tg (by decide) e
  · exact type_ne a5 a6 (by decide) e
  · exact type_ne a5 g3.tg (by decide) e
/-- The word that an ask tells. -/
def boundR (A : AskN) (τ : List Int) (s : SS) : Int := if A.k % 7 = 1 then (if thereB 16 A.a then s.S.getD A.a.toNat 0 else 0) else argW A τ
def nextR (A : AskN) (τ : List Int) (s : SS) : List Int := if (A.k % 7).toNat = 1 ∨ (A.k % 7).toNat = 6 then τ ++ [boundR A τ s] else τ
def actR (who : Int) (A : AskN) (τ : List Int) (s : SS) : Option SS := act 16 (A.k % 7).toNat who A.a (argW A τ) s
/-- A step of the document's run. -/
def RStepO (W : World) (r : RLoc) (fd B qb : Nat) (ad : Option Addr) (n cap : Nat) (who : Int) (A : Nat → AskN) (d : Nat) (wv : Value) (τ : List Int) (s : SS) (e : Ending) (w' : World) : Prop :=
  Fr (RqX r fd qb wv) W w' ∧ ((d = n ∧ e = .returned (.int .i64 2) ∧ RSh w' r fd s ∧ Ru w' B qb ad n cap who d wv τ) ∨ (d < n ∧ actR who (A d) τ s = none ∧ e = .returned (.int .i64 1) ∧ RSh w' r fd s ∧ Ru w' B qb ad n cap who d wv τ) ∨
    (d < n ∧ ∃ s' fd' wv', actR who (A d) τ s = some s' ∧ e = .returned (.int .i64 0) ∧ RSh w' r fd' s' ∧ Ru w' B qb ad n cap who (d + 1) wv' (nextR (A d) τ s) ∧ RApt r wv' ∧ (wv'.ownBlock = wv.ownBlock ∨ ∃ g, wv'.ownBlock = some g ∧ W.heap.size ≤ g) ∧ (fd' = fd ∨ W.heap.size ≤ fd')))
def G8 (w2 : World) (B : Nat) (vad : Option Addr) (τ : List Int) (vcap : Nat) (z : Int) (g4 cap4 : Nat) (w4 : World) : Prop :=
  w4.ownsRow B 49 1 (.slice (some ⟨g4, 0, none⟩) (τ.length + 1) cap4) (τ.length + 1) (ints τ ++ [.int .u64 z]) ∧ (w2.drew.alloc (.cells #[.int .u64 z] 49)).grownBy w4 (Value.slice vad τ.length vcap).ownBlock ∧ ((Value.slice vad τ.length vcap).ownBlock = some g4 ∨ g4 = w2.heap.size + 1)
theorem G8.blk {w2 : World} {B : Nat} {vad : Option Addr} {τ : List Int} {vcap : Nat} {z : Int} {g4 cap4 : Nat} {w4 : World} (h : G8 w2 B vad τ vcap z g4 cap4 w4) {b : Nat} {c : Array Value} {t : Nat} (hb : w2.heap[b]? = some (.cells c t (0, 0))) (hne : (Value.slice vad τ.length vcap).ownBlock ≠ some b) : w4.heap[b]? = some (.cells c t (0, 0)) :=
  blk_grown (blk_alloc (w := w2.drew) hb (.cells #[.int .u64 z] 49)) h.2.1 (fun e => hne e.symm)
def g10.T10 : Bool × List (List Nat × List Nat) := (true, [([], []), ([], []), ([1], [1]), ([2], [2]), ([3], [3]), ([], []), ([5], [5]), ([6], [6]), ([4, 7], [4, 7]), ([0, 0, 1, 2, 3, 4, 5, 6, 7, 8], [0]), ([9, 0, 1, 2, 3, 4, 5, 6, 7, 8], [9]), ([10, 8, 8, 0, 1, 2, 3, 4, 5, 6, 7, 8], [8, 10])])
def g10.B10 : List Nat := [0, 0, 2, 6, 14, 0, 32, 96, 254, 511, 1023, 2047]
theorem g10.tab10 : rtab .any (opsOf Try.f12 10) = g10.T10 := by kernel_rfl
theorem g10.bits10 : waitsOk g10.T10.2 g10.B10 = true := by kernel_rfl
theorem rfin_plain {W w5 w6 : World} {r : RLoc} {fd fd' B qb n cap d : Nat} {ad : Option Addr} {who : Int} {A : Nat → AskN} {wv : Value} {τ : List Int} {s s' : SS} (hF : Fr (RqX r fd qb wv) W w5) (hd : d < n) (ha : actR who (A d) τ s = some s') (hn : nextR (A d) τ s = τ) (hR : RSh w5 r fd' s') (hQ : Ru w5 B qb ad n cap who d wv τ) (hP : RApt r wv)
    (h6 : w6.heap[qb]? = some (.cells #[.slice ad n cap, .int .i64 who, .int .i64 ((d : Int) + 1), wv] 46 (0, 0))) (hF6 : Fr (fun b => b = qb) w5 w6) (hfd : fd' = fd ∨ W.heap.size ≤ fd') : RStepO W r fd B qb ad n cap who A d wv τ s (.returned (.int .i64 0)) w6 := by
  refine ⟨hF.trans (hF6.mono (fun b e => .inr (.inr (.inl e)))), .inr (.inr ⟨hd, s', fd', wv, ha, rfl, hR.fr hF6 (fun b hb e => ?_), ⟨?_, ?_⟩, hP, .inl rfl, hfd⟩)⟩
  · subst e
    exact hR.apart hQ.tp (by decide) (by decide) (by decide) (by decide) (by decide) hb
  · rw [h6]
    push_cast
    rfl
  · rw [hn]
    refine hQ.own.fr hF6 (fun g hg e => ?_)
    obtain ⟨_, _, c, hc⟩ := hQ.own.lt hg
    exact type_ne hc hQ.tp (by decide) e
theorem rfin_app {W w5 w4 w6 : World} {r : RLoc} {fd fd' B qb n cap d g4 cap4 vcap : Nat} {ad vad : Option Addr} {who z : Int} {A : Nat → AskN} {τ : List Int} {s s' : SS} (hF : Fr (RqX r fd qb (.slice vad τ.length vcap)) W w5) (hd : d < n) (ha : actR who (A d) τ s = some s') (hn : nextR (A d) τ s = τ ++ [z]) (hR : RSh w5 r fd' s') (hQ : Ru w5 B qb ad n cap who d (.slice vad τ.length vcap) τ) (hP : RApt r (.slice vad τ.length vcap))
    (hg : (w5.alloc (.cells #[.int .u64 z] 49)).grownBy w4 (Value.slice vad τ.length vcap).ownBlock) (hO4 : w4.ownsRow B 49 1 (.slice (some ⟨g4, 0, none⟩) (τ.length + 1) cap4) (τ.length + 1) (ints τ ++ [.int .u64 z])) (hat : (Value.slice vad τ.length vcap).ownBlock = some g4 ∨ g4 = w5.heap.size + 1)
    (h6 : w6.heap[qb]? = some (.cells #[.slice ad n cap, .int .i64 who, .int .i64 ((d : Int) + 1), .slice (some ⟨g4, 0, none⟩) (τ.length + 1) cap4] 46 (0, 0))) (hF6 : Fr (fun b => b = qb) w4 w6) (hfd : fd' = fd ∨ W.heap.size ≤ fd') : RStepO W r fd B qb ad n cap who A d (.slice vad τ.length vcap) τ s (.returned (.int .i64 0)) w6 := by
  have f54 : Fr (fun b => (Value.slice vad τ.length vcap).ownBlock = some b) w5 w4 := ((Fr.refl _ w5).alloc (.cells #[.int .u64 z] 49)).grown hg (fun k e => .inl e)
  have f56 : Fr (fun b => (Value.slice vad τ.length vcap).ownBlock = some b ∨ b = qb) w5 w6 := (f54.mono (fun b h => .inl h)).trans (hF6.mono (fun b h => .inr h))
  have hO : Wds w4 B (.slice (some ⟨g4, 0, none⟩) (τ.length + 1) cap4) (τ ++ [z]) := by
    unfold Wds
    rw [List.length_append]
    simpa [ints] using hO4
  have hqb : w4.heap[qb]? = some (.cells #[.slice ad n cap, .int .i64 who, .int .i64 (d : Int), .slice vad τ.length vcap] 46 (0, 0)) := f54.keeps hQ.tp (fun e => by
    obtain ⟨_, _, c, hc⟩ := hQ.own.lt e
    exact type_ne hc hQ.tp (by decide) rfl)
  refine ⟨hF.trans (f56.mono (fun b e => by
    rcases e with e | e
    · exact .inr (.inr (.inr e))
    · exact .inr (.inr (.inl e)))), .inr (.inr ⟨hd, s', fd', .slice (some ⟨g4, 0, none⟩) (τ.length + 1) cap4, ha, rfl, hR.fr f56 (fun b hb e => ?_), ⟨?_, ?_⟩, fun g hg' => ?_, ?_, hfd⟩)⟩
  · rcases e with e | e
    · obtain ⟨_, _, c, hc⟩ := hQ.own.lt e
      exact hR.apart49 hc (hP _ e) hb
    · subst e
      exact hR.apart hQ.tp (by decide) (by decide) (by decide) (by decide) (by decide) hb
  · rw [h6]
    push_cast
    rfl
  · rw [hn]
    refine hO.fr hF6 (fun g hg e => ?_)
    obtain ⟨_, _, c, hc⟩ := hO.lt hg
    exact type_ne hc hqb (by decide) e
  · cases hg'
    rcases hat with hat | hat
    · exact hP g4 hat
    · have l1 := hR.lt r.fs (.inl (.inr (.inl rfl)))
      have l2 := hR.lt r.fk (.inl (.inr (.inr (.inl rfl))))
      have l3 := hR.lt r.fn (.inl (.inr (.inr (.inr (.inl rfl)))))
      show g4 ≠ r.fs ∧ g4 ≠ r.fk ∧ g4 ≠ r.fn
      omega
  · rcases hat with hat | hat
    · exact .inl hat.symm
    · exact .inr ⟨g4, rfl, by have := hF.size; omega⟩
theorem Rf.store {W : World} {r : RLoc} {fd cd : Nat} {S K M : List Int} {P : List Bool} (h : Rf W r fd cd S K M P) (i : Nat) (hi : i < 16) (x : Int) : Rf (W.setCell ⟨r.fs, i, none⟩ (.int .u64 x)) r fd cd (S.set i x) K M P := by
  have X3 := (Fr.refl (fun b => b = r.fs) W).setCell (p := ⟨r.fs, i, none⟩) (.inl rfl) (.int .u64 x)
  obtain ⟨st, hp⟩ := h.tp
  obtain ⟨_, a2⟩ := h.rs.blk
  obtain ⟨_, a5⟩ := h.rp.blk
  exact ⟨⟨st, X3.keeps hp (type_ne hp a2 (by decide))⟩, h.rs.put i hi x, Pm.Row.fr h.rk X3 (fun e => h.ne.1 e.symm), Pm.Row.fr h.rm X3 (fun e => h.ne.2.1 e.symm), h.rp.fr X3 (type_ne a5 a2 (by decide)), h.ne⟩
theorem rflush_rel {s : SS} {M M' : List Int} {P : List Bool} {a : Int} (ha : 0 ≤ a ∧ a < 16) (hl : P.length = 2) (hP : ∀ j, j < 16 → s.P j = if P.getD (j / 8) false = true then some (M.getD j 0) else none) (hM : ∀ j, j < 16 → M'.getD j 0 = if j / 8 = a.toNat / 8 then s.S.getD j 0 else M.getD j 0) (j : Nat) (hj : j < 16) :
    (if j - j % 8 = a.toNat - a.toNat % 8 then some (s.S.getD j 0) else s.P j) = if (P.set (a.toNat / 8) true).getD (j / 8) false = true then some (M'.getD j 0) else none := by
  have hq : a.toNat / 8 < 2 := by omega
  have hset : (P.set (a.toNat / 8) true).getD (j / 8) false = if j / 8 = a.toNat / 8 then true else P.getD (j / 8) false := by
    simp only [List.getD_eq_getElem?_getD, List.getElem?_set]
    by_cases e : j / 8 = a.toNat / 8
    · rw [if_pos e.symm, if_pos (by omega), if_pos e]
      rfl
    · rw [if_neg (fun x => e x.symm), if_neg e]
  rw [hM j hj, hP j hj, hset]
  by_cases e : j / 8 = a.toNat / 8
  · rw [if_pos (by omega), if_pos e, if_pos rfl, if_pos e]
  · rw [if_neg (by omega), if_neg e, if_neg e]
theorem rfence_rel {s : SS} {K' M : List Int} {P : List Bool} (hP : ∀ j, j < 16 → s.P j = if P.getD (j / 8) false = true then some (M.getD j 0) else none) (hK : ∀ j, j < 16 → K'.getD j 0 = if P.getD (j / 8) false = true then M.getD j 0 else s.K.getD j 0) (hl : K'.length = 16) : K' = (List.range 16).map fun j => (s.P j).getD (s.K.getD j 0) := by
  refine fence_list hl (fun j hj => ?_)
  rw [hK j hj, hP j hj]
  split <;> rfl
theorem none_rel (M : List Int) (j : Nat) (hj : j < 16) : (none : Option Int) = if [false, false].getD (j / 8) false = true then some (M.getD j 0) else none := by
  rcases (by omega : j / 8 = 0 ∨ j / 8 = 1) with e | e <;> rw [e] <;> rfl

theorem rstep_over (W : World) {r : RLoc} {fd B qb n cap d : Nat} {ad : Option Addr} {who : Int} {A : Nat → AskN} {wv : Value} {τ : List Int} {s : SS} (hQ : Ru W B qb ad n cap who d wv τ) (hR : RSh W r fd s) (hd : d = n) :
    Calls Try.prog 12 #[.pointer (some ⟨qb, 0, none⟩), .pointer (some ⟨r.fp, 0, none⟩), .pointer (some ⟨r.up, 0, none⟩)] W (RStepO W r fd B qb ad n cap who A d wv τ s) := by
  subst hd
  have c0 : W.cell? ⟨qb, 0, none⟩ = some (.slice ad d cap) := (blk_cell hQ.tp 0).trans rfl
  have c2 : W.cell? ⟨qb, 2, none⟩ = some (.int .i64 d) := (blk_cell hQ.tp 2).trans rfl
  have hu := Try.underlying46
  have HQ := Aside0.mk hQ
  have HR := Aside0.mk hR
  clear hQ hR
  go_enter Try.func12, Try.ntmps12
  go_wp2_with fail
  go_quiet (fail)
  go_wp2_with fail
  go_ret
  have hb := pw_below_drewN (Below.refl W.heap.size W) nq
  exact ⟨Fr.of hb, .inl ⟨rfl, rfl, HR.out.below hb, HQ.out.below hb⟩⟩
set_option maxHeartbeats 16000000 in
set_option maxRecDepth 100000 in
theorem rstep_in (W : World) {X : Nat → Prop} {r : RLoc} {fd B qb n cap d : Nat} {ad : Option Addr} {who : Int} {A : Nat → AskN} {wv : Value} {τ : List Int} {s : SS} (hQ : Ru W B qb ad n cap who d wv τ) (hR : RSh W r fd s) (hP : RApt r wv) (hd : d < n) (hn : n ≤ 40) (hτ : τ.length ≤ 40) (hB : B ≤ W.heap.size) (hA : AskM W X ad n A) (hXq : X qb) :
    Calls Try.prog 12 #[.pointer (some ⟨qb, 0, none⟩), .pointer (some ⟨r.fp, 0, none⟩), .pointer (some ⟨r.up, 0, none⟩)] W (RStepO W r fd B qb ad n cap who A d wv τ s) := by
  obtain ⟨y, e, hyl, hyx, y0, y1, y2⟩ := hA.at_ d hd
  cases e
  have hk := hA.kd d hd
  obtain ⟨vad, vcap, hv⟩ := hQ.own.form
  have hQ' := hQ
  subst hv
  have hdec : ((d : Int) == (n : Int)) = false := by simp; omega
  have hi0 : (0 : Int) ≤ (d : Int) := by omega
  have hi1 : (d : Int) < (n : Int) := by omega
  have c0 : W.cell? ⟨qb, 0, none⟩ = some (.slice (some y) n cap) := (blk_cell hQ.tp 0).trans rfl
  have c2 : W.cell? ⟨qb, 2, none⟩ = some (.int .i64 d) := (blk_cell hQ.tp 2).trans rfl
  have y1' : W.cell? { block := (y.add (d * 3)).block, off := (y.add (d * 3)).off + 1 } = some (.int .i64 (A d).a) := y1
  have y2' : W.cell? { block := (y.add (d * 3)).block, off := (y.add (d * 3)).off + 2 } = some (.int .u64 (A d).x) := y2
  obtain ⟨kk, aa, xx, hAi⟩ : ∃ kk aa xx, A d = ⟨kk, aa, xx⟩ := ⟨_, _, _, rfl⟩
  have HAI := Aside0.mk hAi
  rw [hAi] at y0 y1' y2' hk
  clear y1 y2 hAi
  have hu := Try.underlying46
  have hu2 := Try.underlying51
  have hlq := blk_lt hQ.tp
  have hyb : (y.add (d * 3)).block = y.block := add_block _ _
  have HQ := Aside0.mk hQ
  have HR := Aside0.mk hR
  have HP := Aside0.mk hP
  have nn1 : ¬ qb = W.heap.size := by omega
  have nn2 : ¬ (y.add (d * 3)).block = W.heap.size := by rw [hyb]; omega
  have HYB := Aside0.mk hyb
  have HAM := Aside0.mk hA
  have HYX := Aside0.mk hyx
  clear hQ hR hP hQ' hlq hyb hA hyx
  go_enter Try.func12, Try.ntmps12
  go_wp2_with fail
  go_quiet (fail)
  go_wp2_with fail
  have HB0 := Aside0.mk (pw_below_drewN (Below.refl W.heap.size W) nq)
  replace c0 : (W.drewN nq).cell? ⟨qb, 0, none⟩ = some (.slice (some y) n cap) := c0
  replace c2 : (W.drewN nq).cell? ⟨qb, 2, none⟩ = some (.int .i64 d) := c2
  replace y0 : (W.drewN nq).cell? (y.add (d * 3)) = some (.int .u8 kk) := y0
  replace y1' : (W.drewN nq).cell? { block := (y.add (d * 3)).block, off := (y.add (d * 3)).off + 1 } = some (.int .i64 aa) := y1'
  replace y2' : (W.drewN nq).cell? { block := (y.add (d * 3)).block, off := (y.add (d * 3)).off + 2 } = some (.int .u64 xx) := y2'
  have nn1' : ¬ qb = (W.drewN nq).heap.size := nn1
  have nn2' : ¬ (y.add (d * 3)).block = (W.drewN nq).heap.size := nn2
  clear nn1 nn2
  generalize hw0 : W.drewN nq = W0 at HB0 c0 c2 y0 y1' y2' nn1' nn2' ⊢
  clear hw0
  go_region_held3 (fun w' => w'.cell? ⟨qb, 0, none⟩ = some (.slice (some y) n cap) ∧ w'.cell? ⟨qb, 2, none⟩ = some (.int .i64 d) ∧ w'.cell? (y.add (d * 3)) = some (.int .u8 kk) ∧ w'.cell? { block := (y.add (d * 3)).block, off := (y.add (d * 3)).off + 1 } = some (.int .i64 aa) ∧ w'.cell? { block := (y.add (d * 3)).block, off := (y.add (d * 3)).off + 2 } = some (.int .u64 xx)) (go_keep) (fail)
  go_wp2_with fail
  have HB2 := Aside0.mk ((HB0.out.alloc (Nat.le_trans HB0.out.size (Nat.le_refl _)) (.cells #[.int .u8 kk, .int .i64 aa, .int .u64 xx] 51)).drew)
  have BO := Aside0.mk (blk_drew (blk_new W0 (.cells #[.int .u8 kk, .int .i64 aa, .int .u64 xx] 51)))
  obtain ⟨go, hgo⟩ : ∃ go, W0.heap.size = go := ⟨_, rfl⟩
  generalize hw2 : (W0.alloc (.cells #[.int .u8 kk, .int .i64 aa, .int .u64 xx] 51)).drew = w2 at HB2 BO ⊢
  rw [hgo] at BO ⊢
  clear hw2 hgo y0 y1' y2' c0 c2 nn1' nn2' HB0
  have Q2 := Aside0.mk (HQ.out.below HB2.out)
  have R2 := Aside0.mk (HR.out.below HB2.out)
  have o0 : w2.cell? ⟨go, 0, none⟩ = some (.int .u8 kk) := (blk_cell BO.out 0).trans rfl
  have o1 : w2.cell? ⟨go, 1, none⟩ = some (.int .i64 aa) := (blk_cell BO.out 1).trans rfl
  have o2 : w2.cell? ⟨go, 2, none⟩ = some (.int .u64 xx) := (blk_cell BO.out 2).trans rfl
  have q1 : w2.cell? ⟨qb, 1, none⟩ = some (.int .i64 who) := (blk_cell Q2.out.tp 1).trans rfl
  have q2 : w2.cell? ⟨qb, 2, none⟩ = some (.int .i64 d) := (blk_cell Q2.out.tp 2).trans rfl
  have q3 : w2.cell? ⟨qb, 3, none⟩ = some (.slice vad τ.length vcap) := (blk_cell Q2.out.tp 3).trans rfl
  have z2 : w2.frozen? ⟨qb, 2, none⟩ = false := blk_frozen Q2.out.tp 2
  have z3 : w2.frozen? ⟨qb, 3, none⟩ = false := blk_frozen Q2.out.tp 3
  have F2 := Aside0.mk (Fr.of (X := RqX r fd qb (.slice vad τ.length vcap)) HB2.out)
  go_loop [8, 9] (fun sv kv => ∃ k : Nat, k ≤ τ.length ∧ kv = .int .i64 k ∧ sv = .int .u64 (sumW xx (τ.take k))) (fun _ kv => τ.length - (intOf kv).toNat)
  case atStart => exact ⟨0, by omega, rfl, rfl⟩
  case round =>
    obtain ⟨k, hk9, rfl, rfl⟩ := hrel
    by_cases hkt : k < τ.length
    · have hd9 : decide ((k : Int) < (τ.length : Int)) = true := decide_eq_true (by omega)
      obtain ⟨tg, tcap, e1, e2, e3, e4⟩ := Q2.out.own.some (by omega)
      have e5 := e4 k hkt
      cases e1
      have htk := sum_next xx τ k hkt
      clear e4
      generalize τ.getD k 0 = yk at e5 htk
      have HTK := Aside0.mk htk
      clear htk
      go_wp2_with fail
      go_round
      case rel => exact ⟨k + 1, by omega, by go_num, by rw [HTK.out]⟩
      case measure => exact step_lt k _ hkt
    · have hd9 : decide ((k : Int) < (τ.length : Int)) = false := decide_eq_false (by omega)
      obtain rfl : k = τ.length := by omega
      rw [List.take_length]
      obtain ⟨sv, hsv⟩ : ∃ sv, sumW xx τ = sv := ⟨_, rfl⟩
      rw [hsv]
      have HSV := Aside0.mk hsv
      have hB2 : B ≤ w2.heap.size := Nat.le_trans hB HB2.out.size
      obtain ⟨cdd, M0, P0, g1, g2, g3⟩ := R2.out
      have G1 := Aside0.mk g1
      have G2 := Aside0.mk g2
      have G3 := Aside0.mk g3
      obtain ⟨stp, gp⟩ := g1.tp
      have p0 : w2.cell? ⟨r.fp, 0, none⟩ = some (.slice (some ⟨r.fs, 0, none⟩) 16 r.cs) := (blk_cell gp 0).trans rfl
      have hu3 := Try.underlying68
      have RN := Aside0.mk (And.intro g1.ne (R2.out.apart Q2.out.tp (by decide) (by decide) (by decide) (by decide) (by decide)))
      clear hsv g1 g2 g3 gp
      rcases (by omega : kk % 7 = 0 ∨ kk % 7 = 1 ∨ kk % 7 = 2 ∨ kk % 7 = 3 ∨ kk % 7 = 4 ∨ kk % 7 = 5 ∨ kk % 7 = 6) with hq | hq | hq | hq | hq | hq | hq
      · have hx : argW ⟨kk, aa, xx⟩ τ = sv := (arg0 hq).trans HSV.out
        have hact : actR who (A d) τ s = some (storeS 16 aa sv s) := by unfold actR; rw [HAI.out, hx]; show act 16 (kk % 7).toNat who aa sv s = _; rw [hq]; rfl
        have hnx : nextR (A d) τ s = τ := by unfold nextR; rw [HAI.out]; simp [hq]
        have HACT := Aside0.mk hact
        have HNX := Aside0.mk hnx
        clear hact hnx hx
        rcases Bool.eq_false_or_eq_true (thereB 16 aa) with ht | ht
        all_goals have HT := Aside0.mk ht
        all_goals clear ht
        · obtain ⟨ha0, ha1⟩ := thereB_in HT.out
          have ha2 : aa < 16 := ha1
          have ci := G1.out.rs.cell aa.toNat (by omega)
          have fi := G1.out.rs.frozen aa.toNat
          clear ha1
          obtain ⟨yi, hyi⟩ : ∃ yi, s.S.getD aa.toNat 0 = yi := ⟨_, rfl⟩
          rw [hyi] at ci
          have HYI := Aside0.mk hyi
          clear hyi
          have nfp : ¬ r.fs = r.fp := type_ne G1.out.rs.blk.choose_spec G1.out.tp.choose_spec (by decide)
          have nfp2 : ¬ r.fp = r.fs := fun e => nfp e.symm
          have nfg : ¬ r.fs = go := type_ne G1.out.rs.blk.choose_spec BO.out (by decide)
          have nfg2 : ¬ go = r.fs := fun e => nfg e.symm
          have nfq : ¬ r.fs = qb := type_ne G1.out.rs.blk.choose_spec Q2.out.tp (by decide)
          have nfq2 : ¬ qb = r.fs := fun e => nfq e.symm
          have F5 := F2.out.setCell (p := ⟨r.fs, aa.toNat, none⟩) (.inl (.inl (.inr (.inl rfl)))) (.int .u64 sv)
          have X5 := (Fr.refl (fun b => b = r.fs) w2).setCell (p := ⟨r.fs, aa.toNat, none⟩) (.inl rfl) (.int .u64 sv)
          have S5 := (G1.out.store aa.toNat (by omega) sv)
          have hS : storeS 16 aa sv s = { s with S := s.S.set aa.toNat sv } := by rw [storeS, if_pos HT.out]
          have R5 : RSh (w2.setCell ⟨r.fs, aa.toNat, none⟩ (.int .u64 sv)) r fd (storeS 16 aa sv s) := by rw [hS]; exact R2.out.ofRf (X5.mono (fun b e => .inr (.inl e))) S5 G2.out
          have Q5 := Q2.out.fr X5 nfq2 (fun g hg e => (HP.out g hg).1 e)
          have K5 := Aside0.mk (And.intro F5 (And.intro R5 Q5))
          clear F5 X5 S5 hS R5 Q5
          go_wp2_with (go_at_call 31; refine (rthere_calls _ G1.out aa).mono ?_; rw [HT.out]; rintro e w' ⟨rfl, hw'⟩; obtain rfl := hw'.symm)
          go_region_held3 (fun w' => w'.cell? ⟨r.fp, 0, none⟩ = some (.slice (some ⟨r.fs, 0, none⟩) 16 r.cs) ∧ w'.cell? ⟨go, 1, none⟩ = some (.int .i64 aa)) (go_keep) (fail)
          go_wp2_with fail
          go_ret
          exact rfin_plain (fd' := fd) K5.out.1 hd HACT.out HNX.out K5.out.2.1 K5.out.2.2 HP.out (blk_drew (blk_put K5.out.2.2.tp 2 _ rfl)) (((Fr.refl (fun b => b = qb) _).setCell (p := ⟨qb, 2, none⟩) (.inl rfl) _).drew1) (.inl rfl)
        · go_wp2_with (go_at_call 31; refine (rthere_calls _ G1.out aa).mono ?_; rw [HT.out]; rintro e w' ⟨rfl, hw'⟩; obtain rfl := hw'.symm)
          go_ret
          have hS : storeS 16 aa sv s = s := by rw [storeS, if_neg (by rw [HT.out]; decide)]
          exact rfin_plain (fd' := fd) F2.out hd HACT.out HNX.out (by rw [hS]; exact R2.out) Q2.out HP.out (blk_put Q2.out.tp 2 _ rfl) ((Fr.refl (fun b => b = qb) w2).setCell (p := ⟨qb, 2, none⟩) (.inl rfl) _) (.inl rfl)
      · have hx : argW ⟨kk, aa, xx⟩ τ = xx := argN (by omega)
        have hact : actR who (A d) τ s = some (s) := by unfold actR; rw [HAI.out, hx]; show act 16 (kk % 7).toNat who aa xx s = _; rw [hq]; rfl
        have hnx : nextR (A d) τ s = τ ++ [(if thereB 16 aa then s.S.getD aa.toNat 0 else 0)] := by unfold nextR boundR; rw [HAI.out, hx]; simp [hq]
        have HACT := Aside0.mk hact
        have HNX := Aside0.mk hnx
        clear hact hnx hx
        rcases Bool.eq_false_or_eq_true (thereB 16 aa) with ht | ht
        all_goals have HT := Aside0.mk ht
        all_goals clear ht
        · obtain ⟨ha0, ha1⟩ := thereB_in HT.out
          have ha2 : aa < 16 := ha1
          have ci := G1.out.rs.cell aa.toNat (by omega)
          have fi := G1.out.rs.frozen aa.toNat
          clear ha1
          obtain ⟨yi, hyi⟩ : ∃ yi, s.S.getD aa.toNat 0 = yi := ⟨_, rfl⟩
          rw [hyi] at ci
          have HYI := Aside0.mk hyi
          clear hyi
          have nfp : ¬ r.fs = r.fp := type_ne G1.out.rs.blk.choose_spec G1.out.tp.choose_spec (by decide)
          have nfp2 : ¬ r.fp = r.fs := fun e => nfp e.symm
          have nfg : ¬ r.fs = go := type_ne G1.out.rs.blk.choose_spec BO.out (by decide)
          have nfg2 : ¬ go = r.fs := fun e => nfg e.symm
          have nfq : ¬ r.fs = qb := type_ne G1.out.rs.blk.choose_spec Q2.out.tp (by decide)
          have nfq2 : ¬ qb = r.fs := fun e => nfq e.symm
          have HNZ := Aside0.mk (show nextR (A d) τ s = τ ++ [yi] from by rw [HNX.out, if_pos HT.out, HYI.out])
          go_wp2_with (go_at_call 31; refine (rthere_calls _ G1.out aa).mono ?_; rw [HT.out]; rintro e w' ⟨rfl, hw'⟩; obtain rfl := hw'.symm)
          go_region_held3 (fun w' => w'.cell? ⟨r.fp, 0, none⟩ = some (.slice (some ⟨r.fs, 0, none⟩) 16 r.cs) ∧ w'.cell? ⟨go, 1, none⟩ = some (.int .i64 aa) ∧ w'.cell? ⟨r.fs, aa.toNat, none⟩ = some (.int .u64 yi)) (go_keep) (fail)
          go_upto_region 18 with fail
          have F5 := Aside0.mk F2.out.drew1
          have R5 := Aside0.mk (R2.out.below (Below.refl _ w2).drew)
          have Q5 := Aside0.mk (Q2.out.below (Below.refl _ w2).drew)
          have OQ := Aside0.mk (show (Value.slice vad τ.length vcap).ownBlock ≠ some qb from fun e => by obtain ⟨_, _, c, hc⟩ := Q2.out.own.lt e; exact type_ne hc Q2.out.tp (by decide) rfl)
          generalize hw5 : w2.drew = w5 at F5 R5 Q5 ⊢
          clear hw5 ci fi p0 o0 o1 o2 q1 q2 q3 z2 z3
          obtain ⟨i0, hi0_, hz0, hz1, hz2⟩ := info_parts info49
          have hB5 : B ≤ w5.heap.size := Nat.le_trans hB F5.out.size
          have q53 : w5.cell? ⟨qb, 3, none⟩ = some (.slice vad τ.length vcap) := (blk_cell Q5.out.tp 3).trans rfl
          go_wp2_with (at_builtin; refine wpList_append_lies _ rfl _ _ _ rfl B 49 i0 _ 1 8 Try.underlying31 hi0_ hz0 hz1 hz2 rfl (by omega) (.slice vad τ.length vcap) τ.length (ints τ) (by rfl) (Q5.out.own.below ((Below.refl _ w5).alloc (Nat.le_refl _) _)) ⟨w5.heap.size, 0, none⟩ 1 1 [.int .u64 yi] (by rfl) (by rfl) (World.news_of_block (cs := #[.int .u64 yi]) (t := 49) (fr := (0, 0)) (heap_alloc_new w5 _)) (by simp [Value.oneCell']) (by omega) (by unfold maxLen; omega) (by omega) (by simp; omega) (w5.heap.size + 1) (by simp) ?_; intro g4 cap4 w4 hown4 hgrow4 hat4 hlt4; have G4 := Aside0.mk (hgrow4 : (w5.alloc (.cells #[.int .u64 yi] 49)).grownBy w4 (Value.slice vad τ.length vcap).ownBlock); have O4 := Aside0.mk hown4; have A4 := Aside0.mk hat4; have T4 := Aside0.mk (blk_grown (blk_alloc Q5.out.tp (.cells #[.int .u64 yi] 49)) G4.out (fun e => OQ.out e.symm)); clear hown4 hgrow4 hat4; have c43 : w4.cell? ⟨qb, 3, none⟩ = some (.slice vad τ.length vcap) := (blk_cell T4.out 3).trans rfl; have f43 : w4.frozen? ⟨qb, 3, none⟩ = false := blk_frozen T4.out 3; have c42 : w4.cell? ⟨qb, 2, none⟩ = some (.int .i64 d) := (blk_cell T4.out 2).trans rfl; have f42 : w4.frozen? ⟨qb, 2, none⟩ = false := blk_frozen T4.out 2)
          go_ret
          exact rfin_app (fd' := fd) F5.out hd HACT.out HNZ.out R5.out Q5.out HP.out G4.out O4.out A4.out (blk_put (blk_put T4.out 3 _ rfl) 2 _ rfl) (((Fr.refl (fun b => b = qb) w4).setCell (p := ⟨qb, 3, none⟩) (.inl rfl) _).setCell (p := ⟨qb, 2, none⟩) (.inl rfl) _) (.inl rfl)
        · have HNZ := Aside0.mk (show nextR (A d) τ s = τ ++ [0] from by rw [HNX.out, if_neg (by rw [HT.out]; decide)])
          have F5 := F2
          have R5 := R2
          have Q5 := Q2
          have OQ := Aside0.mk (show (Value.slice vad τ.length vcap).ownBlock ≠ some qb from fun e => by obtain ⟨_, _, c, hc⟩ := Q2.out.own.lt e; exact type_ne hc Q2.out.tp (by decide) rfl)
          go_upto_region 18 with (go_at_call 31; refine (rthere_calls _ G1.out aa).mono ?_; rw [HT.out]; rintro e w' ⟨rfl, hw'⟩; obtain rfl := hw'.symm)
          obtain ⟨i0, hi0_, hz0, hz1, hz2⟩ := info_parts info49
          have hB5 : B ≤ w2.heap.size := Nat.le_trans hB F5.out.size
          have q53 : w2.cell? ⟨qb, 3, none⟩ = some (.slice vad τ.length vcap) := (blk_cell Q5.out.tp 3).trans rfl
          go_wp2_with (at_builtin; refine wpList_append_lies _ rfl _ _ _ rfl B 49 i0 _ 1 8 Try.underlying31 hi0_ hz0 hz1 hz2 rfl (by omega) (.slice vad τ.length vcap) τ.length (ints τ) (by rfl) (Q5.out.own.below ((Below.refl _ w2).alloc (Nat.le_refl _) _)) ⟨w2.heap.size, 0, none⟩ 1 1 [.int .u64 0] (by rfl) (by rfl) (World.news_of_block (cs := #[.int .u64 0]) (t := 49) (fr := (0, 0)) (heap_alloc_new w2 _)) (by simp [Value.oneCell']) (by omega) (by unfold maxLen; omega) (by omega) (by simp; omega) (w2.heap.size + 1) (by simp) ?_; intro g4 cap4 w4 hown4 hgrow4 hat4 hlt4; have G4 := Aside0.mk (hgrow4 : (w2.alloc (.cells #[.int .u64 0] 49)).grownBy w4 (Value.slice vad τ.length vcap).ownBlock); have O4 := Aside0.mk hown4; have A4 := Aside0.mk hat4; have T4 := Aside0.mk (blk_grown (blk_alloc Q5.out.tp (.cells #[.int .u64 0] 49)) G4.out (fun e => OQ.out e.symm)); clear hown4 hgrow4 hat4; have c43 : w4.cell? ⟨qb, 3, none⟩ = some (.slice vad τ.length vcap) := (blk_cell T4.out 3).trans rfl; have f43 : w4.frozen? ⟨qb, 3, none⟩ = false := blk_frozen T4.out 3; have c42 : w4.cell? ⟨qb, 2, none⟩ = some (.int .i64 d) := (blk_cell T4.out 2).trans rfl; have f42 : w4.frozen? ⟨qb, 2, none⟩ = false := blk_frozen T4.out 2)
          go_ret
          exact rfin_app (fd' := fd) F5.out hd HACT.out HNZ.out R5.out Q5.out HP.out G4.out O4.out A4.out (blk_put (blk_put T4.out 3 _ rfl) 2 _ rfl) (((Fr.refl (fun b => b = qb) w4).setCell (p := ⟨qb, 3, none⟩) (.inl rfl) _).setCell (p := ⟨qb, 2, none⟩) (.inl rfl) _) (.inl rfl)
      · have hx : argW ⟨kk, aa, xx⟩ τ = xx := argN (by omega)
        have hact : actR who (A d) τ s = some (flushS 16 aa s) := by unfold actR; rw [HAI.out, hx]; show act 16 (kk % 7).toNat who aa xx s = _; rw [hq]; rfl
        have hnx : nextR (A d) τ s = τ := by unfold nextR; rw [HAI.out]; simp [hq]
        have HACT := Aside0.mk hact
        have HNX := Aside0.mk hnx
        clear hact hnx hx
        rcases Bool.eq_false_or_eq_true (thereB 16 aa) with ht | ht
        all_goals have HT := Aside0.mk ht
        all_goals clear ht
        · obtain ⟨ha0, ha1⟩ := thereB_in HT.out
          have ha2 : aa < 16 := ha1
          have hS : flushS 16 aa s = { s with P := fun j => if j - j % 8 = aa.toNat - aa.toNat % 8 then some (s.S.getD j 0) else s.P j, n := s.n + 1 } := by rw [flushS, if_pos HT.out]
          have HS := Aside0.mk hS
          clear hS ha1
          go_wp2_with (first | (go_at_call 31; refine (rthere_calls _ G1.out aa).mono ?_; rw [HT.out]; rintro e w' ⟨rfl, hw'⟩; obtain rfl := hw'.symm) | (go_at_call 32; refine (rflush_calls w2 G1.out aa ⟨ha0, ha2⟩).mono ?_; rintro e w5 ⟨rfl, ⟨M5, hR5, hM5⟩, hF5⟩; have R5 := Aside0.mk hR5; have M5' := Aside0.mk hM5; have F5 := Aside0.mk hF5; have nq : ¬ r.FX fd qb := (fun h => RN.out.2 (.inl h)); have T5 := Aside0.mk (F5.out.keeps Q2.out.tp nq); clear hR5 hM5 hF5 nq; have q52 : w5.cell? ⟨qb, 2, none⟩ = some (.int .i64 d) := (blk_cell T5.out 2).trans rfl; have z52 : w5.frozen? ⟨qb, 2, none⟩ = false := blk_frozen T5.out 2))
          go_ret
          have RR : RSh w5 r fd (flushS 16 aa s) := by rw [HS.out]; exact R2.out.ofRf F5.out R5.out (rflush_rel ⟨ha0, ha2⟩ G1.out.rp.len G2.out M5'.out)
          have QQ := Q2.out.fr F5.out (fun h => RN.out.2 (.inl h)) (fun g hg e => by obtain ⟨_, _, c, hc⟩ := Q2.out.own.lt hg; exact R2.out.apart49 hc (HP.out g hg) (.inl e))
          exact rfin_plain (fd' := fd) (F2.out.trans (F5.out.mono (fun b e => .inl e))) hd HACT.out HNX.out RR QQ HP.out (blk_put T5.out 2 _ rfl) ((Fr.refl (fun b => b = qb) w5).setCell (p := ⟨qb, 2, none⟩) (.inl rfl) _) (.inl rfl)
        · go_wp2_with (go_at_call 31; refine (rthere_calls _ G1.out aa).mono ?_; rw [HT.out]; rintro e w' ⟨rfl, hw'⟩; obtain rfl := hw'.symm)
          go_ret
          have hS : flushS 16 aa s = s := by rw [flushS, if_neg (by rw [HT.out]; decide)]
          exact rfin_plain (fd' := fd) F2.out hd HACT.out HNX.out (by rw [hS]; exact R2.out) Q2.out HP.out (blk_put Q2.out.tp 2 _ rfl) ((Fr.refl (fun b => b = qb) w2).setCell (p := ⟨qb, 2, none⟩) (.inl rfl) _) (.inl rfl)
      · have hx : argW ⟨kk, aa, xx⟩ τ = xx := argN (by omega)
        have hact : actR who (A d) τ s = some (fenceS 16 s) := by unfold actR; rw [HAI.out, hx]; show act 16 (kk % 7).toNat who aa xx s = _; rw [hq]; rfl
        have hnx : nextR (A d) τ s = τ := by unfold nextR; rw [HAI.out]; simp [hq]
        have HACT := Aside0.mk hact
        have HNX := Aside0.mk hnx
        clear hact hnx hx
        go_wp2_with (go_at_call 33; refine (rfence_calls w2 G1.out).mono ?_; rintro e w5 ⟨rfl, ⟨K5, fd5, hR5, hK5, hfd5⟩, hF5⟩; have FD5 := Aside0.mk hfd5; clear hfd5; have R5 := Aside0.mk hR5; have K5' := Aside0.mk hK5; have F5 := Aside0.mk hF5; have nq : ¬ r.FX fd qb := (fun h => RN.out.2 (.inl h)); have T5 := Aside0.mk (F5.out.keeps Q2.out.tp nq); clear hR5 hK5 hF5 nq; have q52 : w5.cell? ⟨qb, 2, none⟩ = some (.int .i64 d) := (blk_cell T5.out 2).trans rfl; have z52 : w5.frozen? ⟨qb, 2, none⟩ = false := blk_frozen T5.out 2)
        go_ret
        have hK := rfence_rel G2.out K5'.out R5.out.rk.len
        have RR : RSh w5 r fd5 (fenceS 16 s) := by rw [fenceS, ← hK]; exact R2.out.ofRf F5.out R5.out (none_rel M0)
        have QQ := Q2.out.fr F5.out (fun h => RN.out.2 (.inl h)) (fun g hg e => by obtain ⟨_, _, c, hc⟩ := Q2.out.own.lt hg; exact R2.out.apart49 hc (HP.out g hg) (.inl e))
        exact rfin_plain (fd' := fd5) (F2.out.trans (F5.out.mono (fun b e => .inl e))) hd HACT.out HNX.out RR QQ HP.out (blk_put T5.out 2 _ rfl) ((Fr.refl (fun b => b = qb) w5).setCell (p := ⟨qb, 2, none⟩) (.inl rfl) _) (.inr (Nat.le_trans F2.out.size FD5.out))
      · have hx : argW ⟨kk, aa, xx⟩ τ = xx := argN (by omega)
        have hact : actR who (A d) τ s = if (takeR s.L aa who).1 = 0 then some { s with L := (takeR s.L aa who).2 } else none := by unfold actR; rw [HAI.out, hx]; show act 16 (kk % 7).toNat who aa xx s = _; rw [hq]; rfl
        have hnx : nextR (A d) τ s = τ := by unfold nextR; rw [HAI.out]; simp [hq]
        have HACT := Aside0.mk hact
        have HNX := Aside0.mk hnx
        clear hact hnx hx
        by_cases hz : (takeR s.L aa who).1 = 0
        · have HZ := Aside0.mk hz
          clear hz
          go_wp2_with fail
          go_region_held3 (fun w' => w'.cell? ⟨go, 1, none⟩ = some (.int .i64 aa) ∧ w'.cell? ⟨qb, 1, none⟩ = some (.int .i64 who)) (go_keep)
            ((go_at_call 34; refine (rtake_calls _ (G3.out.fr (X := fun _ => False) (Fr.refl _ w2).drew1 (fun h => h) (fun h => h)) aa who).mono ?_; rw [HZ.out]; rintro e w5 ⟨rfl, hT5, hF5⟩; have T5 := Aside0.mk (hT5); have F5 := Aside0.mk (Fr.undrew hF5); clear hT5 hF5; have ngo : ¬ r.UX go := (fun h => R2.out.apart BO.out (by decide) (by decide) (by decide) (by decide) (by decide) (.inr h)); have nqb : ¬ r.UX qb := (fun h => RN.out.2 (.inr h)); have BO5 := Aside0.mk (F5.out.keeps BO.out ngo); have QT5 := Aside0.mk (F5.out.keeps Q2.out.tp nqb); clear ngo nqb; have o51 : w5.cell? ⟨go, 1, none⟩ = some (.int .i64 aa) := (blk_cell BO5.out 1).trans rfl; have q51 : w5.cell? ⟨qb, 1, none⟩ = some (.int .i64 who) := (blk_cell QT5.out 1).trans rfl; have q52 : w5.cell? ⟨qb, 2, none⟩ = some (.int .i64 d) := (blk_cell QT5.out 2).trans rfl; have z52 : w5.frozen? ⟨qb, 2, none⟩ = false := blk_frozen QT5.out 2))
          go_wp2_with fail
          go_ret
          have QQ := Q2.out.fr F5.out (fun h => RN.out.2 (.inr h)) (fun g hg e => by obtain ⟨_, _, c, hc⟩ := Q2.out.own.lt hg; exact R2.out.apart49 hc (HP.out g hg) (.inr e))
          exact rfin_plain (fd' := fd) (F2.out.trans (F5.out.mono (fun b e => .inr (.inl e)))) hd (by rw [HACT.out, if_pos HZ.out]) HNX.out (R2.out.ofRT F5.out T5.out) QQ HP.out (blk_put QT5.out 2 _ rfl) ((Fr.refl (fun b => b = qb) w5).setCell (p := ⟨qb, 2, none⟩) (.inl rfl) _) (.inl rfl)
        · obtain ⟨qz, hqz⟩ : ∃ qz, (takeR s.L aa who).1 = qz := ⟨_, rfl⟩
          have hz0 : ¬ qz = 0 := fun e => hz (hqz.trans e)
          have hz1 : (qz != 0) = true := by simp [hz0]
          have HZ := Aside0.mk hz
          have HQZ := Aside0.mk hqz
          clear hz hqz hz0
          go_wp2_with fail
          go_region_held3 (fun w' => w'.cell? ⟨go, 1, none⟩ = some (.int .i64 aa) ∧ w'.cell? ⟨qb, 1, none⟩ = some (.int .i64 who)) (go_keep)
            ((go_at_call 34; refine (rtake_calls _ (G3.out.fr (X := fun _ => False) (Fr.refl _ w2).drew1 (fun h => h) (fun h => h)) aa who).mono ?_; rw [HQZ.out]; rintro e w5 ⟨rfl, hT5, hF5⟩; have T5 := Aside0.mk (hT5); have F5 := Aside0.mk (Fr.undrew hF5); clear hT5 hF5; have ngo : ¬ r.UX go := (fun h => R2.out.apart BO.out (by decide) (by decide) (by decide) (by decide) (by decide) (.inr h)); have nqb : ¬ r.UX qb := (fun h => RN.out.2 (.inr h)); have BO5 := Aside0.mk (F5.out.keeps BO.out ngo); have QT5 := Aside0.mk (F5.out.keeps Q2.out.tp nqb); clear ngo nqb; have o51 : w5.cell? ⟨go, 1, none⟩ = some (.int .i64 aa) := (blk_cell BO5.out 1).trans rfl; have q51 : w5.cell? ⟨qb, 1, none⟩ = some (.int .i64 who) := (blk_cell QT5.out 1).trans rfl; have q52 : w5.cell? ⟨qb, 2, none⟩ = some (.int .i64 d) := (blk_cell QT5.out 2).trans rfl; have z52 : w5.frozen? ⟨qb, 2, none⟩ = false := blk_frozen QT5.out 2))
          go_wp2_with fail
          go_ret
          have QQ := Q2.out.fr F5.out (fun h => RN.out.2 (.inr h)) (fun g hg e => by obtain ⟨_, _, c, hc⟩ := Q2.out.own.lt hg; exact R2.out.apart49 hc (HP.out g hg) (.inr e))
          have RR := R2.out.ofRT F5.out T5.out
          rw [take_blocked HZ.out] at RR
          exact ⟨(F2.out.trans (F5.out.mono (fun b e => .inr (.inl e)))), .inr (.inl ⟨hd, by rw [HACT.out, if_neg HZ.out], rfl, RR, QQ⟩)⟩
      · have hx : argW ⟨kk, aa, xx⟩ τ = xx := argN (by omega)
        have hact : actR who (A d) τ s = some ({ s with L := (leaveR s.L aa who).2 }) := by unfold actR; rw [HAI.out, hx]; show act 16 (kk % 7).toNat who aa xx s = _; rw [hq]; rfl
        have hnx : nextR (A d) τ s = τ := by unfold nextR; rw [HAI.out]; simp [hq]
        have HACT := Aside0.mk hact
        have HNX := Aside0.mk hnx
        clear hact hnx hx
        go_wp2_with fail
        go_region_held3 (fun w' => w'.cell? ⟨go, 1, none⟩ = some (.int .i64 aa) ∧ w'.cell? ⟨qb, 1, none⟩ = some (.int .i64 who)) (go_keep)
          ((go_at_call 35; refine (rleave_calls _ (G3.out.fr (X := fun _ => False) (Fr.refl _ w2).drew1 (fun h => h) (fun h => h)) aa who).mono ?_; rintro e w5 ⟨⟨qz, rfl⟩, hT5, hF5⟩; have T5 := Aside0.mk (hT5); have F5 := Aside0.mk (Fr.undrew hF5); clear hT5 hF5; have ngo : ¬ r.UX go := (fun h => R2.out.apart BO.out (by decide) (by decide) (by decide) (by decide) (by decide) (.inr h)); have nqb : ¬ r.UX qb := (fun h => RN.out.2 (.inr h)); have BO5 := Aside0.mk (F5.out.keeps BO.out ngo); have QT5 := Aside0.mk (F5.out.keeps Q2.out.tp nqb); clear ngo nqb; have o51 : w5.cell? ⟨go, 1, none⟩ = some (.int .i64 aa) := (blk_cell BO5.out 1).trans rfl; have q51 : w5.cell? ⟨qb, 1, none⟩ = some (.int .i64 who) := (blk_cell QT5.out 1).trans rfl; have q52 : w5.cell? ⟨qb, 2, none⟩ = some (.int .i64 d) := (blk_cell QT5.out 2).trans rfl; have z52 : w5.frozen? ⟨qb, 2, none⟩ = false := blk_frozen QT5.out 2))
        go_wp2_with fail
        go_ret
        have QQ := Q2.out.fr F5.out (fun h => RN.out.2 (.inr h)) (fun g hg e => by obtain ⟨_, _, c, hc⟩ := Q2.out.own.lt hg; exact R2.out.apart49 hc (HP.out g hg) (.inr e))
        exact rfin_plain (fd' := fd) (F2.out.trans (F5.out.mono (fun b e => .inr (.inl e)))) hd HACT.out HNX.out (R2.out.ofRT F5.out T5.out) QQ HP.out (blk_put QT5.out 2 _ rfl) ((Fr.refl (fun b => b = qb) w5).setCell (p := ⟨qb, 2, none⟩) (.inl rfl) _) (.inl rfl)
      · have hx : argW ⟨kk, aa, xx⟩ τ = xx := argN (by omega)
        have hact : actR who (A d) τ s = some ({ s with c := s.c + 1 }) := by unfold actR; rw [HAI.out, hx]; show act 16 (kk % 7).toNat who aa xx s = _; rw [hq]; rfl
        have hnx : nextR (A d) τ s = τ ++ [xx] := by unfold nextR boundR; rw [HAI.out, hx]; simp [hq]
        have HACT := Aside0.mk hact
        have HNX := Aside0.mk hnx
        clear hact hnx hx
        have OQ := Aside0.mk (show (Value.slice vad τ.length vcap).ownBlock ≠ some qb from fun e => by obtain ⟨_, _, c, hc⟩ := Q2.out.own.lt e; exact type_ne hc Q2.out.tp (by decide) rfl)
        have OG := Aside0.mk (show (Value.slice vad τ.length vcap).ownBlock ≠ some go from fun e => by obtain ⟨_, _, c, hc⟩ := Q2.out.own.lt e; exact type_ne hc BO.out (by decide) rfl)
        have F5 := F2
        have R5 := R2
        have Q5 := Q2
        obtain ⟨i0, hi0_, hz0, hz1, hz2⟩ := info_parts info49
        go_wp2_with fail
        have C3 := Aside0.mk q3
        have C2 := Aside0.mk o2
        have W0 := Aside0.mk (Eq.refl w2.drew)
        refine start_ (n := 12) (S := fun w' => True) (ds := []) #[false, false, false, false, false, false, false, false, false, false, false, false] (by kernel_rfl) rfl rfl trivial (fun hHeld => ?_)
        refine with_tabW g10.tab10 g10.bits10 (fun HT_ HW_ => ?_)
        refine inv_at [0, 1, 2, 3, 4, 5, 6, 7, 8, 9, 10, 11] (fun a0_ b a w' => ∃ (gz : Nat) (g4 : Nat) (cap4 : Nat) (m7_ : Value) (m8_ : Value), a = putSel a0_ b [(0, 54, .pointer (some ⟨qb, 0, none⟩)), (1, 55, .pointer (some ⟨qb, 0, none⟩)), (2, 56, .pointer (some ⟨qb, 0, none⟩)), (3, 57, .pointer (some ⟨qb, 3, none⟩)), (4, 58, .slice vad τ.length vcap), (5, 59, .pointer (some ⟨go, 2, none⟩)), (6, 60, .int .u64 xx), (7, 61, m7_), (8, 62, m8_), (9, 63, .pointer (some ⟨qb, 0, none⟩)), (10, 64, .pointer (some ⟨qb, 3, none⟩))] ∧ (b 7 = false → Aside0 (w' = w2.drew)) ∧ (b 7 = true → b 8 = false → Aside0 (w' = w2.drew.alloc (.cells #[.int .u64 xx] 49) ∧ gz = w2.heap.size)) ∧ (b 8 = true → b 11 = false → G8 w2 B vad τ vcap xx g4 cap4 w') ∧ (b 11 = true → Aside0 (∃ w4, G8 w2 B vad τ vcap xx g4 cap4 w4 ∧ w' = w4.setCell ⟨qb, 3, none⟩ (.slice (some ⟨g4, 0, none⟩) (τ.length + 1) cap4))) ∧ (b 8 = false → w'.cell? ⟨qb, 3, none⟩ = some (.slice vad τ.length vcap)) ∧ (b 8 = false → w'.cell? ⟨go, 2, none⟩ = some (.int .u64 xx)) ∧ (b 7 = true → (m7_ : Value) = .slice (some ⟨gz, 0, none⟩) 1 1) ∧ (b 8 = true → (m8_ : Value) = .slice (some ⟨g4, 0, none⟩) (τ.length + 1) cap4)) HT_.out HW_.out (by kernel_rfl) (by kernel_rfl) ?_ ?_ ?_
        · exact ⟨0, 0, 0, .bool false, .bool false, by simp only [putSel, Bool.false_eq_true, if_false], fun _ => ⟨rfl⟩, fun h_ => absurd h_ (by decide), fun h_ => absurd h_ (by decide), fun h_ => absurd h_ (by decide), fun _ => q3, fun _ => o2, fun h_ => absurd h_ (by decide), fun h_ => absurd h_ (by decide)⟩
        · skip
          clear C2 C3 W0
          refine steps_cons ?_ ?_
          · rintro b a w' ⟨gz, g4, cap4, m7_, m8_, ha, Q_W0, Q_W7, Q_W8, Q_W9, Q_C3, Q_C2, Q_X7_, Q_X8_⟩ hb_ hon hoff
            refine ⟨_, rfl, fun K hK => ?_⟩
            have e0 : a.tmps[0]? = some (.pointer (some ⟨qb, 0, none⟩)) := by rw [ha]; exact (putSel_off rfl).trans rfl
            replace ha := Aside0.mk ha
            refine value_ (w1 := w') (v := .pointer (some ⟨qb, 0, none⟩)) (by rfl) rfl ?_ ?_
            · go_simp
              (try simp only [i64_w])
              try rfl
            refine hK.out _ _ ⟨gz, g4, cap4, m7_, m8_, (by rw [ha.out]; exact putSel_upk 0 hb_ rfl rfl rfl), Q_W0, Q_W7, Q_W8, fun h0_ => absurd ((hoff 11 (by kernel_rfl)).symm.trans h0_) (by decide), Q_C3, Q_C2, Q_X7_, Q_X8_⟩
          refine steps_cons ?_ ?_
          · rintro b a w' ⟨gz, g4, cap4, m7_, m8_, ha, Q_W0, Q_W7, Q_W8, Q_W9, Q_C3, Q_C2, Q_X7_, Q_X8_⟩ hb_ hon hoff
            refine ⟨_, rfl, fun K hK => ?_⟩
            have e0 : a.tmps[0]? = some (.pointer (some ⟨qb, 0, none⟩)) := by rw [ha]; exact (putSel_off rfl).trans rfl
            replace ha := Aside0.mk ha
            have C3 := Aside0.mk (Q_C3 (hoff 8 (by kernel_rfl)))
            have C2 := Aside0.mk (Q_C2 (hoff 8 (by kernel_rfl)))
            refine value_ (w1 := w') (v := .pointer (some ⟨qb, 0, none⟩)) (by rfl) rfl ?_ ?_
            · go_simp
              (try simp only [i64_w])
              try rfl
            refine hK.out _ _ ⟨gz, g4, cap4, m7_, m8_, (by rw [ha.out]; exact putSel_upk 1 hb_ rfl rfl rfl), Q_W0, Q_W7, fun h0_ _ => absurd ((hoff 8 (by kernel_rfl)).symm.trans h0_) (by decide), fun h0_ => absurd ((hoff 11 (by kernel_rfl)).symm.trans h0_) (by decide), Q_C3, Q_C2, Q_X7_, fun h0_ => absurd ((hoff 8 (by kernel_rfl)).symm.trans h0_) (by decide)⟩
          refine steps_cons ?_ ?_
          · rintro b a w' ⟨gz, g4, cap4, m7_, m8_, ha, Q_W0, Q_W7, Q_W8, Q_W9, Q_C3, Q_C2, Q_X7_, Q_X8_⟩ hb_ hon hoff
            refine ⟨_, rfl, fun K hK => ?_⟩
            have e55 : a.tmps[55]? = some (.pointer (some ⟨qb, 0, none⟩)) := by rw [ha]; exact putSel_on (e := (1, 55, .pointer (some ⟨qb, 0, none⟩))) 1 rfl rfl (hon 1 (by kernel_rfl)) rfl
            replace ha := Aside0.mk ha
            have C3 := Aside0.mk (Q_C3 (hoff 8 (by kernel_rfl)))
            have C2 := Aside0.mk (Q_C2 (hoff 8 (by kernel_rfl)))
            refine value_ (w1 := w') (v := .pointer (some ⟨qb, 0, none⟩)) (by rfl) rfl ?_ ?_
            · go_simp
              (try simp only [i64_w])
              try rfl
            refine hK.out _ _ ⟨gz, g4, cap4, m7_, m8_, (by rw [ha.out]; exact putSel_upk 2 hb_ rfl rfl rfl), Q_W0, Q_W7, fun h0_ _ => absurd ((hoff 8 (by kernel_rfl)).symm.trans h0_) (by decide), fun h0_ => absurd ((hoff 11 (by kernel_rfl)).symm.trans h0_) (by decide), Q_C3, Q_C2, Q_X7_, fun h0_ => absurd ((hoff 8 (by kernel_rfl)).symm.trans h0_) (by decide)⟩
          refine steps_cons ?_ ?_
          · rintro b a w' ⟨gz, g4, cap4, m7_, m8_, ha, Q_W0, Q_W7, Q_W8, Q_W9, Q_C3, Q_C2, Q_X7_, Q_X8_⟩ hb_ hon hoff
            refine ⟨_, rfl, fun K hK => ?_⟩
            have e56 : a.tmps[56]? = some (.pointer (some ⟨qb, 0, none⟩)) := by rw [ha]; exact putSel_on (e := (2, 56, .pointer (some ⟨qb, 0, none⟩))) 2 rfl rfl (hon 2 (by kernel_rfl)) rfl
            replace ha := Aside0.mk ha
            have C3 := Aside0.mk (Q_C3 (hoff 8 (by kernel_rfl)))
            have C2 := Aside0.mk (Q_C2 (hoff 8 (by kernel_rfl)))
            refine value_ (w1 := w') (v := .pointer (some ⟨qb, 3, none⟩)) (by rfl) rfl ?_ ?_
            · go_simp
              (try simp only [i64_w])
              try rfl
            refine hK.out _ _ ⟨gz, g4, cap4, m7_, m8_, (by rw [ha.out]; exact putSel_upk 3 hb_ rfl rfl rfl), Q_W0, Q_W7, fun h0_ _ => absurd ((hoff 8 (by kernel_rfl)).symm.trans h0_) (by decide), fun h0_ => absurd ((hoff 11 (by kernel_rfl)).symm.trans h0_) (by decide), Q_C3, Q_C2, Q_X7_, fun h0_ => absurd ((hoff 8 (by kernel_rfl)).symm.trans h0_) (by decide)⟩
          refine steps_cons ?_ ?_
          · rintro b a w' ⟨gz, g4, cap4, m7_, m8_, ha, Q_W0, Q_W7, Q_W8, Q_W9, Q_C3, Q_C2, Q_X7_, Q_X8_⟩ hb_ hon hoff
            refine ⟨_, rfl, fun K hK => ?_⟩
            have e57 : a.tmps[57]? = some (.pointer (some ⟨qb, 3, none⟩)) := by rw [ha]; exact putSel_on (e := (3, 57, .pointer (some ⟨qb, 3, none⟩))) 3 rfl rfl (hon 3 (by kernel_rfl)) rfl
            replace ha := Aside0.mk ha
            have C3 := Aside0.mk (Q_C3 (hoff 8 (by kernel_rfl)))
            have C2 := Aside0.mk (Q_C2 (hoff 8 (by kernel_rfl)))
            have hl58 : w'.cell? ⟨qb, 3, none⟩ = some (.slice vad τ.length vcap) := C3.out
            refine value_ (w1 := w') (v := .slice vad τ.length vcap) (by rfl) rfl ?_ ?_
            · go_simp
              (try simp only [i64_w])
              try rfl
            refine hK.out _ _ ⟨gz, g4, cap4, m7_, m8_, (by rw [ha.out]; exact putSel_upk 4 hb_ rfl rfl rfl), Q_W0, Q_W7, fun h0_ _ => absurd ((hoff 8 (by kernel_rfl)).symm.trans h0_) (by decide), fun h0_ => absurd ((hoff 11 (by kernel_rfl)).symm.trans h0_) (by decide), Q_C3, Q_C2, Q_X7_, fun h0_ => absurd ((hoff 8 (by kernel_rfl)).symm.trans h0_) (by decide)⟩
          refine steps_cons ?_ ?_
          · rintro b a w' ⟨gz, g4, cap4, m7_, m8_, ha, Q_W0, Q_W7, Q_W8, Q_W9, Q_C3, Q_C2, Q_X7_, Q_X8_⟩ hb_ hon hoff
            refine ⟨_, rfl, fun K hK => ?_⟩
            have e7 : a.tmps[7]? = some (.pointer (some ⟨go, 0, none⟩)) := by rw [ha]; exact (putSel_off rfl).trans rfl
            replace ha := Aside0.mk ha
            have W0 := Aside0.mk (Q_W0 (hoff 7 (by kernel_rfl)))
            have C3 := Aside0.mk (Q_C3 (hoff 8 (by kernel_rfl)))
            have C2 := Aside0.mk (Q_C2 (hoff 8 (by kernel_rfl)))
            refine value_ (w1 := w') (v := .pointer (some ⟨go, 2, none⟩)) (by rfl) rfl ?_ ?_
            · go_simp
              (try simp only [i64_w])
              try rfl
            refine hK.out _ _ ⟨gz, g4, cap4, m7_, m8_, (by rw [ha.out]; exact putSel_upk 5 hb_ rfl rfl rfl), Q_W0, fun h0_ _ => absurd ((hoff 7 (by kernel_rfl)).symm.trans h0_) (by decide), fun h0_ _ => absurd ((hoff 8 (by kernel_rfl)).symm.trans h0_) (by decide), fun h0_ => absurd ((hoff 11 (by kernel_rfl)).symm.trans h0_) (by decide), Q_C3, Q_C2, fun h0_ => absurd ((hoff 7 (by kernel_rfl)).symm.trans h0_) (by decide), fun h0_ => absurd ((hoff 8 (by kernel_rfl)).symm.trans h0_) (by decide)⟩
          refine steps_cons ?_ ?_
          · rintro b a w' ⟨gz, g4, cap4, m7_, m8_, ha, Q_W0, Q_W7, Q_W8, Q_W9, Q_C3, Q_C2, Q_X7_, Q_X8_⟩ hb_ hon hoff
            refine ⟨_, rfl, fun K hK => ?_⟩
            have e59 : a.tmps[59]? = some (.pointer (some ⟨go, 2, none⟩)) := by rw [ha]; exact putSel_on (e := (5, 59, .pointer (some ⟨go, 2, none⟩))) 5 rfl rfl (hon 5 (by kernel_rfl)) rfl
            replace ha := Aside0.mk ha
            have W0 := Aside0.mk (Q_W0 (hoff 7 (by kernel_rfl)))
            have C3 := Aside0.mk (Q_C3 (hoff 8 (by kernel_rfl)))
            have C2 := Aside0.mk (Q_C2 (hoff 8 (by kernel_rfl)))
            have hl60 : w'.cell? ⟨go, 2, none⟩ = some (.int .u64 xx) := C2.out
            refine value_ (w1 := w') (v := .int .u64 xx) (by rfl) rfl ?_ ?_
            · go_simp
              (try simp only [i64_w])
              try rfl
            refine hK.out _ _ ⟨gz, g4, cap4, m7_, m8_, (by rw [ha.out]; exact putSel_upk 6 hb_ rfl rfl rfl), Q_W0, fun h0_ _ => absurd ((hoff 7 (by kernel_rfl)).symm.trans h0_) (by decide), fun h0_ _ => absurd ((hoff 8 (by kernel_rfl)).symm.trans h0_) (by decide), fun h0_ => absurd ((hoff 11 (by kernel_rfl)).symm.trans h0_) (by decide), Q_C3, Q_C2, fun h0_ => absurd ((hoff 7 (by kernel_rfl)).symm.trans h0_) (by decide), fun h0_ => absurd ((hoff 8 (by kernel_rfl)).symm.trans h0_) (by decide)⟩
          refine steps_cons ?_ ?_
          · rintro b a w' ⟨gz, g4, cap4, m7_, m8_, ha, Q_W0, Q_W7, Q_W8, Q_W9, Q_C3, Q_C2, Q_X7_, Q_X8_⟩ hb_ hon hoff
            refine ⟨_, rfl, fun K hK => ?_⟩
            have e60 : a.tmps[60]? = some (.int .u64 xx) := by rw [ha]; exact putSel_on (e := (6, 60, .int .u64 xx)) 6 rfl rfl (hon 6 (by kernel_rfl)) rfl
            replace ha := Aside0.mk ha
            have W0 := Aside0.mk (Q_W0 hb_)
            have C3 := Aside0.mk (Q_C3 (hoff 8 (by kernel_rfl)))
            have C2 := Aside0.mk (Q_C2 (hoff 8 (by kernel_rfl)))
            refine value_ (w1 := ?_) (v := ?_) (by rfl) rfl ?_ ?_
            rotate_left 2
            · go_simp
              constructor
              · rfl
              · rfl
            have hb := (Below.refl w'.heap.size w').alloc (Nat.le_refl _) (.cells #[.int .u64 xx] 49)
            refine hK.out _ _ ⟨w'.heap.size, g4, cap4, (.slice (some ⟨w'.heap.size, 0, none⟩) 1 1), m8_, (by rw [ha.out]; exact putSel_upk 7 hb_ rfl rfl rfl), fun h0_ => absurd ((up_self b 7).symm.trans h0_) (by decide), fun _ _ => ⟨⟨by rw [W0.out.out], by rw [W0.out.out]; rfl⟩⟩, fun h0_ _ => absurd ((hoff 8 (by kernel_rfl)).symm.trans h0_) (by decide), fun h0_ => absurd ((hoff 11 (by kernel_rfl)).symm.trans h0_) (by decide), fun _ => ((hb.cell (p := ⟨qb, 3, none⟩) (World.block_lt_of_cell? w' _ C3.out)).trans C3.out), fun _ => ((hb.cell (p := ⟨go, 2, none⟩) (World.block_lt_of_cell? w' _ C2.out)).trans C2.out), fun _ => rfl, fun h0_ => absurd ((hoff 8 (by kernel_rfl)).symm.trans h0_) (by decide)⟩
          refine steps_cons ?_ ?_
          · rintro b a w' ⟨gz, g4, cap4, m7_, m8_, ha, Q_W0, Q_W7, Q_W8, Q_W9, Q_C3, Q_C2, Q_X7_, Q_X8_⟩ hb_ hon hoff
            refine ⟨_, rfl, fun K hK => ?_⟩
            have e58 : a.tmps[58]? = some (.slice vad τ.length vcap) := by rw [ha]; exact putSel_on (e := (4, 58, .slice vad τ.length vcap)) 4 rfl rfl (hon 4 (by kernel_rfl)) rfl
            have e61 : a.tmps[61]? = some (m7_) := by rw [ha]; exact putSel_on (e := (7, 61, m7_)) 7 rfl rfl (hon 7 (by kernel_rfl)) rfl
            rw [Q_X7_ (hon 7 (by kernel_rfl))] at e61
            replace ha := Aside0.mk ha
            have W7 := Aside0.mk (Q_W7 (hon 7 (by kernel_rfl)) hb_)
            have C3 := Aside0.mk (Q_C3 hb_)
            have C2 := Aside0.mk (Q_C2 hb_)
            obtain ⟨hw7, hgz⟩ := W7.out.out
            subst hw7
            refine step_append_lies _ (by rfl) (.tmp 58) (.tmp 61) 31 (by rfl) B 49 i0 _ 1 8 Try.underlying31 hi0_ hz0 hz1 hz2 rfl (by omega) (.slice vad τ.length vcap) τ.length (ints τ) ?qs8 (Q5.out.own.below ((Below.refl _ w2).drew.alloc (Nat.le_refl _) _)) ⟨w2.heap.size, 0, none⟩ 1 1 [.int .u64 xx] ?qx8 (by rfl) (World.news_of_block (cs := #[.int .u64 xx]) (t := 49) (fr := (0, 0)) (heap_alloc_new w2.drew _)) (by simp [Value.oneCell']) (by omega) (by unfold maxLen; omega) (by omega) (by simp; omega) (w2.heap.size + 1) (by simp) ?_
            (case qs8 => simp [Act.eval, e58])
            (case qx8 => simp [Act.eval, e61, hgz])
            intro g9 cap9 w9 hown9 hgr9 hat9 hlt9
            refine hK.out _ _ ⟨gz, g9, cap9, m7_, (.slice (some ⟨g9, 0, none⟩) (τ.length + 1) cap9), (by rw [ha.out]; exact putSel_upk 8 hb_ rfl rfl rfl), fun h0_ => absurd ((hon 7 (by kernel_rfl)).symm.trans h0_) (by decide), fun _ h1_ => absurd ((up_self b 8).symm.trans h1_) (by decide), fun _ _ => ⟨hown9, hgr9, hat9⟩, fun h0_ => absurd ((hoff 11 (by kernel_rfl)).symm.trans h0_) (by decide), fun h0_ => absurd ((up_self b 8).symm.trans h0_) (by decide), fun h0_ => absurd ((up_self b 8).symm.trans h0_) (by decide), Q_X7_, fun _ => rfl⟩
          refine steps_cons ?_ ?_
          · rintro b a w' ⟨gz, g4, cap4, m7_, m8_, ha, Q_W0, Q_W7, Q_W8, Q_W9, Q_C3, Q_C2, Q_X7_, Q_X8_⟩ hb_ hon hoff
            refine ⟨_, rfl, fun K hK => ?_⟩
            have e54 : a.tmps[54]? = some (.pointer (some ⟨qb, 0, none⟩)) := by rw [ha]; exact putSel_on (e := (0, 54, .pointer (some ⟨qb, 0, none⟩))) 0 rfl rfl (hon 0 (by kernel_rfl)) rfl
            replace ha := Aside0.mk ha
            have W8 := Aside0.mk (Q_W8 (hon 8 (by kernel_rfl)) (hoff 11 (by kernel_rfl)))
            refine value_ (w1 := w') (v := .pointer (some ⟨qb, 0, none⟩)) (by rfl) rfl ?_ ?_
            · go_simp
              (try simp only [i64_w])
              try rfl
            refine hK.out _ _ ⟨gz, g4, cap4, m7_, m8_, (by rw [ha.out]; exact putSel_upk 9 hb_ rfl rfl rfl), fun h0_ => absurd ((hon 7 (by kernel_rfl)).symm.trans h0_) (by decide), fun _ h1_ => absurd ((hon 8 (by kernel_rfl)).symm.trans h1_) (by decide), Q_W8, fun h0_ => absurd ((hoff 11 (by kernel_rfl)).symm.trans h0_) (by decide), fun h0_ => absurd ((hon 8 (by kernel_rfl)).symm.trans h0_) (by decide), fun h0_ => absurd ((hon 8 (by kernel_rfl)).symm.trans h0_) (by decide), Q_X7_, Q_X8_⟩
          refine steps_cons ?_ ?_
          · rintro b a w' ⟨gz, g4, cap4, m7_, m8_, ha, Q_W0, Q_W7, Q_W8, Q_W9, Q_C3, Q_C2, Q_X7_, Q_X8_⟩ hb_ hon hoff
            refine ⟨_, rfl, fun K hK => ?_⟩
            have e63 : a.tmps[63]? = some (.pointer (some ⟨qb, 0, none⟩)) := by rw [ha]; exact putSel_on (e := (9, 63, .pointer (some ⟨qb, 0, none⟩))) 9 rfl rfl (hon 9 (by kernel_rfl)) rfl
            replace ha := Aside0.mk ha
            have W8 := Aside0.mk (Q_W8 (hon 8 (by kernel_rfl)) (hoff 11 (by kernel_rfl)))
            refine value_ (w1 := w') (v := .pointer (some ⟨qb, 3, none⟩)) (by rfl) rfl ?_ ?_
            · go_simp
              (try simp only [i64_w])
              try rfl
            refine hK.out _ _ ⟨gz, g4, cap4, m7_, m8_, (by rw [ha.out]; exact putSel_upk 10 hb_ rfl rfl rfl), fun h0_ => absurd ((hon 7 (by kernel_rfl)).symm.trans h0_) (by decide), fun _ h1_ => absurd ((hon 8 (by kernel_rfl)).symm.trans h1_) (by decide), Q_W8, fun h0_ => absurd ((hoff 11 (by kernel_rfl)).symm.trans h0_) (by decide), fun h0_ => absurd ((hon 8 (by kernel_rfl)).symm.trans h0_) (by decide), fun h0_ => absurd ((hon 8 (by kernel_rfl)).symm.trans h0_) (by decide), Q_X7_, Q_X8_⟩
          refine steps_cons ?_ ?_
          · rintro b a w' ⟨gz, g4, cap4, m7_, m8_, ha, Q_W0, Q_W7, Q_W8, Q_W9, Q_C3, Q_C2, Q_X7_, Q_X8_⟩ hb_ hon hoff
            refine ⟨_, rfl, fun K hK => ?_⟩
            have e64 : a.tmps[64]? = some (.pointer (some ⟨qb, 3, none⟩)) := by rw [ha]; exact putSel_on (e := (10, 64, .pointer (some ⟨qb, 3, none⟩))) 10 rfl rfl (hon 10 (by kernel_rfl)) rfl
            have e62 : a.tmps[62]? = some (m8_) := by rw [ha]; exact putSel_on (e := (8, 62, m8_)) 8 rfl rfl (hon 8 (by kernel_rfl)) rfl
            rw [Q_X8_ (hon 8 (by kernel_rfl))] at e62
            replace ha := Aside0.mk ha
            have W8 := Aside0.mk (Q_W8 (hon 8 (by kernel_rfl)) hb_)
            have T4 := W8.out.blk Q5.out.tp OQ.out
            have c43 : w'.cell? ⟨qb, 3, none⟩ = some (.slice vad τ.length vcap) := (blk_cell T4 3).trans rfl
            have f43 : w'.frozen? ⟨qb, 3, none⟩ = false := blk_frozen T4 3
            refine skip_ (w1 := ?_) (by rfl) rfl ?_ ?_
            rotate_left
            · go_simp
              rfl
            refine hK.out _ _ ⟨gz, g4, cap4, m7_, m8_, (by rw [ha.out]; exact putSel_none (v := undef) rfl), fun h0_ => absurd ((hon 7 (by kernel_rfl)).symm.trans h0_) (by decide), fun _ h1_ => absurd ((hon 8 (by kernel_rfl)).symm.trans h1_) (by decide), fun _ h1_ => absurd ((up_self b 11).symm.trans h1_) (by decide), fun _ => ⟨⟨w', W8.out, rfl⟩⟩, fun h0_ => absurd ((hon 8 (by kernel_rfl)).symm.trans h0_) (by decide), fun h0_ => absurd ((hon 8 (by kernel_rfl)).symm.trans h0_) (by decide), Q_X7_, Q_X8_⟩
          exact steps_nil
        rintro b a wz hall ⟨gz, g4, cap4, m7_, m8_, ha, Q_W0, Q_W7, Q_W8, Q_W9, Q_C3, Q_C2, Q_X7_, Q_X8_⟩
        clear C2 C3 W0
        have hb0_ := hall 0 (by kernel_rfl)
        have hb1_ := hall 1 (by kernel_rfl)
        have hb2_ := hall 2 (by kernel_rfl)
        have hb3_ := hall 3 (by kernel_rfl)
        have hb4_ := hall 4 (by kernel_rfl)
        have hb5_ := hall 5 (by kernel_rfl)
        have hb6_ := hall 6 (by kernel_rfl)
        have hb7_ := hall 7 (by kernel_rfl)
        have hb8_ := hall 8 (by kernel_rfl)
        have hb9_ := hall 9 (by kernel_rfl)
        have hb10_ := hall 10 (by kernel_rfl)
        have hb11_ := hall 11 (by kernel_rfl)
        subst ha
        obtain rfl := Q_X7_ hb7_
        obtain rfl := Q_X8_ hb8_
        simp only [putSel, hb0_, hb1_, hb2_, hb3_, hb4_, hb5_, hb6_, hb7_, hb8_, hb9_, hb10_, hb11_, if_true, Act.put, List.setIfInBounds_toArray, List.set_cons_zero, List.set_cons_succ]
        clear Q_W0
        clear Q_W7
        clear Q_W8
        have W9 := Aside0.mk (Q_W9 hb11_)
        clear Q_W9
        clear Q_C3
        clear Q_C2
        clear hall hb0_ hb1_ hb2_ hb3_ hb4_ hb5_ hb6_ hb7_ hb8_ hb9_ hb10_ hb11_
        obtain ⟨w4, G8_, hw4⟩ := W9.out.out
        obtain ⟨O4, G4, A4⟩ := G8_
        have T4 := Aside0.mk ((show G8 w2 B vad τ vcap xx g4 cap4 w4 from ⟨O4, G4, A4⟩).blk Q5.out.tp OQ.out)
        have T5 := Aside0.mk (blk_put T4.out 3 (.slice (some ⟨g4, 0, none⟩) (τ.length + 1) cap4) rfl)
        rw [← hw4] at T5
        have HW4 := Aside0.mk hw4
        have HOA := Aside0.mk (And.intro O4 (And.intro G4 A4))
        clear hw4 O4 G4 A4 W9
        have c52 : wz.cell? ⟨qb, 2, none⟩ = some (.int .i64 d) := (blk_cell T5.out 2).trans rfl
        have f52 : wz.frozen? ⟨qb, 2, none⟩ = false := blk_frozen T5.out 2
        go_wp2_with fail
        go_ret
        exact rfin_app (fd' := fd) F5.out hd HACT.out HNX.out R5.out Q5.out HP.out ⟨HOA.out.2.1.os, HOA.out.2.1.tape, HOA.out.2.1.output, HOA.out.2.1.size, HOA.out.2.1.block⟩ HOA.out.1 HOA.out.2.2 (blk_put T5.out 2 _ rfl) (by rw [HW4.out]; exact (((Fr.refl (fun b => b = qb) w4).setCell (p := ⟨qb, 3, none⟩) (.inl rfl) _).setCell (p := ⟨qb, 2, none⟩) (.inl rfl) _)) (.inl rfl)
end Go.Proofs.Ytmolflmljneelaa.En
/- A run made; the document's table made; words alike; the program's region and table against the document's. -/
namespace Go.Proofs.Ytmolflmljneelaa.En
open Go.RowKit Go.Proofs.YtmolflmljneelaaW.PrintWords Go.Proofs.YtmolflmljneelaaW.PrintLast Go.Proofs.YtmolflmljneelaaW.PrintMore
open Pm (Fr Rg Row thereB pendAt WFD) 
open Lk (Tbl takeR leaveR ownerV Only)
set_option linter.unusedSimpArgs false
set_option linter.unusedVariables false
theorem deed_made (W : World) (ad : Option Addr) (n cap cb : Nat) : Calls Try.prog 10 #[.slice ad n cap, .pointer (some ⟨cb, 0, none⟩)] W fun e w' => e = .returned (.func (.func 21) #[] #[.pointer (some ⟨W.heap.size, 0, none⟩), .pointer (some ⟨W.heap.size + 1, 0, none⟩)]) ∧
    w'.heap[W.heap.size]? = some (.cells #[.slice ad n cap] 39 (0, 0)) ∧ w'.heap[W.heap.size + 1]? = some (.cells #[.pointer (some ⟨cb, 0, none⟩)] 34 (0, 0)) ∧ Below W.heap.size W w' := by
  have hmf := mkfunc
  have h1 := blk_alloc (blk_new W (.cells #[.slice ad n cap] 39)) (.cells #[.pointer (some ⟨cb, 0, none⟩)] 34)
  have h2 : ((W.alloc (.cells #[.slice ad n cap] 39)).alloc (.cells #[.pointer (some ⟨cb, 0, none⟩)] 34)).heap[W.heap.size + 1]? = some (.cells #[.pointer (some ⟨cb, 0, none⟩)] 34 (0, 0)) := by simpa using blk_new (W.alloc (.cells #[.slice ad n cap] 39)) (.cells #[.pointer (some ⟨cb, 0, none⟩)] 34)
  have H := Aside0.mk (And.intro h1 h2)
  clear h1 h2
  go_enter Try.func10, Try.ntmps10
  go_wp2
  go_ret
  exact ⟨rfl, H.out.1, H.out.2, ((Below.refl _ _).alloc (Nat.le_refl _) _).alloc (by simp) _⟩
theorem env_made (W : World) (p tp gl gc : Nat) (who : Int) : Calls Try.prog 9 #[.pointer (some ⟨p, 0, none⟩), .pointer (some ⟨tp, 0, none⟩), .int .i64 who, .func (.func 21) #[] #[.pointer (some ⟨gl, 0, none⟩), .pointer (some ⟨gc, 0, none⟩)]] W fun e w' => e = .returned (.pointer (some ⟨W.heap.size + 1, 0, none⟩)) ∧
    w'.heap[W.heap.size]? = some (.cells #[.pointer (some ⟨p, 0, none⟩), .pointer (some ⟨tp, 0, none⟩), .int .i64 who, .slice none 0 0, .int .i64 0, .int .i64 0] 73 (0, 0)) ∧
    w'.heap[W.heap.size + 1]? = some (.cells #[.pointer (some ⟨W.heap.size, 0, none⟩), .func (.func 21) #[] #[.pointer (some ⟨gl, 0, none⟩), .pointer (some ⟨gc, 0, none⟩)], .bool false, .slice none 0 0] 75 (0, 0)) ∧ Below W.heap.size W w' := by
  have h1 := blk_alloc (blk_new W (.cells #[.pointer (some ⟨p, 0, none⟩), .pointer (some ⟨tp, 0, none⟩), .int .i64 who, .slice none 0 0, .int .i64 0, .int .i64 0] 73)) (.cells #[.pointer (some ⟨W.heap.size, 0, none⟩), .func (.func 21) #[] #[.pointer (some ⟨gl, 0, none⟩), .pointer (some ⟨gc, 0, none⟩)], .bool false, .slice none 0 0] 75)
  have h2 : ((W.alloc (.cells #[.pointer (some ⟨p, 0, none⟩), .pointer (some ⟨tp, 0, none⟩), .int .i64 who, .slice none 0 0, .int .i64 0, .int .i64 0] 73)).alloc (.cells #[.pointer (some ⟨W.heap.size, 0, none⟩), .func (.func 21) #[] #[.pointer (some ⟨gl, 0, none⟩), .pointer (some ⟨gc, 0, none⟩)], .bool false, .slice none 0 0] 75)).heap[W.heap.size + 1]? = some (.cells #[.pointer (some ⟨W.heap.size, 0, none⟩), .func (.func 21) #[] #[.pointer (some ⟨gl, 0, none⟩), .pointer (some ⟨gc, 0, none⟩)], .bool false, .slice none 0 0] 75 (0, 0)) := by simpa using blk_new (W.alloc (.cells #[.pointer (some ⟨p, 0, none⟩), .pointer (some ⟨tp, 0, none⟩), .int .i64 who, .slice none 0 0, .int .i64 0, .int .i64 0] 73)) (.cells #[.pointer (some ⟨W.heap.size, 0, none⟩), .func (.func 21) #[] #[.pointer (some ⟨gl, 0, none⟩), .pointer (some ⟨gc, 0, none⟩)], .bool false, .slice none 0 0] 75)
  have H := Aside0.mk (And.intro h1 h2)
  clear h1 h2
  go_enter Try.func9, Try.ntmps9
  go_wp2
  go_ret
  exact ⟨rfl, H.out.1, H.out.2, ((Below.refl _ _).alloc (Nat.le_refl _) _).alloc (by simp) _⟩
/-- A slice of words: what it reads. -/
def Reads (W : World) (v : Value) (S : List Int) : Prop := ∃ a c, v = .slice a S.length c ∧ ∀ i, i < S.length → ∃ g, a = some ⟨g, 0, none⟩ ∧ W.cell? ⟨g, i, none⟩ = some (.int .u64 (S.getD i 0))
theorem Reads.ofRow {W : World} {g N cap : Nat} {S : List Int} (h : Row W g N cap S) : Reads W (.slice (some ⟨g, 0, none⟩) N cap) S := ⟨_, cap, by rw [h.len], fun i hi => ⟨g, rfl, h.cell i (by rw [h.len] at hi; exact hi)⟩⟩
theorem Reads.ofWds {W : World} {B : Nat} {v : Value} {S : List Int} (h : Wds W B v S) : Reads W v S := by
  obtain ⟨a, c, hv⟩ := h.form
  refine ⟨a, c, hv, fun i hi => ?_⟩
  obtain ⟨g, c2, e, _, _, hc⟩ := h.some (by omega)
  rw [hv] at e
  cases e
  exact ⟨g, rfl, hc i hi⟩
set_option maxHeartbeats 1000000 in
theorem words_calls (W : World) {va vb : Value} {S : List Int} (ha : Reads W va S) (hb : Reads W vb S) (hl : S.length ≤ 1000) : Calls Try.prog 16 #[va, vb] W fun e w' => e = .returned (.bool true) ∧ Below W.heap.size W w' := by
  obtain ⟨a, ca, rfl, ha⟩ := ha
  obtain ⟨b, cb, rfl, hb⟩ := hb
  have HA := Aside0.mk ha
  have HB := Aside0.mk hb
  clear ha hb
  go_enter Try.func16, Try.ntmps16
  go_wp2_with fail
  go_loopw [5] (fun iv wr => ∃ k : Nat, k ≤ S.length ∧ iv = .int .i64 k ∧ Aside0 (Below W.heap.size W wr)) (fun iv _ => S.length - (intOf iv).toNat)
  case atStart => exact ⟨0, by omega, rfl, Aside0.mk (Below.refl _ _)⟩
  case round =>
    obtain ⟨k, hk, rfl, HBB⟩ := hrel
    by_cases hlt : k < S.length
    · obtain ⟨g1, e1, c1⟩ := HA.out k hlt
      obtain ⟨g2, e2, c2⟩ := HB.out k hlt
      cases e1
      cases e2
      have hd : decide ((k : Int) < (S.length : Int)) = true := decide_eq_true (by omega)
      have hi0 : (0 : Int) ≤ (k : Int) := by omega
      have hi1 : (k : Int) < (S.length : Int) := by omega
      have d1 : wr.cell? ⟨g1, k, none⟩ = some (.int .u64 (S.getD k 0)) := (HBB.out.cell (p := ⟨g1, k, none⟩) (World.block_lt_of_cell? W _ c1)).trans c1
      have d2 : wr.cell? ⟨g2, k, none⟩ = some (.int .u64 (S.getD k 0)) := (HBB.out.cell (p := ⟨g2, k, none⟩) (World.block_lt_of_cell? W _ c2)).trans c2
      clear c1 c2
      generalize S.getD k 0 = yk at d1 d2
      go_wp2_with fail
      go_quiet (fail)
      go_wp2_with fail
      refine ⟨⟨k + 1, by omega, by push_cast; rfl, Aside0.mk (pw_below_drewN HBB.out _)⟩, ?_⟩
      exact step_lt k _ hlt
    · obtain rfl : k = S.length := by omega
      have hd : decide ((S.length : Int) < (S.length : Int)) = false := decide_eq_false (by omega)
      go_wp2_with fail
      go_ret
      exact ⟨rfl, HBB.out⟩
theorem seen_calls (W : World) {p gs gk bm N cs ck n : Nat} {S K : List Int} {D : DataW Unit} (h : Rg W p gs gk bm N cs ck n S K D) (hN : 0 < N) (hN2 : N ≤ 64) : Calls Try.prog 36 #[.pointer (some ⟨p, 0, none⟩)] W fun e w' => ∃ b cap, e = .returned (.slice (some ⟨b, 0, none⟩) N cap) ∧ W.heap.size ≤ b ∧ Row w' b N cap S ∧ Below W.heap.size W w' := by
  obtain ⟨st, hp⟩ := h.tp
  have hu := Try.underlying86
  have h0 : W.cell? ⟨p, 0, none⟩ = some (.slice (some ⟨gs, 0, none⟩) N cs) := (blk_cell hp 0).trans rfl
  have HR := Aside0.mk h
  clear h hp
  go_enter Try.func36, Try.ntmps36
  go_wp2_with (go_at_call 39; refine (Pm.clone_calls _ HR.out.rs hN hN2).mono ?_; rintro e w1 ⟨b, cap, rfl, hbb, hRow, hB⟩; have HB := Aside0.mk (And.intro hbb (And.intro hRow hB)); clear hbb hRow hB)
  go_ret
  exact ⟨b, cap, rfl, HB.out⟩
theorem kept_calls (W : World) {p gs gk bm N cs ck n : Nat} {S K : List Int} {D : DataW Unit} (h : Rg W p gs gk bm N cs ck n S K D) (hN : 0 < N) (hN2 : N ≤ 64) : Calls Try.prog 37 #[.pointer (some ⟨p, 0, none⟩)] W fun e w' => ∃ b cap, e = .returned (.slice (some ⟨b, 0, none⟩) N cap) ∧ W.heap.size ≤ b ∧ Row w' b N cap K ∧ Below W.heap.size W w' := by
  obtain ⟨st, hp⟩ := h.tp
  have hu := Try.underlying86
  have h0 : W.cell? ⟨p, 1, none⟩ = some (.slice (some ⟨gk, 0, none⟩) N ck) := (blk_cell hp 1).trans rfl
  have HR := Aside0.mk h
  clear h hp
  go_enter Try.func37, Try.ntmps37
  go_wp2_with (go_at_call 39; refine (Pm.clone_calls _ HR.out.rk hN hN2).mono ?_; rintro e w1 ⟨b, cap, rfl, hbb, hRow, hB⟩; have HB := Aside0.mk (And.intro hbb (And.intro hRow hB)); clear hbb hRow hB)
  go_ret
  exact ⟨b, cap, rfl, HB.out⟩
end Go.Proofs.Ytmolflmljneelaa.En
/- The document's table made; the program's region and table held against the document's; a step of the document's run. -/
namespace Go.Proofs.Ytmolflmljneelaa.En
open Go.RowKit Go.Proofs.YtmolflmljneelaaW.PrintWords Go.Proofs.YtmolflmljneelaaW.PrintLast Go.Proofs.YtmolflmljneelaaW.PrintMore
open Pm (Fr Rg Row thereB pendAt WFD) 
open Lk (Tbl takeR leaveR ownerV Only)
set_option linter.unusedSimpArgs false
set_option linter.unusedVariables false
theorem rstep_calls (W : World) {X : Nat → Prop} {r : RLoc} {fd B qb n cap d : Nat} {ad : Option Addr} {who : Int} {A : Nat → AskN} {wv : Value} {τ : List Int} {s : SS} (hQ : Ru W B qb ad n cap who d wv τ) (hR : RSh W r fd s) (hP : RApt r wv) (hd : d ≤ n) (hn : n ≤ 40) (hτ : τ.length ≤ 40) (hB : B ≤ W.heap.size) (hA : AskM W X ad n A) (hXq : X qb) :
    Calls Try.prog 12 #[.pointer (some ⟨qb, 0, none⟩), .pointer (some ⟨r.fp, 0, none⟩), .pointer (some ⟨r.up, 0, none⟩)] W (RStepO W r fd B qb ad n cap who A d wv τ s) := by
  by_cases h : d = n
  · exact rstep_over W hQ hR h
  · exact rstep_in W hQ hR hP (by omega) hn hτ hB hA hXq
theorem made58 : ∀ w : World, (Instr.makeSlice 58 (.int .i64 2) (.int .i64 2)).run Try.prog w = .ok (.slice (some ⟨w.heap.size, 0, none⟩) 2 2) (w.alloc (.cells #[.int .i64 0, .int .i64 0] 3)) := fun _ => by kernel_rfl
def cell2 (i : Nat) (j : Nat) : Value := if j < i then .int .i64 (-1) else .int .i64 0
set_option maxHeartbeats 1000000 in
theorem rnew_calls (W : World) : Calls Try.prog 8 #[.int .i64 2] W fun e w' => e = .returned (.pointer (some ⟨W.heap.size + 1, 0, none⟩)) ∧ w'.heap[W.heap.size + 1]? = some (.cells #[.slice (some ⟨W.heap.size, 0, none⟩) 2 2, .int .i64 0] 70 (0, 0)) ∧ w'.heap[W.heap.size]? = some (.cells #[.int .i64 (-1), .int .i64 (-1)] 3 (0, 0)) ∧ Below W.heap.size W w' := by
  have hmk := made58
  have hu := Try.underlying70
  have h1 := blk_alloc (blk_new W (.cells #[.int .i64 0, .int .i64 0] 3)) (.cells #[.slice (some ⟨W.heap.size, 0, none⟩) 2 2, .int .i64 0] 70)
  have h2 : ((W.alloc (.cells #[.int .i64 0, .int .i64 0] 3)).alloc (.cells #[.slice (some ⟨W.heap.size, 0, none⟩) 2 2, .int .i64 0] 70)).heap[W.heap.size + 1]? = some (.cells #[.slice (some ⟨W.heap.size, 0, none⟩) 2 2, .int .i64 0] 70 (0, 0)) := by simpa using blk_new (W.alloc (.cells #[.int .i64 0, .int .i64 0] 3)) (.cells #[.slice (some ⟨W.heap.size, 0, none⟩) 2 2, .int .i64 0] 70)
  have hb : Below W.heap.size W ((W.alloc (.cells #[.int .i64 0, .int .i64 0] 3)).alloc (.cells #[.slice (some ⟨W.heap.size, 0, none⟩) 2 2, .int .i64 0] 70)) := ((Below.refl _ _).alloc (Nat.le_refl _) _).alloc (by simp) _
  have H1 := Aside0.mk h1
  have H2 := Aside0.mk h2
  have HB := Aside0.mk hb
  clear h1 h2 hb
  go_enter Try.func8, Try.ntmps8
  go_upto_region 2 with fail
  obtain ⟨g, hg⟩ : ∃ g, W.heap.size = g := ⟨_, rfl⟩
  generalize hw1 : (W.alloc (.cells #[.int .i64 0, .int .i64 0] 3)).alloc (.cells #[.slice (some ⟨W.heap.size, 0, none⟩) 2 2, .int .i64 0] 70) = W1 at H1 H2 HB ⊢
  rw [hg] at H1 H2 HB ⊢
  have HG0 := Aside0.mk hg
  clear hw1 hg
  go_wp2_with fail
  go_loopw [4] (fun iv wr => ∃ k : Nat, k ≤ 2 ∧ iv = .int .i64 k ∧ Aside0 (Below g W wr) ∧ Aside0 (wr.heap[g + 1]? = some (.cells #[.slice (some ⟨g, 0, none⟩) 2 2, .int .i64 0] 70 (0, 0))) ∧ Aside0 (wr.heap[g]? = some (.cells #[cell2 k 0, cell2 k 1] 3 (0, 0)))) (fun iv _ => 2 - (intOf iv).toNat)
  case atStart => exact ⟨0, by omega, rfl, HB, H2, H1⟩
  case round =>
    clear H1 H2 HB
    obtain ⟨k, hk, rfl, HB, H2, H1⟩ := hrel
    have c0 : wr.cell? ⟨g + 1, 0, none⟩ = some (.slice (some ⟨g, 0, none⟩) 2 2) := (blk_cell H2.out 0).trans rfl
    rcases (by omega : k = 0 ∨ k = 1 ∨ k = 2) with rfl | rfl | rfl
    · have c1 : wr.cell? ⟨g, 0, none⟩ = some (.int .i64 0) := (blk_cell H1.out 0).trans rfl
      have f1 : wr.frozen? ⟨g, 0, none⟩ = false := blk_frozen H1.out 0
      go_wp2_with fail
      refine ⟨⟨1, by omega, rfl, Aside0.mk (HB.out.setCell (p := ⟨g, 0, none⟩) (Nat.le_refl _) _), Aside0.mk (blk_far H2.out (by simp) _), Aside0.mk (blk_put H1.out 0 _ rfl)⟩, ?_⟩
      decide
    · have c1 : wr.cell? ⟨g, 1, none⟩ = some (.int .i64 0) := (blk_cell H1.out 1).trans rfl
      have f1 : wr.frozen? ⟨g, 1, none⟩ = false := blk_frozen H1.out 1
      go_wp2_with fail
      refine ⟨⟨2, by omega, rfl, Aside0.mk (HB.out.setCell (p := ⟨g, 1, none⟩) (Nat.le_refl _) _), Aside0.mk (blk_far H2.out (by simp) _), Aside0.mk (blk_put H1.out 1 _ rfl)⟩, ?_⟩
      decide
    · go_wp2_with fail
      go_ret
      have hg := HG0.out
      subst hg
      exact ⟨rfl, H2.out, H1.out, HB.out⟩
set_option maxHeartbeats 4000000 in
set_option maxRecDepth 100000 in
theorem same_calls (W : World) {l : Loc} {r : RLoc} {fd : Nat} {s : SS} (hS : Sh W l s) (hR : RSh W r fd s) (hN : l.N = 16) (hL : s.L.length ≤ 1000) :
    Calls Try.prog 14 #[.pointer (some ⟨l.p, 0, none⟩), .pointer (some ⟨l.tp, 0, none⟩), .pointer (some ⟨r.fp, 0, none⟩), .pointer (some ⟨r.up, 0, none⟩)] W fun e w' => e = .returned (.bool true) ∧ Below W.heap.size W w' := by
  obtain ⟨D, hG, hD, hP⟩ := hS.rg
  rw [hN] at hG
  obtain ⟨cd, M, P, hF, hPP, hT⟩ := hR
  obtain ⟨st, fp⟩ := hF.tp
  obtain ⟨kt, up⟩ := hT.tp
  have c0 : W.cell? ⟨r.fp, 0, none⟩ = some (.slice (some ⟨r.fs, 0, none⟩) 16 r.cs) := (blk_cell fp 0).trans rfl
  have c1 : W.cell? ⟨r.fp, 1, none⟩ = some (.slice (some ⟨r.fk, 0, none⟩) 16 r.ck) := (blk_cell fp 1).trans rfl
  have hu := Try.underlying68
  have hu2 := Try.underlying70
  have HG := Aside0.mk hG
  have HF := Aside0.mk hF
  have HT := Aside0.mk hT
  have HTB := Aside0.mk hS.tb
  have FP := Aside0.mk fp
  have UP := Aside0.mk up
  have HOWN := Aside0.mk hT.own
  clear hS hG hD hP hF hPP hT fp up hN
  go_enter Try.func14, Try.ntmps14
  go_wp2_with fail
  go_region_held3 (fun w' => w'.cell? ⟨r.fp, 0, none⟩ = some (.slice (some ⟨r.fs, 0, none⟩) 16 r.cs) ∧ w'.cell? ⟨r.fp, 1, none⟩ = some (.slice (some ⟨r.fk, 0, none⟩) 16 r.ck)) (go_keep)
    ((first
      | (go_at_call 36; refine (seen_calls _ (HG.out.below (Below.refl _ _).drew) (by omega) (by omega)).mono ?_; rintro e w1 ⟨b1, k1, rfl, hb1, hr1, hB1⟩; have R1 := Aside0.mk hr1; have B1 := Aside0.mk (below_undrew hB1); clear hb1 hr1 hB1; have d0 : w1.cell? ⟨r.fp, 0, none⟩ = some (.slice (some ⟨r.fs, 0, none⟩) 16 r.cs) := (blk_cell (blk_below FP.out B1.out) 0).trans rfl; have d1 : w1.cell? ⟨r.fp, 1, none⟩ = some (.slice (some ⟨r.fk, 0, none⟩) 16 r.ck) := (blk_cell (blk_below FP.out B1.out) 1).trans rfl)
      | (go_at_call 37; refine (kept_calls _ (HG.out.below B2.out) (by omega) (by omega)).mono ?_; rintro e w3 ⟨b3, k3, rfl, hb3, hr3, hB3⟩; have R3 := Aside0.mk hr3; have B3 := Aside0.mk (B2.out.trans (hB3.mono B2.out.size)); clear hb3 hr3 hB3; have i0 : w3.cell? ⟨r.fp, 0, none⟩ = some (.slice (some ⟨r.fs, 0, none⟩) 16 r.cs) := (blk_cell (blk_below FP.out B3.out) 0).trans rfl; have i1 : w3.cell? ⟨r.fp, 1, none⟩ = some (.slice (some ⟨r.fk, 0, none⟩) 16 r.ck) := (blk_cell (blk_below FP.out B3.out) 1).trans rfl)
      | (go_at_call 16; refine (words_calls w3 (Reads.ofRow R3.out) (Reads.ofRow (HF.out.rk.below B3.out)) (by rw [HF.out.rk.len]; omega)).mono ?_; rintro e w4 ⟨rfl, hB4⟩; have B4 := Aside0.mk (B3.out.trans (hB4.mono B3.out.size)); clear hB4; have j0 : w4.cell? ⟨r.fp, 0, none⟩ = some (.slice (some ⟨r.fs, 0, none⟩) 16 r.cs) := (blk_cell (blk_below FP.out B4.out) 0).trans rfl; have j1 : w4.cell? ⟨r.fp, 1, none⟩ = some (.slice (some ⟨r.fk, 0, none⟩) 16 r.ck) := (blk_cell (blk_below FP.out B4.out) 1).trans rfl)
      | (go_at_call 16; refine (words_calls w1 (Reads.ofRow R1.out) (Reads.ofRow (HF.out.rs.below B1.out)) (by rw [HF.out.rs.len]; omega)).mono ?_; rintro e w2 ⟨rfl, hB2⟩; have B2 := Aside0.mk (B1.out.trans (hB2.mono B1.out.size)); clear hB2; have e0 : w2.cell? ⟨r.fp, 0, none⟩ = some (.slice (some ⟨r.fs, 0, none⟩) 16 r.cs) := (blk_cell (blk_below FP.out B2.out) 0).trans rfl; have e1 : w2.cell? ⟨r.fp, 1, none⟩ = some (.slice (some ⟨r.fk, 0, none⟩) 16 r.ck) := (blk_cell (blk_below FP.out B2.out) 1).trans rfl)))
  go_wp2_with fail
  go_loopw [9] (fun iv wr => ∃ k : Nat, k ≤ s.L.length ∧ iv = .int .i64 k ∧ Aside0 (Below W.heap.size W wr)) (fun iv _ => s.L.length - (intOf iv).toNat)
  case atStart => exact ⟨0, by omega, rfl, B4⟩
  case round =>
    clear B4
    obtain ⟨k, hk, rfl, BB⟩ := hrel
    have u0 : wr.cell? ⟨r.up, 0, none⟩ = some (.slice (some ⟨r.ug, 0, none⟩) s.L.length s.L.length) := (blk_cell (blk_below UP.out BB.out) 0).trans rfl
    by_cases hlt : k < s.L.length
    · have hd : decide ((k : Int) < (s.L.length : Int)) = true := decide_eq_true (by omega)
      have hi0 : (0 : Int) ≤ (k : Int) := by omega
      have hi1 : (k : Int) < (s.L.length : Int) := by omega
      have uk : wr.cell? ⟨r.ug, k, none⟩ = some (.int .i64 (s.L.getD k 0)) := (BB.out.cell (p := ⟨r.ug, k, none⟩) (blk_lt HT.out.tg)).trans (HT.out.cell k hlt)
      have how : ownerV s.L k = s.L.getD k 0 := by unfold ownerV; rw [if_pos ⟨hi0, hi1⟩, Int.toNat_natCast]
      have HOW := Aside0.mk how
      obtain ⟨yk, hyk⟩ : ∃ yk, s.L.getD k 0 = yk := ⟨_, rfl⟩
      rw [hyk] at uk HOW
      clear hyk how
      go_wp2_with fail
      go_region_held3 (fun w' => w'.cell? ⟨r.up, 0, none⟩ = some (.slice (some ⟨r.ug, 0, none⟩) s.L.length s.L.length) ∧ w'.cell? ⟨r.ug, k, none⟩ = some (.int .i64 yk)) (go_keep)
        ((go_at_call 38; refine (Lk.owner_calls _ _ _ _ (HTB.out.below ((BB.out.drew))) k).mono ?_; rw [HOW.out]; rintro e w5 ⟨rfl, n5, hw5⟩; have B5 := Aside0.mk (show Below W.heap.size W w5 from by rw [hw5]; exact pw_below_drewN BB.out.drew n5); have v0 : w5.cell? ⟨r.up, 0, none⟩ = some (.slice (some ⟨r.ug, 0, none⟩) s.L.length s.L.length) := (blk_cell (blk_below UP.out B5.out) 0).trans rfl; have vk : w5.cell? ⟨r.ug, k, none⟩ = some (.int .i64 yk) := (by rw [hw5]; exact uk); clear hw5))
      go_wp2_with fail
      refine ⟨⟨k + 1, by omega, by push_cast; rfl, B5⟩, ?_⟩
      exact step_lt k _ hlt
    · obtain rfl : k = s.L.length := by omega
      have hd : decide ((s.L.length : Int) < (s.L.length : Int)) = false := decide_eq_false (by omega)
      go_wp2_with fail
      go_ret
      exact ⟨rfl, BB.out⟩
end Go.Proofs.Ytmolflmljneelaa.En
/- The state between steps: several runs, the document's runs, what they share; a step of either side keeps it. -/
namespace Go.Proofs.Ytmolflmljneelaa.En
open Go.RowKit Go.Proofs.YtmolflmljneelaaW.PrintWords Go.Proofs.YtmolflmljneelaaW.PrintLast Go.Proofs.YtmolflmljneelaaW.PrintMore
open Pm (Fr Rg Row thereB pendAt WFD) 
open Lk (Tbl takeR leaveR ownerV Only)
set_option linter.unusedSimpArgs false
set_option linter.unusedVariables false
/-- A run's places (never turned). -/
structure Sr where
  (rb eb gl gc qb : Nat)
  ad : Option Addr
  (n cap : Nat)
  A : Nat → AskN
/-- What turns of it: the program's side. -/
structure Dr where
  v : Value
  T : List Int
  over : Bool
  av : Value
  U : List Int
/-- The document's side. -/
structure Qr where
  d : Nat
  wv : Value
  τ : List Int
def upd {α : Type} (f : Nat → α) (k : Nat) (x : α) (i : Nat) : α := if i = k then x else f i
theorem upd_same {α : Type} (f : Nat → α) (k : Nat) (x : α) : upd f k x k = x := if_pos rfl
theorem upd_ne {α : Type} (f : Nat → α) (k : Nat) (x : α) {i : Nat} (h : i ≠ k) : upd f k x i = f i := if_neg h
/-- Blocks of like types. -/
inductive Ix
  | gs | gk | fs | fk | fn | tg | ug
  | v (i : Nat) | a (i : Nat) | w (i : Nat) | rb (i : Nat) | eb (i : Nat) | qb (i : Nat)
  deriving DecidableEq
def Ix.ok (m : Nat) : Ix → Prop
  | .v i => i < m
  | .a i => i < m
  | .w i => i < m
  | .rb i => i < m
  | .eb i => i < m
  | .qb i => i < m
  | _ => True
def own (l : Loc) (r : RLoc) (S : Nat → Sr) (R : Nat → Dr) (Q : Nat → Qr) : Ix → Option Nat
  | .gs => some l.gs
  | .gk => some l.gk
  | .fs => some r.fs
  | .fk => some r.fk
  | .fn => some r.fn
  | .tg => some l.tg
  | .ug => some r.ug
  | .v i => (R i).v.ownBlock
  | .a i => (R i).av.ownBlock
  | .w i => (Q i).wv.ownBlock
  | .rb i => some (S i).rb
  | .eb i => some (S i).eb
  | .qb i => some (S i).qb
def Sep (m : Nat) (o : Ix → Option Nat) : Prop := ∀ x y g, x.ok m → y.ok m → o x = some g → o y = some g → x = y
theorem sep_upd {m : Nat} {o o' : Ix → Option Nat} (h : Sep m o) (x0 : Ix) (heq : ∀ x, x ≠ x0 → o' x = o x) (hx : o' x0 = o x0 ∨ ∀ y g, y ≠ x0 → y.ok m → o y = some g → o' x0 ≠ some g) : Sep m o' := by
  intro x y g hx1 hy1 h1 h2
  by_cases e1 : x = x0
  · by_cases e2 : y = x0
    · rw [e1, e2]
    · rw [heq y e2] at h2
      subst e1
      rcases hx with hx | hx
      · rw [hx] at h1
        exact h x y g hx1 hy1 h1 h2
      · exact absurd h1 (hx y g e2 hy1 h2)
  · by_cases e2 : y = x0
    · rw [heq x e1] at h1
      subst e2
      rcases hx with hx | hx
      · rw [hx] at h2
        exact h x y g hx1 hy1 h1 h2
      · exact absurd h2 (hx x g e1 hx1 h1)
    · rw [heq x e1] at h1
      rw [heq y e2] at h2
      exact h x y g hx1 hy1 h1 h2
structure LS (W : World) (B : Nat) (l : Loc) (r : RLoc) (fd m : Nat) (S : Nat → Sr) (R : Nat → Dr) (Q : Nat → Qr) (s sr : SS) : Prop where
  sh : Sh W l s
  rsh : RSh W r fd sr
  run : ∀ i, i < m → RunI W l B (S i).rb (S i).eb (S i).gl (S i).gc (S i).ad (S i).n (S i).cap i (S i).A (R i).v (R i).T (R i).over (R i).av (R i).U
  ref : ∀ i, i < m → Ru W B (S i).qb (S i).ad (S i).n (S i).cap i (Q i).d (Q i).wv (Q i).τ
  sep : Sep m (own l r S R Q)
  lowL : ∀ b, l.X b → B ≤ b
  lowR : ∀ b, (r.FX fd b ∨ r.UX b) → B ≤ b
  lowI : ∀ i, i < m → B ≤ (S i).rb ∧ B ≤ (S i).eb ∧ B ≤ (S i).qb
  asks : ∀ i, i < m → AskM W (fun b => B ≤ b) (S i).ad (S i).n (S i).A ∧ (S i).n ≤ 40
  base : B ≤ W.heap.size
theorem Sh.apart3 {W : World} {l : Loc} {s : SS} (h : Sh W l s) {b : Nat} {c : Array Value} (hb : W.heap[b]? = some (.cells c 3 (0, 0))) (h1 : b ≠ l.tg) : ¬ l.X b := by
  obtain ⟨D, r1, _⟩ := h.rg
  obtain ⟨st, a1⟩ := r1.tp
  obtain ⟨_, a2, _⟩ := r1.rs.cur
  obtain ⟨_, a3, _⟩ := r1.rk.cur
  obtain ⟨k, hk⟩ := h.tb.tp
  rintro (e | e | e | e | e | e | e)
  · exact type_ne hb a1 (by decide) e
  · exact type_ne hb a2 (by decide) e
  · exact type_ne hb a3 (by decide) e
  · exact map_ne hb r1.mp e
  · exact type_ne hb hk (by decide) e
  · exact h1 e
  · exact type_ne hb h.cn (by decide) e
theorem RunI.fr {X : Nat → Prop} {W W' : World} {l : Loc} {B rb eb gl gc n cap : Nat} {ad : Option Addr} {who : Int} {A : Nat → AskN} {v av : Value} {T U : List Int} {over : Bool} (h : RunI W l B rb eb gl gc ad n cap who A v T over av U) (hf : Fr X W W') (h1 : ¬ X rb) (h2 : ¬ X eb) (h3 : ¬ X gl) (h4 : ¬ X gc) (h5 : ∀ g, v.ownBlock = some g → ¬ X g) (h6 : ∀ g, av.ownBlock = some g → ¬ X g) : RunI W' l B rb eb gl gc ad n cap who A v T over av U :=
  ⟨⟨hf.keeps h.rn.tp h1, hf.keeps h.rn.dl h3, hf.keeps h.rn.dc h4, h.rn.en.imp fun i h => h.imp fun j h => h.fr hf h2 h5, h.rn.aw.fr hf h6⟩, h.le, h.yes, h.no, h.two⟩
section
variable {W : World} {B : Nat} {l : Loc} {r : RLoc} {fd m : Nat} {S : Nat → Sr} {R : Nat → Dr} {Q : Nat → Qr} {s sr : SS}
theorem LS.vblk (h : LS W B l r fd m S R Q s sr) {i : Nat} (hi : i < m) {g : Nat} (hg : (R i).v.ownBlock = some g) : ∃ c, W.heap[g]? = some (.cells c 49 (0, 0)) := by
  obtain ⟨j, k, hE⟩ := (h.run i hi).rn.en
  exact (hE.own.lt hg).2.2
theorem LS.ablk (h : LS W B l r fd m S R Q s sr) {i : Nat} (hi : i < m) {g : Nat} (hg : (R i).av.ownBlock = some g) : ∃ c, W.heap[g]? = some (.cells c 49 (0, 0)) := ((h.run i hi).rn.aw.lt hg).2.2
theorem LS.wblk (h : LS W B l r fd m S R Q s sr) {i : Nat} (hi : i < m) {g : Nat} (hg : (Q i).wv.ownBlock = some g) : ∃ c, W.heap[g]? = some (.cells c 49 (0, 0)) := ((h.ref i hi).own.lt hg).2.2
theorem LS.eblk (h : LS W B l r fd m S R Q s sr) {i : Nat} (hi : i < m) : ∃ c, W.heap[(S i).eb]? = some (.cells c 73 (0, 0)) := by
  obtain ⟨j, k, hE⟩ := (h.run i hi).rn.en
  exact ⟨_, hE.tp⟩
theorem LS.lt (h : LS W B l r fd m S R Q s sr) : ∀ x g, x.ok m → own l r S R Q x = some g → g < W.heap.size := by
  intro x g hx hg
  have hs := h.sh.size
  have hr := h.rsh.lt
  cases x with
  | gs => cases hg; exact hs _ (.inr (.inl rfl))
  | gk => cases hg; exact hs _ (.inr (.inr (.inl rfl)))
  | fs => cases hg; exact hr _ (.inl (.inr (.inl rfl)))
  | fk => cases hg; exact hr _ (.inl (.inr (.inr (.inl rfl))))
  | fn => cases hg; exact hr _ (.inl (.inr (.inr (.inr (.inl rfl)))))
  | tg => cases hg; exact hs _ (.inr (.inr (.inr (.inr (.inr (.inl rfl))))))
  | ug => cases hg; exact hr _ (.inr (.inr rfl))
  | v i => obtain ⟨c, hc⟩ := h.vblk hx hg; exact blk_lt hc
  | a i => obtain ⟨c, hc⟩ := h.ablk hx hg; exact blk_lt hc
  | w i => obtain ⟨c, hc⟩ := h.wblk hx hg; exact blk_lt hc
  | rb i => cases hg; exact blk_lt (h.run i hx).rn.tp
  | eb i => cases hg; obtain ⟨c, hc⟩ := h.eblk hx; exact blk_lt hc
  | qb i => cases hg; exact blk_lt (h.ref i hx).tp
/-- A row of words that is none of k's and of the region's. -/
theorem LS.farA49 (h : LS W B l r fd m S R Q s sr) {k : Nat} (hk : k < m) (x : Ix) (hx : x.ok m) {g : Nat} {c : Array Value} (hg : own l r S R Q x = some g) (hc : W.heap[g]? = some (.cells c 49 (0, 0))) (h1 : x ≠ .gs) (h2 : x ≠ .gk) (h3 : x ≠ .v k) : ¬ RnX l (S k).eb (R k).v (S k).rb g := by
  obtain ⟨_, he⟩ := h.eblk hk
  rintro ((e | e | e) | e)
  · exact h.sh.apart49 hc (fun e2 => h1 (h.sep x .gs g hx trivial hg (by rw [e2]; rfl))) (fun e2 => h2 (h.sep x .gk g hx trivial hg (by rw [e2]; rfl))) e
  · exact type_ne hc he (by decide) e
  · exact h3 (h.sep x (.v k) g hx hk hg e)
  · exact type_ne hc (h.run k hk).rn.tp (by decide) e
theorem LS.farA (h : LS W B l r fd m S R Q s sr) {k : Nat} (hk : k < m) {g : Nat} {c : Array Value} {t : Nat} (hc : W.heap[g]? = some (.cells c t (0, 0))) (h1 : t ≠ 86) (h2 : t ≠ 49) (h3 : t ≠ 65) (h4 : t ≠ 3) (h5 : t ≠ 36) (h6 : t ≠ 73) (h7 : t ≠ 75) : ¬ RnX l (S k).eb (R k).v (S k).rb g := by
  obtain ⟨_, he⟩ := h.eblk hk
  rintro ((e | e | e) | e)
  · exact h.sh.apart hc h1 h2 h3 h4 h5 e
  · exact type_ne hc he h6 e
  · obtain ⟨_, hv⟩ := h.vblk hk e
    exact type_ne hc hv h2 rfl
  · exact type_ne hc (h.run k hk).rn.tp h7 e
theorem LS.farB49 (h : LS W B l r fd m S R Q s sr) {k : Nat} (hk : k < m) (x : Ix) (hx : x.ok m) {g : Nat} {c : Array Value} (hg : own l r S R Q x = some g) (hc : W.heap[g]? = some (.cells c 49 (0, 0))) (h1 : x ≠ .fs) (h2 : x ≠ .fk) (h3 : x ≠ .fn) (h4 : x ≠ .w k) : ¬ RqX r fd (S k).qb (Q k).wv g := by
  have ap := h.rsh.apart49 hc ⟨fun e2 => h1 (h.sep x .fs g hx trivial hg (by rw [e2]; rfl)), fun e2 => h2 (h.sep x .fk g hx trivial hg (by rw [e2]; rfl)), fun e2 => h3 (h.sep x .fn g hx trivial hg (by rw [e2]; rfl))⟩
  rintro (e | e | e | e)
  · exact ap (.inl e)
  · exact ap (.inr e)
  · exact type_ne hc (h.ref k hk).tp (by decide) e
  · exact h4 (h.sep x (.w k) g hx hk hg e)
theorem LS.farB (h : LS W B l r fd m S R Q s sr) {k : Nat} (hk : k < m) {g : Nat} {c : Array Value} {t : Nat} (hc : W.heap[g]? = some (.cells c t (0, 0))) (h1 : t ≠ 68) (h2 : t ≠ 49) (h3 : t ≠ 4) (h4 : t ≠ 70) (h5 : t ≠ 3) (h6 : t ≠ 46) : ¬ RqX r fd (S k).qb (Q k).wv g := by
  have ap := h.rsh.apart hc h1 h2 h3 h4 h5
  rintro (e | e | e | e)
  · exact ap (.inl e)
  · exact ap (.inr e)
  · exact type_ne hc (h.ref k hk).tp h6 e
  · obtain ⟨_, hv⟩ := h.wblk hk e
    exact type_ne hc hv h2 rfl
/-- The document's side, behind a step of the program's. -/
theorem LS.keepR (h : LS W B l r fd m S R Q s sr) {k : Nat} (hk : k < m) : ∀ b, (r.FX fd b ∨ r.UX b) → ¬ RnX l (S k).eb (R k).v (S k).rb b := by
  obtain ⟨cd, M, P, g1, g2, g3⟩ := h.rsh
  obtain ⟨st, a1⟩ := g1.tp
  obtain ⟨_, a2⟩ := g1.rs.blk
  obtain ⟨_, a3⟩ := g1.rk.blk
  obtain ⟨_, a4⟩ := g1.rm.blk
  obtain ⟨_, a5⟩ := g1.rp.blk
  obtain ⟨_, a6⟩ := g3.tp
  rintro b ((rfl | rfl | rfl | rfl | rfl) | (rfl | rfl))
  · exact h.farA hk a1 (by decide) (by decide) (by decide) (by decide) (by decide) (by decide) (by decide)
  · exact h.farA49 hk .fs trivial rfl a2 (by simp) (by simp) (by simp)
  · exact h.farA49 hk .fk trivial rfl a3 (by simp) (by simp) (by simp)
  · exact h.farA49 hk .fn trivial rfl a4 (by simp) (by simp) (by simp)
  · exact h.farA hk a5 (by decide) (by decide) (by decide) (by decide) (by decide) (by decide) (by decide)
  · exact h.farA hk a6 (by decide) (by decide) (by decide) (by decide) (by decide) (by decide) (by decide)
  · obtain ⟨_, he⟩ := h.eblk hk
    rintro ((e | e | e) | e)
    · exact h.sh.apart3 g3.tg (fun e2 => by have := h.sep .ug .tg r.ug trivial trivial rfl (by rw [e2]; rfl); cases this) e
    · exact type_ne g3.tg he (by decide) e
    · obtain ⟨_, hv⟩ := h.vblk hk e
      exact type_ne g3.tg hv (by decide) rfl
    · exact type_ne g3.tg (h.run k hk).rn.tp (by decide) e
/-- The program's shared things, behind a step of the document's. -/
theorem LS.keepL (h : LS W B l r fd m S R Q s sr) {k : Nat} (hk : k < m) : ∀ b, RqX r fd (S k).qb (Q k).wv b → ¬ l.X b := by
  obtain ⟨cd, M, P, g1, g2, g3⟩ := h.rsh
  obtain ⟨st, a1⟩ := g1.tp
  obtain ⟨_, a2⟩ := g1.rs.blk
  obtain ⟨_, a3⟩ := g1.rk.blk
  obtain ⟨_, a4⟩ := g1.rm.blk
  obtain ⟨_, a5⟩ := g1.rp.blk
  obtain ⟨_, a6⟩ := g3.tp
  have sp : ∀ x, x.ok m → x ≠ .gs → x ≠ .gk → ∀ g, own l r S R Q x = some g → g ≠ l.gs ∧ g ≠ l.gk := fun x hx h1 h2 g hg => ⟨fun e => h1 (h.sep x .gs g hx trivial hg (by rw [e]; rfl)), fun e => h2 (h.sep x .gk g hx trivial hg (by rw [e]; rfl))⟩
  rintro b ((rfl | rfl | rfl | rfl | rfl) | (rfl | rfl) | rfl | hw)
  · exact h.sh.apart a1 (by decide) (by decide) (by decide) (by decide) (by decide)
  · have := sp .fs trivial (by simp) (by simp) _ rfl
    exact h.sh.apart49 a2 this.1 this.2
  · have := sp .fk trivial (by simp) (by simp) _ rfl
    exact h.sh.apart49 a3 this.1 this.2
  · have := sp .fn trivial (by simp) (by simp) _ rfl
    exact h.sh.apart49 a4 this.1 this.2
  · exact h.sh.apart a5 (by decide) (by decide) (by decide) (by decide) (by decide)
  · exact h.sh.apart a6 (by decide) (by decide) (by decide) (by decide) (by decide)
  · exact h.sh.apart3 g3.tg (fun e2 => by have := h.sep .ug .tg r.ug trivial trivial rfl (by rw [e2]; rfl); cases this)
  · exact h.sh.apart (h.ref k hk).tp (by decide) (by decide) (by decide) (by decide) (by decide)
  · obtain ⟨c, hc⟩ := h.wblk hk hw
    have := sp (.w k) hk (by simp) (by simp) b hw
    exact h.sh.apart49 hc this.1 this.2
theorem LS.lowA (h : LS W B l r fd m S R Q s sr) {k : Nat} (hk : k < m) : ∀ b, RnX l (S k).eb (R k).v (S k).rb b → B ≤ b := by
  rintro b ((e | rfl | e) | rfl)
  · exact h.lowL b e
  · exact (h.lowI k hk).2.1
  · obtain ⟨j, i, hE⟩ := (h.run k hk).rn.en
    exact (hE.own.lt e).1
  · exact (h.lowI k hk).1
theorem LS.lowB (h : LS W B l r fd m S R Q s sr) {k : Nat} (hk : k < m) : ∀ b, RqX r fd (S k).qb (Q k).wv b → B ≤ b := by
  rintro b (e | e | rfl | e)
  · exact h.lowR b (.inl e)
  · exact h.lowR b (.inr e)
  · exact (h.lowI k hk).2.2
  · exact ((h.ref k hk).own.lt e).1
end
end Go.Proofs.Ytmolflmljneelaa.En
