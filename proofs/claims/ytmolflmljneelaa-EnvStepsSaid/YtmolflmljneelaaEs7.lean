/- Parts of one proof, set together: En1, En2, En3. What each says stands at its head; no condition beyond theirs. -/
import Derived.Test.YtmolflmljneelaaEs6
import Derived.BigQuiet
import Derived.Deep.AppendLies
import Derived.Deep.QuietTactic
import Derived.Deep.RegionHeld3
import Derived.Lib.Hide
import Derived.Recover
import Derived.WalkSmall
/- What the runs share (region, locks, a counter), a deed's Env, its list of asks: where they lie. -/
namespace Go.Proofs.Ytmolflmljneelaa.En
open Go.RowKit Go.Proofs.YtmolflmljneelaaW.PrintWords Go.Proofs.YtmolflmljneelaaW.PrintLast Go.Proofs.YtmolflmljneelaaW.PrintMore
open Pm (Fr Rg Row thereB pendAt WFD) 
open Lk (Tbl takeR leaveR ownerV Only)
set_option linter.unusedSimpArgs false
set_option linter.unusedVariables false
theorem _root_.Go.Proofs.Ytmolflmljneelaa.Lk.Only.fr {p g : Nat} {w w' : World} (h : Only p g w w') {X : Nat → Prop} (hp : X p) (hg : X g) : Fr X w w' :=
  ⟨h.os, h.tape, h.output, h.size, fun k hk hx => h.block k hk (fun e => hx (e ▸ hp)) (fun e => hx (e ▸ hg))⟩
/-- Where the shared things lie. -/
structure Loc where
  (p gs gk bm N cs ck tp tg cb : Nat)
def Loc.X (l : Loc) (b : Nat) : Prop := b = l.p ∨ b = l.gs ∨ b = l.gk ∨ b = l.bm ∨ b = l.tp ∨ b = l.tg ∨ b = l.cb
/-- What they hold: words seen, kept, noted; owners; the counter; a bound of the map's entries. -/
structure SS where
  (S K : List Int)
  P : Nat → Option Int
  L : List Int
  c : Int
  n : Nat
structure Sh (W : World) (l : Loc) (s : SS) : Prop where
  rg : ∃ D, Rg W l.p l.gs l.gk l.bm l.N l.cs l.ck s.n s.S s.K D ∧ WFD l.N D ∧ ∀ j, j < l.N → pendAt D j = s.P j
  tb : Tbl W l.tp l.tg s.L
  cn : W.heap[l.cb]? = some (.cells #[.int .i64 s.c] 36 (0, 0))
  nn : l.N % 8 = 0 ∧ 0 < l.N ∧ l.N ≤ 64
theorem Sh.below {W W' : World} {l : Loc} {s : SS} (h : Sh W l s) (hb : Below W.heap.size W W') : Sh W' l s :=
  ⟨let ⟨D, h1, h2, h3⟩ := h.rg; ⟨D, h1.below hb, h2, h3⟩, h.tb.below hb, blk_below h.cn hb, h.nn⟩
theorem Sh.size {W : World} {l : Loc} {s : SS} (h : Sh W l s) : ∀ b, l.X b → b < W.heap.size := by
  obtain ⟨D, h1, _⟩ := h.rg
  obtain ⟨a1, a2, a3, a4⟩ := h1.lt
  obtain ⟨k, hk⟩ := h.tb.tp
  have b1 := blk_lt hk
  have b2 := blk_lt h.tb.tg
  have b3 := blk_lt h.cn
  rintro b (rfl | rfl | rfl | rfl | rfl | rfl | rfl) <;> assumption
theorem type_ne {W : World} {a b : Nat} {c1 c2 : Array Value} {t1 t2 : Nat} (h1 : W.heap[a]? = some (.cells c1 t1 (0, 0))) (h2 : W.heap[b]? = some (.cells c2 t2 (0, 0))) (ht : t1 ≠ t2) : a ≠ b := fun e => by
  subst e
  rw [h1] at h2
  injection h2 with h3
  injection h3 with _ h4
  exact ht h4
theorem map_ne {W : World} {P : Program} {k : TypeId} {R : Value → Option (DataW Unit × List MemPlace)} {a b n : Nat} {D : DataW Unit} {c1 : Array Value} {t1 : Nat} (h1 : W.heap[a]? = some (.cells c1 t1 (0, 0))) (h2 : W.ownsMap P k R b n D) : a ≠ b := fun e => by
  subst e
  obtain ⟨es, clock, h3, _⟩ := h2
  rw [h1] at h3
  injection h3 with h4
  cases h4
/-- A block of cells of a type that the shared things have not is none of theirs. -/
theorem Sh.apart {W : World} {l : Loc} {s : SS} (h : Sh W l s) {b : Nat} {c : Array Value} {t : Nat} (hb : W.heap[b]? = some (.cells c t (0, 0))) (h1 : t ≠ 86) (h2 : t ≠ 49) (h3 : t ≠ 65) (h4 : t ≠ 3) (h5 : t ≠ 36) : ¬ l.X b := by
  obtain ⟨D, r1, _⟩ := h.rg
  obtain ⟨st, a1⟩ := r1.tp
  obtain ⟨_, a2, _⟩ := r1.rs.cur
  obtain ⟨_, a3, _⟩ := r1.rk.cur
  obtain ⟨k, hk⟩ := h.tb.tp
  rintro (e | e | e | e | e | e | e)
  · exact type_ne hb a1 h1 e
  · exact type_ne hb a2 h2 e
  · exact type_ne hb a3 h2 e
  · exact map_ne hb r1.mp e
  · exact type_ne hb hk h3 e
  · exact type_ne hb h.tb.tg h4 e
  · exact type_ne hb h.cn h5 e
theorem Sh.apart49 {W : World} {l : Loc} {s : SS} (h : Sh W l s) {b : Nat} {c : Array Value} (hb : W.heap[b]? = some (.cells c 49 (0, 0))) (h1 : b ≠ l.gs) (h2 : b ≠ l.gk) : ¬ l.X b := by
  obtain ⟨D, r1, _⟩ := h.rg
  obtain ⟨st, a1⟩ := r1.tp
  obtain ⟨k, hk⟩ := h.tb.tp
  rintro (e | e | e | e | e | e | e)
  · exact type_ne hb a1 (by decide) e
  · exact h1 e
  · exact h2 e
  · exact map_ne hb r1.mp e
  · exact type_ne hb hk (by decide) e
  · exact type_ne hb h.tb.tg (by decide) e
  · exact type_ne hb h.cn (by decide) e
def ints (T : List Int) : List Value := T.map (Value.int .u64)
/-- A slice of words that the runs made. -/
abbrev Wds (W : World) (B : Nat) (v : Value) (T : List Int) : Prop := W.ownsRow B 49 1 v T.length (ints T)
theorem Wds.form {W : World} {B : Nat} {v : Value} {T : List Int} (h : Wds W B v T) : ∃ a cap, v = .slice a T.length cap := by
  obtain ⟨_, ⟨h1, h2⟩ | ⟨g, cap, cur, h1, _⟩⟩ := h
  · exact ⟨none, 0, by rw [h1, h2]⟩
  · exact ⟨_, cap, h1⟩
theorem Wds.some {W : World} {B : Nat} {v : Value} {T : List Int} (h : Wds W B v T) (hT : 0 < T.length) : ∃ g cap, v = .slice (some ⟨g, 0, none⟩) T.length cap ∧ B ≤ g ∧ g < W.heap.size ∧ ∀ i, i < T.length → W.cell? ⟨g, i, none⟩ = some (.int .u64 (T.getD i 0)) := by
  obtain ⟨_, ⟨h1, h2⟩ | ⟨g, cap, cur, h1, hb, hg, h2, h3, h4, h5⟩⟩ := h
  · omega
  · refine ⟨g, cap, h1, hb, blk_lt hg, fun i hi => ?_⟩
    rw [blk_cell hg i]
    have h6 : (cur.toList.take (T.length * 1))[i]? = (ints T)[i]? := by rw [h5]
    rw [List.getElem?_take, if_pos (by omega)] at h6
    rw [← Array.getElem?_toList, h6]
    simp [ints, hi]
theorem Wds.fr {X : Nat → Prop} {W W' : World} {B : Nat} {v : Value} {T : List Int} (h : Wds W B v T) (hf : Fr X W W') (hX : ∀ g, v.ownBlock = .some g → ¬ X g) : Wds W' B v T := by
  obtain ⟨h0, h1 | ⟨g, cap, cur, h1, hb, hg, h2⟩⟩ := h
  · exact ⟨h0, .inl h1⟩
  · subst h1
    exact ⟨h0, .inr ⟨g, cap, cur, rfl, hb, hf.keeps hg (hX g rfl), h2⟩⟩
theorem Wds.below {W W' : World} {B : Nat} {v : Value} {T : List Int} (h : Wds W B v T) (hb : Below W.heap.size W W') : Wds W' B v T := h.fr (X := fun _ => False) (Fr.of hb) (fun _ _ h => h)
theorem Wds.lt {W : World} {B : Nat} {v : Value} {T : List Int} (h : Wds W B v T) {g : Nat} (hg : v.ownBlock = .some g) : B ≤ g ∧ g < W.heap.size ∧ ∃ c, W.heap[g]? = .some (.cells c 49 (0, 0)) := by
  obtain ⟨_, ⟨h1, h2⟩ | ⟨g', cap, cur, h1, hb, hg', _⟩⟩ := h
  · subst h1; cases hg
  · subst h1; cases hg; exact ⟨hb, blk_lt hg', _, hg'⟩
theorem Wds.nil (W : World) (B : Nat) : Wds W B (.slice none 0 0) [] := ⟨rfl, .inl ⟨rfl, rfl⟩⟩
/-- A deed's Env at block eb: what was told (T, the slice v), how many of these were told again, how many steps are left. -/
structure En (W : World) (l : Loc) (B eb : Nat) (who : Int) (v : Value) (T : List Int) (at_ left : Nat) : Prop where
  tp : W.heap[eb]? = some (.cells #[.pointer (some ⟨l.p, 0, none⟩), .pointer (some ⟨l.tp, 0, none⟩), .int .i64 who, v, .int .i64 at_, .int .i64 left] 73 (0, 0))
  own : Wds W B v T
  apt : ∀ g, v.ownBlock = some g → g ≠ l.gs ∧ g ≠ l.gk
  low : l.gs < W.heap.size ∧ l.gk < W.heap.size
theorem En.fr {X : Nat → Prop} {W W' : World} {l : Loc} {B eb : Nat} {who : Int} {v : Value} {T : List Int} {at_ left : Nat} (h : En W l B eb who v T at_ left) (hf : Fr X W W') (h1 : ¬ X eb) (h2 : ∀ g, v.ownBlock = .some g → ¬ X g) : En W' l B eb who v T at_ left :=
  ⟨hf.keeps h.tp h1, h.own.fr hf h2, h.apt, by have := h.low; have := hf.size; omega⟩
theorem En.below {W W' : World} {l : Loc} {B eb : Nat} {who : Int} {v : Value} {T : List Int} {at_ left : Nat} (h : En W l B eb who v T at_ left) (hb : Below W.heap.size W W') : En W' l B eb who v T at_ left := h.fr (X := fun _ => False) (Fr.of hb) (fun h => h) (fun _ _ h => h)
/-- What the shared things' deeds turn is not an Env. -/
theorem En.frX {W W' : World} {l : Loc} {s : SS} {B eb : Nat} {who : Int} {v : Value} {T : List Int} {at_ left : Nat} (h : En W l B eb who v T at_ left) (hs : Sh W l s) (hf : Fr l.X W W') : En W' l B eb who v T at_ left :=
  h.fr hf (hs.apart h.tp (by decide) (by decide) (by decide) (by decide) (by decide)) (fun g hg => by
    obtain ⟨_, _, c, hc⟩ := h.own.lt hg
    exact hs.apart49 hc (h.apt g hg).1 (h.apt g hg).2)
theorem info49 : (Try.prog.info? 49).map (fun i => (i.zero, i.size, i.bytes)) = some (some (.int .u64 0), 1, 8) := by kernel_rfl
/-- A step that is told again. -/
theorem step_again (W : World) {l : Loc} {B eb : Nat} {who : Int} {v : Value} {T : List Int} {i left : Nat} (h : En W l B eb who v T i left) (hi : i < T.length) (h40 : T.length ≤ 40) (f : Value) :
    Calls Try.prog 41 #[.pointer (some ⟨eb, 0, none⟩), f] W fun e w' => e = .returned (.int .u64 (T.getD i 0)) ∧ En w' l B eb who v T (i + 1) left ∧ Fr (fun b => b = eb) W w' := by
  obtain ⟨g, cap, hv, hB, hlt, hcell⟩ := h.own.some (by omega)
  have hci := hcell i hi
  clear hcell
  have htp := h.tp
  rw [hv] at htp
  have h3 : W.cell? ⟨eb, 3, none⟩ = some (.slice (some ⟨g, 0, none⟩) T.length cap) := (blk_cell htp 3).trans rfl
  have h4 : W.cell? ⟨eb, 4, none⟩ = some (.int .i64 i) := (blk_cell htp 4).trans rfl
  have hf4 : W.frozen? ⟨eb, 4, none⟩ = false := blk_frozen htp 4
  have hu := Try.underlying73
  have hd : decide ((i : Int) < (T.length : Int)) = true := decide_eq_true (by omega)
  have hge : ¬ g = eb := fun e => by
    obtain ⟨_, _, c, hc⟩ := h.own.lt (g := g) (by rw [hv]; rfl)
    exact type_ne hc htp (by decide) e
  obtain ⟨y, hy⟩ : ∃ y, T.getD i 0 = y := ⟨_, rfl⟩
  rw [hy] at hci ⊢
  clear hy
  go_enter Try.func41, Try.ntmps41
  go_wp2
  go_quiet (fail)
  go_wp2
  go_quiet (fail)
  go_wp2
  go_ret
  have fr : ∀ n m, Fr (fun b => b = eb) W (((W.drewN n).setCell ⟨eb, 4, none⟩ (.int .i64 ((i : Int) + 1))).drewN m) := fun n m => ((((Fr.refl (fun b => b = eb) W).drewN n).setCell (p := ⟨eb, 4, none⟩) (.inl rfl) _).drewN m)
  refine ⟨rfl, ⟨?_, h.own.fr (fr _ _) (fun g' hg' e => hge ?_), h.apt, ⟨Nat.lt_of_lt_of_le h.low.1 (fr _ _).size, Nat.lt_of_lt_of_le h.low.2 (fr _ _).size⟩⟩, fr _ _⟩
  · rw [hv]
    exact blk_drewN (blk_put (blk_drewN htp _) 4 _ rfl) _
  · rw [hv] at hg'; cases hg'; exact e
/-- A step where no step is left. -/
theorem step_stop (W : World) {l : Loc} {B eb : Nat} {who : Int} {v : Value} {T : List Int} (h : En W l B eb who v T T.length 0) (h40 : T.length ≤ 40) (f : Value) :
    Calls Try.prog 41 #[.pointer (some ⟨eb, 0, none⟩), f] W fun e w' => e = .panicked [{ v := .iface 98 (.agg #[.bool false]), recovered := false }] ∧ Below W.heap.size W w' := by
  obtain ⟨ad, cap, hv⟩ := h.own.form
  have htp := h.tp
  rw [hv] at htp
  have h3 : W.cell? ⟨eb, 3, none⟩ = some (.slice ad T.length cap) := (blk_cell htp 3).trans rfl
  have h4 : W.cell? ⟨eb, 4, none⟩ = some (.int .i64 T.length) := (blk_cell htp 4).trans rfl
  have h5 : W.cell? ⟨eb, 5, none⟩ = some (.int .i64 0) := (blk_cell htp 5).trans rfl
  have hu := Try.underlying73
  have hd : decide ((T.length : Int) < (T.length : Int)) = false := decide_eq_false (by omega)
  go_enter Try.func41, Try.ntmps41
  go_wp2
  go_quiet (fail)
  go_wp2
  exact ⟨rfl, rfl, pw_below_drewN (Below.refl _ W) _⟩
set_option maxHeartbeats 4000000 in
set_option maxRecDepth 100000 in
/-- A step that is done now: its closure answers x. -/
theorem step_done (W : World) {l : Loc} {B eb : Nat} {who : Int} {v : Value} {T : List Int} (h : En W l B eb who v T T.length 1) (h40 : T.length < 40) (hB : B ≤ W.heap.size) (K : Nat) (caps : Array Value) (R : Int → World → Prop) (hK : ∀ w, (callFunc K caps).run Try.prog w = .ok (.enter K caps) w)
    (hf : ∀ W1, Below W.heap.size W W1 → Calls Try.prog K caps W1 fun e w' => ∃ x, e = .returned (.tuple #[.int .u64 x, .bool true]) ∧ R x w' ∧ En w' l B eb who v T T.length 1 ∧ W.heap.size ≤ w'.heap.size) :
    Calls Try.prog 41 #[.pointer (some ⟨eb, 0, none⟩), .func (.func K) #[] caps] W fun e w' => ∃ x g cap w1, e = .returned (.int .u64 x) ∧ R x w1 ∧ En w' l B eb who (.slice (some ⟨g, 0, none⟩) (T.length + 1) cap) (T ++ [x]) (T.length + 1) 0 ∧ Fr (fun b => b = eb ∨ v.ownBlock = some b) w1 w' ∧ (v.ownBlock = some g ∨ W.heap.size ≤ g) := by
  obtain ⟨ad, cap, hv⟩ := h.own.form
  have htp := h.tp
  rw [hv] at htp
  have h3 : W.cell? ⟨eb, 3, none⟩ = some (.slice ad T.length cap) := (blk_cell htp 3).trans rfl
  have h4 : W.cell? ⟨eb, 4, none⟩ = some (.int .i64 T.length) := (blk_cell htp 4).trans rfl
  have h5 : W.cell? ⟨eb, 5, none⟩ = some (.int .i64 1) := (blk_cell htp 5).trans rfl
  have hu := Try.underlying73
  have hd : decide ((T.length : Int) < (T.length : Int)) = false := decide_eq_false (by omega)
  go_enter Try.func41, Try.ntmps41
  go_wp2
  go_quiet (fail)
  go_wp2
  refine (hf _ (pw_below_drewN (Below.refl _ W) _)).mono ?_
  rintro e w1 ⟨x, rfl, hR, hE, hsz⟩
  clear h3 h4 h5 hf hK
  obtain ⟨i0, hi0, hz0, hz1, hz2⟩ := info_parts info49
  have htp1 := hE.tp
  rw [hv] at htp1
  have h3 : w1.cell? ⟨eb, 3, none⟩ = some (.slice ad T.length cap) := (blk_cell htp1 3).trans rfl
  have h4 : w1.cell? ⟨eb, 4, none⟩ = some (.int .i64 T.length) := (blk_cell htp1 4).trans rfl
  have h5 : w1.cell? ⟨eb, 5, none⟩ = some (.int .i64 1) := (blk_cell htp1 5).trans rfl
  have hf3 : w1.frozen? ⟨eb, 3, none⟩ = false := blk_frozen htp1 3
  have hf4 : w1.frozen? ⟨eb, 4, none⟩ = false := blk_frozen htp1 4
  have hf5 : w1.frozen? ⟨eb, 5, none⟩ = false := blk_frozen htp1 5
  have HE := Aside0.mk hE
  have H0 := Aside0.mk (And.intro h.tp hv)
  clear hE htp1 htp h hv
  go_upto_region 10 with fail
  have F2 := Aside0.mk ((Fr.refl (fun b => b = eb ∨ v.ownBlock = some b) w1).setCell (p := ⟨eb, 5, none⟩) (.inl (.inl rfl)) (.int .i64 0))
  have T2 := Aside0.mk (blk_put HE.out.tp 5 (.int .i64 0) rfl)
  have hge : ∀ g, v.ownBlock = some g → g ≠ eb := fun g hg e => by
    obtain ⟨_, _, c, hc⟩ := HE.out.own.lt hg
    exact type_ne hc HE.out.tp (by decide) e
  have HG := Aside0.mk hge
  clear hge
  have O2 := Aside0.mk (HE.out.own.fr (X := fun b => b = eb) ((Fr.refl (fun b => b = eb) w1).setCell (p := ⟨eb, 5, none⟩) (.inl rfl) (.int .i64 0)) HG.out)
  generalize hw2 : w1.setCell ⟨eb, 5, none⟩ (.int .i64 0) = w2 at F2 T2 O2
  clear hw2 h3 h4 h5 hf3 hf4 hf5
  have h3 : w2.cell? ⟨eb, 3, none⟩ = some (.slice ad T.length cap) := (blk_cell T2.out 3).trans (by rw [← H0.out.2]; rfl)
  have hB2 : B ≤ w2.heap.size := by have := F2.out.size; omega
  have O2' : Wds w2 B (.slice ad T.length cap) T := H0.out.2 ▸ O2.out
  have HO := Aside0.mk O2'
  have G2 : ∀ g, (Value.slice ad T.length cap).ownBlock = some g → g ≠ eb := H0.out.2 ▸ HG.out
  have HG2 := Aside0.mk G2
  clear O2' G2
  go_wp2_with (at_builtin; refine wpList_append_lies _ rfl _ _ _ rfl B 49 i0 _ 1 8 Try.underlying31 hi0 hz0 hz1 hz2 rfl (by omega) (.slice ad T.length cap) T.length (ints T) (by rfl) ((HO.out.below ((Below.refl _ w2).alloc (Nat.le_refl _) _))) ⟨w2.heap.size, 0, none⟩ 1 1 [.int .u64 x] (by rfl) (by rfl) (World.news_of_block (cs := #[.int .u64 x]) (t := 49) (fr := (0, 0)) (heap_alloc_new w2 _)) (by simp [Value.oneCell']) (by omega) (by unfold maxLen; omega) (by omega) (by simp; omega) (w2.heap.size + 1) (by simp) ?_; intro g4 cap4 w4 hown4 hgrow4 hat4 hlt4; have T4 := Aside0.mk (blk_grown (blk_alloc T2.out (.cells #[.int .u64 x] 49)) hgrow4 (fun e => HG2.out eb e.symm rfl)); have F4 := Aside0.mk ((F2.out.alloc (.cells #[.int .u64 x] 49)).grown hgrow4 (fun k e => .inl (.inr (H0.out.2 ▸ e)))); have O4 := Aside0.mk hown4; have A4 := Aside0.mk hat4; clear hown4 hgrow4 hat4; have hc43 : w4.cell? ⟨eb, 3, none⟩ = some v := (blk_cell T4.out 3).trans rfl; have hf43 : w4.frozen? ⟨eb, 3, none⟩ = false := blk_frozen T4.out 3; have hc44 : w4.cell? ⟨eb, 4, none⟩ = some (.int .i64 T.length) := (blk_cell T4.out 4).trans rfl; have hf44 : w4.frozen? ⟨eb, 4, none⟩ = false := blk_frozen T4.out 4)
  go_ret
  have hg4 : g4 ≠ eb := by
    rcases A4.out with e | e
    · exact HG2.out _ e
    · have := blk_lt T2.out; omega
  have hb0 : W.heap.size ≤ w2.heap.size := Nat.le_trans hsz F2.out.size
  have hlen : (T ++ [x]).length = T.length + 1 := by simp
  have hO : Wds w4 B (.slice (some ⟨g4, 0, none⟩) (T.length + 1) cap4) (T ++ [x]) := by
    unfold Wds
    rw [hlen]
    have := O4.out
    simpa [ints] using this
  have f1 := (F4.out.setCell (p := ⟨eb, 3, none⟩) (.inl (.inl rfl)) (.slice (some ⟨g4, 0, none⟩) (T.length + 1) cap4)).setCell (p := ⟨eb, 4, none⟩) (.inl (.inl rfl)) (.int .i64 ((T.length : Int) + 1))
  have f2 := ((Fr.refl (fun b => b = eb) w4).setCell (p := ⟨eb, 3, none⟩) (.inl rfl) (.slice (some ⟨g4, 0, none⟩) (T.length + 1) cap4)).setCell (p := ⟨eb, 4, none⟩) (.inl rfl) (.int .i64 ((T.length : Int) + 1))
  refine ⟨x, g4, cap4, w1, rfl, hR, ⟨blk_put (blk_put T4.out 3 _ rfl) 4 _ rfl, hO.fr f2 (fun k e1 e2 => ?_), fun k e1 => ?_, ?_⟩, f1, ?_⟩
  · cases e1; exact hg4 e2
  · cases e1
    rcases A4.out with e | e
    · exact HE.out.apt g4 (H0.out.2 ▸ e)
    · have q1 := HE.out.low; have q2 := F2.out.size; show g4 ≠ l.gs ∧ g4 ≠ l.gk; omega
  · have := HE.out.low; have := f1.size; omega
  · rcases A4.out with e | e
    · exact .inl (H0.out.2 ▸ e)
    · exact .inr (by omega)
end Go.Proofs.Ytmolflmljneelaa.En
/- A deed's step that is blocked; 'always'; what the steps' closures do to the shared things. -/
namespace Go.Proofs.Ytmolflmljneelaa.En
open Go.RowKit Go.Proofs.YtmolflmljneelaaW.PrintWords Go.Proofs.YtmolflmljneelaaW.PrintLast Go.Proofs.YtmolflmljneelaaW.PrintMore
open Pm (Fr Rg Row thereB pendAt WFD) 
open Lk (Tbl takeR leaveR ownerV Only)
set_option linter.unusedSimpArgs false
set_option linter.unusedVariables false
set_option maxHeartbeats 4000000 in
set_option maxRecDepth 100000 in
/-- A step that is blocked: its closure answers that it is not done. -/
theorem step_block (W : World) {l : Loc} {B eb : Nat} {who : Int} {v : Value} {T : List Int} (h : En W l B eb who v T T.length 1) (h40 : T.length < 40) (K : Nat) (caps : Array Value) (R : World → Prop) (hK : ∀ w, (callFunc K caps).run Try.prog w = .ok (.enter K caps) w)
    (hf : ∀ W1, Below W.heap.size W W1 → Calls Try.prog K caps W1 fun e w' => (∃ x, e = .returned (.tuple #[.int .u64 x, .bool false])) ∧ R w') :
    Calls Try.prog 41 #[.pointer (some ⟨eb, 0, none⟩), .func (.func K) #[] caps] W fun e w' => e = .panicked [{ v := .iface 98 (.agg #[.bool true]), recovered := false }] ∧ R w' := by
  obtain ⟨ad, cap, hv⟩ := h.own.form
  have htp := h.tp
  rw [hv] at htp
  have h3 : W.cell? ⟨eb, 3, none⟩ = some (.slice ad T.length cap) := (blk_cell htp 3).trans rfl
  have h4 : W.cell? ⟨eb, 4, none⟩ = some (.int .i64 T.length) := (blk_cell htp 4).trans rfl
  have h5 : W.cell? ⟨eb, 5, none⟩ = some (.int .i64 1) := (blk_cell htp 5).trans rfl
  have hu := Try.underlying73
  have hd : decide ((T.length : Int) < (T.length : Int)) = false := decide_eq_false (by omega)
  go_enter Try.func41, Try.ntmps41
  go_wp2
  go_quiet (fail)
  go_wp2
  refine (hf _ (pw_below_drewN (Below.refl _ W) _)).mono ?_
  rintro e w1 ⟨⟨x, rfl⟩, hR⟩
  clear h3 h4 h5 hf hK
  go_wp2
  exact ⟨rfl, rfl, hR⟩
theorem mkfunc (fn : Fn) (first cap : Array Value) (w : World) : (Instr.makeFunc fn first cap).run Try.prog w = .ok (.func fn first cap) w := rfl
theorem always_calls (W : World) (K : Nat) (caps : Array Value) : Calls Try.prog 42 #[.func (.func K) #[] caps] W fun e w' => ∃ g, e = .returned (.func (.func 56) #[] #[.pointer (some ⟨g, 0, none⟩)]) ∧ W.heap.size ≤ g ∧ w'.heap[g]? = some (.cells #[.func (.func K) #[] caps] 80 (0, 0)) ∧ Below W.heap.size W w' := by
  have hmf := mkfunc
  go_enter Try.func42, Try.ntmps42
  go_wp2
  go_ret
  exact ⟨W.heap.size, rfl, Nat.le_refl _, blk_new W _, (Below.refl _ _).alloc (Nat.le_refl _) _⟩
/-- It answers a word x, of which R speaks. -/
def Ans (R : Int → World → Prop) (e : Ending) (w' : World) : Prop := ∃ x, e = .returned (.int .u64 x) ∧ R x w'
theorem Fr.undrew {X : Nat → Prop} {W w : World} (h : Fr X W.drew w) : Fr X W w := ⟨h.os, h.tape, h.output, h.size, h.block⟩
theorem always1_calls (W : World) (g K : Nat) (caps : Array Value) (hg : W.heap[g]? = some (.cells #[.func (.func K) #[] caps] 80 (0, 0))) (R : Int → World → Prop) (hK : ∀ w, (callFunc K caps).run Try.prog w = .ok (.enter K caps) w)
    (hf : Calls Try.prog K caps W (Ans R)) : Calls Try.prog 56 #[.pointer (some ⟨g, 0, none⟩)] W fun e w' => ∃ x, e = .returned (.tuple #[.int .u64 x, .bool true]) ∧ R x w' := by
  have hc : W.cell? ⟨g, 0, none⟩ = some (.func (.func K) #[] caps) := (blk_cell hg 0).trans rfl
  go_enter Try.func56, Try.ntmps56
  go_wp2
  refine hf.mono ?_
  rintro e w1 ⟨x, rfl, hR⟩
  go_wp2
  go_ret2
  exact ⟨x, rfl, hR⟩
theorem enter56 (caps : Array Value) (w : World) : (callFunc 56 caps).run Try.prog w = .ok (.enter 56 caps) w := by go_simp
theorem enter51 (caps : Array Value) (w : World) : (callFunc 51 caps).run Try.prog w = .ok (.enter 51 caps) w := by go_simp
def Loc.RX (l : Loc) (b : Nat) : Prop := b = l.p ∨ b = l.gs ∨ b = l.gk ∨ b = l.bm
def Loc.TX (l : Loc) (b : Nat) : Prop := b = l.tp ∨ b = l.tg
theorem Loc.rx {l : Loc} : ∀ b, l.RX b → l.X b := by
  rintro b (e | e | e | e)
  · exact .inl e
  · exact .inr (.inl e)
  · exact .inr (.inr (.inl e))
  · exact .inr (.inr (.inr (.inl e)))
theorem Loc.tx {l : Loc} : ∀ b, l.TX b → l.X b := by
  rintro b (e | e)
  · exact .inr (.inr (.inr (.inr (.inl e))))
  · exact .inr (.inr (.inr (.inr (.inr (.inl e)))))
theorem Rg.fr {X : Nat → Prop} {W W' : World} {p gs gk bm N cs ck n : Nat} {S K : List Int} {D : DataW Unit} (h : Rg W p gs gk bm N cs ck n S K D) (hf : Fr X W W') (h1 : ¬ X p) (h2 : ¬ X gs) (h3 : ¬ X gk) (h4 : ¬ X bm) : Rg W' p gs gk bm N cs ck n S K D := by
  obtain ⟨l1, l2, l3, l4⟩ := h.lt
  refine ⟨let ⟨st, a⟩ := h.tp; ⟨st, hf.keeps a h1⟩, ⟨h.rs.len, let ⟨c, a, b⟩ := h.rs.cur; ⟨c, hf.keeps a h2, b⟩⟩, ⟨h.rk.len, let ⟨c, a, b⟩ := h.rk.cur; ⟨c, hf.keeps a h3, b⟩⟩, ?_, h.ne⟩
  obtain ⟨es, clock, a, b⟩ := h.mp
  exact ⟨es, clock, (hf.block bm l4 h4).trans a, b⟩
theorem Sh.ofRg {W W' : World} {l : Loc} {s : SS} (h : Sh W l s) (hf : Fr l.RX W W') {n' : Nat} {S' K' : List Int} {P' : Nat → Option Int} {D' : DataW Unit} (h1 : Rg W' l.p l.gs l.gk l.bm l.N l.cs l.ck n' S' K' D') (h2 : WFD l.N D') (h3 : ∀ j, j < l.N → pendAt D' j = P' j) : Sh W' l { s with S := S', K := K', P := P', n := n' } := by
  obtain ⟨D, r1, _⟩ := h.rg
  obtain ⟨st, a1⟩ := r1.tp
  obtain ⟨_, a2, _⟩ := r1.rs.cur
  obtain ⟨_, a3, _⟩ := r1.rk.cur
  have far : ∀ {b : Nat} {c : Array Value} {t : Nat}, W.heap[b]? = some (.cells c t (0, 0)) → t ≠ 86 → t ≠ 49 → ¬ l.RX b := by
    rintro b c t hb h1 h2 (e | e | e | e)
    · exact type_ne hb a1 h1 e
    · exact type_ne hb a2 h2 e
    · exact type_ne hb a3 h2 e
    · exact map_ne hb r1.mp e
  obtain ⟨k, hk⟩ := h.tb.tp
  exact ⟨⟨D', h1, h2, h3⟩, ⟨h.tb.ne, ⟨k, hf.keeps hk (far hk (by decide) (by decide))⟩, hf.keeps h.tb.tg (far h.tb.tg (by decide) (by decide))⟩, hf.keeps h.cn (far h.cn (by decide) (by decide)), h.nn⟩
theorem Sh.ofTb {W W' : World} {l : Loc} {s : SS} (h : Sh W l s) (hf : Fr l.TX W W') {L' : List Int} (h1 : Tbl W' l.tp l.tg L') : Sh W' l { s with L := L' } := by
  obtain ⟨D, r1, r2⟩ := h.rg
  obtain ⟨st, a1⟩ := r1.tp
  obtain ⟨_, a2, _⟩ := r1.rs.cur
  obtain ⟨_, a3, _⟩ := r1.rk.cur
  obtain ⟨k, hk⟩ := h.tb.tp
  have far : ∀ {b : Nat} {c : Array Value} {t : Nat}, W.heap[b]? = some (.cells c t (0, 0)) → t ≠ 65 → t ≠ 3 → ¬ l.TX b := by
    rintro b c t hb h1 h2 (e | e)
    · exact type_ne hb hk h1 e
    · exact type_ne hb h.tb.tg h2 e
  exact ⟨⟨D, Rg.fr r1 hf (far a1 (by decide) (by decide)) (far a2 (by decide) (by decide)) (far a3 (by decide) (by decide)) (by
    rintro (e | e)
    · exact map_ne hk r1.mp e.symm
    · exact map_ne h.tb.tg r1.mp e.symm), r2⟩, h1, hf.keeps h.cn (far h.cn (by decide) (by decide)), h.nn⟩
theorem Sh.ofCn {W W' : World} {l : Loc} {s : SS} (h : Sh W l s) (hf : Fr (fun b => b = l.cb) W W') {c' : Int} (h1 : W'.heap[l.cb]? = some (.cells #[.int .i64 c'] 36 (0, 0))) : Sh W' l { s with c := c' } := by
  obtain ⟨D, r1, r2⟩ := h.rg
  obtain ⟨st, a1⟩ := r1.tp
  obtain ⟨_, a2, _⟩ := r1.rs.cur
  obtain ⟨_, a3, _⟩ := r1.rk.cur
  obtain ⟨k, hk⟩ := h.tb.tp
  exact ⟨⟨D, Rg.fr r1 hf (type_ne a1 h.cn (by decide)) (type_ne a2 h.cn (by decide)) (type_ne a3 h.cn (by decide)) (fun e => map_ne h.cn r1.mp e.symm), r2⟩, ⟨h.tb.ne, ⟨k, hf.keeps hk (type_ne hk h.cn (by decide))⟩, hf.keeps h.tb.tg (type_ne h.tb.tg h.cn (by decide))⟩, h1, h.nn⟩
theorem thereB_in {N : Nat} {a : Int} (h : thereB N a = true) : 0 ≤ a ∧ a < N := of_decide_eq_true h
theorem ptr_cell {W : World} {g : Nat} {v : Value} {t : Nat} (h : W.heap[g]? = some (.cells #[v] t (0, 0))) : W.cell? ⟨g, 0, none⟩ = some v := (blk_cell h 0).trans rfl
/-- A line's words are noted. -/
def flushS (N : Nat) (a : Int) (s : SS) : SS := if thereB N a = true then { s with P := fun j => if j - j % 8 = a.toNat - a.toNat % 8 then some (s.S.getD j 0) else s.P j, n := s.n + 1 } else s
def storeS (N : Nat) (a x : Int) (s : SS) : SS := if thereB N a = true then { s with S := s.S.set a.toNat x } else s
def fenceS (N : Nat) (s : SS) : SS := { s with K := (List.range N).map fun j => (s.P j).getD (s.K.getD j 0), P := fun _ => none, n := 0 }
theorem line_nat {N : Nat} {a : Int} (hN : N % 8 = 0 ∧ 0 < N ∧ N ≤ 64) (ha : 0 ≤ a ∧ a < N) : ∃ i : Nat, a - a % 8 = i ∧ i % 8 = 0 ∧ i + 8 ≤ N := by
  obtain ⟨k, rfl⟩ := Int.eq_ofNat_of_zero_le ha.1
  exact ⟨k - k % 8, by omega, by omega, by omega⟩
theorem eight_self (S : List Int) (i : Nat) : Pm.Eight S i (S.getD (i + 0) 0) (S.getD (i + 1) 0) (S.getD (i + 2) 0) (S.getD (i + 3) 0) (S.getD (i + 4) 0) (S.getD (i + 5) 0) (S.getD (i + 6) 0) (S.getD (i + 7) 0) := ⟨rfl, rfl, rfl, rfl, rfl, rfl, rfl, rfl⟩
theorem flush_pend {N : Nat} {s : SS} {D : DataW Unit} (hD : WFD N D) (hP : ∀ j, j < N → pendAt D j = s.P j) {a : Int} (i : Nat) (h8 : i % 8 = 0) (ha : 0 ≤ a) (hi : a - a % 8 = i) (j : Nat) (hj : j < N) :
    pendAt (D.put (.int .i64 (i : Int)) (.agg [.lit (.int .u64 (s.S.getD (i + 0) 0)), .lit (.int .u64 (s.S.getD (i + 1) 0)), .lit (.int .u64 (s.S.getD (i + 2) 0)), .lit (.int .u64 (s.S.getD (i + 3) 0)), .lit (.int .u64 (s.S.getD (i + 4) 0)), .lit (.int .u64 (s.S.getD (i + 5) 0)), .lit (.int .u64 (s.S.getD (i + 6) 0)), .lit (.int .u64 (s.S.getD (i + 7) 0))])) j = if j - j % 8 = a.toNat - a.toNat % 8 then some (s.S.getD j 0) else s.P j := by
  have e1 : a.toNat - a.toNat % 8 = i := by omega
  refine (Pm.pend_put hD.1 i _ j).trans ?_
  rw [e1, hP j hj]
  by_cases hji : j - j % 8 = i
  · rw [if_pos hji, if_pos hji]
    have hj2 : j = i + j % 8 := by omega
    have h8' : j % 8 < 8 := Nat.mod_lt _ (by omega)
    generalize j % 8 = q at hj2 h8'
    subst hj2
    match q, h8' with
    | 0, _ => rfl
    | 1, _ => rfl
    | 2, _ => rfl
    | 3, _ => rfl
    | 4, _ => rfl
    | 5, _ => rfl
    | 6, _ => rfl
    | 7, _ => rfl
  · rw [if_neg hji, if_neg hji]
theorem fence_list {N : Nat} {K' : List Int} {f : Nat → Int} (hl : K'.length = N) (h : ∀ j, j < N → K'.getD j 0 = f j) : K' = (List.range N).map f := by
  apply List.ext_getElem (by simp [hl])
  intro i h1 h2
  have := h i (by omega)
  simpa [h1] using this
set_option maxRecDepth 100000 in
set_option maxHeartbeats 4000000 in
theorem store_cl (W : World) {l : Loc} {s : SS} (h : Sh W l s) (a x : Int) (eb g3 g4 g5 : Nat) (v1 v2 v3 v4 v5 : Value) (he : W.heap[eb]? = some (.cells #[.pointer (some ⟨l.p, 0, none⟩), v1, v2, v3, v4, v5] 73 (0, 0))) (hg3 : W.heap[g3]? = some (.cells #[.pointer (some ⟨eb, 0, none⟩)] 71 (0, 0))) (hg4 : W.heap[g4]? = some (.cells #[.int .i64 a] 3 (0, 0))) (hg5 : W.heap[g5]? = some (.cells #[.int .u64 x] 49 (0, 0))) (xg4 : ¬ l.X g4) (xg5 : ¬ l.X g5) :
    Calls Try.prog 43 #[.pointer (some ⟨g3, 0, none⟩), .pointer (some ⟨g4, 0, none⟩), .pointer (some ⟨g5, 0, none⟩)] W (Ans fun _ w' => Sh w' l (storeS l.N a x s) ∧ Fr l.X W w') := by
  have hu := Try.underlying73
  have hu2 := Try.underlying90
  obtain ⟨D, hR, hD, hP⟩ := h.rg
  have cg3 := ptr_cell hg3
  have xg3 : ¬ l.X g3 := h.apart hg3 (by decide) (by decide) (by decide) (by decide) (by decide)
  have cg4 := ptr_cell hg4
  have cg5 := ptr_cell hg5
  have xe : ¬ l.X eb := h.apart he (by decide) (by decide) (by decide) (by decide) (by decide)
  have ce0 : W.cell? ⟨eb, 0, none⟩ = some (.pointer (some ⟨l.p, 0, none⟩)) := (blk_cell he 0).trans rfl
  have HS := Aside0.mk h
  have HR := Aside0.mk hR
  have HD := Aside0.mk hD
  have HP := Aside0.mk hP
  have HE := Aside0.mk he
  have Hg3 := Aside0.mk hg3
  have Hg4 := Aside0.mk hg4
  have Hg5 := Aside0.mk hg5
  clear h hR hD hP he hg3 hg4 hg5
  rcases Bool.eq_false_or_eq_true (thereB l.N a) with ha | ha
  · have HA := Aside0.mk ha
    clear ha
    go_enter Try.func43, Try.ntmps43
    go_wp2_with fail
    go_region_held3 (fun w' => w'.cell? ⟨g3, 0, none⟩ = some (.pointer (some ⟨eb, 0, none⟩)) ∧ w'.cell? ⟨g4, 0, none⟩ = some (.int .i64 a) ∧ w'.cell? ⟨g5, 0, none⟩ = some (.int .u64 x) ∧ w'.cell? ⟨eb, 0, none⟩ = some (.pointer (some ⟨l.p, 0, none⟩))) (go_keep)
      ((go_at_call 44; refine (Pm.store_in _ (HR.out.below (Below.refl _ _).drew) a x (thereB_in HA.out) HA.out l.RX (.inl rfl) (.inr (.inl rfl))).mono ?_; rintro e w5 ⟨rfl, hR5, hF5⟩; have HR5 := Aside0.mk hR5; have HF5 := Aside0.mk (Fr.undrew hF5); clear hR5 hF5; have kg3 := ptr_cell (HF5.out.keeps Hg3.out (fun h => xg3 (Loc.rx _ h))); have kg4 := ptr_cell (HF5.out.keeps Hg4.out (fun h => xg4 (Loc.rx _ h))); have kg5 := ptr_cell (HF5.out.keeps Hg5.out (fun h => xg5 (Loc.rx _ h))); have ke0 : w5.cell? ⟨eb, 0, none⟩ = some (.pointer (some ⟨l.p, 0, none⟩)) := (blk_cell (HF5.out.keeps HE.out (fun h => xe (Loc.rx _ h))) 0).trans rfl))
    go_wp2_with fail
    go_ret
    refine ⟨_, rfl, ?_, HF5.out.mono Loc.rx⟩
    rw [storeS, if_pos HA.out]
    exact HS.out.ofRg (W := W) HF5.out HR5.out HD.out HP.out
  · have HA := Aside0.mk ha
    clear ha
    go_enter Try.func43, Try.ntmps43
    go_wp2_with fail
    go_region_held3 (fun w' => w'.cell? ⟨g3, 0, none⟩ = some (.pointer (some ⟨eb, 0, none⟩)) ∧ w'.cell? ⟨g4, 0, none⟩ = some (.int .i64 a) ∧ w'.cell? ⟨g5, 0, none⟩ = some (.int .u64 x) ∧ w'.cell? ⟨eb, 0, none⟩ = some (.pointer (some ⟨l.p, 0, none⟩))) (go_keep)
      ((go_at_call 44; refine (Pm.store_no _ (HR.out.below (Below.refl _ _).drew) a x HA.out).mono ?_; rintro e w5 ⟨rfl, hR5, hF⟩; have hF5 : Fr l.RX _ w5 := Fr.of hF; clear hF; have HR5 := Aside0.mk hR5; have HF5 := Aside0.mk (Fr.undrew hF5); clear hR5 hF5; have kg3 := ptr_cell (HF5.out.keeps Hg3.out (fun h => xg3 (Loc.rx _ h))); have kg4 := ptr_cell (HF5.out.keeps Hg4.out (fun h => xg4 (Loc.rx _ h))); have kg5 := ptr_cell (HF5.out.keeps Hg5.out (fun h => xg5 (Loc.rx _ h))); have ke0 : w5.cell? ⟨eb, 0, none⟩ = some (.pointer (some ⟨l.p, 0, none⟩)) := (blk_cell (HF5.out.keeps HE.out (fun h => xe (Loc.rx _ h))) 0).trans rfl))
    go_wp2_with fail
    go_ret
    refine ⟨_, rfl, ?_, HF5.out.mono Loc.rx⟩
    rw [storeS, if_neg (by rw [HA.out]; decide)]
    exact HS.out.ofRg (W := W) HF5.out HR5.out HD.out HP.out
set_option maxRecDepth 100000 in
set_option maxHeartbeats 4000000 in
theorem load_cl (W : World) {l : Loc} {s : SS} (h : Sh W l s) (a y : Int) (HY : Aside0 ((if thereB l.N a then s.S.getD a.toNat 0 else 0) = y)) (eb g3 g4 : Nat) (v1 v2 v3 v4 v5 : Value) (he : W.heap[eb]? = some (.cells #[.pointer (some ⟨l.p, 0, none⟩), v1, v2, v3, v4, v5] 73 (0, 0))) (hg3 : W.heap[g3]? = some (.cells #[.pointer (some ⟨eb, 0, none⟩)] 71 (0, 0))) (hg4 : W.heap[g4]? = some (.cells #[.int .i64 a] 3 (0, 0))) (xg4 : ¬ l.X g4) :
    Calls Try.prog 45 #[.pointer (some ⟨g3, 0, none⟩), .pointer (some ⟨g4, 0, none⟩)] W (Ans fun z w' => z = y ∧ Sh w' l s ∧ Fr l.X W w') := by
  have hu := Try.underlying73
  have hu2 := Try.underlying90
  obtain ⟨D, hR, hD, hP⟩ := h.rg
  have cg3 := ptr_cell hg3
  have xg3 : ¬ l.X g3 := h.apart hg3 (by decide) (by decide) (by decide) (by decide) (by decide)
  have cg4 := ptr_cell hg4
  have xe : ¬ l.X eb := h.apart he (by decide) (by decide) (by decide) (by decide) (by decide)
  have ce0 : W.cell? ⟨eb, 0, none⟩ = some (.pointer (some ⟨l.p, 0, none⟩)) := (blk_cell he 0).trans rfl
  have HS := Aside0.mk h
  have HR := Aside0.mk hR
  have HD := Aside0.mk hD
  have HP := Aside0.mk hP
  have HE := Aside0.mk he
  have Hg3 := Aside0.mk hg3
  have Hg4 := Aside0.mk hg4
  clear h hR hD hP he hg3 hg4
  rcases Bool.eq_false_or_eq_true (thereB l.N a) with ha | ha
  · have HA := Aside0.mk ha
    clear ha
    have HY2 : Aside0 (s.S.getD a.toNat 0 = y) := Aside0.mk (by have := HY.out; rw [HA.out, if_pos rfl] at this; exact this)
    go_enter Try.func45, Try.ntmps45
    go_wp2_with fail
    go_region_held3 (fun w' => w'.cell? ⟨g3, 0, none⟩ = some (.pointer (some ⟨eb, 0, none⟩)) ∧ w'.cell? ⟨g4, 0, none⟩ = some (.int .i64 a) ∧ w'.cell? ⟨eb, 0, none⟩ = some (.pointer (some ⟨l.p, 0, none⟩))) (go_keep)
      ((go_at_call 46; refine (Pm.load_in _ (HR.out.below (Below.refl _ _).drew) a y (thereB_in HA.out) HA.out HY2 l.RX (.inl rfl)).mono ?_; rintro e w5 ⟨rfl, hR5, hF5⟩; have HR5 := Aside0.mk hR5; have HF5 := Aside0.mk (Fr.undrew hF5); clear hR5 hF5; have kg3 := ptr_cell (HF5.out.keeps Hg3.out (fun h => xg3 (Loc.rx _ h))); have kg4 := ptr_cell (HF5.out.keeps Hg4.out (fun h => xg4 (Loc.rx _ h))); have ke0 : w5.cell? ⟨eb, 0, none⟩ = some (.pointer (some ⟨l.p, 0, none⟩)) := (blk_cell (HF5.out.keeps HE.out (fun h => xe (Loc.rx _ h))) 0).trans rfl))
    go_wp2_with fail
    go_ret
    exact ⟨_, rfl, rfl, HS.out.ofRg (W := W) HF5.out HR5.out HD.out HP.out, HF5.out.mono Loc.rx⟩
  · have HA := Aside0.mk ha
    clear ha
    have HY2 := HY.out
    rw [HA.out, if_neg (by decide)] at HY2
    subst HY2
    go_enter Try.func45, Try.ntmps45
    go_wp2_with fail
    go_region_held3 (fun w' => w'.cell? ⟨g3, 0, none⟩ = some (.pointer (some ⟨eb, 0, none⟩)) ∧ w'.cell? ⟨g4, 0, none⟩ = some (.int .i64 a) ∧ w'.cell? ⟨eb, 0, none⟩ = some (.pointer (some ⟨l.p, 0, none⟩))) (go_keep)
      ((go_at_call 46; refine (Pm.load_no _ (HR.out.below (Below.refl _ _).drew) a HA.out).mono ?_; rintro e w5 ⟨rfl, hR5, hF⟩; have hF5 : Fr l.RX _ w5 := Fr.of hF; clear hF; have HR5 := Aside0.mk hR5; have HF5 := Aside0.mk (Fr.undrew hF5); clear hR5 hF5; have kg3 := ptr_cell (HF5.out.keeps Hg3.out (fun h => xg3 (Loc.rx _ h))); have kg4 := ptr_cell (HF5.out.keeps Hg4.out (fun h => xg4 (Loc.rx _ h))); have ke0 : w5.cell? ⟨eb, 0, none⟩ = some (.pointer (some ⟨l.p, 0, none⟩)) := (blk_cell (HF5.out.keeps HE.out (fun h => xe (Loc.rx _ h))) 0).trans rfl))
    go_wp2_with fail
    go_ret
    exact ⟨_, rfl, rfl, HS.out.ofRg (W := W) HF5.out HR5.out HD.out HP.out, HF5.out.mono Loc.rx⟩
set_option maxRecDepth 100000 in
set_option maxHeartbeats 4000000 in
theorem flush_cl (W : World) {l : Loc} {s : SS} (h : Sh W l s) (hn : s.n ≤ 1000) (a : Int) (eb g3 g4 : Nat) (v1 v2 v3 v4 v5 : Value) (he : W.heap[eb]? = some (.cells #[.pointer (some ⟨l.p, 0, none⟩), v1, v2, v3, v4, v5] 73 (0, 0))) (hg3 : W.heap[g3]? = some (.cells #[.pointer (some ⟨eb, 0, none⟩)] 71 (0, 0))) (hg4 : W.heap[g4]? = some (.cells #[.int .i64 a] 3 (0, 0))) (xg4 : ¬ l.X g4) :
    Calls Try.prog 47 #[.pointer (some ⟨g3, 0, none⟩), .pointer (some ⟨g4, 0, none⟩)] W (Ans fun _ w' => Sh w' l (flushS l.N a s) ∧ Fr l.X W w') := by
  have hu := Try.underlying73
  have hu2 := Try.underlying90
  obtain ⟨D, hR, hD, hP⟩ := h.rg
  have cg3 := ptr_cell hg3
  have xg3 : ¬ l.X g3 := h.apart hg3 (by decide) (by decide) (by decide) (by decide) (by decide)
  have cg4 := ptr_cell hg4
  have xe : ¬ l.X eb := h.apart he (by decide) (by decide) (by decide) (by decide) (by decide)
  have ce0 : W.cell? ⟨eb, 0, none⟩ = some (.pointer (some ⟨l.p, 0, none⟩)) := (blk_cell he 0).trans rfl
  have HS := Aside0.mk h
  have HR := Aside0.mk hR
  have HD := Aside0.mk hD
  have HP := Aside0.mk hP
  have HE := Aside0.mk he
  have Hg3 := Aside0.mk hg3
  have Hg4 := Aside0.mk hg4
  clear h hR hD hP he hg3 hg4
  rcases Bool.eq_false_or_eq_true (thereB l.N a) with ha | ha
  · have HA := Aside0.mk ha
    clear ha
    obtain ⟨i, hi, h8, hiN⟩ := line_nat HS.out.nn (thereB_in HA.out)
    have HI := Aside0.mk hi
    clear hi
    go_enter Try.func47, Try.ntmps47
    go_wp2_with fail
    go_region_held3 (fun w' => w'.cell? ⟨g3, 0, none⟩ = some (.pointer (some ⟨eb, 0, none⟩)) ∧ w'.cell? ⟨g4, 0, none⟩ = some (.int .i64 a) ∧ w'.cell? ⟨eb, 0, none⟩ = some (.pointer (some ⟨l.p, 0, none⟩))) (go_keep)
      ((go_at_call 48; refine (Pm.flush_in _ (HR.out.below (Below.refl _ _).drew) (by unfold maxLen; omega) a (by have := thereB_in HA.out; have := HS.out.nn; omega) HA.out i HI (by omega) HS.out.nn.2.2 _ _ _ _ _ _ _ _ (Aside0.mk (eight_self s.S i)) l.RX (.inl rfl) (.inr (.inr (.inr rfl)))).mono ?_; rintro e w5 ⟨rfl, hR5, hF5⟩; have HR5 := Aside0.mk hR5; have HF5 := Aside0.mk (Fr.undrew hF5); clear hR5 hF5; have kg3 := ptr_cell (HF5.out.keeps Hg3.out (fun h => xg3 (Loc.rx _ h))); have kg4 := ptr_cell (HF5.out.keeps Hg4.out (fun h => xg4 (Loc.rx _ h))); have ke0 : w5.cell? ⟨eb, 0, none⟩ = some (.pointer (some ⟨l.p, 0, none⟩)) := (blk_cell (HF5.out.keeps HE.out (fun h => xe (Loc.rx _ h))) 0).trans rfl))
    go_wp2_with fail
    go_ret
    refine ⟨_, rfl, ?_, HF5.out.mono Loc.rx⟩
    rw [flushS, if_pos HA.out]
    refine HS.out.ofRg (W := W) (S' := s.S) (K' := s.K) HF5.out HR5.out (Pm.wfd_put HD.out i h8 (by omega) _) (fun j hj => ?_)
    exact flush_pend HD.out HP.out i h8 (thereB_in HA.out).1 HI.out j hj
  · have HA := Aside0.mk ha
    clear ha
    go_enter Try.func47, Try.ntmps47
    go_wp2_with fail
    go_region_held3 (fun w' => w'.cell? ⟨g3, 0, none⟩ = some (.pointer (some ⟨eb, 0, none⟩)) ∧ w'.cell? ⟨g4, 0, none⟩ = some (.int .i64 a) ∧ w'.cell? ⟨eb, 0, none⟩ = some (.pointer (some ⟨l.p, 0, none⟩))) (go_keep)
      ((go_at_call 48; refine (Pm.flush_no _ (HR.out.below (Below.refl _ _).drew) a HA.out).mono ?_; rintro e w5 ⟨rfl, hR5, hF⟩; have hF5 : Fr l.RX _ w5 := Fr.of hF; clear hF; have HR5 := Aside0.mk hR5; have HF5 := Aside0.mk (Fr.undrew hF5); clear hR5 hF5; have kg3 := ptr_cell (HF5.out.keeps Hg3.out (fun h => xg3 (Loc.rx _ h))); have kg4 := ptr_cell (HF5.out.keeps Hg4.out (fun h => xg4 (Loc.rx _ h))); have ke0 : w5.cell? ⟨eb, 0, none⟩ = some (.pointer (some ⟨l.p, 0, none⟩)) := (blk_cell (HF5.out.keeps HE.out (fun h => xe (Loc.rx _ h))) 0).trans rfl))
    go_wp2_with fail
    go_ret
    refine ⟨_, rfl, ?_, HF5.out.mono Loc.rx⟩
    rw [flushS, if_neg (by rw [HA.out]; decide)]
    exact HS.out.ofRg (W := W) HF5.out HR5.out HD.out HP.out
set_option maxRecDepth 100000 in
set_option maxHeartbeats 4000000 in
theorem fence_cl (W : World) {l : Loc} {s : SS} (h : Sh W l s)  (eb g3 : Nat) (v1 v2 v3 v4 v5 : Value) (he : W.heap[eb]? = some (.cells #[.pointer (some ⟨l.p, 0, none⟩), v1, v2, v3, v4, v5] 73 (0, 0))) (hg3 : W.heap[g3]? = some (.cells #[.pointer (some ⟨eb, 0, none⟩)] 71 (0, 0)))  :
    Calls Try.prog 49 #[.pointer (some ⟨g3, 0, none⟩)] W (Ans fun _ w' => Sh w' l (fenceS l.N s) ∧ Fr l.X W w') := by
  have hu := Try.underlying73
  have hu2 := Try.underlying90
  obtain ⟨D, hR, hD, hP⟩ := h.rg
  have cg3 := ptr_cell hg3
  have xg3 : ¬ l.X g3 := h.apart hg3 (by decide) (by decide) (by decide) (by decide) (by decide)
  have xe : ¬ l.X eb := h.apart he (by decide) (by decide) (by decide) (by decide) (by decide)
  have ce0 : W.cell? ⟨eb, 0, none⟩ = some (.pointer (some ⟨l.p, 0, none⟩)) := (blk_cell he 0).trans rfl
  have HS := Aside0.mk h
  have HR := Aside0.mk hR
  have HD := Aside0.mk hD
  have HP := Aside0.mk hP
  have HE := Aside0.mk he
  have Hg3 := Aside0.mk hg3
  clear h hR hD hP he hg3
  go_enter Try.func49, Try.ntmps49
  go_wp2_with (go_at_call 50; refine (Pm.fence_calls _ HR.out HD.out HS.out.nn.2.2 HS.out.nn.2.1 l.RX (.inl rfl) (.inr (.inr (.inl rfl))) (.inr (.inr (.inr rfl)))).mono ?_; rintro e w5 ⟨rfl, ⟨K', hR5, hK'⟩, hF5⟩; have HK' := Aside0.mk hK'; clear hK'; have HR5 := Aside0.mk hR5; have HF5 := Aside0.mk (id hF5); clear hR5 hF5; have kg3 := ptr_cell (HF5.out.keeps Hg3.out (fun h => xg3 (Loc.rx _ h))); have ke0 : w5.cell? ⟨eb, 0, none⟩ = some (.pointer (some ⟨l.p, 0, none⟩)) := (blk_cell (HF5.out.keeps HE.out (fun h => xe (Loc.rx _ h))) 0).trans rfl)
  go_ret
  refine ⟨_, rfl, ?_, HF5.out.mono Loc.rx⟩
  have hK : K' = (List.range l.N).map fun j => (s.P j).getD (s.K.getD j 0) := fence_list HR5.out.rk.len (fun j hj => by rw [HK'.out j hj, HP.out j hj])
  subst hK
  exact HS.out.ofRg (W := W) HF5.out HR5.out (Pm.wfd_nil _) (fun j _ => Pm.pend_nil j)
set_option maxRecDepth 100000 in
set_option maxHeartbeats 4000000 in
theorem lock_cl (W : World) {l : Loc} {s : SS} (h : Sh W l s) (a who : Int) (r : Int) (HRr : Aside0 ((takeR s.L a who).1 = r)) (d : Bool) (hd : (r == 0) = d) (eb g3 g4 : Nat) (v0 v3 v4 v5 : Value) (he : W.heap[eb]? = some (.cells #[v0, .pointer (some ⟨l.tp, 0, none⟩), .int .i64 who, v3, v4, v5] 73 (0, 0))) (hg3 : W.heap[g3]? = some (.cells #[.pointer (some ⟨eb, 0, none⟩)] 71 (0, 0))) (hg4 : W.heap[g4]? = some (.cells #[.int .i64 a] 3 (0, 0))) (xg4 : ¬ l.X g4) :
    Calls Try.prog 51 #[.pointer (some ⟨g3, 0, none⟩), .pointer (some ⟨g4, 0, none⟩)] W (fun e w' => e = .returned (.tuple #[.int .u64 0, .bool d]) ∧ Sh w' l { s with L := (takeR s.L a who).2 } ∧ Fr l.X W w') := by
  have hu := Try.underlying73
  have hu2 := Try.underlying90
  obtain ⟨D, hR, hD, hP⟩ := h.rg
  have cg3 := ptr_cell hg3
  have xg3 : ¬ l.X g3 := h.apart hg3 (by decide) (by decide) (by decide) (by decide) (by decide)
  have cg4 := ptr_cell hg4
  have xe : ¬ l.X eb := h.apart he (by decide) (by decide) (by decide) (by decide) (by decide)
  have ce1 : W.cell? ⟨eb, 1, none⟩ = some (.pointer (some ⟨l.tp, 0, none⟩)) := (blk_cell he 1).trans rfl
  have ce2 : W.cell? ⟨eb, 2, none⟩ = some (.int .i64 who) := (blk_cell he 2).trans rfl
  have HS := Aside0.mk h
  have HR := Aside0.mk hR
  have HD := Aside0.mk hD
  have HP := Aside0.mk hP
  have HE := Aside0.mk he
  have Hg3 := Aside0.mk hg3
  have Hg4 := Aside0.mk hg4
  clear h hR hD hP he hg3 hg4
  go_enter Try.func51, Try.ntmps51
  go_wp2_with fail
  go_region_held3 (fun w' => w'.cell? ⟨g3, 0, none⟩ = some (.pointer (some ⟨eb, 0, none⟩)) ∧ w'.cell? ⟨g4, 0, none⟩ = some (.int .i64 a) ∧ w'.cell? ⟨eb, 1, none⟩ = some (.pointer (some ⟨l.tp, 0, none⟩)) ∧ w'.cell? ⟨eb, 2, none⟩ = some (.int .i64 who)) (go_keep)
    ((go_at_call 52; refine (Lk.take_callsO _ _ _ _ (HS.out.tb.below (Below.refl _ _).drew) a who).mono ?_; rintro e w5 ⟨he5, hR5, hF⟩; rw [HRr.out] at he5; subst he5; have hF5 : Fr l.TX _ w5 := hF.fr (.inl rfl) (.inr rfl); clear hF; have HR5 := Aside0.mk hR5; have HF5 := Aside0.mk (Fr.undrew hF5); clear hR5 hF5; have kg3 := ptr_cell (HF5.out.keeps Hg3.out (fun h => xg3 (Loc.tx _ h))); have kg4 := ptr_cell (HF5.out.keeps Hg4.out (fun h => xg4 (Loc.tx _ h))); have ke1 : w5.cell? ⟨eb, 1, none⟩ = some (.pointer (some ⟨l.tp, 0, none⟩)) := (blk_cell (HF5.out.keeps HE.out (fun h => xe (Loc.tx _ h))) 1).trans rfl; have ke2 : w5.cell? ⟨eb, 2, none⟩ = some (.int .i64 who) := (blk_cell (HF5.out.keeps HE.out (fun h => xe (Loc.tx _ h))) 2).trans rfl))
  go_wp2_with fail
  go_ret2
  exact ⟨rfl, HS.out.ofTb (W := W) HF5.out HR5.out, HF5.out.mono Loc.tx⟩
set_option maxRecDepth 100000 in
set_option maxHeartbeats 4000000 in
theorem unlock_cl (W : World) {l : Loc} {s : SS} (h : Sh W l s) (a who : Int) (eb g3 g4 : Nat) (v0 v3 v4 v5 : Value) (he : W.heap[eb]? = some (.cells #[v0, .pointer (some ⟨l.tp, 0, none⟩), .int .i64 who, v3, v4, v5] 73 (0, 0))) (hg3 : W.heap[g3]? = some (.cells #[.pointer (some ⟨eb, 0, none⟩)] 71 (0, 0))) (hg4 : W.heap[g4]? = some (.cells #[.int .i64 a] 3 (0, 0))) (xg4 : ¬ l.X g4) :
    Calls Try.prog 53 #[.pointer (some ⟨g3, 0, none⟩), .pointer (some ⟨g4, 0, none⟩)] W (Ans fun _ w' => Sh w' l { s with L := (leaveR s.L a who).2 } ∧ Fr l.X W w') := by
  have hu := Try.underlying73
  have hu2 := Try.underlying90
  obtain ⟨D, hR, hD, hP⟩ := h.rg
  have cg3 := ptr_cell hg3
  have xg3 : ¬ l.X g3 := h.apart hg3 (by decide) (by decide) (by decide) (by decide) (by decide)
  have cg4 := ptr_cell hg4
  have xe : ¬ l.X eb := h.apart he (by decide) (by decide) (by decide) (by decide) (by decide)
  have ce1 : W.cell? ⟨eb, 1, none⟩ = some (.pointer (some ⟨l.tp, 0, none⟩)) := (blk_cell he 1).trans rfl
  have ce2 : W.cell? ⟨eb, 2, none⟩ = some (.int .i64 who) := (blk_cell he 2).trans rfl
  have HS := Aside0.mk h
  have HR := Aside0.mk hR
  have HD := Aside0.mk hD
  have HP := Aside0.mk hP
  have HE := Aside0.mk he
  have Hg3 := Aside0.mk hg3
  have Hg4 := Aside0.mk hg4
  clear h hR hD hP he hg3 hg4
  go_enter Try.func53, Try.ntmps53
  go_wp2_with fail
  go_region_held3 (fun w' => w'.cell? ⟨g3, 0, none⟩ = some (.pointer (some ⟨eb, 0, none⟩)) ∧ w'.cell? ⟨g4, 0, none⟩ = some (.int .i64 a) ∧ w'.cell? ⟨eb, 1, none⟩ = some (.pointer (some ⟨l.tp, 0, none⟩)) ∧ w'.cell? ⟨eb, 2, none⟩ = some (.int .i64 who)) (go_keep)
    ((go_at_call 54; refine (Lk.leave_callsO _ _ _ _ (HS.out.tb.below (Below.refl _ _).drew) a who).mono ?_; rintro e w5 ⟨he5, hR5, hF⟩; generalize (leaveR s.L a who).1 = r at he5; subst he5; have hF5 : Fr l.TX _ w5 := hF.fr (.inl rfl) (.inr rfl); clear hF; have HR5 := Aside0.mk hR5; have HF5 := Aside0.mk (Fr.undrew hF5); clear hR5 hF5; have kg3 := ptr_cell (HF5.out.keeps Hg3.out (fun h => xg3 (Loc.tx _ h))); have kg4 := ptr_cell (HF5.out.keeps Hg4.out (fun h => xg4 (Loc.tx _ h))); have ke1 : w5.cell? ⟨eb, 1, none⟩ = some (.pointer (some ⟨l.tp, 0, none⟩)) := (blk_cell (HF5.out.keeps HE.out (fun h => xe (Loc.tx _ h))) 1).trans rfl; have ke2 : w5.cell? ⟨eb, 2, none⟩ = some (.int .i64 who) := (blk_cell (HF5.out.keeps HE.out (fun h => xe (Loc.tx _ h))) 2).trans rfl))
  go_wp2_with fail
  go_ret
  exact ⟨_, rfl, HS.out.ofTb (W := W) HF5.out HR5.out, HF5.out.mono Loc.tx⟩
end Go.Proofs.Ytmolflmljneelaa.En
/- Env.step over its closures: done, blocked; the closure of Do. -/
namespace Go.Proofs.Ytmolflmljneelaa.En
open Go.RowKit Go.Proofs.YtmolflmljneelaaW.PrintWords Go.Proofs.YtmolflmljneelaaW.PrintLast Go.Proofs.YtmolflmljneelaaW.PrintMore
open Pm (Fr Rg Row thereB pendAt WFD) 
open Lk (Tbl takeR leaveR ownerV Only)
set_option linter.unusedSimpArgs false
set_option linter.unusedVariables false
theorem Sh.fr {Y : Nat → Prop} {W W' : World} {l : Loc} {s : SS} (h : Sh W l s) (hf : Fr Y W W') (hY : ∀ b, Y b → ¬ l.X b) : Sh W' l s := by
  have no : ∀ b, l.X b → ¬ Y b := fun b hx hy => hY b hy hx
  obtain ⟨D, r1, r2⟩ := h.rg
  obtain ⟨k, hk⟩ := h.tb.tp
  exact ⟨⟨D, Rg.fr r1 hf (no _ (.inl rfl)) (no _ (.inr (.inl rfl))) (no _ (.inr (.inr (.inl rfl)))) (no _ (.inr (.inr (.inr (.inl rfl))))), r2⟩,
    ⟨h.tb.ne, ⟨k, hf.keeps hk (no _ (.inr (.inr (.inr (.inr (.inl rfl))))))⟩, hf.keeps h.tb.tg (no _ (.inr (.inr (.inr (.inr (.inr (.inl rfl)))))))⟩, hf.keeps h.cn (no _ (.inr (.inr (.inr (.inr (.inr (.inr rfl))))))), h.nn⟩
/-- What a deed's step may turn: the shared things, its Env, the row of what was told. -/
def StX (l : Loc) (eb : Nat) (v : Value) (b : Nat) : Prop := l.X b ∨ b = eb ∨ v.ownBlock = some b
/-- A step was done: it told y, the shared things are s'; H: the blocks that lay ahead of it. -/
def Done (H : Nat) (l : Loc) (B eb : Nat) (who : Int) (v : Value) (T : List Int) (s' : SS) (C : Int → Prop) (y : Int) (w' : World) : Prop :=
  C y ∧ Sh w' l s' ∧ ∃ g cap, En w' l B eb who (.slice (some ⟨g, 0, none⟩) (T.length + 1) cap) (T ++ [y]) (T.length + 1) 0 ∧ (v.ownBlock = some g ∨ H ≤ g)
theorem Done.mono {H H' : Nat} {l : Loc} {B eb : Nat} {who : Int} {v : Value} {T : List Int} {s' : SS} {C : Int → Prop} {y : Int} {w' : World} (h : Done H l B eb who v T s' C y w') (hH : H' ≤ H) : Done H' l B eb who v T s' C y w' :=
  let ⟨h1, h2, g, cap, h3, h4⟩ := h; ⟨h1, h2, g, cap, h3, h4.imp id (fun h => Nat.le_trans hH h)⟩
theorem En.farX {W : World} {l : Loc} {s : SS} {B eb : Nat} {who : Int} {v : Value} {T : List Int} {at_ left : Nat} (h : En W l B eb who v T at_ left) (hs : Sh W l s) : ∀ b, b = eb ∨ v.ownBlock = some b → ¬ l.X b := by
  rintro b (rfl | hg)
  · exact hs.apart h.tp (by decide) (by decide) (by decide) (by decide) (by decide)
  · obtain ⟨_, _, c, hc⟩ := h.own.lt hg
    exact hs.apart49 hc (h.apt b hg).1 (h.apt b hg).2
theorem done_of {W w1 w' : World} {l : Loc} {s s' : SS} {B eb g cap : Nat} {who y : Int} {v : Value} {T : List Int} {C : Int → Prop} (hS : Sh W l s) (h : En W l B eb who v T T.length 1) (hC : C y) (h1 : Sh w1 l s') (hf : Fr l.X W w1)
    (hE : En w' l B eb who (.slice (some ⟨g, 0, none⟩) (T.length + 1) cap) (T ++ [y]) (T.length + 1) 0) (hf2 : Fr (fun b => b = eb ∨ v.ownBlock = some b) w1 w') (hg : v.ownBlock = some g ∨ W.heap.size ≤ g) : Done W.heap.size l B eb who v T s' C y w' ∧ Fr (StX l eb v) W w' :=
  ⟨⟨hC, h1.fr hf2 ((h.frX hS hf).farX h1), g, cap, hE, hg⟩, (hf.mono (fun b hb => .inl hb)).trans (hf2.mono (fun b hb => .inr hb))⟩
theorem step_done56 (W : World) {l : Loc} {s : SS} (hS : Sh W l s) {B eb : Nat} {who : Int} {v : Value} {T : List Int} (h : En W l B eb who v T T.length 1) (h40 : T.length < 40) (hB : B ≤ W.heap.size) (gf K : Nat) (caps : Array Value) (hg : W.heap[gf]? = some (.cells #[.func (.func K) #[] caps] 80 (0, 0)))
    (hK : ∀ w, (callFunc K caps).run Try.prog w = .ok (.enter K caps) w) (C : Int → Prop) (s' : SS) (hcl : ∀ W1, Below W.heap.size W W1 → Calls Try.prog K caps W1 (Ans fun z w' => C z ∧ Sh w' l s' ∧ Fr l.X W1 w')) :
    Calls Try.prog 41 #[.pointer (some ⟨eb, 0, none⟩), .func (.func 56) #[] #[.pointer (some ⟨gf, 0, none⟩)]] W (Ans fun y w' => Done W.heap.size l B eb who v T s' C y w' ∧ Fr (StX l eb v) W w') := by
  refine (step_done W h h40 hB 56 #[.pointer (some ⟨gf, 0, none⟩)] (fun z w' => C z ∧ Sh w' l s' ∧ Fr l.X W w') (enter56 _) (fun W1 hb => ?_)).mono ?_
  · refine (always1_calls W1 gf K caps (blk_below hg hb) _ hK (hcl W1 hb)).mono ?_
    rintro e w' ⟨x, rfl, hC, h1, hf⟩
    have hfW : Fr l.X W w' := (Fr.of hb).trans hf
    exact ⟨x, rfl, ⟨hC, h1, hfW⟩, h.frX hS hfW, hfW.size⟩
  · rintro e w' ⟨x, g, cap, w1, rfl, ⟨hC, h1, hf⟩, hE, hf2, hg2⟩
    exact ⟨x, rfl, done_of hS h hC h1 hf hE hf2 hg2⟩
theorem step_done51 (W : World) {l : Loc} {s : SS} (hS : Sh W l s) {B eb : Nat} {who : Int} {v : Value} {T : List Int} (h : En W l B eb who v T T.length 1) (h40 : T.length < 40) (hB : B ≤ W.heap.size) (g3 g4 : Nat) (a : Int)
    (h3 : W.heap[g3]? = some (.cells #[.pointer (some ⟨eb, 0, none⟩)] 71 (0, 0))) (h4 : W.heap[g4]? = some (.cells #[.int .i64 a] 3 (0, 0))) (x4 : ¬ l.X g4) (hr : (takeR s.L a who).1 = 0) :
    Calls Try.prog 41 #[.pointer (some ⟨eb, 0, none⟩), .func (.func 51) #[] #[.pointer (some ⟨g3, 0, none⟩), .pointer (some ⟨g4, 0, none⟩)]] W (Ans fun y w' => Done W.heap.size l B eb who v T { s with L := (takeR s.L a who).2 } (fun _ => True) y w' ∧ Fr (StX l eb v) W w') := by
  refine (step_done W h h40 hB 51 _ (fun z w' => Sh w' l { s with L := (takeR s.L a who).2 } ∧ Fr l.X W w') (enter51 _) (fun W1 hb => ?_)).mono ?_
  · refine (lock_cl W1 (hS.below hb) a who 0 (Aside0.mk hr) true rfl eb g3 g4 _ _ _ _ (blk_below h.tp hb) (blk_below h3 hb) (blk_below h4 hb) x4).mono ?_
    rintro e w' ⟨rfl, h1, hf⟩
    have hfW : Fr l.X W w' := (Fr.of hb).trans hf
    exact ⟨0, rfl, ⟨h1, hfW⟩, h.frX hS hfW, hfW.size⟩
  · rintro e w' ⟨x, g, cap, w1, rfl, ⟨h1, hf⟩, hE, hf2, hg2⟩
    exact ⟨x, rfl, done_of hS h trivial h1 hf hE hf2 hg2⟩
theorem take_blocked {L : List Int} {a who : Int} (h : (takeR L a who).1 ≠ 0) : (takeR L a who).2 = L := by
  unfold takeR at h ⊢
  split
  · rename_i h1
    rw [if_pos h1] at h
    split
    · rename_i h2
      rw [if_pos h2] at h
      exact absurd rfl h
    · rfl
  · rfl
theorem step_block51 (W : World) {l : Loc} {s : SS} (hS : Sh W l s) {B eb : Nat} {who : Int} {v : Value} {T : List Int} (h : En W l B eb who v T T.length 1) (h40 : T.length < 40) (g3 g4 : Nat) (a : Int)
    (h3 : W.heap[g3]? = some (.cells #[.pointer (some ⟨eb, 0, none⟩)] 71 (0, 0))) (h4 : W.heap[g4]? = some (.cells #[.int .i64 a] 3 (0, 0))) (x4 : ¬ l.X g4) (hr : (takeR s.L a who).1 ≠ 0) :
    Calls Try.prog 41 #[.pointer (some ⟨eb, 0, none⟩), .func (.func 51) #[] #[.pointer (some ⟨g3, 0, none⟩), .pointer (some ⟨g4, 0, none⟩)]] W fun e w' => e = .panicked [{ v := .iface 98 (.agg #[.bool true]), recovered := false }] ∧ Sh w' l s ∧ Fr l.X W w' := by
  refine (step_block W h h40 51 _ (fun w' => Sh w' l s ∧ Fr l.X W w') (enter51 _) (fun W1 hb => ?_))
  refine (lock_cl W1 (hS.below hb) a who _ (Aside0.mk rfl) false (by simpa using hr) eb g3 g4 _ _ _ _ (blk_below h.tp hb) (blk_below h3 hb) (blk_below h4 hb) x4).mono ?_
  rintro e w' ⟨rfl, h1, hf⟩
  rw [take_blocked hr] at h1
  exact ⟨⟨0, rfl⟩, h1, (Fr.of hb).trans hf⟩
/-- What Do's closure does: it counts, and answers the ask's word. -/
theorem do_cl (W : World) {l : Loc} {s : SS} (h : Sh W l s) (hc : 0 ≤ s.c ∧ s.c ≤ 1000) (gc go : Nat) (k a x : Int) (h1 : W.heap[gc]? = some (.cells #[.pointer (some ⟨l.cb, 0, none⟩)] 34 (0, 0))) (h2 : W.heap[go]? = some (.cells #[.int .u8 k, .int .i64 a, .int .u64 x] 51 (0, 0))) :
    Calls Try.prog 29 #[.pointer (some ⟨gc, 0, none⟩), .pointer (some ⟨go, 0, none⟩)] W (Ans fun z w' => z = x ∧ Sh w' l { s with c := s.c + 1 } ∧ Fr l.X W w') := by
  have hu := Try.underlying51
  have hu2 := Try.underlying36
  have c1 := ptr_cell h1
  have c2 : W.cell? ⟨go, 2, none⟩ = some (.int .u64 x) := (blk_cell h2 2).trans rfl
  have cc : W.cell? ⟨l.cb, 0, none⟩ = some (.int .i64 s.c) := ptr_cell h.cn
  have fc : W.frozen? ⟨l.cb, 0, none⟩ = false := blk_frozen h.cn 0
  have ne : ¬ go = l.cb := type_ne h2 h.cn (by decide)
  have hc0 := hc.1
  have hc1 := hc.2
  have HF := Aside0.mk ((Fr.refl (fun b => b = l.cb) W).setCell (p := ⟨l.cb, 0, none⟩) (.inl rfl) (.int .i64 (s.c + 1)))
  have HS := Aside0.mk h
  clear h h1 h2 hc
  go_enter Try.func29, Try.ntmps29
  go_wp2
  go_ret
  exact ⟨_, rfl, rfl, HS.out.ofCn HF.out (blk_put HS.out.cn 0 _ rfl), HF.out.mono (fun b hb => .inr (.inr (.inr (.inr (.inr (.inr hb))))))⟩
end Go.Proofs.Ytmolflmljneelaa.En
