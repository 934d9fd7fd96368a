/- Parts of one proof, set together: En8, En9, En10, En11, En12, En13. What each says stands at its head; no condition beyond theirs. -/
import Derived.Test.YtmolflmljneelaaEs9
import Derived.Defers
import Derived.Laws.Pointers
import Derived.Recover
import Derived.Tactics
import Derived.Tactics2
/- Run.goes: what it defers; its three ways. -/
namespace Go.Proofs.Ytmolflmljneelaa.En
open Go.RowKit Go.Proofs.YtmolflmljneelaaW.PrintWords Go.Proofs.YtmolflmljneelaaW.PrintLast Go.Proofs.YtmolflmljneelaaW.PrintMore
open Pm (Fr Rg Row thereB pendAt WFD) 
open Lk (Tbl takeR leaveR ownerV Only)
set_option linter.unusedSimpArgs false
set_option linter.unusedVariables false
theorem wp_letter {P : Program} {c : Code} {Q : Exit → Act → World → Prop} {a : Act} {w : World} (h : ∀ Q0 : Exit → Act → World → Prop, Aside0 (∀ e a w, Q e a w → Q0 e a w) → c.wp P Q0 a w) : c.wp P Q a w := h Q ⟨fun _ _ _ h => h⟩
theorem catch_idle (p : Addr) (w : World) :
    CallsD Try.prog 55 #[.pointer (some p)] .returning w fun e u' w' => e = .returned (.tuple #[]) ∧ u' = .returning ∧ w' = w := by
  refine callsD_of_wpS Try.func55 rfl fun c₀ cs hu => ?_
  apply wpS_seq
  apply wpS_region
  simp [wpOpsS, go_sem, recoverD, hu, Try.ntmps55, Exit.thenS]
  refine wpS_of_wp ?_
  refine wp_letter (fun Q0 hQ => ?_)
  change Code.wp Try.prog _ Q0 { tmps := #[.pointer (some p), .nilIface, undef, undef, .nilIface, undef, undef, undef, undef, undef, undef, undef, undef, undef, undef, undef, undef], defers := [] } w
  go_wp2
  refine hQ.out _ _ _ ?_
  cases c₀
  simp_all [bodyPostS, results, Try.results55]
theorem assert_halt (b : Bool) (w : World) : (Instr.typeAssert (.iface 98 (.agg #[.bool b])) 20 98 true).run Try.prog w = .ok (.tuple #[.agg #[.bool b], .bool true]) w := by kernel_rfl
set_option maxRecDepth 100000 in
theorem catch_halt (pb : Nat) (x : Int) (b : Bool) (older : List PanicEntry) (w : World) (hb : w.heap[pb]? = some (.cells #[.int .i64 x] 3 (0, 0))) :
    CallsD Try.prog 55 #[.pointer (some ⟨pb, 0, none⟩)] (.panicking ({ v := .iface 98 (.agg #[.bool b]), recovered := false } :: older)) w fun e u' w' =>
      e = .returned (.tuple #[]) ∧ u' = .panicking ({ v := .iface 98 (.agg #[.bool b]), recovered := true } :: older) ∧ ∃ w1, w1 = (w.alloc (.cells #[.bool b] 98)).setCell ⟨pb, 0, none⟩ (.int .i64 0) ∧ w' = if b then w1.setCell ⟨pb, 0, none⟩ (.int .i64 1) else w1 := by
  have hb2 := blk_alloc hb (.cells #[.bool b] 98)
  have hc := ptr_cell hb2
  have hz := blk_frozen hb2 0
  have hlt := blk_lt hb
  have hne : ¬ pb = w.heap.size := by omega
  clear hb hb2
  refine callsD_of_wpS Try.func55 rfl fun c₀ cs hu => ?_
  apply wpS_seq
  apply wpS_region
  simp [wpOpsS, go_sem, recoverD, hu, Try.ntmps55, Exit.thenS]
  refine wpS_of_wp ?_
  refine wp_letter (fun Q0 hQ => ?_)
  have hu1 := Try.underlying98
  have hta := assert_halt b
  change Code.wp Try.prog _ Q0 { tmps := #[.pointer (some ⟨pb, 0, none⟩), (.iface 98 (.agg #[.bool b])), undef, undef, (.iface 98 (.agg #[.bool b])), undef, undef, undef, undef, undef, undef, undef, undef, undef, undef, undef, undef], defers := [] } w
  clear hlt
  cases b
  all_goals
    go_wp2_with fail
    refine hQ.out _ _ _ ?_
    cases c₀
    simp_all [bodyPostS, results, Try.results55]
end Go.Proofs.Ytmolflmljneelaa.En
/- Run.goes with one step: where the deed answers, where it is stopped. -/
namespace Go.Proofs.Ytmolflmljneelaa.En
open Go.RowKit Go.Proofs.YtmolflmljneelaaW.PrintWords Go.Proofs.YtmolflmljneelaaW.PrintLast Go.Proofs.YtmolflmljneelaaW.PrintMore
open Pm (Fr Rg Row thereB pendAt WFD) 
open Lk (Tbl takeR leaveR ownerV Only)
set_option linter.unusedSimpArgs false
set_option linter.unusedVariables false
/-- A run at block rb: its Env, its deed, whether it is over, what it answered (U, the slice av). -/
structure Rn (W : World) (l : Loc) (B rb eb gl gc : Nat) (ad : Option Addr) (n cap : Nat) (who : Int) (v : Value) (T : List Int) (over : Bool) (av : Value) (U : List Int) : Prop where
  tp : W.heap[rb]? = some (.cells #[.pointer (some ⟨eb, 0, none⟩), .func (.func 21) #[] #[.pointer (some ⟨gl, 0, none⟩), .pointer (some ⟨gc, 0, none⟩)], .bool over, av] 75 (0, 0))
  dl : W.heap[gl]? = some (.cells #[.slice ad n cap] 39 (0, 0))
  dc : W.heap[gc]? = some (.cells #[.pointer (some ⟨l.cb, 0, none⟩)] 34 (0, 0))
  en : ∃ i left, En W l B eb who v T i left
  aw : Wds W B av U
set_option maxRecDepth 100000 in
theorem goes_over (W : World) {l : Loc} {B rb eb gl gc n cap : Nat} {ad : Option Addr} {who : Int} {v av : Value} {T U : List Int} (h : Rn W l B rb eb gl gc ad n cap who v T true av U) (k : Int) :
    Calls Try.prog 30 #[.pointer (some ⟨rb, 0, none⟩), .int .i64 k] W fun e w' => e = .returned (.int .i64 2) ∧ Below W.heap.size W w' := by
  have h2 : W.cell? ⟨rb, 2, none⟩ = some (.bool true) := (blk_cell h.tp 2).trans rfl
  have hlt := blk_lt h.tp
  have hne : ¬ rb = W.heap.size := by omega
  have hmf := mkfunc
  have hu := Try.underlying75
  clear h
  go_enter_defers Try.func30, Try.ntmps30
  go_wp2
  simp [bodyPostD, Leaves, settle, results, Try.results30, go_sem]
  exact (Below.refl _ _).alloc (Nat.le_refl _) _
theorem Wds.base {W : World} {B B' : Nat} {v : Value} {T : List Int} (h : Wds W B v T) (hB : B' ≤ B) : Wds W B' v T := by
  obtain ⟨h0, h1 | ⟨g, cap, cur, h1, hb, h2⟩⟩ := h
  · exact ⟨h0, .inl h1⟩
  · exact ⟨h0, .inr ⟨g, cap, cur, h1, Nat.le_trans hB hb, h2⟩⟩
/-- The deed answers now. -/
def Answers (N : Nat) (who : Int) (A : Nat → AskN) (T : List Int) (s : SS) (n : Nat) : Prop := T.length = n ∨ T.length + 1 = n ∧ actD N who A T s ≠ none
/-- What a deed that answers leaves: the Env's row, what was told, the shared things. -/
def AnsO (H : Nat) (l : Loc) (B eb : Nat) (who : Int) (v : Value) (T : List Int) (n : Nat) (A : Nat → AskN) (s : SS) (tv : Value) (w' : World) : Prop :=
  ∃ v' T' s', (T.length = n ∧ v' = v ∧ T' = T ∧ s' = s ∨ T.length + 1 = n ∧ actD l.N who A T s = some s' ∧ (∃ y g cap, tellsD l.N A T s y ∧ T' = T ++ [y] ∧ v' = .slice (some ⟨g, 0, none⟩) (T.length + 1) cap ∧ (v.ownBlock = some g ∨ H ≤ g))) ∧ Wds w' H tv (told A T' n) ∧ Two tv v'.ownBlock ∧ Sh w' l s' ∧ ∃ i left, En w' l B eb who v' T' i left
/-- What a deed that is stopped leaves; b: was it blocked? -/
def HaltO (H : Nat) (l : Loc) (B eb : Nat) (who : Int) (v : Value) (T : List Int) (A : Nat → AskN) (s : SS) (b : Bool) (w' : World) : Prop :=
  ∃ v' T' s', (b = true ∧ actD l.N who A T s = none ∧ v' = v ∧ T' = T ∧ s' = s ∨ b = false ∧ actD l.N who A T s = some s' ∧ (∃ y g cap, tellsD l.N A T s y ∧ T' = T ++ [y] ∧ v' = .slice (some ⟨g, 0, none⟩) (T.length + 1) cap ∧ (v.ownBlock = some g ∨ H ≤ g))) ∧ Sh w' l s' ∧ ∃ i left, En w' l B eb who v' T' i left
section
variable (W : World) {l : Loc} {s : SS} {B eb : Nat} {who : Int} {v : Value} {T : List Int} (hS : Sh W l s) (h : En W l B eb who v T 0 1) (hB : B ≤ W.heap.size) (gl gc : Nat) (ad : Option Addr) (n cap : Nat) (A : Nat → AskN)
    (hl : W.heap[gl]? = some (.cells #[.slice ad n cap] 39 (0, 0))) (hc : W.heap[gc]? = some (.cells #[.pointer (some ⟨l.cb, 0, none⟩)] 34 (0, 0))) (hA : AskM W (StX l eb v) ad n A) (hn : n ≤ 40) (hT : T.length ≤ n) (hnb : s.n ≤ 1000) (hcb : 0 ≤ s.c ∧ s.c ≤ 1000)
include hS h hB hl hc hA hn hT hnb hcb
theorem deed_ans (ha : Answers l.N who A T s n) : Calls Try.prog 21 #[.pointer (some ⟨eb, 0, none⟩), .pointer (some ⟨gl, 0, none⟩), .pointer (some ⟨gc, 0, none⟩)] W fun e w' => ∃ a k c, e = .returned (.slice a k c) ∧ AnsO W.heap.size l B eb who v T n A s (.slice a k c) w' ∧ Fr (StX l eb v) W w' := by
  refine (deed_run W hS h hB gl gc ad n cap A hl hc hA hn hT hnb hcb).mono ?_
  rintro e w' ⟨ho, hf⟩
  rcases ho with ⟨h1, tv, he, ht, h2, h3, h4⟩ | ⟨h1, s', h5, y, g, cp, tv, he, hy, ht, h2, h3, h4, hg⟩ | ⟨h1, s', h5, _⟩ | ⟨h1, h5, _⟩
  · obtain ⟨a, c, rfl⟩ := ht.form
    exact ⟨a, _, c, he, ⟨v, T, s, .inl ⟨h1, rfl, rfl, rfl⟩, ht, h2, h3, _, _, h4⟩, hf⟩
  · obtain ⟨a, c, rfl⟩ := ht.form
    exact ⟨a, _, c, he, ⟨_, T ++ [y], s', .inr ⟨h1, h5, y, g, cp, hy, rfl, rfl, hg⟩, ht, h2, h3, _, _, h4⟩, hf⟩
  · rcases ha with ha | ⟨ha, _⟩ <;> omega
  · rcases ha with ha | ⟨ha, hb⟩
    · omega
    · exact absurd h5 hb
theorem deed_halt (ha : ¬ Answers l.N who A T s n) : Calls Try.prog 21 #[.pointer (some ⟨eb, 0, none⟩), .pointer (some ⟨gl, 0, none⟩), .pointer (some ⟨gc, 0, none⟩)] W fun e w' => ∃ b, e = .panicked (haltS b) ∧ HaltO W.heap.size l B eb who v T A s b w' ∧ Fr (StX l eb v) W w' := by
  refine (deed_run W hS h hB gl gc ad n cap A hl hc hA hn hT hnb hcb).mono ?_
  rintro e w' ⟨ho, hf⟩
  rcases ho with ⟨h1, _⟩ | ⟨h1, s', h5, _⟩ | ⟨h1, s', h5, y, g, cp, he, hy, h3, h4, hg⟩ | ⟨h1, h5, he, h3, h4⟩
  · exact absurd (.inl h1) ha
  · exact absurd (.inr ⟨h1, by rw [h5]; simp⟩) ha
  · exact ⟨false, he, ⟨_, T ++ [y], s', .inr ⟨rfl, h5, y, g, cp, hy, rfl, rfl, hg⟩, h3, _, _, h4⟩, hf⟩
  · exact ⟨true, he, ⟨v, T, s, .inl ⟨rfl, h5, rfl, rfl, rfl⟩, h3, _, _, h4⟩, hf⟩
end
theorem AskM.mono {W : World} {X Y : Nat → Prop} {ad : Option Addr} {n : Nat} {A : Nat → AskN} (h : AskM W X ad n A) (hY : ∀ b, Y b → X b) : AskM W Y ad n A :=
  ⟨fun i hi => let ⟨y, e, h1, h2, h3⟩ := h.at_ i hi; ⟨y, e, h1, fun hy => h2 (hY _ hy), h3⟩, h.kd⟩
/-- What a run's step may turn. -/
def RnX (l : Loc) (eb : Nat) (v : Value) (rb b : Nat) : Prop := StX l eb v b ∨ b = rb
/-- A run that answered now. -/
def RunA (H : Nat) (l : Loc) (B rb eb gl gc : Nat) (ad : Option Addr) (n cap : Nat) (who : Int) (v : Value) (T : List Int) (A : Nat → AskN) (s : SS) (w' : World) : Prop :=
  ∃ v' T' s' tv, (T.length = n ∧ v' = v ∧ T' = T ∧ s' = s ∨ T.length + 1 = n ∧ actD l.N who A T s = some s' ∧ (∃ y g cap, tellsD l.N A T s y ∧ T' = T ++ [y] ∧ v' = .slice (some ⟨g, 0, none⟩) (T.length + 1) cap ∧ (v.ownBlock = some g ∨ H ≤ g))) ∧
    Sh w' l s' ∧ Rn w' l B rb eb gl gc ad n cap who v' T' true tv (told A T' n) ∧ Two tv v'.ownBlock ∧ ∀ g, tv.ownBlock = some g → H ≤ g
/-- A run that was stopped. -/
def RunH (H : Nat) (l : Loc) (B rb eb gl gc : Nat) (ad : Option Addr) (n cap : Nat) (who : Int) (v : Value) (T : List Int) (A : Nat → AskN) (s : SS) (b : Bool) (w' : World) : Prop :=
  ∃ v' T' s', (b = true ∧ actD l.N who A T s = none ∧ v' = v ∧ T' = T ∧ s' = s ∨ b = false ∧ actD l.N who A T s = some s' ∧ (∃ y g cap, tellsD l.N A T s y ∧ T' = T ++ [y] ∧ v' = .slice (some ⟨g, 0, none⟩) (T.length + 1) cap ∧ (v.ownBlock = some g ∨ H ≤ g))) ∧
    Sh w' l s' ∧ Rn w' l B rb eb gl gc ad n cap who v' T' false (.slice none 0 0) []
theorem ans_fin {W W5 w6 w7 : World} {l : Loc} {s : SS} {B rb eb gl gc n cap tb : Nat} {ad : Option Addr} {who : Int} {v tv av : Value} {T : List Int} {A : Nat → AskN} (hW : W.heap.size ≤ W5.heap.size) (hB : B ≤ W.heap.size) (h : AnsO W5.heap.size l B eb who v T n A s tv w6) (hf : Fr (fun b => b = rb ∨ b = tb) w6 w7)
    (hr6 : w6.heap[rb]? = some (.cells #[.pointer (some ⟨eb, 0, none⟩), .func (.func 21) #[] #[.pointer (some ⟨gl, 0, none⟩), .pointer (some ⟨gc, 0, none⟩)], .bool false, av] 75 (0, 0))) (ht6 : w6.heap[tb]? = some (.cells #[.int .i64 0] 3 (0, 0))) (htb : W.heap.size ≤ tb) (hS0 : Sh W l s)
    (hl : w6.heap[gl]? = some (.cells #[.slice ad n cap] 39 (0, 0))) (hc : w6.heap[gc]? = some (.cells #[.pointer (some ⟨l.cb, 0, none⟩)] 34 (0, 0)))
    (hr : w7.heap[rb]? = some (.cells #[.pointer (some ⟨eb, 0, none⟩), .func (.func 21) #[] #[.pointer (some ⟨gl, 0, none⟩), .pointer (some ⟨gc, 0, none⟩)], .bool true, tv] 75 (0, 0))) :
    RunA W.heap.size l B rb eb gl gc ad n cap who v T A s w7 := by
  obtain ⟨v', T', s', h1, h2, h3, h4, i, left, h5⟩ := h
  have nx : ∀ b, (b = rb ∨ b = tb) → ¬ l.X b := by
    rintro b (rfl | rfl)
    · exact h4.apart hr6 (by decide) (by decide) (by decide) (by decide) (by decide)
    · intro hx
      have := hS0.size _ hx
      omega
  have n49 : ∀ {b : Nat} {c : Array Value}, w6.heap[b]? = some (.cells c 49 (0, 0)) → ¬ (b = rb ∨ b = tb) := by
    rintro b c hb (rfl | rfl)
    · exact type_ne hb hr6 (by decide) rfl
    · exact type_ne hb ht6 (by decide) rfl
  refine ⟨v', T', s', tv, ?_, h4.fr hf nx, ⟨hr, hf.keeps hl ?_, hf.keeps hc ?_, ⟨i, left, h5.fr hf ?_ (fun g hg => ?_)⟩, (h2.base (Nat.le_trans hB hW)).fr hf (fun g hg => ?_)⟩, h3, fun g hg => Nat.le_trans hW (h2.lt hg).1⟩
  · rcases h1 with h1 | ⟨a, b, y, g, cp, c1, c2, c3, c4⟩
    · exact .inl h1
    · exact .inr ⟨a, b, y, g, cp, c1, c2, c3, c4.imp id (fun h => Nat.le_trans hW h)⟩
  · rintro (e | e)
    · exact type_ne hl hr6 (by decide) e
    · exact type_ne hl ht6 (by decide) e
  · rintro (e | e)
    · exact type_ne hc hr6 (by decide) e
    · exact type_ne hc ht6 (by decide) e
  · rintro (e | e)
    · exact type_ne h5.tp hr6 (by decide) e
    · exact type_ne h5.tp ht6 (by decide) e
  · obtain ⟨_, _, c, hc⟩ := h5.own.lt hg
    exact n49 hc
  · obtain ⟨_, _, c, hc⟩ := h2.lt hg
    exact n49 hc
theorem halt_fin {W W5 w6 w7 : World} {l : Loc} {s : SS} {B rb eb gl gc n cap tb : Nat} {ad : Option Addr} {who : Int} {v : Value} {T : List Int} {A : Nat → AskN} {b : Bool} (hW : W.heap.size ≤ W5.heap.size) (h : HaltO W5.heap.size l B eb who v T A s b w6) (hf : Fr (fun b => b = tb) w6 w7)
    (hr6 : w6.heap[rb]? = some (.cells #[.pointer (some ⟨eb, 0, none⟩), .func (.func 21) #[] #[.pointer (some ⟨gl, 0, none⟩), .pointer (some ⟨gc, 0, none⟩)], .bool false, .slice none 0 0] 75 (0, 0))) (ht6 : w6.heap[tb]? = some (.cells #[.int .i64 0] 3 (0, 0))) (htb : W.heap.size ≤ tb) (hS0 : Sh W l s)
    (hl : w6.heap[gl]? = some (.cells #[.slice ad n cap] 39 (0, 0))) (hc : w6.heap[gc]? = some (.cells #[.pointer (some ⟨l.cb, 0, none⟩)] 34 (0, 0))) :
    RunH W.heap.size l B rb eb gl gc ad n cap who v T A s b w7 := by
  obtain ⟨v', T', s', h1, h4, i, left, h5⟩ := h
  refine ⟨v', T', s', ?_, h4.fr hf ?_, ⟨hf.keeps hr6 (type_ne hr6 ht6 (by decide)), hf.keeps hl (type_ne hl ht6 (by decide)), hf.keeps hc (type_ne hc ht6 (by decide)), ⟨i, left, h5.fr hf (type_ne h5.tp ht6 (by decide)) (fun g hg => ?_)⟩, Wds.nil _ _⟩⟩
  · rcases h1 with h1 | ⟨a, b, y, g, cp, c1, c2, c3, c4⟩
    · exact .inl h1
    · exact .inr ⟨a, b, y, g, cp, c1, c2, c3, c4.imp id (fun h => Nat.le_trans hW h)⟩
  · rintro b rfl hx
    have := hS0.size _ hx
    omega
  · obtain ⟨_, _, c, hc⟩ := h5.own.lt hg
    exact type_ne hc ht6 (by decide)
/-- The run with one step to go, its Env set. -/
theorem Rn.set {W W5 : World} {l : Loc} {s : SS} {B rb eb gl gc n cap : Nat} {ad : Option Addr} {who : Int} {v av : Value} {T U : List Int} {A : Nat → AskN} {over : Bool} (h : Rn W l B rb eb gl gc ad n cap who v T over av U) (hS : Sh W l s) (hA : AskM W (StX l eb v) ad n A) (hf : Fr (fun b => b = eb) W W5)
    (he : W5.heap[eb]? = some (.cells #[.pointer (some ⟨l.p, 0, none⟩), .pointer (some ⟨l.tp, 0, none⟩), .int .i64 who, v, .int .i64 0, .int .i64 1] 73 (0, 0))) :
    Sh W5 l s ∧ En W5 l B eb who v T 0 1 ∧ W5.heap[gl]? = some (.cells #[.slice ad n cap] 39 (0, 0)) ∧ W5.heap[gc]? = some (.cells #[.pointer (some ⟨l.cb, 0, none⟩)] 34 (0, 0)) ∧
      W5.heap[rb]? = some (.cells #[.pointer (some ⟨eb, 0, none⟩), .func (.func 21) #[] #[.pointer (some ⟨gl, 0, none⟩), .pointer (some ⟨gc, 0, none⟩)], .bool over, av] 75 (0, 0)) ∧ AskM W5 (StX l eb v) ad n A := by
  obtain ⟨i, left, hE⟩ := h.en
  refine ⟨hS.fr hf (fun b hb hx => ?_), ⟨he, hE.own.fr hf (fun g hg e => ?_), hE.apt, ⟨Nat.lt_of_lt_of_le hE.low.1 hf.size, Nat.lt_of_lt_of_le hE.low.2 hf.size⟩⟩, hf.keeps h.dl (type_ne h.dl hE.tp (by decide)), hf.keeps h.dc (type_ne h.dc hE.tp (by decide)), hf.keeps h.tp (type_ne h.tp hE.tp (by decide)), hA.fr (hf.mono (fun b e => .inr (.inl e)))⟩
  · subst hb
    exact hS.apart hE.tp (by decide) (by decide) (by decide) (by decide) (by decide) hx
  · obtain ⟨_, _, c, hc⟩ := hE.own.lt hg
    exact type_ne hc hE.tp (by decide) e
set_option maxRecDepth 100000 in
theorem goes_ret (W : World) {l : Loc} {s : SS} {B rb eb gl gc n cap : Nat} {ad : Option Addr} {who : Int} {v av : Value} {T U : List Int} {A : Nat → AskN} (h : Rn W l B rb eb gl gc ad n cap who v T false av U) (hS : Sh W l s) (hB : B ≤ W.heap.size) (hA : AskM W (StX l eb v) ad n A) (hn : n ≤ 40) (hT : T.length ≤ n) (hnb : s.n ≤ 1000) (hcb : 0 ≤ s.c ∧ s.c ≤ 1000) (ha : Answers l.N who A T s n) :
    Calls Try.prog 30 #[.pointer (some ⟨rb, 0, none⟩), .int .i64 1] W fun e w' => e = .returned (.int .i64 2) ∧ RunA W.heap.size l B rb eb gl gc ad n cap who v T A s w' ∧ Fr (RnX l eb v rb) W w' := by
  have h2 : W.cell? ⟨rb, 2, none⟩ = some (.bool false) := (blk_cell h.tp 2).trans rfl
  have h0 : W.cell? ⟨rb, 0, none⟩ = some (.pointer (some ⟨eb, 0, none⟩)) := (blk_cell h.tp 0).trans rfl
  have hlt := blk_lt h.tp
  have hne : ¬ rb = W.heap.size := by omega
  have hmf := mkfunc
  have hu := Try.underlying75
  have hu2 := Try.underlying73
  obtain ⟨i0, left0, hE0⟩ := h.en
  have HB1 := Aside0.mk ((Below.refl W.heap.size W).alloc (Nat.le_refl _) (.cells #[.int .i64 0] 3))
  have BT := Aside0.mk (blk_new W (.cells #[.int .i64 0] 3))
  have HR := Aside0.mk h
  have HE0 := Aside0.mk hE0
  have HS := Aside0.mk hS
  have HA := Aside0.mk hA
  have HAN := Aside0.mk ha
  clear h hE0 hS hA ha
  go_enter_defers Try.func30, Try.ntmps30
  go_wp2_with fail
  clear h0 h2 hne hlt
  obtain ⟨tb, htb⟩ : ∃ tb, W.heap.size = tb := ⟨_, rfl⟩
  generalize hw1 : W.alloc (.cells #[.int .i64 0] 3) = W1 at HB1 BT ⊢
  have HTB := Aside0.mk htb
  rw [htb] at HB1 BT ⊢
  clear hw1 htb
  have h10 : W1.cell? ⟨rb, 0, none⟩ = some (.pointer (some ⟨eb, 0, none⟩)) := (blk_cell (blk_below HR.out.tp (HTB.out ▸ HB1.out)) 0).trans rfl
  have E1 := Aside0.mk (HE0.out.below (HTB.out ▸ HB1.out))
  have h14 : W1.cell? ⟨eb, 4, none⟩ = some (.int .i64 i0) := (blk_cell E1.out.tp 4).trans rfl
  have f14 : W1.frozen? ⟨eb, 4, none⟩ = false := blk_frozen E1.out.tp 4
  have h15 : W1.cell? ⟨eb, 5, none⟩ = some (.int .i64 left0) := (blk_cell E1.out.tp 5).trans rfl
  have f15 : W1.frozen? ⟨eb, 5, none⟩ = false := blk_frozen E1.out.tp 5
  have nre : ¬ rb = eb := type_ne HR.out.tp HE0.out.tp (by decide)
  have nre2 : ¬ eb = rb := fun e => nre e.symm
  go_region_held3 (fun w' => w'.cell? ⟨rb, 0, none⟩ = some (.pointer (some ⟨eb, 0, none⟩))) (go_keep) (fail)
  go_upto_region 5 with fail
  have F5 := Aside0.mk ((((Fr.of (X := fun b => b = eb) (HTB.out ▸ HB1.out : Below W.heap.size W W1)).setCell (p := ⟨eb, 4, none⟩) (.inl rfl) (.int .i64 0)).setCell (p := ⟨eb, 5, none⟩) (.inl rfl) (.int .i64 1)).drew1)
  have F15 := Aside0.mk (((((Fr.refl (fun b => b = eb) W1)).setCell (p := ⟨eb, 4, none⟩) (.inl rfl) (.int .i64 0)).setCell (p := ⟨eb, 5, none⟩) (.inl rfl) (.int .i64 1)).drew1)
  have E5 := Aside0.mk (blk_drew (blk_put (blk_put E1.out.tp 4 (.int .i64 0) rfl) 5 (.int .i64 1) rfl))
  generalize hw5 : ((W1.setCell ⟨eb, 4, none⟩ (.int .i64 0)).setCell ⟨eb, 5, none⟩ (.int .i64 1)).drew = W5 at F5 F15 E5 ⊢
  clear hw5 h10 h14 f14 h15 f15
  have P5 := HR.out.set HS.out HA.out F5.out E5.out
  have BT5 := Aside0.mk (F15.out.keeps BT.out (type_ne BT.out E1.out.tp (by decide)))
  have HP := Aside0.mk P5
  have r5 := P5.2.2.2.2.1
  have r50 : W5.cell? ⟨rb, 0, none⟩ = some (.pointer (some ⟨eb, 0, none⟩)) := (blk_cell r5 0).trans rfl
  have r51 : W5.cell? ⟨rb, 1, none⟩ = some (.func (.func 21) #[] #[.pointer (some ⟨gl, 0, none⟩), .pointer (some ⟨gc, 0, none⟩)]) := (blk_cell r5 1).trans rfl
  have HB5 := Aside0.mk (Nat.le_trans hB F5.out.size)
  have DR := Aside0.mk (Below.refl W5.heap.size W5).drew
  clear P5 r5
  go_region_held3 (fun w' => w'.cell? ⟨rb, 0, none⟩ = some (.pointer (some ⟨eb, 0, none⟩)) ∧ w'.cell? ⟨rb, 1, none⟩ = some (.func (.func 21) #[] #[.pointer (some ⟨gl, 0, none⟩), .pointer (some ⟨gc, 0, none⟩)])) (first | go_keep | (refine ⟨(World.cell?_setCell_other _ _ _ _ (by simp)).trans ?_, (World.cell?_setCell_other _ _ _ _ (by simp)).trans ?_⟩ <;> assumption))
    ((go_at_call 21; refine (deed_ans W5.drew (HP.out.1.below DR.out) (HP.out.2.1.below DR.out) HB5.out gl gc ad n cap A (blk_below HP.out.2.2.1 DR.out) (blk_below HP.out.2.2.2.1 DR.out) (HP.out.2.2.2.2.2.fr (Fr.of DR.out)) hn hT hnb hcb HAN.out).mono ?_; rintro e w6 ⟨a6, k6, c6, rfl, hO6, hF6⟩; have HO6 := Aside0.mk hO6; have HF6 := Aside0.mk (Fr.undrew hF6); clear hO6 hF6; have xrb : ¬ StX l eb v rb := stx_apart HP.out.1 HP.out.2.1 HP.out.2.2.2.2.1 (by decide) (by decide) (by decide) (by decide) (by decide) (by decide); have R6 := Aside0.mk (HF6.out.keeps HP.out.2.2.2.2.1 xrb); have r60 : w6.cell? ⟨rb, 0, none⟩ = some (.pointer (some ⟨eb, 0, none⟩)) := (blk_cell R6.out 0).trans rfl; have r61 : w6.cell? ⟨rb, 1, none⟩ = some (.func (.func 21) #[] #[.pointer (some ⟨gl, 0, none⟩), .pointer (some ⟨gc, 0, none⟩)]) := (blk_cell R6.out 1).trans rfl; have r62 : w6.cell? ⟨rb, 2, none⟩ = some (.bool false) := (blk_cell R6.out 2).trans rfl; have g62 : w6.frozen? ⟨rb, 2, none⟩ = false := blk_frozen R6.out 2; have r63 : w6.cell? ⟨rb, 3, none⟩ = some av := (blk_cell R6.out 3).trans rfl; have g63 : w6.frozen? ⟨rb, 3, none⟩ = false := blk_frozen R6.out 3))
  have htb6 : ¬ StX l eb v tb := fun hx => by
    rcases hx with hx | hx | hx
    · have := HS.out.size _ hx
      have := HTB.out
      omega
    · exact type_ne BT.out E1.out.tp (by decide) hx
    · have := (HE0.out.own.lt hx).2.1
      have := HTB.out
      omega
  have BT6 := Aside0.mk (HF6.out.keeps BT5.out htb6)
  have c6t := ptr_cell BT6.out
  have f6t : w6.frozen? ⟨tb, 0, none⟩ = false := blk_frozen BT6.out 0
  have ntr : ¬ tb = rb := type_ne BT6.out R6.out (by decide)
  have ntr2 : ¬ rb = tb := fun e => ntr e.symm
  clear htb6
  go_wp2_with fail
  have R7 := Aside0.mk (blk_far (blk_put (blk_put R6.out 3 (.slice a6 k6 c6) rfl) 2 (.bool true) rfl) (p := ⟨tb, 0, none⟩) ntr2 (.int .i64 2))
  have B7 := Aside0.mk (blk_put (blk_far (blk_far BT6.out (p := ⟨rb, 3, none⟩) ntr (.slice a6 k6 c6)) (p := ⟨rb, 2, none⟩) ntr (.bool true)) 0 (.int .i64 2) rfl)
  have F7 := Aside0.mk ((((Fr.refl (fun b => b = rb ∨ b = tb) w6).setCell (p := ⟨rb, 3, none⟩) (.inl (.inl rfl)) (.slice a6 k6 c6)).setCell (p := ⟨rb, 2, none⟩) (.inl (.inl rfl)) (.bool true)).setCell (p := ⟨tb, 0, none⟩) (.inl (.inr rfl)) (.int .i64 2))
  generalize hw7 : ((w6.setCell ⟨rb, 3, none⟩ (.slice a6 k6 c6)).setCell ⟨rb, 2, none⟩ (.bool true)).setCell ⟨tb, 0, none⟩ (.int .i64 2) = w7 at R7 B7 F7 ⊢
  have c7 := ptr_cell B7.out
  refine leaves_cons (f := 55) (args := #[.pointer (some ⟨tb, 0, none⟩)]) (by simp) (by simp [go_sem]) ?_
  refine (catch_idle ⟨tb, 0, none⟩ _).mono ?_
  rintro e u' w'' ⟨rfl, rfl, rfl⟩
  simp [Leaves, settle, results, Try.results30, go_sem, c7]
  have hWtb : W.heap.size ≤ tb := by have := HTB.out; omega
  refine ⟨ans_fin (W5 := W5) F5.out.size hB HO6.out F7.out R6.out BT6.out hWtb HS.out (HF6.out.keeps HP.out.2.2.1 (stx_apart HP.out.1 HP.out.2.1 HP.out.2.2.1 (by decide) (by decide) (by decide) (by decide) (by decide) (by decide))) (HF6.out.keeps HP.out.2.2.2.1 (stx_apart HP.out.1 HP.out.2.1 HP.out.2.2.2.1 (by decide) (by decide) (by decide) (by decide) (by decide) (by decide))) R7.out, ?_⟩
  refine ((F5.out.mono (fun b e => .inl (.inr (.inl e)))).trans (HF6.out.mono (fun b e => .inl e))).trans' F7.out (fun b hb hy => ?_)
  rcases hy with rfl | rfl
  · exact .inr rfl
  · omega
end Go.Proofs.Ytmolflmljneelaa.En
/- Run.goes with one step, where the deed is stopped. -/
namespace Go.Proofs.Ytmolflmljneelaa.En
open Go.RowKit Go.Proofs.YtmolflmljneelaaW.PrintWords Go.Proofs.YtmolflmljneelaaW.PrintLast Go.Proofs.YtmolflmljneelaaW.PrintMore
open Pm (Fr Rg Row thereB pendAt WFD) 
open Lk (Tbl takeR leaveR ownerV Only)
set_option linter.unusedSimpArgs false
set_option linter.unusedVariables false
theorem enter21 (caps : Array Value) (w : World) : (callFunc 21 caps).run Try.prog w = .ok (.enter 21 caps) w := by go_simp
def g5.T5 : Bool × List (List Nat × List Nat) := (true, [([], []), ([], []), ([1], [1]), ([2], [2]), ([3], [3]), ([], []), ([5], [5]), ([6], [6]), ([7], [7]), ([4, 8], [4, 8]), ([0, 0, 1, 2, 3, 4, 5, 6, 7, 8, 9], [0]), ([10, 0, 1, 2, 3, 4, 5, 6, 7, 8, 9], [10]), ([11, 9, 9, 0, 1, 2, 3, 4, 5, 6, 7, 8, 9], [9, 11])])
def g5.B5 : List Nat := [0, 0, 2, 6, 14, 0, 32, 96, 224, 510, 1023, 2047, 4095]
theorem g5.tab5 : rtab .any (opsOf Try.f30 5) = g5.T5 := by kernel_rfl
theorem g5.bits5 : waitsOk g5.T5.2 g5.B5 = true := by kernel_rfl
set_option maxRecDepth 100000 in
set_option maxHeartbeats 8000000 in
theorem goes_halt (W : World) {l : Loc} {s : SS} {B rb eb gl gc n cap : Nat} {ad : Option Addr} {who : Int} {v : Value} {T : List Int} {A : Nat → AskN} (h : Rn W l B rb eb gl gc ad n cap who v T false (.slice none 0 0) []) (hS : Sh W l s) (hB : B ≤ W.heap.size) (hA : AskM W (StX l eb v) ad n A) (hn : n ≤ 40) (hT : T.length ≤ n) (hnb : s.n ≤ 1000) (hcb : 0 ≤ s.c ∧ s.c ≤ 1000) (ha : ¬ Answers l.N who A T s n) :
    Calls Try.prog 30 #[.pointer (some ⟨rb, 0, none⟩), .int .i64 1] W fun e w' => ∃ b, e = .returned (.int .i64 (if b then 1 else 0)) ∧ RunH W.heap.size l B rb eb gl gc ad n cap who v T A s b w' ∧ Fr (RnX l eb v rb) W w' := by
  have h2 : W.cell? ⟨rb, 2, none⟩ = some (.bool false) := (blk_cell h.tp 2).trans rfl
  have h0 : W.cell? ⟨rb, 0, none⟩ = some (.pointer (some ⟨eb, 0, none⟩)) := (blk_cell h.tp 0).trans rfl
  have hlt := blk_lt h.tp
  have hne : ¬ rb = W.heap.size := by omega
  have hmf := mkfunc
  have hu := Try.underlying75
  have hu2 := Try.underlying73
  obtain ⟨i0, left0, hE0⟩ := h.en
  have HB1 := Aside0.mk ((Below.refl W.heap.size W).alloc (Nat.le_refl _) (.cells #[.int .i64 0] 3))
  have BT := Aside0.mk (blk_new W (.cells #[.int .i64 0] 3))
  have HR := Aside0.mk h
  have HE0 := Aside0.mk hE0
  have HS := Aside0.mk hS
  have HA := Aside0.mk hA
  have HAN := Aside0.mk ha
  clear h hE0 hS hA ha
  go_enter_defers Try.func30, Try.ntmps30
  go_wp2_with fail
  clear h0 h2 hne hlt
  obtain ⟨tb, htb⟩ : ∃ tb, W.heap.size = tb := ⟨_, rfl⟩
  generalize hw1 : W.alloc (.cells #[.int .i64 0] 3) = W1 at HB1 BT ⊢
  have HTB := Aside0.mk htb
  rw [htb] at HB1 BT ⊢
  clear hw1 htb
  have h10 : W1.cell? ⟨rb, 0, none⟩ = some (.pointer (some ⟨eb, 0, none⟩)) := (blk_cell (blk_below HR.out.tp (HTB.out ▸ HB1.out)) 0).trans rfl
  have E1 := Aside0.mk (HE0.out.below (HTB.out ▸ HB1.out))
  have h14 : W1.cell? ⟨eb, 4, none⟩ = some (.int .i64 i0) := (blk_cell E1.out.tp 4).trans rfl
  have f14 : W1.frozen? ⟨eb, 4, none⟩ = false := blk_frozen E1.out.tp 4
  have h15 : W1.cell? ⟨eb, 5, none⟩ = some (.int .i64 left0) := (blk_cell E1.out.tp 5).trans rfl
  have f15 : W1.frozen? ⟨eb, 5, none⟩ = false := blk_frozen E1.out.tp 5
  have nre : ¬ rb = eb := type_ne HR.out.tp HE0.out.tp (by decide)
  have nre2 : ¬ eb = rb := fun e => nre e.symm
  go_region_held3 (fun w' => w'.cell? ⟨rb, 0, none⟩ = some (.pointer (some ⟨eb, 0, none⟩))) (go_keep) (fail)
  go_upto_region 5 with fail
  have F5 := Aside0.mk ((((Fr.of (X := fun b => b = eb) (HTB.out ▸ HB1.out : Below W.heap.size W W1)).setCell (p := ⟨eb, 4, none⟩) (.inl rfl) (.int .i64 0)).setCell (p := ⟨eb, 5, none⟩) (.inl rfl) (.int .i64 1)).drew1)
  have F15 := Aside0.mk (((((Fr.refl (fun b => b = eb) W1)).setCell (p := ⟨eb, 4, none⟩) (.inl rfl) (.int .i64 0)).setCell (p := ⟨eb, 5, none⟩) (.inl rfl) (.int .i64 1)).drew1)
  have E5 := Aside0.mk (blk_drew (blk_put (blk_put E1.out.tp 4 (.int .i64 0) rfl) 5 (.int .i64 1) rfl))
  generalize hw5 : ((W1.setCell ⟨eb, 4, none⟩ (.int .i64 0)).setCell ⟨eb, 5, none⟩ (.int .i64 1)).drew = W5 at F5 F15 E5 ⊢
  clear hw5 h10 h14 f14 h15 f15
  have P5 := HR.out.set HS.out HA.out F5.out E5.out
  have BT5 := Aside0.mk (F15.out.keeps BT.out (type_ne BT.out E1.out.tp (by decide)))
  have HP := Aside0.mk P5
  have r5 := P5.2.2.2.2.1
  have r50 : W5.cell? ⟨rb, 0, none⟩ = some (.pointer (some ⟨eb, 0, none⟩)) := (blk_cell r5 0).trans rfl
  have r51 : W5.cell? ⟨rb, 1, none⟩ = some (.func (.func 21) #[] #[.pointer (some ⟨gl, 0, none⟩), .pointer (some ⟨gc, 0, none⟩)]) := (blk_cell r5 1).trans rfl
  have HB5 := Aside0.mk (Nat.le_trans hB F5.out.size)
  have DR := Aside0.mk (Below.refl W5.heap.size W5).drew
  clear P5 r5
  refine start_ (n := 13) (S := fun w' => True) (ds := []) #[false, false, false, false, false, false, false, false, false, false, false, false, false] (by kernel_rfl) rfl rfl trivial (fun hHeld => ?_)
  refine with_tabW g5.tab5 g5.bits5 (fun HT_ HW_ => ?_)
  refine inv_at [0, 1, 2, 3, 4, 5, 6, 7, 8, 9, 10, 11, 12] (fun a0_ b a w' => a = putSel a0_ b [(0, 23, .pointer (some ⟨rb, 0, none⟩)), (1, 24, .pointer (some ⟨rb, 0, none⟩)), (2, 25, .pointer (some ⟨rb, 0, none⟩)), (3, 26, .pointer (some ⟨rb, 1, none⟩)), (4, 27, .func (.func 21) #[] #[.pointer (some ⟨gl, 0, none⟩), .pointer (some ⟨gc, 0, none⟩)]), (5, 28, .pointer (some ⟨rb, 0, none⟩)), (6, 29, .pointer (some ⟨rb, 0, none⟩)), (7, 30, .pointer (some ⟨rb, 0, none⟩)), (8, 31, .pointer (some ⟨eb, 0, none⟩))] ∧ w' = W5.drew ∧ b 9 = false) HT_.out HW_.out (by kernel_rfl) (by kernel_rfl) ?_ ?_ ?_
  · exact ⟨by simp only [putSel, Bool.false_eq_true, if_false], rfl, rfl⟩
  · skip
    refine steps_cons ?_ ?_
    · rintro b a w' ⟨ha, hw, h9⟩ hb_ hon hoff
      refine ⟨_, rfl, fun K hK => ?_⟩
      have e0 : a.tmps[0]? = some (.pointer (some ⟨rb, 0, none⟩)) := by rw [ha]; exact (putSel_off rfl).trans rfl
      have ha' := Aside0.mk ha
      clear ha
      have hw' := Aside0.mk hw
      clear hw
      refine value_ (w1 := w') (v := .pointer (some ⟨rb, 0, none⟩)) (by rfl) rfl ?_ ?_
      · go_simp
        (try simp only [i64_w])
        try rfl
      exact hK.out _ _ ⟨(by rw [ha'.out]; exact putSel_upk 0 hb_ rfl rfl rfl), hw'.out, by simp [up, h9]⟩
    refine steps_cons ?_ ?_
    · rintro b a w' ⟨ha, hw, h9⟩ hb_ hon hoff
      refine ⟨_, rfl, fun K hK => ?_⟩
      have e0 : a.tmps[0]? = some (.pointer (some ⟨rb, 0, none⟩)) := by rw [ha]; exact (putSel_off rfl).trans rfl
      have ha' := Aside0.mk ha
      clear ha
      have hw' := Aside0.mk hw
      clear hw
      refine value_ (w1 := w') (v := .pointer (some ⟨rb, 0, none⟩)) (by rfl) rfl ?_ ?_
      · go_simp
        (try simp only [i64_w])
        try rfl
      exact hK.out _ _ ⟨(by rw [ha'.out]; exact putSel_upk 1 hb_ rfl rfl rfl), hw'.out, by simp [up, h9]⟩
    refine steps_cons ?_ ?_
    · rintro b a w' ⟨ha, hw, h9⟩ hb_ hon hoff
      refine ⟨_, rfl, fun K hK => ?_⟩
      have e24 : a.tmps[24]? = some (.pointer (some ⟨rb, 0, none⟩)) := by rw [ha]; exact putSel_on (e := (1, 24, .pointer (some ⟨rb, 0, none⟩))) 1 rfl rfl (hon 1 (by kernel_rfl)) rfl
      have ha' := Aside0.mk ha
      clear ha
      have hw' := Aside0.mk hw
      clear hw
      refine value_ (w1 := w') (v := .pointer (some ⟨rb, 0, none⟩)) (by rfl) rfl ?_ ?_
      · go_simp
        (try simp only [i64_w])
        try rfl
      exact hK.out _ _ ⟨(by rw [ha'.out]; exact putSel_upk 2 hb_ rfl rfl rfl), hw'.out, by simp [up, h9]⟩
    refine steps_cons ?_ ?_
    · rintro b a w' ⟨ha, hw, h9⟩ hb_ hon hoff
      refine ⟨_, rfl, fun K hK => ?_⟩
      have e25 : a.tmps[25]? = some (.pointer (some ⟨rb, 0, none⟩)) := by rw [ha]; exact putSel_on (e := (2, 25, .pointer (some ⟨rb, 0, none⟩))) 2 rfl rfl (hon 2 (by kernel_rfl)) rfl
      have ha' := Aside0.mk ha
      clear ha
      have hw' := Aside0.mk hw
      clear hw
      refine value_ (w1 := w') (v := .pointer (some ⟨rb, 1, none⟩)) (by rfl) rfl ?_ ?_
      · go_simp
        (try simp only [i64_w])
        try rfl
      exact hK.out _ _ ⟨(by rw [ha'.out]; exact putSel_upk 3 hb_ rfl rfl rfl), hw'.out, by simp [up, h9]⟩
    refine steps_cons ?_ ?_
    · rintro b a w' ⟨ha, hw, h9⟩ hb_ hon hoff
      refine ⟨_, rfl, fun K hK => ?_⟩
      have e26 : a.tmps[26]? = some (.pointer (some ⟨rb, 1, none⟩)) := by rw [ha]; exact putSel_on (e := (3, 26, .pointer (some ⟨rb, 1, none⟩))) 3 rfl rfl (hon 3 (by kernel_rfl)) rfl
      have ha' := Aside0.mk ha
      clear ha
      have hcx : w'.cell? ⟨rb, 1, none⟩ = some (.func (.func 21) #[] #[.pointer (some ⟨gl, 0, none⟩), .pointer (some ⟨gc, 0, none⟩)]) := hw ▸ r51
      have hw' := Aside0.mk hw
      clear hw
      refine value_ (w1 := w') (v := .func (.func 21) #[] #[.pointer (some ⟨gl, 0, none⟩), .pointer (some ⟨gc, 0, none⟩)]) (by rfl) rfl ?_ ?_
      · go_simp
        (try simp only [i64_w])
        try rfl
      exact hK.out _ _ ⟨(by rw [ha'.out]; exact putSel_upk 4 hb_ rfl rfl rfl), hw'.out, by simp [up, h9]⟩
    refine steps_cons ?_ ?_
    · rintro b a w' ⟨ha, hw, h9⟩ hb_ hon hoff
      refine ⟨_, rfl, fun K hK => ?_⟩
      have e0 : a.tmps[0]? = some (.pointer (some ⟨rb, 0, none⟩)) := by rw [ha]; exact (putSel_off rfl).trans rfl
      have ha' := Aside0.mk ha
      clear ha
      have hw' := Aside0.mk hw
      clear hw
      refine value_ (w1 := w') (v := .pointer (some ⟨rb, 0, none⟩)) (by rfl) rfl ?_ ?_
      · go_simp
        (try simp only [i64_w])
        try rfl
      exact hK.out _ _ ⟨(by rw [ha'.out]; exact putSel_upk 5 hb_ rfl rfl rfl), hw'.out, by simp [up, h9]⟩
    refine steps_cons ?_ ?_
    · rintro b a w' ⟨ha, hw, h9⟩ hb_ hon hoff
      refine ⟨_, rfl, fun K hK => ?_⟩
      have e28 : a.tmps[28]? = some (.pointer (some ⟨rb, 0, none⟩)) := by rw [ha]; exact putSel_on (e := (5, 28, .pointer (some ⟨rb, 0, none⟩))) 5 rfl rfl (hon 5 (by kernel_rfl)) rfl
      have ha' := Aside0.mk ha
      clear ha
      have hw' := Aside0.mk hw
      clear hw
      refine value_ (w1 := w') (v := .pointer (some ⟨rb, 0, none⟩)) (by rfl) rfl ?_ ?_
      · go_simp
        (try simp only [i64_w])
        try rfl
      exact hK.out _ _ ⟨(by rw [ha'.out]; exact putSel_upk 6 hb_ rfl rfl rfl), hw'.out, by simp [up, h9]⟩
    refine steps_cons ?_ ?_
    · rintro b a w' ⟨ha, hw, h9⟩ hb_ hon hoff
      refine ⟨_, rfl, fun K hK => ?_⟩
      have e29 : a.tmps[29]? = some (.pointer (some ⟨rb, 0, none⟩)) := by rw [ha]; exact putSel_on (e := (6, 29, .pointer (some ⟨rb, 0, none⟩))) 6 rfl rfl (hon 6 (by kernel_rfl)) rfl
      have ha' := Aside0.mk ha
      clear ha
      have hw' := Aside0.mk hw
      clear hw
      refine value_ (w1 := w') (v := .pointer (some ⟨rb, 0, none⟩)) (by rfl) rfl ?_ ?_
      · go_simp
        (try simp only [i64_w])
        try rfl
      exact hK.out _ _ ⟨(by rw [ha'.out]; exact putSel_upk 7 hb_ rfl rfl rfl), hw'.out, by simp [up, h9]⟩
    refine steps_cons ?_ ?_
    · rintro b a w' ⟨ha, hw, h9⟩ hb_ hon hoff
      refine ⟨_, rfl, fun K hK => ?_⟩
      have e30 : a.tmps[30]? = some (.pointer (some ⟨rb, 0, none⟩)) := by rw [ha]; exact putSel_on (e := (7, 30, .pointer (some ⟨rb, 0, none⟩))) 7 rfl rfl (hon 7 (by kernel_rfl)) rfl
      have ha' := Aside0.mk ha
      clear ha
      have hcx : w'.cell? ⟨rb, 0, none⟩ = some (.pointer (some ⟨eb, 0, none⟩)) := hw ▸ r50
      have hw' := Aside0.mk hw
      clear hw
      refine value_ (w1 := w') (v := .pointer (some ⟨eb, 0, none⟩)) (by rfl) rfl ?_ ?_
      · go_simp
        (try simp only [i64_w])
        try rfl
      exact hK.out _ _ ⟨(by rw [ha'.out]; exact putSel_upk 8 hb_ rfl rfl rfl), hw'.out, by simp [up, h9]⟩
    refine steps_cons ?_ ?_
    · rintro b a w' ⟨ha, hw, h9⟩ hb_ hon hoff
      refine ⟨_, rfl, fun K hK => ?_⟩
      have e27 : a.tmps[27]? = some (.func (.func 21) #[] #[.pointer (some ⟨gl, 0, none⟩), .pointer (some ⟨gc, 0, none⟩)]) := by rw [ha]; exact putSel_on (e := (4, 27, .func (.func 21) #[] #[.pointer (some ⟨gl, 0, none⟩), .pointer (some ⟨gc, 0, none⟩)])) 4 rfl rfl (hon 4 (by kernel_rfl)) rfl
      have e31 : a.tmps[31]? = some (.pointer (some ⟨eb, 0, none⟩)) := by rw [ha]; exact putSel_on (e := (8, 31, .pointer (some ⟨eb, 0, none⟩))) 8 rfl rfl (hon 8 (by kernel_rfl)) rfl
      have hdf : a.defers = [{ target := Target.fn (Fn.func 55) #[.pointer (some ⟨tb, 0, none⟩)], args := #[] }] := by rw [ha]; exact (putSel_size _ _ _).2.trans rfl
      have e4 : a.tmps[4]? = some (.pointer (some ⟨tb, 0, none⟩)) := by rw [ha]; exact (putSel_off rfl).trans rfl
      clear ha
      subst hw
      rw [if_pos (by rfl)]
      unfold Oper.wp
      rw [show (execOp a.eval _).run Try.prog W5.drew = .ok (.enter 21 #[.pointer (some ⟨eb, 0, none⟩), .pointer (some ⟨gl, 0, none⟩), .pointer (some ⟨gc, 0, none⟩)]) W5.drew from by simp [execOp, Act.eval, e27, e31, resolve, Deferred.ofValue, invoke, enter21]]
      rw [Oper.upon_enter]
      refine (deed_halt W5.drew (HP.out.1.below DR.out) (HP.out.2.1.below DR.out) HB5.out gl gc ad n cap A (blk_below HP.out.2.2.1 DR.out) (blk_below HP.out.2.2.2.1 DR.out) (HP.out.2.2.2.2.2.fr (Fr.of DR.out)) hn hT hnb hcb HAN.out).mono ?_
      rintro e w6 ⟨b6, rfl, hO6, hF6⟩
      have hF6 := Fr.undrew hF6
      have htb6 : ¬ StX l eb v tb := fun hx => by
        rcases hx with hx | hx | hx
        · have := HS.out.size _ hx
          have := HTB.out
          omega
        · exact type_ne BT.out E1.out.tp (by decide) hx
        · have := (HE0.out.own.lt hx).2.1
          have := HTB.out
          omega
      have R6 := hF6.keeps HP.out.2.2.2.2.1 (stx_apart HP.out.1 HP.out.2.1 HP.out.2.2.2.2.1 (by decide) (by decide) (by decide) (by decide) (by decide) (by decide))
      have BT6 := hF6.keeps BT5.out htb6
      have hWtb : W.heap.size ≤ tb := by have := HTB.out; omega
      have gl6 := hF6.keeps HP.out.2.2.1 (stx_apart HP.out.1 HP.out.2.1 HP.out.2.2.1 (by decide) (by decide) (by decide) (by decide) (by decide) (by decide))
      have gc6 := hF6.keeps HP.out.2.2.2.1 (stx_apart HP.out.1 HP.out.2.1 HP.out.2.2.2.1 (by decide) (by decide) (by decide) (by decide) (by decide) (by decide))
      change Leaves Try.prog Try.f30 a.tmps _ a.defers (.panicking (haltS b6)) w6
      rw [hdf]
      refine leaves_cons (f := 55) (args := #[.pointer (some ⟨tb, 0, none⟩)]) (by simp) (by simp [go_sem]) ?_
      refine (catch_halt tb 0 b6 [] w6 BT6).mono ?_
      rintro e u' w'' ⟨rfl, rfl, w1, hw1, hw2⟩
      have B1 := blk_put (blk_alloc BT6 (.cells #[.bool b6] 98)) 0 (.int .i64 0) rfl
      rw [← hw1] at B1
      have F1 : Fr (fun b => b = tb) w6 w1 := by rw [hw1]; exact ((Fr.refl (fun b => b = tb) w6).alloc _).setCell (p := ⟨tb, 0, none⟩) (.inl rfl) _
      have fin : ∀ k : Int, w''.heap[tb]? = some (.cells #[.int .i64 k] 3 (0, 0)) → k = (if b6 then 1 else 0) → Fr (fun b => b = tb) w6 w'' → ∃ vv, (results Try.f30 a.tmps).run Try.prog w'' = .ok vv w'' ∧ ∃ b, Ending.returned vv = .returned (.int .i64 (if b then 1 else 0)) ∧ RunH W.heap.size l B rb eb gl gc ad n cap who v T A s b w'' ∧ Fr (RnX l eb v rb) W w'' := by
        intro k hk ek hf
        have ck := ptr_cell hk
        refine ⟨.int .i64 k, ?_, b6, by rw [ek], halt_fin (W5 := W5) F5.out.size hO6 hf R6 BT6 hWtb HS.out gl6 gc6, ?_⟩
        · have e4' : a.tmps.getD 4 undef = .pointer (some ⟨tb, 0, none⟩) := by simp [Array.getD_eq_getD_getElem?, e4]
          simp [results, Try.results30, go_sem, ck, e4, e4']
        · refine ((F5.out.mono (fun b e => .inl (.inr (.inl e)))).trans (hF6.mono (fun b e => .inl e))).trans' hf (fun b hb hy => ?_)
          subst hy
          omega
      simp only [settle, List.dropWhile, Leaves, haltS]
      cases b6
      · exact fin 0 (by rw [hw2]; exact B1) rfl (by rw [hw2]; exact F1)
      · exact fin 1 (by rw [hw2]; exact blk_put B1 0 (.int .i64 1) rfl) rfl (by rw [hw2]; exact F1.setCell (p := ⟨tb, 0, none⟩) (.inl rfl) _)
    refine steps_cons ?_ ?_
    · rintro b a w' ⟨ha, hw, h9⟩ hb_ hon hoff
      exact absurd (hon 9 (by kernel_rfl)) (by rw [h9]; decide)
    refine steps_cons ?_ ?_
    · rintro b a w' ⟨ha, hw, h9⟩ hb_ hon hoff
      exact absurd (hon 9 (by kernel_rfl)) (by rw [h9]; decide)
    refine steps_cons ?_ ?_
    · rintro b a w' ⟨ha, hw, h9⟩ hb_ hon hoff
      exact absurd (hon 9 (by kernel_rfl)) (by rw [h9]; decide)
    exact steps_nil
  · rintro b a wz hall ⟨ha, hw, h9⟩
    exact absurd (hall 9 (by kernel_rfl)) (by rw [h9]; decide)
end Go.Proofs.Ytmolflmljneelaa.En
/- Run.Step, Steps, Over, Answer. -/
namespace Go.Proofs.Ytmolflmljneelaa.En
open Go.RowKit Go.Proofs.YtmolflmljneelaaW.PrintWords Go.Proofs.YtmolflmljneelaaW.PrintLast Go.Proofs.YtmolflmljneelaaW.PrintMore
open Pm (Fr Rg Row thereB pendAt WFD) 
open Lk (Tbl takeR leaveR ownerV Only)
set_option linter.unusedSimpArgs false
set_option linter.unusedVariables false
section
variable (W : World) {l : Loc} {B rb eb gl gc n cap : Nat} {ad : Option Addr} {who : Int} {v av : Value} {T U : List Int} {over : Bool} (h : Rn W l B rb eb gl gc ad n cap who v T over av U)
include h
theorem steps_calls : Calls Try.prog 13 #[.pointer (some ⟨rb, 0, none⟩)] W fun e w' => e = .returned (.int .i64 T.length) ∧ w' = W := by
  obtain ⟨i, left, hE⟩ := h.en
  obtain ⟨ad', cap', hv⟩ := hE.own.form
  have htp := hE.tp
  rw [hv] at htp
  have h0 : W.cell? ⟨rb, 0, none⟩ = some (.pointer (some ⟨eb, 0, none⟩)) := (blk_cell h.tp 0).trans rfl
  have h3 : W.cell? ⟨eb, 3, none⟩ = some (.slice ad' T.length cap') := (blk_cell htp 3).trans rfl
  have hu := Try.underlying75
  have hu2 := Try.underlying73
  clear h hE htp hv
  go_enter Try.func13, Try.ntmps13
  go_wp2
  go_ret
  exact ⟨rfl, rfl⟩
theorem over_calls : Calls Try.prog 15 #[.pointer (some ⟨rb, 0, none⟩)] W fun e w' => e = .returned (.bool over) ∧ w' = W := by
  have h2 : W.cell? ⟨rb, 2, none⟩ = some (.bool over) := (blk_cell h.tp 2).trans rfl
  have hu := Try.underlying75
  clear h
  go_enter Try.func15, Try.ntmps15
  go_wp2
  go_ret
  exact ⟨rfl, rfl⟩
theorem answer_calls : Calls Try.prog 17 #[.pointer (some ⟨rb, 0, none⟩)] W fun e w' => e = .returned av ∧ w' = W := by
  obtain ⟨a, c, hv⟩ := h.aw.form
  have h3 : W.cell? ⟨rb, 3, none⟩ = some (.slice a U.length c) := (blk_cell h.tp 3).trans (by rw [← hv]; rfl)
  have hu := Try.underlying75
  rw [hv]
  clear h hv
  go_enter Try.func17, Try.ntmps17
  go_wp2
  go_ret
  exact ⟨rfl, rfl⟩
end
/-- A run between steps. -/
structure RunI (W : World) (l : Loc) (B rb eb gl gc : Nat) (ad : Option Addr) (n cap : Nat) (who : Int) (A : Nat → AskN) (v : Value) (T : List Int) (over : Bool) (av : Value) (U : List Int) : Prop where
  rn : Rn W l B rb eb gl gc ad n cap who v T over av U
  le : T.length ≤ n
  yes : over = true → T.length = n ∧ U = told A T n
  no : over = false → av = .slice none 0 0 ∧ U = []
  two : Two av v.ownBlock
/-- What a step answers. -/
def resR (N : Nat) (who : Int) (A : Nat → AskN) (T : List Int) (s : SS) (n : Nat) : Int := if T.length = n then 2 else match actD N who A T s with
  | none => 1
  | some _ => 0
/-- What one step makes of a run and of the shared things: s', what was told T', whether it is over. -/
def Turn (H : Nat) (l : Loc) (n : Nat) (who : Int) (A : Nat → AskN) (v : Value) (T : List Int) (s : SS) (v' : Value) (T' : List Int) (s' : SS) (over' : Bool) : Prop :=
  (T.length = n ∧ v' = v ∧ T' = T ∧ s' = s ∧ over' = true) ∨ (T.length < n ∧ actD l.N who A T s = none ∧ v' = v ∧ T' = T ∧ s' = s ∧ over' = false) ∨
    (T.length < n ∧ actD l.N who A T s = some s' ∧ (∃ y g cap, tellsD l.N A T s y ∧ T' = T ++ [y] ∧ v' = .slice (some ⟨g, 0, none⟩) (T.length + 1) cap ∧ (v.ownBlock = some g ∨ H ≤ g)) ∧ (over' = true ↔ T.length + 1 = n))
def StepO (H : Nat) (l : Loc) (B rb eb gl gc : Nat) (ad : Option Addr) (n cap : Nat) (who : Int) (A : Nat → AskN) (v : Value) (T : List Int) (av : Value) (s : SS) (w' : World) : Prop :=
  ∃ v' T' s' over' av' U', Turn H l n who A v T s v' T' s' over' ∧ Sh w' l s' ∧ RunI w' l B rb eb gl gc ad n cap who A v' T' over' av' U' ∧ ∀ g, av'.ownBlock = some g → av.ownBlock = some g ∨ H ≤ g
theorem runA_len {H : Nat} {l : Loc} {B rb eb gl gc n cap : Nat} {ad : Option Addr} {who : Int} {v : Value} {T : List Int} {A : Nat → AskN} {s : SS} {w1 : World} (h : RunA H l B rb eb gl gc ad n cap who v T A s w1) : ∃ v' T' tv, T'.length = n ∧ Rn w1 l B rb eb gl gc ad n cap who v' T' true tv (told A T' n) := by
  obtain ⟨v', T', s', tv, hc, _, hR, _⟩ := h
  refine ⟨v', T', tv, ?_, hR⟩
  rcases hc with ⟨h5, h6, h7, _⟩ | ⟨h5, _, y, g, cp, _, h7, _⟩
  · rw [h7]; exact h5
  · rw [h7]; simpa using h5
theorem step_over (W : World) {l : Loc} {s : SS} {B rb eb gl gc n cap : Nat} {ad : Option Addr} {who : Int} {A : Nat → AskN} {v av : Value} {T U : List Int} (h : RunI W l B rb eb gl gc ad n cap who A v T true av U) (hS : Sh W l s) :
    Calls Try.prog 11 #[.pointer (some ⟨rb, 0, none⟩)] W fun e w' => e = .returned (.int .i64 2) ∧ Below W.heap.size W w' := by
  have HR := Aside0.mk h.rn
  have hd : decide ((T.length : Int) > (T.length : Int)) = false := decide_eq_false (by omega)
  clear h
  go_enter Try.func11, Try.ntmps11
  go_wp2_with (first
    | (go_at_call 30; refine (goes_over _ HR.out 1).mono ?_; rintro e w1 ⟨rfl, hb⟩; have HB := Aside0.mk hb; clear hb)
    | (go_at_call 13; first | (with_reducible refine (steps_calls W HR.out).mono ?_; rintro e w2 ⟨rfl, rfl⟩) | (refine (steps_calls w1 ⟨blk_below HR.out.tp HB.out, blk_below HR.out.dl HB.out, blk_below HR.out.dc HB.out, HR.out.en.imp fun i h => h.imp fun j h => h.below HB.out, HR.out.aw.below HB.out⟩).mono ?_; rintro e w2 ⟨rfl, rfl⟩)))
  go_ret
  exact ⟨rfl, HB.out⟩
theorem step_ret (W : World) {l : Loc} {s : SS} {B rb eb gl gc n cap : Nat} {ad : Option Addr} {who : Int} {A : Nat → AskN} {v av : Value} {T U : List Int} (h : RunI W l B rb eb gl gc ad n cap who A v T false av U) (hS : Sh W l s) (hB : B ≤ W.heap.size) (hA : AskM W (StX l eb v) ad n A) (hn : n ≤ 40) (hnb : s.n ≤ 1000) (hcb : 0 ≤ s.c ∧ s.c ≤ 1000) (ha : Answers l.N who A T s n) (r : Int) (b : Bool) (hr : if b then T.length = n ∧ r = 2 else T.length + 1 = n ∧ r = 0) :
    Calls Try.prog 11 #[.pointer (some ⟨rb, 0, none⟩)] W fun e w' => e = .returned (.int .i64 r) ∧ RunA W.heap.size l B rb eb gl gc ad n cap who v T A s w' ∧ Fr (RnX l eb v rb) W w' := by
  have HI := Aside0.mk h
  have HS := Aside0.mk hS
  have HA := Aside0.mk hA
  have HAN := Aside0.mk ha
  clear h hS hA ha
  cases b
  · obtain ⟨h1, rfl⟩ := hr
    have hd : decide ((n : Int) > (T.length : Int)) = true := decide_eq_true (by omega)
    go_enter Try.func11, Try.ntmps11
    go_wp2_with (first
      | (go_at_call 30; refine (goes_ret _ HI.out.rn HS.out hB HA.out hn HI.out.le hnb hcb HAN.out).mono ?_; rintro e w1 ⟨rfl, hO, hF⟩; have HO := Aside0.mk hO; have HF := Aside0.mk hF; clear hO hF; obtain ⟨v1, T1, tv1, hT1, hR1⟩ := runA_len HO.out; have HR1 := Aside0.mk hR1; have HT1 := Aside0.mk hT1; clear hR1 hT1)
      | (go_at_call 13; first | (with_reducible refine (steps_calls W HI.out.rn).mono ?_; rintro e w2 ⟨rfl, rfl⟩) | (refine (steps_calls w1 HR1.out).mono ?_; rw [HT1.out]; rintro e w2 ⟨rfl, rfl⟩)))
    go_ret
    exact ⟨rfl, HO.out, HF.out⟩
  · obtain ⟨h1, rfl⟩ := hr
    have hd : decide ((n : Int) > (T.length : Int)) = false := decide_eq_false (by omega)
    go_enter Try.func11, Try.ntmps11
    go_wp2_with (first
      | (go_at_call 30; refine (goes_ret _ HI.out.rn HS.out hB HA.out hn HI.out.le hnb hcb HAN.out).mono ?_; rintro e w1 ⟨rfl, hO, hF⟩; have HO := Aside0.mk hO; have HF := Aside0.mk hF; clear hO hF; obtain ⟨v1, T1, tv1, hT1, hR1⟩ := runA_len HO.out; have HR1 := Aside0.mk hR1; have HT1 := Aside0.mk hT1; clear hR1 hT1)
      | (go_at_call 13; first | (with_reducible refine (steps_calls W HI.out.rn).mono ?_; rintro e w2 ⟨rfl, rfl⟩) | (refine (steps_calls w1 HR1.out).mono ?_; rw [HT1.out]; rintro e w2 ⟨rfl, rfl⟩)))
    go_ret
    exact ⟨rfl, HO.out, HF.out⟩
theorem step_halt (W : World) {l : Loc} {s : SS} {B rb eb gl gc n cap : Nat} {ad : Option Addr} {who : Int} {A : Nat → AskN} {v : Value} {T : List Int} (h : RunI W l B rb eb gl gc ad n cap who A v T false (.slice none 0 0) []) (hS : Sh W l s) (hB : B ≤ W.heap.size) (hA : AskM W (StX l eb v) ad n A) (hn : n ≤ 40) (hnb : s.n ≤ 1000) (hcb : 0 ≤ s.c ∧ s.c ≤ 1000) (ha : ¬ Answers l.N who A T s n) :
    Calls Try.prog 11 #[.pointer (some ⟨rb, 0, none⟩)] W fun e w' => ∃ b, e = .returned (.int .i64 (if b then 1 else 0)) ∧ RunH W.heap.size l B rb eb gl gc ad n cap who v T A s b w' ∧ Fr (RnX l eb v rb) W w' := by
  have HI := Aside0.mk h
  have HS := Aside0.mk hS
  have HA := Aside0.mk hA
  have HAN := Aside0.mk ha
  clear h hS hA ha
  go_enter Try.func11, Try.ntmps11
  go_wp2_with (first
    | (go_at_call 30; refine (goes_halt _ HI.out.rn HS.out hB HA.out hn HI.out.le hnb hcb HAN.out).mono ?_; rintro e w1 ⟨b, rfl, hO, hF⟩; have HO := Aside0.mk hO; have HF := Aside0.mk hF; clear hO hF; obtain ⟨q, hq⟩ : ∃ q : Int, (if b = true then 1 else 0) = q := ⟨_, rfl⟩; have hd : (q == 2) = false := (by rw [← hq]; cases b <;> rfl); rw [hq]; have HQ := Aside0.mk hq; clear hq)
    | (go_at_call 13; (with_reducible refine (steps_calls W HI.out.rn).mono ?_; rintro e w2 ⟨rfl, rfl⟩)))
  go_ret
  exact ⟨b, by rw [HQ.out]; rfl, HO.out, HF.out⟩
theorem Rn.below {W w' : World} {l : Loc} {B rb eb gl gc n cap : Nat} {ad : Option Addr} {who : Int} {v av : Value} {T U : List Int} {over : Bool} (h : Rn W l B rb eb gl gc ad n cap who v T over av U) (hb : Below W.heap.size W w') : Rn w' l B rb eb gl gc ad n cap who v T over av U :=
  ⟨blk_below h.tp hb, blk_below h.dl hb, blk_below h.dc hb, h.en.imp fun i h => h.imp fun j h => h.below hb, h.aw.below hb⟩
theorem step_run (W : World) {l : Loc} {s : SS} {B rb eb gl gc n cap : Nat} {ad : Option Addr} {who : Int} {A : Nat → AskN} {v av : Value} {T U : List Int} {over : Bool} (h : RunI W l B rb eb gl gc ad n cap who A v T over av U) (hS : Sh W l s) (hB : B ≤ W.heap.size) (hA : AskM W (StX l eb v) ad n A) (hn : n ≤ 40) (hnb : s.n ≤ 1000) (hcb : 0 ≤ s.c ∧ s.c ≤ 1000) :
    Calls Try.prog 11 #[.pointer (some ⟨rb, 0, none⟩)] W fun e w' => e = .returned (.int .i64 (resR l.N who A T s n)) ∧ StepO W.heap.size l B rb eb gl gc ad n cap who A v T av s w' ∧ Fr (RnX l eb v rb) W w' := by
  have hle := h.le
  cases over with
  | true =>
    refine (step_over W h hS).mono ?_
    rintro e w' ⟨rfl, hb⟩
    have hy := h.yes rfl
    refine ⟨by rw [resR, if_pos hy.1], ⟨v, T, s, true, av, U, .inl ⟨hy.1, rfl, rfl, rfl, rfl⟩, hS.below hb, ⟨h.rn.below hb, h.le, h.yes, h.no, h.two⟩, fun g hg => .inl hg⟩, Fr.of hb⟩
  | false =>
    obtain ⟨rfl, rfl⟩ := h.no rfl
    by_cases ha : Answers l.N who A T s n
    · by_cases hl : T.length = n
      · refine (step_ret W h hS hB hA hn hnb hcb ha 2 true ⟨hl, rfl⟩).mono ?_
        rintro e w' ⟨rfl, ⟨v', T', s', tv, hc, h1, h2, h3, h4⟩, hf⟩
        rcases hc with ⟨_, rfl, rfl, rfl⟩ | ⟨h5, _⟩
        · exact ⟨by rw [resR, if_pos hl], ⟨_, _, _, true, tv, _, .inl ⟨hl, rfl, rfl, rfl, rfl⟩, h1, ⟨h2, h.le, fun _ => ⟨hl, rfl⟩, (fun e => by cases e), h3⟩, fun g hg => .inr (h4 g hg)⟩, hf⟩
        · omega
      · have hb : T.length + 1 = n ∧ actD l.N who A T s ≠ none := by
          rcases ha with ha | ha
          · exact absurd ha hl
          · exact ha
        refine (step_ret W h hS hB hA hn hnb hcb ha 0 false ⟨hb.1, rfl⟩).mono ?_
        rintro e w' ⟨rfl, ⟨v', T', s', tv, hc, h1, h2, h3, h4⟩, hf⟩
        rcases hc with ⟨h5, _⟩ | ⟨_, h6, y, g, cp, h7, rfl, rfl, h8⟩
        · exact absurd h5 hl
        · refine ⟨by rw [resR, if_neg hl, h6], ⟨_, _, s', true, tv, _, .inr (.inr ⟨by omega, h6, ⟨y, g, cp, h7, rfl, rfl, h8⟩, by simp [hb.1]⟩), h1, ⟨h2, by simp; omega, fun _ => ⟨by simpa using hb.1, rfl⟩, (fun e => by cases e), h3⟩, fun g hg => .inr (h4 g hg)⟩, hf⟩
    · have hlt : T.length < n := by
        rcases Nat.lt_or_ge T.length n with h0 | h0
        · exact h0
        · exact absurd (.inl (by omega)) ha
      refine (step_halt W h hS hB hA hn hnb hcb ha).mono ?_
      rintro e w' ⟨b, rfl, ⟨v', T', s', hc, h1, h2⟩, hf⟩
      rcases hc with ⟨rfl, h6, rfl, rfl, rfl⟩ | ⟨rfl, h6, y, g, cp, h7, rfl, rfl, h8⟩
      · have hr : resR l.N who A T' s' n = 1 := by rw [resR, if_neg (by omega), h6]
        refine ⟨by rw [hr]; rfl, ⟨_, _, _, false, _, _, .inr (.inl ⟨hlt, h6, rfl, rfl, rfl, rfl⟩), h1, ⟨h2, h.le, (fun e => by cases e), fun _ => ⟨rfl, rfl⟩, fun g hg => by cases hg⟩, fun g hg => by cases hg⟩, hf⟩
      · have hne : ¬ T.length + 1 = n := fun e => ha (.inr ⟨e, by rw [h6]; simp⟩)
        have hr : resR l.N who A T s n = 0 := by rw [resR, if_neg (by omega), h6]
        refine ⟨by rw [hr]; rfl, ⟨_, _, s', false, _, _, .inr (.inr ⟨hlt, h6, ⟨y, g, cp, h7, rfl, rfl, h8⟩, by simp [hne]⟩), h1, ⟨h2, by simp; omega, (fun e => by cases e), fun _ => ⟨rfl, rfl⟩, fun g hg => by cases hg⟩, fun g hg => by cases hg⟩, hf⟩
end Go.Proofs.Ytmolflmljneelaa.En
/- The document's region and table, as the law holds them: There, Flush, Fence, Take, Leave. -/
namespace Go.Proofs.Ytmolflmljneelaa.En
open Go.RowKit Go.Proofs.YtmolflmljneelaaW.PrintWords Go.Proofs.YtmolflmljneelaaW.PrintLast Go.Proofs.YtmolflmljneelaaW.PrintMore
open Pm (Fr Rg Row thereB pendAt WFD) 
open Lk (Tbl takeR leaveR ownerV Only)
set_option linter.unusedSimpArgs false
set_option linter.unusedVariables false
theorem _root_.Go.Proofs.Ytmolflmljneelaa.Pm.Row.fr {X : Nat → Prop} {W W' : World} {g N cap : Nat} {S : List Int} (h : Row W g N cap S) (hf : Fr X W W') (hx : ¬ X g) : Row W' g N cap S := ⟨h.len, let ⟨c, h1, h2⟩ := h.cur; ⟨c, hf.keeps h1 hx, h2⟩⟩
theorem _root_.Go.Proofs.Ytmolflmljneelaa.Pm.Row.blk {W : World} {g N cap : Nat} {S : List Int} (h : Row W g N cap S) : ∃ c, W.heap[g]? = some (.cells c 49 (0, 0)) := let ⟨c, h1, _⟩ := h.cur; ⟨c, h1⟩
/-- A row of bools. -/
structure BRow (W : World) (g N cap : Nat) (P : List Bool) : Prop where
  len : P.length = N
  cur : ∃ cur : Array Value, W.heap[g]? = some (.cells cur 4 (0, 0)) ∧ cur.size = cap ∧ N ≤ cap ∧ cap ≤ maxLen ∧ ∀ i, i < N → cur[i]? = some (.bool (P.getD i false))
theorem BRow.fr {X : Nat → Prop} {W W' : World} {g N cap : Nat} {P : List Bool} (h : BRow W g N cap P) (hf : Fr X W W') (hx : ¬ X g) : BRow W' g N cap P := ⟨h.len, let ⟨c, h1, h2⟩ := h.cur; ⟨c, hf.keeps h1 hx, h2⟩⟩
theorem BRow.blk {W : World} {g N cap : Nat} {P : List Bool} (h : BRow W g N cap P) : ∃ c, W.heap[g]? = some (.cells c 4 (0, 0)) := let ⟨c, h1, _⟩ := h.cur; ⟨c, h1⟩
theorem BRow.cell {W : World} {g N cap : Nat} {P : List Bool} (h : BRow W g N cap P) (i : Nat) (hi : i < N) : W.cell? ⟨g, i, none⟩ = some (.bool (P.getD i false)) := let ⟨_, h1, _, _, _, h2⟩ := h.cur; (blk_cell h1 i).trans (h2 i hi)
theorem BRow.frozen {W : World} {g N cap : Nat} {P : List Bool} (h : BRow W g N cap P) (i : Nat) : W.frozen? ⟨g, i, none⟩ = false := let ⟨_, h1, _⟩ := h.cur; blk_frozen h1 i
theorem BRow.put {W : World} {g N cap : Nat} {P : List Bool} (h : BRow W g N cap P) (i : Nat) (hi : i < N) (x : Bool) : BRow (W.setCell ⟨g, i, none⟩ (.bool x)) g N cap (P.set i x) := by
  refine ⟨by rw [List.length_set]; exact h.len, ?_⟩
  obtain ⟨c, h1, h2, h3, h4, h5⟩ := h.cur
  refine ⟨c.setIfInBounds i (.bool x), blk_set h1 i _, by simp [h2], h3, h4, fun j hj => ?_⟩
  rw [Array.getElem?_setIfInBounds]
  have hl := h.len
  by_cases e : i = j
  · subst e
    rw [if_pos rfl, if_pos (by omega)]
    simp [hl, hj]
  · rw [if_neg e, h5 j hj]
    simp only [List.getD_eq_getElem?_getD, List.getElem?_set]
    rw [if_neg e]
/-- Where the document's region and table lie. -/
structure RLoc where
  (fp fs fk fn cs ck cn up ug : Nat)
/-- The document's region: words seen, kept, noted; which lines are pending (row fd). -/
structure Rf (W : World) (r : RLoc) (fd cd : Nat) (S K M : List Int) (P : List Bool) : Prop where
  tp : ∃ st : Int, W.heap[r.fp]? = some (.cells #[.slice (some ⟨r.fs, 0, none⟩) 16 r.cs, .slice (some ⟨r.fk, 0, none⟩) 16 r.ck, .slice (some ⟨r.fn, 0, none⟩) 16 r.cn, .slice (some ⟨fd, 0, none⟩) 2 cd, .int .i64 st] 68 (0, 0))
  rs : Row W r.fs 16 r.cs S
  rk : Row W r.fk 16 r.ck K
  rm : Row W r.fn 16 r.cn M
  rp : BRow W fd 2 cd P
  ne : r.fs ≠ r.fk ∧ r.fs ≠ r.fn ∧ r.fk ≠ r.fn
def RLoc.FX (r : RLoc) (fd b : Nat) : Prop := b = r.fp ∨ b = r.fs ∨ b = r.fk ∨ b = r.fn ∨ b = fd
theorem Rf.fr {X : Nat → Prop} {W W' : World} {r : RLoc} {fd cd : Nat} {S K M : List Int} {P : List Bool} (h : Rf W r fd cd S K M P) (hf : Fr X W W') (hx : ∀ b, r.FX fd b → ¬ X b) : Rf W' r fd cd S K M P :=
  ⟨let ⟨st, h1⟩ := h.tp; ⟨st, hf.keeps h1 (hx _ (.inl rfl))⟩, Pm.Row.fr h.rs hf (hx _ (.inr (.inl rfl))), Pm.Row.fr h.rk hf (hx _ (.inr (.inr (.inl rfl)))), Pm.Row.fr h.rm hf (hx _ (.inr (.inr (.inr (.inl rfl))))), h.rp.fr hf (hx _ (.inr (.inr (.inr (.inr rfl))))), h.ne⟩
theorem rthere_calls (W : World) {r : RLoc} {fd cd : Nat} {S K M : List Int} {P : List Bool} (h : Rf W r fd cd S K M P) (a : Int) : Calls Try.prog 31 #[.pointer (some ⟨r.fp, 0, none⟩), .int .i64 a] W fun e w' => e = .returned (.bool (thereB 16 a)) ∧ w' = W := by
  obtain ⟨st, hp⟩ := h.tp
  have hu := Try.underlying68
  have h0 : W.cell? ⟨r.fp, 0, none⟩ = some (.slice (some ⟨r.fs, 0, none⟩) 16 r.cs) := (blk_cell hp 0).trans rfl
  unfold thereB
  clear h hp
  by_cases h1 : 0 ≤ a
  · by_cases h2 : a < 16
    · rw [decide_eq_true (show 0 ≤ a ∧ a < ((16 : Nat) : Int) from ⟨h1, h2⟩)]
      have hd : decide (a ≥ 0) = true := decide_eq_true h1
      have hd2 : decide (a < (16 : Int)) = true := decide_eq_true h2
      go_enter Try.func31, Try.ntmps31
      go_wp2
      go_ret
      exact ⟨by simp [h2], rfl⟩
    · rw [decide_eq_false (fun x : 0 ≤ a ∧ a < ((16 : Nat) : Int) => h2 x.2)]
      have hd : decide (a ≥ 0) = true := decide_eq_true h1
      have hd2 : decide (a < (16 : Int)) = false := decide_eq_false h2
      go_enter Try.func31, Try.ntmps31
      go_wp2
      go_ret
      exact ⟨by first | (simp; done) | (simp; omega), rfl⟩
  · rw [decide_eq_false (fun x : 0 ≤ a ∧ a < ((16 : Nat) : Int) => h1 x.1)]
    have hd : decide (a ≥ 0) = false := decide_eq_false h1
    go_enter Try.func31, Try.ntmps31
    go_wp2
    go_ret
    exact ⟨rfl, rfl⟩
theorem rset_at (L : List Int) (k : Nat) (v : Int) (i : Nat) (h : i < L.length) : (L.set k v).getD i 0 = if i = k then v else L.getD i 0 := Pm.set_at L k v i h
set_option maxHeartbeats 4000000 in
set_option maxRecDepth 100000 in
theorem rflush_calls (W : World) {r : RLoc} {fd cd : Nat} {S K M : List Int} {P : List Bool} (h : Rf W r fd cd S K M P) (a : Int) (ha : 0 ≤ a ∧ a < 16) : Calls Try.prog 32 #[.pointer (some ⟨r.fp, 0, none⟩), .int .i64 a] W
    (Vd fun w' => (∃ M', Rf w' r fd cd S K M' (P.set (a.toNat / 8) true) ∧ ∀ j, j < 16 → M'.getD j 0 = if j / 8 = a.toNat / 8 then S.getD j 0 else M.getD j 0) ∧ Fr (r.FX fd) W w') := by
  obtain ⟨st, hp⟩ := h.tp
  have hu := Try.underlying68
  have h3 : W.cell? ⟨r.fp, 3, none⟩ = some (.slice (some ⟨fd, 0, none⟩) 2 cd) := (blk_cell hp 3).trans rfl
  have ha0 := ha.1
  have ha1 := ha.2
  have HR := Aside0.mk h
  have HA := Aside0.mk ha
  clear h hp ha
  obtain ⟨q, hq, hq2, hq3⟩ : ∃ q : Nat, a / 8 = (q : Int) ∧ q < 2 ∧ a.toNat / 8 = q := ⟨a.toNat / 8, by omega, by omega, rfl⟩
  have HQ3 := Aside0.mk hq3
  clear hq3
  have hq0 : (0 : Int) ≤ (q : Int) := by omega
  have hq1 : (q : Int) < 2 := by omega
  have hb := HR.out.rp.cell q hq2
  have hf := HR.out.rp.frozen q
  have G1 := Aside0.mk (HR.out.rp.put q hq2 true)
  have F1 := Aside0.mk ((Fr.refl (r.FX fd) W).setCell (p := ⟨fd, q, none⟩) (.inl (.inr (.inr (.inr (.inr rfl))))) (.bool true))
  have X1 := Aside0.mk ((Fr.refl (fun b => b = fd) W).setCell (p := ⟨fd, q, none⟩) (.inl rfl) (.bool true))
  have NE := Aside0.mk HR.out.ne
  obtain ⟨_, bs⟩ := HR.out.rs.blk
  obtain ⟨_, bk⟩ := HR.out.rk.blk
  obtain ⟨_, bm⟩ := HR.out.rm.blk
  obtain ⟨_, bd⟩ := HR.out.rp.blk
  obtain ⟨st1, bp⟩ := HR.out.tp
  have N1 := Aside0.mk (And.intro (type_ne bp bs (by decide)) (And.intro (type_ne bp bm (by decide)) (And.intro (type_ne bp bd (by decide)) (And.intro (type_ne bs bd (by decide)) (And.intro (type_ne bk bd (by decide)) (type_ne bm bd (by decide)))))))
  have R1 := Aside0.mk (show Rf (W.setCell ⟨fd, q, none⟩ (.bool true)) r fd cd S K M (P.set q true) from ⟨⟨st1, X1.out.keeps bp N1.out.2.2.1⟩, Pm.Row.fr HR.out.rs X1.out N1.out.2.2.2.1, Pm.Row.fr HR.out.rk X1.out N1.out.2.2.2.2.1, Pm.Row.fr HR.out.rm X1.out N1.out.2.2.2.2.2, G1.out, HR.out.ne⟩)
  clear bs bk bm bd bp
  go_enter Try.func32, Try.ntmps32
  go_wp2_with fail
  generalize hw1 : W.setCell ⟨fd, q, none⟩ (.bool true) = W1 at F1 R1 G1 X1 ⊢
  clear hw1 hb hf h3 X1 G1
  (try rw [hq])
  go_loopw [4] (fun iv wr => ∃ (k : Nat) (M' : List Int), 8 * q ≤ k ∧ k ≤ 8 * q + 8 ∧ iv = .int .i64 k ∧ Aside0 (Rf wr r fd cd S K M' (P.set q true)) ∧ Aside0 (Fr (r.FX fd) W wr) ∧ Aside0 (∀ j, j < 16 → M'.getD j 0 = if 8 * q ≤ j ∧ j < k then S.getD j 0 else M.getD j 0)) (fun iv _ => 8 * q + 8 - (intOf iv).toNat)
  case atStart => exact ⟨8 * q, M, by omega, by omega, by congr 1; omega, R1, F1, Aside0.mk (fun j hj => by rw [if_neg (by omega)])⟩
  case round =>
    clear R1 F1
    obtain ⟨k, M', hk1, hk2, rfl, R2, F2, H2⟩ := hrel
    obtain ⟨st2, hp2⟩ := R2.out.tp
    by_cases hlt : k < 8 * q + 8
    · have hd : decide ((k : Int) < (q : Int) * 8 + 8) = true := decide_eq_true (by omega)
      have hi0 : (0 : Int) ≤ (k : Int) := by omega
      have hi1 : (k : Int) < 16 := by omega
      have c0 : wr.cell? ⟨r.fp, 0, none⟩ = some (.slice (some ⟨r.fs, 0, none⟩) 16 r.cs) := (blk_cell hp2 0).trans rfl
      have c2 : wr.cell? ⟨r.fp, 2, none⟩ = some (.slice (some ⟨r.fn, 0, none⟩) 16 r.cn) := (blk_cell hp2 2).trans rfl
      have cs := R2.out.rs.cell k (by omega)
      have cm := R2.out.rm.cell k (by omega)
      have fm := R2.out.rm.frozen k
      have hsk := Aside0.mk (Eq.refl (S.getD k 0))
      obtain ⟨y, hy⟩ : ∃ y, S.getD k 0 = y := ⟨_, rfl⟩
      rw [hy] at cs
      have HY := Aside0.mk hy
      obtain ⟨z, hz⟩ : ∃ z, M'.getD k 0 = z := ⟨_, rfl⟩
      rw [hz] at cm
      have n1 : ¬ r.fs = r.fn := NE.out.2.1
      have n2 : ¬ r.fp = r.fn := N1.out.2.1
      have n3 : ¬ r.fn = r.fs := fun e => n1 e.symm
      have n4 : ¬ r.fn = r.fp := fun e => n2 e.symm
      clear hy hz hp2 hsk
      go_wp2_with fail
      go_region_held3 (fun w' => w'.cell? ⟨r.fp, 0, none⟩ = some (.slice (some ⟨r.fs, 0, none⟩) 16 r.cs) ∧ w'.cell? ⟨r.fp, 2, none⟩ = some (.slice (some ⟨r.fn, 0, none⟩) 16 r.cn) ∧ w'.cell? ⟨r.fs, k, none⟩ = some (.int .u64 y)) (go_keep) (fail)
      go_wp2_with fail
      have hM : ∀ j, j < 16 → (M'.set k y).getD j 0 = if 8 * q ≤ j ∧ j < k + 1 then S.getD j 0 else M.getD j 0 := fun j hj => by
        rw [rset_at _ _ _ _ (by rw [R2.out.rm.len]; exact hj)]
        by_cases e : j = k
        · subst e; rw [if_pos rfl, if_pos ⟨hk1, by omega⟩]; exact HY.out.symm
        · rw [if_neg e, H2.out j hj]
          by_cases e2 : 8 * q ≤ j ∧ j < k
          · rw [if_pos e2, if_pos ⟨e2.1, by omega⟩]
          · rw [if_neg e2, if_neg (by omega)]
      have X3 := (Fr.refl (fun b => b = r.fn) wr).setCell (p := ⟨r.fn, k, none⟩) (.inl rfl) (.int .u64 y)
      have R3 : Rf (wr.setCell ⟨r.fn, k, none⟩ (.int .u64 y)) r fd cd S K (M'.set k y) (P.set q true) := by
        obtain ⟨st3, hp3⟩ := R2.out.tp
        exact ⟨⟨st3, X3.keeps hp3 N1.out.2.1⟩, Pm.Row.fr R2.out.rs X3 NE.out.2.1, Pm.Row.fr R2.out.rk X3 NE.out.2.2, R2.out.rm.put k (by omega) y, R2.out.rp.fr X3 (fun e => N1.out.2.2.2.2.2 e.symm), R2.out.ne⟩
      have F3 := F2.out.setCell (p := ⟨r.fn, k, none⟩) (.inl (.inr (.inr (.inr (.inl rfl))))) (.int .u64 y)
      refine ⟨⟨k + 1, M'.set k y, by omega, by omega, by push_cast; rfl, Aside0.mk (R3.fr (X := fun _ => False) (Fr.refl _ _).drew1 (fun _ _ h => h)), Aside0.mk F3.drew1, Aside0.mk hM⟩, ?_⟩
      show 8 * q + 8 - ((k : Int) + 1).toNat < 8 * q + 8 - (k : Int).toNat
      omega
    · have hd : decide ((k : Int) < (q : Int) * 8 + 8) = false := decide_eq_false (by omega)
      go_wp2_with fail
      go_end0
      obtain rfl : k = 8 * q + 8 := by omega
      refine ⟨rfl, ⟨M', by rw [HQ3.out]; exact R2.out, fun j hj => ?_⟩, F2.out⟩
      rw [H2.out j hj, HQ3.out]
      by_cases e : j / 8 = q
      · rw [if_pos e, if_pos (by omega)]
      · rw [if_neg e, if_neg (by omega)]
end Go.Proofs.Ytmolflmljneelaa.En
/- The document's Fence, Take, Leave. -/
namespace Go.Proofs.Ytmolflmljneelaa.En
open Go.RowKit Go.Proofs.YtmolflmljneelaaW.PrintWords Go.Proofs.YtmolflmljneelaaW.PrintLast Go.Proofs.YtmolflmljneelaaW.PrintMore
open Pm (Fr Rg Row thereB pendAt WFD) 
open Lk (Tbl takeR leaveR ownerV Only)
set_option linter.unusedSimpArgs false
set_option linter.unusedVariables false
theorem made2 : ∀ w : World, (Instr.makeSlice 66 (.int .i64 2) (.int .i64 2)).run Try.prog w = .ok (.slice (some ⟨w.heap.size, 0, none⟩) 2 2) (w.alloc (.cells #[.bool false, .bool false] 4)) := fun _ => by kernel_rfl
theorem brow_made (W : World) : BRow (W.alloc (.cells #[.bool false, .bool false] 4)) W.heap.size 2 2 [false, false] := ⟨rfl, _, blk_new W _, rfl, Nat.le_refl _, by simp only [maxLen]; omega, fun i hi => by
  match i, hi with
  | 0, _ => rfl
  | 1, _ => rfl⟩
set_option maxHeartbeats 4000000 in
set_option maxRecDepth 100000 in
theorem rfence_calls (W : World) {r : RLoc} {fd cd : Nat} {S K M : List Int} {P : List Bool} (h : Rf W r fd cd S K M P) : Calls Try.prog 33 #[.pointer (some ⟨r.fp, 0, none⟩)] W
    (Vd fun w' => (∃ K' fd', Rf w' r fd' 2 S K' M [false, false] ∧ (∀ j, j < 16 → K'.getD j 0 = if P.getD (j / 8) false then M.getD j 0 else K.getD j 0) ∧ W.heap.size ≤ fd') ∧ Fr (r.FX fd) W w') := by
  have hu := Try.underlying68
  have NE := Aside0.mk h.ne
  obtain ⟨_, bs⟩ := h.rs.blk
  obtain ⟨_, bk⟩ := h.rk.blk
  obtain ⟨_, bm⟩ := h.rm.blk
  obtain ⟨_, bd⟩ := h.rp.blk
  obtain ⟨st1, bp⟩ := h.tp
  have N1 := Aside0.mk (And.intro (type_ne bp bs (by decide)) (And.intro (type_ne bp bk (by decide)) (And.intro (type_ne bp bm (by decide)) (And.intro (type_ne bp bd (by decide)) (type_ne bk bd (by decide))))))
  have R1 := Aside0.mk h
  have hmk := made2
  clear bs bk bm bd bp h
  go_enter Try.func33, Try.ntmps33
  go_wp2_with fail
  go_loopw [2] (fun iv wr => ∃ (k : Nat) (K' : List Int), k ≤ 16 ∧ iv = .int .i64 k ∧ Aside0 (Rf wr r fd cd S K' M P) ∧ Aside0 (Fr (r.FX fd) W wr) ∧ Aside0 (∀ j, j < 16 → K'.getD j 0 = if j < k ∧ P.getD (j / 8) false = true then M.getD j 0 else K.getD j 0)) (fun iv _ => 16 - (intOf iv).toNat)
  case atStart => exact ⟨0, K, by omega, rfl, R1, Aside0.mk (Fr.refl _ W), Aside0.mk (fun j hj => by rw [if_neg (by omega)])⟩
  case round =>
    clear R1
    obtain ⟨k, K', hk2, rfl, R2, F2, H2⟩ := hrel
    obtain ⟨st2, hp2⟩ := R2.out.tp
    have c0 : wr.cell? ⟨r.fp, 0, none⟩ = some (.slice (some ⟨r.fs, 0, none⟩) 16 r.cs) := (blk_cell hp2 0).trans rfl
    by_cases hlt : k < 16
    · have hd : decide ((k : Int) < 16) = true := decide_eq_true (by omega)
      have hi0 : (0 : Int) ≤ (k : Int) := by omega
      have hi1 : (k : Int) < 16 := by omega
      obtain ⟨q, hq, hq2, hq3⟩ : ∃ q : Nat, (k : Int) / 8 = (q : Int) ∧ q < 2 ∧ k / 8 = q := ⟨k / 8, by omega, by omega, rfl⟩
      have HQ3 := Aside0.mk hq3
      clear hq3
      have hq0 : (0 : Int) ≤ (q : Int) := by omega
      have hq1 : (q : Int) < 2 := by omega
      have c3 : wr.cell? ⟨r.fp, 3, none⟩ = some (.slice (some ⟨fd, 0, none⟩) 2 cd) := (blk_cell hp2 3).trans rfl
      have c1 : wr.cell? ⟨r.fp, 1, none⟩ = some (.slice (some ⟨r.fk, 0, none⟩) 16 r.ck) := (blk_cell hp2 1).trans rfl
      have c2 : wr.cell? ⟨r.fp, 2, none⟩ = some (.slice (some ⟨r.fn, 0, none⟩) 16 r.cn) := (blk_cell hp2 2).trans rfl
      have cp := R2.out.rp.cell q hq2
      obtain ⟨pb, hpb⟩ : ∃ pb, P.getD q false = pb := ⟨_, rfl⟩
      rw [hpb] at cp
      have HPB := Aside0.mk hpb
      clear hpb hp2
      cases pb
      · go_wp2_with fail
        refine ⟨⟨k + 1, K', by omega, by push_cast; rfl, R2, F2, Aside0.mk (fun j hj => ?_)⟩, ?_⟩
        · rw [H2.out j hj]
          by_cases e : j < k ∧ P.getD (j / 8) false = true
          · rw [if_pos e, if_pos ⟨by omega, e.2⟩]
          · rw [if_neg e, if_neg (fun e2 => e ⟨by
              have : j ≠ k := fun e3 => by
                subst e3
                rw [HQ3.out, HPB.out] at e2
                exact absurd e2.2 (by decide)
              omega, e2.2⟩)]
        · show 16 - ((k : Int) + 1).toNat < 16 - (k : Int).toNat
          omega
      · have cm := R2.out.rm.cell k (by omega)
        have ck := R2.out.rk.cell k (by omega)
        have fk := R2.out.rk.frozen k
        obtain ⟨y, hy⟩ : ∃ y, M.getD k 0 = y := ⟨_, rfl⟩
        rw [hy] at cm
        have HY := Aside0.mk hy
        obtain ⟨z, hz⟩ : ∃ z, K'.getD k 0 = z := ⟨_, rfl⟩
        rw [hz] at ck
        have n1 : ¬ r.fk = r.fn := NE.out.2.2
        have n2 : ¬ r.fp = r.fk := N1.out.2.1
        have n3 : ¬ r.fn = r.fk := fun e => n1 e.symm
        have n4 : ¬ r.fk = r.fp := fun e => n2 e.symm
        clear hy hz
        go_wp2_with fail
        go_region_held3 (fun w' => w'.cell? ⟨r.fp, 1, none⟩ = some (.slice (some ⟨r.fk, 0, none⟩) 16 r.ck) ∧ w'.cell? ⟨r.fp, 2, none⟩ = some (.slice (some ⟨r.fn, 0, none⟩) 16 r.cn) ∧ w'.cell? ⟨r.fn, k, none⟩ = some (.int .u64 y)) (go_keep) (fail)
        go_wp2_with fail
        have hM : ∀ j, j < 16 → (K'.set k y).getD j 0 = if j < k + 1 ∧ P.getD (j / 8) false = true then M.getD j 0 else K.getD j 0 := fun j hj => by
          rw [rset_at _ _ _ _ (by rw [R2.out.rk.len]; exact hj)]
          by_cases e : j = k
          · subst e; rw [if_pos rfl, if_pos ⟨by omega, by rw [HQ3.out]; exact HPB.out⟩]; exact HY.out.symm
          · rw [if_neg e, H2.out j hj]
            by_cases e2 : j < k ∧ P.getD (j / 8) false = true
            · rw [if_pos e2, if_pos ⟨by omega, e2.2⟩]
            · rw [if_neg e2, if_neg (fun e3 => e2 ⟨by omega, e3.2⟩)]
        have X3 := (Fr.refl (fun b => b = r.fk) wr).setCell (p := ⟨r.fk, k, none⟩) (.inl rfl) (.int .u64 y)
        have R3 : Rf (wr.setCell ⟨r.fk, k, none⟩ (.int .u64 y)) r fd cd S (K'.set k y) M P := by
          obtain ⟨st3, hp3⟩ := R2.out.tp
          exact ⟨⟨st3, X3.keeps hp3 N1.out.2.1⟩, Pm.Row.fr R2.out.rs X3 NE.out.1, R2.out.rk.put k (by omega) y, Pm.Row.fr R2.out.rm X3 (fun e => NE.out.2.2 e.symm), R2.out.rp.fr X3 (fun e => N1.out.2.2.2.2 e.symm), R2.out.ne⟩
        have F3 := F2.out.setCell (p := ⟨r.fk, k, none⟩) (.inl (.inr (.inr (.inl rfl)))) (.int .u64 y)
        refine ⟨⟨k + 1, K'.set k y, by omega, by push_cast; rfl, Aside0.mk (R3.fr (X := fun _ => False) (Fr.refl _ _).drew1 (fun _ _ h => h)), Aside0.mk F3.drew1, Aside0.mk hM⟩, ?_⟩
        show 16 - ((k : Int) + 1).toNat < 16 - (k : Int).toNat
        omega
    · have hd : decide ((k : Int) < 16) = false := decide_eq_false (by omega)
      obtain rfl : k = 16 := by omega
      have c3 : wr.cell? ⟨r.fp, 3, none⟩ = some (.slice (some ⟨fd, 0, none⟩) 2 cd) := (blk_cell hp2 3).trans rfl
      have f3 : wr.frozen? ⟨r.fp, 3, none⟩ = false := blk_frozen hp2 3
      have hlp := blk_lt hp2
      have ha2 := blk_alloc hp2 (.cells #[.bool false, .bool false] 4)
      have c3' : (wr.alloc (.cells #[.bool false, .bool false] 4)).cell? ⟨r.fp, 3, none⟩ = some (.slice (some ⟨fd, 0, none⟩) 2 cd) := (blk_cell ha2 3).trans rfl
      have f3' : (wr.alloc (.cells #[.bool false, .bool false] 4)).frozen? ⟨r.fp, 3, none⟩ = false := blk_frozen ha2 3
      clear ha2 hp2
      go_wp2_with fail
      go_end0
      obtain ⟨st3, hp3⟩ := R2.out.tp
      have X3 := ((Fr.refl (fun b => b = r.fp) wr).setCell (p := ⟨r.fp, 3, none⟩) (.inl rfl) (.slice (some ⟨wr.heap.size, 0, none⟩) 2 2)).alloc (.cells #[.bool false, .bool false] 4)
      have F3 := (F2.out.setCell (p := ⟨r.fp, 3, none⟩) (.inl (.inl rfl)) (.slice (some ⟨wr.heap.size, 0, none⟩) 2 2)).alloc (.cells #[.bool false, .bool false] 4)
      have B3 := brow_made (wr.setCell ⟨r.fp, 3, none⟩ (.slice (some ⟨wr.heap.size, 0, none⟩) 2 2))
      have hsz : (wr.setCell ⟨r.fp, 3, none⟩ (.slice (some ⟨wr.heap.size, 0, none⟩) 2 2)).heap.size = wr.heap.size := by simp [World.setCell]
      rw [hsz] at B3
      refine ⟨rfl, ⟨K', wr.heap.size, ⟨⟨st3, blk_alloc (blk_put hp3 3 _ rfl) _⟩, Pm.Row.fr R2.out.rs X3 (fun e => N1.out.1 e.symm), Pm.Row.fr R2.out.rk X3 (fun e => N1.out.2.1 e.symm), Pm.Row.fr R2.out.rm X3 (fun e => N1.out.2.2.1 e.symm), B3, R2.out.ne⟩, fun j hj => ?_, F2.out.size⟩, F3⟩
      rw [H2.out j hj]
      by_cases e : P.getD (j / 8) false = true
      · rw [if_pos e, if_pos ⟨hj, e⟩]
      · rw [if_neg e, if_neg (fun e2 => e e2.2)]
/-- The document's table: its locks' owners L in block ug. -/
structure RT (W : World) (r : RLoc) (L : List Int) : Prop where
  tp : ∃ k : Int, W.heap[r.up]? = some (.cells #[.slice (some ⟨r.ug, 0, none⟩) L.length L.length, .int .i64 k] 70 (0, 0))
  tg : W.heap[r.ug]? = some (.cells (L.map (Value.int .i64)).toArray 3 (0, 0))
  own : ∀ x ∈ L, -1 ≤ x
def RLoc.UX (r : RLoc) (b : Nat) : Prop := b = r.up ∨ b = r.ug
theorem RT.fr {X : Nat → Prop} {W W' : World} {r : RLoc} {L : List Int} (h : RT W r L) (hf : Fr X W W') (h1 : ¬ X r.up) (h2 : ¬ X r.ug) : RT W' r L := ⟨let ⟨k, hk⟩ := h.tp; ⟨k, hf.keeps hk h1⟩, hf.keeps h.tg h2, h.own⟩
theorem RT.cell {W : World} {r : RLoc} {L : List Int} (h : RT W r L) (i : Nat) (hi : i < L.length) : W.cell? ⟨r.ug, i, none⟩ = some (.int .i64 (L.getD i 0)) := by
  rw [blk_cell h.tg i]
  simp [hi]
theorem RT.put {W : World} {r : RLoc} {L : List Int} (h : RT W r L) (i : Nat) (x : Int) (hx : -1 ≤ x) : RT (W.setCell ⟨r.ug, i, none⟩ (.int .i64 x)) r (L.set i x) := by
  obtain ⟨k, hk⟩ := h.tp
  refine ⟨⟨k, ?_⟩, ?_, ?_⟩
  · rw [List.length_set]
    exact blk_far hk (type_ne hk h.tg (by decide)) _
  · exact blk_put h.tg i _ (by simp [List.map_set])
  · intro z hz
    rcases List.mem_or_eq_of_mem_set hz with h1 | h1
    · exact h.own z h1
    · omega
theorem RT.took {W : World} {r : RLoc} {L : List Int} (h : RT W r L) (k : Int) : RT (W.setCell ⟨r.up, 1, none⟩ (.int .i64 k)) r L := by
  obtain ⟨k0, hk⟩ := h.tp
  exact ⟨⟨k, blk_put hk 1 _ rfl⟩, blk_far h.tg (type_ne h.tg hk (by decide)) _, h.own⟩
/-- An error's number, and the table's owners, are f. -/
def LkO (W : World) (r : RLoc) (f : Int × List Int) (e : Ending) (w' : World) : Prop := ∃ q L', e = .returned (.int .i64 q) ∧ (q, L') = f ∧ RT w' r L' ∧ Fr r.UX W w'
set_option maxHeartbeats 1000000 in
theorem rtake_no (W : World) {r : RLoc} {L : List Int} (h : RT W r L) (a who : Int) (hno : ¬ (0 ≤ a ∧ a < L.length ∧ 0 ≤ who)) : Calls Try.prog 34 #[.pointer (some ⟨r.up, 0, none⟩), .int .i64 a, .int .i64 who] W fun e w' => e = .returned (.int .i64 1) ∧ w' = W := by
  obtain ⟨k, hk⟩ := h.tp
  have hu := Try.underlying70
  have c0 : W.cell? ⟨r.up, 0, none⟩ = some (.slice (some ⟨r.ug, 0, none⟩) L.length L.length) := (blk_cell hk 0).trans rfl
  clear h hk
  by_cases h1 : a < 0
  · have hd : decide (a < 0) = true := decide_eq_true h1
    go_enter Try.func34, Try.ntmps34
    go_wp2
    go_ret
    exact ⟨rfl, rfl⟩
  · have hd : decide (a < 0) = false := decide_eq_false h1
    by_cases h2 : a ≥ L.length
    · have hd2 : decide (a ≥ (L.length : Int)) = true := decide_eq_true h2
      go_enter Try.func34, Try.ntmps34
      go_wp2
      go_ret
      exact ⟨rfl, rfl⟩
    · have hd2 : decide (a ≥ (L.length : Int)) = false := decide_eq_false h2
      have hd3 : decide (who < 0) = true := decide_eq_true (by omega)
      go_enter Try.func34, Try.ntmps34
      go_wp2
      go_ret
      exact ⟨rfl, rfl⟩
set_option maxHeartbeats 1000000 in
theorem rleave_no (W : World) {r : RLoc} {L : List Int} (h : RT W r L) (a who : Int) (hno : ¬ (0 ≤ a ∧ a < L.length ∧ 0 ≤ who)) : Calls Try.prog 35 #[.pointer (some ⟨r.up, 0, none⟩), .int .i64 a, .int .i64 who] W fun e w' => (∃ k, e = .returned (.int .i64 k)) ∧ w' = W := by
  obtain ⟨k, hk⟩ := h.tp
  have hu := Try.underlying70
  have c0 : W.cell? ⟨r.up, 0, none⟩ = some (.slice (some ⟨r.ug, 0, none⟩) L.length L.length) := (blk_cell hk 0).trans rfl
  clear h hk
  by_cases h1 : a < 0
  · have hd : decide (a < 0) = true := decide_eq_true h1
    go_enter Try.func35, Try.ntmps35
    go_wp2
    go_ret
    exact ⟨⟨_, rfl⟩, rfl⟩
  · have hd : decide (a < 0) = false := decide_eq_false h1
    by_cases h2 : a ≥ L.length
    · have hd2 : decide (a ≥ (L.length : Int)) = true := decide_eq_true h2
      go_enter Try.func35, Try.ntmps35
      go_wp2
      go_ret
      exact ⟨⟨_, rfl⟩, rfl⟩
    · have hd2 : decide (a ≥ (L.length : Int)) = false := decide_eq_false h2
      have hd3 : decide (who < 0) = true := decide_eq_true (by omega)
      go_enter Try.func35, Try.ntmps35
      go_wp2
      go_ret
      exact ⟨⟨_, rfl⟩, rfl⟩
set_option maxRecDepth 100000 in
set_option maxHeartbeats 1000000 in
theorem rtake_in (W : World) {r : RLoc} {L : List Int} (h : RT W r L) (a who : Int) (hl : 0 ≤ a ∧ a < L.length) (hw : 0 ≤ who) : Calls Try.prog 34 #[.pointer (some ⟨r.up, 0, none⟩), .int .i64 a, .int .i64 who] W
    (LkO W r (if L.getD a.toNat 0 = -1 then ((0 : Int), L.set a.toNat who) else (5, L))) := by
  obtain ⟨k, hk⟩ := h.tp
  have hu := Try.underlying70
  have hu2 := Try.underlying2
  have c0 : W.cell? ⟨r.up, 0, none⟩ = some (.slice (some ⟨r.ug, 0, none⟩) L.length L.length) := (blk_cell hk 0).trans rfl
  have c1 : W.cell? ⟨r.up, 1, none⟩ = some (.int .i64 k) := (blk_cell hk 1).trans rfl
  have f1 : W.frozen? ⟨r.up, 1, none⟩ = false := blk_frozen hk 1
  have ci := h.cell a.toNat (by omega)
  have fi : W.frozen? ⟨r.ug, a.toNat, none⟩ = false := blk_frozen h.tg _
  have hd : decide (a < 0) = false := decide_eq_false (by omega)
  have hd2 : decide (a ≥ (L.length : Int)) = false := decide_eq_false (by omega)
  have hd3 : decide (who < 0) = false := decide_eq_false (by omega)
  have h3 : 0 ≤ a := hl.1
  have h4 : a < (L.length : Int) := hl.2
  have ne : ¬ r.up = r.ug := type_ne hk h.tg (by decide)
  have ne2 : ¬ r.ug = r.up := fun e => ne e.symm
  have hmem : -1 ≤ L.getD a.toNat 0 := by
    rw [List.getD_eq_getElem?_getD, List.getElem?_eq_getElem (by omega : a.toNat < L.length)]
    exact h.own _ (List.getElem_mem _)
  have HT := Aside0.mk h
  have HW := Aside0.mk hw
  clear h hk
  obtain ⟨y, hy⟩ : ∃ y, L.getD a.toNat 0 = y := ⟨_, rfl⟩
  rw [hy] at ci hmem ⊢
  clear hy
  by_cases hy1 : y = -1
  · subst hy1
    go_enter Try.func34, Try.ntmps34
    go_wp2
    go_ret
    refine ⟨0, L.set a.toNat who, rfl, by first | rfl | rw [if_pos rfl], (HT.out.put a.toNat who (by have := HW.out; omega)).took _, ?_⟩
    exact ((Fr.refl r.UX W).setCell (p := ⟨r.ug, a.toNat, none⟩) (.inl (.inr rfl)) _).setCell (p := ⟨r.up, 1, none⟩) (.inl (.inl rfl)) _
  · have hd5 : decide (y ≥ 0) = true := decide_eq_true (by omega)
    go_enter Try.func34, Try.ntmps34
    go_wp2
    go_ret
    exact ⟨5, L, rfl, by first | rfl | rw [if_neg hy1], HT.out, Fr.refl _ _⟩
set_option maxRecDepth 100000 in
set_option maxHeartbeats 1000000 in
theorem rleave_in (W : World) {r : RLoc} {L : List Int} (h : RT W r L) (a who : Int) (hl : 0 ≤ a ∧ a < L.length) (hw : 0 ≤ who) : Calls Try.prog 35 #[.pointer (some ⟨r.up, 0, none⟩), .int .i64 a, .int .i64 who] W
    (LkO W r (if L.getD a.toNat 0 = who then ((0 : Int), L.set a.toNat (-1)) else (6, L))) := by
  obtain ⟨k, hk⟩ := h.tp
  have hu := Try.underlying70
  have c0 : W.cell? ⟨r.up, 0, none⟩ = some (.slice (some ⟨r.ug, 0, none⟩) L.length L.length) := (blk_cell hk 0).trans rfl
  have ci := h.cell a.toNat (by omega)
  have fi : W.frozen? ⟨r.ug, a.toNat, none⟩ = false := blk_frozen h.tg _
  have hd : decide (a < 0) = false := decide_eq_false (by omega)
  have hd2 : decide (a ≥ (L.length : Int)) = false := decide_eq_false (by omega)
  have hd3 : decide (who < 0) = false := decide_eq_false (by omega)
  have h3 : 0 ≤ a := hl.1
  have h4 : a < (L.length : Int) := hl.2
  have ne : ¬ r.up = r.ug := type_ne hk h.tg (by decide)
  have ne2 : ¬ r.ug = r.up := fun e => ne e.symm
  have HT := Aside0.mk h
  clear h hk
  obtain ⟨y, hy⟩ : ∃ y, L.getD a.toNat 0 = y := ⟨_, rfl⟩
  rw [hy] at ci ⊢
  clear hy
  by_cases hy1 : y = who
  · subst hy1
    go_enter Try.func35, Try.ntmps35
    go_wp2
    go_ret
    refine ⟨0, L.set a.toNat (-1), rfl, by first | rfl | rw [if_pos rfl], HT.out.put a.toNat (-1) (by omega), ?_⟩
    exact (Fr.refl r.UX W).setCell (p := ⟨r.ug, a.toNat, none⟩) (.inl (.inr rfl)) _
  · have hd5 : (y == who) = false := by simp [hy1]
    have hd6 : (y != who) = true := by simp [hy1]
    go_enter Try.func35, Try.ntmps35
    go_wp2
    go_ret
    exact ⟨6, L, rfl, by first | rfl | rw [if_neg hy1], HT.out, Fr.refl _ _⟩
theorem rtake_calls (W : World) {r : RLoc} {L : List Int} (h : RT W r L) (a who : Int) : Calls Try.prog 34 #[.pointer (some ⟨r.up, 0, none⟩), .int .i64 a, .int .i64 who] W fun e w' => e = .returned (.int .i64 (takeR L a who).1) ∧ RT w' r (takeR L a who).2 ∧ Fr r.UX W w' := by
  by_cases hy : 0 ≤ a ∧ a < L.length ∧ 0 ≤ who
  · refine (rtake_in W h a who ⟨hy.1, hy.2.1⟩ hy.2.2).mono ?_
    rintro e w' ⟨q, L', rfl, hq, h1, h2⟩
    have hk : takeR L a who = (q, L') := by
      rw [hq]
      unfold takeR
      rw [if_pos hy]
    rw [hk]
    exact ⟨rfl, h1, h2⟩
  · refine (rtake_no W h a who hy).mono ?_
    rintro e w' ⟨rfl, rfl⟩
    have hk : takeR L a who = (1, L) := by
      unfold takeR
      rw [if_neg hy]
    rw [hk]
    exact ⟨rfl, h, Fr.refl _ _⟩
theorem rleave_calls (W : World) {r : RLoc} {L : List Int} (h : RT W r L) (a who : Int) : Calls Try.prog 35 #[.pointer (some ⟨r.up, 0, none⟩), .int .i64 a, .int .i64 who] W fun e w' => (∃ q, e = .returned (.int .i64 q)) ∧ RT w' r (leaveR L a who).2 ∧ Fr r.UX W w' := by
  by_cases hy : 0 ≤ a ∧ a < L.length ∧ 0 ≤ who
  · refine (rleave_in W h a who ⟨hy.1, hy.2.1⟩ hy.2.2).mono ?_
    rintro e w' ⟨q, L', rfl, hq, h1, h2⟩
    have hk : leaveR L a who = (q, L') := by
      rw [hq]
      unfold leaveR
      rw [if_pos hy]
    rw [hk]
    exact ⟨⟨_, rfl⟩, h1, h2⟩
  · refine (rleave_no W h a who hy).mono ?_
    rintro e w' ⟨hq, rfl⟩
    have hk : leaveR L a who = (1, L) := by
      unfold leaveR
      rw [if_neg hy]
    rw [hk]
    exact ⟨hq, h, Fr.refl _ _⟩
end Go.Proofs.Ytmolflmljneelaa.En
