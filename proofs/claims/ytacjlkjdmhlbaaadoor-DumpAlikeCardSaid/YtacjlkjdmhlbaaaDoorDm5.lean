/- Parts of one proof, set together: DoorHg1, DoorHg2, DoorHg3. What each says stands at its head; no condition beyond theirs. -/
import Derived.Test.YtacjlkjdmhlbaaaDoorDm4
import Derived.Laws.AppendOwn
import Derived.Laws.EntriesVeiled
import Derived.Maps.Own
import Derived.Maps.OwnOps
import Derived.Maps.RangeWalk
import Derived.RangeFuncBound
import Derived.RangeFuncBox
import Derived.RangeFuncCalls
import Derived.RangeFuncLeaves
import Derived.RangeFuncNested
import Derived.Shelf.Abstract
import Derived.Test.YtacjlkjdmhlbaaaDoorProg
import Derived.WalkKit
/- Parts of graph's walk (after my own texts for another seat: Di1). What each says stands at its head. -/
namespace Go.Proofs.YtacjlkjdmhlbaaaDoor.Di
open Go.RowKit Go.Shelf Go.Maps Go.ChangeMaps Go.MapKept Go.Proofs.YtacjlkjdmhlbaaaDoorW.PrintWords Go.Proofs.YtacjlkjdmhlbaaaDoorW.PrintLast Go.Proofs.YtacjlkjdmhlbaaaDoorW.PrintMore
set_option linter.unusedSimpArgs false
set_option linter.unusedVariables false
theorem keyed3 : Keyed Tryd.prog 3 := int_keyed Tryd.underlying3
theorem calls_marks {P : Program} {f : FuncId} {fn : Func} {c : Code} {args : Array Value} {w : World} {R : Ending → World → Prop}
    (hf : P.funcs[f]? = some fn) (hb : fn.body = some c) (h : c.wp P (bodyPostM Fence.wide 20 P fn R) { tmps := args ++ Array.replicate (fn.ntmps - args.size) undef, defers := [] } w) : Calls P f args w R :=
  callsIn_wide.1 (callsIn_of_wp_marks (n := 20) hf hb trivial (wpIn_wide.2 h))
/-- Elements that none has. -/
def noR (v : Value) : Option (DataW Unit × List MemPlace) := none
/-- An empty map lies at block b. -/
def EM (W : World) (b : Nat) : Prop := W.ownsMap Tryd.prog 3 noR b 0 (.map [])
theorem EM.below {W W' : World} {b : Nat} (h : EM W b) (hb : Below W.heap.size W W') : EM W' b := h.kept (row := none) ⟨hb.os, hb.tape, hb.output, hb.size, fun k hk _ => hb.block k hk⟩ (by simp)
theorem EM.lt {W : World} {b : Nat} (h : EM W b) : b < W.heap.size := World.ownsMap.lt h
theorem EM.far {W : World} {b : Nat} (h : EM W b) {p : Addr} (hp : b ≠ p.block) (u : Value) : EM (W.setCell p u) b := by
  obtain ⟨es, clock, hb, F, hs, hD⟩ := h
  exact ⟨es, clock, (Below.heap_setCell W p u b hp).trans hb, F, hs, hD⟩
theorem EM.put {W : World} {b D : Nat} (h : EM W b) (hne : b ≠ D) (o : Obj) : EM (W.putObj D o) b := World.ownsMap.kept h (grownBy_putObj' W D o) (by simpa using hne)
theorem back_calls (W : World) (a : Option Addr) (l c : Nat) : Calls Tryd.prog 34 #[.slice a l c] W fun e W' => ∃ g, e = .returned (.func (.func 40) #[] #[.pointer (some ⟨g, 0, none⟩)]) ∧ W'.heap[g]? = some (.cells #[.slice a l c] 23 (0, 0)) ∧ W.heap.size ≤ g ∧ Below W.heap.size W W' := by
  go_enter Tryd.func34, Tryd.ntmps34
  go_wp2
  go_ret
  exact ⟨_, rfl, blk_new W _, Nat.le_refl _, below_alloc (Below.refl _ _) _⟩
theorem look_none {W : World} {b : Nat} (h : EM W b) (v : Int) (hk : keyOf Tryd.prog 3 (.int .i64 v) = some (.int .i64 v)) : (Instr.lookup 59 (.map (some b)) (.int .i64 v) true).run Tryd.prog W = .ok (.tuple #[.agg #[.int .i64 0, .int .i64 0, .int .i64 0, .int .i64 0, .slice none 0 0, .slice none 0 0], .bool false]) W := by
  obtain ⟨es, clock, hb, F, hs, hD⟩ := h
  rcases fit_look (w := W) true keyed3 Tryd.underlying59 (Tryd.zeroValue35 W) hb F hk with ⟨hrun, _, hat⟩ | ⟨e0, y, _, _, hrun, hRv, hat, _⟩
  · exact hrun
  · cases hRv
end Go.Proofs.YtacjlkjdmhlbaaaDoor.Di
/- Parts of graph's walk (after my own texts for another seat: Di5). What each says stands at its head. -/
namespace Go.Proofs.YtacjlkjdmhlbaaaDoor.Di
open Go.RowKit Go.Shelf Go.Maps Go.ChangeMaps Go.MapKept Go.Proofs.YtacjlkjdmhlbaaaDoorW.PrintWords Go.Proofs.YtacjlkjdmhlbaaaDoorW.PrintLast Go.Proofs.YtacjlkjdmhlbaaaDoorW.PrintMore
set_option linter.unusedSimpArgs false
set_option linter.unusedVariables false
theorem row_below {W W' : World} {b : Nat} {e : TypeId} {s : Nat} {v : Value} {k : Nat} {xs : List Value} (h : W.ownsRow b e s v k xs) (hb : Below W.heap.size W W') : W'.ownsRow b e s v k xs :=
  h.kept (row := none) ⟨hb.os, hb.tape, hb.output, hb.size, fun k hk _ => hb.block k hk⟩ (by cases v.ownBlock <;> simp)
end Go.Proofs.YtacjlkjdmhlbaaaDoor.Di
/- Parts of graph's walk (after my own texts for another seat: Gp1). What each says stands at its head. -/
namespace Go.Proofs.YtacjlkjdmhlbaaaDoor.Gr
open Go.RowKit
set_option linter.unusedSimpArgs false
set_option linter.unusedVariables false
/-- A node: its four numbers, where its slots and data lie, what they are. -/
structure Nd where
  (adr refs sl words : Int)
  A : Option Addr
  (m c : Nat)
  B : Option Addr
  (n d : Nat)
  (S T : List Int)
instance : Inhabited Nd := ⟨⟨0, 0, 0, 0, none, 0, 0, none, 0, 0, [], []⟩⟩
abbrev Nd.val (x : Nd) : Value := .agg #[.int .i64 x.adr, .int .i64 x.refs, .int .i64 x.sl, .int .i64 x.words, .slice x.A x.m x.c, .slice x.B x.n x.d]
/-- A change. -/
structure Ch where
  (k a i was is : Int)
instance : Inhabited Ch := ⟨⟨0, 0, 0, 0, 0⟩⟩
abbrev u64 (x : Int) : Int := IntKind.u64.wrap x
def find (NS : List Nd) (x : Int) : Option Nd := NS.find? fun n => decide (n.adr = x)
theorem find_adr {NS : List Nd} {x : Int} {n : Nd} (h : find NS x = some n) : n.adr = x := by
  have := List.find?_some h
  simpa using this
theorem find_mem {NS : List Nd} {x : Int} {n : Nd} (h : find NS x = some n) : n ∈ NS := List.mem_of_find?_eq_some h
/-- Walk on from some addresses, behind those that were come to. -/
def visitR (NS : List Nd) : Nat → List Int → List Int → List Int
  | 0, s, _ => s
  | f + 1, s, l => l.foldl (fun s x => match find NS x with
    | none => s
    | some n => if x ∈ s then s else visitR NS f (s ++ [x]) n.S) s
def walkR (NS : List Nd) (R : List Int) : List Int := visitR NS (NS.length + 1) [] R
/-- How many nodes' places were not come to. -/
def left (NS : List Nd) (s : List Int) : Nat := (NS.filter fun n => decide (n.adr ∉ s)).length
theorem left_le (NS : List Nd) (s : List Int) : left NS s ≤ NS.length := List.length_filter_le _ _
theorem left_sub {NS : List Nd} {s t : List Int} (h : ∀ x, x ∈ s → x ∈ t) : left NS t ≤ left NS s := by
  unfold left
  induction NS with
  | nil => simp
  | cons n NS ih =>
    by_cases h1 : n.adr ∈ s
    · have h2 := h _ h1
      simp only [List.filter_cons, h1, h2, not_true, decide_false, Bool.false_eq_true, if_false]
      exact ih
    · by_cases h2 : n.adr ∈ t
      · simp only [List.filter_cons, h1, h2, not_true, not_false_eq_true, decide_false, decide_true, Bool.false_eq_true, if_false, if_true, List.length_cons]
        omega
      · simp only [List.filter_cons, h1, h2, not_false_eq_true, decide_true, if_true, List.length_cons]
        omega
theorem left_lt {NS : List Nd} {s : List Int} {x : Int} {n : Nd} (hn : find NS x = some n) (hx : x ∉ s) : left NS (s ++ [x]) < left NS s := by
  have h1 := find_mem hn
  have h2 := find_adr hn
  unfold left
  clear hn
  induction NS with
  | nil => cases h1
  | cons q NS ih =>
    by_cases e : q.adr = x
    · have hs : left NS (s ++ [x]) ≤ left NS s := left_sub (fun y hy => List.mem_append_left _ hy)
      unfold left at hs
      have hq : q.adr ∈ s ++ [x] := by rw [e]; simp
      have hq2 : q.adr ∉ s := by rw [e]; exact hx
      simp only [List.filter_cons, hq, hq2, not_true, not_false_eq_true, decide_false, decide_true, Bool.false_eq_true, if_false, if_true, List.length_cons]
      omega
    · have hm : n ∈ NS := by
        rcases List.mem_cons.1 h1 with rfl | h
        · exact absurd h2 e
        · exact h
      have := ih hm
      by_cases h3 : q.adr ∈ s
      · have h4 : q.adr ∈ s ++ [x] := List.mem_append_left _ h3
        simp only [List.filter_cons, h3, h4, not_true, decide_false, Bool.false_eq_true, if_false]
        exact this
      · have h4 : q.adr ∉ s ++ [x] := by simp [h3, e]
        simp only [List.filter_cons, h3, h4, not_false_eq_true, decide_true, if_true, List.length_cons]
        omega
/-- One step of a walk. -/
def stepR (NS : List Nd) (f : Nat) (s : List Int) (x : Int) : List Int := match find NS x with
  | none => s
  | some n => if x ∈ s then s else visitR NS f (s ++ [x]) n.S
theorem visitR_eq (NS : List Nd) (f : Nat) (s l : List Int) : visitR NS (f + 1) s l = l.foldl (stepR NS f) s := rfl
theorem visitR_ext (NS : List Nd) : ∀ (f : Nat) (s l : List Int), ∃ t, visitR NS f s l = s ++ t ∧ (∀ x ∈ t, ∃ n, find NS x = some n)
  | 0, s, l => ⟨[], by simp [visitR], by simp⟩
  | f + 1, s, l => by
    rw [visitR_eq]
    induction l generalizing s with
    | nil => exact ⟨[], by simp, by simp⟩
    | cons x l ih =>
      rw [List.foldl_cons]
      have h1 : ∃ t, stepR NS f s x = s ++ t ∧ (∀ x ∈ t, ∃ n, find NS x = some n) := by
        unfold stepR
        cases hf : find NS x with
        | none => exact ⟨[], by simp, by simp⟩
        | some n =>
          by_cases hx : x ∈ s
          · exact ⟨[], by simp [hx], by simp⟩
          · obtain ⟨t, e, ht⟩ := visitR_ext NS f (s ++ [x]) n.S
            refine ⟨[x] ++ t, by simp [hx, e], fun y hy => ?_⟩
            rcases List.mem_append.1 hy with h | h
            · rw [List.mem_singleton.1 h]
              exact ⟨n, hf⟩
            · exact ht y h
      obtain ⟨t, e, ht⟩ := h1
      obtain ⟨t2, e2, ht2⟩ := ih (s ++ t)
      rw [e]
      exact ⟨t ++ t2, by rw [e2, List.append_assoc], fun y hy => (List.mem_append.1 hy).elim (ht y) (ht2 y)⟩
theorem visitR_nodup (NS : List Nd) : ∀ (f : Nat) (s l : List Int), s.Nodup → (visitR NS f s l).Nodup
  | 0, s, l, h => h
  | f + 1, s, l, h => by
    rw [visitR_eq]
    induction l generalizing s with
    | nil => exact h
    | cons x l ih =>
      rw [List.foldl_cons]
      refine ih _ ?_
      unfold stepR
      cases hf : find NS x with
      | none => exact h
      | some n =>
        by_cases hx : x ∈ s
        · simpa [hx] using h
        · simp only [hx, if_false]
          refine visitR_nodup NS f _ _ ?_
          rw [List.nodup_append]
          exact ⟨h, by simp, fun a ha b hb => by rw [List.mem_singleton.1 hb]; exact fun e => hx (e ▸ ha)⟩
theorem walkR_find {NS : List Nd} {R : List Int} {x : Int} (h : x ∈ walkR NS R) : ∃ n, find NS x = some n := by
  obtain ⟨t, e, ht⟩ := visitR_ext NS (NS.length + 1) [] R
  unfold walkR at h
  rw [e] at h
  exact ht x (by simpa using h)
theorem walkR_nodup (NS : List Nd) (R : List Int) : (walkR NS R).Nodup := visitR_nodup NS _ _ _ List.nodup_nil
/-! ### The changes -/
def turn (c : Ch) : Ch := ⟨if c.k = 1 then 2 else if c.k = 2 then 1 else c.k, c.a, c.i, c.is, c.was⟩
/-! ### Lengths -/
end Go.Proofs.YtacjlkjdmhlbaaaDoor.Gr
