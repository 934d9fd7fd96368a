/- Diff: graphs in memory, maps of nodes. No program text is walked here. -/
import Derived.Test.YtekggbmajemmhaaDi5
import Derived.Test.YtekggbmajemmhaaGp1
import Derived.Maps.OwnIn
import Derived.Sort.MapsRangeIn
import Derived.Maps.AppendAt
import Derived.OwnWalkIn
import Derived.TacticsInMore
import Derived.LoopNIn
import Derived.LoopIn
import Derived.Shelf.RegionOpen
namespace Go.Proofs.Ytekggbmajemmhaa.Gr
open Go.RowKit Go.Shelf Go.Maps Go.ChangeMaps Go.MapKept Go.Proofs.YtekggbmajemmhaaW.PrintWords Go.Proofs.YtekggbmajemmhaaW.PrintLast Go.Proofs.YtekggbmajemmhaaW.PrintMore
set_option linter.unusedSimpArgs false
set_option linter.unusedVariables false
theorem add_block (ad : Addr) (k : Nat) : (ad.add k).block = ad.block := by unfold Addr.add; split <;> rfl
theorem add_zero (ad : Addr) : ad.add 0 = ad := by simp [Addr.add]
/-- A list of whole numbers of a kind that lies in memory ahead of block B. -/
def IL (k : IntKind) (W : World) (B : Nat) (a : Option Addr) (len : Nat) (l : List Int) : Prop := l.length = len ∧ ∀ i, i < len → ∃ y, a = some y ∧ y.block < B ∧ W.cell? (y.add i) = some (.int k (l.getD i 0))
theorem IL.kept {k : IntKind} {W W' : World} {B : Nat} {a : Option Addr} {len : Nat} {l : List Int} (h : IL k W B a len l) (hb : ∀ k, k < B → W'.heap[k]? = W.heap[k]?) : IL k W' B a len l := ⟨h.1, fun i hi => by
  obtain ⟨y, h1, h2, h3⟩ := h.2 i hi
  exact ⟨y, h1, h2, (World.cell?_of_block (hb _ (by rw [add_block]; exact h2))).trans h3⟩⟩
/-- A list of nodes that lies in memory ahead of block B. -/
def NL (W : World) (B : Nat) (a : Option Addr) (len : Nat) (NS : List Nd) : Prop := NS.length = len ∧ ∀ i, i < len → ∃ y, a = some y ∧ y.block < B ∧
  W.cell? ((y.add (i * 6)).add 0) = some (.int .i64 (NS.getD i default).adr) ∧ W.cell? ((y.add (i * 6)).add 1) = some (.int .i64 (NS.getD i default).refs) ∧ W.cell? ((y.add (i * 6)).add 2) = some (.int .i64 (NS.getD i default).sl) ∧ W.cell? ((y.add (i * 6)).add 3) = some (.int .i64 (NS.getD i default).words) ∧
  W.cell? ((y.add (i * 6)).add 4) = some (.slice (NS.getD i default).A (NS.getD i default).m (NS.getD i default).c) ∧ W.cell? ((y.add (i * 6)).add 5) = some (.slice (NS.getD i default).B (NS.getD i default).n (NS.getD i default).d)
theorem NL.kept {W W' : World} {B : Nat} {a : Option Addr} {len : Nat} {NS : List Nd} (h : NL W B a len NS) (hb : ∀ k, k < B → W'.heap[k]? = W.heap[k]?) : NL W' B a len NS := ⟨h.1, fun i hi => by
  obtain ⟨y, h1, h2, h3, h4, h5, h6, h7, h8⟩ := h.2 i hi
  have hk : ∀ j, W'.cell? ((y.add (i * 6)).add j) = W.cell? ((y.add (i * 6)).add j) := fun j => World.cell?_of_block (hb _ (by rw [add_block, add_block]; exact h2))
  exact ⟨y, h1, h2, (hk 0).trans h3, (hk 1).trans h4, (hk 2).trans h5, (hk 3).trans h6, (hk 4).trans h7, (hk 5).trans h8⟩⟩
/-- A node's lists, in memory ahead of block B. -/
def DL (W : World) (B : Nat) (n : Nd) : Prop := IL .i64 W B n.A n.m n.S ∧ IL .u64 W B n.B n.n n.T
theorem DL.kept {W W' : World} {B : Nat} {n : Nd} (h : DL W B n) (hb : ∀ k, k < B → W'.heap[k]? = W.heap[k]?) : DL W' B n := ⟨h.1.kept hb, h.2.kept hb⟩
/-- A graph. -/
structure Gd where
  rA : Option Addr
  (rl rc : Nat)
  R : List Int
  nA : Option Addr
  (nl nc : Nat)
  NS : List Nd
abbrev Gd.cells (g : Gd) : Array Value := #[.slice g.rA g.rl g.rc, .slice g.nA g.nl g.nc]
abbrev Gd.val (g : Gd) : Value := .agg g.cells
/-- It lies in memory ahead of block B. -/
structure GM (W : World) (B : Nat) (g : Gd) : Prop where
  rts : IL .i64 W B g.rA g.rl g.R
  nds : NL W B g.nA g.nl g.NS
  sub : ∀ n ∈ g.NS, DL W B n
  ok : ∀ n ∈ g.NS, (Lit.int .i64 n.adr).wf = true
  rok : ∀ x ∈ g.R, (Lit.int .i64 x).wf = true
  sok : ∀ n ∈ g.NS, ∀ x ∈ n.S, (Lit.int .i64 x).wf = true
theorem GM.kept {W W' : World} {B : Nat} {g : Gd} (h : GM W B g) (hb : ∀ k, k < B → W'.heap[k]? = W.heap[k]?) : GM W' B g := ⟨h.rts.kept hb, h.nds.kept hb, fun n hn => (h.sub n hn).kept hb, h.ok, h.rok, h.sok⟩
/-! ### Maps of nodes -/
/-- An element reads as itself. -/
def nR (v : Value) : Option (DataW Value × List MemPlace) := some (.held v, [])
def key (x : Int) : Lit := .int .i64 x
theorem key_is (x : Int) : WideAt.IsKeyLit (key x) := trivial
theorem key_inj {a b : Int} (h : key a = key b) : a = b := by injection h
theorem keyOf3 {x : Int} (h : (Lit.int .i64 x).wf = true) : keyOf Try.prog 3 (.int .i64 x) = some (key x) := Maps.keyOf_int_mk Try.underlying3 h
/-- What a map of these nodes reads as, the first of an address counting. -/
def MD : List Nd → DataW Value
  | [] => .map []
  | n :: L => (MD L).put (key n.adr) (.held n.val)
theorem put_isMap {D : DataW Value} (h : IsMap D) (k : Lit) (d : DataW Value) : IsMap (D.put k d) := by
  obtain ⟨es, rfl⟩ := h
  exact ⟨_, rfl⟩
theorem MD_isMap : ∀ L, IsMap (MD L)
  | [] => ⟨[], rfl⟩
  | n :: L => put_isMap (MD_isMap L) _ _
theorem MD_at (x : Int) (z : DataW Value) : ∀ L, (MD L).atKey (key x) z = match find L x with | some n => .held n.val | none => z
  | [] => rfl
  | n :: L => by
    by_cases h : n.adr = x
    · have hf : find (n :: L) x = some n := by simp [find, h]
      rw [hf, MD, h, atKey_put_same (MD_isMap L) (key_is x)]
    · have hf : find (n :: L) x = find L x := by simp [find, h]
      rw [hf, MD, atKey_put_other (fun e => h (key_inj e).symm), MD_at x z L]
theorem MD_has (x : Int) (L : List Nd) : has (MD L) (key x) = (find L x).isSome := by
  cases hf : find L x with
  | none => exact has_false_of_atKey fun z => by rw [MD_at, hf]
  | some n => exact has_true_of_atKey (y := .held n.val) fun z => by rw [MD_at, hf]
abbrev Zn : Value := .agg #[.int .i64 0, .int .i64 0, .int .i64 0, .int .i64 0, .slice none 0 0, .slice none 0 0]
theorem default_val : (default : Nd).val = Zn := rfl
/-- 'm[k]', with ok. -/
theorem look_ok {W : World} {b n : Nat} {D : DataW Value} (h : W.ownsMap Try.prog 3 nR b n D) {x : Int} (hk : (Lit.int .i64 x).wf = true) : ∃ v, (Instr.lookup 46 (.map (some b)) (.int .i64 x) true).run Try.prog W = .ok (.tuple #[v, .bool (has D (key x))]) W ∧ D.atKey (key x) (.held Zn) = .held v := by
  obtain ⟨es, clock, hb, F, hs, rfl⟩ := h
  rcases fit_look (w := W) true Di.keyed3 Try.underlying46 (Try.zeroValue40 W) hb F (keyOf3 hk) with ⟨hrun, _, hat⟩ | ⟨e0, y, _, _, hrun, hRv, hat, _⟩
  · refine ⟨_, ?_, hat _⟩
    rw [has_false_of_atKey hat]
    exact hrun
  · refine ⟨e0.val, ?_, ?_⟩
    · rw [has_true_of_atKey hat]
      exact hrun
    · rw [hat]
      have := hRv
      unfold nR at this
      rw [← Option.some.inj this]
/-- 'm[k]'. -/
theorem look_plain {W : World} {b n : Nat} {D : DataW Value} (h : W.ownsMap Try.prog 3 nR b n D) {x : Int} (hk : (Lit.int .i64 x).wf = true) : ∃ v, (Instr.lookup 46 (.map (some b)) (.int .i64 x) false).run Try.prog W = .ok v W ∧ D.atKey (key x) (.held Zn) = .held v := by
  obtain ⟨v, ps, hrun, hv⟩ := h.lookup Di.keyed3 Try.underlying46 (Try.zeroValue40 W) (zd := .held Zn) (zp := []) rfl (keyOf3 hk)
  refine ⟨v, hrun, ?_⟩
  unfold nR at hv
  simp only [Option.some.injEq, Prod.mk.injEq] at hv
  exact hv.1.symm
theorem held_inj {a b : Value} (h : (DataW.held a : DataW Value) = .held b) : a = b := by injection h
theorem look_node {W : World} {b n : Nat} {L : List Nd} (h : W.ownsMap Try.prog 3 nR b n (MD L)) {x : Int} (hk : (Lit.int .i64 x).wf = true) : (Instr.lookup 46 (.map (some b)) (.int .i64 x) true).run Try.prog W = .ok (.tuple #[((find L x).getD default).val, .bool (find L x).isSome]) W := by
  obtain ⟨v, hrun, hv⟩ := look_ok h hk
  rw [MD_has] at hrun
  rw [MD_at] at hv
  cases hf : find L x with
  | none =>
    rw [hf] at hv hrun
    have e := held_inj hv
    subst e
    exact hrun
  | some n =>
    rw [hf] at hv hrun
    have e := held_inj hv
    subst e
    exact hrun
/-! ### The set of places -/
def SD (s : List Int) : DataW Value := s.foldl (fun D x => D.put (key x) (.lit (.bool true))) (.map [])
theorem SD_snoc (s : List Int) (x : Int) : SD (s ++ [x]) = (SD s).put (key x) (.lit (.bool true)) := by simp [SD]
theorem fold_isMap (f : Int → DataW Value) : ∀ (s : List Int) (D : DataW Value), IsMap D → IsMap (s.foldl (fun D x => D.put (key x) (f x)) D)
  | [], D, h => h
  | x :: s, D, h => fold_isMap f s _ (put_isMap h _ _)
theorem fold_at (f : Int → DataW Value) (y : Int) (z : DataW Value) : ∀ (s : List Int) (D : DataW Value), IsMap D → (s.foldl (fun D x => D.put (key x) (f x)) D).atKey (key y) z = if y ∈ s then f y else D.atKey (key y) z
  | [], D, h => by simp
  | x :: s, D, h => by
    rw [List.foldl_cons, fold_at f y z s _ (put_isMap h _ _)]
    by_cases hy : y ∈ s
    · rw [if_pos hy, if_pos (List.mem_cons_of_mem _ hy)]
    · rw [if_neg hy]
      by_cases e : y = x
      · subst e
        rw [if_pos (by simp), atKey_put_same h (key_is y)]
      · rw [if_neg (by simp [e, hy]), atKey_put_other (fun h' => e (key_inj h'))]
theorem SD_at (s : List Int) (y : Int) (z : DataW Value) : (SD s).atKey (key y) z = if y ∈ s then .lit (.bool true) else z := fold_at (fun _ => .lit (.bool true)) y z s _ ⟨[], rfl⟩
theorem bool_inv {v : Value} {b : Bool} {ps : List MemPlace} (h : plainElem (H := Value) Try.prog 4 v = some (.lit (.bool b), ps)) : v = .bool b := by
  have hu := Try.underlying4
  unfold plainElem at h
  generalize Try.prog.underlying 4 = q at h hu
  subst hu
  cases v <;> simp at h
  rw [h.1]
theorem look_seen {W : World} {b n : Nat} {s : List Int} (h : W.ownsMap Try.prog 3 (plainElem Try.prog 4) b n (SD s)) {x : Int} (hk : (Lit.int .i64 x).wf = true) : (Instr.lookup 90 (.map (some b)) (.int .i64 x) false).run Try.prog W = .ok (.bool (decide (x ∈ s))) W := by
  obtain ⟨v, ps, hrun, hv⟩ := h.lookup Di.keyed3 Try.underlying90 (Try.zeroValue4 W) (zd := .lit (.bool false)) (zp := []) (plainElem_bool Try.underlying4 false) (keyOf3 hk)
  rw [SD_at] at hv
  have : v = .bool (decide (x ∈ s)) := by
    by_cases hx : x ∈ s
    · rw [if_pos hx] at hv
      rw [decide_eq_true hx]
      exact bool_inv hv
    · rw [if_neg hx] at hv
      rw [decide_eq_false hx]
      exact bool_inv hv
  subst this
  exact hrun
/-- What diff.nodes reads as: the nodes of these places. -/
def OD (NS : List Nd) (w : List Int) : DataW Value := w.foldl (fun D x => D.put (key x) (.held ((find NS x).getD default).val)) (.map [])
theorem OD_snoc (NS : List Nd) (s : List Int) (x : Int) : OD NS (s ++ [x]) = (OD NS s).put (key x) (.held ((find NS x).getD default).val) := by simp [OD]
theorem OD_at (NS : List Nd) (s : List Int) (y : Int) (z : DataW Value) : (OD NS s).atKey (key y) z = if y ∈ s then .held ((find NS y).getD default).val else z := fold_at (fun x => .held ((find NS x).getD default).val) y z s _ ⟨[], rfl⟩
theorem OD_has (NS : List Nd) (s : List Int) (y : Int) : has (OD NS s) (key y) = decide (y ∈ s) := by
  by_cases h : y ∈ s
  · rw [decide_eq_true h]
    exact has_true_of_atKey fun z => by rw [OD_at, if_pos h]
  · rw [decide_eq_false h]
    exact has_false_of_atKey fun z => by rw [OD_at, if_neg h]
theorem look_out {W : World} {b n : Nat} {NS : List Nd} {s : List Int} (h : W.ownsMap Try.prog 3 nR b n (OD NS s)) {x : Int} (hk : (Lit.int .i64 x).wf = true) : (Instr.lookup 46 (.map (some b)) (.int .i64 x) true).run Try.prog W = .ok (.tuple #[(nd NS s x).val, .bool (decide (x ∈ s))]) W := by
  obtain ⟨v, hrun, hv⟩ := look_ok h hk
  rw [OD_has] at hrun
  rw [OD_at] at hv
  have hnd : (nd NS s x).val = v := by
    unfold nd
    by_cases hx : x ∈ s
    · rw [if_pos hx] at hv ⊢
      injection hv
    · rw [if_neg hx] at hv ⊢
      injection hv
  rw [hnd]
  exact hrun
theorem owns_below {H : Type} {W W' : World} {P : Program} {k : TypeId} {R : Value → Option (DataW H × List MemPlace)} {b n : Nat} {D : DataW H} (h : W.ownsMap P k R b n D) (hb : Below W.heap.size W W') : W'.ownsMap P k R b n D := h.kept (row := none) ⟨hb.os, hb.tape, hb.output, hb.size, fun k hk _ => hb.block k hk⟩ (by simp)
theorem owns_far {H : Type} {W : World} {P : Program} {k : TypeId} {R : Value → Option (DataW H × List MemPlace)} {b n : Nat} {D : DataW H} (h : W.ownsMap P k R b n D) {p : Addr} (hp : b ≠ p.block) (u : Value) : (W.setCell p u).ownsMap P k R b n D := by
  obtain ⟨es, clock, hb, F, hs, hD⟩ := h
  exact ⟨es, clock, (Below.heap_setCell W p u b hp).trans hb, F, hs, hD⟩
end Go.Proofs.Ytekggbmajemmhaa.Gr
