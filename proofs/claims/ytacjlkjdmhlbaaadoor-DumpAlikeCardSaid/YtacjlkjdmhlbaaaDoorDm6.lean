/- Parts of one proof, set together: DoorHg4, DoorHg5, DoorHg6, DoorHg7, DoorHg8, DoorHg9, DoorHg10, DoorHg11, DoorHg12, DoorHg13, DoorHg14, DoorHg15. What each says stands at its head; no condition beyond theirs. -/
import Derived.Test.YtacjlkjdmhlbaaaDoorDm5
import Derived.LoopIn
import Derived.LoopNIn
import Derived.Maps.AppendAt
import Derived.Maps.OwnIn
import Derived.OwnWalkIn
import Derived.Shelf.RegionOpen
import Derived.Sort.MapsRangeIn
import Derived.TacticsInMore
/- Parts of graph's walk (after my own texts for another seat: Gr2). What each says stands at its head. -/
namespace Go.Proofs.YtacjlkjdmhlbaaaDoor.Gr
open Go.RowKit Go.Shelf Go.Maps Go.ChangeMaps Go.MapKept Go.Proofs.YtacjlkjdmhlbaaaDoorW.PrintWords Go.Proofs.YtacjlkjdmhlbaaaDoorW.PrintLast Go.Proofs.YtacjlkjdmhlbaaaDoorW.PrintMore
set_option linter.unusedSimpArgs false
set_option linter.unusedVariables false
theorem add_block (ad : Addr) (k : Nat) : (ad.add k).block = ad.block := by unfold Addr.add; split <;> rfl
theorem add_zero (ad : Addr) : ad.add 0 = ad := by simp [Addr.add]
/-- A list of whole numbers of a kind that lies in memory ahead of block B. -/
def IL (k : IntKind) (W : World) (B : Nat) (a : Option Addr) (len : Nat) (l : List Int) : Prop := l.length = len ∧ ∀ i, i < len → ∃ y, a = some y ∧ y.block < B ∧ W.cell? (y.add i) = some (.int k (l.getD i 0))
theorem IL.kept {k : IntKind} {W W' : World} {B : Nat} {a : Option Addr} {len : Nat} {l : List Int} (h : IL k W B a len l) (hb : ∀ k, k < B → W'.heap[k]? = W.heap[k]?) : IL k W' B a len l := ⟨h.1, fun i hi => by
  obtain ⟨y, h1, h2, h3⟩ := h.2 i hi
  exact ⟨y, h1, h2, (World.cell?_of_block (hb _ (by rw [add_block]; exact h2))).trans h3⟩⟩
/-- A list of nodes that lies in memory ahead of block B. -/
def NL (W : World) (B : Nat) (a : Option Addr) (len : Nat) (NS : List Nd) : Prop := NS.length = len ∧ ∀ i, i < len → ∃ y, a = some y ∧ y.block < B ∧
  W.cell? ((y.add (i * 6)).add 0) = some (.int .i64 (NS.getD i default).adr) ∧ W.cell? ((y.add (i * 6)).add 1) = some (.int .i64 (NS.getD i default).refs) ∧ W.cell? ((y.add (i * 6)).add 2) = some (.int .i64 (NS.getD i default).sl) ∧ W.cell? ((y.add (i * 6)).add 3) = some (.int .i64 (NS.getD i default).words) ∧
  W.cell? ((y.add (i * 6)).add 4) = some (.slice (NS.getD i default).A (NS.getD i default).m (NS.getD i default).c) ∧ W.cell? ((y.add (i * 6)).add 5) = some (.slice (NS.getD i default).B (NS.getD i default).n (NS.getD i default).d)
theorem NL.kept {W W' : World} {B : Nat} {a : Option Addr} {len : Nat} {NS : List Nd} (h : NL W B a len NS) (hb : ∀ k, k < B → W'.heap[k]? = W.heap[k]?) : NL W' B a len NS := ⟨h.1, fun i hi => by
  obtain ⟨y, h1, h2, h3, h4, h5, h6, h7, h8⟩ := h.2 i hi
  have hk : ∀ j, W'.cell? ((y.add (i * 6)).add j) = W.cell? ((y.add (i * 6)).add j) := fun j => World.cell?_of_block (hb _ (by rw [add_block, add_block]; exact h2))
  exact ⟨y, h1, h2, (hk 0).trans h3, (hk 1).trans h4, (hk 2).trans h5, (hk 3).trans h6, (hk 4).trans h7, (hk 5).trans h8⟩⟩
/-- A node's lists, in memory ahead of block B. -/
def DL (W : World) (B : Nat) (n : Nd) : Prop := IL .i64 W B n.A n.m n.S ∧ IL .u64 W B n.B n.n n.T
theorem DL.kept {W W' : World} {B : Nat} {n : Nd} (h : DL W B n) (hb : ∀ k, k < B → W'.heap[k]? = W.heap[k]?) : DL W' B n := ⟨h.1.kept hb, h.2.kept hb⟩
/-- A graph. -/
structure Gd where
  rA : Option Addr
  (rl rc : Nat)
  R : List Int
  nA : Option Addr
  (nl nc : Nat)
  NS : List Nd
abbrev Gd.cells (g : Gd) : Array Value := #[.slice g.rA g.rl g.rc, .slice g.nA g.nl g.nc]
abbrev Gd.val (g : Gd) : Value := .agg g.cells
/-- It lies in memory ahead of block B. -/
structure GM (W : World) (B : Nat) (g : Gd) : Prop where
  rts : IL .i64 W B g.rA g.rl g.R
  nds : NL W B g.nA g.nl g.NS
  sub : ∀ n ∈ g.NS, DL W B n
  ok : ∀ n ∈ g.NS, (Lit.int .i64 n.adr).wf = true
  rok : ∀ x ∈ g.R, (Lit.int .i64 x).wf = true
  sok : ∀ n ∈ g.NS, ∀ x ∈ n.S, (Lit.int .i64 x).wf = true
theorem GM.kept {W W' : World} {B : Nat} {g : Gd} (h : GM W B g) (hb : ∀ k, k < B → W'.heap[k]? = W.heap[k]?) : GM W' B g := ⟨h.rts.kept hb, h.nds.kept hb, fun n hn => (h.sub n hn).kept hb, h.ok, h.rok, h.sok⟩
/-! ### Maps of nodes -/
/-- An element reads as itself. -/
def nR (v : Value) : Option (DataW Value × List MemPlace) := some (.held v, [])
def key (x : Int) : Lit := .int .i64 x
theorem key_is (x : Int) : WideAt.IsKeyLit (key x) := trivial
theorem key_inj {a b : Int} (h : key a = key b) : a = b := by injection h
theorem keyOf3 {x : Int} (h : (Lit.int .i64 x).wf = true) : keyOf Tryd.prog 3 (.int .i64 x) = some (key x) := Maps.keyOf_int_mk Tryd.underlying3 h
/-- What a map of these nodes reads as, the first of an address counting. -/
def MD : List Nd → DataW Value
  | [] => .map []
  | n :: L => (MD L).put (key n.adr) (.held n.val)
theorem put_isMap {D : DataW Value} (h : IsMap D) (k : Lit) (d : DataW Value) : IsMap (D.put k d) := by
  obtain ⟨es, rfl⟩ := h
  exact ⟨_, rfl⟩
theorem MD_isMap : ∀ L, IsMap (MD L)
  | [] => ⟨[], rfl⟩
  | n :: L => put_isMap (MD_isMap L) _ _
theorem MD_at (x : Int) (z : DataW Value) : ∀ L, (MD L).atKey (key x) z = match find L x with | some n => .held n.val | none => z
  | [] => rfl
  | n :: L => by
    by_cases h : n.adr = x
    · have hf : find (n :: L) x = some n := by simp [find, h]
      rw [hf, MD, h, atKey_put_same (MD_isMap L) (key_is x)]
    · have hf : find (n :: L) x = find L x := by simp [find, h]
      rw [hf, MD, atKey_put_other (fun e => h (key_inj e).symm), MD_at x z L]
theorem MD_has (x : Int) (L : List Nd) : has (MD L) (key x) = (find L x).isSome := by
  cases hf : find L x with
  | none => exact has_false_of_atKey fun z => by rw [MD_at, hf]
  | some n => exact has_true_of_atKey (y := .held n.val) fun z => by rw [MD_at, hf]
abbrev Zn : Value := .agg #[.int .i64 0, .int .i64 0, .int .i64 0, .int .i64 0, .slice none 0 0, .slice none 0 0]
/-- 'm[k]', with ok. -/
theorem look_ok {W : World} {b n : Nat} {D : DataW Value} (h : W.ownsMap Tryd.prog 3 nR b n D) {x : Int} (hk : (Lit.int .i64 x).wf = true) : ∃ v, (Instr.lookup 59 (.map (some b)) (.int .i64 x) true).run Tryd.prog W = .ok (.tuple #[v, .bool (has D (key x))]) W ∧ D.atKey (key x) (.held Zn) = .held v := by
  obtain ⟨es, clock, hb, F, hs, rfl⟩ := h
  rcases fit_look (w := W) true Di.keyed3 Tryd.underlying59 (Tryd.zeroValue35 W) hb F (keyOf3 hk) with ⟨hrun, _, hat⟩ | ⟨e0, y, _, _, hrun, hRv, hat, _⟩
  · refine ⟨_, ?_, hat _⟩
    rw [has_false_of_atKey hat]
    exact hrun
  · refine ⟨e0.val, ?_, ?_⟩
    · rw [has_true_of_atKey hat]
      exact hrun
    · rw [hat]
      have := hRv
      unfold nR at this
      rw [← Option.some.inj this]
/-- 'm[k]'. -/
theorem look_plain {W : World} {b n : Nat} {D : DataW Value} (h : W.ownsMap Tryd.prog 3 nR b n D) {x : Int} (hk : (Lit.int .i64 x).wf = true) : ∃ v, (Instr.lookup 59 (.map (some b)) (.int .i64 x) false).run Tryd.prog W = .ok v W ∧ D.atKey (key x) (.held Zn) = .held v := by
  obtain ⟨v, ps, hrun, hv⟩ := h.lookup Di.keyed3 Tryd.underlying59 (Tryd.zeroValue35 W) (zd := .held Zn) (zp := []) rfl (keyOf3 hk)
  refine ⟨v, hrun, ?_⟩
  unfold nR at hv
  simp only [Option.some.injEq, Prod.mk.injEq] at hv
  exact hv.1.symm
theorem held_inj {a b : Value} (h : (DataW.held a : DataW Value) = .held b) : a = b := by injection h
theorem look_node {W : World} {b n : Nat} {L : List Nd} (h : W.ownsMap Tryd.prog 3 nR b n (MD L)) {x : Int} (hk : (Lit.int .i64 x).wf = true) : (Instr.lookup 59 (.map (some b)) (.int .i64 x) true).run Tryd.prog W = .ok (.tuple #[((find L x).getD default).val, .bool (find L x).isSome]) W := by
  obtain ⟨v, hrun, hv⟩ := look_ok h hk
  rw [MD_has] at hrun
  rw [MD_at] at hv
  cases hf : find L x with
  | none =>
    rw [hf] at hv hrun
    have e := held_inj hv
    subst e
    exact hrun
  | some n =>
    rw [hf] at hv hrun
    have e := held_inj hv
    subst e
    exact hrun
/-! ### The set of places -/
def SD (s : List Int) : DataW Value := s.foldl (fun D x => D.put (key x) (.lit (.bool true))) (.map [])
theorem SD_snoc (s : List Int) (x : Int) : SD (s ++ [x]) = (SD s).put (key x) (.lit (.bool true)) := by simp [SD]
theorem fold_at (f : Int → DataW Value) (y : Int) (z : DataW Value) : ∀ (s : List Int) (D : DataW Value), IsMap D → (s.foldl (fun D x => D.put (key x) (f x)) D).atKey (key y) z = if y ∈ s then f y else D.atKey (key y) z
  | [], D, h => by simp
  | x :: s, D, h => by
    rw [List.foldl_cons, fold_at f y z s _ (put_isMap h _ _)]
    by_cases hy : y ∈ s
    · rw [if_pos hy, if_pos (List.mem_cons_of_mem _ hy)]
    · rw [if_neg hy]
      by_cases e : y = x
      · subst e
        rw [if_pos (by simp), atKey_put_same h (key_is y)]
      · rw [if_neg (by simp [e, hy]), atKey_put_other (fun h' => e (key_inj h'))]
theorem SD_at (s : List Int) (y : Int) (z : DataW Value) : (SD s).atKey (key y) z = if y ∈ s then .lit (.bool true) else z := fold_at (fun _ => .lit (.bool true)) y z s _ ⟨[], rfl⟩
theorem bool_inv {v : Value} {b : Bool} {ps : List MemPlace} (h : plainElem (H := Value) Tryd.prog 4 v = some (.lit (.bool b), ps)) : v = .bool b := by
  have hu := Tryd.underlying4
  unfold plainElem at h
  generalize Tryd.prog.underlying 4 = q at h hu
  subst hu
  cases v <;> simp at h
  rw [h.1]
theorem look_seen {W : World} {b n : Nat} {s : List Int} (h : W.ownsMap Tryd.prog 3 (plainElem Tryd.prog 4) b n (SD s)) {x : Int} (hk : (Lit.int .i64 x).wf = true) : (Instr.lookup 71 (.map (some b)) (.int .i64 x) false).run Tryd.prog W = .ok (.bool (decide (x ∈ s))) W := by
  obtain ⟨v, ps, hrun, hv⟩ := h.lookup Di.keyed3 Tryd.underlying71 (Tryd.zeroValue4 W) (zd := .lit (.bool false)) (zp := []) (plainElem_bool Tryd.underlying4 false) (keyOf3 hk)
  rw [SD_at] at hv
  have : v = .bool (decide (x ∈ s)) := by
    by_cases hx : x ∈ s
    · rw [if_pos hx] at hv
      rw [decide_eq_true hx]
      exact bool_inv hv
    · rw [if_neg hx] at hv
      rw [decide_eq_false hx]
      exact bool_inv hv
  subst this
  exact hrun
/-- What diff.nodes reads as: the nodes of these places. -/
def OD (NS : List Nd) (w : List Int) : DataW Value := w.foldl (fun D x => D.put (key x) (.held ((find NS x).getD default).val)) (.map [])
theorem owns_below {H : Type} {W W' : World} {P : Program} {k : TypeId} {R : Value → Option (DataW H × List MemPlace)} {b n : Nat} {D : DataW H} (h : W.ownsMap P k R b n D) (hb : Below W.heap.size W W') : W'.ownsMap P k R b n D := h.kept (row := none) ⟨hb.os, hb.tape, hb.output, hb.size, fun k hk _ => hb.block k hk⟩ (by simp)
theorem owns_far {H : Type} {W : World} {P : Program} {k : TypeId} {R : Value → Option (DataW H × List MemPlace)} {b n : Nat} {D : DataW H} (h : W.ownsMap P k R b n D) {p : Addr} (hp : b ≠ p.block) (u : Value) : (W.setCell p u).ownsMap P k R b n D := by
  obtain ⟨es, clock, hb, F, hs, hD⟩ := h
  exact ⟨es, clock, (Below.heap_setCell W p u b hp).trans hb, F, hs, hD⟩
end Go.Proofs.YtacjlkjdmhlbaaaDoor.Gr
/- Parts of graph's walk (after my own texts for another seat: Gr3). What each says stands at its head. -/
namespace Go.Proofs.YtacjlkjdmhlbaaaDoor.Gr
open Go.RowKit Go.Shelf Go.Maps Go.ChangeMaps Go.MapKept Go.Proofs.YtacjlkjdmhlbaaaDoorW.PrintWords Go.Proofs.YtacjlkjdmhlbaaaDoorW.PrintLast Go.Proofs.YtacjlkjdmhlbaaaDoorW.PrintMore
set_option linter.unusedSimpArgs false
set_option linter.unusedVariables false
attribute [local go_sem] Oper.semAt_some
/-- The last ones, from behind. -/
def rv (len j : Nat) : List Nat := (List.range' j (len - j)).reverse
theorem rv_all (len : Nat) : rv len len = [] := by simp [rv]
theorem rv_step {len k : Nat} (h : k < len) : rv len k = rv len (k + 1) ++ [k] := by
  unfold rv
  rw [show len - k = (len - (k + 1)) + 1 by omega, List.range'_succ, List.reverse_cons]
theorem rv_len (len j : Nat) : (rv len j).length = len - j := by simp [rv]
/-- What a body keeps: the arguments' memory, the iterator's box. -/
def KpB (B gk : Nat) (W W' : World) : Prop := ∀ k, k < B ∨ k = gk → W'.heap[k]? = W.heap[k]?
theorem KpB.t {B gk : Nat} {X Y Z : World} (h : KpB B gk X Y) (k : KpB B gk Y Z) : KpB B gk X Z := fun q hq => (k q hq).trans (h q hq)
abbrev encB (NS : List Nd) (x : Nat) : Array Value := #[.int .i64 (x : Int), (NS.getD x default).val]
set_option maxRecDepth 100000 in
set_option maxHeartbeats 4000000 in
theorem back1_in (n : Nat) (hn : 3 ≤ n) (l gk B len cap : Nat) (a : Option Addr) (NS : List Nd) (hlen : len ≤ 40) (J Jx : List Nat → World → Prop)
    (hY : ∀ pre x W, J pre W → pre.length < 40 → YieldAt Fence.wide (n - 1) Tryd.prog l (encB NS x) W fun e W' =>
      (e = .returned (.bool true) ∧ J (pre ++ [x]) W' ∧ KpB B gk W W') ∨ (e = .returned (.bool false) ∧ Jx (pre ++ [x]) W'))
    (W : World) (hbox : W.heap[gk]? = some (.cells #[.slice a len cap] 23 (0, 0))) (hNL : NL W B a len NS) (h0 : J [] W) :
    CallsIn Fence.wide n Tryd.prog 40 #[.func (.yield l) #[] #[], .pointer (some ⟨gk, 0, none⟩)] W fun e W' => (∃ v, e = .returned v) ∧
      ((∃ ys, ys = rv len 0 ∧ J ys W') ∨ (∃ pre, True ∧ Jx pre W')) := by
  have h1 : 1 ≤ n := by omega
  have hc0 : W.cell? ⟨gk, 0, none⟩ = some (.slice a len cap) := (blk_cell hbox 0).trans rfl
  refine callsIn_of_wp Tryd.func40 rfl trivial ?_ rfl
  simp only [Tryd.ntmps40, List.size_toArray, List.length_cons, List.length_nil, Nat.reduceAdd, Nat.reduceSub, Array.replicate_succ, Array.replicate_zero, List.push_toArray, List.append_toArray, List.nil_append, List.cons_append]
  gi_wp2
  gi_loopw [3] (fun v wr => ∃ j : Nat, j ≤ len ∧ v = .int .i64 ((j : Int) - 1) ∧ J (rv len j) wr ∧ Aside0 (wr.heap[gk]? = some (.cells #[.slice a len cap] 23 (0, 0))) ∧ Aside0 (NL wr B a len NS))
    (fun v _ => ((intOf v) + 1).toNat)
  case atStart => exact ⟨len, Nat.le_refl _, rfl, by rw [rv_all]; exact h0, Aside0.mk hbox, Aside0.mk hNL⟩
  case round =>
    obtain ⟨j, hj, rfl, hJ, HX, HN⟩ := hrel
    have hcx : wr.cell? ⟨gk, 0, none⟩ = some (.slice a len cap) := (blk_cell HX.out 0).trans rfl
    cases j with
    | zero =>
      gi_wp2
      go_end0
      exact ⟨⟨_, rfl⟩, .inl ⟨_, rfl, hJ⟩⟩
    | succ k =>
      have ek : ((k + 1 : Nat) : Int) - 1 = (k : Int) := by omega
      rw [ek]
      have hk0 : (0 : Int) ≤ (k : Int) := by omega
      have hk1 : (k : Int) < (len : Int) := by omega
      have hge : decide ((k : Int) ≥ 0) = true := decide_eq_true (by omega)
      obtain ⟨y, e, hyb, hy0, hy1, hy2, hy3, hy4, hy5⟩ := HN.out.2 k (by omega)
      subst e
      obtain ⟨fn, tmps, assign, body, hy, hR⟩ := hY _ k wr hJ (by rw [rv_len]; omega)
      obtain ⟨q, hq⟩ : ∃ q, q = NS.getD k default := ⟨_, rfl⟩
      unfold encB at hy
      rw [add_zero] at hy0
      rw [← hq] at hy hy0 hy1 hy2 hy3 hy4 hy5
      clear hq
      dsimp only [Nd.val] at hy
      have hz1 : wr.cell? { block := (y.add (k * 6)).block, off := (y.add (k * 6)).off + 1 } = some (.int .i64 q.refs) := hy1
      have hz2 : wr.cell? { block := (y.add (k * 6)).block, off := (y.add (k * 6)).off + 2 } = some (.int .i64 q.sl) := hy2
      have hz3 : wr.cell? { block := (y.add (k * 6)).block, off := (y.add (k * 6)).off + 3 } = some (.int .i64 q.words) := hy3
      have hz4 : wr.cell? { block := (y.add (k * 6)).block, off := (y.add (k * 6)).off + 4 } = some (.slice q.A q.m q.c) := hy4
      have hz5 : wr.cell? { block := (y.add (k * 6)).block, off := (y.add (k * 6)).off + 5 } = some (.slice q.B q.n q.d) := hy5
      clear hy1 hy2 hy3 hy4 hy5 ek
      gi_wp2
      refine hR.mono ?_
      rintro e W3 (⟨rfl, hJ3, hk3⟩ | ⟨rfl, hJx3⟩)
      · gi_wp2
        go_roundw
        case rel => exact ⟨k, by omega, rfl, by rw [rv_step (by omega)]; exact hJ3, Aside0.mk ((hk3 gk (Or.inr rfl)).trans HX.out), Aside0.mk (HN.out.kept (fun b hb => hk3 b (Or.inl hb)))⟩
        case measure =>
          show ((k : Int) - 1 + 1).toNat < ((k : Int) + 1).toNat
          omega
      · gi_wp2
        refine bodyPost_ret (results_none rfl _ _ _) rfl ?_
        exact ⟨⟨_, rfl⟩, .inr ⟨_, trivial, hJx3⟩⟩
theorem back_stops (n : Nat) (hn : 3 ≤ n) (gk B len cap : Nat) (a : Option Addr) (NS : List Nd) (hlen : len ≤ 40) (w : World) (hB : B ≤ w.heap.size) (hbox : w.heap[gk]? = some (.cells #[.slice a len cap] 23 (0, 0))) (hNL : NL w B a len NS) :
    SeqStopsK Fence.wide n Tryd.prog 40 #[.pointer (some ⟨gk, 0, none⟩)] (encB NS) (KpB B gk) (fun ys => ys = rv len 0) (fun _ => True) 40 w := fun l J Jx W hW _ _ hY h0 =>
  back1_in n hn l gk B len cap a NS hlen J Jx hY W (blk_below hbox hW) (hNL.kept fun k hk => hW.block k (by omega)) h0
/-- The map's datum when these have come. -/
def MDp (NS : List Nd) (pre : List Nat) : DataW Value := pre.foldl (fun D i => D.put (key (NS.getD i default).adr) (.held (NS.getD i default).val)) (.map [])
theorem MDp_snoc (NS : List Nd) (pre : List Nat) (x : Nat) : MDp NS (pre ++ [x]) = (MDp NS pre).put (key (NS.getD x default).adr) (.held (NS.getD x default).val) := by simp [MDp]
theorem MDp_rv (NS : List Nd) : ∀ k, k ≤ NS.length → MDp NS (rv NS.length (NS.length - k)) = MD (NS.drop (NS.length - k))
  | 0, _ => by rw [Nat.sub_zero, rv_all, List.drop_length]; rfl
  | k + 1, h => by
    have ih := MDp_rv NS k (by omega)
    have hlt : NS.length - (k + 1) < NS.length := by omega
    rw [rv_step hlt, show NS.length - (k + 1) + 1 = NS.length - k by omega, MDp_snoc, ih, List.drop_eq_getElem_cons hlt, show NS.length - (k + 1) + 1 = NS.length - k by omega]
    show _ = (MD _).put _ _
    rw [List.getD_eq_getElem?_getD, List.getElem?_eq_getElem hlt]
    rfl
theorem MDp_all (NS : List Nd) : MDp NS (rv NS.length 0) = MD NS := by
  have := MDp_rv NS NS.length (Nat.le_refl _)
  rw [Nat.sub_self, List.drop_zero] at this
  exact this
theorem ok_at {NS : List Nd} (h : ∀ n ∈ NS, (Lit.int .i64 n.adr).wf = true) (x : Nat) : (Lit.int .i64 (NS.getD x default).adr).wf = true := by
  by_cases hx : x < NS.length
  · rw [List.getD_eq_getElem?_getD, List.getElem?_eq_getElem hx]
    exact h _ (List.getElem_mem hx)
  · rw [List.getD_eq_getElem?_getD, List.getElem?_eq_none (by omega)]
    decide
end Go.Proofs.YtacjlkjdmhlbaaaDoor.Gr
/- Parts of graph's walk (after my own texts for another seat: Gr4). What each says stands at its head. -/
namespace Go.Proofs.YtacjlkjdmhlbaaaDoor.Gr
open Go.RowKit Go.Shelf Go.Maps Go.ChangeMaps Go.MapKept Go.Proofs.YtacjlkjdmhlbaaaDoorW.PrintWords Go.Proofs.YtacjlkjdmhlbaaaDoorW.PrintLast Go.Proofs.YtacjlkjdmhlbaaaDoorW.PrintMore
set_option linter.unusedSimpArgs false
set_option linter.unusedVariables false
attribute [local go_sem] Oper.semAt_some
theorem owns_alloc {H : Type} {W : World} {P : Program} {k : TypeId} {R : Value → Option (DataW H × List MemPlace)} {b n : Nat} {D : DataW H} (h : W.ownsMap P k R b n D) (o : Obj) : (W.alloc o).ownsMap P k R b n D := World.ownsMap.alloc h o
theorem owns_drew {H : Type} {W : World} {P : Program} {k : TypeId} {R : Value → Option (DataW H × List MemPlace)} {b n : Nat} {D : DataW H} (h : W.ownsMap P k R b n D) : W.drew.ownsMap P k R b n D := h
theorem owns_drewN {H : Type} {W : World} {P : Program} {k : TypeId} {R : Value → Option (DataW H × List MemPlace)} {b n : Nat} {D : DataW H} (h : W.ownsMap P k R b n D) (q : Nat) : (W.drewN q).ownsMap P k R b n D := h
theorem owns_put {H : Type} {W : World} {P : Program} {k : TypeId} {R : Value → Option (DataW H × List MemPlace)} {b n D0 : Nat} {D : DataW H} (h : W.ownsMap P k R b n D) (hne : b ≠ D0) (o : Obj) : (W.putObj D0 o).ownsMap P k R b n D := h.kept (grownBy_putObj' W D0 o) (by simpa using hne)
set_option maxRecDepth 100000 in
set_option maxHeartbeats 8000000 in
theorem gnodes_calls (w : World) (g : Gd) (B : Nat) (hB : B ≤ w.heap.size) (HG : Aside0 (GM w B g)) (hlen : g.nl ≤ 40) : Calls Tryd.prog 21 #[.agg #[.slice g.rA g.rl g.rc, .slice g.nA g.nl g.nc]] w fun e W' => ∃ mb, e = .returned (.map (some mb)) ∧ W'.ownsMap Tryd.prog 3 nR mb 40 (MD g.NS) ∧ w.heap.size ≤ mb ∧ Below w.heap.size w W' := by
  refine Di.calls_marks Tryd.func21 rfl ?_
  simp only [Tryd.ntmps21, List.size_toArray, List.length_cons, List.length_nil, Nat.reduceAdd, Nat.reduceSub, Array.replicate_succ, Array.replicate_zero, List.push_toArray, List.append_toArray, List.nil_append, List.cons_append]
  have HB := Aside0.mk (Below.refl w.heap.size w)
  go_upto_region 1 with ((with_reducible refine gate_dst (N := 1) rfl ?_); refine box_event ?hg (N := 1) ?hd (cs := #[.slice g.rA g.rl g.rc, .slice g.nA g.nl g.nc]) (t := 25) ?hr ?_; (case hd => rfl); (case hg => rfl); (case hr => first | (go_simp; done) | (go_simp; rfl)); intro g1 hg w1_ hbox hb; have n0_ := Aside0.mk (below_step (by repeat (first | (with_reducible first | exact HB.out | apply below_alloc | apply pw_below_drewN | apply below_drew1) | exact HB.out)) hb); have n1_ := Aside0.mk hbox; have n2_ := Aside0.mk ((by rw [hg]; exact (below_size (by repeat (first | (with_reducible first | exact HB.out | apply below_alloc | apply pw_below_drewN | apply below_drew1) | exact HB.out)))) : w.heap.size ≤ g1); clear HB; have HB := n0_; have BK1 := n1_; have GE1 := n2_; clear n0_ n1_ n2_; clear hb hbox hg)
  go_wp2
  rw [run_makeMap]
  obtain ⟨w2_, hw_⟩ : ∃ x, x = w1_.alloc (.map #[] 0) := ⟨_, rfl⟩
  obtain ⟨m1, hm_⟩ : ∃ x, x = w1_.heap.size := ⟨_, rfl⟩
  rw [← hw_, ← hm_]
  have hb : Below w1_.heap.size w1_ w2_ := by rw [hw_]; exact below_alloc (Below.refl _ _) _
  have n0_ := Aside0.mk (below_step (by repeat (first | (with_reducible first | exact HB.out | apply below_alloc | apply pw_below_drewN | apply below_drew1 | refine below_set ?_ GE1.out) | exact HB.out)) hb)
  have n1_ := Aside0.mk (blk_below (g := g1) (o := .cells #[.slice g.rA g.rl g.rc, .slice g.nA g.nl g.nc] 25 (0, 0)) (by (with_reducible repeat (first | refine blk_drewN ?_ _ | refine blk_drew ?_ | refine blk_alloc ?_ _)); exact BK1.out) hb)
  have n2_ := Aside0.mk (show (w2_).ownsMap Tryd.prog 3 nR m1 0 (.map []) from by rw [hw_, hm_]; exact World.ownsMap_made _ _ _ _)
  have GM1 := Aside0.mk (show w.heap.size ≤ m1 from by rw [hm_]; exact below_size HB.out)
  have NG1_1 := Aside0.mk (show g1 ≠ m1 from by rw [hm_]; exact Nat.ne_of_lt (blk_lt BK1.out))
  clear HB
  clear BK1
  have HB := n0_
  have BK1 := n1_
  have MP1 := n2_
  clear n0_ n1_ n2_
  clear hb hw_ hm_
  go_upto_region 2 with ((with_reducible refine gate_dst (N := 3) rfl ?_); refine box_event ?hg (N := 3) ?hd (cs := #[.map none]) (t := 59) ?hr ?_; (case hd => rfl); (case hg => rfl); (case hr => first | (go_simp; done) | (go_simp; rfl)); intro g3 hg w3_ hbox hb; have n0_ := Aside0.mk (below_step (by repeat (first | (with_reducible first | exact HB.out | apply below_alloc | apply pw_below_drewN | apply below_drew1 | refine below_set ?_ GE1.out) | exact HB.out)) hb); have n1_ := Aside0.mk (blk_below (g := g1) (o := .cells #[.slice g.rA g.rl g.rc, .slice g.nA g.nl g.nc] 25 (0, 0)) (by (with_reducible repeat (first | refine blk_drewN ?_ _ | refine blk_drew ?_ | refine blk_alloc ?_ _)); exact BK1.out) hb); have n2_ := Aside0.mk (owns_below (b := m1) (by (with_reducible repeat (first | refine owns_drewN ?_ _ | refine owns_drew ?_ | refine owns_alloc ?_ _)); exact MP1.out) hb); have n3_ := Aside0.mk hbox; have n4_ := Aside0.mk ((by rw [hg]; exact (below_size (by repeat (first | (with_reducible first | exact HB.out | apply below_alloc | apply pw_below_drewN | apply below_drew1 | refine below_set ?_ GE1.out) | exact HB.out)))) : w.heap.size ≤ g3); have n5_ := Aside0.mk ((by rw [hg]; exact Nat.ne_of_lt (blk_lt (g := g1) (o := .cells #[.slice g.rA g.rl g.rc, .slice g.nA g.nl g.nc] 25 (0, 0)) (by (with_reducible repeat (first | refine blk_drewN ?_ _ | refine blk_drew ?_ | refine blk_alloc ?_ _)); exact BK1.out))) : g1 ≠ g3); have n6_ := Aside0.mk ((by rw [hg]; exact Nat.ne_of_lt (World.ownsMap.lt (b := m1) (by (with_reducible repeat (first | refine owns_drewN ?_ _ | refine owns_drew ?_ | refine owns_alloc ?_ _)); exact MP1.out))) : m1 ≠ g3); clear HB; clear BK1; clear MP1; have HB := n0_; have BK1 := n1_; have MP1 := n2_; have BK3 := n3_; have GE3 := n4_; have NE1_3 := n5_; have NM1_3 := n6_; clear n0_ n1_ n2_ n3_ n4_ n5_ n6_; clear hb hbox hg; have hc3_0 : w3_.cell? ⟨g3, 0, none⟩ = some (.map none) := (blk_cell BK3.out 0).trans rfl; have hf3_0 := blk_frozen BK3.out 0)
  generalize hw_ : (w3_.setCell ⟨g3, 0, none⟩ (.map (some m1))) = w4_
  have n0_ := Aside0.mk (show Below w.heap.size w w4_ from by rw [← hw_]; exact (by repeat (first | (with_reducible first | exact HB.out | apply below_alloc | apply pw_below_drewN | apply below_drew1 | refine below_set ?_ GE1.out | refine below_set ?_ GE3.out) | exact HB.out)))
  have n1_ := Aside0.mk (show w4_.heap[g1]? = some (.cells #[.slice g.rA g.rl g.rc, .slice g.nA g.nl g.nc] 25 (0, 0)) from by rw [← hw_]; refine blk_far ?_ NE1_3.out _; exact BK1.out)
  have n2_ := Aside0.mk (show w4_.heap[g3]? = some (.cells #[.map (some m1)] 59 (0, 0)) from by rw [← hw_]; exact (by (with_reducible repeat (first | refine blk_drewN ?_ _ | refine blk_drew ?_ | refine blk_alloc ?_ _)); refine blk_put (cs := #[.map none]) ?_ 0 _ rfl; (with_reducible repeat (first | refine blk_drewN ?_ _ | refine blk_drew ?_ | refine blk_alloc ?_ _)); exact BK3.out))
  have n3_ := Aside0.mk (show (w4_).ownsMap Tryd.prog 3 nR m1 0 (.map []) from by rw [← hw_]; refine owns_far ?_ NM1_3.out _; exact MP1.out)
  clear HB
  clear BK1
  clear BK3
  clear MP1
  have HB := n0_
  have BK1 := n1_
  have BK3 := n2_
  have MP1 := n3_
  clear n0_ n1_ n2_ n3_
  clear hw_
  have hc1_0 : w4_.cell? ⟨g1, 0, none⟩ = some (.slice g.rA g.rl g.rc) := (blk_cell BK1.out 0).trans rfl
  have hf1_0 := blk_frozen BK1.out 0
  have hc1_1 : w4_.cell? ⟨g1, 1, none⟩ = some (.slice g.nA g.nl g.nc) := (blk_cell BK1.out 1).trans rfl
  have hf1_1 := blk_frozen BK1.out 1
  go_wp2_with ((with_reducible refine gate_callee (f := 34) rfl ?_); refine goesL_ (some 9) rfl rfl Tryd.func34 (by kernel_rfl) rfl #[.slice g.nA g.nl g.nc] rfl (by (try simp only [List.map_toArray, List.map_cons, List.map_nil]); first | done | rfl | (simp only [List.length_drop, List.length_take]; rfl)) ?_; (with_reducible refine (Di.back_calls _ g.nA g.nl g.nc).mono ?_); rintro e w5_ ⟨g9, rfl, hk9, hg9, hb⟩; refine ⟨_, rfl, ?_⟩; have HB0 := HB; have NG39 := Aside0.mk (show g3 ≠ g9 from Nat.ne_of_lt (Nat.lt_of_lt_of_le (blk_lt BK3.out) hg9)); have NM19 := Aside0.mk (show m1 ≠ g9 from Nat.ne_of_lt (Nat.lt_of_lt_of_le (World.ownsMap.lt MP1.out) hg9)); have n0_ := Aside0.mk (below_step (by repeat (first | (with_reducible first | exact HB.out | apply below_alloc | apply pw_below_drewN | apply below_drew1 | refine below_set ?_ GE1.out | refine below_set ?_ GE3.out) | exact HB.out)) hb); have n1_ := Aside0.mk (blk_below (g := g1) (o := .cells #[.slice g.rA g.rl g.rc, .slice g.nA g.nl g.nc] 25 (0, 0)) (by (with_reducible repeat (first | refine blk_drewN ?_ _ | refine blk_drew ?_ | refine blk_alloc ?_ _)); exact BK1.out) hb); have n2_ := Aside0.mk (blk_below (g := g3) (o := .cells #[.map (some m1)] 59 (0, 0)) (by (with_reducible repeat (first | refine blk_drewN ?_ _ | refine blk_drew ?_ | refine blk_alloc ?_ _)); exact BK3.out) hb); have n3_ := Aside0.mk (owns_below (b := m1) (by (with_reducible repeat (first | refine owns_drewN ?_ _ | refine owns_drew ?_ | refine owns_alloc ?_ _)); exact MP1.out) hb); clear HB; clear BK1; clear BK3; clear MP1; have HB := n0_; have BK1 := n1_; have BK3 := n2_; have MP1 := n3_; clear n0_ n1_ n2_ n3_; clear hb; have BK9 := Aside0.mk hk9; have GE9 := Aside0.mk (Nat.le_trans (below_size HB0.out) hg9); clear hk9 hg9)
  refine (wpIn_wide (n := 20)).1 ?_
  have hm1 := World.ownsMap.lt MP1.out
  have hg3l := blk_lt BK3.out
  have hg1l := blk_lt BK1.out
  have hg9l := blk_lt BK9.out
  have hbs := HB.out.size
  refine wpIn_rangeFunc_ownH rfl (by decide) (gf := 40) (lb := #[.pointer (some ⟨g9, 0, none⟩)]) rfl trivial (enters_of Tryd.func40 (by kernel_rfl) rfl) (back_stops 19 (by decide) g9 B g.nl g.nc g.nA g.NS hlen w5_ (Nat.le_trans hB hbs) BK9.out (HG.out.nds.kept (fun k hk => HB.out.block k (by omega))))
    KpB.t (fun W l o o' hl _ _ _ k hk => World.putObj_heap_other (by rcases hk with hk | hk <;> omega)) (Below.refl _ _) (fun _ => rfl)
    (fun pre W => W.ownsMap Tryd.prog 3 nR m1 pre.length (MDp g.NS pre) ∧ W.heap[g3]? = some (.cells #[.map (some m1)] 59 (0, 0)) ∧ W.heap[g1]? = some (.cells #[.slice g.rA g.rl g.rc, .slice g.nA g.nl g.nc] 25 (0, 0)) ∧ Below w.heap.size w W ∧ w5_.heap.size ≤ W.heap.size) (fun _ _ _ => False) ?hI (fun _ _ _ _ _ hs _ _ => hs.elim) ⟨MP1.out, BK3.out, BK1.out, HB.out, Nat.le_refl _⟩
    (fun x a' W => ∃ Bx, w5_.heap.size ≤ Bx ∧ W.heap[Bx]? = some (.cells #[.int .i64 (g.NS.getD x default).adr, .int .i64 (g.NS.getD x default).refs, .int .i64 (g.NS.getD x default).sl, .int .i64 (g.NS.getD x default).words, .slice (g.NS.getD x default).A (g.NS.getD x default).m (g.NS.getD x default).c, .slice (g.NS.getD x default).B (g.NS.getD x default).n (g.NS.getD x default).d] 35 (0, 0)) ∧ a' = { tmps := #[.agg #[.slice g.rA g.rl g.rc, .slice g.nA g.nl g.nc], .pointer (some ⟨g1, 0, none⟩), .map none, .pointer (some ⟨g3, 0, none⟩), undef, .pointer (some ⟨Bx, 0, none⟩), .map (some m1), .pointer (some ⟨g1, 1, none⟩), .slice g.nA g.nl g.nc, .func (.func 40) #[] #[.pointer (some ⟨g9, 0, none⟩)], .int .i64 (x : Int), .agg #[.int .i64 (g.NS.getD x default).adr, .int .i64 (g.NS.getD x default).refs, .int .i64 (g.NS.getD x default).sl, .int .i64 (g.NS.getD x default).words, .slice (g.NS.getD x default).A (g.NS.getD x default).m (g.NS.getD x default).c, .slice (g.NS.getD x default).B (g.NS.getD x default).n (g.NS.getD x default).d], undef, undef, undef, undef, undef], defers := [] }) ?hAx ?assign ?body ?done ?stop
  case hI =>
    rintro s W W' row ⟨h1, h2, h3, h4, h5⟩ hg hr
    have hne : ∀ k, k < w5_.heap.size → some k ≠ row := fun k hk e => by have := (hr k e.symm).1; omega
    exact ⟨h1.kept hg (hne _ hm1), (hg.block _ (blk_lt h2) (hne _ hg3l)).trans h2, (hg.block _ (blk_lt h3) (hne _ hg1l)).trans h3, h4.grown hg h4.size (fun k e => by have := (hr k e).1; omega), Nat.le_trans h5 hg.size⟩
  case hAx =>
    rintro x a' s W W' row ⟨Bx, hB1, hB2, hB3⟩ hg hr
    refine ⟨Bx, hB1, (hg.block _ (blk_lt hB2) (fun e => ?_)).trans hB2, hB3⟩
    obtain ⟨_, o, ho, hc⟩ := hr Bx e.symm
    rw [hB2] at ho
    cases ho
    cases hc
  case assign =>
    rintro l pre x W K ⟨h1, h2, h3, h4, h5⟩ hK
    have hs := h4.size
    gi_wp2
    exact hK _ _ ((KeepsOthers.alloc _ _).from _) (fun k hk => Below.heap_alloc W _ k (by rcases hk with hk | hk <;> omega)) ⟨h1.alloc _, blk_alloc h2 _, blk_alloc h3 _, below_alloc h4 _, by rw [World.size_alloc]; omega⟩ ⟨W.heap.size, h5, blk_new W _, rfl⟩
  case body =>
    rintro l pre x a' W hl ⟨r, hr⟩ ⟨h1, h2, h3, h4, h5⟩ ⟨Bx, hB1, hB2, rfl⟩ hlt
    have hwf := ok_at HG.out.ok x
    rw [List.getD_eq_getElem?_getD] at hwf
    simp only [List.getD_eq_getElem?_getD] at hB2 ⊢
    obtain ⟨q, hq⟩ : ∃ q, q = g.NS[x]?.getD default := ⟨_, rfl⟩
    rw [← hq] at hB2 hwf ⊢
    have HQ := Aside0.mk hq
    clear hq
    have hc3 : W.cell? ⟨g3, 0, none⟩ = some (.map (some m1)) := (blk_cell h2 0).trans rfl
    have hz0 : W.cell? ⟨Bx, 0, none⟩ = some (.int .i64 q.adr) := (blk_cell hB2 0).trans rfl
    have hz1 : W.cell? ⟨Bx, 1, none⟩ = some (.int .i64 q.refs) := (blk_cell hB2 1).trans rfl
    have hz2 : W.cell? ⟨Bx, 2, none⟩ = some (.int .i64 q.sl) := (blk_cell hB2 2).trans rfl
    have hz3 : W.cell? ⟨Bx, 3, none⟩ = some (.int .i64 q.words) := (blk_cell hB2 3).trans rfl
    have hz4 : W.cell? ⟨Bx, 4, none⟩ = some (.slice q.A q.m q.c) := (blk_cell hB2 4).trans rfl
    have hz5 : W.cell? ⟨Bx, 5, none⟩ = some (.slice q.B q.n q.d) := (blk_cell hB2 5).trans rfl
    have hmx : pre.length < maxLen := by unfold maxLen; omega
    gi_wp2_with (gi_at_mapUpdate; refine wpListIn_mapUpdate_own _ rfl _ _ _ 59 rfl 3 35 Di.keyed3 Tryd.underlying59 nR m1 pre.length _ rfl h1 hmx _ _ _ rfl rfl (keyOf3 hwf) (.held q.val) [] rfl ?_; intro w1 hown1 hgr)
    have hGM := GM1.out
    have hne9 := NM19.out
    have hs := h4.size
    have hgb := fun k (hk : k < W.heap.size) (hn : k ≠ m1) => hgr.block k hk (by simpa using hn)
    exact ⟨KeepsFrom.of_grownBy hgr (fun j e => by cases e; exact hm1), fun k hk => hgb k (by rcases hk with hk | hk <;> omega) (by rcases hk with hk | hk <;> omega), by rw [List.length_append, MDp_snoc, List.getD_eq_getElem?_getD, ← HQ.out]; exact hown1, (hgb g3 (blk_lt h2) NM1_3.out.symm).trans h2, (hgb g1 (blk_lt h3) NG1_1.out).trans h3, h4.grown hgr h4.size (fun k e => by cases e; exact hGM), Nat.le_trans h5 hgr.size⟩
  case done =>
    rintro D ys W hD rfl ⟨h1, h2, h3, h4, h5⟩ hK
    have hl := HG.out.nds.1
    rw [← hl, MDp_all, rv_len] at h1
    have HK := Aside0.mk hK
    have hc3 : W.cell? ⟨g3, 0, none⟩ = some (.map (some m1)) := (blk_cell h2 0).trans rfl
    go_wp2
    refine ⟨by simp, .inl ⟨_, _, rfl, run_takeDeferred HK.out, ?_⟩⟩
    exact ⟨_, results_tmp rfl _ _ _, m1, rfl, owns_put (h1.mono (by omega)) (by omega) _, GM1.out, h4.trans (belowK_b (w := w) (Nat.le_refl _) _ D _ _ (by omega) HK.out rfl rfl)⟩
  case stop => exact fun D c pre W _ _ h => h.elim
end Go.Proofs.YtacjlkjdmhlbaaaDoor.Gr
/- Parts of graph's walk (after my own texts for another seat: Gr5). What each says stands at its head. -/
namespace Go.Proofs.YtacjlkjdmhlbaaaDoor.Gr
open Go.RowKit Go.Shelf Go.Maps Go.ChangeMaps Go.MapKept Go.Proofs.YtacjlkjdmhlbaaaDoorW.PrintWords Go.Proofs.YtacjlkjdmhlbaaaDoorW.PrintLast Go.Proofs.YtacjlkjdmhlbaaaDoorW.PrintMore
set_option linter.unusedSimpArgs false
set_option linter.unusedVariables false
/-- What the closure captures. -/
structure Vx where
  (X B b3 b4 b5 b6 mb ms : Nat)
/-- A walk's variables: s1 was seen, s2 is out. -/
structure VS (W : World) (q : Vx) (g : Gd) (s1 s2 : List Int) : Prop where
  by_ : W.heap[q.b3]? = some (.cells #[.map (some q.mb)] 59 (0, 0))
  mp : W.ownsMap Tryd.prog 3 nR q.mb 40 (MD g.NS)
  sb : W.heap[q.b5]? = some (.cells #[.map (some q.ms)] 71 (0, 0))
  sm : W.ownsMap Tryd.prog 3 (plainElem Tryd.prog 4) q.ms s1.length (SD s1)
  out : ∃ v, W.heap[q.b4]? = some (.cells #[v] 22 (0, 0)) ∧ W.ownsRow q.X 3 1 v s2.length (s2.map (Value.int .i64))
  vb : W.heap[q.b6]? = some (.cells #[.func (.func 33) #[] #[.pointer (some ⟨q.b3, 0, none⟩), .pointer (some ⟨q.b5, 0, none⟩), .pointer (some ⟨q.b4, 0, none⟩), .pointer (some ⟨q.b6, 0, none⟩)]] 61 (0, 0))
  gm : GM W q.B g
  ge : q.X ≤ q.b3 ∧ q.X ≤ q.b4 ∧ q.X ≤ q.b5 ∧ q.X ≤ q.b6 ∧ q.X ≤ q.mb ∧ q.X ≤ q.ms ∧ q.B ≤ q.X ∧ q.X ≤ W.heap.size
  ne : q.mb ≠ q.ms
theorem grown_of_below {W W' : World} (hb : Below W.heap.size W W') : W.grownBy W' none := ⟨hb.os, hb.tape, hb.output, hb.size, fun k hk _ => hb.block k hk⟩
theorem VS.below {W W' : World} {q : Vx} {g : Gd} {s1 s2 : List Int} (h : VS W q g s1 s2) (hb : Below W.heap.size W W') : VS W' q g s1 s2 := by
  obtain ⟨v, hv1, hv2⟩ := h.out
  exact ⟨blk_below h.by_ hb, owns_below h.mp hb, blk_below h.sb hb, owns_below h.sm hb, ⟨v, blk_below hv1 hb, Di.row_below hv2 hb⟩, blk_below h.vb hb, h.gm.kept fun k hk => hb.block k (by have := h.ge; omega), by have := h.ge; have := hb.size; omega, h.ne⟩
theorem map_ne_cells {W : World} {P : Program} {k : TypeId} {H : Type} {R : Value → Option (DataW H × List MemPlace)} {b n : Nat} {D : DataW H} (h : W.ownsMap P k R b n D) {j : Nat} {cs : Array Value} {t : TypeId} (hj : W.heap[j]? = some (.cells cs t (0, 0))) : j ≠ b := by
  obtain ⟨es, clock, hb, _⟩ := h
  rintro rfl
  rw [hb] at hj
  cases hj
theorem VS.seen {W W' : World} {q : Vx} {g : Gd} {s1 s2 : List Int} {x : Int} (h : VS W q g s1 s2) (hg : W.grownBy W' (some q.ms)) (ho : W'.ownsMap Tryd.prog 3 (plainElem Tryd.prog 4) q.ms (s1.length + 1) ((SD s1).put (key x) (.lit (.bool true)))) :
    VS W' q g (s1 ++ [x]) s2 ∧ Below q.X W W' := by
  obtain ⟨v, hv1, hv2⟩ := h.out
  have hn : ∀ {j : Nat} {cs : Array Value} {t : TypeId}, W.heap[j]? = some (.cells cs t (0, 0)) → W'.heap[j]? = some (.cells cs t (0, 0)) := fun hj => (hg.block _ (blk_lt hj) (by simpa using map_ne_cells h.sm hj)).trans hj
  refine ⟨⟨hn h.by_, h.mp.kept hg (by simpa using h.ne), hn h.sb, by rw [List.length_append, SD_snoc]; exact ho, ⟨v, hn hv1, hv2.kept hg ?_⟩, hn h.vb, h.gm.kept fun k hk => hg.block k (by have := h.ge; omega) (by have := h.ge; simp; omega), by have := h.ge; have := hg.size; omega, h.ne⟩, ⟨hg.os, hg.tape, hg.output, hg.size, fun k hk => hg.block k (by have := h.ge; omega) (by have := h.ge; simp; omega)⟩⟩
  rcases hv2.2 with ⟨rfl, _⟩ | ⟨g0, cap, cur, rfl, _, hgb, _⟩
  · exact .inl rfl
  · exact .inr (by simpa [Value.ownBlock] using map_ne_cells h.sm hgb)
theorem VS.push {W w1 : World} {q : Vx} {g : Gd} {s1 s2 : List Int} {x : Int} {v v' : Value} {tmp : Obj} (h : VS W q g s1 s2) (hv1 : W.heap[q.b4]? = some (.cells #[v] 22 (0, 0))) (hv2 : W.ownsRow q.X 3 1 v s2.length (s2.map (Value.int .i64)))
    (hown : w1.ownsRow q.X 3 1 v' (s2.length + 1) (s2.map (Value.int .i64) ++ [.int .i64 x])) (hg : (W.alloc tmp).grownBy w1 v.ownBlock) :
    w1.heap[q.b4]? = some (.cells #[v] 22 (0, 0)) ∧ VS (w1.setCell ⟨q.b4, 0, none⟩ v') q g s1 (s2 ++ [x]) ∧ Below q.X W (w1.setCell ⟨q.b4, 0, none⟩ v') ∧ (∀ {j : Nat} {cs : Array Value} {t : TypeId}, W.heap[j]? = some (.cells cs t (0, 0)) → t ≠ 3 → t ≠ 22 → (w1.setCell ⟨q.b4, 0, none⟩ v').heap[j]? = some (.cells cs t (0, 0))) := by
  have own : ∀ {j : Nat} {cs : Array Value} {t : TypeId}, W.heap[j]? = some (.cells cs t (0, 0)) → t ≠ 3 → some j ≠ v.ownBlock := by
    intro j cs t hj ht
    rcases hv2.2 with ⟨rfl, _⟩ | ⟨g0, cap, cur, rfl, _, hgb, _⟩
    · simp [Value.ownBlock]
    · intro e
      obtain rfl : j = g0 := by simpa [Value.ownBlock] using e
      rw [hgb] at hj
      cases hj
      exact ht rfl
  have c1 : ∀ {j : Nat} {cs : Array Value} {t : TypeId}, W.heap[j]? = some (.cells cs t (0, 0)) → t ≠ 3 → w1.heap[j]? = some (.cells cs t (0, 0)) := fun hj ht =>
    (hg.block _ (by have := blk_lt hj; rw [World.size_alloc]; omega) (own hj ht)).trans (blk_alloc hj _)
  have c2 : ∀ {j : Nat} {cs : Array Value} {t : TypeId}, W.heap[j]? = some (.cells cs t (0, 0)) → t ≠ 3 → t ≠ 22 → (w1.setCell ⟨q.b4, 0, none⟩ v').heap[j]? = some (.cells cs t (0, 0)) := fun {j cs t} hj ht h22 =>
    blk_far (c1 hj ht) (p := ⟨q.b4, 0, none⟩) (by rintro rfl; rw [hv1] at hj; cases hj; exact h22 rfl) _
  have mown : ∀ {b n : Nat} {H : Type} {R : Value → Option (DataW H × List MemPlace)} {D : DataW H}, W.ownsMap Tryd.prog 3 R b n D → (w1.setCell ⟨q.b4, 0, none⟩ v').ownsMap Tryd.prog 3 R b n D := by
    intro b n H R D hm
    refine owns_far ((owns_alloc hm tmp).kept hg ?_) (p := ⟨q.b4, 0, none⟩) (map_ne_cells hm hv1).symm _
    rcases hv2.2 with ⟨rfl, _⟩ | ⟨g0, cap, cur, rfl, _, hgb, _⟩
    · simp [Value.ownBlock]
    · simpa [Value.ownBlock] using (map_ne_cells hm hgb).symm
  have hlow : ∀ k, k < q.X → (w1.setCell ⟨q.b4, 0, none⟩ v').heap[k]? = W.heap[k]? := fun k hk => by
    have hge := h.ge
    have h1 : (w1.setCell ⟨q.b4, 0, none⟩ v').heap[k]? = w1.heap[k]? := Below.heap_setCell w1 ⟨q.b4, 0, none⟩ v' k (by show k ≠ q.b4; omega)
    rw [h1, hg.block k (by rw [World.size_alloc]; omega) (fun e => ?_), Below.heap_alloc W tmp k (by omega)]
    rcases hv2.2 with ⟨rfl, _⟩ | ⟨g0, cap, cur, rfl, hX, _⟩
    · simp [Value.ownBlock] at e
    · obtain rfl : k = g0 := by simpa [Value.ownBlock] using e
      omega
  have hsz : W.heap.size ≤ (w1.setCell ⟨q.b4, 0, none⟩ v').heap.size := by
    have := hg.size
    rw [World.size_alloc] at this
    have e := (KeepsWalks.setCell w1 ⟨q.b4, 0, none⟩ v').size
    omega
  have hlt4 := c1 hv1 (by decide)
  refine ⟨hlt4, ⟨c2 h.by_ (by decide) (by decide), mown h.mp, c2 h.sb (by decide) (by decide), mown h.sm, ⟨v', ?_, ?_⟩, c2 h.vb (by decide) (by decide), h.gm.kept fun k hk => hlow k (by have := h.ge; omega), by have := h.ge; omega, h.ne⟩, ⟨hg.os, hg.tape, hg.output, hsz, hlow⟩, c2⟩
  · exact (Boxed.set v' (show Boxed w1 q.b4 22 v from hlt4))
  · rw [List.length_append, List.map_append]
    refine hown.kept (grownBy_setCell' w1 q.b4 v') (.inr ?_)
    exact (Boxed.not_row (show Boxed w1 q.b4 22 v from hlt4) (by decide) hown).symm
end Go.Proofs.YtacjlkjdmhlbaaaDoor.Gr
/- Parts of graph's walk (after my own texts for another seat: Gr6). What each says stands at its head. -/
namespace Go.Proofs.YtacjlkjdmhlbaaaDoor.Gr
open Go.RowKit Go.Shelf Go.Maps Go.ChangeMaps Go.MapKept Go.Proofs.YtacjlkjdmhlbaaaDoorW.PrintWords Go.Proofs.YtacjlkjdmhlbaaaDoorW.PrintLast Go.Proofs.YtacjlkjdmhlbaaaDoorW.PrintMore
set_option linter.unusedSimpArgs false
set_option linter.unusedVariables false
theorem visitR_cnt (NS : List Nd) (N : Nat) : ∀ (f : Nat) (s l : List Int), s.length + left NS s ≤ N → (visitR NS f s l).length + left NS (visitR NS f s l) ≤ N
  | 0, s, l, h => h
  | f + 1, s, l, h => by
    rw [visitR_eq]
    induction l generalizing s with
    | nil => exact h
    | cons x l ih =>
      rw [List.foldl_cons]
      refine ih _ ?_
      unfold stepR
      cases hf : find NS x with
      | none => exact h
      | some n =>
        by_cases hx : x ∈ s
        · simpa [hx] using h
        · simp only [hx, if_false]
          refine visitR_cnt NS N f _ _ ?_
          have := left_lt hf hx
          rw [List.length_append, List.length_singleton]
          omega
theorem visitR_left (NS : List Nd) (f : Nat) (s l : List Int) : left NS (visitR NS f s l) ≤ left NS s := by
  obtain ⟨t, e, _⟩ := visitR_ext NS f s l
  rw [e]
  exact left_sub fun x hx => List.mem_append_left _ hx
theorem take_snoc {l : List Int} {j : Nat} (h : j < l.length) : l.take (j + 1) = l.take j ++ [l.getD j 0] := by
  rw [List.take_succ_eq_append_getElem h, List.getD_eq_getElem?_getD, List.getElem?_eq_getElem h]
  rfl
theorem info3 : (Tryd.prog.info? 3).map (fun i => (i.zero, i.size, i.bytes)) = some (some (.int .i64 0), 1, 8) := by kernel_rfl
theorem look_none {W : World} {b n : Nat} {L : List Nd} (h : W.ownsMap Tryd.prog 3 nR b n (MD L)) {x : Int} (hk : (Lit.int .i64 x).wf = true) (hf : find L x = none) : (Instr.lookup 59 (.map (some b)) (.int .i64 x) true).run Tryd.prog W = .ok (.tuple #[.agg #[.int .i64 0, .int .i64 0, .int .i64 0, .int .i64 0, .slice none 0 0, .slice none 0 0], .bool false]) W := by
  have := look_node h hk
  rw [hf] at this
  exact this
theorem look_some {W : World} {b n : Nat} {L : List Nd} (h : W.ownsMap Tryd.prog 3 nR b n (MD L)) {x : Int} (hk : (Lit.int .i64 x).wf = true) {k : Nd} (hf : find L x = some k) : (Instr.lookup 59 (.map (some b)) (.int .i64 x) true).run Tryd.prog W = .ok (.tuple #[.agg #[.int .i64 k.adr, .int .i64 k.refs, .int .i64 k.sl, .int .i64 k.words, .slice k.A k.m k.c, .slice k.B k.n k.d], .bool true]) W := by
  have := look_node h hk
  rw [hf] at this
  exact this
theorem seen_yes {W : World} {b n : Nat} {s : List Int} (h : W.ownsMap Tryd.prog 3 (plainElem Tryd.prog 4) b n (SD s)) {x : Int} (hk : (Lit.int .i64 x).wf = true) (hx : x ∈ s) : (Instr.lookup 71 (.map (some b)) (.int .i64 x) false).run Tryd.prog W = .ok (.bool true) W := by
  have := look_seen h hk
  rw [decide_eq_true hx] at this
  exact this
theorem seen_no {W : World} {b n : Nat} {s : List Int} (h : W.ownsMap Tryd.prog 3 (plainElem Tryd.prog 4) b n (SD s)) {x : Int} (hk : (Lit.int .i64 x).wf = true) (hx : x ∉ s) : (Instr.lookup 71 (.map (some b)) (.int .i64 x) false).run Tryd.prog W = .ok (.bool false) W := by
  have := look_seen h hk
  rw [decide_eq_false hx] at this
  exact this
set_option maxHeartbeats 8000000 in
set_option maxRecDepth 100000 in
theorem visit_calls (q : Vx) (g : Gd) (hsz : ∀ n ∈ g.NS, n.m ≤ 300 ∧ n.n ≤ 300) (hNS : g.NS.length ≤ 40) : ∀ (f : Nat) (W : World) (s l : List Int) (A : Option Addr) (m c : Nat) (HS : Aside0 (VS W q g s s)) (HL : Aside0 (IL .i64 W q.B A m l)) (hm : m ≤ 300) (hwl : Aside0 (∀ x ∈ l, (Lit.int .i64 x).wf = true)) (HF : Aside0 (left g.NS s < f)) (HC : Aside0 (s.length + left g.NS s ≤ g.NS.length)),
    Calls Tryd.prog 33 #[.slice A m c, .pointer (some ⟨q.b3, 0, none⟩), .pointer (some ⟨q.b5, 0, none⟩), .pointer (some ⟨q.b4, 0, none⟩), .pointer (some ⟨q.b6, 0, none⟩)] W fun e W' => (∃ v, e = .returned v) ∧ VS W' q g (visitR g.NS f s l) (visitR g.NS f s l) ∧ Below q.X W W' := by
  intro f
  induction f with
  | zero => intro W s l A m c HS HL hm hwl HF HC; exact absurd HF.out (by omega)
  | succ f ih =>
    intro W s l A m c HS HL hm hwl HF HC
    have IH := Aside0.mk ih
    clear ih
    obtain ⟨i0, hi, hz0, hz1, hz2⟩ := info_parts info3
    go_enter Tryd.func33, Tryd.ntmps33
    go_wp2
    go_loopw [12] (fun v wr => ∃ (j : Nat) (s' : List Int), j ≤ m ∧ v = .int .i64 (j : Int) ∧ Aside0 (s' = (l.take j).foldl (stepR g.NS f) s) ∧ Aside0 (VS wr q g s' s') ∧ Aside0 (Below q.X W wr) ∧ Aside0 (s'.length + left g.NS s' ≤ g.NS.length ∧ left g.NS s' ≤ left g.NS s)) (fun v _ => m - (intOf v).toNat)
    case atStart => exact ⟨0, s, by omega, rfl, Aside0.mk rfl, HS, Aside0.mk (Below.refl _ _), Aside0.mk ⟨HC.out, Nat.le_refl _⟩⟩
    case round =>
      have HGE := Aside0.mk HS.out.ge
      clear HS HC
      obtain ⟨j, s', hj, rfl, HE, HS, HBB, HC⟩ := hrel
      by_cases hgo : j < m
      · have hd : decide ((j : Int) < (m : Int)) = true := decide_eq_true (by omega)
        have hll : l.length = m := HL.out.1
        obtain ⟨y, e, hyb, hyc⟩ := (HL.out.kept (fun k hk => HBB.out.block k (by have := HGE.out; omega))).2 j hgo
        subst e
        obtain ⟨x, hx_⟩ : ∃ x, x = l.getD j 0 := ⟨_, rfl⟩
        rw [← hx_] at hyc
        have HX := Aside0.mk hx_
        have hwf : (Lit.int .i64 x).wf = true := by
          rw [hx_, List.getD_eq_getElem?_getD, List.getElem?_eq_getElem (by omega)]
          exact hwl.out _ (List.getElem_mem (by omega))
        clear hx_
        have HWF := Aside0.mk hwf
        clear hwf
        have hj0 : (0 : Int) ≤ (j : Int) := by omega
        have hj1 : (j : Int) < (m : Int) := by omega
        have hc3 : wr.cell? ⟨q.b3, 0, none⟩ = some (.map (some q.mb)) := (blk_cell HS.out.by_ 0).trans rfl
        have HB := Aside0.mk (Below.refl wr.heap.size wr)
        cases hf : find g.NS x with
        | none =>
          have hlk := look_none HS.out.mp HWF.out hf
          have HFN := Aside0.mk hf
          clear hf
          go_upto_region 4 with ((with_reducible refine gate_dst (N := 8) rfl ?_); refine box_event ?hg (N := 8) ?hd (cs := #[.int .i64 0, .int .i64 0, .int .i64 0, .int .i64 0, .slice none 0 0, .slice none 0 0]) (t := 35) ?hr ?_; (case hd => rfl); (case hg => rfl); (case hr => first | (go_simp; done) | (go_simp; rfl)); intro g8 hg w1_ hbox hb; have n0_ := Aside0.mk (below_step (by repeat (first | (with_reducible first | exact HB.out | apply below_alloc | apply pw_below_drewN | apply below_drew1) | exact HB.out)) hb); have n1_ := Aside0.mk hbox; have n2_ := Aside0.mk ((by rw [hg]; exact (below_size (by repeat (first | (with_reducible first | exact HB.out | apply below_alloc | apply pw_below_drewN | apply below_drew1) | exact HB.out)))) : wr.heap.size ≤ g8); clear HB; have HB := n0_; have BK8 := n1_; have GE8 := n2_; clear n0_ n1_ n2_; clear hb hbox hg; have hc8_0 : w1_.cell? ⟨g8, 0, none⟩ = some (.int .i64 0) := (blk_cell BK8.out 0).trans rfl; have hf8_0 := blk_frozen BK8.out 0; have hc8_1 : w1_.cell? ⟨g8, 1, none⟩ = some (.int .i64 0) := (blk_cell BK8.out 1).trans rfl; have hf8_1 := blk_frozen BK8.out 1; have hc8_2 : w1_.cell? ⟨g8, 2, none⟩ = some (.int .i64 0) := (blk_cell BK8.out 2).trans rfl; have hf8_2 := blk_frozen BK8.out 2; have hc8_3 : w1_.cell? ⟨g8, 3, none⟩ = some (.int .i64 0) := (blk_cell BK8.out 3).trans rfl; have hf8_3 := blk_frozen BK8.out 3; have hc8_4 : w1_.cell? ⟨g8, 4, none⟩ = some (.slice none 0 0) := (blk_cell BK8.out 4).trans rfl; have hf8_4 := blk_frozen BK8.out 4; have hc8_5 : w1_.cell? ⟨g8, 5, none⟩ = some (.slice none 0 0) := (blk_cell BK8.out 5).trans rfl; have hf8_5 := blk_frozen BK8.out 5)
          go_wp2
          refine ⟨⟨j + 1, s', by omega, by push_cast; rfl, Aside0.mk (by rw [take_snoc (by omega), List.foldl_append, ← HE.out]; show s' = stepR g.NS f s' (l.getD j 0); rw [← HX.out]; unfold stepR; rw [HFN.out]), Aside0.mk (HS.out.below (by repeat (first | (with_reducible first | exact HB.out | apply below_alloc | apply pw_below_drewN | apply below_drew1 | refine below_set ?_ GE8.out) | exact HB.out))), Aside0.mk (HBB.out.trans ((show Below wr.heap.size wr _ from (by repeat (first | (with_reducible first | exact HB.out | apply below_alloc | apply pw_below_drewN | apply below_drew1 | refine below_set ?_ GE8.out) | exact HB.out))).mono (by have := HGE.out; have := HBB.out.size; omega))), HC⟩, ?_⟩
          show m - ((j : Int) + 1).toNat < m - (j : Int).toNat
          omega
        | some k =>
          have hlk := look_some HS.out.mp HWF.out hf
          have HFN := Aside0.mk hf
          clear hf
          go_upto_region 4 with ((with_reducible refine gate_dst (N := 8) rfl ?_); refine box_event ?hg (N := 8) ?hd (cs := #[.int .i64 0, .int .i64 0, .int .i64 0, .int .i64 0, .slice none 0 0, .slice none 0 0]) (t := 35) ?hr ?_; (case hd => rfl); (case hg => rfl); (case hr => first | (go_simp; done) | (go_simp; rfl)); intro g8 hg w1_ hbox hb; have n0_ := Aside0.mk (below_step (by repeat (first | (with_reducible first | exact HB.out | apply below_alloc | apply pw_below_drewN | apply below_drew1) | exact HB.out)) hb); have n1_ := Aside0.mk hbox; have n2_ := Aside0.mk ((by rw [hg]; exact (below_size (by repeat (first | (with_reducible first | exact HB.out | apply below_alloc | apply pw_below_drewN | apply below_drew1) | exact HB.out)))) : wr.heap.size ≤ g8); clear HB; have HB := n0_; have BK8 := n1_; have GE8 := n2_; clear n0_ n1_ n2_; clear hb hbox hg; have hc8_0 : w1_.cell? ⟨g8, 0, none⟩ = some (.int .i64 0) := (blk_cell BK8.out 0).trans rfl; have hf8_0 := blk_frozen BK8.out 0; have hc8_1 : w1_.cell? ⟨g8, 1, none⟩ = some (.int .i64 0) := (blk_cell BK8.out 1).trans rfl; have hf8_1 := blk_frozen BK8.out 1; have hc8_2 : w1_.cell? ⟨g8, 2, none⟩ = some (.int .i64 0) := (blk_cell BK8.out 2).trans rfl; have hf8_2 := blk_frozen BK8.out 2; have hc8_3 : w1_.cell? ⟨g8, 3, none⟩ = some (.int .i64 0) := (blk_cell BK8.out 3).trans rfl; have hf8_3 := blk_frozen BK8.out 3; have hc8_4 : w1_.cell? ⟨g8, 4, none⟩ = some (.slice none 0 0) := (blk_cell BK8.out 4).trans rfl; have hf8_4 := blk_frozen BK8.out 4; have hc8_5 : w1_.cell? ⟨g8, 5, none⟩ = some (.slice none 0 0) := (blk_cell BK8.out 5).trans rfl; have hf8_5 := blk_frozen BK8.out 5)
          generalize hw_ : ((((((w1_.setCell ⟨g8, 0, none⟩ (.int .i64 k.adr)).setCell ⟨g8, 1, none⟩ (.int .i64 k.refs)).setCell ⟨g8, 2, none⟩ (.int .i64 k.sl)).setCell ⟨g8, 3, none⟩ (.int .i64 k.words)).setCell ⟨g8, 4, none⟩ (.slice k.A k.m k.c)).setCell ⟨g8, 5, none⟩ (.slice k.B k.n k.d)) = w2_
          have n0_ := Aside0.mk (show Below wr.heap.size wr w2_ from by rw [← hw_]; exact (by repeat (first | (with_reducible first | exact HB.out | apply below_alloc | apply pw_below_drewN | apply below_drew1 | refine below_set ?_ GE8.out) | exact HB.out)))
          have n1_ := Aside0.mk (show w2_.heap[g8]? = some (.cells #[.int .i64 k.adr, .int .i64 k.refs, .int .i64 k.sl, .int .i64 k.words, .slice k.A k.m k.c, .slice k.B k.n k.d] 35 (0, 0)) from by rw [← hw_]; exact (by (with_reducible repeat (first | refine blk_drewN ?_ _ | refine blk_drew ?_ | refine blk_alloc ?_ _)); refine blk_put (cs := #[.int .i64 k.adr, .int .i64 k.refs, .int .i64 k.sl, .int .i64 k.words, .slice k.A k.m k.c, .slice none 0 0]) ?_ 5 _ rfl; (with_reducible repeat (first | refine blk_drewN ?_ _ | refine blk_drew ?_ | refine blk_alloc ?_ _)); refine blk_put (cs := #[.int .i64 k.adr, .int .i64 k.refs, .int .i64 k.sl, .int .i64 k.words, .slice none 0 0, .slice none 0 0]) ?_ 4 _ rfl; (with_reducible repeat (first | refine blk_drewN ?_ _ | refine blk_drew ?_ | refine blk_alloc ?_ _)); refine blk_put (cs := #[.int .i64 k.adr, .int .i64 k.refs, .int .i64 k.sl, .int .i64 0, .slice none 0 0, .slice none 0 0]) ?_ 3 _ rfl; (with_reducible repeat (first | refine blk_drewN ?_ _ | refine blk_drew ?_ | refine blk_alloc ?_ _)); refine blk_put (cs := #[.int .i64 k.adr, .int .i64 k.refs, .int .i64 0, .int .i64 0, .slice none 0 0, .slice none 0 0]) ?_ 2 _ rfl; (with_reducible repeat (first | refine blk_drewN ?_ _ | refine blk_drew ?_ | refine blk_alloc ?_ _)); refine blk_put (cs := #[.int .i64 k.adr, .int .i64 0, .int .i64 0, .int .i64 0, .slice none 0 0, .slice none 0 0]) ?_ 1 _ rfl; (with_reducible repeat (first | refine blk_drewN ?_ _ | refine blk_drew ?_ | refine blk_alloc ?_ _)); refine blk_put (cs := #[.int .i64 0, .int .i64 0, .int .i64 0, .int .i64 0, .slice none 0 0, .slice none 0 0]) ?_ 0 _ rfl; (with_reducible repeat (first | refine blk_drewN ?_ _ | refine blk_drew ?_ | refine blk_alloc ?_ _)); exact BK8.out))
          clear HB
          clear BK8
          have HB := n0_
          have BK8 := n1_
          clear n0_ n1_
          clear hw_
          have hc8_0 : w2_.cell? ⟨g8, 0, none⟩ = some (.int .i64 k.adr) := (blk_cell BK8.out 0).trans rfl
          have hf8_0 := blk_frozen BK8.out 0
          have hc8_1 : w2_.cell? ⟨g8, 1, none⟩ = some (.int .i64 k.refs) := (blk_cell BK8.out 1).trans rfl
          have hf8_1 := blk_frozen BK8.out 1
          have hc8_2 : w2_.cell? ⟨g8, 2, none⟩ = some (.int .i64 k.sl) := (blk_cell BK8.out 2).trans rfl
          have hf8_2 := blk_frozen BK8.out 2
          have hc8_3 : w2_.cell? ⟨g8, 3, none⟩ = some (.int .i64 k.words) := (blk_cell BK8.out 3).trans rfl
          have hf8_3 := blk_frozen BK8.out 3
          have hc8_4 : w2_.cell? ⟨g8, 4, none⟩ = some (.slice k.A k.m k.c) := (blk_cell BK8.out 4).trans rfl
          have hf8_4 := blk_frozen BK8.out 4
          have hc8_5 : w2_.cell? ⟨g8, 5, none⟩ = some (.slice k.B k.n k.d) := (blk_cell BK8.out 5).trans rfl
          have hf8_5 := blk_frozen BK8.out 5
          have HS2 := Aside0.mk (HS.out.below HB.out)
          have HB2 := Aside0.mk (HBB.out.trans (HB.out.mono (by have := HGE.out; have := HBB.out.size; omega)))
          have hc5 : w2_.cell? ⟨q.b5, 0, none⟩ = some (.map (some q.ms)) := (blk_cell HS2.out.sb 0).trans rfl
          by_cases hin : x ∈ s'
          · have hsk := seen_yes HS2.out.sm HWF.out hin
            have HIN := Aside0.mk hin
            clear hin
            go_wp2
            refine ⟨⟨j + 1, s', by omega, by push_cast; rfl, Aside0.mk (by rw [take_snoc (by omega), List.foldl_append, ← HE.out]; show s' = stepR g.NS f s' (l.getD j 0); rw [← HX.out]; unfold stepR; rw [HFN.out]; simp [HIN.out]), Aside0.mk HS2.out, Aside0.mk HB2.out, HC⟩, ?_⟩
            show m - ((j : Int) + 1).toNat < m - (j : Int).toNat
            omega
          · have hsk := seen_no HS2.out.sm HWF.out hin
            have HIN := Aside0.mk hin
            clear hin
            have hmx : s'.length < maxLen := by unfold maxLen; have := HC.out; omega
            have hs40 : s'.length ≤ 40 := by have := HC.out; omega
            go_upto_region 6 with (at_mapUpdate; refine wpList_mapUpdate_own _ rfl _ _ _ 71 rfl 3 4 Di.keyed3 Tryd.underlying71 (plainElem Tryd.prog 4) q.ms s'.length _ rfl HS2.out.sm hmx _ _ _ rfl rfl (keyOf3 HWF.out) (.lit (.bool true)) [] (plainElem_bool Tryd.underlying4 true) ?_; intro w3 hown3 hg3)
            obtain ⟨hs3, hb3⟩ := HS2.out.seen hg3 hown3
            have BK8' := Aside0.mk ((hg3.block _ (blk_lt BK8.out) (by simpa using map_ne_cells HS2.out.sm BK8.out)).trans BK8.out)
            have HS3 := Aside0.mk hs3
            have HB3 := Aside0.mk (HB2.out.trans hb3)
            clear hg3 hown3 hs3 hb3
            obtain ⟨v, hv1, hv2⟩ := HS3.out.out
            have hc4 : w3.cell? ⟨q.b4, 0, none⟩ = some v := (blk_cell hv1 0).trans rfl
            have HV1 := Aside0.mk hv1
            have HV2 := Aside0.mk hv2
            clear hv1 hv2
            have hX3 := HS3.out.ge.2.2.2.2.2.2.2
            go_upto_region 7 with (at_builtin; refine wpList_append_own _ rfl (.tmp 31) (.tmp 33) 22 rfl q.X 3 i0 (.int .i64 0) 1 8 Tryd.underlying22 hi hz0 hz1 hz2 rfl (by decide) v s'.length (s'.map (Value.int .i64)) rfl (HV2.out.alloc _) ⟨w3.heap.size, 0, none⟩ 1 1 [.int .i64 x] rfl rfl (cell_one_new _ _ _) (by simp [Value.oneCell']) (by unfold maxLen; omega) (by omega) (by rw [World.size_alloc]; omega) ?_; intro v' w5 hown' hgrow _; obtain ⟨g', cap', rfl⟩ := ownsRow_succ hown'; obtain ⟨h54, hs6, hb6, hcs6⟩ := HS3.out.push HV1.out HV2.out hown' hgrow; have BK8w := Aside0.mk (hcs6 BK8'.out (by decide) (by decide)); have HS6 := Aside0.mk hs6; have HB6 := Aside0.mk (HB3.out.trans hb6); have hc54 := (blk_cell h54 0).trans rfl; have hf54 := blk_frozen h54 0; clear hs6 hb6 hcs6 h54 hown' hgrow)
            generalize hw_ : w5.setCell ⟨q.b4, 0, none⟩ (.slice (some ⟨g', 0, none⟩) (s'.length + 1) cap') = w6 at BK8w HS6 HB6 ⊢
            clear hw_ hc54 hf54 HV1 HV2 hc4
            have hc6 : w6.cell? ⟨q.b6, 0, none⟩ = some (.func (.func 33) #[] #[.pointer (some ⟨q.b3, 0, none⟩), .pointer (some ⟨q.b5, 0, none⟩), .pointer (some ⟨q.b4, 0, none⟩), .pointer (some ⟨q.b6, 0, none⟩)]) := (blk_cell HS6.out.vb 0).trans rfl
            have hc84 : w6.cell? ⟨g8, 4, none⟩ = some (.slice k.A k.m k.c) := (blk_cell BK8w.out 4).trans rfl
            have hmem := find_mem HFN.out
            have hkm := (hsz k hmem).1
            have HKL := Aside0.mk (HS6.out.gm.sub k hmem).1
            have HKW := Aside0.mk (HS6.out.gm.sok k hmem)
            have hlt := left_lt HFN.out HIN.out
            have HLF := Aside0.mk (show left g.NS (s' ++ [x]) < f by have := HF.out; have := HC.out; omega)
            have HCN := Aside0.mk (show (s' ++ [x]).length + left g.NS (s' ++ [x]) ≤ g.NS.length by have := HC.out; rw [List.length_append, List.length_singleton]; omega)
            have HLL := Aside0.mk (show left g.NS (visitR g.NS f (s' ++ [x]) k.S) ≤ left g.NS s by have := visitR_left g.NS f (s' ++ [x]) k.S; have := HC.out; omega)
            clear hlt hmem
            go_wp2_with (go_at_call 33; refine (IH.out w6 (s' ++ [x]) k.S k.A k.m k.c HS6 HKL hkm HKW HLF HCN).mono ?_; rintro e w7 ⟨⟨vv, rfl⟩, hs7, hb7⟩; have HS7 := Aside0.mk hs7; have HB7 := Aside0.mk (HB6.out.trans hb7); clear hs7 hb7)
            refine ⟨⟨j + 1, visitR g.NS f (s' ++ [x]) k.S, by omega, by push_cast; rfl, Aside0.mk (by rw [take_snoc (by omega), List.foldl_append, ← HE.out]; show _ = stepR g.NS f s' (l.getD j 0); rw [← HX.out]; unfold stepR; rw [HFN.out]; simp [HIN.out]), HS7, HB7, Aside0.mk ⟨visitR_cnt _ _ _ _ _ HCN.out, HLL.out⟩⟩, ?_⟩
            show m - ((j : Int) + 1).toNat < m - (j : Int).toNat
            omega
      · obtain rfl : j = m := by omega
        have hd : decide ((j : Int) < (j : Int)) = false := decide_eq_false (by omega)
        go_wp2
        go_end0
        have hll : l.length = j := HL.out.1
        refine ⟨⟨_, rfl⟩, ?_, HBB.out⟩
        rw [visitR_eq, show l = l.take j by rw [List.take_of_length_le (by omega)], ← HE.out]
        exact HS.out
end Go.Proofs.YtacjlkjdmhlbaaaDoor.Gr
/- Parts of graph's walk (after my own texts for another seat: Gr7). What each says stands at its head. -/
namespace Go.Proofs.YtacjlkjdmhlbaaaDoor.Gr
open Go.RowKit Go.Shelf Go.Maps Go.ChangeMaps Go.MapKept Go.Proofs.YtacjlkjdmhlbaaaDoorW.PrintWords Go.Proofs.YtacjlkjdmhlbaaaDoorW.PrintLast Go.Proofs.YtacjlkjdmhlbaaaDoorW.PrintMore
set_option linter.unusedSimpArgs false
set_option linter.unusedVariables false
attribute [local go_sem] Oper.semAt_some
/-- No more than the statements look at. -/
structure Small (g : Gd) : Prop where
  n40 : g.nl ≤ 40
  r40 : g.rl ≤ 40
  sz : ∀ n ∈ g.NS, n.m ≤ 300 ∧ n.n ≤ 300
set_option maxHeartbeats 8000000 in
set_option maxRecDepth 100000 in
theorem walk_calls (w : World) (g : Gd) (B : Nat) (hB : B ≤ w.heap.size) (HG : Aside0 (GM w B g)) (hsm : Small g) : Calls Tryd.prog 20 #[.agg #[.slice g.rA g.rl g.rc, .slice g.nA g.nl g.nc]] w fun e W' => ∃ v, e = .returned v ∧ W'.ownsRow w.heap.size 3 1 v (walkR g.NS g.R).length ((walkR g.NS g.R).map (Value.int .i64)) ∧ Below w.heap.size w W' := by
  have HB := Aside0.mk (Below.refl w.heap.size w)
  have hl := HG.out.nds.1
  go_enter Tryd.func20, Tryd.ntmps20
  go_upto_region 1 with ((with_reducible refine gate_dst (N := 1) rfl ?_); refine box_event ?hg (N := 1) ?hd (cs := #[.slice g.rA g.rl g.rc, .slice g.nA g.nl g.nc]) (t := 25) ?hr ?_; (case hd => rfl); (case hg => rfl); (case hr => first | (go_simp; done) | (go_simp; rfl)); intro g1 hg w1_ hbox hb; have n0_ := Aside0.mk (below_step (by repeat (first | (with_reducible first | exact HB.out | apply below_alloc | apply pw_below_drewN | apply below_drew1) | exact HB.out)) hb); have n1_ := Aside0.mk hbox; have n2_ := Aside0.mk ((by rw [hg]; exact (below_size (by repeat (first | (with_reducible first | exact HB.out | apply below_alloc | apply pw_below_drewN | apply below_drew1) | exact HB.out)))) : w.heap.size ≤ g1); clear HB; have HB := n0_; have BK1 := n1_; have GE1 := n2_; clear n0_ n1_ n2_; clear hb hbox hg)
  have hc1_0 : w1_.cell? ⟨g1, 0, none⟩ = some (.slice g.rA g.rl g.rc) := (blk_cell BK1.out 0).trans rfl
  have hf1_0 := blk_frozen BK1.out 0
  have hc1_1 : w1_.cell? ⟨g1, 1, none⟩ = some (.slice g.nA g.nl g.nc) := (blk_cell BK1.out 1).trans rfl
  have hf1_1 := blk_frozen BK1.out 1
  go_upto_region 2 with (first | ((with_reducible refine gate_dst (N := 3) rfl ?_); refine box_event ?hg (N := 3) ?hd (cs := #[.map none]) (t := 59) ?hr ?_; (case hd => rfl); (case hg => rfl); (case hr => first | (go_simp; done) | (go_simp; rfl)); intro g3 hg w3_ hbox hb; have n0_ := Aside0.mk (below_step (by repeat (first | (with_reducible first | exact HB.out | apply below_alloc | apply pw_below_drewN | apply below_drew1 | refine below_set ?_ GE1.out) | exact HB.out)) hb); have n1_ := Aside0.mk (blk_below (g := g1) (o := .cells #[.slice g.rA g.rl g.rc, .slice g.nA g.nl g.nc] 25 (0, 0)) (by (with_reducible repeat (first | refine blk_drewN ?_ _ | refine blk_drew ?_ | refine blk_alloc ?_ _)); exact BK1.out) hb); have n2_ := Aside0.mk (owns_below (b := m1) (by (with_reducible repeat (first | refine owns_drewN ?_ _ | refine owns_drew ?_ | refine owns_alloc ?_ _)); exact MP1.out) hb); have n3_ := Aside0.mk hbox; have n4_ := Aside0.mk ((by rw [hg]; exact (below_size (by repeat (first | (with_reducible first | exact HB.out | apply below_alloc | apply pw_below_drewN | apply below_drew1 | refine below_set ?_ GE1.out) | exact HB.out)))) : w.heap.size ≤ g3); have n5_ := Aside0.mk ((by rw [hg]; exact Nat.ne_of_lt (blk_lt (g := g1) (o := .cells #[.slice g.rA g.rl g.rc, .slice g.nA g.nl g.nc] 25 (0, 0)) (by (with_reducible repeat (first | refine blk_drewN ?_ _ | refine blk_drew ?_ | refine blk_alloc ?_ _)); exact BK1.out))) : g1 ≠ g3); have n6_ := Aside0.mk ((by rw [hg]; exact Nat.ne_of_lt (World.ownsMap.lt (b := m1) (by (with_reducible repeat (first | refine owns_drewN ?_ _ | refine owns_drew ?_ | refine owns_alloc ?_ _)); exact MP1.out))) : m1 ≠ g3); clear HB; clear BK1; clear MP1; have HB := n0_; have BK1 := n1_; have MP1 := n2_; have BK3 := n3_; have GE3 := n4_; have NE1_3 := n5_; have NM1_3 := n6_; clear n0_ n1_ n2_ n3_ n4_ n5_ n6_; clear hb hbox hg; have hc3_0 : w3_.cell? ⟨g3, 0, none⟩ = some (.map none) := (blk_cell BK3.out 0).trans rfl; have hf3_0 := blk_frozen BK3.out 0) | ((with_reducible refine gate_callee (f := 21) rfl ?_); refine goesL_ (some 8) rfl rfl Tryd.func21 (by kernel_rfl) rfl #[.agg #[.slice g.rA g.rl g.rc, .slice g.nA g.nl g.nc]] rfl (by (try simp only [List.map_toArray, List.map_cons, List.map_nil]); first | done | rfl | (simp only [List.length_drop, List.length_take]; rfl)) ?_; (with_reducible refine (gnodes_calls _ g B (Nat.le_trans hB HB.out.size) (Aside0.mk (HG.out.kept (fun k hk => HB.out.block k (by omega)))) hsm.n40).mono ?_); rintro e w2_ ⟨m1, rfl, hm1, hgm1, hb⟩; refine ⟨_, rfl, ?_⟩; have HB0 := HB; have n0_ := Aside0.mk (below_step (by repeat (first | (with_reducible first | exact HB.out | apply below_alloc | apply pw_below_drewN | apply below_drew1 | refine below_set ?_ GE1.out) | exact HB.out)) hb); have n1_ := Aside0.mk (blk_below (g := g1) (o := .cells #[.slice g.rA g.rl g.rc, .slice g.nA g.nl g.nc] 25 (0, 0)) (by (with_reducible repeat (first | refine blk_drewN ?_ _ | refine blk_drew ?_ | refine blk_alloc ?_ _)); exact BK1.out) hb); clear HB; clear BK1; have HB := n0_; have BK1 := n1_; clear n0_ n1_; clear hb; have MP1 := Aside0.mk hm1; have GM1 := Aside0.mk (Nat.le_trans (below_size HB0.out) hgm1); clear hm1 hgm1))
  generalize hw_ : (w3_.setCell ⟨g3, 0, none⟩ (.map (some m1))) = w4_
  have n0_ := Aside0.mk (show Below w.heap.size w w4_ from by rw [← hw_]; exact (by repeat (first | (with_reducible first | exact HB.out | apply below_alloc | apply pw_below_drewN | apply below_drew1 | refine below_set ?_ GE1.out | refine below_set ?_ GE3.out) | exact HB.out)))
  have n1_ := Aside0.mk (show w4_.heap[g1]? = some (.cells #[.slice g.rA g.rl g.rc, .slice g.nA g.nl g.nc] 25 (0, 0)) from by rw [← hw_]; refine blk_far ?_ NE1_3.out _; exact BK1.out)
  have n2_ := Aside0.mk (show w4_.heap[g3]? = some (.cells #[.map (some m1)] 59 (0, 0)) from by rw [← hw_]; exact (by (with_reducible repeat (first | refine blk_drewN ?_ _ | refine blk_drew ?_ | refine blk_alloc ?_ _)); refine blk_put (cs := #[.map none]) ?_ 0 _ rfl; (with_reducible repeat (first | refine blk_drewN ?_ _ | refine blk_drew ?_ | refine blk_alloc ?_ _)); exact BK3.out))
  have n3_ := Aside0.mk (show (w4_).ownsMap Tryd.prog 3 nR m1 40 (MD g.NS) from by rw [← hw_]; refine owns_far ?_ NM1_3.out _; exact MP1.out)
  clear HB
  clear BK1
  clear BK3
  clear MP1
  have HB := n0_
  have BK1 := n1_
  have BK3 := n2_
  have MP1 := n3_
  clear n0_ n1_ n2_ n3_
  clear hw_
  go_upto_region 3 with ((with_reducible refine gate_dst (N := 4) rfl ?_); refine box_event ?hg (N := 4) ?hd (cs := #[.slice none 0 0]) (t := 22) ?hr ?_; (case hd => rfl); (case hg => rfl); (case hr => first | (go_simp; done) | (go_simp; rfl)); intro g4 hg w5_ hbox hb; have n0_ := Aside0.mk (below_step (by repeat (first | (with_reducible first | exact HB.out | apply below_alloc | apply pw_below_drewN | apply below_drew1 | refine below_set ?_ GE1.out | refine below_set ?_ GE3.out) | exact HB.out)) hb); have n1_ := Aside0.mk (blk_below (g := g1) (o := .cells #[.slice g.rA g.rl g.rc, .slice g.nA g.nl g.nc] 25 (0, 0)) (by (with_reducible repeat (first | refine blk_drewN ?_ _ | refine blk_drew ?_ | refine blk_alloc ?_ _)); exact BK1.out) hb); have n2_ := Aside0.mk (blk_below (g := g3) (o := .cells #[.map (some m1)] 59 (0, 0)) (by (with_reducible repeat (first | refine blk_drewN ?_ _ | refine blk_drew ?_ | refine blk_alloc ?_ _)); exact BK3.out) hb); have n3_ := Aside0.mk (owns_below (b := m1) (by (with_reducible repeat (first | refine owns_drewN ?_ _ | refine owns_drew ?_ | refine owns_alloc ?_ _)); exact MP1.out) hb); have n4_ := Aside0.mk hbox; have n5_ := Aside0.mk ((by rw [hg]; exact (below_size (by repeat (first | (with_reducible first | exact HB.out | apply below_alloc | apply pw_below_drewN | apply below_drew1 | refine below_set ?_ GE1.out | refine below_set ?_ GE3.out) | exact HB.out)))) : w.heap.size ≤ g4); have n6_ := Aside0.mk ((by rw [hg]; exact Nat.ne_of_lt (blk_lt (g := g1) (o := .cells #[.slice g.rA g.rl g.rc, .slice g.nA g.nl g.nc] 25 (0, 0)) (by (with_reducible repeat (first | refine blk_drewN ?_ _ | refine blk_drew ?_ | refine blk_alloc ?_ _)); exact BK1.out))) : g1 ≠ g4); have n7_ := Aside0.mk ((by rw [hg]; exact Nat.ne_of_lt (blk_lt (g := g3) (o := .cells #[.map (some m1)] 59 (0, 0)) (by (with_reducible repeat (first | refine blk_drewN ?_ _ | refine blk_drew ?_ | refine blk_alloc ?_ _)); exact BK3.out))) : g3 ≠ g4); have n8_ := Aside0.mk ((by rw [hg]; exact Nat.ne_of_lt (World.ownsMap.lt (b := m1) (by (with_reducible repeat (first | refine owns_drewN ?_ _ | refine owns_drew ?_ | refine owns_alloc ?_ _)); exact MP1.out))) : m1 ≠ g4); clear HB; clear BK1; clear BK3; clear MP1; have HB := n0_; have BK1 := n1_; have BK3 := n2_; have MP1 := n3_; have BK4 := n4_; have GE4 := n5_; have NE1_4 := n6_; have NE3_4 := n7_; have NM1_4 := n8_; clear n0_ n1_ n2_ n3_ n4_ n5_ n6_ n7_ n8_; clear hb hbox hg)
  go_wp2
  rw [run_makeMap]
  obtain ⟨w6_, hw_⟩ : ∃ x, x = w5_.alloc (.map #[] 0) := ⟨_, rfl⟩
  obtain ⟨m2, hm_⟩ : ∃ x, x = w5_.heap.size := ⟨_, rfl⟩
  rw [← hw_, ← hm_]
  have hb : Below w5_.heap.size w5_ w6_ := by rw [hw_]; exact below_alloc (Below.refl _ _) _
  have n0_ := Aside0.mk (below_step (by repeat (first | (with_reducible first | exact HB.out | apply below_alloc | apply pw_below_drewN | apply below_drew1 | refine below_set ?_ GE1.out | refine below_set ?_ GE3.out | refine below_set ?_ GE4.out) | exact HB.out)) hb)
  have n1_ := Aside0.mk (blk_below (g := g1) (o := .cells #[.slice g.rA g.rl g.rc, .slice g.nA g.nl g.nc] 25 (0, 0)) (by (with_reducible repeat (first | refine blk_drewN ?_ _ | refine blk_drew ?_ | refine blk_alloc ?_ _)); exact BK1.out) hb)
  have n2_ := Aside0.mk (blk_below (g := g3) (o := .cells #[.map (some m1)] 59 (0, 0)) (by (with_reducible repeat (first | refine blk_drewN ?_ _ | refine blk_drew ?_ | refine blk_alloc ?_ _)); exact BK3.out) hb)
  have n3_ := Aside0.mk (blk_below (g := g4) (o := .cells #[.slice none 0 0] 22 (0, 0)) (by (with_reducible repeat (first | refine blk_drewN ?_ _ | refine blk_drew ?_ | refine blk_alloc ?_ _)); exact BK4.out) hb)
  have n4_ := Aside0.mk (owns_below (b := m1) (by (with_reducible repeat (first | refine owns_drewN ?_ _ | refine owns_drew ?_ | refine owns_alloc ?_ _)); exact MP1.out) hb)
  have n5_ := Aside0.mk (show (w6_).ownsMap Tryd.prog 3 (plainElem (H := Value) Tryd.prog 4) m2 0 (.map []) from by rw [hw_, hm_]; exact World.ownsMap_made _ _ _ _)
  have GM2 := Aside0.mk (show w.heap.size ≤ m2 from by rw [hm_]; exact below_size HB.out)
  have NG1_2 := Aside0.mk (show g1 ≠ m2 from by rw [hm_]; exact Nat.ne_of_lt (blk_lt BK1.out))
  have NG3_2 := Aside0.mk (show g3 ≠ m2 from by rw [hm_]; exact Nat.ne_of_lt (blk_lt BK3.out))
  have NG4_2 := Aside0.mk (show g4 ≠ m2 from by rw [hm_]; exact Nat.ne_of_lt (blk_lt BK4.out))
  have NMM1_2 := Aside0.mk (show m1 ≠ m2 from by rw [hm_]; exact Nat.ne_of_lt (World.ownsMap.lt MP1.out))
  clear HB
  clear BK1
  clear BK3
  clear BK4
  clear MP1
  have HB := n0_
  have BK1 := n1_
  have BK3 := n2_
  have BK4 := n3_
  have MP1 := n4_
  have MP2 := n5_
  clear n0_ n1_ n2_ n3_ n4_ n5_
  clear hb hw_ hm_
  go_upto_region 4 with ((with_reducible refine gate_dst (N := 5) rfl ?_); refine box_event ?hg (N := 5) ?hd (cs := #[.map none]) (t := 71) ?hr ?_; (case hd => rfl); (case hg => rfl); (case hr => first | (go_simp; done) | (go_simp; rfl)); intro g5 hg w7_ hbox hb; have n0_ := Aside0.mk (below_step (by repeat (first | (with_reducible first | exact HB.out | apply below_alloc | apply pw_below_drewN | apply below_drew1 | refine below_set ?_ GE1.out | refine below_set ?_ GE3.out | refine below_set ?_ GE4.out) | exact HB.out)) hb); have n1_ := Aside0.mk (blk_below (g := g1) (o := .cells #[.slice g.rA g.rl g.rc, .slice g.nA g.nl g.nc] 25 (0, 0)) (by (with_reducible repeat (first | refine blk_drewN ?_ _ | refine blk_drew ?_ | refine blk_alloc ?_ _)); exact BK1.out) hb); have n2_ := Aside0.mk (blk_below (g := g3) (o := .cells #[.map (some m1)] 59 (0, 0)) (by (with_reducible repeat (first | refine blk_drewN ?_ _ | refine blk_drew ?_ | refine blk_alloc ?_ _)); exact BK3.out) hb); have n3_ := Aside0.mk (blk_below (g := g4) (o := .cells #[.slice none 0 0] 22 (0, 0)) (by (with_reducible repeat (first | refine blk_drewN ?_ _ | refine blk_drew ?_ | refine blk_alloc ?_ _)); exact BK4.out) hb); have n4_ := Aside0.mk (owns_below (b := m1) (by (with_reducible repeat (first | refine owns_drewN ?_ _ | refine owns_drew ?_ | refine owns_alloc ?_ _)); exact MP1.out) hb); have n5_ := Aside0.mk (owns_below (b := m2) (by (with_reducible repeat (first | refine owns_drewN ?_ _ | refine owns_drew ?_ | refine owns_alloc ?_ _)); exact MP2.out) hb); have n6_ := Aside0.mk hbox; have n7_ := Aside0.mk ((by rw [hg]; exact (below_size (by repeat (first | (with_reducible first | exact HB.out | apply below_alloc | apply pw_below_drewN | apply below_drew1 | refine below_set ?_ GE1.out | refine below_set ?_ GE3.out | refine below_set ?_ GE4.out) | exact HB.out)))) : w.heap.size ≤ g5); have n8_ := Aside0.mk ((by rw [hg]; exact Nat.ne_of_lt (blk_lt (g := g1) (o := .cells #[.slice g.rA g.rl g.rc, .slice g.nA g.nl g.nc] 25 (0, 0)) (by (with_reducible repeat (first | refine blk_drewN ?_ _ | refine blk_drew ?_ | refine blk_alloc ?_ _)); exact BK1.out))) : g1 ≠ g5); have n9_ := Aside0.mk ((by rw [hg]; exact Nat.ne_of_lt (blk_lt (g := g3) (o := .cells #[.map (some m1)] 59 (0, 0)) (by (with_reducible repeat (first | refine blk_drewN ?_ _ | refine blk_drew ?_ | refine blk_alloc ?_ _)); exact BK3.out))) : g3 ≠ g5); have n10_ := Aside0.mk ((by rw [hg]; exact Nat.ne_of_lt (blk_lt (g := g4) (o := .cells #[.slice none 0 0] 22 (0, 0)) (by (with_reducible repeat (first | refine blk_drewN ?_ _ | refine blk_drew ?_ | refine blk_alloc ?_ _)); exact BK4.out))) : g4 ≠ g5); have n11_ := Aside0.mk ((by rw [hg]; exact Nat.ne_of_lt (World.ownsMap.lt (b := m1) (by (with_reducible repeat (first | refine owns_drewN ?_ _ | refine owns_drew ?_ | refine owns_alloc ?_ _)); exact MP1.out))) : m1 ≠ g5); have n12_ := Aside0.mk ((by rw [hg]; exact Nat.ne_of_lt (World.ownsMap.lt (b := m2) (by (with_reducible repeat (first | refine owns_drewN ?_ _ | refine owns_drew ?_ | refine owns_alloc ?_ _)); exact MP2.out))) : m2 ≠ g5); clear HB; clear BK1; clear BK3; clear BK4; clear MP1; clear MP2; have HB := n0_; have BK1 := n1_; have BK3 := n2_; have BK4 := n3_; have MP1 := n4_; have MP2 := n5_; have BK5 := n6_; have GE5 := n7_; have NE1_5 := n8_; have NE3_5 := n9_; have NE4_5 := n10_; have NM1_5 := n11_; have NM2_5 := n12_; clear n0_ n1_ n2_ n3_ n4_ n5_ n6_ n7_ n8_ n9_ n10_ n11_ n12_; clear hb hbox hg; have hc5_0 : w7_.cell? ⟨g5, 0, none⟩ = some (.map none) := (blk_cell BK5.out 0).trans rfl; have hf5_0 := blk_frozen BK5.out 0)
  generalize hw_ : (w7_.setCell ⟨g5, 0, none⟩ (.map (some m2))) = w8_
  have n0_ := Aside0.mk (show Below w.heap.size w w8_ from by rw [← hw_]; exact (by repeat (first | (with_reducible first | exact HB.out | apply below_alloc | apply pw_below_drewN | apply below_drew1 | refine below_set ?_ GE1.out | refine below_set ?_ GE3.out | refine below_set ?_ GE4.out | refine below_set ?_ GE5.out) | exact HB.out)))
  have n1_ := Aside0.mk (show w8_.heap[g1]? = some (.cells #[.slice g.rA g.rl g.rc, .slice g.nA g.nl g.nc] 25 (0, 0)) from by rw [← hw_]; refine blk_far ?_ NE1_5.out _; exact BK1.out)
  have n2_ := Aside0.mk (show w8_.heap[g3]? = some (.cells #[.map (some m1)] 59 (0, 0)) from by rw [← hw_]; refine blk_far ?_ NE3_5.out _; exact BK3.out)
  have n3_ := Aside0.mk (show w8_.heap[g4]? = some (.cells #[.slice none 0 0] 22 (0, 0)) from by rw [← hw_]; refine blk_far ?_ NE4_5.out _; exact BK4.out)
  have n4_ := Aside0.mk (show w8_.heap[g5]? = some (.cells #[.map (some m2)] 71 (0, 0)) from by rw [← hw_]; exact (by (with_reducible repeat (first | refine blk_drewN ?_ _ | refine blk_drew ?_ | refine blk_alloc ?_ _)); refine blk_put (cs := #[.map none]) ?_ 0 _ rfl; (with_reducible repeat (first | refine blk_drewN ?_ _ | refine blk_drew ?_ | refine blk_alloc ?_ _)); exact BK5.out))
  have n5_ := Aside0.mk (show (w8_).ownsMap Tryd.prog 3 nR m1 40 (MD g.NS) from by rw [← hw_]; refine owns_far ?_ NM1_5.out _; exact MP1.out)
  have n6_ := Aside0.mk (show (w8_).ownsMap Tryd.prog 3 (plainElem (H := Value) Tryd.prog 4) m2 0 (.map []) from by rw [← hw_]; refine owns_far ?_ NM2_5.out _; exact MP2.out)
  clear HB
  clear BK1
  clear BK3
  clear BK4
  clear BK5
  clear MP1
  clear MP2
  have HB := n0_
  have BK1 := n1_
  have BK3 := n2_
  have BK4 := n3_
  have BK5 := n4_
  have MP1 := n5_
  have MP2 := n6_
  clear n0_ n1_ n2_ n3_ n4_ n5_ n6_
  clear hw_
  go_upto_region 5 with ((with_reducible refine gate_dst (N := 6) rfl ?_); refine box_event ?hg (N := 6) ?hd (cs := #[.nilFunc]) (t := 61) ?hr ?_; (case hd => rfl); (case hg => rfl); (case hr => first | (go_simp; done) | (go_simp; rfl)); intro g6 hg w9_ hbox hb; have n0_ := Aside0.mk (below_step (by repeat (first | (with_reducible first | exact HB.out | apply below_alloc | apply pw_below_drewN | apply below_drew1 | refine below_set ?_ GE1.out | refine below_set ?_ GE3.out | refine below_set ?_ GE4.out | refine below_set ?_ GE5.out) | exact HB.out)) hb); have n1_ := Aside0.mk (blk_below (g := g1) (o := .cells #[.slice g.rA g.rl g.rc, .slice g.nA g.nl g.nc] 25 (0, 0)) (by (with_reducible repeat (first | refine blk_drewN ?_ _ | refine blk_drew ?_ | refine blk_alloc ?_ _)); exact BK1.out) hb); have n2_ := Aside0.mk (blk_below (g := g3) (o := .cells #[.map (some m1)] 59 (0, 0)) (by (with_reducible repeat (first | refine blk_drewN ?_ _ | refine blk_drew ?_ | refine blk_alloc ?_ _)); exact BK3.out) hb); have n3_ := Aside0.mk (blk_below (g := g4) (o := .cells #[.slice none 0 0] 22 (0, 0)) (by (with_reducible repeat (first | refine blk_drewN ?_ _ | refine blk_drew ?_ | refine blk_alloc ?_ _)); exact BK4.out) hb); have n4_ := Aside0.mk (blk_below (g := g5) (o := .cells #[.map (some m2)] 71 (0, 0)) (by (with_reducible repeat (first | refine blk_drewN ?_ _ | refine blk_drew ?_ | refine blk_alloc ?_ _)); exact BK5.out) hb); have n5_ := Aside0.mk (owns_below (b := m1) (by (with_reducible repeat (first | refine owns_drewN ?_ _ | refine owns_drew ?_ | refine owns_alloc ?_ _)); exact MP1.out) hb); have n6_ := Aside0.mk (owns_below (b := m2) (by (with_reducible repeat (first | refine owns_drewN ?_ _ | refine owns_drew ?_ | refine owns_alloc ?_ _)); exact MP2.out) hb); have n7_ := Aside0.mk hbox; have n8_ := Aside0.mk ((by rw [hg]; exact (below_size (by repeat (first | (with_reducible first | exact HB.out | apply below_alloc | apply pw_below_drewN | apply below_drew1 | refine below_set ?_ GE1.out | refine below_set ?_ GE3.out | refine below_set ?_ GE4.out | refine below_set ?_ GE5.out) | exact HB.out)))) : w.heap.size ≤ g6); have n9_ := Aside0.mk ((by rw [hg]; exact Nat.ne_of_lt (blk_lt (g := g1) (o := .cells #[.slice g.rA g.rl g.rc, .slice g.nA g.nl g.nc] 25 (0, 0)) (by (with_reducible repeat (first | refine blk_drewN ?_ _ | refine blk_drew ?_ | refine blk_alloc ?_ _)); exact BK1.out))) : g1 ≠ g6); have n10_ := Aside0.mk ((by rw [hg]; exact Nat.ne_of_lt (blk_lt (g := g3) (o := .cells #[.map (some m1)] 59 (0, 0)) (by (with_reducible repeat (first | refine blk_drewN ?_ _ | refine blk_drew ?_ | refine blk_alloc ?_ _)); exact BK3.out))) : g3 ≠ g6); have n11_ := Aside0.mk ((by rw [hg]; exact Nat.ne_of_lt (blk_lt (g := g4) (o := .cells #[.slice none 0 0] 22 (0, 0)) (by (with_reducible repeat (first | refine blk_drewN ?_ _ | refine blk_drew ?_ | refine blk_alloc ?_ _)); exact BK4.out))) : g4 ≠ g6); have n12_ := Aside0.mk ((by rw [hg]; exact Nat.ne_of_lt (blk_lt (g := g5) (o := .cells #[.map (some m2)] 71 (0, 0)) (by (with_reducible repeat (first | refine blk_drewN ?_ _ | refine blk_drew ?_ | refine blk_alloc ?_ _)); exact BK5.out))) : g5 ≠ g6); have n13_ := Aside0.mk ((by rw [hg]; exact Nat.ne_of_lt (World.ownsMap.lt (b := m1) (by (with_reducible repeat (first | refine owns_drewN ?_ _ | refine owns_drew ?_ | refine owns_alloc ?_ _)); exact MP1.out))) : m1 ≠ g6); have n14_ := Aside0.mk ((by rw [hg]; exact Nat.ne_of_lt (World.ownsMap.lt (b := m2) (by (with_reducible repeat (first | refine owns_drewN ?_ _ | refine owns_drew ?_ | refine owns_alloc ?_ _)); exact MP2.out))) : m2 ≠ g6); clear HB; clear BK1; clear BK3; clear BK4; clear BK5; clear MP1; clear MP2; have HB := n0_; have BK1 := n1_; have BK3 := n2_; have BK4 := n3_; have BK5 := n4_; have MP1 := n5_; have MP2 := n6_; have BK6 := n7_; have GE6 := n8_; have NE1_6 := n9_; have NE3_6 := n10_; have NE4_6 := n11_; have NE5_6 := n12_; have NM1_6 := n13_; have NM2_6 := n14_; clear n0_ n1_ n2_ n3_ n4_ n5_ n6_ n7_ n8_ n9_ n10_ n11_ n12_ n13_ n14_; clear hb hbox hg; have hc6_0 : w9_.cell? ⟨g6, 0, none⟩ = some (.nilFunc) := (blk_cell BK6.out 0).trans rfl; have hf6_0 := blk_frozen BK6.out 0)
  go_upto_region 6 with fail
  generalize hw_ : (w9_.setCell ⟨g6, 0, none⟩ (.func (.func 33) #[] #[.pointer (some ⟨g3, 0, none⟩), .pointer (some ⟨g5, 0, none⟩), .pointer (some ⟨g4, 0, none⟩), .pointer (some ⟨g6, 0, none⟩)])) = w10_
  have n0_ := Aside0.mk (show Below w.heap.size w w10_ from by rw [← hw_]; exact (by repeat (first | (with_reducible first | exact HB.out | apply below_alloc | apply pw_below_drewN | apply below_drew1 | refine below_set ?_ GE1.out | refine below_set ?_ GE3.out | refine below_set ?_ GE4.out | refine below_set ?_ GE5.out | refine below_set ?_ GE6.out) | exact HB.out)))
  have n1_ := Aside0.mk (show w10_.heap[g1]? = some (.cells #[.slice g.rA g.rl g.rc, .slice g.nA g.nl g.nc] 25 (0, 0)) from by rw [← hw_]; refine blk_far ?_ NE1_6.out _; exact BK1.out)
  have n2_ := Aside0.mk (show w10_.heap[g3]? = some (.cells #[.map (some m1)] 59 (0, 0)) from by rw [← hw_]; refine blk_far ?_ NE3_6.out _; exact BK3.out)
  have n3_ := Aside0.mk (show w10_.heap[g4]? = some (.cells #[.slice none 0 0] 22 (0, 0)) from by rw [← hw_]; refine blk_far ?_ NE4_6.out _; exact BK4.out)
  have n4_ := Aside0.mk (show w10_.heap[g5]? = some (.cells #[.map (some m2)] 71 (0, 0)) from by rw [← hw_]; refine blk_far ?_ NE5_6.out _; exact BK5.out)
  have n5_ := Aside0.mk (show w10_.heap[g6]? = some (.cells #[.func (.func 33) #[] #[.pointer (some ⟨g3, 0, none⟩), .pointer (some ⟨g5, 0, none⟩), .pointer (some ⟨g4, 0, none⟩), .pointer (some ⟨g6, 0, none⟩)]] 61 (0, 0)) from by rw [← hw_]; exact (by (with_reducible repeat (first | refine blk_drewN ?_ _ | refine blk_drew ?_ | refine blk_alloc ?_ _)); refine blk_put (cs := #[.nilFunc]) ?_ 0 _ rfl; (with_reducible repeat (first | refine blk_drewN ?_ _ | refine blk_drew ?_ | refine blk_alloc ?_ _)); exact BK6.out))
  have n6_ := Aside0.mk (show (w10_).ownsMap Tryd.prog 3 nR m1 40 (MD g.NS) from by rw [← hw_]; refine owns_far ?_ NM1_6.out _; exact MP1.out)
  have n7_ := Aside0.mk (show (w10_).ownsMap Tryd.prog 3 (plainElem (H := Value) Tryd.prog 4) m2 0 (.map []) from by rw [← hw_]; refine owns_far ?_ NM2_6.out _; exact MP2.out)
  clear HB
  clear BK1
  clear BK3
  clear BK4
  clear BK5
  clear BK6
  clear MP1
  clear MP2
  have HB := n0_
  have BK1 := n1_
  have BK3 := n2_
  have BK4 := n3_
  have BK5 := n4_
  have BK6 := n5_
  have MP1 := n6_
  have MP2 := n7_
  clear n0_ n1_ n2_ n3_ n4_ n5_ n6_ n7_
  clear hw_
  have hc1_0 : w10_.cell? ⟨g1, 0, none⟩ = some (.slice g.rA g.rl g.rc) := (blk_cell BK1.out 0).trans rfl
  have hf1_0 := blk_frozen BK1.out 0
  have hc1_1 : w10_.cell? ⟨g1, 1, none⟩ = some (.slice g.nA g.nl g.nc) := (blk_cell BK1.out 1).trans rfl
  have hf1_1 := blk_frozen BK1.out 1
  have hc6_0 : w10_.cell? ⟨g6, 0, none⟩ = some (.func (.func 33) #[] #[.pointer (some ⟨g3, 0, none⟩), .pointer (some ⟨g5, 0, none⟩), .pointer (some ⟨g4, 0, none⟩), .pointer (some ⟨g6, 0, none⟩)]) := (blk_cell BK6.out 0).trans rfl
  have hf6_0 := blk_frozen BK6.out 0
  have HS := Aside0.mk (show VS w10_ ⟨w.heap.size, B, g3, g4, g5, g6, m1, m2⟩ g [] [] from ⟨BK3.out, MP1.out, BK5.out, MP2.out, ⟨_, BK4.out, World.ownsRow_nil _ _ _ _⟩, BK6.out, HG.out.kept (fun k hk => HB.out.block k (by omega)), ⟨GE3.out, GE4.out, GE5.out, GE6.out, GM1.out, GM2.out, hB, HB.out.size⟩, NMM1_2.out⟩)
  go_wp2_with (go_at_call 33; refine (visit_calls ⟨w.heap.size, B, g3, g4, g5, g6, m1, m2⟩ g hsm.sz (by rw [hl]; exact hsm.n40) (g.NS.length + 1) w10_ [] g.R g.rA g.rl g.rc HS (Aside0.mk (HG.out.rts.kept (fun k hk => HB.out.block k (by omega)))) (by have := hsm.r40; omega) (Aside0.mk HG.out.rok) (Aside0.mk (by have := left_le g.NS []; omega)) (Aside0.mk (by have := left_le g.NS []; simpa using this))).mono ?_; rintro e w20 ⟨⟨v14, rfl⟩, hs7, hb7⟩; obtain ⟨v, hv1, hv2⟩ := hs7.out; have hc4 : w20.cell? ⟨g4, 0, none⟩ = some v := (blk_cell hv1 0).trans rfl; have HV2 := Aside0.mk hv2; have HB7 := Aside0.mk (HB.out.trans hb7); clear hv1 hv2 hs7 hb7)
  go_ret
  exact ⟨v, rfl, HV2.out, HB7.out⟩
end Go.Proofs.YtacjlkjdmhlbaaaDoor.Gr
/- Parts of graph's walk (after my own texts for another seat: Gr8). What each says stands at its head. -/
namespace Go.Proofs.YtacjlkjdmhlbaaaDoor.Gr
open Go.RowKit Go.Shelf Go.Maps Go.ChangeMaps Go.MapKept Go.Proofs.YtacjlkjdmhlbaaaDoorW.PrintWords Go.Proofs.YtacjlkjdmhlbaaaDoorW.PrintLast Go.Proofs.YtacjlkjdmhlbaaaDoorW.PrintMore
set_option linter.unusedSimpArgs false
set_option linter.unusedVariables false
attribute [local go_sem] Oper.semAt_some
theorem look_val {W : World} {b n : Nat} {L : List Nd} (h : W.ownsMap Tryd.prog 3 nR b n (MD L)) {x : Int} (hk : (Lit.int .i64 x).wf = true) {k : Nd} (hf : find L x = some k) : (Instr.lookup 59 (.map (some b)) (.int .i64 x) false).run Tryd.prog W = .ok (.agg #[.int .i64 k.adr, .int .i64 k.refs, .int .i64 k.sl, .int .i64 k.words, .slice k.A k.m k.c, .slice k.B k.n k.d]) W := by
  obtain ⟨v, hrun, hv⟩ := look_plain h hk
  rw [MD_at, hf] at hv
  have e := held_inj hv
  subst e
  exact hrun
end Go.Proofs.YtacjlkjdmhlbaaaDoor.Gr
/- Parts of graph's walk (after my own texts for another seat: Gr11). What each says stands at its head. -/
namespace Go.Proofs.YtacjlkjdmhlbaaaDoor.Gr
open Go.RowKit Go.Shelf Go.Maps Go.ChangeMaps Go.MapKept Go.Proofs.YtacjlkjdmhlbaaaDoorW.PrintWords Go.Proofs.YtacjlkjdmhlbaaaDoorW.PrintLast Go.Proofs.YtacjlkjdmhlbaaaDoorW.PrintMore
set_option linter.unusedSimpArgs false
set_option linter.unusedVariables false
abbrev Ch.cells (c : Ch) : List Value := [.int .i64 c.k, .int .i64 c.a, .int .i64 c.i, .int .u64 c.was, .int .u64 c.is]
variable {P : Program} {ops : Array Oper} {Q : Exit → Act → World → Prop}
end Go.Proofs.YtacjlkjdmhlbaaaDoor.Gr
/- Parts of graph's walk (after my own texts for another seat: Gr13). What each says stands at its head. -/
namespace Go.Proofs.YtacjlkjdmhlbaaaDoor.Gr
open Go.RowKit Go.Shelf Go.Maps Go.ChangeMaps Go.MapKept Go.Proofs.YtacjlkjdmhlbaaaDoorW.PrintWords Go.Proofs.YtacjlkjdmhlbaaaDoorW.PrintLast Go.Proofs.YtacjlkjdmhlbaaaDoorW.PrintMore
set_option linter.unusedSimpArgs false
set_option linter.unusedVariables false
/-- What a round keeps: the arguments' memory; every block of cells, and every map, but for the body's own box and the row that it owns. -/
def KpC (B Bo : Nat) (W W' : World) : Prop := (∀ k, k < B → W'.heap[k]? = W.heap[k]?) ∧ ∀ v, W.heap[Bo]? = some (.cells #[v] 26 (0, 0)) → ∃ v', W'.heap[Bo]? = some (.cells #[v'] 26 (0, 0)) ∧ (v'.ownBlock = v.ownBlock ∨ ∃ k, v'.ownBlock = some k ∧ W.heap.size ≤ k) ∧ (∀ k, v'.ownBlock = some k → (v.ownBlock = some k ∨ k < W'.heap.size)) ∧ W.heap.size ≤ W'.heap.size ∧
  ∀ k o, W.heap[k]? = some o → o.isCells = true ∨ o.isWalk = true → k ≠ Bo → v.ownBlock ≠ some k → W'.heap[k]? = some o
theorem KpC.t {B Bo : Nat} {X Y Z : World} (h : KpC B Bo X Y) (k : KpC B Bo Y Z) : KpC B Bo X Z := by
  refine ⟨fun q hq => (k.1 q hq).trans (h.1 q hq), fun v hv => ?_⟩
  obtain ⟨v1, a1, a2, a3, a4, a5⟩ := h.2 v hv
  obtain ⟨v2, b1, b2, b3, b4, b5⟩ := k.2 v1 a1
  refine ⟨v2, b1, ?_, ?_, by omega, fun q o hq ho hne hv' => ?_⟩
  · rcases b2 with e | ⟨q, e, hq⟩
    · rw [e]
      exact a2
    · exact Or.inr ⟨q, e, by omega⟩
  · intro q hq
    rcases b3 q hq with e | e
    · rcases a3 q e with e' | e'
      · exact Or.inl e'
      · exact Or.inr (by omega)
    · exact Or.inr e
  · have hql : q < X.heap.size := (Array.getElem?_eq_some_iff.1 hq).1
    refine b5 q o (a5 q o hq ho hne hv') ho hne ?_
    rcases a2 with e | ⟨r, e, hr⟩
    · rw [e]; exact hv'
    · rw [e]
      intro e'
      have := Option.some.inj e'
      omega
theorem KpC.b {B Bo n : Nat} (hB : B ≤ n) (W : World) (l : Nat) (o o' : Obj) (hl : n ≤ l) (h : W.heap[l]? = some o) (ho : o.isCells = false) (hw : o.isWalk = false) : KpC B Bo W (W.putObj l o') := by
  refine ⟨fun k hk => World.putObj_heap_other (by omega), fun v hv => ⟨v, (World.putObj_heap_other (fun e => ?_)).trans hv, Or.inl rfl, fun k hk => Or.inl hk, (grownBy_putObj' W l o').size, fun k q hq hcw hne hv' => (World.putObj_heap_other (fun e => ?_)).trans hq⟩⟩
  · subst e
    rw [h] at hv
    cases hv
    cases ho
  · subst e
    rw [h] at hq
    cases hq
    rcases hcw with e | e
    · rw [ho] at e; cases e
    · rw [hw] at e; cases e
/-- The iterator's own things. -/
structure Cx where
  (X B Bo m1 m2 : Nat)
  aK : Option Addr
  cK : Nat
structure CS (W : World) (q : Cx) (a b : Gd) (K : List Int) (v : Value) : Prop where
  o1 : W.ownsMap Tryd.prog 3 nR q.m1 40 (OD a.NS (walkR a.NS a.R))
  o2 : W.ownsMap Tryd.prog 3 nR q.m2 40 (OD b.NS (walkR b.NS b.R))
  row : W.ownsRow q.X 3 1 (.slice q.aK K.length q.cK) K.length (K.map (Value.int .i64))
  ga : GM W q.B a
  gb : GM W q.B b
  box : W.heap[q.Bo]? = some (.cells #[v] 26 (0, 0))
  own : ∀ k, v.ownBlock = some k → k < W.heap.size ∧ k ≠ q.m1 ∧ k ≠ q.m2 ∧ (Value.slice q.aK K.length q.cK).ownBlock ≠ some k
  hB : q.B ≤ W.heap.size
theorem CS.below {W W' : World} {q : Cx} {a b : Gd} {K : List Int} {v : Value} (h : CS W q a b K v) (hb : Below W.heap.size W W') : CS W' q a b K v :=
  ⟨owns_below h.o1 hb, owns_below h.o2 hb, Di.row_below h.row hb, h.ga.kept fun k hk => hb.block k (by have := h.hB; omega), h.gb.kept fun k hk => hb.block k (by have := h.hB; omega), blk_below h.box hb, fun k hk => ⟨Nat.lt_of_lt_of_le (h.own k hk).1 hb.size, (h.own k hk).2⟩, Nat.le_trans h.hB hb.size⟩
end Go.Proofs.YtacjlkjdmhlbaaaDoor.Gr
/- Parts of graph's walk (after my own texts for another seat: Gr15). What each says stands at its head. -/
namespace Go.Proofs.YtacjlkjdmhlbaaaDoor.Gr
open Go.RowKit Go.Shelf Go.Maps Go.ChangeMaps Go.MapKept Go.Proofs.YtacjlkjdmhlbaaaDoorW.PrintWords Go.Proofs.YtacjlkjdmhlbaaaDoorW.PrintLast Go.Proofs.YtacjlkjdmhlbaaaDoorW.PrintMore
set_option linter.unusedSimpArgs false
set_option linter.unusedVariables false
attribute [local go_sem] Oper.semAt_some
theorem KpC.alloc {B Bo : Nat} (W : World) (o : Obj) (hB : B ≤ W.heap.size) : KpC B Bo W (W.alloc o) :=
  ⟨fun k hk => Below.heap_alloc W o k (by omega), fun v hv => ⟨v, blk_alloc hv o, Or.inl rfl, fun k hk => Or.inl hk, by rw [World.size_alloc]; omega, fun k q hk _ _ _ => blk_alloc hk o⟩⟩
end Go.Proofs.YtacjlkjdmhlbaaaDoor.Gr
/- Parts of graph's walk (after my own texts for another seat: Gr17). What each says stands at its head. -/
namespace Go.Proofs.YtacjlkjdmhlbaaaDoor.Gr
open Go.RowKit Go.Shelf Go.Maps Go.ChangeMaps Go.MapKept Go.Proofs.YtacjlkjdmhlbaaaDoorW.PrintWords Go.Proofs.YtacjlkjdmhlbaaaDoorW.PrintLast Go.Proofs.YtacjlkjdmhlbaaaDoorW.PrintMore
set_option linter.unusedSimpArgs false
set_option linter.unusedVariables false
set_option maxHeartbeats 8000000 in
set_option maxRecDepth 100000 in
theorem great_calls (w : World) (B : Nat) (hB : B ≤ w.heap.size) (rA nA : Option Addr) (rl rc nl nc : Nat) (NS : List Nd) (HN : Aside0 (NL w B nA nl NS)) (hnl : nl ≤ 9223372036854775807) : Calls Tryd.prog 5 #[.agg #[.slice rA rl rc, .slice nA nl nc]] w (fun (e : Ending) (W' : World) => ∃ b : Bool, e = .returned (.bool b) ∧ (b = false ↔ nl ≤ 40 ∧ rl ≤ 40 ∧ ∀ i, i < nl → (NS.getD i default).m ≤ 300 ∧ (NS.getD i default).n ≤ 300) ∧ Below w.heap.size w W') := by
  have HB := Aside0.mk (Below.refl w.heap.size w)
  go_enter Tryd.func5, Tryd.ntmps5
  go_upto_region 1 with ((with_reducible refine gate_dst (N := 1) rfl ?_); refine box_event ?hg (N := 1) ?hd (cs := #[.slice rA rl rc, .slice nA nl nc]) (t := 25) ?hr ?_; (case hd => rfl); (case hg => rfl); (case hr => first | (go_simp; done) | (go_simp; rfl)); intro g1 hg w1_ hbox hb; have n0_ := Aside0.mk (below_step (by repeat (first | (with_reducible first | exact HB.out | apply below_alloc | apply pw_below_drewN | apply below_drew1) | exact HB.out)) hb); have n1_ := Aside0.mk hbox; have n2_ := Aside0.mk ((by rw [hg]; exact (below_size (by repeat (first | (with_reducible first | exact HB.out | apply below_alloc | apply pw_below_drewN | apply below_drew1) | exact HB.out)))) : w.heap.size ≤ g1); clear HB; have HB := n0_; have BK1 := n1_; have GE1 := n2_; clear n0_ n1_ n2_; clear hb hbox hg)
  go_upto_region 2 with fail
  go_loopw [3] (fun v wr => ∃ i : Nat, i ≤ nl ∧ v = .int .i64 (i : Int) ∧ Aside0 (∀ j, j < i → (NS.getD j default).m ≤ 300 ∧ (NS.getD j default).n ≤ 300) ∧ Aside0 (Below w.heap.size w wr) ∧ Aside0 (wr.heap[g1]? = some (.cells #[.slice rA rl rc, .slice nA nl nc] 25 (0, 0)))) (fun v _ => nl - (intOf v).toNat)
  case atStart => exact ⟨0, by omega, rfl, Aside0.mk (fun j hj => absurd hj (by omega)), HB, BK1⟩
  case round =>
    clear HB BK1
    obtain ⟨i, hi_, rfl, SZ, HB, BK1⟩ := hrel
    have hc1_0 : wr.cell? ⟨g1, 0, none⟩ = some (.slice rA rl rc) := (blk_cell BK1.out 0).trans rfl
    have hc1_1 : wr.cell? ⟨g1, 1, none⟩ = some (.slice nA nl nc) := (blk_cell BK1.out 1).trans rfl
    by_cases hgo : i < nl
    · have hd : decide ((i : Int) < (nl : Int)) = true := decide_eq_true (by omega)
      obtain ⟨y, e, hy, h0, h1, h2, h3, h4, h5⟩ := (HN.out.kept (fun k hk => HB.out.block k (by omega)) : NL wr B nA nl NS).2 i hgo
      subst e
      have hS := SZ.out
      obtain ⟨q, hq⟩ : ∃ q, q = NS.getD i default := ⟨_, rfl⟩
      rw [← hq] at h0 h1 h2 h3 h4 h5
      have HQ := Aside0.mk hq
      have hz4 : wr.cell? ⟨(y.add (i * 6)).block, (y.add (i * 6)).off + 4, none⟩ = some (.slice q.A q.m q.c) := h4
      have hz5 : wr.cell? ⟨(y.add (i * 6)).block, (y.add (i * 6)).off + 5, none⟩ = some (.slice q.B q.n q.d) := h5
      clear h4 h5
      clear hq h0 h1 h2 h3 hS
      have hi0 : (0 : Int) ≤ (i : Int) := by omega
      have hi1 : (i : Int) < (nl : Int) := by omega
      by_cases hm : 300 < q.m
      · have hdm : decide ((q.m : Int) > 300) = true := decide_eq_true (by omega)
        have hdm' : decide ((300 : Int) < (q.m : Int)) = true := decide_eq_true (by omega)
        go_wp2
        go_ret
        exact ⟨true, rfl, ⟨fun h => absurd h (by decide), fun h => absurd (h.2.2 i hgo) (by rw [← HQ.out]; omega)⟩, HB.out⟩
      · have hdm : decide ((q.m : Int) > 300) = false := decide_eq_false (by omega)
        have hdm' : decide ((300 : Int) < (q.m : Int)) = false := decide_eq_false (by omega)
        by_cases hn : 300 < q.n
        · have hdn : decide ((q.n : Int) > 300) = true := decide_eq_true (by omega)
          have hdn' : decide ((300 : Int) < (q.n : Int)) = true := decide_eq_true (by omega)
          go_wp2
          go_ret
          exact ⟨true, rfl, ⟨fun h => absurd h (by decide), fun h => absurd (h.2.2 i hgo) (by rw [← HQ.out]; omega)⟩, HB.out⟩
        · have hdn : decide ((q.n : Int) > 300) = false := decide_eq_false (by omega)
          have hdn' : decide ((300 : Int) < (q.n : Int)) = false := decide_eq_false (by omega)
          have hwr : wrap64 ((i : Int) + 1) = ((i + 1 : Nat) : Int) := by unfold wrap64; omega
          go_wp2
          go_roundw
          case measure => (try rw [hwr]); simp [intOf]; omega
          case rel => exact ⟨i + 1, by omega, by first | rfl | rw [hwr], Aside0.mk (fun j hj => by rcases Nat.lt_succ_iff_lt_or_eq.1 hj with h | rfl; exact SZ.out j h; rw [← HQ.out]; omega), HB, BK1⟩
    · have hd : decide ((i : Int) < (nl : Int)) = false := decide_eq_false (by omega)
      have hin : i = nl := by omega
      by_cases hm : 40 < nl
      · have hdm : decide ((nl : Int) > 40) = true := decide_eq_true (by omega)
        have hdm' : decide ((40 : Int) < (nl : Int)) = true := decide_eq_true (by omega)
        go_wp2
        go_ret
        exact ⟨true, rfl, ⟨fun h => absurd h (by decide), fun h => by omega⟩, HB.out⟩
      · have hdm : decide ((nl : Int) > 40) = false := decide_eq_false (by omega)
        have hdm' : decide ((40 : Int) < (nl : Int)) = false := decide_eq_false (by omega)
        by_cases hn : 40 < rl
        · have hdn : decide ((rl : Int) > 40) = true := decide_eq_true (by omega)
          have hdn' : decide ((40 : Int) < (rl : Int)) = true := decide_eq_true (by omega)
          go_wp2
          go_ret
          exact ⟨true, rfl, ⟨fun h => absurd h (by decide), fun h => by omega⟩, HB.out⟩
        · have hdn : decide ((rl : Int) > 40) = false := decide_eq_false (by omega)
          have hdn' : decide ((40 : Int) < (rl : Int)) = false := decide_eq_false (by omega)
          go_wp2
          go_ret
          exact ⟨false, rfl, ⟨fun _ => ⟨by omega, by omega, fun j hj => SZ.out j (by omega)⟩, fun _ => rfl⟩, HB.out⟩
theorem great_iff {W : World} {B : Nat} {g : Gd} (HG : Aside0 (GM W B g)) : (g.nl ≤ 40 ∧ g.rl ≤ 40 ∧ ∀ i, i < g.nl → (g.NS.getD i default).m ≤ 300 ∧ (g.NS.getD i default).n ≤ 300) ↔ Small g := by
  have hl := HG.out.nds.1
  refine ⟨fun ⟨h1, h2, h3⟩ => ⟨h1, h2, fun n hn => ?_⟩, fun h => ⟨h.n40, h.r40, fun i hi => ?_⟩⟩
  · obtain ⟨i, hi, rfl⟩ := List.mem_iff_getElem.1 hn
    have := h3 i (by omega)
    rw [List.getD_eq_getElem?_getD, List.getElem?_eq_getElem hi] at this
    exact this
  · rw [List.getD_eq_getElem?_getD, List.getElem?_eq_getElem (show i < g.NS.length by omega)]
    exact h.sz _ (List.getElem_mem _)
theorem great_no (w : World) (B : Nat) (hB : B ≤ w.heap.size) (g : Gd) (HG : Aside0 (GM w B g)) (hnl : g.nl ≤ 9223372036854775807) (hs : Small g) : Calls Tryd.prog 5 #[.agg #[.slice g.rA g.rl g.rc, .slice g.nA g.nl g.nc]] w fun e W' => e = .returned (.bool false) ∧ Below w.heap.size w W' := by
  refine (great_calls w B hB g.rA g.nA g.rl g.rc g.nl g.nc g.NS (Aside0.mk HG.out.nds) hnl).mono ?_
  rintro e W' ⟨b, rfl, h, hb⟩
  rw [h.2 ((great_iff HG).2 hs)]
  exact ⟨rfl, hb⟩
theorem great_yes (w : World) (B : Nat) (hB : B ≤ w.heap.size) (g : Gd) (HG : Aside0 (GM w B g)) (hnl : g.nl ≤ 9223372036854775807) (hs : ¬ Small g) : Calls Tryd.prog 5 #[.agg #[.slice g.rA g.rl g.rc, .slice g.nA g.nl g.nc]] w fun e W' => e = .returned (.bool true) ∧ Below w.heap.size w W' := by
  refine (great_calls w B hB g.rA g.nA g.rl g.rc g.nl g.nc g.NS (Aside0.mk HG.out.nds) hnl).mono ?_
  rintro e W' ⟨b, rfl, h, hb⟩
  cases b with
  | true => exact ⟨rfl, hb⟩
  | false => exact absurd ((great_iff HG).1 (h.1 rfl)) hs
end Go.Proofs.YtacjlkjdmhlbaaaDoor.Gr
/- Parts of graph's walk (after my own texts for another seat: Gr18). What each says stands at its head. -/
namespace Go.Proofs.YtacjlkjdmhlbaaaDoor.Gr
open Go.RowKit Go.Shelf Go.Maps Go.ChangeMaps Go.MapKept Go.Proofs.YtacjlkjdmhlbaaaDoorW.PrintWords Go.Proofs.YtacjlkjdmhlbaaaDoorW.PrintLast Go.Proofs.YtacjlkjdmhlbaaaDoorW.PrintMore
set_option linter.unusedSimpArgs false
set_option linter.unusedVariables false
theorem cell_lt {w : World} {a : Addr} {v : Value} (h : w.cell? a = some v) : a.block < w.heap.size := by
  rcases Nat.lt_or_ge a.block w.heap.size with h0 | h0
  · exact h0
  · have h3 : w.heap[a.block]? = none := Array.getElem?_eq_none h0
    simp [World.cell?, h3] at h
end Go.Proofs.YtacjlkjdmhlbaaaDoor.Gr
