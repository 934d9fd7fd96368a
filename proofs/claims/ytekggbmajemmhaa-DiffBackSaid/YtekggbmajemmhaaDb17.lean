/- Parts of one proof, set together: Gr19, Ap2, Ap3, Nr1. What each says stands at its head; no condition beyond theirs. -/
import Derived.Test.YtekggbmajemmhaaDb16
import Derived.Deep.SlicePairs
import Derived.Deep.Strs
import Derived.Laws.OwnMore
import Derived.Lib.SmallJoins
import Derived.OpenShut
import Derived.ProofKit
import Derived.WalkKit
/- A graph, read out of the arguments. No condition beyond the reading. -/
namespace Go.Proofs.Ytekggbmajemmhaa.Gr
open Go.ChangeShapes Go.WideShapes Go.ChangeAt Go.RowKit Go.Deep Go.Joins
set_option linter.unusedSimpArgs false
set_option linter.unusedVariables false
set_option maxRecDepth 100000
theorem open_il {H : Type} {enc : TypeId × Value → H} {P : Program} {w : World} {t e : TypeId} {k : IntKind} {fuel : Nat} {v : Value} {x : DataW H × List MemPlace} (ht : P.underlying t = some (.slice e)) (he : P.underlying e = some (.int k)) (hc : P.cellsOf e = 1)
    (h : DataW.trod enc P w 0 (fun _ => true) true fuel t [v] = some x) : ∃ A m c l, v = .slice A m c ∧ IL k w w.heap.size A m l ∧ (∀ x ∈ l, (Lit.int k x).wf = true) ∧ m ≤ 9223372036854775807 := by
  rcases open_ints ht he hc h with ⟨hcs, _⟩ | ⟨ad, l, c, zs, hcs, _, hl, hm, hz, _, hcell, hwz⟩
  · simp at hcs
    subst hcs
    exact ⟨none, 0, 0, [], rfl, ⟨rfl, fun i hi => absurd hi (by omega)⟩, by simp, by omega⟩
  · simp at hcs
    subst hcs
    have hzc : zs.length = c := by simpa using hz
    refine ⟨some ad, l, c, zs.take l, rfl, ⟨by rw [List.length_take]; omega, fun i hi => ?_⟩, fun x hx => hwz x (List.mem_of_mem_take hx), by unfold maxLen at hm; omega⟩
    have hci := hcell i (by omega)
    refine ⟨ad, rfl, ?_, ?_⟩
    · have := cell_lt hci
      rwa [add_block] at this
    · rw [hci, List.getD_eq_getElem?_getD, List.getD_eq_getElem?_getD, List.getElem?_take, if_pos hi]
end Go.Proofs.Ytekggbmajemmhaa.Gr
/- Apply: appends of lists that lie in memory; Find, place of the document's graphs. Conditions: the lists lie in memory. -/
namespace Go.Proofs.Ytekggbmajemmhaa.Gr
open Go.RowKit Go.Shelf Go.Maps Go.ChangeMaps Go.MapKept Go.Proofs.YtekggbmajemmhaaW.PrintWords Go.Proofs.YtekggbmajemmhaaW.PrintLast Go.Proofs.YtekggbmajemmhaaW.PrintMore
set_option linter.unusedSimpArgs false
set_option linter.unusedVariables false
/-! ### Lists in memory -/
theorem IL.up {k : IntKind} {W : World} {B B' : Nat} {a : Option Addr} {len : Nat} {l : List Int} (h : IL k W B a len l) (hb : B ≤ B') : IL k W B' a len l := ⟨h.1, fun i hi => by
  obtain ⟨y, h1, h2, h3⟩ := h.2 i hi
  exact ⟨y, h1, Nat.lt_of_lt_of_le h2 hb, h3⟩⟩
theorem IL.to {k : IntKind} {W W' : World} {a : Option Addr} {len : Nat} {l : List Int} (h : IL k W W.heap.size a len l) (hb : Below W.heap.size W W') : IL k W' W'.heap.size a len l := (h.kept hb.block).up hb.size
theorem IL.at_ {k : IntKind} {W : World} {B : Nat} {a : Option Addr} {len : Nat} {l : List Int} (h : IL k W B a len l) {i : Nat} (hi : i < len) : ∃ y, a = some y ∧ y.block < B ∧ W.cell? (y.add i) = some (.int k (l.getD i 0)) := h.2 i hi
theorem IL_of_row {k : IntKind} {e : TypeId} {W : World} {X : Nat} {v : Value} {n : Nat} {l : List Int} (h : W.ownsRow X e 1 v n (l.map (Value.int k))) : ∃ a c, v = .slice a n c ∧ IL k W W.heap.size a n l := by
  have hl : l.length = n := by have := h.1; rw [List.length_map] at this; omega
  rcases h.2 with ⟨rfl, h0⟩ | ⟨g, cap, cur, rfl, _, hg, _⟩
  · subst h0
    exact ⟨none, 0, rfl, hl, fun i hi => absurd hi (by omega)⟩
  · refine ⟨_, cap, rfl, hl, fun i hi => ⟨_, rfl, blk_lt hg, ?_⟩⟩
    have := h.cellAt i (by omega)
    have ea : (⟨g, 0, none⟩ : Addr).add i = ⟨g, i, none⟩ := by unfold Addr.add; split <;> simp_all
    rw [ea, this, List.getElem?_map, List.getD_eq_getElem?_getD, List.getElem?_eq_getElem (show i < l.length by omega)]
    rfl
theorem grown_refl (W : World) (r : Option Nat) : W.grownBy W r := ⟨rfl, rfl, rfl, Nat.le_refl _, fun _ _ _ => rfl⟩
theorem run_append_none_any {P : Program} {w : World} (base : Nat) (t ty e : TypeId) (i : TypeInfo) (size : Nat) (ht : P.underlying t = some (.slice e)) (hi : P.info? e = some i) (v : Value) (n : Nat) (xs : List Value) (hown : w.ownsRow base e size v n xs) (c : Nat) :
    (Builtin.append_ #[t, t] ty #[v, .slice none 0 c]).run P w = .ok v w := by
  rcases hown.2 with ⟨rfl, rfl⟩ | ⟨g, cap, cur, rfl, _, _, hnc, _⟩
  · simp [Builtin.append_, run_underlying ht, sizeOf, typeInfo, hi, Builtin.lenOf, Builtin.firstCells]
  · simp [Builtin.append_, run_underlying ht, sizeOf, typeInfo, hi, Builtin.lenOf, Builtin.firstCells, hnc, storeCells]
theorem run_append_il {P : Program} {w : World} {k : IntKind} {B : Nat} (base : Nat) (t ty e : TypeId) (i : TypeInfo) (z : Value) (bytes : Nat) (ht : P.underlying t = some (.slice e)) (hi : P.info? e = some i) (hz : i.zero = some z)
    (hsize : i.size = 1) (hby : i.bytes = bytes) (hzs : z.cells.size = 1) (v : Value) (n : Nat) (xs : List Value) (hown : w.ownsRow base e 1 v n xs)
    (a : Option Addr) (m c : Nat) (l : List Int) (HL : IL k w B a m l) (h63 : n + m ≤ maxLen) (hbytes : (n + m) * bytes ≤ 140737488355328) (hbase : base ≤ w.heap.size) :
    ∃ v' w', (Builtin.append_ #[t, t] ty #[v, .slice a m c]).run P w = .ok v' w' ∧ w'.ownsRow base e 1 v' (n + m) (xs ++ l.map (Value.int k)) ∧ w.grownBy w' v.ownBlock := by
  have hl := HL.1
  cases a with
  | none =>
    obtain rfl : m = 0 := by
      rcases Nat.eq_zero_or_pos m with h | h
      · exact h
      · obtain ⟨y, e, _⟩ := HL.2 0 h
        cases e
    obtain rfl := List.length_eq_zero_iff.1 hl
    exact ⟨v, w, run_append_none_any base t ty e i 1 ht hi v n xs hown c, by simpa using hown, grown_refl _ _⟩
  | some ad =>
    obtain ⟨v', w', h1, h2, h3, _⟩ := run_append_own (P := P) w base t ty e i z 1 bytes ht hi hz hsize hby hzs (by decide) v n xs hown ad m c (l.map (Value.int k)) (by rw [List.length_map]; omega) (fun j u hu => by
      rw [List.getElem?_map] at hu
      cases hj : l[j]? with
      | none => rw [hj] at hu; cases hu
      | some x =>
        rw [hj] at hu
        cases hu
        have hjl := (List.getElem?_eq_some_iff.1 hj).1
        obtain ⟨y, e, _, hc⟩ := HL.2 j (by omega)
        cases e
        rw [hc, List.getD_eq_getElem?_getD, hj]
        rfl) (fun u hu => by obtain ⟨x, _, rfl⟩ := List.mem_map.1 hu; rfl) h63 hbytes hbase
    exact ⟨v', w', h1, h2, h3⟩
section
variable {P : Program} {ops : Array Oper} {Q : Exit → Act → World → Prop}
theorem wp_append_il {o : Oper} {a : Act} {w : World} {K : Act → World → Prop} (s x : Operand) (t : TypeId)
    (ho : o.op = .call { callee := .builtin .append, args := #[s, x], argTypes := #[t, t] }) (k : IntKind) (B : Nat)
    (base : Nat) (e : TypeId) (i : TypeInfo) (z : Value) (bytes : Nat) (ht : P.underlying t = some (.slice e)) (hi : P.info? e = some i) (hz : i.zero = some z)
    (hsize : i.size = 1) (hby : i.bytes = bytes) (hzs : z.cells.size = 1) (v : Value) (n : Nat) (xs : List Value) (hs : a.eval s = v) (hown : w.ownsRow base e 1 v n xs)
    (ad : Option Addr) (m c : Nat) (l : List Int) (hx : a.eval x = .slice ad m c) (HL : IL k w B ad m l) (h63 : n + m ≤ maxLen) (hbytes : (n + m) * bytes ≤ 140737488355328) (hbase : base ≤ w.heap.size)
    (h : ∀ v' w', w'.ownsRow base e 1 v' (n + m) (xs ++ l.map (Value.int k)) → w.grownBy w' v.ownBlock → K (a.put o.dst v') w') : o.wp P a w K Q := by
  obtain ⟨v', w', hr, h2, h3⟩ := run_append_il (P := P) (w := w) (k := k) base t o.type e i z bytes ht hi hz hsize hby hzs v n xs hown ad m c l HL h63 hbytes hbase
  unfold Oper.wp execOp
  simp only [ho, resolve, invoke, builtin, Sem.run_bind, Sem.run_pure, Result.andThen_ok, List.map_toArray, List.map_cons, List.map_nil, hs, hx, hr]
  exact h v' w' h2 h3
theorem append_il_ {oi : Oper} {N : Option Tmp} {a : Act} {w : World} {K : Act → World → Prop} (hw : Region.wanted oi (yielded ops a.tmps) = true) (hN : oi.dst = N) (s x : Operand) (t : TypeId)
    (ho : oi.op = .call { callee := .builtin .append, args := #[s, x], argTypes := #[t, t] }) (k : IntKind) (B : Nat)
    (base : Nat) (e : TypeId) (i : TypeInfo) (z : Value) (bytes : Nat) (ht : P.underlying t = some (.slice e)) (hi : P.info? e = some i) (hz : i.zero = some z)
    (hsize : i.size = 1) (hby : i.bytes = bytes) (hzs : z.cells.size = 1) (v : Value) (n : Nat) (xs : List Value) (hs : a.eval s = v) (hown : w.ownsRow base e 1 v n xs)
    (ad : Option Addr) (m c : Nat) (l : List Int) (hx : a.eval x = .slice ad m c) (HL : IL k w B ad m l) (h63 : n + m ≤ maxLen) (hbytes : (n + m) * bytes ≤ 140737488355328) (hbase : base ≤ w.heap.size)
    (h : ∀ v' w', w'.ownsRow base e 1 v' (n + m) (xs ++ l.map (Value.int k)) → w.grownBy w' v.ownBlock → K (a.put N v') w') : if Region.wanted oi (yielded ops a.tmps) = true then Oper.wp P oi a w K Q else K (a.put N undef) w := by
  rw [if_pos hw]
  subst hN
  exact wp_append_il s x t ho k B base e i z bytes ht hi hz hsize hby hzs v n xs hs hown ad m c l hx HL h63 hbytes hbase h
theorem wpList_append_il {rest : List Oper} {o : Oper} {a : Act} {w : World} (hgd : o.guard = none) (s x : Operand) (t : TypeId)
    (ho : o.op = .call { callee := .builtin .append, args := #[s, x], argTypes := #[t, t] }) (k : IntKind) (B : Nat)
    (base : Nat) (e : TypeId) (i : TypeInfo) (z : Value) (bytes : Nat) (ht : P.underlying t = some (.slice e)) (hi : P.info? e = some i) (hz : i.zero = some z)
    (hsize : i.size = 1) (hby : i.bytes = bytes) (hzs : z.cells.size = 1) (v : Value) (n : Nat) (xs : List Value) (hs : a.eval s = v) (hown : w.ownsRow base e 1 v n xs)
    (ad : Option Addr) (m c : Nat) (l : List Int) (hx : a.eval x = .slice ad m c) (HL : IL k w B ad m l) (h63 : n + m ≤ maxLen) (hbytes : (n + m) * bytes ≤ 140737488355328) (hbase : base ≤ w.heap.size)
    (h : ∀ v' w', w'.ownsRow base e 1 v' (n + m) (xs ++ l.map (Value.int k)) → w.grownBy w' v.ownBlock → wpList P ops Q rest (a.put o.dst v') w') : wpList P ops Q (o :: rest) a w :=
  wpList_plain hgd fun _ hK => wp_append_il s x t ho k B base e i z bytes ht hi hz hsize hby hzs v n xs hs hown ad m c l hx HL h63 hbytes hbase fun v' w' h2 h3 => hK _ _ (h v' w' h2 h3)
end
theorem row_empty {W : World} {g X : Nat} {e : TypeId} {s : Nat} (h : W.heap[g]? = some (.cells #[] e (0, 0))) (hX : X ≤ g) : W.ownsRow X e s (.slice (some ⟨g, 0, none⟩) 0 0) 0 [] :=
  ⟨by simp, .inr ⟨g, 0, #[], rfl, hX, h, Nat.le_refl _, by unfold maxLen; omega, by simp, by simp⟩⟩
theorem info42 : (Try.prog.info? 42).map (fun i => (i.zero, i.size, i.bytes)) = some (some (.int .u64 0), 1, 8) := by kernel_rfl
/-! ### Places -/
/-- The place of a number; -1: none. -/
def pos (K : List Int) (x : Int) : Int := match idx K x with | none => -1 | some i => (i : Int)
theorem idx_first {K : List Int} {a : Int} {i : Nat} (h : K[i]? = some a) (hj : ∀ j, j < i → K[j]? ≠ some a) : idx K a = some i := by
  cases hx : idx K a with
  | none => exact absurd (List.mem_of_getElem? h) (idx_none.1 hx)
  | some k =>
    obtain ⟨h1, h2⟩ := idx_some hx
    rcases Nat.lt_trichotomy i k with h3 | h3 | h3
    · exact absurd h (h2 i h3)
    · rw [h3]
    · exact absurd h1 (hj k h3)
theorem pos_first {K : List Int} {a : Int} {i : Nat} (hi : i < K.length) (h : K.getD i 0 = a) (hj : ∀ j, j < i → K.getD j 0 ≠ a) : pos K a = (i : Int) := by
  unfold pos
  rw [idx_first (i := i) (by rw [getD_at hi, h]) (fun j hji => by rw [getD_at (by omega)]; exact fun e => hj j hji (Option.some.inj e))]
theorem pos_no {K : List Int} {a : Int} (hj : ∀ j, j < K.length → K.getD j 0 ≠ a) : pos K a = -1 := by
  unfold pos
  rw [idx_none.2 fun hm => by
    obtain ⟨j, hjj⟩ := List.mem_iff_getElem?.1 hm
    have hl := (List.getElem?_eq_some_iff.1 hjj).1
    rw [getD_at hl] at hjj
    exact hj j hl (Option.some.inj hjj)]
theorem pos_mem {K : List Int} {a : Int} (h : a ∈ K) : ∃ i : Nat, pos K a = (i : Int) ∧ idx K a = some i := by
  unfold pos
  cases hx : idx K a with
  | none => exact absurd h (idx_none.1 hx)
  | some i => exact ⟨i, rfl, rfl⟩
theorem pos_out {K : List Int} {a : Int} (h : a ∉ K) : pos K a = -1 := by unfold pos; rw [idx_none.2 h]
theorem adrs_getD (NS : List Nd) (i : Nat) : (adrs NS).getD i 0 = (NS.getD i default).adr := by
  simp only [List.getD_eq_getElem?_getD, List.getElem?_map]
  cases NS[i]? <;> rfl
set_option maxHeartbeats 8000000 in
set_option maxRecDepth 100000 in
theorem place_calls (w : World) (a : Option Addr) (len c : Nat) (l : List Int) (HL : Aside0 (IL .i64 w w.heap.size a len l)) (hlen : len ≤ 9223372036854775807) (x : Int) : Calls Try.prog 61 #[.slice a len c, .int .i64 x] w fun e W' => e = .returned (.int .i64 (pos l x)) ∧ Below w.heap.size w W' := by
  have hl := HL.out.1
  go_enter Try.func61, Try.ntmps61
  go_upto_region 2 with fail
  go_loopw [5] (fun v wr => ∃ i : Nat, i ≤ len ∧ v = .int .i64 (i : Int) ∧ wr = w ∧ Aside0 (∀ j, j < i → l.getD j 0 ≠ x)) (fun v _ => len - (intOf v).toNat)
  case atStart => exact ⟨0, by omega, rfl, rfl, Aside0.mk (fun j hj => absurd hj (by omega))⟩
  case round =>
    obtain ⟨i, hi_, rfl, rfl, SZ⟩ := hrel
    by_cases hgo : i < len
    · have hd : decide ((i : Int) < (len : Int)) = true := decide_eq_true (by omega)
      obtain ⟨y, e, hy, h0⟩ := HL.out.2 i hgo
      subst e
      obtain ⟨q, hq⟩ : ∃ q, q = l.getD i 0 := ⟨_, rfl⟩
      rw [← hq] at h0
      have HQ := Aside0.mk hq
      clear hq
      have hi0 : (0 : Int) ≤ (i : Int) := by omega
      have hi1 : (i : Int) < (len : Int) := by omega
      have hwr : wrap64 ((i : Int) + 1) = ((i + 1 : Nat) : Int) := by unfold wrap64; omega
      by_cases hqx : q = x
      · subst hqx
        have HP := Aside0.mk (show pos l q = (i : Int) from pos_first (by omega) HQ.out.symm SZ.out)
        go_wp2
        go_ret
        exact ⟨by rw [HP.out]; rfl, Below.refl _ _⟩
      · have hne : (q == x) = false := by simpa using hqx
        go_wp2
        go_roundw
        case measure => (try rw [hwr]); simp [intOf]; omega
        case rel => exact ⟨i + 1, by omega, by first | rfl | rw [hwr], by first | rfl | trivial, Aside0.mk (fun j hj => by rcases Nat.lt_succ_iff_lt_or_eq.1 hj with h | rfl; exact SZ.out j h; rw [← HQ.out]; exact hqx)⟩
    · have hd : decide ((i : Int) < (len : Int)) = false := decide_eq_false (by omega)
      have HP := Aside0.mk (show pos l x = -1 from pos_no fun j hj => SZ.out j (by omega))
      go_wp2
      go_ret
      exact ⟨by rw [HP.out]; rfl, Below.refl _ _⟩
set_option maxHeartbeats 8000000 in
set_option maxRecDepth 100000 in
theorem find0_calls (w : World) (B : Nat) (hB : B ≤ w.heap.size) (rA nA : Option Addr) (rl rc nl nc : Nat) (NS : List Nd) (HN : Aside0 (NL w B nA nl NS)) (hnl : nl ≤ 9223372036854775807) (x : Int) : Calls Try.prog 30 #[.agg #[.slice rA rl rc, .slice nA nl nc], .int .i64 x] w fun e W' => e = .returned (.int .i64 (pos (adrs NS) x)) ∧ Below w.heap.size w W' := by
  have HB := Aside0.mk (Below.refl w.heap.size w)
  have hl : (adrs NS).length = nl := by rw [List.length_map]; exact HN.out.1
  go_enter Try.func30, Try.ntmps30
  go_upto_region 1 with ((with_reducible refine gate_dst (N := 2) rfl ?_); refine box_event ?hg (N := 2) ?hd (cs := #[.slice rA rl rc, .slice nA nl nc]) (t := 25) ?hr ?_; (case hd => rfl); (case hg => rfl); (case hr => first | (go_simp; done) | (go_simp; rfl)); intro g2 hg w1_ hbox hb; have n0_ := Aside0.mk (below_step (by repeat (first | (with_reducible first | exact HB.out | apply below_alloc | apply pw_below_drewN | apply below_drew1) | exact HB.out)) hb); have n1_ := Aside0.mk hbox; have n2_ := Aside0.mk ((by rw [hg]; exact (below_size (by repeat (first | (with_reducible first | exact HB.out | apply below_alloc | apply pw_below_drewN | apply below_drew1) | exact HB.out)))) : w.heap.size ≤ g2); clear HB; have HB := n0_; have BK2 := n1_; have GE2 := n2_; clear n0_ n1_ n2_; clear hb hbox hg)
  go_upto_region 2 with fail
  go_loopw [5] (fun v wr => ∃ i : Nat, i ≤ nl ∧ v = .int .i64 (i : Int) ∧ Aside0 (∀ j, j < i → (adrs NS).getD j 0 ≠ x) ∧ Aside0 (Below w.heap.size w wr) ∧ Aside0 (wr.heap[g2]? = some (.cells #[.slice rA rl rc, .slice nA nl nc] 25 (0, 0)))) (fun v _ => nl - (intOf v).toNat)
  case atStart => exact ⟨0, by omega, rfl, Aside0.mk (fun j hj => absurd hj (by omega)), HB, BK2⟩
  case round =>
    clear HB BK2
    obtain ⟨i, hi_, rfl, SZ, HB, BK2⟩ := hrel
    have hc2_0 : wr.cell? ⟨g2, 0, none⟩ = some (.slice rA rl rc) := (blk_cell BK2.out 0).trans rfl
    have hc2_1 : wr.cell? ⟨g2, 1, none⟩ = some (.slice nA nl nc) := (blk_cell BK2.out 1).trans rfl
    by_cases hgo : i < nl
    · have hd : decide ((i : Int) < (nl : Int)) = true := decide_eq_true (by omega)
      obtain ⟨y, e, hy, h0, _⟩ := (HN.out.kept (fun k hk => HB.out.block k (by omega)) : NL wr B nA nl NS).2 i hgo
      subst e
      rw [← adrs_getD] at h0
      obtain ⟨q, hq⟩ : ∃ q, q = (adrs NS).getD i 0 := ⟨_, rfl⟩
      rw [← hq] at h0
      have HQ := Aside0.mk hq
      have hz0 : wr.cell? (y.add (i * 6)) = some (.int .i64 q) := (congrArg _ (by unfold Addr.add; split <;> rfl)).trans h0
      clear hq h0
      have hi0 : (0 : Int) ≤ (i : Int) := by omega
      have hi1 : (i : Int) < (nl : Int) := by omega
      have hwr : wrap64 ((i : Int) + 1) = ((i + 1 : Nat) : Int) := by unfold wrap64; omega
      by_cases hqx : q = x
      · subst hqx
        have HP := Aside0.mk (show pos (adrs NS) q = (i : Int) from pos_first (by omega) HQ.out.symm SZ.out)
        go_wp2
        go_ret
        exact ⟨by rw [HP.out]; rfl, HB.out⟩
      · have hne : (q == x) = false := by simpa using hqx
        go_wp2
        go_roundw
        case measure => (try rw [hwr]); simp [intOf]; omega
        case rel => exact ⟨i + 1, by omega, by first | rfl | rw [hwr], Aside0.mk (fun j hj => by rcases Nat.lt_succ_iff_lt_or_eq.1 hj with h | rfl; exact SZ.out j h; rw [← HQ.out]; exact hqx), HB, BK2⟩
    · have hd : decide ((i : Int) < (nl : Int)) = false := decide_eq_false (by omega)
      have HP := Aside0.mk (show pos (adrs NS) x = -1 from pos_no fun j hj => SZ.out j (by omega))
      go_wp2
      go_ret
      exact ⟨by rw [HP.out]; rfl, HB.out⟩
theorem find_calls (w : World) (B : Nat) (hB : B ≤ w.heap.size) (g : Gd) (HG : Aside0 (GM w B g)) (hnl : g.nl ≤ 40) (x p : Int) (hp : Aside0 (p = pos (adrs g.NS) x)) : Calls Try.prog 30 #[.agg #[.slice g.rA g.rl g.rc, .slice g.nA g.nl g.nc], .int .i64 x] w fun e W' => e = .returned (.int .i64 p) ∧ Below w.heap.size w W' := by
  rw [hp.out]
  exact find0_calls w B hB g.rA g.nA g.rl g.rc g.nl g.nc g.NS ⟨HG.out.nds⟩ (by omega) x
end Go.Proofs.Ytekggbmajemmhaa.Gr
/- Apply: the document's walk of a graph, by induction on how many places are left. Conditions: the graph lies in memory and is small. -/
namespace Go.Proofs.Ytekggbmajemmhaa.Gr
open Go.RowKit Go.Shelf Go.Maps Go.ChangeMaps Go.MapKept Go.Proofs.YtekggbmajemmhaaW.PrintWords Go.Proofs.YtekggbmajemmhaaW.PrintLast Go.Proofs.YtekggbmajemmhaaW.PrintMore
set_option linter.unusedSimpArgs false
set_option linter.unusedVariables false
/-- A value that is a list in memory. -/
def VL (k : IntKind) (W : World) (v : Value) (l : List Int) : Prop := ∃ a n c, v = .slice a n c ∧ IL k W W.heap.size a n l
theorem VL.to {k : IntKind} {W W' : World} {v : Value} {l : List Int} (h : VL k W v l) (hb : Below W.heap.size W W') : VL k W' v l := by
  obtain ⟨a, n, c, e, h⟩ := h
  exact ⟨a, n, c, e, h.to hb⟩
theorem VL_of_row {k : IntKind} {e : TypeId} {W : World} {X : Nat} {v : Value} {n : Nat} {l : List Int} (h : W.ownsRow X e 1 v n (l.map (Value.int k))) : VL k W v l := by
  obtain ⟨a, c, e, h⟩ := IL_of_row h
  exact ⟨a, n, c, e, h⟩
theorem VL_nil (k : IntKind) (W : World) : VL k W (.slice none 0 0) [] := ⟨none, 0, 0, rfl, rfl, fun i hi => absurd hi (by omega)⟩
theorem one_cells {W : World} {g : Nat} {u : Value} {t : TypeId} (h : W.heap[g]? = some (.cells #[u] t (0, 0))) : ∀ j v, [u][j]? = some v → W.cell? ((⟨g, 0, none⟩ : Addr).add j) = some v := by
  intro j v hj
  rcases j with _ | j
  · simp at hj
    subst hj
    exact (blk_cell h 0).trans rfl
  · simp at hj
theorem placed_calls (w : World) (a : Option Addr) (len c : Nat) (l : List Int) (HL : Aside0 (IL .i64 w w.heap.size a len l)) (hlen : len ≤ 9223372036854775807) (x p : Int) (hp : Aside0 (p = pos l x)) : Calls Try.prog 61 #[.slice a len c, .int .i64 x] w fun e W' => e = .returned (.int .i64 p) ∧ Below w.heap.size w W' := by
  rw [hp.out]
  exact place_calls w a len c l HL hlen x
theorem node_at {W : World} {B : Nat} {g : Gd} (h : GM W B g) {k : Nat} (hk : k < g.NS.length) : ∃ y, g.nA = some y ∧ y.block < B ∧
    W.cell? (y.add (k * 6)) = some (.int .i64 (g.NS.getD k default).adr) ∧ W.cell? ⟨(y.add (k * 6)).block, (y.add (k * 6)).off + 1, none⟩ = some (.int .i64 (g.NS.getD k default).refs) ∧ W.cell? ⟨(y.add (k * 6)).block, (y.add (k * 6)).off + 2, none⟩ = some (.int .i64 (g.NS.getD k default).sl) ∧ W.cell? ⟨(y.add (k * 6)).block, (y.add (k * 6)).off + 3, none⟩ = some (.int .i64 (g.NS.getD k default).words) ∧
    W.cell? ⟨(y.add (k * 6)).block, (y.add (k * 6)).off + 4, none⟩ = some (.slice (g.NS.getD k default).A (g.NS.getD k default).m (g.NS.getD k default).c) ∧ W.cell? ⟨(y.add (k * 6)).block, (y.add (k * 6)).off + 5, none⟩ = some (.slice (g.NS.getD k default).B (g.NS.getD k default).n (g.NS.getD k default).d) := by
  obtain ⟨y, e, hy, h0, h1, h2, h3, h4, h5⟩ := h.nds.2 k (by have := h.nds.1; omega)
  exact ⟨y, e, hy, (congrArg _ (by unfold Addr.add; split <;> rfl)).trans h0, h1, h2, h3, h4, h5⟩
theorem node_mem {NS : List Nd} {k : Nat} (hk : k < NS.length) : NS.getD k default ∈ NS := by
  rw [List.getD_eq_getElem?_getD, List.getElem?_eq_getElem hk]
  exact List.getElem_mem hk
theorem idx_find {NS : List Nd} {x : Int} {k : Nat} (h : idx (adrs NS) x = some k) : k < NS.length ∧ find NS x = some (NS.getD k default) := by
  obtain ⟨n, h1, h2, _⟩ := find_some_of h
  refine ⟨(List.getElem?_eq_some_iff.1 h1).1, ?_⟩
  rw [h2, List.getD_eq_getElem?_getD, h1]
  rfl
def wk4.T4 : Bool × List (List Nat × List Nat) := (true, [([], []), ([], []), ([], []), ([1, 2], [1, 2]), ([3], [3]), ([0, 4], [0, 4]), ([5, 5, 0, 1, 2, 3, 4, 5], [5])])
def wk4.B4 : List Nat := [0, 0, 0, 6, 14, 31, 63]
theorem wk4.tab4 : rtab .any (opsOf Try.f50 4) = wk4.T4 := by kernel_rfl
theorem wk4.bits4 : waitsOk wk4.T4.2 wk4.B4 = true := by kernel_rfl
def wk6.T6 : Bool × List (List Nat × List Nat) := (true, [([], []), ([], []), ([1], [1]), ([], []), ([2, 3], [2, 3]), ([4], [4]), ([5], [5]), ([], []), ([], []), ([7, 8], [7, 8]), ([], []), ([], []), ([10, 11], [10, 11]), ([12], [12]), ([13], [13]), ([9, 14, 9], [9, 14]), ([0, 6, 15, 15], [0, 6, 15]), ([16, 16, 0, 1, 2, 3, 4, 5, 6, 7, 8, 9, 10, 11, 12, 13, 14, 15, 16], [8, 16])])
def wk6.B6 : List Nat := [0, 0, 2, 0, 14, 30, 62, 0, 0, 384, 0, 0, 3072, 7168, 15360, 32640, 65535, 131071]
theorem wk6.tab6 : rtab .any (opsOf Try.f50 6) = wk6.T6 := by kernel_rfl
theorem wk6.bits6 : waitsOk wk6.T6.2 wk6.B6 = true := by kernel_rfl
theorem meas_i {m j : Nat} (h : j < m) {z : Int} (hz : z = ((j + 1 : Nat) : Int)) : m - (intOf (.int .i64 z)).toNat < m - (intOf (.int .i64 (j : Int))).toNat := by
  subst hz
  show m - ((j + 1 : Nat) : Int).toNat < m - (j : Int).toNat
  omega
theorem step_fold {NS : List Nd} {f : Nat} {s s' l : List Int} {j : Nat} {x : Int} (hj : j < l.length) (hE : s' = (l.take j).foldl (stepR NS f) s) (hx : x = l.getD j 0) : stepR NS f s' x = (l.take (j + 1)).foldl (stepR NS f) s := by
  rw [take_snoc hj, List.foldl_append, ← hE, hx, List.foldl_cons, List.foldl_nil]
theorem pos_or {NS : List Nd} {x p : Int} (h : p = pos (adrs NS) x) : (p = -1 ∧ find NS x = none) ∨ ∃ k : Nat, p = (k : Int) ∧ k < NS.length ∧ find NS x = some (NS.getD k default) := by
  rw [h]
  unfold pos
  cases hx : idx (adrs NS) x with
  | none => exact Or.inl ⟨rfl, find_none_of hx⟩
  | some i => exact Or.inr ⟨i, rfl, (idx_find hx).1, (idx_find hx).2⟩
set_option maxHeartbeats 8000000 in
set_option maxRecDepth 100000 in
theorem rwalk_calls (g : Gd) (hsm : Small g) : ∀ (f : Nat) (W : World) (B : Nat) (s l : List Int) (A : Option Addr) (m c : Nat) (sv : Value) (hB : B ≤ W.heap.size) (HG : Aside0 (GM W B g)) (HL : Aside0 (IL .i64 W W.heap.size A m l)) (hm : m ≤ 300) (HV : Aside0 (VL .i64 W sv s)) (HF : Aside0 (left g.NS s < f)) (HC : Aside0 (s.length + left g.NS s ≤ g.NS.length)),
    Calls Try.prog 50 #[.agg #[.slice g.rA g.rl g.rc, .slice g.nA g.nl g.nc], .slice A m c, sv] W fun e W' => ∃ v, e = .returned v ∧ VL .i64 W' v (visitR g.NS f s l) ∧ Below W.heap.size W W' := by
  intro f
  induction f with
  | zero => intro W B s l A m c sv hB HG HL hm HV HF HC; exact absurd HF.out (by omega)
  | succ f ih =>
    intro W B s l A m c sv hB HG HL hm HV HF HC
    have IH := Aside0.mk ih
    clear ih
    have hns : g.NS.length ≤ 40 := by have := HG.out.nds.1; have := hsm.n40; omega
    obtain ⟨i0, hi, hz0, hz1, hz2⟩ := info_parts info3
    obtain ⟨sA, sm, sc, rfl, hs⟩ := HV.out
    have HS := Aside0.mk hs
    clear hs HV
    have HB := Aside0.mk (Below.refl W.heap.size W)
    go_enter Try.func50, Try.ntmps50
    go_upto_region 1 with ((with_reducible refine gate_dst (N := 3) rfl ?_); refine box_event ?hg (N := 3) ?hd (cs := #[.slice g.rA g.rl g.rc, .slice g.nA g.nl g.nc]) (t := 25) ?hr ?_; (case hd => rfl); (case hg => rfl); (case hr => first | (go_simp; done) | (go_simp; rfl)); intro g3 hg w1_ hbox hb; have n0_ := Aside0.mk (below_step (by repeat (first | (with_reducible first | exact HB.out | apply below_alloc | apply pw_below_drewN | apply below_drew1) | exact HB.out)) hb); have n1_ := Aside0.mk hbox; have n2_ := Aside0.mk ((by rw [hg]; exact (below_size (by repeat (first | (with_reducible first | exact HB.out | apply below_alloc | apply pw_below_drewN | apply below_drew1) | exact HB.out)))) : W.heap.size ≤ g3); clear HB; have HB := n0_; have BK3 := n1_; have GE3 := n2_; clear n0_ n1_ n2_; clear hb hbox hg)
    go_upto_region 2 with fail
    go_loopw [2, 7] (fun vs v wr => ∃ (j : Nat) (s' : List Int), j ≤ m ∧ v = .int .i64 (j : Int) ∧ Aside0 (VL .i64 wr vs s') ∧ Aside0 (s' = (l.take j).foldl (stepR g.NS f) s) ∧ Aside0 (Below W.heap.size W wr) ∧ Aside0 (wr.heap[g3]? = some (.cells #[.slice g.rA g.rl g.rc, .slice g.nA g.nl g.nc] 25 (0, 0))) ∧ Aside0 (s'.length + left g.NS s' ≤ g.NS.length ∧ left g.NS s' ≤ left g.NS s)) (fun _ v _ => m - (intOf v).toNat)
    case atStart => exact ⟨0, s, by omega, rfl, Aside0.mk ⟨sA, sm, sc, rfl, HS.out.to HB.out⟩, Aside0.mk rfl, HB, BK3, Aside0.mk ⟨HC.out, Nat.le_refl _⟩⟩
    case round =>
      clear HS HC HB BK3
      obtain ⟨j, s', hj, rfl, HV, HE, HB, BK3, HC⟩ := hrel
      obtain ⟨tA, tn, tc, rfl, hs⟩ := HV.out
      have HS := Aside0.mk hs
      have htn : tn ≤ 40 := by have := hs.1; have := HC.out.1; omega
      clear hs HV
      by_cases hgo : j < m
      · have hd : decide ((j : Int) < (m : Int)) = true := decide_eq_true (by omega)
        have hll : l.length = m := HL.out.1
        obtain ⟨yl, e, hyb, hyc⟩ := (HL.out.kept (fun k hk => HB.out.block k (by omega))).2 j hgo
        subst e
        obtain ⟨x, hx_⟩ : ∃ x, x = l.getD j 0 := ⟨_, rfl⟩
        rw [← hx_] at hyc
        have HX := Aside0.mk hx_
        clear hx_
        have hi0 : (0 : Int) ≤ (j : Int) := by omega
        have hi1 : (j : Int) < (m : Int) := by omega
        have hjl : j < l.length := by omega
        have hj1 : j + 1 ≤ m := by omega
        have HEX := Aside0.mk (show ∀ s2, s2 = stepR g.NS f s' x → s2 = (l.take (j + 1)).foldl (stepR g.NS f) s from fun s2 h => h.trans (step_fold hjl HE.out HX.out))
        obtain ⟨p, hp⟩ : ∃ p, p = pos (adrs g.NS) x := ⟨_, rfl⟩
        have HP := Aside0.mk hp
        clear hp
        go_upto_region 4 with fail
        have HR := Aside0.mk (Below.refl wr.heap.size wr)
        refine start_ (n := 7) (S := fun w' => True) (ds := []) #[false, false, false, false, false, false, false] (by kernel_rfl) rfl rfl trivial (fun hHeld => ?_)
        refine with_tabW wk4.tab4 wk4.bits4 (fun HT_ HW_ => ?_)
        refine inv_at [0, 1, 2, 3, 4, 5, 6] (fun a0_ b a w' => a = putSel a0_ b [(0, 15, .agg #[.slice g.rA g.rl g.rc, .slice g.nA g.nl g.nc]), (1, 16, .slice (some yl) m c), (2, 17, .int .i64 (j : Int)), (3, 18, .pointer (some (yl.add j))), (4, 19, .int .i64 x), (5, 20, .int .i64 p), (6, 8, .int .i64 p)] ∧ (Below wr.heap.size wr w')) HT_.out HW_.out (by kernel_rfl) (by kernel_rfl) ?_ ?_ ?_
        · exact ⟨by simp only [putSel, Bool.false_eq_true, if_false], below_drew1 HR.out⟩
        · skip
          clear HR
          refine steps_cons ?_ ?_
          · rintro b a w' ⟨ha, Q_HR⟩ hb_ hon hoff
            refine ⟨_, rfl, fun K hK => ?_⟩
            have e3 : a.tmps[3]? = some (.pointer (some ⟨g3, 0, none⟩)) := by rw [ha]; exact (putSel_off rfl).trans rfl
            replace ha := Aside0.mk ha
            have HR := Aside0.mk Q_HR
            have hl15_0 : w'.cell? ⟨g3, 0, none⟩ = some (.slice g.rA g.rl g.rc) := (blk_cell (blk_below BK3.out HR.out) 0).trans rfl
            have hl15_1 : w'.cell? ⟨g3, 1, none⟩ = some (.slice g.nA g.nl g.nc) := (blk_cell (blk_below BK3.out HR.out) 1).trans rfl
            refine value_ (w1 := w') (v := .agg #[.slice g.rA g.rl g.rc, .slice g.nA g.nl g.nc]) (by rfl) rfl ?_ ?_
            · go_simp
              (try simp only [i64_w])
              try rfl
            refine hK.out _ _ ⟨(by rw [ha.out]; exact putSel_upk 0 hb_ rfl rfl rfl), Q_HR⟩
          refine steps_cons ?_ ?_
          · rintro b a w' ⟨ha, Q_HR⟩ hb_ hon hoff
            refine ⟨_, rfl, fun K hK => ?_⟩
            have e1 : a.tmps[1]? = some (.slice (some yl) m c) := by rw [ha]; exact (putSel_off rfl).trans rfl
            replace ha := Aside0.mk ha
            have HR := Aside0.mk Q_HR
            refine value_ (w1 := w') (v := .slice (some yl) m c) (by rfl) rfl ?_ ?_
            · go_simp
              (try simp only [i64_w])
              try rfl
            refine hK.out _ _ ⟨(by rw [ha.out]; exact putSel_upk 1 hb_ rfl rfl rfl), Q_HR⟩
          refine steps_cons ?_ ?_
          · rintro b a w' ⟨ha, Q_HR⟩ hb_ hon hoff
            refine ⟨_, rfl, fun K hK => ?_⟩
            have e7 : a.tmps[7]? = some (.int .i64 (j : Int)) := by rw [ha]; exact (putSel_off rfl).trans rfl
            replace ha := Aside0.mk ha
            have HR := Aside0.mk Q_HR
            refine value_ (w1 := w') (v := .int .i64 (j : Int)) (by rfl) rfl ?_ ?_
            · go_simp
              (try simp only [i64_w])
              try rfl
            refine hK.out _ _ ⟨(by rw [ha.out]; exact putSel_upk 2 hb_ rfl rfl rfl), Q_HR⟩
          refine steps_cons ?_ ?_
          · rintro b a w' ⟨ha, Q_HR⟩ hb_ hon hoff
            refine ⟨_, rfl, fun K hK => ?_⟩
            have e16 : a.tmps[16]? = some (.slice (some yl) m c) := by rw [ha]; exact putSel_on (e := (1, 16, .slice (some yl) m c)) 1 rfl rfl (hon 1 (by kernel_rfl)) rfl
            have e17 : a.tmps[17]? = some (.int .i64 (j : Int)) := by rw [ha]; exact putSel_on (e := (2, 17, .int .i64 (j : Int))) 2 rfl rfl (hon 2 (by kernel_rfl)) rfl
            replace ha := Aside0.mk ha
            have HR := Aside0.mk Q_HR
            refine value_ (w1 := w') (v := .pointer (some (yl.add j))) (by rfl) rfl ?_ ?_
            · go_simp
              (try simp only [i64_w])
              try rfl
            refine hK.out _ _ ⟨(by rw [ha.out]; exact putSel_upk 3 hb_ rfl rfl rfl), Q_HR⟩
          refine steps_cons ?_ ?_
          · rintro b a w' ⟨ha, Q_HR⟩ hb_ hon hoff
            refine ⟨_, rfl, fun K hK => ?_⟩
            have e18 : a.tmps[18]? = some (.pointer (some (yl.add j))) := by rw [ha]; exact putSel_on (e := (3, 18, .pointer (some (yl.add j)))) 3 rfl rfl (hon 3 (by kernel_rfl)) rfl
            replace ha := Aside0.mk ha
            have HR := Aside0.mk Q_HR
            have hl19 : w'.cell? (yl.add j) = some (.int .i64 x) := (HR.out.cell (p := yl.add j) (cell_lt hyc)).trans hyc
            refine value_ (w1 := w') (v := .int .i64 x) (by rfl) rfl ?_ ?_
            · go_simp
              (try simp only [i64_w])
              try rfl
            refine hK.out _ _ ⟨(by rw [ha.out]; exact putSel_upk 4 hb_ rfl rfl rfl), Q_HR⟩
          refine steps_cons ?_ ?_
          · rintro b a w' ⟨ha, Q_HR⟩ hb_ hon hoff
            refine ⟨_, rfl, fun K hK => ?_⟩
            have e15 : a.tmps[15]? = some (.agg #[.slice g.rA g.rl g.rc, .slice g.nA g.nl g.nc]) := by rw [ha]; exact putSel_on (e := (0, 15, .agg #[.slice g.rA g.rl g.rc, .slice g.nA g.nl g.nc])) 0 rfl rfl (hon 0 (by kernel_rfl)) rfl
            have e19 : a.tmps[19]? = some (.int .i64 x) := by rw [ha]; exact putSel_on (e := (4, 19, .int .i64 x)) 4 rfl rfl (hon 4 (by kernel_rfl)) rfl
            replace ha := Aside0.mk ha
            have HR := Aside0.mk Q_HR
            refine goes_ Try.func30 (by kernel_rfl) rfl #[.agg #[.slice g.rA g.rl g.rc, .slice g.nA g.nl g.nc], .int .i64 x] (by rfl) rfl rfl (by first | (simp only [List.map_toArray, List.map_cons, List.map_nil, Act.eval, Array.getD_eq_getD_getElem?, Option.getD_some, e15, e19]; done) | (simp only [List.map_toArray, List.map_cons, List.map_nil, Act.eval, Array.getD_eq_getD_getElem?, Option.getD_some, e15, e19]; rfl)) ?_
            with_reducible refine (find_calls _ B (Nat.le_trans hB (Nat.le_trans HB.out.size HR.out.size)) g (Aside0.mk (HG.out.kept fun k hk => (HB.out.trans (HR.out.mono HB.out.size)).block k (by omega))) hsm.n40 x p HP).mono ?_
            rintro e w3 ⟨rfl, hb⟩
            refine ⟨_, rfl, ?_⟩
            refine hK.out _ _ ⟨(by rw [ha.out]; exact putSel_upk 5 hb_ rfl rfl rfl), (below_step HR.out hb)⟩
          refine steps_cons ?_ ?_
          · rintro b a w' ⟨ha, Q_HR⟩ hb_ hon hoff
            refine ⟨_, rfl, fun K hK => ?_⟩
            have e20 : a.tmps[20]? = some (.int .i64 p) := by rw [ha]; exact putSel_on (e := (5, 20, .int .i64 p)) 5 rfl rfl (hon 5 (by kernel_rfl)) rfl
            replace ha := Aside0.mk ha
            have HR := Aside0.mk Q_HR
            refine value_ (w1 := w') (v := .int .i64 p) (by rfl) rfl ?_ ?_
            · go_simp
              (try simp only [i64_w])
              try rfl
            refine hK.out _ _ ⟨(by rw [ha.out]; exact putSel_upk 6 hb_ rfl rfl rfl), Q_HR⟩
          exact steps_nil
        rintro b a wx hall ⟨ha, Q_HR⟩
        clear HR
        have hb0_ := hall 0 (by kernel_rfl)
        have hb1_ := hall 1 (by kernel_rfl)
        have hb2_ := hall 2 (by kernel_rfl)
        have hb3_ := hall 3 (by kernel_rfl)
        have hb4_ := hall 4 (by kernel_rfl)
        have hb5_ := hall 5 (by kernel_rfl)
        have hb6_ := hall 6 (by kernel_rfl)
        subst ha
        simp only [putSel, hb0_, hb1_, hb2_, hb3_, hb4_, hb5_, hb6_, if_true, Act.put, List.setIfInBounds_toArray, List.set_cons_zero, List.set_cons_succ]
        have HR := Aside0.mk Q_HR
        clear Q_HR
        clear hall hb0_ hb1_ hb2_ hb3_ hb4_ hb5_ hb6_
        rcases pos_or HP.out with ⟨hp1, hno⟩ | ⟨k, hp1, hkl, hfk⟩
        · subst hp1
          have hst := HEX.out s' (by unfold stepR; rw [hno])
          have HST := Aside0.mk hst
          clear hst hno
          go_wp2
          go_roundw
          case measure => exact meas_i hgo (by push_cast; rfl)
          case rel => exact ⟨j + 1, s', hj1, by push_cast; rfl, Aside0.mk ⟨tA, tn, tc, rfl, HS.out.to HR.out⟩, HST, Aside0.mk (below_step HB.out HR.out), Aside0.mk (blk_below BK3.out HR.out), HC⟩
        · subst hp1
          have hd0 : decide ((k : Int) < 0) = false := decide_eq_false (by omega)
          have hyw : wx.cell? (yl.add j) = some (.int .i64 x) := (HR.out.cell (p := yl.add j) (cell_lt hyc)).trans hyc
          by_cases hxs : x ∈ s'
          · obtain ⟨r, hr, _⟩ := pos_mem hxs
            have hst := HEX.out s' (by unfold stepR; rw [hfk]; simp only [if_pos hxs])
            have HST := Aside0.mk hst
            have HPR := Aside0.mk hr.symm
            clear hst hfk hr
            have hd1 : decide ((r : Int) ≥ 0) = true := decide_eq_true (by omega)
            have hd1' : decide ((0 : Int) ≤ (r : Int)) = true := decide_eq_true (by omega)
            go_wp2_with (go_at_call 61; refine (placed_calls _ tA tn tc s' (Aside0.mk (HS.out.to HR.out)) (by omega) x (r : Int) HPR).mono ?_; rintro e w3 ⟨rfl, hb3⟩; have HR5 := Aside0.mk (below_step HR.out hb3); clear hb3)
            go_roundw
            case measure => exact meas_i hgo (by push_cast; rfl)
            case rel => exact ⟨j + 1, s', hj1, by push_cast; rfl, Aside0.mk ⟨tA, tn, tc, rfl, HS.out.to HR5.out⟩, HST, Aside0.mk (below_step HB.out HR5.out), Aside0.mk (blk_below BK3.out HR5.out), HC⟩
          · have hr := pos_out hxs
            have hst := HEX.out (visitR g.NS f (s' ++ [x]) (g.NS.getD k default).S) (by unfold stepR; rw [hfk]; simp only [if_neg hxs])
            have HST := Aside0.mk hst
            have HPR := Aside0.mk hr.symm
            have HF6 := Aside0.mk (show left g.NS (s' ++ [x]) < f by have := left_lt hfk hxs; have := HC.out.2; have := HF.out; omega)
            have HC6 := Aside0.mk (show (s' ++ [x]).length + left g.NS (s' ++ [x]) ≤ g.NS.length by have := left_lt hfk hxs; have := HC.out.1; rw [List.length_append, List.length_singleton]; omega)
            have hcnt := visitR_cnt g.NS g.NS.length f (s' ++ [x]) (g.NS.getD k default).S HC6.out
            have hlef := visitR_left g.NS f (s' ++ [x]) (g.NS.getD k default).S
            have HC7 := Aside0.mk (show (visitR g.NS f (s' ++ [x]) (g.NS.getD k default).S).length + left g.NS (visitR g.NS f (s' ++ [x]) (g.NS.getD k default).S) ≤ g.NS.length ∧ left g.NS (visitR g.NS f (s' ++ [x]) (g.NS.getD k default).S) ≤ left g.NS s from ⟨hcnt, by have := left_lt hfk hxs; have := HC.out.2; omega⟩)
            clear hst hfk hr hcnt hlef
            have HQM := node_mem hkl
            go_upto_region 6 with (go_at_call 61; refine (placed_calls _ tA tn tc s' (Aside0.mk (HS.out.to HR.out)) (by omega) x (-1) HPR).mono ?_; rintro e w3 ⟨rfl, hb3⟩; have HR5 := Aside0.mk (below_step HR.out hb3); clear hb3)
            have HB6 := Aside0.mk (below_step HB.out HR5.out)
            have BK6 := Aside0.mk (blk_below BK3.out HR5.out)
            have HS6 := Aside0.mk (HS.out.to HR5.out)
            have hyx : w3.cell? (yl.add j) = some (.int .i64 x) := (HR5.out.cell (p := yl.add j) (cell_lt hyc)).trans hyc
            clear HB BK3 HS HR HR5 hyc hyw
            have HB := HB6
            have BK3 := BK6
            have HS := HS6
            clear HB6 BK6 HS6
            obtain ⟨wx, hwx⟩ : ∃ w, w = w3 := ⟨_, rfl⟩
            subst hwx
            obtain ⟨yn, en, hyn, hn0, hn1, hn2, hn3, hq4, hn5⟩ := node_at (HG.out.kept fun k hk => HB.out.block k (by omega)) hkl
            clear hn0 hn1 hn2 hn3 hn5
            obtain ⟨q, hq⟩ : ∃ q, q = g.NS.getD k default := ⟨_, rfl⟩
            rw [← hq] at hq4 HST HC7 HQM
            clear hq
            have hqm : q.m ≤ 300 := (hsm.sz q HQM).1
            have QS := Aside0.mk ((HG.out.kept fun k hk => HB.out.block k (by omega)).sub q HQM).1
            have hBx := Nat.le_trans hB HB.out.size
            have hnl : g.NS.length = g.nl := HG.out.nds.1
            have hi2 : (0 : Int) ≤ (k : Int) := by omega
            have hi3 : (k : Int) < (g.nl : Int) := by omega
            have US := Aside0.mk (show 0 < wx.drew.heap.size from Nat.lt_of_le_of_lt (Nat.zero_le _) (blk_lt BK3.out))
            have HR := Aside0.mk (Below.refl wx.heap.size wx)
            have UZ := US
            clear HX HP
            refine start_ (n := 18) (S := fun w' => True) (ds := []) #[false, false, false, false, false, false, false, false, false, false, false, false, false, false, false, false, false, false] (by kernel_rfl) rfl rfl trivial (fun hHeld => ?_)
            refine with_tabW wk6.tab6 wk6.bits6 (fun HT_ HW_ => ?_)
            refine inv_at [0, 1, 2, 3, 4, 5, 6, 7, 8, 9, 10, 11, 12, 13, 14, 15, 16, 17] (fun a0_ b a w' => ∃ (gz : Nat) (gy : Nat) (v41 : Value) (v47 : Value) (vr : Value) (m7_ : Value) (m14_ : Value) (m17_ : Value), a = putSel a0_ b [(0, 32, .agg #[.slice g.rA g.rl g.rc, .slice g.nA g.nl g.nc]), (1, 33, .pointer (some ⟨g3, 1, none⟩)), (2, 34, .slice (some yn) g.nl g.nc), (3, 35, .int .i64 (k : Int)), (4, 36, .pointer (some (yn.add (k * 6)))), (5, 37, .pointer (some ⟨(yn.add (k * 6)).block, (yn.add (k * 6)).off + 4, none⟩)), (6, 38, .slice q.A q.m q.c), (7, 39, m7_), (8, 40, .slice tA tn tc), (9, 41, v41), (10, 42, .slice (some yl) m c), (11, 43, .int .i64 (j : Int)), (12, 44, .pointer (some (yl.add j))), (13, 45, .int .i64 x), (14, 46, m14_), (15, 47, v47), (16, 48, vr), (17, 2, m17_)] ∧ (Below wx.heap.size wx w') ∧ (b 7 = true → b 9 = false → w'.heap[gz]? = some (.cells #[] 3 (0, 0)) ∧ wx.heap.size ≤ gz) ∧ (b 14 = true → b 15 = false → w'.heap[gy]? = some (.cells #[.int .i64 x] 3 (0, 0)) ∧ wx.heap.size ≤ gy ∧ gz ≠ gy) ∧ (b 9 = true → b 15 = false → w'.ownsRow wx.heap.size 3 1 v41 tn (s'.map (Value.int .i64))) ∧ (b 15 = true → b 16 = false → w'.ownsRow wx.heap.size 3 1 v47 (tn + 1) (s'.map (Value.int .i64) ++ [Value.int .i64 x])) ∧ (b 16 = true → VL .i64 w' vr (visitR g.NS f (s' ++ [x]) q.S)) ∧ (gz < w'.heap.size) ∧ (b 7 = true → (m7_ : Value) = .slice (some ⟨gz, 0, none⟩) 0 0) ∧ (b 14 = true → (m14_ : Value) = .slice (some ⟨gy, 0, none⟩) 1 1) ∧ (b 17 = true → (m17_ : Value) = vr)) HT_.out HW_.out (by kernel_rfl) (by kernel_rfl) ?_ ?_ ?_
            · exact ⟨0, 0, .bool false, .bool false, .bool false, .bool false, .bool false, .bool false, by simp only [putSel, Bool.false_eq_true, if_false], below_drew1 HR.out, fun h_ => absurd h_ (by decide), fun h_ => absurd h_ (by decide), fun h_ => absurd h_ (by decide), fun h_ => absurd h_ (by decide), fun h_ => absurd h_ (by decide), US.out, fun h_ => absurd h_ (by decide), fun h_ => absurd h_ (by decide), fun h_ => absurd h_ (by decide)⟩
            · skip
              clear HR UZ
              refine steps_cons ?_ ?_
              · rintro b a w' ⟨gz, gy, v41, v47, vr, m7_, m14_, m17_, ha, Q_HR, Q_EZ, Q_BY, Q_R41, Q_R47, Q_RES, Q_UZ, Q_X7_, Q_X14_, Q_X17_⟩ hb_ hon hoff
                refine ⟨_, rfl, fun K hK => ?_⟩
                have e3 : a.tmps[3]? = some (.pointer (some ⟨g3, 0, none⟩)) := by rw [ha]; exact (putSel_off rfl).trans rfl
                replace ha := Aside0.mk ha
                have HR := Aside0.mk Q_HR
                have UZ := Aside0.mk Q_UZ
                have hl32_0 : w'.cell? ⟨g3, 0, none⟩ = some (.slice g.rA g.rl g.rc) := (blk_cell (blk_below BK3.out HR.out) 0).trans rfl
                have hl32_1 : w'.cell? ⟨g3, 1, none⟩ = some (.slice g.nA g.nl g.nc) := (blk_cell (blk_below BK3.out HR.out) 1).trans rfl
                refine value_ (w1 := w') (v := .agg #[.slice g.rA g.rl g.rc, .slice g.nA g.nl g.nc]) (by rfl) rfl ?_ ?_
                · go_simp
                  (try simp only [i64_w])
                  try rfl
                refine hK.out _ _ ⟨gz, gy, v41, v47, vr, m7_, m14_, m17_, (by rw [ha.out]; exact putSel_upk 0 hb_ rfl rfl rfl), Q_HR, Q_EZ, Q_BY, Q_R41, Q_R47, fun h0_ => absurd ((hoff 16 (by kernel_rfl)).symm.trans h0_) (by decide), Q_UZ, Q_X7_, Q_X14_, fun h0_ => absurd ((hoff 17 (by kernel_rfl)).symm.trans h0_) (by decide)⟩
              refine steps_cons ?_ ?_
              · rintro b a w' ⟨gz, gy, v41, v47, vr, m7_, m14_, m17_, ha, Q_HR, Q_EZ, Q_BY, Q_R41, Q_R47, Q_RES, Q_UZ, Q_X7_, Q_X14_, Q_X17_⟩ hb_ hon hoff
                refine ⟨_, rfl, fun K hK => ?_⟩
                have e3 : a.tmps[3]? = some (.pointer (some ⟨g3, 0, none⟩)) := by rw [ha]; exact (putSel_off rfl).trans rfl
                replace ha := Aside0.mk ha
                have HR := Aside0.mk Q_HR
                have UZ := Aside0.mk Q_UZ
                refine value_ (w1 := w') (v := .pointer (some ⟨g3, 1, none⟩)) (by rfl) rfl ?_ ?_
                · go_simp
                  (try simp only [i64_w])
                  try rfl
                refine hK.out _ _ ⟨gz, gy, v41, v47, vr, m7_, m14_, m17_, (by rw [ha.out]; exact putSel_upk 1 hb_ rfl rfl rfl), Q_HR, Q_EZ, Q_BY, Q_R41, Q_R47, fun h0_ => absurd ((hoff 16 (by kernel_rfl)).symm.trans h0_) (by decide), Q_UZ, Q_X7_, Q_X14_, fun h0_ => absurd ((hoff 17 (by kernel_rfl)).symm.trans h0_) (by decide)⟩
              refine steps_cons ?_ ?_
              · rintro b a w' ⟨gz, gy, v41, v47, vr, m7_, m14_, m17_, ha, Q_HR, Q_EZ, Q_BY, Q_R41, Q_R47, Q_RES, Q_UZ, Q_X7_, Q_X14_, Q_X17_⟩ hb_ hon hoff
                refine ⟨_, rfl, fun K hK => ?_⟩
                have e33 : a.tmps[33]? = some (.pointer (some ⟨g3, 1, none⟩)) := by rw [ha]; exact putSel_on (e := (1, 33, .pointer (some ⟨g3, 1, none⟩))) 1 rfl rfl (hon 1 (by kernel_rfl)) rfl
                replace ha := Aside0.mk ha
                have HR := Aside0.mk Q_HR
                have UZ := Aside0.mk Q_UZ
                have hl34 : w'.cell? ⟨g3, 1, none⟩ = some (.slice (some yn) g.nl g.nc) := by rw [← en]; exact (blk_cell (blk_below BK3.out HR.out) 1).trans rfl
                refine value_ (w1 := w') (v := .slice (some yn) g.nl g.nc) (by rfl) rfl ?_ ?_
                · go_simp
                  (try simp only [i64_w])
                  try rfl
                refine hK.out _ _ ⟨gz, gy, v41, v47, vr, m7_, m14_, m17_, (by rw [ha.out]; exact putSel_upk 2 hb_ rfl rfl rfl), Q_HR, Q_EZ, Q_BY, Q_R41, Q_R47, fun h0_ => absurd ((hoff 16 (by kernel_rfl)).symm.trans h0_) (by decide), Q_UZ, Q_X7_, Q_X14_, fun h0_ => absurd ((hoff 17 (by kernel_rfl)).symm.trans h0_) (by decide)⟩
              refine steps_cons ?_ ?_
              · rintro b a w' ⟨gz, gy, v41, v47, vr, m7_, m14_, m17_, ha, Q_HR, Q_EZ, Q_BY, Q_R41, Q_R47, Q_RES, Q_UZ, Q_X7_, Q_X14_, Q_X17_⟩ hb_ hon hoff
                refine ⟨_, rfl, fun K hK => ?_⟩
                have e8 : a.tmps[8]? = some (.int .i64 (k : Int)) := by rw [ha]; exact (putSel_off rfl).trans rfl
                replace ha := Aside0.mk ha
                have HR := Aside0.mk Q_HR
                have UZ := Aside0.mk Q_UZ
                refine value_ (w1 := w') (v := .int .i64 (k : Int)) (by rfl) rfl ?_ ?_
                · go_simp
                  (try simp only [i64_w])
                  try rfl
                refine hK.out _ _ ⟨gz, gy, v41, v47, vr, m7_, m14_, m17_, (by rw [ha.out]; exact putSel_upk 3 hb_ rfl rfl rfl), Q_HR, Q_EZ, Q_BY, Q_R41, Q_R47, fun h0_ => absurd ((hoff 16 (by kernel_rfl)).symm.trans h0_) (by decide), Q_UZ, Q_X7_, Q_X14_, fun h0_ => absurd ((hoff 17 (by kernel_rfl)).symm.trans h0_) (by decide)⟩
              refine steps_cons ?_ ?_
              · rintro b a w' ⟨gz, gy, v41, v47, vr, m7_, m14_, m17_, ha, Q_HR, Q_EZ, Q_BY, Q_R41, Q_R47, Q_RES, Q_UZ, Q_X7_, Q_X14_, Q_X17_⟩ hb_ hon hoff
                refine ⟨_, rfl, fun K hK => ?_⟩
                have e34 : a.tmps[34]? = some (.slice (some yn) g.nl g.nc) := by rw [ha]; exact putSel_on (e := (2, 34, .slice (some yn) g.nl g.nc)) 2 rfl rfl (hon 2 (by kernel_rfl)) rfl
                have e35 : a.tmps[35]? = some (.int .i64 (k : Int)) := by rw [ha]; exact putSel_on (e := (3, 35, .int .i64 (k : Int))) 3 rfl rfl (hon 3 (by kernel_rfl)) rfl
                replace ha := Aside0.mk ha
                have HR := Aside0.mk Q_HR
                have UZ := Aside0.mk Q_UZ
                refine value_ (w1 := w') (v := .pointer (some (yn.add (k * 6)))) (by rfl) rfl ?_ ?_
                · go_simp
                  (try simp only [i64_w])
                  try rfl
                refine hK.out _ _ ⟨gz, gy, v41, v47, vr, m7_, m14_, m17_, (by rw [ha.out]; exact putSel_upk 4 hb_ rfl rfl rfl), Q_HR, Q_EZ, Q_BY, Q_R41, Q_R47, fun h0_ => absurd ((hoff 16 (by kernel_rfl)).symm.trans h0_) (by decide), Q_UZ, Q_X7_, Q_X14_, fun h0_ => absurd ((hoff 17 (by kernel_rfl)).symm.trans h0_) (by decide)⟩
              refine steps_cons ?_ ?_
              · rintro b a w' ⟨gz, gy, v41, v47, vr, m7_, m14_, m17_, ha, Q_HR, Q_EZ, Q_BY, Q_R41, Q_R47, Q_RES, Q_UZ, Q_X7_, Q_X14_, Q_X17_⟩ hb_ hon hoff
                refine ⟨_, rfl, fun K hK => ?_⟩
                have e36 : a.tmps[36]? = some (.pointer (some (yn.add (k * 6)))) := by rw [ha]; exact putSel_on (e := (4, 36, .pointer (some (yn.add (k * 6))))) 4 rfl rfl (hon 4 (by kernel_rfl)) rfl
                replace ha := Aside0.mk ha
                have HR := Aside0.mk Q_HR
                have UZ := Aside0.mk Q_UZ
                refine value_ (w1 := w') (v := .pointer (some ⟨(yn.add (k * 6)).block, (yn.add (k * 6)).off + 4, none⟩)) (by rfl) rfl ?_ ?_
                · go_simp
                  (try simp only [i64_w])
                  try rfl
                refine hK.out _ _ ⟨gz, gy, v41, v47, vr, m7_, m14_, m17_, (by rw [ha.out]; exact putSel_upk 5 hb_ rfl rfl rfl), Q_HR, Q_EZ, Q_BY, Q_R41, Q_R47, fun h0_ => absurd ((hoff 16 (by kernel_rfl)).symm.trans h0_) (by decide), Q_UZ, Q_X7_, Q_X14_, fun h0_ => absurd ((hoff 17 (by kernel_rfl)).symm.trans h0_) (by decide)⟩
              refine steps_cons ?_ ?_
              · rintro b a w' ⟨gz, gy, v41, v47, vr, m7_, m14_, m17_, ha, Q_HR, Q_EZ, Q_BY, Q_R41, Q_R47, Q_RES, Q_UZ, Q_X7_, Q_X14_, Q_X17_⟩ hb_ hon hoff
                refine ⟨_, rfl, fun K hK => ?_⟩
                have e37 : a.tmps[37]? = some (.pointer (some ⟨(yn.add (k * 6)).block, (yn.add (k * 6)).off + 4, none⟩)) := by rw [ha]; exact putSel_on (e := (5, 37, .pointer (some ⟨(yn.add (k * 6)).block, (yn.add (k * 6)).off + 4, none⟩))) 5 rfl rfl (hon 5 (by kernel_rfl)) rfl
                replace ha := Aside0.mk ha
                have HR := Aside0.mk Q_HR
                have UZ := Aside0.mk Q_UZ
                have hl38 : w'.cell? ⟨(yn.add (k * 6)).block, (yn.add (k * 6)).off + 4, none⟩ = some (.slice q.A q.m q.c) := (HR.out.cell (p := ⟨(yn.add (k * 6)).block, (yn.add (k * 6)).off + 4, none⟩) (cell_lt hq4)).trans hq4
                refine value_ (w1 := w') (v := .slice q.A q.m q.c) (by rfl) rfl ?_ ?_
                · go_simp
                  (try simp only [i64_w])
                  try rfl
                refine hK.out _ _ ⟨gz, gy, v41, v47, vr, m7_, m14_, m17_, (by rw [ha.out]; exact putSel_upk 6 hb_ rfl rfl rfl), Q_HR, Q_EZ, Q_BY, Q_R41, Q_R47, fun h0_ => absurd ((hoff 16 (by kernel_rfl)).symm.trans h0_) (by decide), Q_UZ, Q_X7_, Q_X14_, fun h0_ => absurd ((hoff 17 (by kernel_rfl)).symm.trans h0_) (by decide)⟩
              refine steps_cons ?_ ?_
              · rintro b a w' ⟨gz, gy, v41, v47, vr, m7_, m14_, m17_, ha, Q_HR, Q_EZ, Q_BY, Q_R41, Q_R47, Q_RES, Q_UZ, Q_X7_, Q_X14_, Q_X17_⟩ hb_ hon hoff
                refine ⟨_, rfl, fun K hK => ?_⟩
                replace ha := Aside0.mk ha
                have HR := Aside0.mk Q_HR
                have UZ := Aside0.mk Q_UZ
                refine value_ (w1 := ?_) (v := ?_) (by rfl) rfl ?_ ?_
                rotate_left 2
                · go_simp
                  constructor
                  · rfl
                  · rfl
                have hb := below_alloc (Below.refl w'.heap.size w') (.cells #[] 3)
                refine hK.out _ _ ⟨w'.heap.size, gy, v41, v47, vr, (.slice (some ⟨w'.heap.size, 0, none⟩) 0 0), m14_, m17_, (by rw [ha.out]; exact putSel_upk 7 hb_ rfl rfl rfl), (below_step HR.out hb), fun _ _ => ⟨blk_new w' (.cells #[] 3), below_size HR.out⟩, fun h0_ h1_ => ⟨blk_below (Q_BY h0_ h1_).1 hb, (Q_BY h0_ h1_).2.1, Nat.ne_of_gt (blk_lt (Q_BY h0_ h1_).1)⟩, fun h0_ _ => absurd ((hoff 9 (by kernel_rfl)).symm.trans h0_) (by decide), fun h0_ _ => absurd ((hoff 15 (by kernel_rfl)).symm.trans h0_) (by decide), fun h0_ => absurd ((hoff 16 (by kernel_rfl)).symm.trans h0_) (by decide), (by rw [World.size_alloc]; exact Nat.lt_succ_self _), fun _ => rfl, Q_X14_, fun h0_ => absurd ((hoff 17 (by kernel_rfl)).symm.trans h0_) (by decide)⟩
              refine steps_cons ?_ ?_
              · rintro b a w' ⟨gz, gy, v41, v47, vr, m7_, m14_, m17_, ha, Q_HR, Q_EZ, Q_BY, Q_R41, Q_R47, Q_RES, Q_UZ, Q_X7_, Q_X14_, Q_X17_⟩ hb_ hon hoff
                refine ⟨_, rfl, fun K hK => ?_⟩
                have e2 : a.tmps[2]? = some (.slice tA tn tc) := by rw [ha]; exact (putSel_not (hoff 17 (by kernel_rfl)) rfl).trans rfl
                replace ha := Aside0.mk ha
                have HR := Aside0.mk Q_HR
                have UZ := Aside0.mk Q_UZ
                refine value_ (w1 := w') (v := .slice tA tn tc) (by rfl) rfl ?_ ?_
                · go_simp
                  (try simp only [i64_w])
                  try rfl
                refine hK.out _ _ ⟨gz, gy, v41, v47, vr, m7_, m14_, m17_, (by rw [ha.out]; exact putSel_upk 8 hb_ rfl rfl rfl), Q_HR, Q_EZ, Q_BY, fun h0_ _ => absurd ((hoff 9 (by kernel_rfl)).symm.trans h0_) (by decide), fun h0_ _ => absurd ((hoff 15 (by kernel_rfl)).symm.trans h0_) (by decide), fun h0_ => absurd ((hoff 16 (by kernel_rfl)).symm.trans h0_) (by decide), Q_UZ, Q_X7_, Q_X14_, fun h0_ => absurd ((hoff 17 (by kernel_rfl)).symm.trans h0_) (by decide)⟩
              refine steps_cons ?_ ?_
              · rintro b a w' ⟨gz, gy, v41, v47, vr, m7_, m14_, m17_, ha, Q_HR, Q_EZ, Q_BY, Q_R41, Q_R47, Q_RES, Q_UZ, Q_X7_, Q_X14_, Q_X17_⟩ hb_ hon hoff
                refine ⟨_, rfl, fun K hK => ?_⟩
                have e39 : a.tmps[39]? = some (m7_) := by rw [ha]; exact putSel_on (e := (7, 39, m7_)) 7 rfl rfl (hon 7 (by kernel_rfl)) rfl
                rw [Q_X7_ (hon 7 (by kernel_rfl))] at e39
                have e40 : a.tmps[40]? = some (.slice tA tn tc) := by rw [ha]; exact putSel_on (e := (8, 40, .slice tA tn tc)) 8 rfl rfl (hon 8 (by kernel_rfl)) rfl
                replace ha := Aside0.mk ha
                have HR := Aside0.mk Q_HR
                have EZ := Aside0.mk (Q_EZ (hon 7 (by kernel_rfl)) hb_)
                have UZ := Aside0.mk Q_UZ
                refine append_il_ (by rfl) rfl (.tmp 39) (.tmp 40) 22 rfl .i64 w'.heap.size wx.heap.size 3 i0 (.int .i64 0) 8 Try.underlying22 hi hz0 hz1 hz2 rfl (.slice (some ⟨gz, 0, none⟩) 0 0) 0 [] ?qs1 (row_empty EZ.out.1 EZ.out.2) tA tn tc s' ?qx1 (HS.out.to HR.out) (by unfold maxLen; omega) (by omega) (below_size HR.out) ?_
                (case qs1 => simp [Act.eval, e39])
                (case qx1 => simp [Act.eval, e40])
                rw [Nat.zero_add, List.nil_append]
                intro v9 w9 hown9 hgr9
                have hrz := row_empty (s := 1) EZ.out.1 EZ.out.2
                refine hK.out _ _ ⟨gz, gy, v9, v47, vr, m7_, m14_, m17_, (by rw [ha.out]; exact putSel_upk 9 hb_ rfl rfl rfl), (own_below HR.out (Nat.le_refl _) hrz hgr9), fun _ h1_ => absurd ((up_self b 9).symm.trans h1_) (by decide), fun h0_ h1_ => ⟨(hgr9.block _ (blk_lt (Q_BY h0_ h1_).1) (fun e => (Q_BY h0_ h1_).2.2 (Option.some.inj e).symm)).trans (Q_BY h0_ h1_).1, (Q_BY h0_ h1_).2⟩, fun _ _ => hown9, fun h0_ _ => absurd ((hoff 15 (by kernel_rfl)).symm.trans h0_) (by decide), fun h0_ => absurd ((hoff 16 (by kernel_rfl)).symm.trans h0_) (by decide), (Nat.lt_of_lt_of_le UZ.out hgr9.size), Q_X7_, Q_X14_, fun h0_ => absurd ((hoff 17 (by kernel_rfl)).symm.trans h0_) (by decide)⟩
              refine steps_cons ?_ ?_
              · rintro b a w' ⟨gz, gy, v41, v47, vr, m7_, m14_, m17_, ha, Q_HR, Q_EZ, Q_BY, Q_R41, Q_R47, Q_RES, Q_UZ, Q_X7_, Q_X14_, Q_X17_⟩ hb_ hon hoff
                refine ⟨_, rfl, fun K hK => ?_⟩
                have e1 : a.tmps[1]? = some (.slice (some yl) m c) := by rw [ha]; exact (putSel_off rfl).trans rfl
                replace ha := Aside0.mk ha
                have HR := Aside0.mk Q_HR
                have UZ := Aside0.mk Q_UZ
                refine value_ (w1 := w') (v := .slice (some yl) m c) (by rfl) rfl ?_ ?_
                · go_simp
                  (try simp only [i64_w])
                  try rfl
                refine hK.out _ _ ⟨gz, gy, v41, v47, vr, m7_, m14_, m17_, (by rw [ha.out]; exact putSel_upk 10 hb_ rfl rfl rfl), Q_HR, Q_EZ, fun h0_ _ => absurd ((hoff 14 (by kernel_rfl)).symm.trans h0_) (by decide), Q_R41, fun h0_ _ => absurd ((hoff 15 (by kernel_rfl)).symm.trans h0_) (by decide), fun h0_ => absurd ((hoff 16 (by kernel_rfl)).symm.trans h0_) (by decide), Q_UZ, Q_X7_, fun h0_ => absurd ((hoff 14 (by kernel_rfl)).symm.trans h0_) (by decide), fun h0_ => absurd ((hoff 17 (by kernel_rfl)).symm.trans h0_) (by decide)⟩
              refine steps_cons ?_ ?_
              · rintro b a w' ⟨gz, gy, v41, v47, vr, m7_, m14_, m17_, ha, Q_HR, Q_EZ, Q_BY, Q_R41, Q_R47, Q_RES, Q_UZ, Q_X7_, Q_X14_, Q_X17_⟩ hb_ hon hoff
                refine ⟨_, rfl, fun K hK => ?_⟩
                have e7 : a.tmps[7]? = some (.int .i64 (j : Int)) := by rw [ha]; exact (putSel_off rfl).trans rfl
                replace ha := Aside0.mk ha
                have HR := Aside0.mk Q_HR
                have UZ := Aside0.mk Q_UZ
                refine value_ (w1 := w') (v := .int .i64 (j : Int)) (by rfl) rfl ?_ ?_
                · go_simp
                  (try simp only [i64_w])
                  try rfl
                refine hK.out _ _ ⟨gz, gy, v41, v47, vr, m7_, m14_, m17_, (by rw [ha.out]; exact putSel_upk 11 hb_ rfl rfl rfl), Q_HR, Q_EZ, fun h0_ _ => absurd ((hoff 14 (by kernel_rfl)).symm.trans h0_) (by decide), Q_R41, fun h0_ _ => absurd ((hoff 15 (by kernel_rfl)).symm.trans h0_) (by decide), fun h0_ => absurd ((hoff 16 (by kernel_rfl)).symm.trans h0_) (by decide), Q_UZ, Q_X7_, fun h0_ => absurd ((hoff 14 (by kernel_rfl)).symm.trans h0_) (by decide), fun h0_ => absurd ((hoff 17 (by kernel_rfl)).symm.trans h0_) (by decide)⟩
              refine steps_cons ?_ ?_
              · rintro b a w' ⟨gz, gy, v41, v47, vr, m7_, m14_, m17_, ha, Q_HR, Q_EZ, Q_BY, Q_R41, Q_R47, Q_RES, Q_UZ, Q_X7_, Q_X14_, Q_X17_⟩ hb_ hon hoff
                refine ⟨_, rfl, fun K hK => ?_⟩
                have e42 : a.tmps[42]? = some (.slice (some yl) m c) := by rw [ha]; exact putSel_on (e := (10, 42, .slice (some yl) m c)) 10 rfl rfl (hon 10 (by kernel_rfl)) rfl
                have e43 : a.tmps[43]? = some (.int .i64 (j : Int)) := by rw [ha]; exact putSel_on (e := (11, 43, .int .i64 (j : Int))) 11 rfl rfl (hon 11 (by kernel_rfl)) rfl
                replace ha := Aside0.mk ha
                have HR := Aside0.mk Q_HR
                have UZ := Aside0.mk Q_UZ
                refine value_ (w1 := w') (v := .pointer (some (yl.add j))) (by rfl) rfl ?_ ?_
                · go_simp
                  (try simp only [i64_w])
                  try rfl
                refine hK.out _ _ ⟨gz, gy, v41, v47, vr, m7_, m14_, m17_, (by rw [ha.out]; exact putSel_upk 12 hb_ rfl rfl rfl), Q_HR, Q_EZ, fun h0_ _ => absurd ((hoff 14 (by kernel_rfl)).symm.trans h0_) (by decide), Q_R41, fun h0_ _ => absurd ((hoff 15 (by kernel_rfl)).symm.trans h0_) (by decide), fun h0_ => absurd ((hoff 16 (by kernel_rfl)).symm.trans h0_) (by decide), Q_UZ, Q_X7_, fun h0_ => absurd ((hoff 14 (by kernel_rfl)).symm.trans h0_) (by decide), fun h0_ => absurd ((hoff 17 (by kernel_rfl)).symm.trans h0_) (by decide)⟩
              refine steps_cons ?_ ?_
              · rintro b a w' ⟨gz, gy, v41, v47, vr, m7_, m14_, m17_, ha, Q_HR, Q_EZ, Q_BY, Q_R41, Q_R47, Q_RES, Q_UZ, Q_X7_, Q_X14_, Q_X17_⟩ hb_ hon hoff
                refine ⟨_, rfl, fun K hK => ?_⟩
                have e44 : a.tmps[44]? = some (.pointer (some (yl.add j))) := by rw [ha]; exact putSel_on (e := (12, 44, .pointer (some (yl.add j)))) 12 rfl rfl (hon 12 (by kernel_rfl)) rfl
                replace ha := Aside0.mk ha
                have HR := Aside0.mk Q_HR
                have UZ := Aside0.mk Q_UZ
                have hl45 : w'.cell? (yl.add j) = some (.int .i64 x) := (HR.out.cell (p := yl.add j) (cell_lt hyx)).trans hyx
                refine value_ (w1 := w') (v := .int .i64 x) (by rfl) rfl ?_ ?_
                · go_simp
                  (try simp only [i64_w])
                  try rfl
                refine hK.out _ _ ⟨gz, gy, v41, v47, vr, m7_, m14_, m17_, (by rw [ha.out]; exact putSel_upk 13 hb_ rfl rfl rfl), Q_HR, Q_EZ, fun h0_ _ => absurd ((hoff 14 (by kernel_rfl)).symm.trans h0_) (by decide), Q_R41, fun h0_ _ => absurd ((hoff 15 (by kernel_rfl)).symm.trans h0_) (by decide), fun h0_ => absurd ((hoff 16 (by kernel_rfl)).symm.trans h0_) (by decide), Q_UZ, Q_X7_, fun h0_ => absurd ((hoff 14 (by kernel_rfl)).symm.trans h0_) (by decide), fun h0_ => absurd ((hoff 17 (by kernel_rfl)).symm.trans h0_) (by decide)⟩
              refine steps_cons ?_ ?_
              · rintro b a w' ⟨gz, gy, v41, v47, vr, m7_, m14_, m17_, ha, Q_HR, Q_EZ, Q_BY, Q_R41, Q_R47, Q_RES, Q_UZ, Q_X7_, Q_X14_, Q_X17_⟩ hb_ hon hoff
                refine ⟨_, rfl, fun K hK => ?_⟩
                have e45 : a.tmps[45]? = some (.int .i64 x) := by rw [ha]; exact putSel_on (e := (13, 45, .int .i64 x)) 13 rfl rfl (hon 13 (by kernel_rfl)) rfl
                replace ha := Aside0.mk ha
                have HR := Aside0.mk Q_HR
                have UZ := Aside0.mk Q_UZ
                refine value_ (w1 := ?_) (v := ?_) (by rfl) rfl ?_ ?_
                rotate_left 2
                · go_simp
                  constructor
                  · rfl
                  · rfl
                have hb := below_alloc (Below.refl w'.heap.size w') (.cells #[.int .i64 x] 3)
                refine hK.out _ _ ⟨gz, w'.heap.size, v41, v47, vr, m7_, (.slice (some ⟨w'.heap.size, 0, none⟩) 1 1), m17_, (by rw [ha.out]; exact putSel_upk 14 hb_ rfl rfl rfl), (below_step HR.out hb), fun h0_ h1_ => ⟨blk_below (Q_EZ h0_ h1_).1 hb, (Q_EZ h0_ h1_).2⟩, fun _ _ => ⟨blk_new w' (.cells #[.int .i64 x] 3), below_size HR.out, Nat.ne_of_lt UZ.out⟩, fun h0_ h1_ => (Di.row_below (Q_R41 h0_ h1_) hb), fun h0_ _ => absurd ((hoff 15 (by kernel_rfl)).symm.trans h0_) (by decide), fun h0_ => absurd ((hoff 16 (by kernel_rfl)).symm.trans h0_) (by decide), (Nat.lt_of_lt_of_le UZ.out hb.size), Q_X7_, fun _ => rfl, fun h0_ => absurd ((hoff 17 (by kernel_rfl)).symm.trans h0_) (by decide)⟩
              refine steps_cons ?_ ?_
              · rintro b a w' ⟨gz, gy, v41, v47, vr, m7_, m14_, m17_, ha, Q_HR, Q_EZ, Q_BY, Q_R41, Q_R47, Q_RES, Q_UZ, Q_X7_, Q_X14_, Q_X17_⟩ hb_ hon hoff
                refine ⟨_, rfl, fun K hK => ?_⟩
                have e41 : a.tmps[41]? = some (v41) := by rw [ha]; exact putSel_on (e := (9, 41, v41)) 9 rfl rfl (hon 9 (by kernel_rfl)) rfl
                have e46 : a.tmps[46]? = some (m14_) := by rw [ha]; exact putSel_on (e := (14, 46, m14_)) 14 rfl rfl (hon 14 (by kernel_rfl)) rfl
                rw [Q_X14_ (hon 14 (by kernel_rfl))] at e46
                replace ha := Aside0.mk ha
                have HR := Aside0.mk Q_HR
                have BY := Aside0.mk (Q_BY (hon 14 (by kernel_rfl)) hb_)
                have R41 := Aside0.mk (Q_R41 (hon 9 (by kernel_rfl)) hb_)
                have UZ := Aside0.mk Q_UZ
                refine append_ (by rfl) rfl (.tmp 41) (.tmp 46) 22 rfl wx.heap.size 3 i0 (.int .i64 0) 1 8 Try.underlying22 hi hz0 hz1 hz2 rfl (by decide) v41 tn _ ?qs2 R41.out ⟨gy, 0, none⟩ 1 1 [.int .i64 x] ?qx2 rfl (one_cells BY.out.1) ?qo2 (by unfold maxLen; omega) (by omega) (below_size HR.out) ?_
                (case qs2 => simp [Act.eval, e41])
                (case qx2 => simp [Act.eval, e46])
                (case qo2 => intro u hu; simp at hu; subst hu; rfl)
                intro v9 w9 hown9 hgr9
                refine hK.out _ _ ⟨gz, gy, v41, v9, vr, m7_, m14_, m17_, (by rw [ha.out]; exact putSel_upk 15 hb_ rfl rfl rfl), (own_below HR.out (Nat.le_refl _) R41.out hgr9), fun _ h1_ => absurd ((hon 9 (by kernel_rfl)).symm.trans h1_) (by decide), fun _ h1_ => absurd ((up_self b 15).symm.trans h1_) (by decide), fun _ h1_ => absurd ((up_self b 15).symm.trans h1_) (by decide), fun _ _ => hown9, fun h0_ => absurd ((hoff 16 (by kernel_rfl)).symm.trans h0_) (by decide), (Nat.lt_of_lt_of_le UZ.out hgr9.size), Q_X7_, Q_X14_, fun h0_ => absurd ((hoff 17 (by kernel_rfl)).symm.trans h0_) (by decide)⟩
              refine steps_cons ?_ ?_
              · rintro b a w' ⟨gz, gy, v41, v47, vr, m7_, m14_, m17_, ha, Q_HR, Q_EZ, Q_BY, Q_R41, Q_R47, Q_RES, Q_UZ, Q_X7_, Q_X14_, Q_X17_⟩ hb_ hon hoff
                refine ⟨_, rfl, fun K hK => ?_⟩
                have e32 : a.tmps[32]? = some (.agg #[.slice g.rA g.rl g.rc, .slice g.nA g.nl g.nc]) := by rw [ha]; exact putSel_on (e := (0, 32, .agg #[.slice g.rA g.rl g.rc, .slice g.nA g.nl g.nc])) 0 rfl rfl (hon 0 (by kernel_rfl)) rfl
                have e38 : a.tmps[38]? = some (.slice q.A q.m q.c) := by rw [ha]; exact putSel_on (e := (6, 38, .slice q.A q.m q.c)) 6 rfl rfl (hon 6 (by kernel_rfl)) rfl
                have e47 : a.tmps[47]? = some (v47) := by rw [ha]; exact putSel_on (e := (15, 47, v47)) 15 rfl rfl (hon 15 (by kernel_rfl)) rfl
                replace ha := Aside0.mk ha
                have HR := Aside0.mk Q_HR
                have R47 := Aside0.mk (Q_R47 (hon 15 (by kernel_rfl)) hb_)
                have UZ := Aside0.mk Q_UZ
                refine goes_ Try.func50 (by kernel_rfl) rfl #[.agg #[.slice g.rA g.rl g.rc, .slice g.nA g.nl g.nc], .slice q.A q.m q.c, v47] (by rfl) rfl rfl (by first | (simp only [List.map_toArray, List.map_cons, List.map_nil, Act.eval, Array.getD_eq_getD_getElem?, Option.getD_some, e32, e38, e47]; done) | (simp only [List.map_toArray, List.map_cons, List.map_nil, Act.eval, Array.getD_eq_getD_getElem?, Option.getD_some, e32, e38, e47]; rfl)) ?_
                with_reducible refine (IH.out _ B (s' ++ [x]) q.S q.A q.m q.c v47 (Nat.le_trans hB (Nat.le_trans HB.out.size HR.out.size)) (Aside0.mk (HG.out.kept fun k hk => (HB.out.trans (HR.out.mono HB.out.size)).block k (by omega))) (Aside0.mk ((QS.out.kept fun k hk => HR.out.block k (by omega)).up (by have := HR.out.size; omega))) hqm (Aside0.mk (VL_of_row (l := s' ++ [x]) (e := 3) (X := wx.heap.size) (n := tn + 1) (by rw [List.map_append, List.map_cons, List.map_nil]; exact R47.out))) HF6 HC6).mono ?_
                rintro e w3 ⟨v3, rfl, hv3, hb⟩
                refine ⟨_, rfl, ?_⟩
                refine hK.out _ _ ⟨gz, gy, v41, v47, v3, m7_, m14_, m17_, (by rw [ha.out]; exact putSel_upk 16 hb_ rfl rfl rfl), (below_step HR.out hb), fun _ h1_ => absurd ((hon 9 (by kernel_rfl)).symm.trans h1_) (by decide), fun _ h1_ => absurd ((hon 15 (by kernel_rfl)).symm.trans h1_) (by decide), fun _ h1_ => absurd ((hon 15 (by kernel_rfl)).symm.trans h1_) (by decide), fun _ h1_ => absurd ((up_self b 16).symm.trans h1_) (by decide), fun _ => hv3, (Nat.lt_of_lt_of_le UZ.out hb.size), Q_X7_, Q_X14_, fun h0_ => absurd ((hoff 17 (by kernel_rfl)).symm.trans h0_) (by decide)⟩
              refine steps_cons ?_ ?_
              · rintro b a w' ⟨gz, gy, v41, v47, vr, m7_, m14_, m17_, ha, Q_HR, Q_EZ, Q_BY, Q_R41, Q_R47, Q_RES, Q_UZ, Q_X7_, Q_X14_, Q_X17_⟩ hb_ hon hoff
                refine ⟨_, rfl, fun K hK => ?_⟩
                have e48 : a.tmps[48]? = some (vr) := by rw [ha]; exact putSel_on (e := (16, 48, vr)) 16 rfl rfl (hon 16 (by kernel_rfl)) rfl
                replace ha := Aside0.mk ha
                have HR := Aside0.mk Q_HR
                have RES := Aside0.mk (Q_RES (hon 16 (by kernel_rfl)))
                have UZ := Aside0.mk Q_UZ
                refine value_ (w1 := w') (v := vr) (by rfl) rfl ?_ ?_
                · go_simp
                  (try simp only [i64_w])
                  try rfl
                refine hK.out _ _ ⟨gz, gy, v41, v47, vr, m7_, m14_, (vr), (by rw [ha.out]; exact putSel_upk 17 hb_ rfl rfl rfl), Q_HR, fun _ h1_ => absurd ((hon 9 (by kernel_rfl)).symm.trans h1_) (by decide), fun _ h1_ => absurd ((hon 15 (by kernel_rfl)).symm.trans h1_) (by decide), fun _ h1_ => absurd ((hon 15 (by kernel_rfl)).symm.trans h1_) (by decide), fun _ h1_ => absurd ((hon 16 (by kernel_rfl)).symm.trans h1_) (by decide), Q_RES, Q_UZ, Q_X7_, Q_X14_, fun _ => rfl⟩
              exact steps_nil
            rintro b a wz hall ⟨gz, gy, v41, v47, vr, m7_, m14_, m17_, ha, Q_HR, Q_EZ, Q_BY, Q_R41, Q_R47, Q_RES, Q_UZ, Q_X7_, Q_X14_, Q_X17_⟩
            clear HR UZ
            have hb0_ := hall 0 (by kernel_rfl)
            have hb1_ := hall 1 (by kernel_rfl)
            have hb2_ := hall 2 (by kernel_rfl)
            have hb3_ := hall 3 (by kernel_rfl)
            have hb4_ := hall 4 (by kernel_rfl)
            have hb5_ := hall 5 (by kernel_rfl)
            have hb6_ := hall 6 (by kernel_rfl)
            have hb7_ := hall 7 (by kernel_rfl)
            have hb8_ := hall 8 (by kernel_rfl)
            have hb9_ := hall 9 (by kernel_rfl)
            have hb10_ := hall 10 (by kernel_rfl)
            have hb11_ := hall 11 (by kernel_rfl)
            have hb12_ := hall 12 (by kernel_rfl)
            have hb13_ := hall 13 (by kernel_rfl)
            have hb14_ := hall 14 (by kernel_rfl)
            have hb15_ := hall 15 (by kernel_rfl)
            have hb16_ := hall 16 (by kernel_rfl)
            have hb17_ := hall 17 (by kernel_rfl)
            subst ha
            obtain rfl := Q_X7_ hb7_
            obtain rfl := Q_X14_ hb14_
            obtain rfl := Q_X17_ hb17_
            simp only [putSel, hb0_, hb1_, hb2_, hb3_, hb4_, hb5_, hb6_, hb7_, hb8_, hb9_, hb10_, hb11_, hb12_, hb13_, hb14_, hb15_, hb16_, hb17_, if_true, Act.put, List.setIfInBounds_toArray, List.set_cons_zero, List.set_cons_succ]
            have HR := Aside0.mk Q_HR
            clear Q_HR
            clear Q_EZ
            clear Q_BY
            clear Q_R41
            clear Q_R47
            have RES := Aside0.mk (Q_RES hb16_)
            clear Q_RES
            have UZ := Aside0.mk Q_UZ
            clear Q_UZ
            clear hall hb0_ hb1_ hb2_ hb3_ hb4_ hb5_ hb6_ hb7_ hb8_ hb9_ hb10_ hb11_ hb12_ hb13_ hb14_ hb15_ hb16_ hb17_
            go_wp2
            go_roundw
            case measure => exact meas_i hgo (by push_cast; rfl)
            case rel => exact ⟨j + 1, _, hj1, by push_cast; rfl, RES, HST, Aside0.mk (below_step HB.out HR.out), Aside0.mk (blk_below BK3.out HR.out), HC7⟩
      · have hd : decide ((j : Int) < (m : Int)) = false := decide_eq_false (by omega)
        have hjm : j = m := by omega
        have hE : s' = visitR g.NS (f + 1) s l := by rw [visitR_eq, HE.out, hjm, List.take_of_length_le (by have := HL.out.1; omega)]
        have HEE := Aside0.mk hE
        clear hE
        go_wp2
        go_ret
        exact ⟨_, rfl, ⟨tA, tn, tc, rfl, by rw [← HEE.out]; exact HS.out⟩, HB.out⟩
end Go.Proofs.Ytekggbmajemmhaa.Gr
/- Apply: rows of nodes in memory: read, stored into, added to. No program text is walked here. -/
namespace Go.Proofs.Ytekggbmajemmhaa.Gr
open Go.RowKit Go.Shelf Go.Maps Go.ChangeMaps Go.MapKept Go.Proofs.YtekggbmajemmhaaW.PrintWords Go.Proofs.YtekggbmajemmhaaW.PrintLast Go.Proofs.YtekggbmajemmhaaW.PrintMore
set_option linter.unusedSimpArgs false
set_option linter.unusedVariables false
abbrev Nd.cells (x : Nd) : List Value := [.int .i64 x.adr, .int .i64 x.refs, .int .i64 x.sl, .int .i64 x.words, .slice x.A x.m x.c, .slice x.B x.n x.d]
def nds (l : List Nd) : List Value := l.flatMap Nd.cells
theorem nds_snoc (l : List Nd) (c : Nd) : nds (l ++ [c]) = nds l ++ c.cells := by simp [nds]
theorem nds_len (L : List Nd) : (nds L).length = L.length * 6 := by
  induction L with
  | nil => rfl
  | cons x L ih =>
    show (x.cells ++ nds L).length = _
    rw [List.length_append, ih]
    show 6 + L.length * 6 = (L.length + 1) * 6
    omega
theorem nds_at {L : List Nd} {i : Nat} (hi : i < L.length) (j : Nat) (hj : j < 6) : (nds L)[i * 6 + j]? = (L.getD i default).cells[j]? := by
  induction L generalizing i with
  | nil => simp at hi
  | cons x L ih =>
    cases i with
    | zero =>
      show (x.cells ++ nds L)[0 * 6 + j]? = _
      rw [List.getElem?_append_left (by show 0 * 6 + j < 6; omega), Nat.zero_mul, Nat.zero_add]
      rfl
    | succ i =>
      show (x.cells ++ nds L)[(i + 1) * 6 + j]? = _
      rw [List.getElem?_append_right (by show 6 ≤ (i + 1) * 6 + j; omega), show (i + 1) * 6 + j - x.cells.length = i * 6 + j by show (i + 1) * 6 + j - 6 = _; omega, ih (by simpa using hi)]
      rfl
theorem nds_set (q : Nd) : ∀ (L : List Nd) (i : Nat), i < L.length → ((((((nds L).set (i * 6) (.int .i64 q.adr)).set (i * 6 + 1) (.int .i64 q.refs)).set (i * 6 + 2) (.int .i64 q.sl)).set (i * 6 + 3) (.int .i64 q.words)).set (i * 6 + 4) (.slice q.A q.m q.c)).set (i * 6 + 5) (.slice q.B q.n q.d) = nds (L.set i q)
  | [], i, h => by simp at h
  | x :: L, 0, _ => rfl
  | x :: L, i + 1, h => by
    have ih := nds_set q L i (by simpa using h)
    rw [show (i + 1) * 6 = i * 6 + 6 by omega, show i * 6 + 6 + 1 = i * 6 + 1 + 6 by omega, show i * 6 + 6 + 2 = i * 6 + 2 + 6 by omega, show i * 6 + 6 + 3 = i * 6 + 3 + 6 by omega, show i * 6 + 6 + 4 = i * 6 + 4 + 6 by omega, show i * 6 + 6 + 5 = i * 6 + 5 + 6 by omega]
    show x.cells ++ ((((((nds L).set (i * 6) (.int .i64 q.adr)).set (i * 6 + 1) (.int .i64 q.refs)).set (i * 6 + 2) (.int .i64 q.sl)).set (i * 6 + 3) (.int .i64 q.words)).set (i * 6 + 4) (.slice q.A q.m q.c)).set (i * 6 + 5) (.slice q.B q.n q.d) = x.cells ++ nds (L.set i q)
    rw [ih]
theorem row40_form {W : World} {X n : Nat} {v : Value} {xs : List Value} (h : W.ownsRow X 40 6 v n xs) : (v = .slice none 0 0 ∧ n = 0) ∨ ∃ g cap, v = .slice (some ⟨g, 0, none⟩) n cap := by
  rcases h.2 with h0 | ⟨g, cap, cur, rfl, _⟩
  · exact .inl h0
  · exact .inr ⟨g, cap, rfl⟩
theorem row40_slice {W : World} {X n : Nat} {v : Value} {xs : List Value} (h : W.ownsRow X 40 6 v n xs) : ∃ a0 c0, v = .slice a0 n c0 := by
  rcases row40_form h with ⟨rfl, rfl⟩ | ⟨g, cap, rfl⟩
  · exact ⟨none, 0, rfl⟩
  · exact ⟨_, _, rfl⟩
theorem row40_len {W : World} {X n : Nat} {v : Value} {L : List Nd} (h : W.ownsRow X 40 6 v n (nds L)) : L.length = n := by
  have := h.1
  rw [nds_len] at this
  omega
theorem row_cell6 {W : World} {X g n cap : Nat} {L : List Nd} (h : W.ownsRow X 40 6 (.slice (some ⟨g, 0, none⟩) n cap) n (nds L)) {i : Nat} (hi : i < n) (j : Nat) (hj : j < 6) (u : Value) (hu : (L.getD i default).cells[j]? = some u) : W.cell? ⟨g, i * 6 + j, none⟩ = some u := by
  have hl := row40_len h
  rw [h.cellAt (i * 6 + j) (by omega), nds_at (by omega) j hj, hu]
/-- The six cells of a row's node. -/
theorem row40_six {W : World} {X n cap : Nat} {a : Option Addr} {L : List Nd} (h : W.ownsRow X 40 6 (.slice a n cap) n (nds L)) {i : Nat} (hi : i < n) :
    ∃ y, a = some y ∧ X ≤ y.block ∧ W.cell? (y.add (i * 6)) = some (.int .i64 (L.getD i default).adr) ∧ W.cell? { block := (y.add (i * 6)).block, off := (y.add (i * 6)).off + 1 } = some (.int .i64 (L.getD i default).refs) ∧ W.cell? { block := (y.add (i * 6)).block, off := (y.add (i * 6)).off + 2 } = some (.int .i64 (L.getD i default).sl) ∧ W.cell? { block := (y.add (i * 6)).block, off := (y.add (i * 6)).off + 3 } = some (.int .i64 (L.getD i default).words) ∧
      W.cell? { block := (y.add (i * 6)).block, off := (y.add (i * 6)).off + 4 } = some (.slice (L.getD i default).A (L.getD i default).m (L.getD i default).c) ∧ W.cell? { block := (y.add (i * 6)).block, off := (y.add (i * 6)).off + 5 } = some (.slice (L.getD i default).B (L.getD i default).n (L.getD i default).d) := by
  rcases row40_form h with ⟨_, h0⟩ | ⟨g, cap', e⟩
  · omega
  · cases e
    have h0 := row_cell6 h hi 0 (by decide) _ rfl
    have h1 := row_cell6 h hi 1 (by decide) _ rfl
    have h2 := row_cell6 h hi 2 (by decide) _ rfl
    have h3 := row_cell6 h hi 3 (by decide) _ rfl
    have h4 := row_cell6 h hi 4 (by decide) _ rfl
    have h5 := row_cell6 h hi 5 (by decide) _ rfl
    rw [Nat.add_zero] at h0
    have hX : X ≤ g := by
      rcases h.2 with ⟨e, _⟩ | ⟨g', _, _, e, hg, _⟩
      · cases e
      · cases e; exact hg
    have ea : (⟨g, 0, none⟩ : Addr).add (i * 6) = ⟨g, i * 6, none⟩ := by unfold Addr.add; split <;> simp_all
    refine ⟨_, rfl, hX, ?_⟩
    rw [ea]
    exact ⟨h0, h1, h2, h3, h4, h5⟩
abbrev put6 (W : World) (p : Addr) (q : Nd) : World := (((((W.setCell p (.int .i64 q.adr)).setCell { block := p.block, off := p.off + 1 } (.int .i64 q.refs)).setCell { block := p.block, off := p.off + 2 } (.int .i64 q.sl)).setCell { block := p.block, off := p.off + 3 } (.int .i64 q.words)).setCell { block := p.block, off := p.off + 4 } (.slice q.A q.m q.c)).setCell { block := p.block, off := p.off + 5 } (.slice q.B q.n q.d)
theorem grown_t {a b c : World} {row : Option Nat} (h : a.grownBy b row) (k : b.grownBy c row) : a.grownBy c row := ⟨k.os.trans h.os, k.tape.trans h.tape, k.output.trans h.output, Nat.le_trans h.size k.size, fun i hi hn => (k.block i (Nat.lt_of_lt_of_le hi h.size) hn).trans (h.block i hi hn)⟩
theorem row40_put {W : World} {X n cap : Nat} {y : Addr} {L : List Nd} (h : W.ownsRow X 40 6 (.slice (some y) n cap) n (nds L)) {i : Nat} (hi : i < n) (q : Nd) :
    (put6 W (y.add (i * 6)) q).ownsRow X 40 6 (.slice (some y) n cap) n (nds (L.set i q)) ∧ W.grownBy (put6 W (y.add (i * 6)) q) (some y.block) ∧ Below X W (put6 W (y.add (i * 6)) q) := by
  have hl := row40_len h
  rcases row40_form h with ⟨e, h0⟩ | ⟨g, cap', e⟩
  · cases e
  · cases e
    have ea : (⟨g, 0, none⟩ : Addr).add (i * 6) = ⟨g, i * 6, none⟩ := by unfold Addr.add; split <;> simp_all
    have hX : X ≤ g := by
      rcases h.2 with ⟨e, _⟩ | ⟨g', _, _, e, hg, _⟩
      · cases e
      · cases e; exact hg
    unfold put6
    rw [ea]
    have s0 := h.stored (i * 6) (.int .i64 q.adr)
    have s1 := s0.1.stored (i * 6 + 1) (.int .i64 q.refs)
    have s2 := s1.1.stored (i * 6 + 2) (.int .i64 q.sl)
    have s3 := s2.1.stored (i * 6 + 3) (.int .i64 q.words)
    have s4 := s3.1.stored (i * 6 + 4) (.slice q.A q.m q.c)
    have s5 := s4.1.stored (i * 6 + 5) (.slice q.B q.n q.d)
    have hs := s5.1
    rw [nds_set q L i (by omega)] at hs
    have hg := grown_t (grown_t (grown_t (grown_t (grown_t s0.2 s1.2) s2.2) s3.2) s4.2) s5.2
    exact ⟨hs, hg, ⟨hg.os, hg.tape, hg.output, hg.size, fun k hk => hg.block k (Nat.lt_of_lt_of_le hk (Nat.le_trans hX (Nat.le_of_lt (h.lt g rfl).2))) (fun e => by have h7 : k = g := Option.some.inj e; omega)⟩⟩
theorem row6g {W : World} {X g n cap : Nat} {L : List Nd} (h : W.ownsRow X 40 6 (.slice (some ⟨g, 0, none⟩) n cap) n (nds L)) {i : Nat} (hi : i < n) :
    W.cell? ⟨g, i * 6, none⟩ = some (.int .i64 (L.getD i default).adr) ∧ W.cell? ⟨g, i * 6 + 1, none⟩ = some (.int .i64 (L.getD i default).refs) ∧ W.cell? ⟨g, i * 6 + 2, none⟩ = some (.int .i64 (L.getD i default).sl) ∧ W.cell? ⟨g, i * 6 + 3, none⟩ = some (.int .i64 (L.getD i default).words) ∧ W.cell? ⟨g, i * 6 + 4, none⟩ = some (.slice (L.getD i default).A (L.getD i default).m (L.getD i default).c) ∧ W.cell? ⟨g, i * 6 + 5, none⟩ = some (.slice (L.getD i default).B (L.getD i default).n (L.getD i default).d) :=
  ⟨row_cell6 h hi 0 (by decide) _ rfl, row_cell6 h hi 1 (by decide) _ rfl, row_cell6 h hi 2 (by decide) _ rfl, row_cell6 h hi 3 (by decide) _ rfl, row_cell6 h hi 4 (by decide) _ rfl, row_cell6 h hi 5 (by decide) _ rfl⟩
theorem thaw6g {W : World} {X g n cap : Nat} {L : List Value} (h : W.ownsRow X 40 6 (.slice (some ⟨g, 0, none⟩) n cap) n L) (i : Nat) :
    W.frozen? ⟨g, i * 6, none⟩ = false ∧ W.frozen? ⟨g, i * 6 + 1, none⟩ = false ∧ W.frozen? ⟨g, i * 6 + 2, none⟩ = false ∧ W.frozen? ⟨g, i * 6 + 3, none⟩ = false ∧ W.frozen? ⟨g, i * 6 + 4, none⟩ = false ∧ W.frozen? ⟨g, i * 6 + 5, none⟩ = false :=
  ⟨h.frozenAt _, h.frozenAt _, h.frozenAt _, h.frozenAt _, h.frozenAt _, h.frozenAt _⟩
abbrev put6g (W : World) (g i : Nat) (q : Nd) : World := (((((W.setCell ⟨g, i * 6, none⟩ (.int .i64 q.adr)).setCell ⟨g, i * 6 + 1, none⟩ (.int .i64 q.refs)).setCell ⟨g, i * 6 + 2, none⟩ (.int .i64 q.sl)).setCell ⟨g, i * 6 + 3, none⟩ (.int .i64 q.words)).setCell ⟨g, i * 6 + 4, none⟩ (.slice q.A q.m q.c)).setCell ⟨g, i * 6 + 5, none⟩ (.slice q.B q.n q.d)
theorem putg {W : World} {X g n cap : Nat} {L : List Nd} (h : W.ownsRow X 40 6 (.slice (some ⟨g, 0, none⟩) n cap) n (nds L)) {i : Nat} (hi : i < n) (q : Nd) :
    (put6g W g i q).ownsRow X 40 6 (.slice (some ⟨g, 0, none⟩) n cap) n (nds (L.set i q)) ∧ W.grownBy (put6g W g i q) (some g) ∧ Below X W (put6g W g i q) := by
  have ea : (⟨g, 0, none⟩ : Addr).add (i * 6) = ⟨g, i * 6, none⟩ := by unfold Addr.add; split <;> simp_all
  have := row40_put h hi q
  unfold put6 at this
  rw [ea] at this
  exact this
end Go.Proofs.Ytekggbmajemmhaa.Gr
