/- Diff: slices.Backward over nodes. Conditions: the nodes lie in memory; at most 40. -/
import Derived.Test.YtekggbmajemmhaaGr2
namespace Go.Proofs.Ytekggbmajemmhaa.Gr
open Go.RowKit Go.Shelf Go.Maps Go.ChangeMaps Go.MapKept Go.Proofs.YtekggbmajemmhaaW.PrintWords Go.Proofs.YtekggbmajemmhaaW.PrintLast Go.Proofs.YtekggbmajemmhaaW.PrintMore
set_option linter.unusedSimpArgs false
set_option linter.unusedVariables false
attribute [local go_sem] Oper.semAt_some
/-- The last ones, from behind. -/
def rv (len j : Nat) : List Nat := (List.range' j (len - j)).reverse
theorem rv_all (len : Nat) : rv len len = [] := by simp [rv]
theorem rv_step {len k : Nat} (h : k < len) : rv len k = rv len (k + 1) ++ [k] := by
  unfold rv
  rw [show len - k = (len - (k + 1)) + 1 by omega, List.range'_succ, List.reverse_cons]
theorem rv_len (len j : Nat) : (rv len j).length = len - j := by simp [rv]
/-- What a body keeps: the arguments' memory, the iterator's box. -/
def KpB (B gk : Nat) (W W' : World) : Prop := ∀ k, k < B ∨ k = gk → W'.heap[k]? = W.heap[k]?
theorem KpB.t {B gk : Nat} {X Y Z : World} (h : KpB B gk X Y) (k : KpB B gk Y Z) : KpB B gk X Z := fun q hq => (k q hq).trans (h q hq)
abbrev encB (NS : List Nd) (x : Nat) : Array Value := #[.int .i64 (x : Int), (NS.getD x default).val]
set_option maxRecDepth 100000 in
set_option maxHeartbeats 4000000 in
theorem back1_in (n : Nat) (hn : 3 ≤ n) (l gk B len cap : Nat) (a : Option Addr) (NS : List Nd) (hlen : len ≤ 40) (J Jx : List Nat → World → Prop)
    (hY : ∀ pre x W, J pre W → pre.length < 40 → YieldAt Fence.wide (n - 1) Try.prog l (encB NS x) W fun e W' =>
      (e = .returned (.bool true) ∧ J (pre ++ [x]) W' ∧ KpB B gk W W') ∨ (e = .returned (.bool false) ∧ Jx (pre ++ [x]) W'))
    (W : World) (hbox : W.heap[gk]? = some (.cells #[.slice a len cap] 23 (0, 0))) (hNL : NL W B a len NS) (h0 : J [] W) :
    CallsIn Fence.wide n Try.prog 52 #[.func (.yield l) #[] #[], .pointer (some ⟨gk, 0, none⟩)] W fun e W' => (∃ v, e = .returned v) ∧
      ((∃ ys, ys = rv len 0 ∧ J ys W') ∨ (∃ pre, True ∧ Jx pre W')) := by
  have h1 : 1 ≤ n := by omega
  have hc0 : W.cell? ⟨gk, 0, none⟩ = some (.slice a len cap) := (blk_cell hbox 0).trans rfl
  refine callsIn_of_wp Try.func52 rfl trivial ?_ rfl
  simp only [Try.ntmps52, List.size_toArray, List.length_cons, List.length_nil, Nat.reduceAdd, Nat.reduceSub, Array.replicate_succ, Array.replicate_zero, List.push_toArray, List.append_toArray, List.nil_append, List.cons_append]
  gi_wp2
  gi_loopw [3] (fun v wr => ∃ j : Nat, j ≤ len ∧ v = .int .i64 ((j : Int) - 1) ∧ J (rv len j) wr ∧ Aside0 (wr.heap[gk]? = some (.cells #[.slice a len cap] 23 (0, 0))) ∧ Aside0 (NL wr B a len NS))
    (fun v _ => ((intOf v) + 1).toNat)
  case atStart => exact ⟨len, Nat.le_refl _, rfl, by rw [rv_all]; exact h0, Aside0.mk hbox, Aside0.mk hNL⟩
  case round =>
    obtain ⟨j, hj, rfl, hJ, HX, HN⟩ := hrel
    have hcx : wr.cell? ⟨gk, 0, none⟩ = some (.slice a len cap) := (blk_cell HX.out 0).trans rfl
    cases j with
    | zero =>
      gi_wp2
      go_end0
      exact ⟨⟨_, rfl⟩, .inl ⟨_, rfl, hJ⟩⟩
    | succ k =>
      have ek : ((k + 1 : Nat) : Int) - 1 = (k : Int) := by omega
      rw [ek]
      have hk0 : (0 : Int) ≤ (k : Int) := by omega
      have hk1 : (k : Int) < (len : Int) := by omega
      have hge : decide ((k : Int) ≥ 0) = true := decide_eq_true (by omega)
      obtain ⟨y, e, hyb, hy0, hy1, hy2, hy3, hy4, hy5⟩ := HN.out.2 k (by omega)
      subst e
      obtain ⟨fn, tmps, assign, body, hy, hR⟩ := hY _ k wr hJ (by rw [rv_len]; omega)
      obtain ⟨q, hq⟩ : ∃ q, q = NS.getD k default := ⟨_, rfl⟩
      unfold encB at hy
      rw [add_zero] at hy0
      rw [← hq] at hy hy0 hy1 hy2 hy3 hy4 hy5
      clear hq
      dsimp only [Nd.val] at hy
      have hz1 : wr.cell? { block := (y.add (k * 6)).block, off := (y.add (k * 6)).off + 1 } = some (.int .i64 q.refs) := hy1
      have hz2 : wr.cell? { block := (y.add (k * 6)).block, off := (y.add (k * 6)).off + 2 } = some (.int .i64 q.sl) := hy2
      have hz3 : wr.cell? { block := (y.add (k * 6)).block, off := (y.add (k * 6)).off + 3 } = some (.int .i64 q.words) := hy3
      have hz4 : wr.cell? { block := (y.add (k * 6)).block, off := (y.add (k * 6)).off + 4 } = some (.slice q.A q.m q.c) := hy4
      have hz5 : wr.cell? { block := (y.add (k * 6)).block, off := (y.add (k * 6)).off + 5 } = some (.slice q.B q.n q.d) := hy5
      clear hy1 hy2 hy3 hy4 hy5 ek
      gi_wp2
      refine hR.mono ?_
      rintro e W3 (⟨rfl, hJ3, hk3⟩ | ⟨rfl, hJx3⟩)
      · gi_wp2
        go_roundw
        case rel => exact ⟨k, by omega, rfl, by rw [rv_step (by omega)]; exact hJ3, Aside0.mk ((hk3 gk (Or.inr rfl)).trans HX.out), Aside0.mk (HN.out.kept (fun b hb => hk3 b (Or.inl hb)))⟩
        case measure =>
          show ((k : Int) - 1 + 1).toNat < ((k : Int) + 1).toNat
          omega
      · gi_wp2
        refine bodyPost_ret (results_none rfl _ _ _) rfl ?_
        exact ⟨⟨_, rfl⟩, .inr ⟨_, trivial, hJx3⟩⟩
theorem back_stops (n : Nat) (hn : 3 ≤ n) (gk B len cap : Nat) (a : Option Addr) (NS : List Nd) (hlen : len ≤ 40) (w : World) (hB : B ≤ w.heap.size) (hbox : w.heap[gk]? = some (.cells #[.slice a len cap] 23 (0, 0))) (hNL : NL w B a len NS) :
    SeqStopsK Fence.wide n Try.prog 52 #[.pointer (some ⟨gk, 0, none⟩)] (encB NS) (KpB B gk) (fun ys => ys = rv len 0) (fun _ => True) 40 w := fun l J Jx W hW _ _ hY h0 =>
  back1_in n hn l gk B len cap a NS hlen J Jx hY W (blk_below hbox hW) (hNL.kept fun k hk => hW.block k (by omega)) h0
/-- The map's datum when these have come. -/
def MDp (NS : List Nd) (pre : List Nat) : DataW Value := pre.foldl (fun D i => D.put (key (NS.getD i default).adr) (.held (NS.getD i default).val)) (.map [])
theorem MDp_snoc (NS : List Nd) (pre : List Nat) (x : Nat) : MDp NS (pre ++ [x]) = (MDp NS pre).put (key (NS.getD x default).adr) (.held (NS.getD x default).val) := by simp [MDp]
theorem MDp_rv (NS : List Nd) : ∀ k, k ≤ NS.length → MDp NS (rv NS.length (NS.length - k)) = MD (NS.drop (NS.length - k))
  | 0, _ => by rw [Nat.sub_zero, rv_all, List.drop_length]; rfl
  | k + 1, h => by
    have ih := MDp_rv NS k (by omega)
    have hlt : NS.length - (k + 1) < NS.length := by omega
    rw [rv_step hlt, show NS.length - (k + 1) + 1 = NS.length - k by omega, MDp_snoc, ih, List.drop_eq_getElem_cons hlt, show NS.length - (k + 1) + 1 = NS.length - k by omega]
    show _ = (MD _).put _ _
    rw [List.getD_eq_getElem?_getD, List.getElem?_eq_getElem hlt]
    rfl
theorem MDp_all (NS : List Nd) : MDp NS (rv NS.length 0) = MD NS := by
  have := MDp_rv NS NS.length (Nat.le_refl _)
  rw [Nat.sub_self, List.drop_zero] at this
  exact this
theorem ok_at {NS : List Nd} (h : ∀ n ∈ NS, (Lit.int .i64 n.adr).wf = true) (x : Nat) : (Lit.int .i64 (NS.getD x default).adr).wf = true := by
  by_cases hx : x < NS.length
  · rw [List.getD_eq_getElem?_getD, List.getElem?_eq_getElem hx]
    exact h _ (List.getElem_mem hx)
  · rw [List.getD_eq_getElem?_getD, List.getElem?_eq_none (by omega)]
    decide
end Go.Proofs.Ytekggbmajemmhaa.Gr
