/- Parts of one proof, set together: Gr9. What each says stands at its head; no condition beyond theirs. -/
import Derived.Test.YtekggbmajemmhaaDb9
import Derived.Shelf.SlIterI.Stops
/- Diff: maps.Keys, slices.AppendSeq, slices.Collect. Conditions: the map lies in memory; at most 40 entries. (The iterator's walk after the library's own, Derived.Shelf.SlIterI.Stops.) -/
namespace Go.Proofs.Ytekggbmajemmhaa.Gr
open Go.RowKit Go.Shelf Go.Maps Go.Sort Go.ChangeMaps Go.MapKept Go.Proofs.YtekggbmajemmhaaW.PrintWords Go.Proofs.YtekggbmajemmhaaW.PrintLast Go.Proofs.YtekggbmajemmhaaW.PrintMore
set_option linter.unusedSimpArgs false
set_option linter.unusedVariables false
attribute [local go_sem] Oper.semAt_some
set_option maxRecDepth 100000 in
set_option maxHeartbeats 2000000 in
theorem keys1_in (n : Nat) (hn : 1 ≤ n) (l Bm b nn : Nat) (D0 : DataW Value) (J Jx : List Int → World → Prop)
    (hY : ∀ pre x W, J pre W → pre.length < Maps.size D0 → YieldAt Fence.wide (n - 1) Try.prog l #[encZ x] W fun e W' =>
      (e = .returned (.bool true) ∧ J (pre ++ [x]) W' ∧ KeepsWalks W W') ∨ (e = .returned (.bool false) ∧ Jx (pre ++ [x]) W'))
    (W : World) (hJ : AbidesFrom W.heap.size J) (hm : W.cell? ⟨Bm, 0, none⟩ = some (.map (some b))) (hown : W.ownsMap Try.prog 3 nR b nn D0) (h0 : J [] W) :
    CallsIn Fence.wide n Try.prog 59 #[.func (.yield l) #[] #[], .pointer (some ⟨Bm, 0, none⟩)] W fun e W' => (∃ v, e = .returned v) ∧
      ((∃ ss : List Int, ((∀ x, x ∈ ss ↔ has D0 (.int .i64 x) = true) ∧ ss.length ≤ Maps.size D0) ∧ J ss W') ∨ (∃ pre : List Int, True ∧ Jx pre W')) := by
  refine callsIn_of_wp Try.func59 rfl trivial ?_ rfl
  simp only [Try.ntmps59, List.size_toArray, List.length_cons, List.length_nil, Nat.reduceAdd, Nat.reduceSub, Array.replicate_succ, Array.replicate_zero, List.push_toArray, List.append_toArray, List.nil_append, List.cons_append]
  gi_wp2_with (first
    | (gi_at_range; refine wpListIn_range_own _ rfl _ 46 rfl 3 40 Di.keyed3 Try.underlying46 _ b nn _ rfl hown ?_; intro w0 hrg0 hg0 hs0)
    | gi_in)
  go_frame
  gi_loopw [3] (fun _ wr => ∃ (left : Lit → Bool) (cnt : Nat) (ss : List Int), wr.ranges Try.prog 3 nR b W.heap.size nn D0 left cnt ∧ ss.length + cnt ≤ Maps.size D0 ∧ CollectedI D0 left ss ∧ J ss wr)
    (fun _ wr => wr.rangeLeft b W.heap.size)
  case atStart =>
    exact ⟨_, _, [], hrg0, by simp, CollectedI.start D0, hJ [] W w0 none h0 hg0 (fun r e => by cases e)⟩
  case round =>
    obtain ⟨left, cnt, ss, hrg, hcs, hC, hJs⟩ := hrel
    gi_wp2_with (first
      | (gi_at_next; refine wpListIn_next_ranges _ rfl _ rfl 3 Di.keyed3 nR encZ id (fun key kl hk => by obtain ⟨x, hx, _⟩ := Maps.keyOf_i64 Try.underlying3 hk; exact ⟨x, hx⟩) (fun v _ _ => ⟨v, rfl⟩) b W.heap.size nn _ _ _ rfl hrg ?_ ?_)
      | gi_in)
    · intro hc0 hl0
      gi_wp2
      go_end0
      exact ⟨⟨_, rfl⟩, .inl ⟨ss, ⟨fun x => by rw [hC.2 x, hl0]; simp, by omega⟩, hJs⟩⟩
    · intro x c kl yd yp w2 cnt2 hkey hlk hv hat hrg2 hlt hg2 hs2 hen
      obtain ⟨x', ex, rfl, _⟩ := Maps.keyOf_i64 Try.underlying3 hkey
      obtain rfl : x = x' := encZ_inj ex
      have hJ2 : J ss w2 := hJ ss wr w2 (some W.heap.size) hJs hg2 (fun r e => by cases e; exact ⟨Nat.le_refl _, hrg.iter_walk⟩)
      obtain ⟨fn, tmps, assign, body, hy, hR⟩ := hY ss x w2 hJ2 (by omega)
      clear hs2
      gi_wp2
      refine hR.mono ?_
      have hC2 := hC.step hlk hat
      rintro e W3 (⟨rfl, hJ3, hk3⟩ | ⟨rfl, hJx3⟩)
      · gi_wp2
        have hrg3 := hrg2.of_walks hk3
        go_roundw
        case rel => exact ⟨_, cnt2, ss ++ [x], hrg3, by simp; omega, hC2, hJ3⟩
        case measure => rw [hrg3.left_eq, hrg.left_eq]; exact hlt
      · gi_wp2
        refine bodyPost_ret (results_none rfl _ _ _) rfl ?_
        exact ⟨⟨_, rfl⟩, .inr ⟨_, trivial, hJx3⟩⟩
theorem keys_stops (n : Nat) (hn : 1 ≤ n) (Bm b nn : Nat) (D0 : DataW Value) (w : World) (hBm : w.heap[Bm]? = some (.cells #[.map (some b)] 46 (0, 0))) (hown : w.ownsMap Try.prog 3 nR b nn D0) :
    SeqStopsK Fence.wide n Try.prog 59 #[.pointer (some ⟨Bm, 0, none⟩)] (fun x : Int => #[Value.int .i64 x]) KeepsWalks (fun ss => (∀ x, x ∈ ss ↔ has D0 (.int .i64 x) = true) ∧ ss.length ≤ Maps.size D0) (fun _ => True) (Maps.size D0) w := fun l J Jx W hW hJ _ hY h0 =>
  keys1_in n hn l Bm b nn D0 J Jx hY W hJ ((blk_cell (blk_below hBm hW) 0).trans rfl) (owns_below hown hW) h0
theorem keys_calls (W : World) (b : Option Nat) : Calls Try.prog 46 #[.map b] W fun e W' => ∃ g, e = .returned (.func (.func 59) #[] #[.pointer (some ⟨g, 0, none⟩)]) ∧ W'.heap[g]? = some (.cells #[.map b] 46 (0, 0)) ∧ W.heap.size ≤ g ∧ Below W.heap.size W W' := Di.keys_calls W b
theorem walks_of {W W' : World} (h : KeepsOthers W W') : KeepsWalks W W' := ⟨h.size, fun k o hk hw => h.same k o hk (Obj.not_cells_of_walk hw)⟩
theorem ownFrom_others {β : Type} {B : Nat} {w : World} (hB : w.heap.size ≤ B) : OwnFrom B (fun (_ : β) W => KeepsOthers w W) := fun s W W' row h hg hr => ⟨Nat.le_trans h.size hg.size, fun k o hk ho => by
  have h1 := h.same k o hk ho
  refine (hg.block k (Array.getElem?_eq_some_iff.1 h1).1 (fun e => ?_)).trans h1
  have := (hr k e.symm).1
  have := (Array.getElem?_eq_some_iff.1 hk).1
  omega⟩
set_option maxRecDepth 100000 in
set_option maxHeartbeats 2000000 in
/-- slices.AppendSeq over a map's keys. -/
theorem appkeys_calls (w : World) (X : Nat) (hX : X ≤ w.heap.size) (a : Option Addr) (k c : Nat) (l0 : List Int) (hrow0 : w.ownsRow X 3 1 (.slice a k c) k (l0.map (Value.int .i64))) (hk : k ≤ 40) (g9 mb nn : Nat) (D0 : DataW Value) (hg : w.heap[g9]? = some (.cells #[.map (some mb)] 46 (0, 0))) (hm : w.ownsMap Try.prog 3 nR mb nn D0) (hsz : Maps.size D0 ≤ 40) :
    Calls Try.prog 44 #[.slice a k c, .func (.func 59) #[] #[.pointer (some ⟨g9, 0, none⟩)]] w fun e W' => ∃ (v : Value) (ss : List Int), e = .returned v ∧ (∀ x, x ∈ ss ↔ has D0 (.int .i64 x) = true) ∧ ss.length ≤ 40 ∧ W'.ownsRow X 3 1 v (l0 ++ ss).length ((l0 ++ ss).map (Value.int .i64)) ∧ Below X w W' ∧ KeepsOthers w W' := by
  obtain ⟨i0, hi, hz0, hz1, hz2⟩ := info_parts info3
  have hl0 : l0.length = k := by have := hrow0.1; rw [List.length_map] at this; omega
  refine (callsIn_wide (n := 20)).1 ?_
  refine callsIn_of_wp_marks Try.func44 rfl trivial ?_ rfl
  simp only [Try.ntmps44, List.size_toArray, List.length_cons, List.length_nil, Nat.reduceAdd, Nat.reduceSub, Array.replicate_succ, Array.replicate_zero, List.push_toArray, List.append_toArray, List.nil_append, List.cons_append]
  gi_wp2
  have bO := Boxed.new w 22 (.slice a k c)
  have hB0 : Below X w (w.alloc (.cells #[.slice a k c] 22)) := (Below.refl _ w).alloc hX _
  have hbA : Below w.heap.size w (w.alloc (.cells #[.slice a k c] 22)) := below_alloc (Below.refl _ w) _
  refine wpIn_rangeFunc_ownG rfl (by decide) (gf := 59) (lb := #[.pointer (some ⟨g9, 0, none⟩)]) rfl trivial (enters_of Try.func59 (by kernel_rfl) rfl)
    (keys_stops 19 (by decide) g9 mb nn D0 _ (blk_alloc hg _) (hm.alloc _)) walksK_t (walksK_b (w := w.alloc (.cells #[.slice a k c] 22))) (Below.refl _ _) (fun _ => rfl)
    (fun pre W => (∃ v, Boxed W w.heap.size 22 v ∧ W.ownsRow X 3 1 v (l0 ++ pre).length ((l0 ++ pre).map (Value.int .i64)) ∧ True) ∧ (Below X w W ∧ KeepsOthers w W))
    (fun _ _ _ => False)
    (OwnFrom.and (Own.from (holdsRow_own X w.heap.size 22 3 1 (fun pre : List Int => (l0 ++ pre).length) (fun pre => (l0 ++ pre).map (Value.int .i64)) (fun pre v => True)) _) (OwnFrom.and (ownFrom_below hX (by simp; omega)) (ownFrom_others (by simp))))
    (fun _ _ _ _ _ hs _ _ => hs)
    ⟨⟨_, bO, by rw [List.append_nil, hl0]; exact hrow0.alloc _, trivial⟩, hB0, KeepsOthers.alloc _ _⟩
    (fun x => { tmps := #[.slice a k c, .func (.func 59) #[] #[.pointer (some ⟨g9, 0, none⟩)], .pointer (some ⟨w.heap.size, 0, none⟩), undef, .slice none 0 0, .int .i64 x, .func (.func 59) #[] #[.pointer (some ⟨g9, 0, none⟩)], .int .i64 x, undef, undef, undef, undef, undef], defers := [] }) ?assign ?body ?done ?stop
  case assign =>
    intro l x W K hK
    gi_wp2
    exact hK
  case body =>
    rintro l pre x W ⟨⟨v, hv, hrow, _⟩, hB, hKO⟩ hlt
    have hc := hv.cell
    have hs := hB.size
    have hln : (l0 ++ pre).length ≤ 80 := by rw [List.length_append]; omega
    obtain ⟨q, hq⟩ : ∃ q, q = (l0 ++ pre).length := ⟨_, rfl⟩
    rw [← hq] at hrow hln
    have HQ := Aside0.mk hq
    clear hq hl0
    gi_wp2_with (gi_at_builtin; refine wpListIn_append_own _ rfl _ _ 22 rfl X 3 i0 (.int .i64 0) 1 8 Try.underlying22 hi hz0 hz1 hz2 rfl (by decide) _ _ _ rfl (hrow.alloc _) ⟨W.heap.size, 0, none⟩ 1 1 [.int .i64 x] rfl rfl (cell_one_new _ _ _) (by simp [Value.oneCell']) (by unfold maxLen; omega) (by omega) (by simp; omega) ?_; intro v' w1 hown' hgrow _; obtain ⟨g', cap', rfl⟩ := ownsRow_succ hown'; obtain ⟨hv1, hv2, hr2, hk2, hb2⟩ := hv.appended (by decide) hrow (by omega) hX hown' hgrow; have hc1 := hv1.cell; have hf1 := hv1.frozen)
    exact ⟨hk2.from _, walks_of hk2, ⟨_, hv2, by rw [← List.append_assoc, List.length_append, List.map_append, ← HQ.out]; exact hr2, trivial⟩, hB.trans hb2, hKO.trans hk2⟩
  case done =>
    rintro D ys W hD ⟨hS1, hS2⟩ ⟨⟨v, hv, hrow, _⟩, hB, hKO⟩ hK
    have hc := hv.cell
    gi_wp2
    refine ⟨by simp, .inl ⟨_, _, rfl, run_takeDeferred hK, ?_⟩⟩
    exact ⟨_, results_tmp rfl _ _ _, v, ys, rfl, hS1, by omega, ownsRow_putObj hrow _ hK rfl, hB.trans (belowK_b (w := w) hX W D _ _ (by simp at hD; omega) hK rfl rfl), ⟨Nat.le_trans hKO.size (grownBy_putObj' W D _).size, fun k o hk ho => (World.putObj_heap_other (by have := (Array.getElem?_eq_some_iff.1 hk).1; simp at hD; omega)).trans (hKO.same k o hk ho)⟩⟩
  case stop =>
    rintro D c pre W _ _ h _
    exact h.elim
theorem collect_calls (w : World) (X : Nat) (hX : X ≤ w.heap.size) (g9 mb nn : Nat) (D0 : DataW Value) (hg : w.heap[g9]? = some (.cells #[.map (some mb)] 46 (0, 0))) (hm : w.ownsMap Try.prog 3 nR mb nn D0) (hsz : Maps.size D0 ≤ 40) :
    Calls Try.prog 45 #[.func (.func 59) #[] #[.pointer (some ⟨g9, 0, none⟩)]] w fun e W' => ∃ (v : Value) (ss : List Int), e = .returned v ∧ (∀ x, x ∈ ss ↔ has D0 (.int .i64 x) = true) ∧ ss.length ≤ 40 ∧ W'.ownsRow X 3 1 v ss.length (ss.map (Value.int .i64)) ∧ Below X w W' ∧ KeepsOthers w W' := by
  go_enter Try.func45, Try.ntmps45
  go_wp2_with (go_at_call 44; refine (appkeys_calls _ X hX none 0 0 [] (World.ownsRow_nil _ _ _ _) (by omega) g9 mb nn D0 hg hm hsz).mono ?_; rintro e w' ⟨v, ss, rfl, h1, h2, h3, h4⟩; have H1 := Aside0.mk h1; have H2 := Aside0.mk h2; have H3 := Aside0.mk h3; have H4 := Aside0.mk h4; clear h1 h2 h3 h4)
  go_ret
  exact ⟨v, ss, rfl, H1.out, H2.out, H3.out, H4.out⟩
end Go.Proofs.Ytekggbmajemmhaa.Gr
