/- Bits: one, Has; the iterator 'each', slices.AppendSeq, Collect, All, Count. Conditions: a set is a natural number below 2^64. -/
import Derived.RangeFuncNested
import Derived.RangeFuncBound
import Derived.RangeFuncCalls
import Derived.RangeFuncLeaves
import Derived.RangeFuncBox
import Derived.Maps.AppendAt
import Derived.Deep.Onto
import Derived.Shelf.Abstract
import Derived.Shelf.RegionOpen
import Derived.WalkKit
import Derived.OwnWalkIn
import Derived.TacticsInMore
import Derived.LoopNIn
import Derived.LoopIn
import Derived.Test.YtbdedbhafciilaaDoorBt1
namespace Go.Proofs.YtbdedbhafciilaaDoor.Bt
open Go.RowKit Go.Shelf
set_option linter.unusedSimpArgs false
set_option linter.unusedVariables false
attribute [local go_sem] Oper.semAt_some

theorem one_calls (i : Int) (w : World) : Calls Tryd.prog 22 #[.int .i64 i] w fun e w' => e = .returned (.int .u64 ((oneV i : Nat) : Int)) ∧ w' = w := by
  unfold oneV
  by_cases h1 : i < 0
  · have hd : decide (i < 0) = true := decide_eq_true h1
    rw [if_neg (by omega)]
    go_enter Tryd.func22, Tryd.ntmps22
    go_wp2
    go_ret
    exact ⟨rfl, rfl⟩
  · by_cases h2 : i ≥ 64
    · have hd : decide (i < 0) = false := decide_eq_false h1
      have hd2 : decide (i ≥ 64) = true := decide_eq_true h2
      rw [if_neg (by omega)]
      go_enter Tryd.func22, Tryd.ntmps22
      go_wp2
      go_ret
      exact ⟨rfl, rfl⟩
    · have hd : decide (i < 0) = false := decide_eq_false h1
      have hd2 : decide (i ≥ 64) = false := decide_eq_false h2
      have h0 : 0 ≤ i := by omega
      have e : IntKind.u64.wrap ((2 : Int) ^ i.toNat) = ((2 ^ i.toNat : Nat) : Int) := by
        have h := u64_nat (2 ^ i.toNat) (two_lt (by omega))
        rw [Int.natCast_pow] at h ⊢
        exact h
      rw [if_pos (by omega)]
      go_enter Tryd.func22, Tryd.ntmps22
      go_wp2
      go_ret
      exact ⟨by simp [e], rfl⟩
theorem has_calls (m : Nat) (hm : m < 2 ^ 64) (i : Int) (w : World) : Calls Tryd.prog 15 #[.int .u64 (m : Int), .int .i64 i] w fun e w' => e = .returned (.bool (hasN m i)) ∧ w' = w := by
  have H := has_f m hm i
  unfold PBitsSets.bits_Has.f at H
  rw [one_f] at H
  simp only [Option.bind_some] at H
  rw [← Option.some.inj H]
  clear H
  go_enter Tryd.func15, Tryd.ntmps15
  go_wp2_with (go_at_call 22; refine (one_calls i _).mono ?_; rintro e w' ⟨rfl, rfl⟩)
  go_ret
  exact ⟨by simp, rfl⟩

/-! ### The iterator -/
/-- The numbers below k of a set. -/
def got (m k : Nat) : List Int := ((List.range k).filter (fun j => m.testBit j)).map fun (j : Nat) => (j : Int)
theorem got_hit {m k : Nat} (h : m.testBit k = true) : got m (k + 1) = got m k ++ [(k : Int)] := by simp [got, List.range_succ, h]
theorem got_miss {m k : Nat} (h : m.testBit k = false) : got m (k + 1) = got m k := by simp [got, List.range_succ, h]
theorem got_len (m k : Nat) : (got m k).length ≤ k := by
  unfold got
  rw [List.length_map]
  exact Nat.le_trans (List.length_filter_le _ _) (by rw [List.length_range]; exact Nat.le_refl _)
theorem has_at (m k : Nat) (h : k < 64) : hasN m (k : Int) = m.testBit k := by unfold hasN; rw [decide_eq_true (by omega)]; rfl

/-- The captured set's cell is kept. -/
def KeepsM (Bm m : Nat) (W W' : World) : Prop := W.cell? ⟨Bm, 0, none⟩ = some (.int .u64 (m : Int)) → W'.cell? ⟨Bm, 0, none⟩ = some (.int .u64 (m : Int))
theorem keepsM_t {Bm m : Nat} {A B C : World} (h : KeepsM Bm m A B) (k : KeepsM Bm m B C) : KeepsM Bm m A C := fun x => k (h x)
theorem keepsM_b {Bm m : Nat} {w : World} (W : World) (l : Nat) (o o' : Obj) (_ : w.heap.size ≤ l) (h : W.heap[l]? = some o) (ho : o.isCells = false) (_ : o.isWalk = false) : KeepsM Bm m W (W.putObj l o') := fun x => cell_kept x (grownBy_putObj' W l o') (fun r e => by cases e; exact ⟨_, h, ho⟩)
set_option maxRecDepth 100000 in
set_option maxHeartbeats 2000000 in
/-- **bits.each's closure, for every loop body that keeps the set's cell.** -/
theorem each1_in (n : Nat) (hn : 3 ≤ n) (l Bm m : Nat) (hm : m < 2 ^ 64) (J Jx : List Int → World → Prop)
    (hY : ∀ pre x W, J pre W → pre.length < 64 → YieldAt Fence.wide (n - 1) Tryd.prog l #[.int .i64 x] W fun e W' =>
      (e = .returned (.bool true) ∧ J (pre ++ [x]) W' ∧ KeepsM Bm m W W') ∨ (e = .returned (.bool false) ∧ Jx (pre ++ [x]) W'))
    (W : World) (hBm : W.cell? ⟨Bm, 0, none⟩ = some (.int .u64 (m : Int))) (h0 : J [] W) :
    CallsIn Fence.wide n Tryd.prog 27 #[.func (.yield l) #[] #[], .pointer (some ⟨Bm, 0, none⟩)] W fun e W' => (∃ v, e = .returned v) ∧
      ((∃ ys, ys = got m 64 ∧ J ys W') ∨ (∃ pre, (∃ k, k ≤ 64 ∧ pre = got m k) ∧ Jx pre W')) := by
  have h1 : 1 ≤ n := by omega
  have hF15 : Fence.wide.fn 15 := trivial
  refine callsIn_of_wp Tryd.func27 rfl trivial ?_ rfl
  simp only [Tryd.ntmps27, List.size_toArray, List.length_cons, List.length_nil, Nat.reduceAdd, Nat.reduceSub, Array.replicate_succ, Array.replicate_zero, List.push_toArray, List.append_toArray, List.nil_append, List.cons_append]
  gi_wp2
  gi_loopw [4] (fun i wr => ∃ k : Nat, k ≤ 64 ∧ i = .int .i64 k ∧ J (got m k) wr ∧ wr.cell? ⟨Bm, 0, none⟩ = some (.int .u64 (m : Int)))
    (fun i _ => 64 - (intOf i).toNat)
  case atStart => exact ⟨0, Nat.zero_le _, rfl, h0, hBm⟩
  case round =>
    obtain ⟨k, hk, rfl, hJs, hcx⟩ := hrel
    by_cases hlt : k < 64
    · cases hb : m.testBit k with
      | true =>
        obtain ⟨fn, tmps, assign, body, hy, hR⟩ := hY _ (k : Int) wr hJs (by have := got_len m k; omega)
        have hh : hasN m (k : Int) = true := (has_at m k hlt).trans hb
        gi_wp2_with (gi_at_call 15; refine (callsIn_wide.2 (has_calls m hm (k : Int) _)).mono ?_; rintro e w' ⟨rfl, rfl⟩; rw [hh])
        refine hR.mono ?_
        rintro e W3 (⟨rfl, hJ3, hk3⟩ | ⟨rfl, hJx3⟩)
        · gi_wp2
          go_roundw
          case rel => exact ⟨k + 1, by omega, by simp, by rw [got_hit hb]; exact hJ3, hk3 hcx⟩
          case measure => simp [intOf]; omega
        · gi_wp2
          refine bodyPost_ret (results_none rfl _ _ _) rfl ?_
          exact ⟨⟨_, rfl⟩, .inr ⟨_, ⟨k + 1, by omega, (got_hit hb).symm⟩, hJx3⟩⟩
      | false =>
        have hh : hasN m (k : Int) = false := (has_at m k hlt).trans hb
        gi_wp2_with (gi_at_call 15; refine (callsIn_wide.2 (has_calls m hm (k : Int) _)).mono ?_; rintro e w' ⟨rfl, rfl⟩; rw [hh])
        refine ⟨fun _ h => (by cases h), ?_⟩
        gi_wp2
        go_roundw
        case rel => exact ⟨k + 1, by omega, by simp, by rw [got_miss hb]; exact hJs, hcx⟩
        case measure => simp [intOf]; omega
    · obtain rfl : k = 64 := by omega
      gi_wp2
      go_end0
      exact ⟨⟨_, rfl⟩, .inl ⟨_, rfl, hJs⟩⟩

set_option maxHeartbeats 1000000 in
theorem each_in (n : Nat) (m : Int) (w : World) :
    CallsIn Fence.wide n Tryd.prog 25 #[.int .u64 m] w fun e w' => e = .returned (.func (.func 27) #[] #[.pointer (some ⟨w.heap.size, 0, none⟩)]) ∧ w' = w.alloc (.cells #[.int .u64 m] 22) := by
  refine callsIn_of_wp Tryd.func25 rfl trivial ?_ rfl
  simp only [Tryd.ntmps25, List.size_toArray, List.length_cons, List.length_nil, Nat.reduceAdd, Nat.reduceSub, Array.replicate_succ, Array.replicate_zero, List.push_toArray, List.append_toArray, List.nil_append, List.cons_append]
  gi_wp2
  go_ret
  exact ⟨rfl, rfl⟩
theorem each_stops (n : Nat) (hn : 3 ≤ n) (Bm m : Nat) (hm : m < 2 ^ 64) (w : World) (hB : Bm < w.heap.size) (hc : w.cell? ⟨Bm, 0, none⟩ = some (.int .u64 (m : Int))) :
    SeqStopsK Fence.wide n Tryd.prog 27 #[.pointer (some ⟨Bm, 0, none⟩)] (fun x : Int => #[Value.int .i64 x]) (KeepsM Bm m) (fun ys => ys = got m 64) (fun pre => ∃ k, k ≤ 64 ∧ pre = got m k) 64 w := fun l J Jx W hW _ _ hY h0 =>
  each1_in n hn l Bm m hm J Jx hY W ((hW.cell (p := ⟨Bm, 0, none⟩) hB).trans hc) h0
theorem info3 : (Tryd.prog.info? 3).map (fun i => (i.zero, i.size, i.bytes)) = some (some (.int .i64 0), 1, 8) := by kernel_rfl

set_option maxRecDepth 100000 in
set_option maxHeartbeats 2000000 in
/-- slices.AppendSeq of nil over 'each'. -/
theorem appendSeq_in (n : Nat) (hn : 6 ≤ n) (Bm m : Nat) (hm : m < 2 ^ 64) (w : World) (hBm : Bm < w.heap.size) (hc0 : w.cell? ⟨Bm, 0, none⟩ = some (.int .u64 (m : Int))) :
    CallsIn Fence.wide n Tryd.prog 26 #[.slice none 0 0, .func (.func 27) #[] #[.pointer (some ⟨Bm, 0, none⟩)]] w fun e W' => ∃ v, e = .returned v ∧ W'.ownsRow w.heap.size 3 1 v (got m 64).length ((got m 64).map (Value.int .i64)) ∧ (v = .slice none 0 0 ↔ got m 64 = []) ∧ Below w.heap.size w W' := by
  have h1 : 1 ≤ n := by omega
  obtain ⟨i0, hi, hz0, hz1, hz2⟩ := info_parts info3
  refine callsIn_of_wp_marks Tryd.func26 rfl trivial ?_ rfl
  simp only [Tryd.ntmps26, List.size_toArray, List.length_cons, List.length_nil, Nat.reduceAdd, Nat.reduceSub, Array.replicate_succ, Array.replicate_zero, List.push_toArray, List.append_toArray, List.nil_append, List.cons_append]
  gi_wp2
  have bO := Boxed.new w 29 (.slice none 0 0)
  have hB0 : Below w.heap.size w (w.alloc (.cells #[.slice none 0 0] 29)) := (Below.refl _ w).alloc (Nat.le_refl _) _
  refine wpIn_rangeFunc_ownG rfl h1 (gf := 27) (lb := #[.pointer (some ⟨Bm, 0, none⟩)]) rfl trivial (enters_of Tryd.func27 (by kernel_rfl) rfl)
    (each_stops (n - 1) (by omega) Bm m hm _ (by simp; omega) ((hB0.cell (p := ⟨Bm, 0, none⟩) hBm).trans hc0)) keepsM_t keepsM_b (Below.refl _ _) (fun _ => rfl)
    (fun pre W => (∃ v, Boxed W w.heap.size 29 v ∧ W.ownsRow w.heap.size 3 1 v pre.length (pre.map (Value.int .i64)) ∧ (v = .slice none 0 0 ↔ pre = [])) ∧ Below w.heap.size w W)
    (fun _ _ _ => False)
    (OwnFrom.and (Own.from (holdsRow_own w.heap.size w.heap.size 29 3 1 (fun pre : List Int => pre.length) (fun pre => pre.map (Value.int .i64)) (fun pre v => v = .slice none 0 0 ↔ pre = [])) _) (ownFrom_below (Nat.le_refl _) (by simp)))
    (fun _ _ _ _ _ hs _ _ => hs)
    ⟨⟨_, bO, World.ownsRow_nil _ _ _ _, by simp⟩, hB0⟩
    (fun x => { tmps := #[.slice none 0 0, .func (.func 27) #[] #[.pointer (some ⟨Bm, 0, none⟩)], .pointer (some ⟨w.heap.size, 0, none⟩), undef, .slice none 0 0, .int .i64 x, .func (.func 27) #[] #[.pointer (some ⟨Bm, 0, none⟩)], .int .i64 x, undef, undef, undef, undef, undef], defers := [] }) ?assign ?body ?done ?stop
  case assign =>
    intro l x W K hK
    gi_wp2
    exact hK
  case body =>
    rintro l pre x W ⟨⟨v, hv, hrow, hnil⟩, hB⟩ hlt
    have hc := hv.cell
    gi_wp2_with (gi_at_builtin; refine wpListIn_append_own _ rfl _ _ 29 rfl w.heap.size 3 i0 (.int .i64 0) 1 8 Tryd.underlying29 hi hz0 hz1 hz2 rfl (by decide) _ _ _ rfl (hrow.alloc _) ⟨W.heap.size, 0, none⟩ 1 1 [.int .i64 x] rfl rfl (cell_one_new _ _ _) (by simp [Value.oneCell']) (by unfold maxLen; omega) (by omega) (by have := hB.size; simp; omega) ?_; intro v' w1 hown' hgrow _; obtain ⟨g', cap', rfl⟩ := ownsRow_succ hown'; obtain ⟨hv1, hv2, hr2, hk2, hb2⟩ := hv.appended (by decide) hrow hB.size (Nat.le_refl _) hown' hgrow; have hc1 := hv1.cell; have hf1 := hv1.frozen)
    exact ⟨hk2.from _, fun x => (hb2.cell (p := ⟨Bm, 0, none⟩) hBm).trans x, ⟨_, hv2, by simpa using hr2, by simp⟩, hB.trans hb2⟩
  case done =>
    rintro D ys W hD rfl ⟨⟨v, hv, hrow, hnil⟩, hB⟩ hK
    have hc := hv.cell
    gi_wp2
    refine ⟨by simp, .inl ⟨_, _, rfl, run_takeDeferred hK, ?_⟩⟩
    exact ⟨_, results_tmp rfl _ _ _, v, rfl, ownsRow_putObj hrow _ hK rfl, hnil, hB.trans (belowK_b (w := w) (Nat.le_refl _) W D _ _ (by simp at hD; omega) hK rfl rfl)⟩
  case stop =>
    rintro D c pre W _ _ h _
    exact h.elim

set_option maxHeartbeats 1000000 in
theorem collect_in (n : Nat) (hn : 7 ≤ n) (Bm m : Nat) (hm : m < 2 ^ 64) (w : World) (hBm : Bm < w.heap.size) (hc0 : w.cell? ⟨Bm, 0, none⟩ = some (.int .u64 (m : Int))) :
    CallsIn Fence.wide n Tryd.prog 24 #[.func (.func 27) #[] #[.pointer (some ⟨Bm, 0, none⟩)]] w fun e W' => ∃ v, e = .returned v ∧ W'.ownsRow w.heap.size 3 1 v (got m 64).length ((got m 64).map (Value.int .i64)) ∧ (v = .slice none 0 0 ↔ got m 64 = []) ∧ Below w.heap.size w W' := by
  have h1 : 1 ≤ n := by omega
  have hF : Fence.wide.fn 26 := trivial
  refine callsIn_of_wp Tryd.func24 rfl trivial ?_ rfl
  simp only [Tryd.ntmps24, List.size_toArray, List.length_cons, List.length_nil, Nat.reduceAdd, Nat.reduceSub, Array.replicate_succ, Array.replicate_zero, List.push_toArray, List.append_toArray, List.nil_append, List.cons_append]
  gi_wp2_with (gi_at_call 26; refine (appendSeq_in (n - 1) (by omega) Bm m hm _ hBm hc0).mono ?_; rintro e w' ⟨v, rfl, hrow, hnil, hb⟩)
  go_ret
  exact ⟨v, rfl, hrow, hnil, hb⟩
set_option maxHeartbeats 1000000 in
theorem all_in (n : Nat) (hn : 8 ≤ n) (m : Nat) (hm : m < 2 ^ 64) (w : World) :
    CallsIn Fence.wide n Tryd.prog 18 #[.int .u64 (m : Int)] w fun e W' => ∃ v, e = .returned v ∧ W'.ownsRow w.heap.size 3 1 v (got m 64).length ((got m 64).map (Value.int .i64)) ∧ (v = .slice none 0 0 ↔ got m 64 = []) ∧ Below w.heap.size w W' := by
  have h1 : 1 ≤ n := by omega
  have hF : Fence.wide.fn 24 := trivial
  have hF2 : Fence.wide.fn 25 := trivial
  refine callsIn_of_wp Tryd.func18 rfl trivial ?_ rfl
  simp only [Tryd.ntmps18, List.size_toArray, List.length_cons, List.length_nil, Nat.reduceAdd, Nat.reduceSub, Array.replicate_succ, Array.replicate_zero, List.push_toArray, List.append_toArray, List.nil_append, List.cons_append]
  gi_wp2_with (first
    | (gi_at_call 25; refine (each_in (n - 1) (m : Int) _).mono ?_; rintro e w' ⟨rfl, rfl⟩)
    | (gi_at_call 24; refine (collect_in (n - 1) (by omega) w.heap.size m hm _ (by simp) (Boxed.new w 22 (.int .u64 (m : Int))).cell).mono ?_; rintro e w' ⟨v, rfl, hrow, hnil, hb⟩))
  go_ret
  exact ⟨v, rfl, hrow.mono (by simp), hnil, ((Below.refl _ w).alloc (Nat.le_refl _) _).trans (hb.mono (by simp))⟩
theorem all_calls (m : Nat) (hm : m < 2 ^ 64) (w : World) :
    Calls Tryd.prog 18 #[.int .u64 (m : Int)] w fun e W' => ∃ v, e = .returned v ∧ W'.ownsRow w.heap.size 3 1 v (got m 64).length ((got m 64).map (Value.int .i64)) ∧ (v = .slice none 0 0 ↔ got m 64 = []) ∧ Below w.heap.size w W' :=
  (callsIn_wide (n := 8)).1 (all_in 8 (by decide) m hm w)

set_option maxRecDepth 100000 in
set_option maxHeartbeats 2000000 in
/-- Count. -/
theorem count_in (n : Nat) (hn : 6 ≤ n) (m : Nat) (hm : m < 2 ^ 64) (w : World) :
    CallsIn Fence.wide n Tryd.prog 20 #[.int .u64 (m : Int)] w fun e W' => e = .returned (.int .i64 (got m 64).length) ∧ Below w.heap.size w W' := by
  have h1 : 1 ≤ n := by omega
  have hF2 : Fence.wide.fn 25 := trivial
  refine callsIn_of_wp_marks Tryd.func20 rfl trivial ?_ rfl
  simp only [Tryd.ntmps20, List.size_toArray, List.length_cons, List.length_nil, Nat.reduceAdd, Nat.reduceSub, Array.replicate_succ, Array.replicate_zero, List.push_toArray, List.append_toArray, List.nil_append, List.cons_append]
  gi_wp2_with (gi_at_call 25; refine (each_in (n - 1) (m : Int) _).mono ?_; rintro e w' ⟨rfl, rfl⟩)
  have bO := Boxed.new w 3 (.int .i64 0)
  have bN := Boxed.new (w.alloc (.cells #[.int .i64 0] 3)) 22 (.int .u64 (m : Int))
  rw [World.size_alloc] at bN
  have hB0 : Below w.heap.size w ((w.alloc (.cells #[.int .i64 0] 3)).alloc (.cells #[.int .u64 (m : Int)] 22)) := ((Below.refl _ w).alloc (Nat.le_refl _) _).alloc (by simp) _
  refine wpIn_rangeFunc_ownG rfl h1 (gf := 27) (lb := #[.pointer (some ⟨w.heap.size + 1, 0, none⟩)]) rfl trivial (enters_of Tryd.func27 (by kernel_rfl) rfl)
    (each_stops (n - 1) (by omega) (w.heap.size + 1) m hm _ (by simp) bN.cell) keepsM_t keepsM_b (Below.refl _ _) (fun _ => rfl)
    (fun pre W => (W.cell? ⟨w.heap.size, 0, none⟩ = some (.int .i64 pre.length) ∧ W.frozen? ⟨w.heap.size, 0, none⟩ = false) ∧ Below w.heap.size w W)
    (fun _ _ _ => False)
    (OwnFrom.and (Own.from (fun s A B row hs hg hr => ⟨cell_kept hs.1 hg hr, (frozen_kept hs.1 hg hr).trans hs.2⟩) _) (ownFrom_below (Nat.le_refl _) (by simp; omega)))
    (fun _ _ _ _ _ hs _ _ => hs)
    ⟨⟨(bO.alloc _).cell, (bO.alloc _).frozen⟩, hB0⟩
    (fun x => { tmps := #[.int .u64 (m : Int), undef, .int .i64 0, .pointer (some ⟨w.heap.size, 0, none⟩), .int .u64 (m : Int), .func (.func 27) #[] #[.pointer (some ⟨w.heap.size + 1, 0, none⟩)], .int .i64 x, undef, undef, undef], defers := [] }) ?assign ?body ?done ?stop
  case assign =>
    intro l x W K hK
    gi_wp2
    simpa using hK
  case body =>
    rintro l pre x W ⟨⟨hc, hf⟩, hB⟩ hlt
    gi_wp2
    exact ⟨(KeepsOthers.setCell _ _ _).from _, fun x => (World.cell?_setCell_other _ _ _ _ (by simp)).trans x, ⟨by rw [World.cell?_setCell_same' _ _ _ (by rw [hc]; rfl)]; simp, by rw [World.frozen?_setCell]; exact hf⟩, hB.setCell (p := ⟨w.heap.size, 0, none⟩) (Nat.le_refl _) _⟩
  case done =>
    rintro D ys W hD rfl ⟨⟨hc, hf⟩, hB⟩ hK
    gi_wp2
    refine ⟨by simp, .inl ⟨_, _, rfl, run_takeDeferred hK, ?_⟩⟩
    exact ⟨_, results_tmp rfl _ _ _, rfl, hB.trans (belowK_b (w := w) (Nat.le_refl _) W D _ _ (by simp at hD; omega) hK rfl rfl)⟩
  case stop =>
    rintro D c pre W _ _ h _
    exact h.elim
end Go.Proofs.YtbdedbhafciilaaDoor.Bt
