/- Diff: slices.AppendSeq of changes. Conditions: both graphs lie in memory and are small. -/
import Derived.Test.YtekggbmajemmhaaGr14
namespace Go.Proofs.Ytekggbmajemmhaa.Gr
open Go.RowKit Go.Shelf Go.Maps Go.ChangeMaps Go.MapKept Go.Proofs.YtekggbmajemmhaaW.PrintWords Go.Proofs.YtekggbmajemmhaaW.PrintLast Go.Proofs.YtekggbmajemmhaaW.PrintMore
set_option linter.unusedSimpArgs false
set_option linter.unusedVariables false
attribute [local go_sem] Oper.semAt_some
theorem changes_stops (n : Nat) (hn : 3 ≤ n) (g1 g2 B Bo : Nat) (ga gb : Gd) (hsa : Small ga) (hsb : Small gb) (w : World) (hB : B ≤ w.heap.size) (v0 : Value) (hbox : w.heap[Bo]? = some (.cells #[v0] 26 (0, 0))) (hown : ∀ k, v0.ownBlock = some k → k < w.heap.size)
    (hg1 : w.heap[g1]? = some (.cells #[.slice ga.rA ga.rl ga.rc, .slice ga.nA ga.nl ga.nc] 25 (0, 0))) (hg2 : w.heap[g2]? = some (.cells #[.slice gb.rA gb.rl gb.rc, .slice gb.nA gb.nl gb.nc] 25 (0, 0))) (HGA : Aside0 (GM w B ga)) (HGB : Aside0 (GM w B gb)) :
    SeqStopsK Fence.wide n Try.prog 43 #[.pointer (some ⟨g1, 0, none⟩), .pointer (some ⟨g2, 0, none⟩)] encC (KpC B Bo) (fun ys => ∃ K, Keys (walkR ga.NS ga.R) (walkR gb.NS gb.R) K ∧ ys = K.flatMap (changeR ga.NS (walkR ga.NS ga.R) gb.NS (walkR gb.NS gb.R))) (fun _ => True) 48000 w := fun l J Jx W hW hJ _ hY h0 =>
  changes1_in n hn l g1 g2 B Bo ga gb hsa hsb J Jx hY W hJ (Nat.le_trans hB hW.size) v0 (blk_below hbox hW) (fun k hk => Nat.lt_of_lt_of_le (hown k hk) hW.size) (blk_below hg1 hW) (blk_below hg2 hW) (Aside0.mk (HGA.out.kept fun k hk => hW.block k (by omega))) (Aside0.mk (HGB.out.kept fun k hk => hW.block k (by omega))) h0
theorem KpC.alloc {B Bo : Nat} (W : World) (o : Obj) (hB : B ≤ W.heap.size) : KpC B Bo W (W.alloc o) :=
  ⟨fun k hk => Below.heap_alloc W o k (by omega), fun v hv => ⟨v, blk_alloc hv o, Or.inl rfl, fun k hk => Or.inl hk, by rw [World.size_alloc]; omega, fun k q hk _ _ _ => blk_alloc hk o⟩⟩
theorem KpC.push {B Bo X n m : Nat} {W w1 : World} {v v' : Value} {tmp : Obj} {xs ys : List Value} (hB : B ≤ X) (hX : X ≤ Bo) (hXs : X ≤ W.heap.size) (hv : W.heap[Bo]? = some (.cells #[v] 26 (0, 0))) (hv1 : w1.heap[Bo]? = some (.cells #[v] 26 (0, 0))) (hrow : W.ownsRow X 44 5 v n xs) (hown' : w1.ownsRow X 44 5 v' m ys) (hg : (W.alloc tmp).grownBy w1 v.ownBlock) (hat : v'.ownBlock = v.ownBlock ∨ v'.ownBlock = some (W.alloc tmp).heap.size) : KpC B Bo W (w1.setCell ⟨Bo, 0, none⟩ v') := by
  have hs := hg.size
  rw [World.size_alloc] at hs hat
  have hss := (KeepsWalks.setCell w1 ⟨Bo, 0, none⟩ v').size
  have hback : (w1.setCell ⟨Bo, 0, none⟩ v').heap.size = w1.heap.size := by simp [World.setCell]
  refine ⟨fun k hk => ?_, fun v2 hv2 => ?_⟩
  · rw [show (w1.setCell ⟨Bo, 0, none⟩ v').heap[k]? = w1.heap[k]? from Below.heap_setCell w1 ⟨Bo, 0, none⟩ v' k (by show k ≠ Bo; omega), hg.block k (by rw [World.size_alloc]; omega) (fun e => by have := (hrow.lt k e.symm).1; omega), Below.heap_alloc W tmp k (by omega)]
  · rw [hv] at hv2
    cases hv2
    refine ⟨v', Boxed.set v' (show Boxed w1 Bo 26 v from hv1), ?_, fun k hk => Or.inr (by rw [hback]; exact (hown'.lt k hk).2), by omega, fun k o hk _ hne hnv => ?_⟩
    · rcases hat with e | e
      · exact Or.inl e
      · exact Or.inr ⟨_, e, by omega⟩
    · have hkl := blk_lt hk
      rw [show (w1.setCell ⟨Bo, 0, none⟩ v').heap[k]? = w1.heap[k]? from Below.heap_setCell w1 ⟨Bo, 0, none⟩ v' k hne, hg.block k (by rw [World.size_alloc]; omega) (fun e => hnv e.symm), Below.heap_alloc W tmp k hkl]
      exact hk
set_option maxRecDepth 100000 in
set_option maxHeartbeats 8000000 in
theorem appch_calls (w : World) (X B : Nat) (hBX : B ≤ X) (hX : X ≤ w.heap.size) (g1 g2 : Nat) (ga gb : Gd) (hsa : Small ga) (hsb : Small gb) (hg1 : w.heap[g1]? = some (.cells #[.slice ga.rA ga.rl ga.rc, .slice ga.nA ga.nl ga.nc] 25 (0, 0))) (hg2 : w.heap[g2]? = some (.cells #[.slice gb.rA gb.rl gb.rc, .slice gb.nA gb.nl gb.nc] 25 (0, 0))) (HGA : Aside0 (GM w B ga)) (HGB : Aside0 (GM w B gb)) (a0 : Option Addr) (n0 c0 : Nat) (l0 : List Ch) (hrow0 : w.ownsRow X 44 5 (.slice a0 n0 c0) n0 (chs l0)) (hn0 : n0 ≤ 40) :
    Calls Try.prog 26 #[.slice a0 n0 c0, .func (.func 43) #[] #[.pointer (some ⟨g1, 0, none⟩), .pointer (some ⟨g2, 0, none⟩)]] w fun e W' => ∃ (v : Value) (K : List Int), e = .returned v ∧ Keys (walkR ga.NS ga.R) (walkR gb.NS gb.R) K ∧ W'.ownsRow X 44 5 v (l0 ++ K.flatMap (changeR ga.NS (walkR ga.NS ga.R) gb.NS (walkR gb.NS gb.R))).length (chs (l0 ++ K.flatMap (changeR ga.NS (walkR ga.NS ga.R) gb.NS (walkR gb.NS gb.R)))) ∧ Below X w W' := by
  obtain ⟨i0, hi, hz0, hz1, hz2⟩ := info_parts Di.info44
  have hl0 : l0.length = n0 := by have := hrow0.1; rw [chs_len] at this; omega
  refine (callsIn_wide (n := 20)).1 ?_
  refine callsIn_of_wp_marks Try.func26 rfl trivial ?_ rfl
  simp only [Try.ntmps26, List.size_toArray, List.length_cons, List.length_nil, Nat.reduceAdd, Nat.reduceSub, Array.replicate_succ, Array.replicate_zero, List.push_toArray, List.append_toArray, List.nil_append, List.cons_append]
  gi_wp2
  have bO := Boxed.new w 26 (.slice a0 n0 c0)
  have hB0 : Below X w (w.alloc (.cells #[.slice a0 n0 c0] 26)) := (Below.refl _ w).alloc hX _
  have hbw : Below w.heap.size w (w.alloc (.cells #[.slice a0 n0 c0] 26)) := below_alloc (Below.refl _ w) _
  refine wpIn_rangeFunc_ownH rfl (by decide) (gf := 43) (lb := #[.pointer (some ⟨g1, 0, none⟩), .pointer (some ⟨g2, 0, none⟩)]) rfl trivial (enters_of Try.func43 (by kernel_rfl) rfl)
    (changes_stops 19 (by decide) g1 g2 B w.heap.size ga gb hsa hsb (w.alloc (.cells #[.slice a0 n0 c0] 26)) (by simp; omega) _ bO (fun k hk => by have := (hrow0.lt k hk).2; simp; omega) (blk_alloc hg1 _) (blk_alloc hg2 _) (Aside0.mk (HGA.out.kept fun k hk => hbw.block k (by omega))) (Aside0.mk (HGB.out.kept fun k hk => hbw.block k (by omega))))
    KpC.t (KpC.b (by simp; omega)) (Below.refl _ _) (fun _ => rfl)
    (fun pre W => (∃ v, Boxed W w.heap.size 26 v ∧ W.ownsRow X 44 5 v (l0 ++ pre).length (chs (l0 ++ pre)) ∧ True) ∧ Below X w W)
    (fun _ _ _ => False)
    (OwnFrom.and (Own.from (holdsRow_own X w.heap.size 26 44 5 (fun pre : List Ch => (l0 ++ pre).length) (fun pre => chs (l0 ++ pre)) (fun pre v => True)) _) (ownFrom_below hX (by simp; omega)))
    (fun _ _ _ _ _ hs _ _ => hs.elim)
    ⟨⟨_, bO, by rw [List.append_nil, hl0]; exact hrow0.alloc _, trivial⟩, hB0⟩
    (fun x a' W => ∃ Bx, (w.alloc (.cells #[.slice a0 n0 c0] 26)).heap.size ≤ Bx ∧ W.heap[Bx]? = some (.cells #[.int .i64 x.k, .int .i64 x.a, .int .i64 x.i, .int .u64 x.was, .int .u64 x.is] 44 (0, 0)) ∧ a' = { tmps := #[.slice a0 n0 c0, .func (.func 43) #[] #[.pointer (some ⟨g1, 0, none⟩), .pointer (some ⟨g2, 0, none⟩)], .pointer (some ⟨w.heap.size, 0, none⟩), undef, .slice none 0 0, .pointer (some ⟨Bx, 0, none⟩), .func (.func 43) #[] #[.pointer (some ⟨g1, 0, none⟩), .pointer (some ⟨g2, 0, none⟩)], .agg #[.int .i64 x.k, .int .i64 x.a, .int .i64 x.i, .int .u64 x.was, .int .u64 x.is], undef, undef, undef, undef, undef], defers := [] }) ?hAx ?assign ?body ?done ?stop
  case hAx =>
    rintro x a' s W W' row ⟨Bx, h1, h2, h3⟩ hg hr
    refine ⟨Bx, h1, (hg.block _ (blk_lt h2) (fun e => ?_)).trans h2, h3⟩
    obtain ⟨_, o, ho, hc⟩ := hr Bx e.symm
    rw [h2] at ho
    cases ho
    cases hc
  case assign =>
    rintro l pre x W K ⟨⟨v, hv, hrow, _⟩, hB⟩ hK
    have hs := hB.size
    have hbl : w.heap.size < W.heap.size := blk_lt hv
    gi_wp2
    exact hK _ _ ((KeepsOthers.alloc _ _).from _) (KpC.alloc _ _ (by omega)) ⟨⟨v, hv.alloc _, hrow.alloc _, trivial⟩, hB.alloc (by omega) _⟩ ⟨W.heap.size, by simp; omega, blk_new W _, rfl⟩
  case body =>
    rintro l pre x a' W hl ⟨r, hr⟩ ⟨⟨v, hv, hrow, _⟩, hB⟩ ⟨Bx, hB1, hB2, rfl⟩ hlt
    have hc := hv.cell
    have hs := hB.size
    have hz0 : W.cell? ⟨Bx, 0, none⟩ = some (.int .i64 x.k) := (blk_cell hB2 0).trans rfl
    have hz1 : W.cell? ⟨Bx, 1, none⟩ = some (.int .i64 x.a) := (blk_cell hB2 1).trans rfl
    have hz2' : W.cell? ⟨Bx, 2, none⟩ = some (.int .i64 x.i) := (blk_cell hB2 2).trans rfl
    have hz3 : W.cell? ⟨Bx, 3, none⟩ = some (.int .u64 x.was) := (blk_cell hB2 3).trans rfl
    have hz4 : W.cell? ⟨Bx, 4, none⟩ = some (.int .u64 x.is) := (blk_cell hB2 4).trans rfl
    have hln : (l0 ++ pre).length ≤ 48040 := by rw [List.length_append]; omega
    obtain ⟨q, hq⟩ : ∃ q, q = (l0 ++ pre).length := ⟨_, rfl⟩
    rw [← hq] at hrow hln
    have HQ := Aside0.mk hq
    clear hq hl0
    gi_wp2_with (gi_at_builtin; refine wpListIn_append_own_at _ rfl _ _ 26 rfl X 44 i0 (.agg #[.int .i64 0, .int .i64 0, .int .i64 0, .int .u64 0, .int .u64 0]) 5 40 Try.underlying26 hi (by assumption) (by assumption) (by assumption) rfl (by decide) _ _ _ rfl (hrow.alloc _) ⟨W.heap.size, 0, none⟩ 1 1 [.int .i64 x.k, .int .i64 x.a, .int .i64 x.i, .int .u64 x.was, .int .u64 x.is] rfl rfl (ch_cells (blk_new W _)) (by intro u hu; simp at hu; rcases hu with rfl | rfl | rfl | rfl | rfl <;> rfl) (by unfold maxLen; omega) (by omega) (by simp; omega) ?_; intro v' w1 hown' hgrow _ hat; obtain ⟨g', cap', rfl⟩ := ownsRow_succ hown'; obtain ⟨hv1, hv2, hr2, hk2, hb2⟩ := hv.appended (by decide) hrow (by omega) hX hown' hgrow; have hkp := KpC.push (B := B) hBX hX (by omega) hv hv1 hrow hown' hgrow hat; have hc1 := hv1.cell; have hf1 := hv1.frozen)
    exact ⟨hk2.from _, hkp, ⟨_, hv2, by rw [← List.append_assoc, List.length_append, chs_snoc, ← HQ.out]; exact hr2, trivial⟩, hB.trans hb2⟩
  case done =>
    rintro D ys W hD ⟨K, hK1, rfl⟩ ⟨⟨v, hv, hrow, _⟩, hB⟩ hK
    have hc := hv.cell
    have HK1 := Aside0.mk hK1
    have HROW := Aside0.mk hrow
    have HBB := Aside0.mk hB
    clear hK1 hrow hB
    gi_wp2
    refine ⟨by simp, .inl ⟨_, _, rfl, run_takeDeferred hK, ?_⟩⟩
    exact ⟨_, results_tmp rfl _ _ _, v, K, rfl, HK1.out, ownsRow_putObj HROW.out _ hK rfl, HBB.out.trans (belowK_b (w := w) hX W D _ _ (by simp at hD; omega) hK rfl rfl)⟩
  case stop =>
    rintro D c pre W _ _ h _
    exact h.elim
end Go.Proofs.Ytekggbmajemmhaa.Gr
