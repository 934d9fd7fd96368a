/- Parts of one proof, set together: Fp3, WTab, WInv, WFootNe, WInvWords, Fp4, Fp5, Fp6, Fp7, Fp8. What each says stands at its head; no condition beyond theirs. -/
import Derived.Test.YtmolflmljneelaaEs4
import Derived.Laws.Cover3
import Derived.Laws.IdiomCopy
/- Parts of a walk, after my own text Pm3 for another seat. What each says stands at its head. -/
namespace Go.Proofs.Ytmolflmljneelaa.Pm
open Go.RowKit Go.Proofs.YtmolflmljneelaaW.PrintWords Go.Proofs.YtmolflmljneelaaW.PrintLast Go.Proofs.YtmolflmljneelaaW.PrintMore
set_option linter.unusedSimpArgs false
set_option linter.unusedVariables false
/-- The eight words of a row from i on. -/
def Eight (S : List Int) (i : Nat) (y0 y1 y2 y3 y4 y5 y6 y7 : Int) : Prop := S.getD (i + 0) 0 = y0 ∧ S.getD (i + 1) 0 = y1 ∧ S.getD (i + 2) 0 = y2 ∧ S.getD (i + 3) 0 = y3 ∧ S.getD (i + 4) 0 = y4 ∧ S.getD (i + 5) 0 = y5 ∧ S.getD (i + 6) 0 = y6 ∧ S.getD (i + 7) 0 = y7
set_option maxHeartbeats 4000000 in
set_option maxRecDepth 100000 in
theorem noted_calls (W : World) {p gs gk bm N cs ck n : Nat} {S K : List Int} {D : DataW Unit} (h : Rg W p gs gk bm N cs ck n S K D) (i : Nat) (hi : i + 8 ≤ N) (hN : N ≤ 64) (y0 y1 y2 y3 y4 y5 y6 y7 : Int) (HE : Aside0 (Eight S i y0 y1 y2 y3 y4 y5 y6 y7)) :
    Calls Try.prog 61 #[.pointer (some ⟨p, 0, none⟩), .int .i64 (i : Int)] W fun e w' => e = .returned (.agg #[.int .u64 y0, .int .u64 y1, .int .u64 y2, .int .u64 y3, .int .u64 y4, .int .u64 y5, .int .u64 y6, .int .u64 y7]) ∧ Below W.heap.size W w' := by
  obtain ⟨st, hp⟩ := h.tp
  have hu := Try.underlying86
  have hu7 := Try.underlying103
  have hlt := h.lt
  have HB := Aside0.mk (Below.refl W.heap.size W)
  have HH := Aside0.mk h
  have HP := Aside0.mk hp
  obtain ⟨cur, _, hsz, hNc, hcm, _⟩ := h.rs.cur
  clear h hp hsz
  go_enter Try.func61, Try.ntmps61
  go_upto_region 1 with (first | ((with_reducible refine gate_dst (N := 4) rfl ?_); refine box_event ?hg (N := 4) ?hd (cs := #[.int .u64 0, .int .u64 0, .int .u64 0, .int .u64 0, .int .u64 0, .int .u64 0, .int .u64 0, .int .u64 0]) (t := 103) ?hr ?_; (case hd => rfl); (case hg => rfl); (case hr => first | (go_simp; done) | (go_simp; rfl)); intro g4 hg w1_ hbox hb; have n0_ := Aside0.mk (below_step (by repeat (first | (with_reducible first | exact HB.out | apply below_alloc | apply pw_below_drewN | apply below_drew1) | exact HB.out)) hb); have n1_ := Aside0.mk hbox; have n2_ := Aside0.mk ((by rw [hg]; exact (below_size (by repeat (first | (with_reducible first | exact HB.out | apply below_alloc | apply pw_below_drewN | apply below_drew1) | exact HB.out)))) : W.heap.size ≤ g4); clear HB; have HB := n0_; have BK4 := n1_; have GE4 := n2_; clear n0_ n1_ n2_; clear hb hbox hg; have hc4_0 : w1_.cell? ⟨g4, 0, none⟩ = some (.int .u64 0) := (blk_cell BK4.out 0).trans rfl; have hf4_0 := blk_frozen BK4.out 0; have hc4_1 : w1_.cell? ⟨g4, 1, none⟩ = some (.int .u64 0) := (blk_cell BK4.out 1).trans rfl; have hf4_1 := blk_frozen BK4.out 1; have hc4_2 : w1_.cell? ⟨g4, 2, none⟩ = some (.int .u64 0) := (blk_cell BK4.out 2).trans rfl; have hf4_2 := blk_frozen BK4.out 2; have hc4_3 : w1_.cell? ⟨g4, 3, none⟩ = some (.int .u64 0) := (blk_cell BK4.out 3).trans rfl; have hf4_3 := blk_frozen BK4.out 3; have hc4_4 : w1_.cell? ⟨g4, 4, none⟩ = some (.int .u64 0) := (blk_cell BK4.out 4).trans rfl; have hf4_4 := blk_frozen BK4.out 4; have hc4_5 : w1_.cell? ⟨g4, 5, none⟩ = some (.int .u64 0) := (blk_cell BK4.out 5).trans rfl; have hf4_5 := blk_frozen BK4.out 5; have hc4_6 : w1_.cell? ⟨g4, 6, none⟩ = some (.int .u64 0) := (blk_cell BK4.out 6).trans rfl; have hf4_6 := blk_frozen BK4.out 6; have hc4_7 : w1_.cell? ⟨g4, 7, none⟩ = some (.int .u64 0) := (blk_cell BK4.out 7).trans rfl; have hf4_7 := blk_frozen BK4.out 7))
  have hT := HH.out.below HB.out
  have h0 : w1_.cell? ⟨p, 0, none⟩ = some (.slice (some ⟨gs, 0, none⟩) N cs) := (blk_cell (blk_below HP.out HB.out) 0).trans rfl
  have hc0 : w1_.cell? ⟨gs, i, none⟩ = some (.int .u64 y0) := (hT.rs.cell (i + 0) (by omega)).trans (by rw [HE.out.1])
  have hc1 : w1_.cell? ⟨gs, i + 1, none⟩ = some (.int .u64 y1) := (hT.rs.cell (i + 1) (by omega)).trans (by rw [HE.out.2.1])
  have hc2 : w1_.cell? ⟨gs, i + 2, none⟩ = some (.int .u64 y2) := (hT.rs.cell (i + 2) (by omega)).trans (by rw [HE.out.2.2.1])
  have hc3 : w1_.cell? ⟨gs, i + 3, none⟩ = some (.int .u64 y3) := (hT.rs.cell (i + 3) (by omega)).trans (by rw [HE.out.2.2.2.1])
  have hc4 : w1_.cell? ⟨gs, i + 4, none⟩ = some (.int .u64 y4) := (hT.rs.cell (i + 4) (by omega)).trans (by rw [HE.out.2.2.2.2.1])
  have hc5 : w1_.cell? ⟨gs, i + 5, none⟩ = some (.int .u64 y5) := (hT.rs.cell (i + 5) (by omega)).trans (by rw [HE.out.2.2.2.2.2.1])
  have hc6 : w1_.cell? ⟨gs, i + 6, none⟩ = some (.int .u64 y6) := (hT.rs.cell (i + 6) (by omega)).trans (by rw [HE.out.2.2.2.2.2.2.1])
  have hc7 : w1_.cell? ⟨gs, i + 7, none⟩ = some (.int .u64 y7) := (hT.rs.cell (i + 7) (by omega)).trans (by rw [HE.out.2.2.2.2.2.2.2])
  have hi0 : (0 : Int) ≤ (i : Int) := by omega
  have hi8 : (i : Int) + 8 ≤ (N : Int) := by omega
  have hi9 : (i : Int) + 8 ≤ 64 := by omega
  clear hT
  have harr : ∀ w : World, (Instr.arrayAt 103 (.slice (some ⟨gs, i, none⟩) 8 (cs - i))).run Try.prog w = .ok (.pointer (some ⟨gs, i, none⟩)) w := fun w => run_arrayAt w 103 49 8 _ 8 _ Try.underlying103 (Nat.le_refl _)
  go_wp2
  refine bodyPost_ret (results_cell_row rfl _ _ g4 103 #[.int .u64 y0, .int .u64 y1, .int .u64 y2, .int .u64 y3, .int .u64 y4, .int .u64 y5, .int .u64 y6, .int .u64 y7] (0, 0) _ rfl (by (with_reducible repeat (first | refine blk_drewN ?_ _ | refine blk_drew ?_ | refine blk_alloc ?_ _)); refine blk_put (cs := #[.int .u64 y0, .int .u64 y1, .int .u64 y2, .int .u64 y3, .int .u64 y4, .int .u64 y5, .int .u64 y6, .int .u64 0]) ?_ 7 _ rfl; (with_reducible repeat (first | refine blk_drewN ?_ _ | refine blk_drew ?_ | refine blk_alloc ?_ _)); refine blk_put (cs := #[.int .u64 y0, .int .u64 y1, .int .u64 y2, .int .u64 y3, .int .u64 y4, .int .u64 y5, .int .u64 0, .int .u64 0]) ?_ 6 _ rfl; (with_reducible repeat (first | refine blk_drewN ?_ _ | refine blk_drew ?_ | refine blk_alloc ?_ _)); refine blk_put (cs := #[.int .u64 y0, .int .u64 y1, .int .u64 y2, .int .u64 y3, .int .u64 y4, .int .u64 0, .int .u64 0, .int .u64 0]) ?_ 5 _ rfl; (with_reducible repeat (first | refine blk_drewN ?_ _ | refine blk_drew ?_ | refine blk_alloc ?_ _)); refine blk_put (cs := #[.int .u64 y0, .int .u64 y1, .int .u64 y2, .int .u64 y3, .int .u64 0, .int .u64 0, .int .u64 0, .int .u64 0]) ?_ 4 _ rfl; (with_reducible repeat (first | refine blk_drewN ?_ _ | refine blk_drew ?_ | refine blk_alloc ?_ _)); refine blk_put (cs := #[.int .u64 y0, .int .u64 y1, .int .u64 y2, .int .u64 0, .int .u64 0, .int .u64 0, .int .u64 0, .int .u64 0]) ?_ 3 _ rfl; (with_reducible repeat (first | refine blk_drewN ?_ _ | refine blk_drew ?_ | refine blk_alloc ?_ _)); refine blk_put (cs := #[.int .u64 y0, .int .u64 y1, .int .u64 0, .int .u64 0, .int .u64 0, .int .u64 0, .int .u64 0, .int .u64 0]) ?_ 2 _ rfl; (with_reducible repeat (first | refine blk_drewN ?_ _ | refine blk_drew ?_ | refine blk_alloc ?_ _)); refine blk_put (cs := #[.int .u64 y0, .int .u64 0, .int .u64 0, .int .u64 0, .int .u64 0, .int .u64 0, .int .u64 0, .int .u64 0]) ?_ 1 _ rfl; (with_reducible repeat (first | refine blk_drewN ?_ _ | refine blk_drew ?_ | refine blk_alloc ?_ _)); refine blk_put (cs := #[.int .u64 0, .int .u64 0, .int .u64 0, .int .u64 0, .int .u64 0, .int .u64 0, .int .u64 0, .int .u64 0]) ?_ 0 _ rfl; (with_reducible repeat (first | refine blk_drewN ?_ _ | refine blk_drew ?_ | refine blk_alloc ?_ _)); exact BK4.out) Try.underlying103 rfl (by kernel_rfl)) rfl ?_
  exact ⟨rfl, (by repeat (first | (with_reducible first | exact HB.out | apply below_alloc | apply pw_below_drewN | apply below_drew1 | refine below_set ?_ GE4.out) | exact HB.out))⟩
end Go.Proofs.Ytmolflmljneelaa.Pm
-- PRINTED BY print.sh 35421559b90ae4d0a3588c463048766b98c2df88dd9212a6774a882060cdf62d: not written by this session
/-! ### 50. A region's order in a table, made once a region: each step asks the table (numbers alone), not the operations -/
namespace Go.Proofs.YtmolflmljneelaaW.PrintLast
open Go.Proofs.YtmolflmljneelaaW.PrintWords (Aside0)
def needsOf (md : Region.Mode) (o : Oper) : List Nat := (o.after.toList.filter (fun e => Region.binds md e)).map (fun e => e.on)
def clashOf (md : Region.Mode) (ops : Array Oper) (i : Nat) (oi : Oper) : List Nat := (List.range ops.size).filter fun j => !(j == i) && match ops[j]? with
  | some oj => !(oj.after.any (fun e => Region.binds md e && e.on == i) || oi.apart ops oj)
  | none => false
/-- No select in it; for each operation: what must have come up before it, and what may not come up behind it if it is taken first. -/
def rtab (md : Region.Mode) (ops : Array Oper) : Bool × List (List Nat × List Nat) := (Region.noSelect ops, (List.range ops.size).map fun i => match ops[i]? with
  | some o => (needsOf md o, clashOf md ops i o)
  | none => ([], []))
def readyAt (T : List (List Nat × List Nat)) (l : List Bool) (i : Nat) : Bool := !l.getD i true && match T[i]? with
  | some r => r.1.all (fun j => l.getD j false)
  | none => false
def readyT (T : List (List Nat × List Nat)) (l : List Bool) : List Nat := (List.range T.length).filter (readyAt T l)
section
variable {md : Region.Mode} {ops : Array Oper} {T : Bool × List (List Nat × List Nat)} {l l' li lj lk : Array Bool} {ds : List Nat} {i j k : Nat}
theorem gd (l : Array Bool) (j : Nat) (b : Bool) : l.getD j b = l.toList.getD j b := by simp [Array.getD_eq_getD_getElem?, List.getD_eq_getElem?_getD]
theorem needs_all (o : Oper) (p : Nat → Bool) : o.after.all (fun e => !Region.binds md e || p e.on) = (needsOf md o).all p := by
  unfold needsOf
  rw [← Array.all_toList]
  induction o.after.toList with
  | nil => rfl
  | cons e r ih =>
    rw [List.all_cons, ih, List.filter_cons]
    cases h : Region.binds md e <;> simp
theorem rtab_length : (rtab md ops).2.length = ops.size := by simp [rtab]
theorem rtab_some {o : Oper} (h : ops[i]? = some o) : (rtab md ops).2[i]? = some (needsOf md o, clashOf md ops i o) := by
  have hi := (Array.getElem?_eq_some_iff.1 h).1
  unfold rtab
  rw [List.getElem?_map, List.getElem?_range hi, Option.map_some, h]
theorem rtab_none (h : ops[i]? = none) : (rtab md ops).2[i]? = none := by
  have hi : ops.size ≤ i := Array.getElem?_eq_none_iff.1 h
  exact List.getElem?_eq_none (by rw [rtab_length]; exact hi)
theorem readyAt_eq : readyAt (rtab md ops).2 l.toList i = (!l.getD i true && ((ops[i]?).map (·.after.all fun e => !Region.binds md e || l.getD e.on false)).getD false) := by
  unfold readyAt
  rw [gd]
  cases h : ops[i]? with
  | none => rw [rtab_none h]; rfl
  | some o =>
    rw [rtab_some h]
    simp only [Option.map_some, Option.getD_some]
    rw [← needs_all]
    simp only [gd]
theorem ready_eq : Region.ready md ops l = readyT (rtab md ops).2 l.toList := by
  unfold Region.ready readyT
  rw [rtab_length]
  refine List.filter_congr (fun i _ => ?_)
  rw [readyAt_eq]
/-- done_'s. -/
theorem done_of (hT : rtab md ops = T) (h : (readyT T.2 l.toList == []) = true) : (Region.ready md ops l == []) = true := by
  subst hT
  rw [ready_eq]
  exact h
/-- What d waits for, as_ bits: told in the table (B), checked in one pass: each bit is a need of d, or a bit of an earlier need's. -/
def upM (B : List Nat) (d : Nat) : List Nat → Nat
  | [] => 0
  | n :: r => (2 ^ n ||| (if n < d then B.getD n 0 else 0)) ||| upM B d r
def waitsOk (T : List (List Nat × List Nat)) (B : List Nat) : Bool := (List.range T.length).all fun d => match T[d]? with
  | some r => (B.getD d 0 ||| upM B d r.1) == upM B d r.1
  | none => false
theorem upM_bit {B : List Nat} {d i : Nat} : ∀ {ns : List Nat}, (upM B d ns).testBit i = true → ∃ n ∈ ns, n = i ∨ (n < d ∧ (B.getD n 0).testBit i = true)
  | [], h => by simp [upM] at h
  | n :: r, h => by
    unfold upM at h
    rw [Nat.testBit_or, Nat.testBit_or, Bool.or_eq_true, Bool.or_eq_true] at h
    rcases h with (h | h) | h
    · rw [Nat.testBit_two_pow] at h
      exact ⟨n, List.mem_cons_self, .inl (by simpa using h)⟩
    · by_cases hn : n < d
      · rw [if_pos hn] at h
        exact ⟨n, List.mem_cons_self, .inr ⟨hn, h⟩⟩
      · rw [if_neg hn] at h
        simp at h
    · obtain ⟨m, hm, h2⟩ := upM_bit h
      exact ⟨m, List.mem_cons_of_mem _ hm, h2⟩
theorem with_tabW {P : Program} {Q : Exit → Act → World → Prop} {S : World → Prop} {n : Nat} {a : Act} {w : World} {B : List Nat} (hT : rtab md ops = T) (hB : waitsOk T.2 B = true) (h : Aside0 (rtab md ops = T) → Aside0 (waitsOk T.2 B = true) → wpAnyLast P md ops Q S ds n l a w) : wpAnyLast P md ops Q S ds n l a w := h ⟨hT⟩ ⟨hB⟩
end
/-- The operations of a region, by its number. -/
def opsIn : Code → Nat → Option (Array Oper)
  | .region id ops _, k => if id == k then some ops else none
  | .seq a b, k => match opsIn a k with
    | some o => some o
    | none => opsIn b k
  | .cond _ a b, k => match opsIn a k with
    | some o => some o
    | none => opsIn b k
  | .block _ c, k => opsIn c k
  | .loop c, k => opsIn c k
  | .scope c, k => opsIn c k
  | .rangeFunc _ _ a b, k => match opsIn a k with
    | some o => some o
    | none => opsIn b k
  | _, _ => none
def opsOf (f : Func) (k : Nat) : Array Oper := ((f.body.bind fun c => opsIn c k)).getD #[]
end Go.Proofs.YtmolflmljneelaaW.PrintLast
-- PRINTED BY print.sh 35421559b90ae4d0a3588c463048766b98c2df88dd9212a6774a882060cdf62d: not written by this session
/-! ### 57. A region of open order by ONE relation over what is listed so far: each operation is shown once, whatever came up before it -/
namespace Go.Proofs.YtmolflmljneelaaW.PrintLast
/-- Number i is listed too. -/
def up (b : Nat → Bool) (i : Nat) : Nat → Bool := fun j => if j = i then true else b j
theorem up_self (b : Nat → Bool) (i : Nat) : up b i i = true := by simp [up]
theorem up_ne {b : Nat → Bool} {i j : Nat} (h : j ≠ i) : up b i j = b j := by simp [up, h]
/-- What is listed: O's operations by b, all else already. -/
def lof (n : Nat) (O : List Nat) (b : Nat → Bool) : List Bool := (List.range n).map fun j => if O.contains j then b j else true
/-- The destinations of what is listed are filled. -/
def putSel (a : Act) (b : Nat → Bool) : List (Nat × Tmp × Value) → Act
  | [] => a
  | e :: r => putSel (if b e.1 = true then a.put (some e.2.1) e.2.2 else a) b r
section
variable {P : Program} {ops : Array Oper} {Q : Exit → Act → World → Prop} {md : Region.Mode} {T : Bool × List (List Nat × List Nat)} {B : List Nat} {O : List Nat} {b : Nat → Bool} {i j n : Nat}
theorem lof_length : (lof n O b).length = n := by simp [lof]
theorem lof_get {d : Bool} (hj : j < n) : (lof n O b).getD j d = if O.contains j then b j else true := by
  simp [lof, List.getD_eq_getElem?_getD, hj]
theorem lof_up (hi : O.contains i = true) : (lof n O b).set i true = lof n O (up b i) := by
  apply List.ext_getElem?
  intro j
  by_cases hj : j < n
  · by_cases hij : i = j
    · subst hij
      have hl : i < (lof n O b).length := by rw [lof_length]; exact hj
      rw [List.getElem?_set_self hl]
      simp only [lof, List.getElem?_map, List.getElem?_range hj, Option.map_some, hi, if_true, up_self]
    · rw [List.getElem?_set_ne hij]
      simp only [lof, List.getElem?_map, List.getElem?_range hj, Option.map_some]
      rw [up_ne (Ne.symm hij)]
  · rw [List.getElem?_eq_none (by simp [lof]; omega), List.getElem?_eq_none (by simp [lof]; omega)]
/-- The step of operation i: out of the relation, it not being listed, all it waits for being so, and nothing that waits for it. -/
def StepAt (P : Program) (ops : Array Oper) (Q : Exit → Act → World → Prop) (B : List Nat) (O : List Nat) (I : (Nat → Bool) → Act → World → Prop) (i : Nat) : Prop :=
  ∀ b a w, I b a w → b i = false → (∀ j, (O.contains j && (B.getD i 0).testBit j) = true → b j = true) → (∀ d, (O.contains d && (B.getD d 0).testBit i) = true → b d = false) →
    ∃ oi, ops[i]? = some oi ∧ ∀ K : Act → World → Prop, Shut (∀ a' w', I (up b i) a' w' → K a' w') → if Region.wanted oi (yielded ops a.tmps) = true then Oper.wp P oi a w K Q else K (a.put oi.dst undef) w
theorem steps_nil {I : (Nat → Bool) → Act → World → Prop} : ∀ i ∈ ([] : List Nat), StepAt P ops Q B O I i := fun _ h => by cases h
theorem steps_cons {I : (Nat → Bool) → Act → World → Prop} {rs : List Nat} (h : StepAt P ops Q B O I i) (hs : ∀ j ∈ rs, StepAt P ops Q B O I j) : ∀ j ∈ i :: rs, StepAt P ops Q B O I j := fun j hj => by
  rcases List.mem_cons.1 hj with rfl | hj
  · exact h
  · exact hs j hj
/-- Every edge goes to an earlier operation; what is listed already waits for nothing of O; O's numbers are the region's, each once. -/
def baseOk (T : List (List Nat × List Nat)) (O : List Nat) : Bool :=
  (List.range T.length).all (fun d => match T[d]? with
    | some r => (O.contains d || r.1.all fun n => !O.contains n) && r.1.all fun n => decide (n < d)
    | none => false) && O.all (fun i => decide (i < T.length)) && decide O.Nodup
theorem baseOk_row {T : List (List Nat × List Nat)} (h : baseOk T O = true) {d : Nat} {r : List Nat × List Nat} (hr : T[d]? = some r) : (O.contains d = false → ∀ n ∈ r.1, O.contains n = false) ∧ ∀ n ∈ r.1, n < d := by
  simp only [baseOk, Bool.and_eq_true] at h
  have h1 := List.all_eq_true.1 h.1.1 d (List.mem_range.2 (List.getElem?_eq_some_iff.1 hr).1)
  rw [hr] at h1
  simp only [Bool.and_eq_true, Bool.or_eq_true, List.all_eq_true, decide_eq_true_eq] at h1
  refine ⟨fun hd n hn => ?_, h1.2⟩
  rcases h1.1 with h2 | h2
  · rw [hd] at h2; cases h2
  · simpa using h2 n hn
theorem baseOk_lt {T : List (List Nat × List Nat)} (h : baseOk T O = true) {i : Nat} (hi : i ∈ O) : i < T.length := by
  simp only [baseOk, Bool.and_eq_true] at h
  simpa using List.all_eq_true.1 h.1.2 i hi
theorem baseOk_nodup {T : List (List Nat × List Nat)} (h : baseOk T O = true) : O.Nodup := by
  simp only [baseOk, Bool.and_eq_true] at h
  exact of_decide_eq_true h.2
def Closed (T : List (List Nat × List Nat)) (O : List Nat) (b : Nat → Bool) : Prop := ∀ d r, T[d]? = some r → O.contains d = true → b d = true → ∀ n ∈ r.1, O.contains n = true → b n = true
/-- What waits for nothing of O has none of it in its bits. -/
theorem bits_out {T : List (List Nat × List Nat)} (hw : waitsOk T B = true) (hk : baseOk T O = true) : ∀ (m d : Nat), d ≤ m → d < T.length → O.contains d = false → ∀ j, (B.getD d 0).testBit j = true → O.contains j = false := by
  intro m
  induction m with
  | zero =>
    intro d hd hl hO j hj
    have hd0 : d = 0 := by omega
    subst hd0
    have hr : T[0]? = some T[0] := List.getElem?_eq_getElem hl
    have h1 := List.all_eq_true.1 hw 0 (List.mem_range.2 hl)
    rw [hr] at h1
    simp only [beq_iff_eq] at h1
    have h2 : (upM B 0 T[0].1).testBit j = true := by rw [← h1, Nat.testBit_or, hj, Bool.true_or]
    obtain ⟨n, hn, h3⟩ := upM_bit h2
    have := (baseOk_row hk hr).2 n hn
    omega
  | succ m ih =>
    intro d hd hl hO j hj
    have hr : T[d]? = some T[d] := List.getElem?_eq_getElem hl
    have h1 := List.all_eq_true.1 hw d (List.mem_range.2 hl)
    rw [hr] at h1
    simp only [beq_iff_eq] at h1
    have h2 : (upM B d T[d].1).testBit j = true := by rw [← h1, Nat.testBit_or, hj, Bool.true_or]
    obtain ⟨n, hn, h3⟩ := upM_bit h2
    have hO2 := (baseOk_row hk hr).1 hO n hn
    rcases h3 with rfl | ⟨h4, h5⟩
    · exact hO2
    · exact ih n (by omega) (by omega) hO2 j h5
theorem closed_bits {T : List (List Nat × List Nat)} (hw : waitsOk T B = true) (hk : baseOk T O = true) (hc : Closed T O b) : ∀ (m d : Nat), d ≤ m → d < T.length → O.contains d = true → b d = true → ∀ j, O.contains j = true → (B.getD d 0).testBit j = true → b j = true := by
  intro m
  induction m with
  | zero =>
    intro d hd hl hO hb j hjO hj
    have hd0 : d = 0 := by omega
    subst hd0
    have hr : T[0]? = some T[0] := List.getElem?_eq_getElem hl
    have h1 := List.all_eq_true.1 hw 0 (List.mem_range.2 hl)
    rw [hr] at h1
    simp only [beq_iff_eq] at h1
    have h2 : (upM B 0 T[0].1).testBit j = true := by rw [← h1, Nat.testBit_or, hj, Bool.true_or]
    obtain ⟨n, hn, h3⟩ := upM_bit h2
    have := (baseOk_row hk hr).2 n hn
    omega
  | succ m ih =>
    intro d hd hl hO hb j hjO hj
    have hr : T[d]? = some T[d] := List.getElem?_eq_getElem hl
    have h1 := List.all_eq_true.1 hw d (List.mem_range.2 hl)
    rw [hr] at h1
    simp only [beq_iff_eq] at h1
    have h2 : (upM B d T[d].1).testBit j = true := by rw [← h1, Nat.testBit_or, hj, Bool.true_or]
    obtain ⟨n, hn, h3⟩ := upM_bit h2
    rcases h3 with rfl | ⟨h4, h5⟩
    · exact hc d _ hr hO hb n hn hjO
    · cases hO2 : O.contains n with
      | true => exact ih n (by omega) (by omega) hO2 (hc d _ hr hO hb n hn hO2) j hjO h5
      | false =>
        have := bits_out hw hk n n (Nat.le_refl _) (by omega) hO2 j h5
        rw [hjO] at this
        cases this
theorem up_count : ∀ {O : List Nat}, O.Nodup → i ∈ O → b i = false → (O.filter fun j => !up b i j).length + 1 = (O.filter fun j => !b j).length
  | [], _, hi, _ => by cases hi
  | x :: r, hn, hi, hb => by
    rw [List.nodup_cons] at hn
    rcases List.mem_cons.1 hi with rfl | hi
    · have h1 : (r.filter fun j => !up b i j) = r.filter fun j => !b j := by
        refine List.filter_congr (fun j hj => ?_)
        rw [up_ne (fun e => hn.1 (by rw [← e]; exact hj))]
      rw [List.filter_cons, List.filter_cons]
      simp [up_self, hb, h1]
    · have hxi : x ≠ i := fun e => hn.1 (e ▸ hi)
      have h1 := up_count hn.2 hi hb
      rw [List.filter_cons, List.filter_cons, up_ne hxi]
      cases hbx : b x
      · simp only [Bool.not_false, if_true, List.length_cons]
        omega
      · simpa using h1
theorem inv_all (hT : rtab md ops = T) (hw : waitsOk T.2 B = true) (hk : baseOk T.2 O = true) (I : (Nat → Bool) → Act → World → Prop) (hs : ∀ i ∈ O, StepAt P ops Q B O I i)
    (hend : ∀ b a w, (∀ j, O.contains j = true → b j = true) → I b a w → Q .normal a w) :
    ∀ (m : Nat) (b : Nat → Bool) (a : Act) (w : World), (O.filter fun j => !b j).length = m → Closed T.2 O b → I b a w → wpAnyLast P md ops Q (fun _ => True) [] m (lof T.2.length O b).toArray a w := by
  subst hT
  have mem_ready' : ∀ {b : Nat → Bool} {i : Nat}, i ∈ Region.ready md ops (lof (rtab md ops).2.length O b).toArray → i < (rtab md ops).2.length ∧ O.contains i = true ∧ b i = false ∧ ∀ r, (rtab md ops).2[i]? = some r → ∀ n ∈ r.1, n < (rtab md ops).2.length → O.contains n = true → b n = true := by
    intro b i hi
    rw [ready_eq] at hi
    unfold readyT at hi
    rw [List.mem_filter, List.mem_range] at hi
    obtain ⟨hl, h1⟩ := hi
    unfold readyAt at h1
    rw [Bool.and_eq_true, lof_get hl] at h1
    obtain ⟨h2, h3⟩ := h1
    have h4 : O.contains i = true := by
      cases h : O.contains i with
      | true => rfl
      | false => rw [h] at h2; simp at h2
    rw [h4] at h2
    refine ⟨hl, h4, by simpa using h2, fun r hr n hn hnl hO => ?_⟩
    rw [hr] at h3
    simp only [List.all_eq_true] at h3
    have h5 := h3 n hn
    rw [lof_get hnl, hO] at h5
    simpa using h5
  intro m
  induction m with
  | zero =>
    intro b a w hm hc hI
    have hall : ∀ j, O.contains j = true → b j = true := by
      intro j hj
      cases hb : b j with
      | true => rfl
      | false =>
        have : j ∈ O.filter fun j => !b j := List.mem_filter.2 ⟨List.contains_iff_mem.1 hj, by simp [hb]⟩
        rw [List.eq_nil_of_length_eq_zero hm] at this
        cases this
    refine ⟨?_, hend b a w hall hI⟩
    refine List.eq_nil_iff_forall_not_mem.2 (fun i hi => ?_)
    obtain ⟨_, h1, h2, _⟩ := mem_ready' hi
    rw [hall i h1] at h2
    cases h2
  | succ m ih =>
    intro b a w hm hc hI
    refine ⟨fun hr => ?_, fun i hi => ?_⟩
    · exfalso
      -- the smallest number that isn't listed is ready
      have hex : ∃ i, O.contains i = true ∧ b i = false := by
        cases hf : O.filter (fun j => !b j) with
        | nil => rw [hf] at hm; simp at hm
        | cons x r =>
          have hx : x ∈ O.filter (fun j => !b j) := by rw [hf]; exact List.mem_cons_self
          rw [List.mem_filter] at hx
          exact ⟨x, List.contains_iff_mem.2 hx.1, by simpa using hx.2⟩
      have hmin : ∀ k, (∃ i, i ≤ k ∧ O.contains i = true ∧ b i = false) → ∃ i, O.contains i = true ∧ b i = false ∧ ∀ j, j < i → O.contains j = true → b j = true := by
        intro k
        induction k with
        | zero =>
          rintro ⟨i, hi, h1, h2⟩
          exact ⟨i, h1, h2, fun j hj => by omega⟩
        | succ k ihk =>
          rintro ⟨i, hi, h1, h2⟩
          by_cases hlow : ∃ j, j ≤ k ∧ O.contains j = true ∧ b j = false
          · exact ihk hlow
          · refine ⟨i, h1, h2, fun j hj hO => ?_⟩
            cases hb : b j with
            | true => rfl
            | false => exact absurd ⟨j, by omega, hO, hb⟩ hlow
      obtain ⟨i0, h1, h2⟩ := hex
      obtain ⟨i, hO, hb, hlow⟩ := hmin i0 ⟨i0, Nat.le_refl _, h1, h2⟩
      have hl := baseOk_lt hk (List.contains_iff_mem.1 hO)
      have hin : i ∈ Region.ready md ops (lof (rtab md ops).2.length O b).toArray := by
        rw [ready_eq]
        unfold readyT
        rw [List.mem_filter, List.mem_range]
        refine ⟨hl, ?_⟩
        unfold readyAt
        rw [lof_get hl, hO, hb]
        have hr2 : (rtab md ops).2[i]? = some (rtab md ops).2[i] := List.getElem?_eq_getElem hl
        rw [hr2]
        simp only [if_true, Bool.not_false, Bool.true_and, List.all_eq_true]
        intro n hn
        have hni := (baseOk_row hk hr2).2 n hn
        rw [lof_get (by omega)]
        cases hOn : O.contains n with
        | true => simpa using hlow n hni hOn
        | false => simp
      rw [hr] at hin
      cases hin
    · obtain ⟨hl, hO, hb, hneed⟩ := mem_ready' hi
      have hon : ∀ j, (O.contains j && (B.getD i 0).testBit j) = true → b j = true := by
        intro j hj
        rw [Bool.and_eq_true] at hj
        have hr2 : (rtab md ops).2[i]? = some (rtab md ops).2[i] := List.getElem?_eq_getElem hl
        have h1 := List.all_eq_true.1 hw i (List.mem_range.2 hl)
        rw [hr2] at h1
        simp only [beq_iff_eq] at h1
        have h2 : (upM B i (rtab md ops).2[i].1).testBit j = true := by rw [← h1, Nat.testBit_or, hj.2, Bool.true_or]
        obtain ⟨n, hn, h3⟩ := upM_bit h2
        have hni := (baseOk_row hk hr2).2 n hn
        rcases h3 with rfl | ⟨h4, h5⟩
        · exact hneed _ hr2 n hn (by omega) hj.1
        · cases hO2 : O.contains n with
          | true => exact closed_bits hw hk hc n n (Nat.le_refl _) (by omega) hO2 (hneed _ hr2 n hn (by omega) hO2) j hj.1 h5
          | false =>
            have := bits_out hw hk n n (Nat.le_refl _) (by omega) hO2 j h5
            rw [hj.1] at this
            cases this
      have hoff : ∀ d, (O.contains d && (B.getD d 0).testBit i) = true → b d = false := by
        intro d hd
        rw [Bool.and_eq_true] at hd
        cases hbd : b d with
        | false => rfl
        | true =>
          have hdl := baseOk_lt hk (List.contains_iff_mem.1 hd.1)
          have := closed_bits hw hk hc d d (Nat.le_refl _) hdl hd.1 hbd i hO hd.2
          rw [hb] at this
          cases this
      obtain ⟨oi, hoi, hK⟩ := hs i (List.contains_iff_mem.1 hO) b a w hI hb hon hoff
      refine wpOp_step hoi (fun K' hK' => hK K' (fun a' w' hI' => hK' a' w' ⟨fun _ _ => trivial, ?_⟩))
      have hset : (lof (rtab md ops).2.length O b).toArray.setIfInBounds i true = (lof (rtab md ops).2.length O (up b i)).toArray := by
        apply Array.ext'
        rw [Array.toList_setIfInBounds]
        exact lof_up hO
      rw [hset]
      refine ih (up b i) a' w' ?_ ?_ hI'
      · have := up_count (baseOk_nodup hk) (List.contains_iff_mem.1 hO) hb
        omega
      · intro d r hr hOd hbd n hn hOn
        by_cases hni : n = i
        · rw [hni, up_self]
        · rw [up_ne hni]
          by_cases hdi : d = i
          · subst hdi
            exact hneed r hr n hn (by have := (baseOk_row hk hr).2 n hn; omega) hOn
          · rw [up_ne hdi] at hbd
            exact hc d r hr hOd hbd n hn hOn
/-! The frame: what is listed has its destination filled. -/
theorem putSel_size (b : Nat → Bool) : ∀ (L : List (Nat × Tmp × Value)) (a : Act), (putSel a b L).tmps.size = a.tmps.size ∧ (putSel a b L).defers = a.defers
  | [], a => ⟨rfl, rfl⟩
  | e :: r, a => by
    unfold putSel
    by_cases h : b e.1 = true
    · rw [if_pos h]
      have := putSel_size b r (a.put (some e.2.1) e.2.2)
      exact ⟨this.1.trans (by simp [Act.put]), this.2.trans rfl⟩
    · rw [if_neg h]
      exact putSel_size b r a
/-- A slot that no operation of the list fills. -/
theorem putSel_off {b : Nat → Bool} {t : Tmp} : ∀ {L : List (Nat × Tmp × Value)} {a : Act}, (L.all fun e => !(e.2.1 == t)) = true → (putSel a b L).tmps[t]? = a.tmps[t]?
  | [], _, _ => rfl
  | e :: r, a, h => by
    rw [List.all_cons, Bool.and_eq_true] at h
    have he : e.2.1 ≠ t := by simpa using h.1
    unfold putSel
    by_cases hb : b e.1 = true
    · rw [if_pos hb, putSel_off h.2]
      simp [Act.put, Array.getElem?_setIfInBounds_ne he]
    · rw [if_neg hb]
      exact putSel_off h.2
/-- A slot of a listed operation: k is its place in the list. -/
theorem putSel_on {b : Nat → Bool} {e : Nat × Tmp × Value} : ∀ {L : List (Nat × Tmp × Value)} {a : Act} (k : Nat), L[k]? = some e → ((L.drop (k + 1)).all fun x => !(x.2.1 == e.2.1)) = true → b e.1 = true → Nat.ble (e.2.1 + 1) a.tmps.size = true → (putSel a b L).tmps[e.2.1]? = some e.2.2
  | [], _, _, h, _, _, _ => by cases h
  | x :: r, a, 0, h, hd, hb, ht => by
    simp only [List.getElem?_cons_zero, Option.some.injEq] at h
    subst h
    unfold putSel
    rw [if_pos hb, putSel_off (by simpa using hd)]
    have ht2 : x.2.1 < a.tmps.size := Nat.le_of_ble_eq_true ht
    simp [Act.put, ht2]
  | x :: r, a, k + 1, h, hd, hb, ht => by
    unfold putSel
    refine putSel_on k (by simpa using h) (by simpa using hd) hb ?_
    by_cases hx : b x.1 = true
    · rw [if_pos hx]
      simpa [Act.put] using ht
    · rw [if_neg hx]
      exact ht
theorem put_comm {a : Act} {s t : Tmp} {u v : Value} (h : s ≠ t) : (a.put (some s) u).put (some t) v = (a.put (some t) v).put (some s) u := by
  simp only [Act.put]
  rw [Array.setIfInBounds_comm _ _ h]
theorem putSel_put {b : Nat → Bool} {t : Tmp} {v : Value} : ∀ {L : List (Nat × Tmp × Value)} {a : Act}, (L.all fun e => !(e.2.1 == t)) = true → (putSel a b L).put (some t) v = putSel (a.put (some t) v) b L
  | [], _, _ => rfl
  | e :: r, a, h => by
    rw [List.all_cons, Bool.and_eq_true] at h
    have he : e.2.1 ≠ t := by simpa using h.1
    unfold putSel
    by_cases hb : b e.1 = true
    · rw [if_pos hb, if_pos hb, putSel_put h.2, put_comm he]
    · rw [if_neg hb, if_neg hb]
      exact putSel_put h.2
theorem putSel_same {b : Nat → Bool} {i : Nat} : ∀ {L : List (Nat × Tmp × Value)} {a : Act}, (L.all fun e => !(e.1 == i)) = true → putSel a (up b i) L = putSel a b L
  | [], _, _ => rfl
  | e :: r, a, h => by
    rw [List.all_cons, Bool.and_eq_true] at h
    have he : e.1 ≠ i := by simpa using h.1
    unfold putSel
    rw [up_ne he]
    exact putSel_same h.2
/-- Operation i (its entry stands between L1 and L2) is listed: its destination is filled with v, whatever stood in its entry. -/
theorem putSel_up {b : Nat → Bool} {i : Nat} {t : Tmp} {v0 v : Value} : ∀ {L1 L2 : List (Nat × Tmp × Value)} {a : Act}, b i = false → ((L1 ++ L2).all fun e => !(e.1 == i) && !(e.2.1 == t)) = true →
    (putSel a b (L1 ++ (i, t, v0) :: L2)).put (some t) v = putSel a (up b i) (L1 ++ (i, t, v) :: L2)
  | [], L2, a, hb, h => by
    simp only [List.nil_append] at h ⊢
    have h1 : (L2.all fun e => !(e.1 == i)) = true := List.all_eq_true.2 (fun e he => by have := List.all_eq_true.1 h e he; simp only [Bool.and_eq_true] at this; exact this.1)
    have h2 : (L2.all fun e => !(e.2.1 == t)) = true := List.all_eq_true.2 (fun e he => by have := List.all_eq_true.1 h e he; simp only [Bool.and_eq_true] at this; exact this.2)
    unfold putSel
    rw [if_neg (by rw [hb]; decide), if_pos (up_self b i), putSel_put h2, putSel_same h1]
  | e :: r, L2, a, hb, h => by
    simp only [List.cons_append, List.all_cons, Bool.and_eq_true] at h
    have he : e.1 ≠ i := by simpa using h.1.1
    simp only [List.cons_append]
    unfold putSel
    rw [up_ne he]
    exact putSel_up hb h.2
/-- The same by its place k in the list. -/
theorem putSel_upk {b : Nat → Bool} {i : Nat} {t : Tmp} {v0 v : Value} {a : Act} {L L' : List (Nat × Tmp × Value)} (k : Nat) (hb : b i = false) (hL : L[k]? = some (i, t, v0)) (hL' : L.set k (i, t, v) = L') (hd : ((L.take k ++ L.drop (k + 1)).all fun e => !(e.1 == i) && !(e.2.1 == t)) = true) :
    (putSel a b L).put (some t) v = putSel a (up b i) L' := by
  have hk := (List.getElem?_eq_some_iff.1 hL).1
  have h1 : L = L.take k ++ (i, t, v0) :: L.drop (k + 1) := by
    have h2 : L[k] = (i, t, v0) := (List.getElem?_eq_some_iff.1 hL).2
    rw [← h2, List.getElem_cons_drop, List.take_append_drop]
  have h3 : L' = L.take k ++ (i, t, v) :: L.drop (k + 1) := by rw [← hL', List.set_eq_take_append_cons_drop, if_pos hk]
  rw [h3]
  conv => lhs; rw [h1]
  exact putSel_up hb hd
/-- An operation without a destination. -/
theorem putSel_none {b : Nat → Bool} {i : Nat} {L : List (Nat × Tmp × Value)} {a : Act} {v : Value} (h : (L.all fun e => !(e.1 == i)) = true) : (putSel a b L).put none v = putSel a (up b i) L := (putSel_same h).symm
/-- THE REGION FROM HERE TO ITS END, by one relation I: l has all listed but O's operations; I holds with none of them listed; each step; with all listed what follows. -/
theorem inv_ {l : Array Bool} {fuel : Nat} {a : Act} {w : World} (O : List Nat) (I : (Nat → Bool) → Act → World → Prop) (hT : rtab md ops = T) (hw : waitsOk T.2 B = true) (hk : baseOk T.2 O = true)
    (hl : (lof T.2.length O (fun _ => false) == l.toList && O.length == fuel) = true) (h0 : I (fun _ => false) a w) (hs : ∀ i ∈ O, StepAt P ops Q B O I i)
    (hend : ∀ b a w, (∀ j, O.contains j = true → b j = true) → I b a w → Q .normal a w) : wpAnyLast P md ops Q (fun _ => True) [] fuel l a w := by
  rw [Bool.and_eq_true, beq_iff_eq, beq_iff_eq] at hl
  have h1 := inv_all hT hw hk I hs hend fuel (fun _ => false) a w (by rw [← hl.2]; simp) (fun d r _ _ hb => by cases hb) h0
  have h2 : (lof T.2.length O (fun _ => false)).toArray = l := by apply Array.ext'; exact hl.1
  rw [h2] at h1
  exact h1
/-- inv_ with the relation told from the frame that stands now (a0_). -/
theorem inv_at {l : Array Bool} {fuel : Nat} {a : Act} {w : World} (O : List Nat) (I : Act → (Nat → Bool) → Act → World → Prop) (hT : rtab md ops = T) (hw : waitsOk T.2 B = true) (hk : baseOk T.2 O = true)
    (hl : (lof T.2.length O (fun _ => false) == l.toList && O.length == fuel) = true) (h0 : I a (fun _ => false) a w) (hs : ∀ i ∈ O, StepAt P ops Q B O (I a) i)
    (hend : ∀ b a' w, (∀ j, O.contains j = true → b j = true) → I a b a' w → Q .normal a' w) : wpAnyLast P md ops Q (fun _ => True) [] fuel l a w := inv_ O (I a) hT hw hk hl h0 hs hend
end
end Go.Proofs.YtmolflmljneelaaW.PrintLast
/- Parts of a walk, after my own text Pm4 for another seat. What each says stands at its head. -/
namespace Go.Proofs.Ytmolflmljneelaa.Pm
open Go.RowKit Go.Proofs.YtmolflmljneelaaW.PrintWords Go.Proofs.YtmolflmljneelaaW.PrintLast Go.Proofs.YtmolflmljneelaaW.PrintMore
set_option linter.unusedSimpArgs false
set_option linter.unusedVariables false
theorem keyed3 : Maps.Keyed Try.prog 3 := Maps.int_keyed Try.underlying3
theorem key_at (i : Nat) (h : i ≤ 64) : keyOf Try.prog 3 (.int .i64 (i : Int)) = some (.int .i64 (i : Int)) := Maps.keyOf_int_mk Try.underlying3 (by
  have h2 : (decide (-9223372036854775808 ≤ (i : Int)) && decide ((i : Int) ≤ 9223372036854775807)) = true := by rw [decide_eq_true (by omega), decide_eq_true (by omega)]; rfl
  exact h2)
theorem line_at (a : Int) (i : Nat) (hi : a - a % 8 = i) (ha : 0 ≤ a ∧ a < 64) (W : World) : Calls Try.prog 62 #[.int .i64 a] W fun e w' => e = .returned (.int .i64 (i : Int)) ∧ Below W.heap.size W w' := by
  refine (line_calls a ha W).mono ?_
  rintro e w' ⟨rfl, rfl⟩
  exact ⟨by rw [hi], Below.refl _ _⟩
theorem Rg.mapcell {p gs gk bm N cs ck n : Nat} {S K : List Int} {D : DataW Unit} {W : World} (h : Rg W p gs gk bm N cs ck n S K D) : W.cell? ⟨p, 2, none⟩ = some (.map (some bm)) := let ⟨st, h1⟩ := h.tp; (blk_cell h1 2).trans rfl
theorem Rg.upd {p gs gk bm N cs ck n : Nat} {S K : List Int} {D : DataW Unit} {W W' : World} {n' : Nat} {D' : DataW Unit} (h : Rg W p gs gk bm N cs ck n S K D) (hg : W.grownBy W' (some bm)) (ho : W'.ownsMap Try.prog 3 noteR bm n' D') : Rg W' p gs gk bm N cs ck n' S K D' := by
  obtain ⟨n1, n2, n3, n4, n5, n6⟩ := h.ne
  obtain ⟨l1, l2, l3, l4⟩ := h.lt
  refine ⟨let ⟨st, h1⟩ := h.tp; ⟨st, (hg.block p l1 (fun e => n4 (by cases e; rfl))).trans h1⟩, ⟨h.rs.len, ?_⟩, ⟨h.rk.len, ?_⟩, ho, h.ne⟩
  · obtain ⟨c, h1, h2⟩ := h.rs.cur
    exact ⟨c, (hg.block gs l2 (fun e => n5 (by cases e; rfl))).trans h1, h2⟩
  · obtain ⟨c, h1, h2⟩ := h.rk.cur
    exact ⟨c, (hg.block gk l3 (fun e => n6 (by cases e; rfl))).trans h1, h2⟩

def f1.T0 : Bool × List (List Nat × List Nat) := (true, [([], []), ([0], [0]), ([1], [1]), ([2], [2]), ([], []), ([4], [4]), ([], []), ([], []), ([7, 5], [7]), ([6, 8, 8], [6, 8]), ([3, 5, 9, 9, 0, 1, 2, 3, 4, 5, 6, 7, 8, 9], [3, 5, 9])])
def f1.B0 : List Nat := [0, 1, 3, 7, 0, 16, 0, 0, 176, 496, 1023]
theorem f1.tab0 : rtab .any (opsOf Try.f60 0) = f1.T0 := by kernel_rfl
theorem f1.bits0 : waitsOk f1.T0.2 f1.B0 = true := by kernel_rfl
set_option maxHeartbeats 8000000 in
set_option maxRecDepth 100000 in
theorem flush1 (W : World) {p gs gk bm N cs ck n : Nat} {SS KK : List Int} {D : DataW Unit} (h : Rg W p gs gk bm N cs ck n SS KK D) (hn : n < maxLen) (aa : Int) (ha64 : 0 ≤ aa ∧ aa < 64) (i : Nat) (HL : Aside0 (aa - aa % 8 = i)) (hi : i + 8 ≤ N) (hN : N ≤ 64) (y0 y1 y2 y3 y4 y5 y6 y7 : Int) (HE : Aside0 (Eight SS i y0 y1 y2 y3 y4 y5 y6 y7)) (br ba : Nat) (hr : W.heap[br]? = some (.cells #[.pointer (some ⟨p, 0, none⟩)] 25 (0, 0))) (haa : W.heap[ba]? = some (.cells #[.int .i64 aa] 3 (0, 0))) (hne : br ≠ bm ∧ ba ≠ bm) (X : Nat → Prop) (hBm : X bm) :
    Calls Try.prog 60 #[.pointer (some ⟨br, 0, none⟩), .pointer (some ⟨ba, 0, none⟩)] W fun e w' => (∃ v, e = .returned v) ∧ Rg w' p gs gk bm N cs ck (n + 1) SS KK (D.put (.int .i64 (i : Int)) (.agg [.lit (.int .u64 y0), .lit (.int .u64 y1), .lit (.int .u64 y2), .lit (.int .u64 y3), .lit (.int .u64 y4), .lit (.int .u64 y5), .lit (.int .u64 y6), .lit (.int .u64 y7)])) ∧ Fr X W w' := by
  have hu := Try.underlying86
  have HB := Aside0.mk (Fr.refl X W)
  have CR := Aside0.mk hr
  have CA := Aside0.mk haa
  have RG := Aside0.mk h
  clear h hr haa
  go_enter Try.func60, Try.ntmps60
  refine start_ (n := 11) (S := fun w' => True) (ds := []) #[false, false, false, false, false, false, false, false, false, false, false] (by kernel_rfl) rfl rfl trivial (fun hHeld => ?_)
  refine with_tabW f1.tab0 f1.bits0 (fun HT_ HW_ => ?_)
  refine inv_at [0, 1, 2, 3, 4, 5, 6, 7, 8, 9, 10] (fun a0_ b a w' => a = putSel a0_ b [(0, 2, .pointer (some ⟨p, 0, none⟩)), (1, 3, .pointer (some ⟨p, 0, none⟩)), (2, 4, .pointer (some ⟨p, 2, none⟩)), (3, 5, .map (some bm)), (4, 6, .int .i64 aa), (5, 7, .int .i64 (i : Int)), (6, 8, .pointer (some ⟨p, 0, none⟩)), (7, 9, .int .i64 aa), (8, 10, .int .i64 (i : Int)), (9, 11, .agg #[.int .u64 y0, .int .u64 y1, .int .u64 y2, .int .u64 y3, .int .u64 y4, .int .u64 y5, .int .u64 y6, .int .u64 y7])] ∧ (Fr X W w') ∧ (w'.heap[br]? = some (.cells #[.pointer (some ⟨p, 0, none⟩)] 25 (0, 0))) ∧ (w'.heap[ba]? = some (.cells #[.int .i64 aa] 3 (0, 0))) ∧ (b 10 = false → Rg w' p gs gk bm N cs ck n SS KK D) ∧ (b 10 = true → Rg w' p gs gk bm N cs ck (n + 1) SS KK (D.put (.int .i64 (i : Int)) (.agg [.lit (.int .u64 y0), .lit (.int .u64 y1), .lit (.int .u64 y2), .lit (.int .u64 y3), .lit (.int .u64 y4), .lit (.int .u64 y5), .lit (.int .u64 y6), .lit (.int .u64 y7)])))) HT_.out HW_.out (by kernel_rfl) (by kernel_rfl) ?_ ?_ ?_
  · exact ⟨by simp only [putSel, Bool.false_eq_true, if_false], HB.out.drew1, CR.out, CA.out, fun _ => (RG.out.drewN 1), fun h_ => absurd h_ (by decide)⟩
  · skip
    clear CA CR HB RG
    refine steps_cons ?_ ?_
    · rintro b a w' ⟨ha, Q_HB, Q_CR, Q_CA, Q_RG, Q_RG2⟩ hb_ hon hoff
      refine ⟨_, rfl, fun K hK => ?_⟩
      have e0 : a.tmps[0]? = some (.pointer (some ⟨br, 0, none⟩)) := by rw [ha]; exact (putSel_off rfl).trans rfl
      replace ha := Aside0.mk ha
      have HB := Aside0.mk Q_HB
      have CR := Aside0.mk Q_CR
      have CA := Aside0.mk Q_CA
      have RG := Aside0.mk (Q_RG (hoff 10 (by kernel_rfl)))
      have hcr : w'.cell? ⟨br, 0, none⟩ = some (.pointer (some ⟨p, 0, none⟩)) := (blk_cell CR.out 0).trans rfl
      refine value_ (w1 := w') (v := .pointer (some ⟨p, 0, none⟩)) (by rfl) rfl ?_ ?_
      · go_simp
        (try simp only [i64_w])
        try rfl
      refine hK.out _ _ ⟨(by rw [ha.out]; exact putSel_upk 0 hb_ rfl rfl rfl), Q_HB, Q_CR, Q_CA, Q_RG, fun h0_ => absurd ((hoff 10 (by kernel_rfl)).symm.trans h0_) (by decide)⟩
    refine steps_cons ?_ ?_
    · rintro b a w' ⟨ha, Q_HB, Q_CR, Q_CA, Q_RG, Q_RG2⟩ hb_ hon hoff
      refine ⟨_, rfl, fun K hK => ?_⟩
      have e2 : a.tmps[2]? = some (.pointer (some ⟨p, 0, none⟩)) := by rw [ha]; exact putSel_on (e := (0, 2, .pointer (some ⟨p, 0, none⟩))) 0 rfl rfl (hon 0 (by kernel_rfl)) rfl
      replace ha := Aside0.mk ha
      have HB := Aside0.mk Q_HB
      have CR := Aside0.mk Q_CR
      have CA := Aside0.mk Q_CA
      have RG := Aside0.mk (Q_RG (hoff 10 (by kernel_rfl)))
      refine value_ (w1 := w') (v := .pointer (some ⟨p, 0, none⟩)) (by rfl) rfl ?_ ?_
      · go_simp
        (try simp only [i64_w])
        try rfl
      refine hK.out _ _ ⟨(by rw [ha.out]; exact putSel_upk 1 hb_ rfl rfl rfl), Q_HB, Q_CR, Q_CA, Q_RG, fun h0_ => absurd ((hoff 10 (by kernel_rfl)).symm.trans h0_) (by decide)⟩
    refine steps_cons ?_ ?_
    · rintro b a w' ⟨ha, Q_HB, Q_CR, Q_CA, Q_RG, Q_RG2⟩ hb_ hon hoff
      refine ⟨_, rfl, fun K hK => ?_⟩
      have e3 : a.tmps[3]? = some (.pointer (some ⟨p, 0, none⟩)) := by rw [ha]; exact putSel_on (e := (1, 3, .pointer (some ⟨p, 0, none⟩))) 1 rfl rfl (hon 1 (by kernel_rfl)) rfl
      replace ha := Aside0.mk ha
      have HB := Aside0.mk Q_HB
      have CR := Aside0.mk Q_CR
      have CA := Aside0.mk Q_CA
      have RG := Aside0.mk (Q_RG (hoff 10 (by kernel_rfl)))
      refine value_ (w1 := w') (v := .pointer (some ⟨p, 2, none⟩)) (by rfl) rfl ?_ ?_
      · go_simp
        (try simp only [i64_w])
        try rfl
      refine hK.out _ _ ⟨(by rw [ha.out]; exact putSel_upk 2 hb_ rfl rfl rfl), Q_HB, Q_CR, Q_CA, Q_RG, fun h0_ => absurd ((hoff 10 (by kernel_rfl)).symm.trans h0_) (by decide)⟩
    refine steps_cons ?_ ?_
    · rintro b a w' ⟨ha, Q_HB, Q_CR, Q_CA, Q_RG, Q_RG2⟩ hb_ hon hoff
      refine ⟨_, rfl, fun K hK => ?_⟩
      have e4 : a.tmps[4]? = some (.pointer (some ⟨p, 2, none⟩)) := by rw [ha]; exact putSel_on (e := (2, 4, .pointer (some ⟨p, 2, none⟩))) 2 rfl rfl (hon 2 (by kernel_rfl)) rfl
      replace ha := Aside0.mk ha
      have HB := Aside0.mk Q_HB
      have CR := Aside0.mk Q_CR
      have CA := Aside0.mk Q_CA
      have RG := Aside0.mk (Q_RG (hoff 10 (by kernel_rfl)))
      have hcm : w'.cell? ⟨p, 2, none⟩ = some (.map (some bm)) := RG.out.mapcell
      refine value_ (w1 := w') (v := .map (some bm)) (by rfl) rfl ?_ ?_
      · go_simp
        (try simp only [i64_w])
        try rfl
      refine hK.out _ _ ⟨(by rw [ha.out]; exact putSel_upk 3 hb_ rfl rfl rfl), Q_HB, Q_CR, Q_CA, Q_RG, fun h0_ => absurd ((hoff 10 (by kernel_rfl)).symm.trans h0_) (by decide)⟩
    refine steps_cons ?_ ?_
    · rintro b a w' ⟨ha, Q_HB, Q_CR, Q_CA, Q_RG, Q_RG2⟩ hb_ hon hoff
      refine ⟨_, rfl, fun K hK => ?_⟩
      have e1 : a.tmps[1]? = some (.pointer (some ⟨ba, 0, none⟩)) := by rw [ha]; exact (putSel_off rfl).trans rfl
      replace ha := Aside0.mk ha
      have HB := Aside0.mk Q_HB
      have CR := Aside0.mk Q_CR
      have CA := Aside0.mk Q_CA
      have RG := Aside0.mk (Q_RG (hoff 10 (by kernel_rfl)))
      have hca : w'.cell? ⟨ba, 0, none⟩ = some (.int .i64 aa) := (blk_cell CA.out 0).trans rfl
      refine value_ (w1 := w') (v := .int .i64 aa) (by rfl) rfl ?_ ?_
      · go_simp
        (try simp only [i64_w])
        try rfl
      refine hK.out _ _ ⟨(by rw [ha.out]; exact putSel_upk 4 hb_ rfl rfl rfl), Q_HB, Q_CR, Q_CA, Q_RG, fun h0_ => absurd ((hoff 10 (by kernel_rfl)).symm.trans h0_) (by decide)⟩
    refine steps_cons ?_ ?_
    · rintro b a w' ⟨ha, Q_HB, Q_CR, Q_CA, Q_RG, Q_RG2⟩ hb_ hon hoff
      refine ⟨_, rfl, fun K hK => ?_⟩
      have e6 : a.tmps[6]? = some (.int .i64 aa) := by rw [ha]; exact putSel_on (e := (4, 6, .int .i64 aa)) 4 rfl rfl (hon 4 (by kernel_rfl)) rfl
      replace ha := Aside0.mk ha
      have HB := Aside0.mk Q_HB
      have CR := Aside0.mk Q_CR
      have CA := Aside0.mk Q_CA
      have RG := Aside0.mk (Q_RG (hoff 10 (by kernel_rfl)))
      refine goes_ Try.func62 (by kernel_rfl) rfl #[.int .i64 aa] (by rfl) rfl rfl (by first | (simp only [List.map_toArray, List.map_cons, List.map_nil, Act.eval, Array.getD_eq_getD_getElem?, Option.getD_some, e6]; done) | (simp only [List.map_toArray, List.map_cons, List.map_nil, Act.eval, Array.getD_eq_getD_getElem?, Option.getD_some, e6]; rfl)) ?_
      with_reducible refine (line_at aa i HL.out ha64 _).mono ?_
      rintro e w3 ⟨rfl, hb⟩
      refine ⟨_, rfl, ?_⟩
      refine hK.out _ _ ⟨(by rw [ha.out]; exact putSel_upk 5 hb_ rfl rfl rfl), (HB.out.thn hb), (blk_below CR.out hb), (blk_below CA.out hb), fun _ => (RG.out.below hb), fun h0_ => absurd ((hoff 10 (by kernel_rfl)).symm.trans h0_) (by decide)⟩
    refine steps_cons ?_ ?_
    · rintro b a w' ⟨ha, Q_HB, Q_CR, Q_CA, Q_RG, Q_RG2⟩ hb_ hon hoff
      refine ⟨_, rfl, fun K hK => ?_⟩
      have e0 : a.tmps[0]? = some (.pointer (some ⟨br, 0, none⟩)) := by rw [ha]; exact (putSel_off rfl).trans rfl
      replace ha := Aside0.mk ha
      have HB := Aside0.mk Q_HB
      have CR := Aside0.mk Q_CR
      have CA := Aside0.mk Q_CA
      have RG := Aside0.mk (Q_RG (hoff 10 (by kernel_rfl)))
      have hcr : w'.cell? ⟨br, 0, none⟩ = some (.pointer (some ⟨p, 0, none⟩)) := (blk_cell CR.out 0).trans rfl
      refine value_ (w1 := w') (v := .pointer (some ⟨p, 0, none⟩)) (by rfl) rfl ?_ ?_
      · go_simp
        (try simp only [i64_w])
        try rfl
      refine hK.out _ _ ⟨(by rw [ha.out]; exact putSel_upk 6 hb_ rfl rfl rfl), Q_HB, Q_CR, Q_CA, Q_RG, fun h0_ => absurd ((hoff 10 (by kernel_rfl)).symm.trans h0_) (by decide)⟩
    refine steps_cons ?_ ?_
    · rintro b a w' ⟨ha, Q_HB, Q_CR, Q_CA, Q_RG, Q_RG2⟩ hb_ hon hoff
      refine ⟨_, rfl, fun K hK => ?_⟩
      have e1 : a.tmps[1]? = some (.pointer (some ⟨ba, 0, none⟩)) := by rw [ha]; exact (putSel_off rfl).trans rfl
      replace ha := Aside0.mk ha
      have HB := Aside0.mk Q_HB
      have CR := Aside0.mk Q_CR
      have CA := Aside0.mk Q_CA
      have RG := Aside0.mk (Q_RG (hoff 10 (by kernel_rfl)))
      have hca : w'.cell? ⟨ba, 0, none⟩ = some (.int .i64 aa) := (blk_cell CA.out 0).trans rfl
      refine value_ (w1 := w') (v := .int .i64 aa) (by rfl) rfl ?_ ?_
      · go_simp
        (try simp only [i64_w])
        try rfl
      refine hK.out _ _ ⟨(by rw [ha.out]; exact putSel_upk 7 hb_ rfl rfl rfl), Q_HB, Q_CR, Q_CA, Q_RG, fun h0_ => absurd ((hoff 10 (by kernel_rfl)).symm.trans h0_) (by decide)⟩
    refine steps_cons ?_ ?_
    · rintro b a w' ⟨ha, Q_HB, Q_CR, Q_CA, Q_RG, Q_RG2⟩ hb_ hon hoff
      refine ⟨_, rfl, fun K hK => ?_⟩
      have e9 : a.tmps[9]? = some (.int .i64 aa) := by rw [ha]; exact putSel_on (e := (7, 9, .int .i64 aa)) 7 rfl rfl (hon 7 (by kernel_rfl)) rfl
      replace ha := Aside0.mk ha
      have HB := Aside0.mk Q_HB
      have CR := Aside0.mk Q_CR
      have CA := Aside0.mk Q_CA
      have RG := Aside0.mk (Q_RG (hoff 10 (by kernel_rfl)))
      refine goes_ Try.func62 (by kernel_rfl) rfl #[.int .i64 aa] (by rfl) rfl rfl (by first | (simp only [List.map_toArray, List.map_cons, List.map_nil, Act.eval, Array.getD_eq_getD_getElem?, Option.getD_some, e9]; done) | (simp only [List.map_toArray, List.map_cons, List.map_nil, Act.eval, Array.getD_eq_getD_getElem?, Option.getD_some, e9]; rfl)) ?_
      with_reducible refine (line_at aa i HL.out ha64 _).mono ?_
      rintro e w3 ⟨rfl, hb⟩
      refine ⟨_, rfl, ?_⟩
      refine hK.out _ _ ⟨(by rw [ha.out]; exact putSel_upk 8 hb_ rfl rfl rfl), (HB.out.thn hb), (blk_below CR.out hb), (blk_below CA.out hb), fun _ => (RG.out.below hb), fun h0_ => absurd ((hoff 10 (by kernel_rfl)).symm.trans h0_) (by decide)⟩
    refine steps_cons ?_ ?_
    · rintro b a w' ⟨ha, Q_HB, Q_CR, Q_CA, Q_RG, Q_RG2⟩ hb_ hon hoff
      refine ⟨_, rfl, fun K hK => ?_⟩
      have e8 : a.tmps[8]? = some (.pointer (some ⟨p, 0, none⟩)) := by rw [ha]; exact putSel_on (e := (6, 8, .pointer (some ⟨p, 0, none⟩))) 6 rfl rfl (hon 6 (by kernel_rfl)) rfl
      have e10 : a.tmps[10]? = some (.int .i64 (i : Int)) := by rw [ha]; exact putSel_on (e := (8, 10, .int .i64 (i : Int))) 8 rfl rfl (hon 8 (by kernel_rfl)) rfl
      replace ha := Aside0.mk ha
      have HB := Aside0.mk Q_HB
      have CR := Aside0.mk Q_CR
      have CA := Aside0.mk Q_CA
      have RG := Aside0.mk (Q_RG (hoff 10 (by kernel_rfl)))
      refine goes_ Try.func61 (by kernel_rfl) rfl #[.pointer (some ⟨p, 0, none⟩), .int .i64 (i : Int)] (by rfl) rfl rfl (by first | (simp only [List.map_toArray, List.map_cons, List.map_nil, Act.eval, Array.getD_eq_getD_getElem?, Option.getD_some, e8, e10]; done) | (simp only [List.map_toArray, List.map_cons, List.map_nil, Act.eval, Array.getD_eq_getD_getElem?, Option.getD_some, e8, e10]; rfl)) ?_
      with_reducible refine (noted_calls _ RG.out i hi hN y0 y1 y2 y3 y4 y5 y6 y7 HE).mono ?_
      rintro e w3 ⟨rfl, hb⟩
      refine ⟨_, rfl, ?_⟩
      refine hK.out _ _ ⟨(by rw [ha.out]; exact putSel_upk 9 hb_ rfl rfl rfl), (HB.out.thn hb), (blk_below CR.out hb), (blk_below CA.out hb), fun _ => (RG.out.below hb), fun h0_ => absurd ((hoff 10 (by kernel_rfl)).symm.trans h0_) (by decide)⟩
    refine steps_cons ?_ ?_
    · rintro b a w' ⟨ha, Q_HB, Q_CR, Q_CA, Q_RG, Q_RG2⟩ hb_ hon hoff
      refine ⟨_, rfl, fun K hK => ?_⟩
      have e5 : a.tmps[5]? = some (.map (some bm)) := by rw [ha]; exact putSel_on (e := (3, 5, .map (some bm))) 3 rfl rfl (hon 3 (by kernel_rfl)) rfl
      have e7 : a.tmps[7]? = some (.int .i64 (i : Int)) := by rw [ha]; exact putSel_on (e := (5, 7, .int .i64 (i : Int))) 5 rfl rfl (hon 5 (by kernel_rfl)) rfl
      have e11 : a.tmps[11]? = some (.agg #[.int .u64 y0, .int .u64 y1, .int .u64 y2, .int .u64 y3, .int .u64 y4, .int .u64 y5, .int .u64 y6, .int .u64 y7]) := by rw [ha]; exact putSel_on (e := (9, 11, .agg #[.int .u64 y0, .int .u64 y1, .int .u64 y2, .int .u64 y3, .int .u64 y4, .int .u64 y5, .int .u64 y6, .int .u64 y7])) 9 rfl rfl (hon 9 (by kernel_rfl)) rfl
      replace ha := Aside0.mk ha
      have HB := Aside0.mk Q_HB
      have CR := Aside0.mk Q_CR
      have CA := Aside0.mk Q_CA
      have RG := Aside0.mk (Q_RG hb_)
      obtain ⟨w9, hrun9, hown9, hgr9⟩ := World.ownsMap.update RG.out.mp keyed3 Try.underlying84 hn (key := .int .i64 (i : Int)) (val := .agg #[.int .u64 y0, .int .u64 y1, .int .u64 y2, .int .u64 y3, .int .u64 y4, .int .u64 y5, .int .u64 y6, .int .u64 y7]) (kl := .int .i64 (i : Int)) (d := (.agg [.lit (.int .u64 y0), .lit (.int .u64 y1), .lit (.int .u64 y2), .lit (.int .u64 y3), .lit (.int .u64 y4), .lit (.int .u64 y5), .lit (.int .u64 y6), .lit (.int .u64 y7)])) (ps := []) (key_at i (by omega)) rfl
      refine skip_ (w1 := w9) (by rfl) rfl ?_ ?_
      · simp [execOp, Act.eval, hrun9, Result.andThen, e5, e7, e11]
      have hb9 := HB.out.grown hgr9 (fun k e => by cases e; exact .inl hBm)
      refine hK.out _ _ ⟨(by rw [ha.out]; exact putSel_none (v := undef) rfl), hb9, ((hgr9.block br (blk_lt CR.out) (by intro e; cases e; exact hne.1 rfl)).trans CR.out), ((hgr9.block ba (blk_lt CA.out) (by intro e; cases e; exact hne.2 rfl)).trans CA.out), fun h0_ => absurd ((up_self b 10).symm.trans h0_) (by decide), fun _ => (RG.out.upd hgr9 hown9)⟩
    exact steps_nil
  rintro b a wz hall ⟨ha, Q_HB, Q_CR, Q_CA, Q_RG, Q_RG2⟩
  clear CA CR HB RG
  have hb0_ := hall 0 (by kernel_rfl)
  have hb1_ := hall 1 (by kernel_rfl)
  have hb2_ := hall 2 (by kernel_rfl)
  have hb3_ := hall 3 (by kernel_rfl)
  have hb4_ := hall 4 (by kernel_rfl)
  have hb5_ := hall 5 (by kernel_rfl)
  have hb6_ := hall 6 (by kernel_rfl)
  have hb7_ := hall 7 (by kernel_rfl)
  have hb8_ := hall 8 (by kernel_rfl)
  have hb9_ := hall 9 (by kernel_rfl)
  have hb10_ := hall 10 (by kernel_rfl)
  subst ha
  simp only [putSel, hb0_, hb1_, hb2_, hb3_, hb4_, hb5_, hb6_, hb7_, hb8_, hb9_, hb10_, if_true, Act.put, List.setIfInBounds_toArray, List.set_cons_zero, List.set_cons_succ]
  have HB := Aside0.mk Q_HB
  clear Q_HB
  have CR := Aside0.mk Q_CR
  clear Q_CR
  have CA := Aside0.mk Q_CA
  clear Q_CA
  clear Q_RG
  have RG2 := Aside0.mk (Q_RG2 hb10_)
  clear Q_RG2
  clear hall hb0_ hb1_ hb2_ hb3_ hb4_ hb5_ hb6_ hb7_ hb8_ hb9_ hb10_
  go_end0
  exact ⟨⟨_, rfl⟩, RG2.out, HB.out⟩
end Go.Proofs.Ytmolflmljneelaa.Pm
/- Parts of a walk, after my own text Pm5 for another seat. What each says stands at its head. -/
namespace Go.Proofs.Ytmolflmljneelaa.Pm
open Go.RowKit Go.Proofs.YtmolflmljneelaaW.PrintWords Go.Proofs.YtmolflmljneelaaW.PrintLast Go.Proofs.YtmolflmljneelaaW.PrintMore
set_option linter.unusedSimpArgs false
set_option linter.unusedVariables false
def putL (K : List Int) (i : Nat) : List Int → List Int
  | [] => K
  | y :: r => putL (K.set i y) (i + 1) r
theorem set_at (L : List Int) (k : Nat) (v : Int) (i : Nat) (h : i < L.length) : (L.set k v).getD i 0 = if i = k then v else L.getD i 0 := by
  simp only [List.getD_eq_getElem?_getD, List.getElem?_set]
  by_cases e : k = i
  · subst e; simp [h]
  · rw [if_neg e, if_neg (fun x => e x.symm)]
theorem putL_at : ∀ (ys : List Int) (K : List Int) (i j : Nat), j < K.length → (putL K i ys).getD j 0 = if i ≤ j ∧ j < i + ys.length then ys.getD (j - i) 0 else K.getD j 0
  | [], K, i, j, h => by rw [if_neg (fun hx => by have h2 := hx.2; rw [List.length_nil] at h2; omega), putL]
  | y :: r, K, i, j, h => by
    rw [putL, putL_at r (K.set i y) (i + 1) j (by rw [List.length_set]; exact h), set_at K i y j h]
    by_cases h1 : i + 1 ≤ j ∧ j < i + 1 + r.length
    · rw [if_pos h1, if_pos (by rw [List.length_cons]; omega), show j - i = (j - (i + 1)) + 1 by omega, List.getD_cons_succ]
    · rw [if_neg h1]
      by_cases h2 : j = i
      · subst h2
        rw [if_pos rfl, if_pos (by rw [List.length_cons]; omega), Nat.sub_self, List.getD_cons_zero]
      · rw [if_neg h2, if_neg (by rw [List.length_cons]; omega)]
theorem Row.setCells {g N cap : Nat} : ∀ (ys : List Int) (K : List Int) (i : Nat) (W : World), Row W g N cap K → i + ys.length ≤ N → Row (W.setCells g i (ys.map (Value.int .u64))) g N cap (putL K i ys)
  | [], _, _, _, h, _ => h
  | y :: r, K, i, W, h, hl => Row.setCells r (K.set i y) (i + 1) _ (h.put i (by rw [List.length_cons] at hl; omega) y) (by rw [List.length_cons] at hl; omega)
theorem heap_setCells (g : Nat) : ∀ (vs : List Value) (o : Nat) (W : World) (k : Nat), k ≠ g → (W.setCells g o vs).heap[k]? = W.heap[k]?
  | [], _, _, _, _ => rfl
  | v :: r, o, W, k, hk => (heap_setCells g r (o + 1) _ k hk).trans (Below.heap_setCell W ⟨g, o, none⟩ v k hk)
theorem size_setCells (g : Nat) : ∀ (vs : List Value) (o : Nat) (W : World), (W.setCells g o vs).heap.size = W.heap.size
  | [], _, _ => rfl
  | v :: r, o, W => (size_setCells g r (o + 1) _).trans (by simp [World.setCell])
theorem rest_setCells (g : Nat) : ∀ (vs : List Value) (o : Nat) (W : World), (W.setCells g o vs).os = W.os ∧ (W.setCells g o vs).tape = W.tape ∧ (W.setCells g o vs).output = W.output
  | [], _, _ => ⟨rfl, rfl, rfl⟩
  | v :: r, o, W => rest_setCells g r (o + 1) (W.setCell ⟨g, o, none⟩ v)
theorem grown_setCells {W : World} (g : Nat) (vs : List Value) (o : Nat) (A : World) (h : Below W.heap.size W A) : W.grownBy (A.setCells g o vs) (some g) := by
  obtain ⟨r1, r2, r3⟩ := rest_setCells g vs o A
  exact ⟨r1.trans h.os, r2.trans h.tape, r3.trans h.output, by rw [size_setCells]; exact h.size, fun k hk hne => (heap_setCells g vs o A k (fun e => hne (by rw [e]))).trans (h.block k hk)⟩
theorem Rg.keepL {W : World} {p gs gk bm N cs ck n : Nat} {S K : List Int} {D : DataW Unit} (h : Rg W p gs gk bm N cs ck n S K D) (ys : List Int) (i : Nat) (hi : i + ys.length ≤ N) : Rg (W.setCells gk i (ys.map (Value.int .u64))) p gs gk bm N cs ck n S (putL K i ys) D := by
  obtain ⟨n1, n2, n3, n4, n5, n6⟩ := h.ne
  refine ⟨let ⟨st, h1⟩ := h.tp; ⟨st, (heap_setCells gk _ i W p n2).trans h1⟩, ⟨h.rs.len, ?_⟩, h.rk.setCells ys K i W hi, ?_, h.ne⟩
  · obtain ⟨c, h1, h2⟩ := h.rs.cur
    exact ⟨c, (heap_setCells gk _ i W gs n3).trans h1, h2⟩
  · obtain ⟨es, clock, h1, h2⟩ := h.mp
    exact ⟨es, clock, (heap_setCells gk _ i W bm n6).trans h1, h2⟩
set_option maxHeartbeats 2000000 in
theorem flush_no (W : World) {p gs gk bm N cs ck n : Nat} {S K : List Int} {D : DataW Unit} (h : Rg W p gs gk bm N cs ck n S K D) (a : Int) (ha : thereB N a = false) : Calls Try.prog 48 #[.pointer (some ⟨p, 0, none⟩), .int .i64 a] W fun e w' => e = .returned (.int .i64 13) ∧ Rg w' p gs gk bm N cs ck n S K D ∧ Below W.heap.size W w' := by
  have HB := Aside0.mk (Below.refl W.heap.size W)
  go_enter Try.func48, Try.ntmps48
  go_wp2_with (first | ((with_reducible refine gate_dst (N := 2) rfl ?_); refine box_event ?hg (N := 2) ?hd (cs := #[.pointer (some ⟨p, 0, none⟩)]) (t := 25) ?hr ?_; (case hd => rfl); (case hg => rfl); (case hr => first | (go_simp; done) | (go_simp; rfl)); intro g2 hg w1_ hbox hb; have n0_ := Aside0.mk (below_step (by repeat (first | (with_reducible first | exact HB.out | apply below_alloc | apply pw_below_drewN | apply below_drew1) | exact HB.out)) hb); have n1_ := Aside0.mk hbox; have n2_ := Aside0.mk ((by rw [hg]; exact (below_size (by repeat (first | (with_reducible first | exact HB.out | apply below_alloc | apply pw_below_drewN | apply below_drew1) | exact HB.out)))) : W.heap.size ≤ g2); clear HB; have HB := n0_; have BK2 := n1_; have GE2 := n2_; clear n0_ n1_ n2_; clear hb hbox hg; have hc2_0 : w1_.cell? ⟨g2, 0, none⟩ = some (.pointer (some ⟨p, 0, none⟩)) := (blk_cell BK2.out 0).trans rfl; have hf2_0 := blk_frozen BK2.out 0) | ((with_reducible refine gate_dst (N := 3) rfl ?_); refine box_event ?hg (N := 3) ?hd (cs := #[.int .i64 a]) (t := 3) ?hr ?_; (case hd => rfl); (case hg => rfl); (case hr => first | (go_simp; done) | (go_simp; rfl)); intro g3 hg w2_ hbox hb; have n0_ := Aside0.mk (below_step (by repeat (first | (with_reducible first | exact HB.out | apply below_alloc | apply pw_below_drewN | apply below_drew1 | refine below_set ?_ GE2.out) | exact HB.out)) hb); have n1_ := Aside0.mk (blk_below (g := g2) (o := .cells #[.pointer (some ⟨p, 0, none⟩)] 25 (0, 0)) (by (with_reducible repeat (first | refine blk_drewN ?_ _ | refine blk_drew ?_ | refine blk_alloc ?_ _)); exact BK2.out) hb); have n2_ := Aside0.mk hbox; have n3_ := Aside0.mk ((by rw [hg]; exact (below_size (by repeat (first | (with_reducible first | exact HB.out | apply below_alloc | apply pw_below_drewN | apply below_drew1 | refine below_set ?_ GE2.out) | exact HB.out)))) : W.heap.size ≤ g3); have n4_ := Aside0.mk ((by rw [hg]; exact Nat.ne_of_lt (blk_lt (g := g2) (o := .cells #[.pointer (some ⟨p, 0, none⟩)] 25 (0, 0)) (by (with_reducible repeat (first | refine blk_drewN ?_ _ | refine blk_drew ?_ | refine blk_alloc ?_ _)); exact BK2.out))) : g2 ≠ g3); clear HB; clear BK2; have HB := n0_; have BK2 := n1_; have BK3 := n2_; have GE3 := n3_; have NE2_3 := n4_; clear n0_ n1_ n2_ n3_ n4_; clear hb hbox hg; have hc2_0 : w2_.cell? ⟨g2, 0, none⟩ = some (.pointer (some ⟨p, 0, none⟩)) := (blk_cell BK2.out 0).trans rfl; have hf2_0 := blk_frozen BK2.out 0; have hc3_0 : w2_.cell? ⟨g3, 0, none⟩ = some (.int .i64 a) := (blk_cell BK3.out 0).trans rfl; have hf3_0 := blk_frozen BK3.out 0) | (go_at_call 57; have hT := h.below HB.out; have hgs := h.lt; have hsz := HB.out.size; have hq2 := BK2.out; have hq3 := BK3.out; refine (at_no w2_ hT a ha _).mono ?_; rintro e w' ⟨rfl, hw⟩; obtain rfl := hw.symm))
  go_ret
  exact ⟨rfl, hT, HB.out⟩
set_option maxHeartbeats 2000000 in
theorem flush_in (W : World) {p gs gk bm N cs ck n : Nat} {S K : List Int} {D : DataW Unit} (h : Rg W p gs gk bm N cs ck n S K D) (hn : n < maxLen) (a : Int) (ha64 : 0 ≤ a ∧ a < 64) (hb : thereB N a = true) (i : Nat) (HL : Aside0 (a - a % 8 = i)) (hi : i + 8 ≤ N) (hN : N ≤ 64) (y0 y1 y2 y3 y4 y5 y6 y7 : Int) (HE : Aside0 (Eight S i y0 y1 y2 y3 y4 y5 y6 y7)) (X : Nat → Prop) (hBp : X p) (hBm : X bm) : Calls Try.prog 48 #[.pointer (some ⟨p, 0, none⟩), .int .i64 a] W fun e w' => e = .returned (.int .i64 0) ∧ Rg w' p gs gk bm N cs ck (n + 1) S K (D.put (.int .i64 (i : Int)) (.agg [.lit (.int .u64 y0), .lit (.int .u64 y1), .lit (.int .u64 y2), .lit (.int .u64 y3), .lit (.int .u64 y4), .lit (.int .u64 y5), .lit (.int .u64 y6), .lit (.int .u64 y7)])) ∧ Fr X W w' := by
  have HB := Aside0.mk (Below.refl W.heap.size W)
  go_enter Try.func48, Try.ntmps48
  go_wp2_with (first | ((with_reducible refine gate_dst (N := 2) rfl ?_); refine box_event ?hg (N := 2) ?hd (cs := #[.pointer (some ⟨p, 0, none⟩)]) (t := 25) ?hr ?_; (case hd => rfl); (case hg => rfl); (case hr => first | (go_simp; done) | (go_simp; rfl)); intro g2 hg w1_ hbox hb; have n0_ := Aside0.mk (below_step (by repeat (first | (with_reducible first | exact HB.out | apply below_alloc | apply pw_below_drewN | apply below_drew1) | exact HB.out)) hb); have n1_ := Aside0.mk hbox; have n2_ := Aside0.mk ((by rw [hg]; exact (below_size (by repeat (first | (with_reducible first | exact HB.out | apply below_alloc | apply pw_below_drewN | apply below_drew1) | exact HB.out)))) : W.heap.size ≤ g2); clear HB; have HB := n0_; have BK2 := n1_; have GE2 := n2_; clear n0_ n1_ n2_; clear hb hbox hg; have hc2_0 : w1_.cell? ⟨g2, 0, none⟩ = some (.pointer (some ⟨p, 0, none⟩)) := (blk_cell BK2.out 0).trans rfl; have hf2_0 := blk_frozen BK2.out 0) | ((with_reducible refine gate_dst (N := 3) rfl ?_); refine box_event ?hg (N := 3) ?hd (cs := #[.int .i64 a]) (t := 3) ?hr ?_; (case hd => rfl); (case hg => rfl); (case hr => first | (go_simp; done) | (go_simp; rfl)); intro g3 hg w2_ hbox hb; have n0_ := Aside0.mk (below_step (by repeat (first | (with_reducible first | exact HB.out | apply below_alloc | apply pw_below_drewN | apply below_drew1 | refine below_set ?_ GE2.out) | exact HB.out)) hb); have n1_ := Aside0.mk (blk_below (g := g2) (o := .cells #[.pointer (some ⟨p, 0, none⟩)] 25 (0, 0)) (by (with_reducible repeat (first | refine blk_drewN ?_ _ | refine blk_drew ?_ | refine blk_alloc ?_ _)); exact BK2.out) hb); have n2_ := Aside0.mk hbox; have n3_ := Aside0.mk ((by rw [hg]; exact (below_size (by repeat (first | (with_reducible first | exact HB.out | apply below_alloc | apply pw_below_drewN | apply below_drew1 | refine below_set ?_ GE2.out) | exact HB.out)))) : W.heap.size ≤ g3); have n4_ := Aside0.mk ((by rw [hg]; exact Nat.ne_of_lt (blk_lt (g := g2) (o := .cells #[.pointer (some ⟨p, 0, none⟩)] 25 (0, 0)) (by (with_reducible repeat (first | refine blk_drewN ?_ _ | refine blk_drew ?_ | refine blk_alloc ?_ _)); exact BK2.out))) : g2 ≠ g3); clear HB; clear BK2; have HB := n0_; have BK2 := n1_; have BK3 := n2_; have GE3 := n3_; have NE2_3 := n4_; clear n0_ n1_ n2_ n3_ n4_; clear hb hbox hg; have hc2_0 : w2_.cell? ⟨g2, 0, none⟩ = some (.pointer (some ⟨p, 0, none⟩)) := (blk_cell BK2.out 0).trans rfl; have hf2_0 := blk_frozen BK2.out 0; have hc3_0 : w2_.cell? ⟨g3, 0, none⟩ = some (.int .i64 a) := (blk_cell BK3.out 0).trans rfl; have hf3_0 := blk_frozen BK3.out 0) | (go_at_call 57; have hT := h.below HB.out; have hgs := h.lt; have hsz := HB.out.size; have hq2 := BK2.out; have hq3 := BK3.out; refine (at_flush w2_ hT a hb _ _ (fun w' => Rg w' p gs gk bm N cs ck (n + 1) S K (D.put (.int .i64 (i : Int)) (.agg [.lit (.int .u64 y0), .lit (.int .u64 y1), .lit (.int .u64 y2), .lit (.int .u64 y3), .lit (.int .u64 y4), .lit (.int .u64 y5), .lit (.int .u64 y6), .lit (.int .u64 y7)])) ∧ Fr X w2_ w') ((flush1 w2_ hT hn a ha64 i HL hi hN y0 y1 y2 y3 y4 y5 y6 y7 HE g2 g3 hq2 hq3 ⟨by have := GE2.out; omega, by have := GE3.out; omega⟩ X hBm)) (fun w1 hw => hw.1.step_cell)).mono ?_; rintro e w5 ⟨rfl, w1, st, ⟨hR1, hB1⟩, rfl⟩))
  go_ret
  have hb1 : Fr X W w2_ := Fr.of HB.out
  exact ⟨rfl, hR1.step st, (hb1.trans hB1).setCell (p := ⟨p, 3, none⟩) (.inl hBp) _⟩
set_option maxHeartbeats 4000000 in
set_option maxRecDepth 100000 in
theorem keep_calls (W : World) {p gs gk bm N cs ck n : Nat} {S K : List Int} {D : DataW Unit} (h : Rg W p gs gk bm N cs ck n S K D) (i : Nat) (hi : i + 8 ≤ N) (hN : N ≤ 64) (y0 y1 y2 y3 y4 y5 y6 y7 : Int) :
    Calls Try.prog 64 #[.pointer (some ⟨p, 0, none⟩), .int .i64 (i : Int), .agg #[.int .u64 y0, .int .u64 y1, .int .u64 y2, .int .u64 y3, .int .u64 y4, .int .u64 y5, .int .u64 y6, .int .u64 y7]] W fun e w' => (∃ v, e = .returned v) ∧ Rg w' p gs gk bm N cs ck n S (putL K i [y0, y1, y2, y3, y4, y5, y6, y7]) D ∧ W.grownBy w' (some gk) := by
  obtain ⟨st, hp⟩ := h.tp
  have hu := Try.underlying86
  have hu7 := Try.underlying103
  have hlt := h.lt
  have HB := Aside0.mk (Below.refl W.heap.size W)
  have HH := Aside0.mk h
  have HP := Aside0.mk hp
  obtain ⟨cur, _, hsz, hNc, hcm, _⟩ := h.rk.cur
  clear h hp hsz
  go_enter Try.func64, Try.ntmps64
  go_upto_region 1 with (first | ((with_reducible refine gate_dst (N := 5) rfl ?_); refine box_event ?hg (N := 5) ?hd (cs := #[.int .u64 y0, .int .u64 y1, .int .u64 y2, .int .u64 y3, .int .u64 y4, .int .u64 y5, .int .u64 y6, .int .u64 y7]) (t := 103) ?hr ?_; (case hd => rfl); (case hg => rfl); (case hr => first | (go_simp; done) | (go_simp; rfl)); intro g5 hg w1_ hbox hb; have n0_ := Aside0.mk (below_step (by repeat (first | (with_reducible first | exact HB.out | apply below_alloc | apply pw_below_drewN | apply below_drew1) | exact HB.out)) hb); have n1_ := Aside0.mk hbox; have n2_ := Aside0.mk ((by rw [hg]; exact (below_size (by repeat (first | (with_reducible first | exact HB.out | apply below_alloc | apply pw_below_drewN | apply below_drew1) | exact HB.out)))) : W.heap.size ≤ g5); clear HB; have HB := n0_; have BK5 := n1_; have GE5 := n2_; clear n0_ n1_ n2_; clear hb hbox hg; have hc5_0 : w1_.cell? ⟨g5, 0, none⟩ = some (.int .u64 y0) := (blk_cell BK5.out 0).trans rfl; have hf5_0 := blk_frozen BK5.out 0; have hc5_1 : w1_.cell? ⟨g5, 1, none⟩ = some (.int .u64 y1) := (blk_cell BK5.out 1).trans rfl; have hf5_1 := blk_frozen BK5.out 1; have hc5_2 : w1_.cell? ⟨g5, 2, none⟩ = some (.int .u64 y2) := (blk_cell BK5.out 2).trans rfl; have hf5_2 := blk_frozen BK5.out 2; have hc5_3 : w1_.cell? ⟨g5, 3, none⟩ = some (.int .u64 y3) := (blk_cell BK5.out 3).trans rfl; have hf5_3 := blk_frozen BK5.out 3; have hc5_4 : w1_.cell? ⟨g5, 4, none⟩ = some (.int .u64 y4) := (blk_cell BK5.out 4).trans rfl; have hf5_4 := blk_frozen BK5.out 4; have hc5_5 : w1_.cell? ⟨g5, 5, none⟩ = some (.int .u64 y5) := (blk_cell BK5.out 5).trans rfl; have hf5_5 := blk_frozen BK5.out 5; have hc5_6 : w1_.cell? ⟨g5, 6, none⟩ = some (.int .u64 y6) := (blk_cell BK5.out 6).trans rfl; have hf5_6 := blk_frozen BK5.out 6; have hc5_7 : w1_.cell? ⟨g5, 7, none⟩ = some (.int .u64 y7) := (blk_cell BK5.out 7).trans rfl; have hf5_7 := blk_frozen BK5.out 7))
  have hT := HH.out.below HB.out
  have h1 : w1_.cell? ⟨p, 1, none⟩ = some (.slice (some ⟨gk, 0, none⟩) N ck) := (blk_cell (blk_below HP.out HB.out) 1).trans rfl
  have hc0 : w1_.cell? ⟨gk, i, none⟩ = some (.int .u64 (K.getD (i + 0) 0)) := hT.rk.cell (i + 0) (by omega)
  have hf0 : w1_.frozen? ⟨gk, i, none⟩ = false := hT.rk.frozen _
  have hc1 : w1_.cell? ⟨gk, i + 1, none⟩ = some (.int .u64 (K.getD (i + 1) 0)) := hT.rk.cell (i + 1) (by omega)
  have hf1 : w1_.frozen? ⟨gk, i + 1, none⟩ = false := hT.rk.frozen _
  have hc2 : w1_.cell? ⟨gk, i + 2, none⟩ = some (.int .u64 (K.getD (i + 2) 0)) := hT.rk.cell (i + 2) (by omega)
  have hf2 : w1_.frozen? ⟨gk, i + 2, none⟩ = false := hT.rk.frozen _
  have hc3 : w1_.cell? ⟨gk, i + 3, none⟩ = some (.int .u64 (K.getD (i + 3) 0)) := hT.rk.cell (i + 3) (by omega)
  have hf3 : w1_.frozen? ⟨gk, i + 3, none⟩ = false := hT.rk.frozen _
  have hc4 : w1_.cell? ⟨gk, i + 4, none⟩ = some (.int .u64 (K.getD (i + 4) 0)) := hT.rk.cell (i + 4) (by omega)
  have hf4 : w1_.frozen? ⟨gk, i + 4, none⟩ = false := hT.rk.frozen _
  have hc5 : w1_.cell? ⟨gk, i + 5, none⟩ = some (.int .u64 (K.getD (i + 5) 0)) := hT.rk.cell (i + 5) (by omega)
  have hf5 : w1_.frozen? ⟨gk, i + 5, none⟩ = false := hT.rk.frozen _
  have hc6 : w1_.cell? ⟨gk, i + 6, none⟩ = some (.int .u64 (K.getD (i + 6) 0)) := hT.rk.cell (i + 6) (by omega)
  have hf6 : w1_.frozen? ⟨gk, i + 6, none⟩ = false := hT.rk.frozen _
  have hc7 : w1_.cell? ⟨gk, i + 7, none⟩ = some (.int .u64 (K.getD (i + 7) 0)) := hT.rk.cell (i + 7) (by omega)
  have hf7 : w1_.frozen? ⟨gk, i + 7, none⟩ = false := hT.rk.frozen _
  have hi0 : (0 : Int) ≤ (i : Int) := by omega
  have hi8 : (i : Int) + 8 ≤ (N : Int) := by omega
  have hiN : i ≤ N := by omega
  have hcki : (ck = i) = False := by simp; omega
  have hcp : (Builtin.copy_ #[31, 31] 3 #[.slice (some ⟨gk, i, none⟩) (N - i) (ck - i), .slice (some ⟨g5, 0, none⟩) 8 8]).run Try.prog w1_.drew = .ok (goInt 8) (w1_.drew.setCells gk i ([y0, y1, y2, y3, y4, y5, y6, y7].map (Value.int .u64))) := by
    refine run_copy_cells w1_.drew 31 31 3 49 gk i (N - i) (ck - i) ⟨g5, 0, none⟩ 8 8 ([y0, y1, y2, y3, y4, y5, y6, y7].map (Value.int .u64)) Try.underlying31 (by kernel_rfl) (by show 8 = min 8 (N - i); omega) ?_ ?_ ?_ ?_
    · intro j v hj
      have hlt : j < 8 := by
        rcases Nat.lt_or_ge j 8 with h | h
        · exact h
        · rw [List.getElem?_eq_none (by simpa using h)] at hj; cases hj
      have h9 : w1_.cell? ⟨g5, j, none⟩ = #[.int .u64 y0, .int .u64 y1, .int .u64 y2, .int .u64 y3, .int .u64 y4, .int .u64 y5, .int .u64 y6, .int .u64 y7][j]? := blk_cell BK5.out j
      have h10 : (#[.int .u64 y0, .int .u64 y1, .int .u64 y2, .int .u64 y3, .int .u64 y4, .int .u64 y5, .int .u64 y6, .int .u64 y7] : Array Value)[j]? = ([y0, y1, y2, y3, y4, y5, y6, y7].map (Value.int .u64))[j]? := by simp
      have h11 : ((⟨g5, 0, none⟩ : Addr).add j) = ⟨g5, j, none⟩ := by unfold Addr.add; split <;> simp_all
      rw [h11]
      exact h9.trans (h10.trans hj)
    · intro j hj
      simp at hj
      show (w1_.cell? ⟨gk, i + j, none⟩).isSome = true
      rw [hT.rk.cell (i + j) (by omega)]
      rfl
    · intro j hj
      exact hT.rk.frozen _
    · intro v hv
      simp at hv
      rcases hv with rfl | rfl | rfl | rfl | rfl | rfl | rfl | rfl <;> rfl
  have HT := Aside0.mk hT
  clear hT
  generalize hWC : w1_.drew.setCells gk i ([y0, y1, y2, y3, y4, y5, y6, y7].map (Value.int .u64)) = wc at hcp
  go_region
  go_end0
  subst hWC
  exact ⟨⟨_, rfl⟩, (HT.out.drewN 1).keepL [y0, y1, y2, y3, y4, y5, y6, y7] i hi, grown_setCells gk _ i _ (below_drew1 HB.out)⟩
end Go.Proofs.Ytmolflmljneelaa.Pm
/- Parts of a walk, after my own text Pm6 for another seat. What each says stands at its head. -/
namespace Go.Proofs.Ytmolflmljneelaa.Pm
open Go.RowKit Go.Maps Go.ChangeMaps Go.MapKept Go.Proofs.YtmolflmljneelaaW.PrintWords Go.Proofs.YtmolflmljneelaaW.PrintLast Go.Proofs.YtmolflmljneelaaW.PrintMore
set_option linter.unusedSimpArgs false
set_option linter.unusedVariables false
structure Note8 where
  (y0 y1 y2 y3 y4 y5 y6 y7 : Int)
def Note8.val (c : Note8) : Value := .agg #[.int .u64 c.y0, .int .u64 c.y1, .int .u64 c.y2, .int .u64 c.y3, .int .u64 c.y4, .int .u64 c.y5, .int .u64 c.y6, .int .u64 c.y7]
def Note8.list (c : Note8) : List Int := [c.y0, c.y1, c.y2, c.y3, c.y4, c.y5, c.y6, c.y7]
theorem note_inv (v : Value) (y : DataW Unit × List MemPlace) (h : noteR v = some y) : ∃ c : Note8, v = c.val := by
  unfold noteR at h
  split at h
  · rename_i cs
    unfold noteL at h
    split at h
    · rename_i a0 a1 a2 a3 a4 a5 a6 a7 e
      refine ⟨⟨a0, a1, a2, a3, a4, a5, a6, a7⟩, ?_⟩
      have h2 : cs = #[.int .u64 a0, .int .u64 a1, .int .u64 a2, .int .u64 a3, .int .u64 a4, .int .u64 a5, .int .u64 a6, .int .u64 a7] := Array.toList_inj.1 e
      rw [h2]
      rfl
    · cases h
  · cases h
abbrev key (i : Nat) : Lit := .int .i64 (i : Int)
theorem key_inj {a b : Nat} (h : key a = key b) : a = b := by
  have h2 : (a : Int) = (b : Int) := by injection h
  omega
theorem key_same (a b : Nat) : (key a).sameKey (key b) = decide (a = b) := by
  by_cases h : a = b
  · subst h
    rw [decide_eq_true rfl]
    exact WideAt.sameKey_self trivial
  · rw [decide_eq_false h]
    simp [Lit.sameKey]
    omega
theorem key_is (i : Nat) : WideAt.IsKeyLit (key i) := trivial
def wordN (d : DataW Unit) (j : Nat) : Int := match d with
  | .agg l => (match l[j]? with | some (.lit (.int _ a)) => a | _ => 0)
  | _ => 0
def pendAt (D : DataW Unit) (j : Nat) : Option Int := if has D (key (j - j % 8)) = true then some (wordN (D.atKey (key (j - j % 8)) .nil) (j % 8)) else none
structure WFD (N : Nat) (D : DataW Unit) : Prop where
  map : IsMap D
  keys : ∀ kl, has D kl = true → ∃ i : Nat, kl = key i ∧ i % 8 = 0 ∧ i + 8 ≤ N
theorem wfd_nil (N : Nat) : WFD N (.map []) := ⟨⟨[], rfl⟩, fun kl h => by simp [has] at h⟩
theorem wfd_put {N : Nat} {D : DataW Unit} (h : WFD N D) (i : Nat) (h8 : i % 8 = 0) (hi : i + 8 ≤ N) (d : DataW Unit) : WFD N (D.put (key i) d) := by
  refine ⟨?_, fun kl hk => ?_⟩
  · obtain ⟨es, rfl⟩ := h.map
    exact ⟨_, rfl⟩
  · by_cases e : kl = key i
    · exact ⟨i, e, h8, hi⟩
    · rw [has_put_other e] at hk
      exact h.keys kl hk
theorem pend_nil (j : Nat) : pendAt (.map []) j = none := by simp [pendAt, has]
theorem pend_put {D : DataW Unit} (hD : IsMap D) (i : Nat) (d : DataW Unit) (j : Nat) : pendAt (D.put (key i) d) j = if j - j % 8 = i then some (wordN d (j % 8)) else pendAt D j := by
  unfold pendAt
  by_cases e : j - j % 8 = i
  · rw [if_pos e, e, has_put_same hD (key_is i), if_pos rfl, atKey_put_same hD (key_is i)]
  · have hk : key (j - j % 8) ≠ key i := fun x => e (key_inj x)
    rw [if_neg e, has_put_other hk, atKey_put_other hk]
/-- 'clear' of a map. -/
theorem owns_clear {w : World} {P : Program} {k e t ty : TypeId} {R : Value → Option (DataW Unit × List MemPlace)} {b n : Nat} {D : DataW Unit} (h : w.ownsMap P k R b n D) (ht : P.underlying t = some (.map k e)) :
    ∃ w', (Builtin.clear_ #[t] ty #[.map (some b)]).run P w = .ok (.tuple #[]) w' ∧ w'.ownsMap P k R b 0 (.map []) ∧ w.grownBy w' (some b) := by
  obtain ⟨es, clock, hb, F, hs, rfl⟩ := h
  refine ⟨setBlock w b (.map #[] clock), ?_, ⟨#[], clock, heap_setBlock_same hb _, ⟨by simp, MapKept.stamped_empty clock, by simp⟩, Nat.le_refl _, rfl⟩, ⟨rfl, rfl, rfl, by simp [setBlock], fun i _ hi => heap_setBlock_other hb _ (fun e => hi (by rw [e]))⟩⟩
  simp [Builtin.clear_, run_underlying ht, MapKept.run_getObj_map hb, MapKept.run_setObj_map _ hb, Result.andThen, setBlock]
theorem note_word (c : Note8) (y : DataW Unit × List MemPlace) (h : noteR c.val = some y) (j : Nat) (hj : j < 8) : wordN y.1 j = c.list.getD j 0 := by
  have h2 : y = (.agg [.lit (.int .u64 c.y0), .lit (.int .u64 c.y1), .lit (.int .u64 c.y2), .lit (.int .u64 c.y3), .lit (.int .u64 c.y4), .lit (.int .u64 c.y5), .lit (.int .u64 c.y6), .lit (.int .u64 c.y7)], []) := (Option.some.inj h).symm
  subst h2
  rcases j with _ | _ | _ | _ | _ | _ | _ | _ | j <;> first | rfl | omega
end Go.Proofs.Ytmolflmljneelaa.Pm
/- Parts of a walk, after my own text Pm7 for another seat. What each says stands at its head. -/
namespace Go.Proofs.Ytmolflmljneelaa.Pm
open Go.RowKit Go.Maps Go.ChangeMaps Go.MapKept Go.Proofs.YtmolflmljneelaaW.PrintWords Go.Proofs.YtmolflmljneelaaW.PrintLast Go.Proofs.YtmolflmljneelaaW.PrintMore
set_option linter.unusedSimpArgs false
set_option linter.unusedVariables false
/-- What the kept words are while the notes are laid down: those of lines that are still left are as they were. -/
def Laid (N : Nat) (K K' : List Int) (D : DataW Unit) (left : Lit → Bool) : Prop := ∀ j, j < N → K'.getD j 0 = if left (key (j - j % 8)) = true then K.getD j 0 else (pendAt D j).getD (K.getD j 0)
theorem laid_start (N : Nat) (K : List Int) (D : DataW Unit) : Laid N K K D (has D) := fun j _ => by
  by_cases h : has D (key (j - j % 8)) = true
  · rw [if_pos h]
  · rw [if_neg h]
    unfold pendAt
    rw [if_neg h]
    rfl
theorem laid_step {N : Nat} {K K' : List Int} {D : DataW Unit} {left : Lit → Bool} (h : Laid N K K' D left) (hl : K'.length = N) (i : Nat) (h8 : i % 8 = 0) (hi : i + 8 ≤ N) (hd : has D (key i) = true) (c : Note8) (y : DataW Unit × List MemPlace) (hy : noteR c.val = some y) (hat : ∀ zd, D.atKey (key i) zd = y.1) :
    Laid N K (putL K' i c.list) D (fun z => left z && !z.sameKey (key i)) := fun j hj => by
  have hcl : c.list.length = 8 := rfl
  rw [putL_at c.list K' i j (by omega), hcl]
  show _ = if (left (key (j - j % 8)) && !(key (j - j % 8)).sameKey (key i)) = true then _ else _
  rw [key_same]
  by_cases e : j - j % 8 = i
  · have hp : pendAt D j = some (c.list.getD (j - i) 0) := by
      unfold pendAt
      rw [e, if_pos hd, hat, note_word c y hy (j % 8) (by omega), show j % 8 = j - i by omega]
    rw [if_pos (by omega), decide_eq_true e, if_neg (by simp), hp]
    rfl
  · rw [if_neg (by omega), decide_eq_false e, h j hj]
    simp
theorem laid_end {N : Nat} {K K' : List Int} {D : DataW Unit} {left : Lit → Bool} (h : Laid N K K' D left) (he : ∀ kl, left kl = false) (j : Nat) (hj : j < N) : K'.getD j 0 = (pendAt D j).getD (K.getD j 0) := by
  rw [h j hj, he, if_neg (by decide)]
theorem Rg.grow {W W' : World} {p gs gk bm N cs ck n : Nat} {S K : List Int} {D : DataW Unit} {row : Option Nat} (h : Rg W p gs gk bm N cs ck n S K D) (hg : W.grownBy W' row) (r1 : some p ≠ row) (r2 : some gs ≠ row) (r3 : some gk ≠ row) (ho : W'.ownsMap Try.prog 3 noteR bm n D) : Rg W' p gs gk bm N cs ck n S K D := by
  obtain ⟨l1, l2, l3, l4⟩ := h.lt
  refine ⟨let ⟨st, h1⟩ := h.tp; ⟨st, (hg.block p l1 r1).trans h1⟩, ⟨h.rs.len, ?_⟩, ⟨h.rk.len, ?_⟩, ho, h.ne⟩
  · obtain ⟨c, h1, h2⟩ := h.rs.cur
    exact ⟨c, (hg.block gs l2 r2).trans h1, h2⟩
  · obtain ⟨c, h1, h2⟩ := h.rk.cur
    exact ⟨c, (hg.block gk l3 r3).trans h1, h2⟩
set_option maxHeartbeats 8000000 in
set_option maxRecDepth 100000 in
theorem fence1 (W : World) {p gs gk bm N cs ck n : Nat} {S K : List Int} {D : DataW Unit} (h : Rg W p gs gk bm N cs ck n S K D) (hD : WFD N D) (hN : N ≤ 64) (br : Nat) (hr : W.heap[br]? = some (.cells #[.pointer (some ⟨p, 0, none⟩)] 25 (0, 0))) (hne : br ≠ p ∧ br ≠ gs ∧ br ≠ gk ∧ br ≠ bm) (X : Nat → Prop) (hBk : X gk) (hBm : X bm) :
    Calls Try.prog 63 #[.pointer (some ⟨br, 0, none⟩)] W fun e w' => (∃ v, e = .returned v) ∧ (∃ K', Rg w' p gs gk bm N cs ck 0 S K' (.map []) ∧ ∀ j, j < N → K'.getD j 0 = (pendAt D j).getD (K.getD j 0)) ∧ Fr X W w' := by
  have hu := Try.underlying86
  have hc0 : W.cell? ⟨br, 0, none⟩ = some (.pointer (some ⟨p, 0, none⟩)) := (blk_cell hr 0).trans rfl
  have hcm := h.mapcell
  have hown := h.mp
  have hlt := h.lt
  have hbr := blk_lt hr
  go_enter Try.func63, Try.ntmps63
  go_wp2_with (first
    | (at_range; refine wpList_range_own _ rfl _ 84 rfl 3 103 keyed3 Try.underlying84 noteR bm n D rfl hown ?_; intro w0 hrg0 hg0 hs0))
  go_frame
  go_loopw [1] (fun _ wr => ∃ (left : Lit → Bool) (cnt : Nat) (K' : List Int), wr.ranges Try.prog 3 noteR bm W.heap.size n D left cnt ∧ Aside0 (Rg wr p gs gk bm N cs ck n S K' D) ∧ Aside0 (Fr X W wr) ∧ Aside0 (wr.heap[br]? = some (.cells #[.pointer (some ⟨p, 0, none⟩)] 25 (0, 0))) ∧ Aside0 (Laid N K K' D left) ∧ Aside0 (∀ kl, left kl = true → has D kl = true)) (fun _ wr => wr.rangeLeft bm W.heap.size)
  case atStart => exact ⟨_, _, K, hrg0, Aside0.mk (h.grow hg0 (by simp) (by simp) (by simp) hrg0.owns), Aside0.mk ((Fr.refl X W).grown hg0 (fun k e => by cases e)), Aside0.mk ((hg0.block br hbr (by simp)).trans hr), Aside0.mk (laid_start N K D), Aside0.mk (fun kl hk => hk)⟩
  case round =>
    obtain ⟨left, cnt, K', hrg, RG, HBB, CR, HLD, HLH⟩ := hrel
    go_wp2_with (at_next; refine wpList_next_ranges _ rfl _ rfl 3 keyed3 noteR (Value.int .i64) Note8.val (fun ky kl hk => by obtain ⟨x, rfl, _⟩ := Maps.keyOf_int_inv Try.underlying3 hk; exact ⟨x, rfl⟩) note_inv bm W.heap.size n D left cnt rfl hrg ?_ ?_)
    · intro _ hl0
      have hc : wr.cell? ⟨br, 0, none⟩ = some (.pointer (some ⟨p, 0, none⟩)) := (blk_cell CR.out 0).trans rfl
      have hm := RG.out.mapcell
      obtain ⟨w9, hrun9, hown9, hgr9⟩ := owns_clear (ty := 0) RG.out.mp Try.underlying84
      go_wp2
      go_end0
      exact ⟨⟨_, rfl⟩, ⟨K', RG.out.upd hgr9 hown9, fun j hj => laid_end HLD.out hl0 j hj⟩, HBB.out.grown hgr9 (fun k e => by cases e; exact .inl hBm)⟩
    · intro x c kl y ps w1 cnt1 hkey hlk hyc hat hrg1 hlt1 hg1 hs1 hen
      obtain ⟨i, rfl, h8, hi⟩ := hD.keys kl (HLH.out kl hlk)
      obtain ⟨x', hx1, hx2, _⟩ := Maps.keyOf_int_inv Try.underlying3 hkey
      obtain rfl : x = (i : Int) := by
        injection hx1 with _ h1
        injection hx2 with _ h2
        rw [h1, ← h2]
      have hsz := HBB.out.size
      have HSZ : W.heap.size ≤ w1.heap.size := by omega
      have RG1 := Aside0.mk (RG.out.grow hg1 (by simp; omega) (by simp; omega) (by simp; omega) hrg1.owns)
      have HB1 := Aside0.mk (HBB.out.grown hg1 (fun k e => by cases e; exact .inr (Nat.le_refl _)))
      have CR1 := Aside0.mk ((hg1.block br (by omega) (by simp; omega)).trans CR.out)
      have HRG := Aside0.mk hrg1
      have HEQ := Aside0.mk hrg.left_eq
      have HAT := Aside0.mk hat
      have HYC := Aside0.mk hyc
      have HLK := Aside0.mk hlk
      have HI := Aside0.mk (And.intro h8 hi)
      have HB := Aside0.mk (Below.refl w1.heap.size w1)
      clear RG CR HBB hkey hx1 hx2 hat hyc hlk hrg hsz h8 hi hg1 hs1
      have hcv : c.val = .agg #[.int .u64 c.y0, .int .u64 c.y1, .int .u64 c.y2, .int .u64 c.y3, .int .u64 c.y4, .int .u64 c.y5, .int .u64 c.y6, .int .u64 c.y7] := rfl
      rw [hcv] at hen
      clear hcv
      go_upto_region 3 with (first | ((with_reducible refine gate_dst (N := 2) rfl ?_); refine box_event ?hg (N := 2) ?hd (cs := #[.int .u64 0, .int .u64 0, .int .u64 0, .int .u64 0, .int .u64 0, .int .u64 0, .int .u64 0, .int .u64 0]) (t := 103) ?hr ?_; (case hd => rfl); (case hg => rfl); (case hr => first | (go_simp; done) | (go_simp; rfl)); intro g2 hg w1_ hbox hb; have n0_ := Aside0.mk (below_step (by repeat (first | (with_reducible first | exact HB.out | apply below_alloc | apply pw_below_drewN | apply below_drew1) | exact HB.out)) hb); have n1_ := Aside0.mk hbox; have n2_ := Aside0.mk ((by rw [hg]; exact (below_size (by repeat (first | (with_reducible first | exact HB.out | apply below_alloc | apply pw_below_drewN | apply below_drew1) | exact HB.out)))) : w1.heap.size ≤ g2); clear HB; have HB := n0_; have BK2 := n1_; have GE2 := n2_; clear n0_ n1_ n2_; clear hb hbox hg; have hc2_0 : w1_.cell? ⟨g2, 0, none⟩ = some (.int .u64 0) := (blk_cell BK2.out 0).trans rfl; have hf2_0 := blk_frozen BK2.out 0; have hc2_1 : w1_.cell? ⟨g2, 1, none⟩ = some (.int .u64 0) := (blk_cell BK2.out 1).trans rfl; have hf2_1 := blk_frozen BK2.out 1; have hc2_2 : w1_.cell? ⟨g2, 2, none⟩ = some (.int .u64 0) := (blk_cell BK2.out 2).trans rfl; have hf2_2 := blk_frozen BK2.out 2; have hc2_3 : w1_.cell? ⟨g2, 3, none⟩ = some (.int .u64 0) := (blk_cell BK2.out 3).trans rfl; have hf2_3 := blk_frozen BK2.out 3; have hc2_4 : w1_.cell? ⟨g2, 4, none⟩ = some (.int .u64 0) := (blk_cell BK2.out 4).trans rfl; have hf2_4 := blk_frozen BK2.out 4; have hc2_5 : w1_.cell? ⟨g2, 5, none⟩ = some (.int .u64 0) := (blk_cell BK2.out 5).trans rfl; have hf2_5 := blk_frozen BK2.out 5; have hc2_6 : w1_.cell? ⟨g2, 6, none⟩ = some (.int .u64 0) := (blk_cell BK2.out 6).trans rfl; have hf2_6 := blk_frozen BK2.out 6; have hc2_7 : w1_.cell? ⟨g2, 7, none⟩ = some (.int .u64 0) := (blk_cell BK2.out 7).trans rfl; have hf2_7 := blk_frozen BK2.out 7))
      generalize hw_ : ((((((((w1_.setCell ⟨g2, 0, none⟩ (.int .u64 c.y0)).setCell ⟨g2, 1, none⟩ (.int .u64 c.y1)).setCell ⟨g2, 2, none⟩ (.int .u64 c.y2)).setCell ⟨g2, 3, none⟩ (.int .u64 c.y3)).setCell ⟨g2, 4, none⟩ (.int .u64 c.y4)).setCell ⟨g2, 5, none⟩ (.int .u64 c.y5)).setCell ⟨g2, 6, none⟩ (.int .u64 c.y6)).setCell ⟨g2, 7, none⟩ (.int .u64 c.y7)) = w2_
      have n0_ := Aside0.mk (show Below w1.heap.size w1 w2_ from by rw [← hw_]; exact (by repeat (first | (with_reducible first | exact HB.out | apply below_alloc | apply pw_below_drewN | apply below_drew1 | refine below_set ?_ GE2.out) | exact HB.out)))
      have n1_ := Aside0.mk (show w2_.heap[g2]? = some (.cells #[.int .u64 c.y0, .int .u64 c.y1, .int .u64 c.y2, .int .u64 c.y3, .int .u64 c.y4, .int .u64 c.y5, .int .u64 c.y6, .int .u64 c.y7] 103 (0, 0)) from by rw [← hw_]; exact (by (with_reducible repeat (first | refine blk_drewN ?_ _ | refine blk_drew ?_ | refine blk_alloc ?_ _)); refine blk_put (cs := #[.int .u64 c.y0, .int .u64 c.y1, .int .u64 c.y2, .int .u64 c.y3, .int .u64 c.y4, .int .u64 c.y5, .int .u64 c.y6, .int .u64 0]) ?_ 7 _ rfl; (with_reducible repeat (first | refine blk_drewN ?_ _ | refine blk_drew ?_ | refine blk_alloc ?_ _)); refine blk_put (cs := #[.int .u64 c.y0, .int .u64 c.y1, .int .u64 c.y2, .int .u64 c.y3, .int .u64 c.y4, .int .u64 c.y5, .int .u64 0, .int .u64 0]) ?_ 6 _ rfl; (with_reducible repeat (first | refine blk_drewN ?_ _ | refine blk_drew ?_ | refine blk_alloc ?_ _)); refine blk_put (cs := #[.int .u64 c.y0, .int .u64 c.y1, .int .u64 c.y2, .int .u64 c.y3, .int .u64 c.y4, .int .u64 0, .int .u64 0, .int .u64 0]) ?_ 5 _ rfl; (with_reducible repeat (first | refine blk_drewN ?_ _ | refine blk_drew ?_ | refine blk_alloc ?_ _)); refine blk_put (cs := #[.int .u64 c.y0, .int .u64 c.y1, .int .u64 c.y2, .int .u64 c.y3, .int .u64 0, .int .u64 0, .int .u64 0, .int .u64 0]) ?_ 4 _ rfl; (with_reducible repeat (first | refine blk_drewN ?_ _ | refine blk_drew ?_ | refine blk_alloc ?_ _)); refine blk_put (cs := #[.int .u64 c.y0, .int .u64 c.y1, .int .u64 c.y2, .int .u64 0, .int .u64 0, .int .u64 0, .int .u64 0, .int .u64 0]) ?_ 3 _ rfl; (with_reducible repeat (first | refine blk_drewN ?_ _ | refine blk_drew ?_ | refine blk_alloc ?_ _)); refine blk_put (cs := #[.int .u64 c.y0, .int .u64 c.y1, .int .u64 0, .int .u64 0, .int .u64 0, .int .u64 0, .int .u64 0, .int .u64 0]) ?_ 2 _ rfl; (with_reducible repeat (first | refine blk_drewN ?_ _ | refine blk_drew ?_ | refine blk_alloc ?_ _)); refine blk_put (cs := #[.int .u64 c.y0, .int .u64 0, .int .u64 0, .int .u64 0, .int .u64 0, .int .u64 0, .int .u64 0, .int .u64 0]) ?_ 1 _ rfl; (with_reducible repeat (first | refine blk_drewN ?_ _ | refine blk_drew ?_ | refine blk_alloc ?_ _)); refine blk_put (cs := #[.int .u64 0, .int .u64 0, .int .u64 0, .int .u64 0, .int .u64 0, .int .u64 0, .int .u64 0, .int .u64 0]) ?_ 0 _ rfl; (with_reducible repeat (first | refine blk_drewN ?_ _ | refine blk_drew ?_ | refine blk_alloc ?_ _)); exact BK2.out))
      clear HB
      clear BK2
      have HB := n0_
      have BK2 := n1_
      clear n0_ n1_
      clear hw_
      have hc2_0 : w2_.cell? ⟨g2, 0, none⟩ = some (.int .u64 c.y0) := (blk_cell BK2.out 0).trans rfl
      have hf2_0 := blk_frozen BK2.out 0
      have hc2_1 : w2_.cell? ⟨g2, 1, none⟩ = some (.int .u64 c.y1) := (blk_cell BK2.out 1).trans rfl
      have hf2_1 := blk_frozen BK2.out 1
      have hc2_2 : w2_.cell? ⟨g2, 2, none⟩ = some (.int .u64 c.y2) := (blk_cell BK2.out 2).trans rfl
      have hf2_2 := blk_frozen BK2.out 2
      have hc2_3 : w2_.cell? ⟨g2, 3, none⟩ = some (.int .u64 c.y3) := (blk_cell BK2.out 3).trans rfl
      have hf2_3 := blk_frozen BK2.out 3
      have hc2_4 : w2_.cell? ⟨g2, 4, none⟩ = some (.int .u64 c.y4) := (blk_cell BK2.out 4).trans rfl
      have hf2_4 := blk_frozen BK2.out 4
      have hc2_5 : w2_.cell? ⟨g2, 5, none⟩ = some (.int .u64 c.y5) := (blk_cell BK2.out 5).trans rfl
      have hf2_5 := blk_frozen BK2.out 5
      have hc2_6 : w2_.cell? ⟨g2, 6, none⟩ = some (.int .u64 c.y6) := (blk_cell BK2.out 6).trans rfl
      have hf2_6 := blk_frozen BK2.out 6
      have hc2_7 : w2_.cell? ⟨g2, 7, none⟩ = some (.int .u64 c.y7) := (blk_cell BK2.out 7).trans rfl
      have hf2_7 := blk_frozen BK2.out 7
      have hc : w2_.cell? ⟨br, 0, none⟩ = some (.pointer (some ⟨p, 0, none⟩)) := (blk_cell (blk_below CR1.out HB.out) 0).trans rfl
      have RG3 := Aside0.mk (RG1.out.below HB.out)
      have HRG3 := Aside0.mk (HRG.out.kept (show w1.grownBy w2_ none from ⟨HB.out.os, HB.out.tape, HB.out.output, HB.out.size, fun k hk _ => HB.out.block k hk⟩) (by simp) (by simp))
      have CR3 := Aside0.mk (blk_below CR1.out HB.out)
      have HB3 := Aside0.mk (HB1.out.thn HB.out)
      go_wp2_with (go_at_call 64; refine (keep_calls w2_ RG3.out i HI.out.2 hN c.y0 c.y1 c.y2 c.y3 c.y4 c.y5 c.y6 c.y7).mono ?_; rintro e w5 ⟨⟨v, rfl⟩, hR5, hg5⟩)
      have hbk : ¬ bm = gk := h.ne.2.2.2.2.2
      have hgl := hlt.2.2.1
      have hR := HRG3.out.kept hg5 (by simp; exact hbk) (by simp; omega)
      have hlen := RG1.out.rk.len
      refine ⟨⟨_, cnt1, putL K' i c.list, hR, Aside0.mk hR5, Aside0.mk (HB3.out.grown hg5 (fun k e => by cases e; exact .inl hBk)), Aside0.mk ((hg5.block br (blk_lt CR3.out) (by simp; exact hne.2.2.1)).trans CR3.out), Aside0.mk (laid_step HLD.out hlen i HI.out.1 HI.out.2 (HLH.out _ HLK.out) c _ HYC.out HAT.out), Aside0.mk (fun kl hk => ?_)⟩, ?_⟩
      · rw [Bool.and_eq_true] at hk
        exact HLH.out kl hk.1
      · rw [hR.left_eq, HEQ.out]
        exact hlt1
end Go.Proofs.Ytmolflmljneelaa.Pm
/- Parts of a walk, after my own text Pm8 for another seat. What each says stands at its head. -/
namespace Go.Proofs.Ytmolflmljneelaa.Pm
open Go.RowKit Go.Maps Go.ChangeMaps Go.MapKept Go.Proofs.YtmolflmljneelaaW.PrintWords Go.Proofs.YtmolflmljneelaaW.PrintLast Go.Proofs.YtmolflmljneelaaW.PrintMore
set_option linter.unusedSimpArgs false
set_option linter.unusedVariables false
set_option maxHeartbeats 2000000 in
theorem fence_calls (W : World) {p gs gk bm N cs ck n : Nat} {S K : List Int} {D : DataW Unit} (h : Rg W p gs gk bm N cs ck n S K D) (hD : WFD N D) (hN : N ≤ 64) (hN0 : 0 < N) (X : Nat → Prop) (hBp : X p) (hBk : X gk) (hBm : X bm) :
    Calls Try.prog 50 #[.pointer (some ⟨p, 0, none⟩)] W fun e w' => e = .returned (.int .i64 0) ∧ (∃ K', Rg w' p gs gk bm N cs ck 0 S K' (.map []) ∧ ∀ j, j < N → K'.getD j 0 = (pendAt D j).getD (K.getD j 0)) ∧ Fr X W w' := by
  have hb : thereB N 0 = true := decide_eq_true ⟨Int.le_refl _, by omega⟩
  have HB := Aside0.mk (Below.refl W.heap.size W)
  go_enter Try.func50, Try.ntmps50
  go_wp2_with (first | ((with_reducible refine gate_dst (N := 1) rfl ?_); refine box_event ?hg (N := 1) ?hd (cs := #[.pointer (some ⟨p, 0, none⟩)]) (t := 25) ?hr ?_; (case hd => rfl); (case hg => rfl); (case hr => first | (go_simp; done) | (go_simp; rfl)); intro g1 hg w1_ hbox hb; have n0_ := Aside0.mk (below_step (by repeat (first | (with_reducible first | exact HB.out | apply below_alloc | apply pw_below_drewN | apply below_drew1) | exact HB.out)) hb); have n1_ := Aside0.mk hbox; have n2_ := Aside0.mk ((by rw [hg]; exact (below_size (by repeat (first | (with_reducible first | exact HB.out | apply below_alloc | apply pw_below_drewN | apply below_drew1) | exact HB.out)))) : W.heap.size ≤ g1); clear HB; have HB := n0_; have BK1 := n1_; have GE1 := n2_; clear n0_ n1_ n2_; clear hb hbox hg; have hc1_0 : w1_.cell? ⟨g1, 0, none⟩ = some (.pointer (some ⟨p, 0, none⟩)) := (blk_cell BK1.out 0).trans rfl; have hf1_0 := blk_frozen BK1.out 0) | (go_at_call 57; have hT := h.below HB.out; have hgs := h.lt; have hsz := HB.out.size; have hq1 := BK1.out; refine (at_fence w1_ hT 0 hb _ (fun w' => (∃ K', Rg w' p gs gk bm N cs ck 0 S K' (.map []) ∧ ∀ j, j < N → K'.getD j 0 = (pendAt D j).getD (K.getD j 0)) ∧ Fr X w1_ w') (fence1 w1_ hT hD hN g1 hq1 ⟨by have := GE1.out; omega, by have := GE1.out; omega, by have := GE1.out; omega, by have := GE1.out; omega⟩ X hBk hBm) (fun w1 hw => by obtain ⟨⟨K', hr, _⟩, _⟩ := hw; exact hr.step_cell)).mono ?_; rintro e w5 ⟨rfl, w1, st, ⟨⟨K', hR1, hK'⟩, hB1⟩, rfl⟩))
  go_ret
  have hb1 : Fr X W w1_ := Fr.of HB.out
  exact ⟨rfl, ⟨K', hR1.step st, hK'⟩, (hb1.trans hB1).setCell (p := ⟨p, 3, none⟩) (.inl hBp) _⟩
end Go.Proofs.Ytmolflmljneelaa.Pm
