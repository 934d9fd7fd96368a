/- Locks: Take and Leave turn the table's two blocks alone. Conditions: the table lies as 'Tbl' says. -/
import Derived.Test.YtpefbnhicfflpaaLk2
namespace Go.Proofs.Ytpefbnhicfflpaa.Lk
open Go.RowKit Go.Proofs.YtpefbnhicfflpaaW.PrintWords Go.Proofs.YtpefbnhicfflpaaW.PrintLast Go.Proofs.YtpefbnhicfflpaaW.PrintMore
set_option linter.unusedSimpArgs false
set_option linter.unusedVariables false
/-- Of what lay, the table's two blocks alone have turned. -/
structure Only (p g : Nat) (w w' : World) : Prop where
  os : w'.os = w.os
  tape : w'.tape = w.tape
  output : w'.output = w.output
  size : w.heap.size ≤ w'.heap.size
  block : ∀ k, k < w.heap.size → k ≠ p → k ≠ g → w'.heap[k]? = w.heap[k]?
theorem Only.refl (p g : Nat) (w : World) : Only p g w w := ⟨rfl, rfl, rfl, Nat.le_refl _, fun _ _ _ _ => rfl⟩
theorem Only.trans {p g : Nat} {a b c : World} (h : Only p g a b) (k : Only p g b c) : Only p g a c :=
  ⟨k.os.trans h.os, k.tape.trans h.tape, k.output.trans h.output, Nat.le_trans h.size k.size, fun i hi h1 h2 => (k.block i (Nat.lt_of_lt_of_le hi h.size) h1 h2).trans (h.block i hi h1 h2)⟩
theorem Only.of {p g : Nat} {a b : World} (h : Below a.heap.size a b) : Only p g a b := ⟨h.os, h.tape, h.output, h.size, fun i hi _ _ => h.block i hi⟩
theorem Only.setg {p g : Nat} {a w : World} (h : Only p g a w) (i : Nat) (u : Value) : Only p g a (w.setCell ⟨g, i, none⟩ u) :=
  h.trans ⟨rfl, rfl, rfl, by simp [World.setCell], fun k _ _ h2 => Below.heap_setCell _ _ _ _ h2⟩
theorem Only.setp {p g : Nat} {a w : World} (h : Only p g a w) (i : Nat) (u : Value) : Only p g a (w.setCell ⟨p, i, none⟩ u) :=
  h.trans ⟨rfl, rfl, rfl, by simp [World.setCell], fun k _ h1 _ => Below.heap_setCell _ _ _ _ h1⟩
theorem Only.drewN {p g : Nat} {a w : World} (h : Only p g a w) (n : Nat) : Only p g a (w.drewN n) := h.trans (Only.of (pw_below_drewN (Below.refl _ w) n))
theorem Only.below {p g B : Nat} {a w : World} (h : Only p g a w) (hp : B ≤ p) (hg : B ≤ g) (hB : B ≤ a.heap.size) : Below B a w := ⟨h.os, h.tape, h.output, h.size, fun k hk => h.block k (by omega) (by omega) (by omega)⟩
theorem Only.keeps {p g b : Nat} {a w : World} {o : Obj} (h : Only p g a w) (hb : a.heap[b]? = some o) (h1 : b ≠ p) (h2 : b ≠ g) : w.heap[b]? = some o := (h.block b (blk_lt hb) h1 h2).trans hb
theorem take1_allO (W : World) (p g : Nat) (L : List Int) (h : Tbl W p g L) (i who : Int) (hl : 0 ≤ i ∧ i < L.length) (b5 b3 : Nat) (h5 : W.cell? ⟨b5, 0, none⟩ = some (.int .i64 who)) (h3 : W.cell? ⟨b3, 0, none⟩ = some (.pointer (some ⟨p, 0, none⟩))) (hg5 : g ≠ b5) (hg3 : g ≠ b3) (r : Int) (L' : List Int) (hr : Aside0 ((if L.getD i.toNat 0 = -1 then (0 : Int) else 5) = r)) (hL' : Aside0 ((if L.getD i.toNat 0 = -1 then L.set i.toNat who else L) = L'))  :
    Calls Try.prog 22 #[.pointer (some ⟨g, i.toNat, none⟩), .pointer (some ⟨b5, 0, none⟩), .pointer (some ⟨b3, 0, none⟩)] W fun e w' => ∃ v, e = .returned v ∧
      (e = .returned (.int .i64 r) ∧ Tbl w' p g L' ∧ Only p g W w') := by
  have hx := h.cell i.toNat (by omega)
  have hf : W.frozen? ⟨g, i.toNat, none⟩ = false := blk_frozen h.tg _
  obtain ⟨k, hk⟩ := h.tp
  rw [← hr.out, ← hL'.out]
  clear hr hL'
  generalize hy : L.getD i.toNat 0 = y at hx ⊢
  by_cases ho : y = -1
  · subst ho
    rw [if_pos rfl, if_pos rfl]
    refine (take1_ok W p g i.toNat b5 b3 k who h.ne hx hf h5 h3 ((blk_cell hk 1).trans rfl) (blk_frozen hk 1) hg5 hg3).mono ?_
    rintro e w' ⟨rfl, rfl⟩
    exact ⟨_, rfl, rfl, (h.put i.toNat who).took _, ((Only.refl p g W).setg i.toNat _).setp 1 _⟩
  · rw [if_neg ho, if_neg ho]
    refine (take1_set W p g i.toNat b5 b3 y k who ho hx h5 h3).mono ?_
    rintro e w' ⟨rfl, rfl⟩
    exact ⟨_, rfl, rfl, h, Only.refl _ _ _⟩
theorem leave1_allO (W : World) (p g : Nat) (L : List Int) (h : Tbl W p g L) (i who : Int) (hl : 0 ≤ i ∧ i < L.length) (b5 : Nat) (h5 : W.cell? ⟨b5, 0, none⟩ = some (.int .i64 who)) (r : Int) (L' : List Int) (hr : Aside0 ((if L.getD i.toNat 0 = who then (0 : Int) else 6) = r)) (hL' : Aside0 ((if L.getD i.toNat 0 = who then L.set i.toNat (-1) else L) = L'))  :
    Calls Try.prog 24 #[.pointer (some ⟨g, i.toNat, none⟩), .pointer (some ⟨b5, 0, none⟩)] W fun e w' => ∃ v, e = .returned v ∧
      (e = .returned (.int .i64 r) ∧ Tbl w' p g L' ∧ Only p g W w') := by
  have hx := h.cell i.toNat (by omega)
  have hf : W.frozen? ⟨g, i.toNat, none⟩ = false := blk_frozen h.tg _
  rw [← hr.out, ← hL'.out]
  clear hr hL'
  generalize hy : L.getD i.toNat 0 = y at hx ⊢
  by_cases ho : y = who
  · subst ho
    rw [if_pos rfl, if_pos rfl]
    refine (leave1_ok W g i.toNat b5 y hx hf h5).mono ?_
    rintro e w' ⟨rfl, n, rfl⟩
    exact ⟨_, rfl, rfl, (h.put i.toNat (-1)).drewN n, ((Only.refl p g W).setg i.toNat _).drewN n⟩
  · rw [if_neg ho, if_neg ho]
    refine (leave1_no W g i.toNat b5 y who ho hx h5).mono ?_
    rintro e w' ⟨rfl, n, rfl⟩
    exact ⟨_, rfl, rfl, h.drewN n, (Only.refl p g W).drewN n⟩
set_option maxHeartbeats 2000000 in
theorem take_noO (W : World) (p g : Nat) (L : List Int) (h : Tbl W p g L) (lock who : Int) (hno : ¬ (0 ≤ lock ∧ lock < L.length ∧ 0 ≤ who))  : Calls Try.prog 8 #[.pointer (some ⟨p, 0, none⟩), .int .i64 lock, .int .i64 who] W fun e w' => e = .returned (.int .i64 (takeR L lock who).1) ∧ Tbl w' p g (takeR L lock who).2 ∧ Only p g W w' := by
  have HB := Aside0.mk (Below.refl W.heap.size W)
  rw [takeR, if_neg hno]
  go_enter Try.func8, Try.ntmps8
  go_wp2_with (first | ((with_reducible refine gate_dst (N := 3) rfl ?_); refine box_event ?hg (N := 3) ?hd (cs := #[.pointer (some ⟨p, 0, none⟩)]) (t := 24) ?hr ?_; (case hd => rfl); (case hg => rfl); (case hr => first | (go_simp; done) | (go_simp; rfl)); intro g3 hg w1_ hbox hb; have n0_ := Aside0.mk (below_step (by repeat (first | (with_reducible first | exact HB.out | apply below_alloc | apply pw_below_drewN | apply below_drew1) | exact HB.out)) hb); have n1_ := Aside0.mk hbox; have n2_ := Aside0.mk ((by rw [hg]; exact (below_size (by repeat (first | (with_reducible first | exact HB.out | apply below_alloc | apply pw_below_drewN | apply below_drew1) | exact HB.out)))) : W.heap.size ≤ g3); clear HB; have HB := n0_; have BK3 := n1_; have GE3 := n2_; clear n0_ n1_ n2_; clear hb hbox hg; have hc3_0 : w1_.cell? ⟨g3, 0, none⟩ = some (.pointer (some ⟨p, 0, none⟩)) := (blk_cell BK3.out 0).trans rfl; have hf3_0 := blk_frozen BK3.out 0) | ((with_reducible refine gate_dst (N := 5) rfl ?_); refine box_event ?hg (N := 5) ?hd (cs := #[.int .i64 who]) (t := 3) ?hr ?_; (case hd => rfl); (case hg => rfl); (case hr => first | (go_simp; done) | (go_simp; rfl)); intro g5 hg w2_ hbox hb; have n0_ := Aside0.mk (below_step (by repeat (first | (with_reducible first | exact HB.out | apply below_alloc | apply pw_below_drewN | apply below_drew1 | refine below_set ?_ GE3.out) | exact HB.out)) hb); have n1_ := Aside0.mk (blk_below (g := g3) (o := .cells #[.pointer (some ⟨p, 0, none⟩)] 24 (0, 0)) (by (with_reducible repeat (first | refine blk_drewN ?_ _ | refine blk_drew ?_ | refine blk_alloc ?_ _)); exact BK3.out) hb); have n2_ := Aside0.mk hbox; have n3_ := Aside0.mk ((by rw [hg]; exact (below_size (by repeat (first | (with_reducible first | exact HB.out | apply below_alloc | apply pw_below_drewN | apply below_drew1 | refine below_set ?_ GE3.out) | exact HB.out)))) : W.heap.size ≤ g5); have n4_ := Aside0.mk ((by rw [hg]; exact Nat.ne_of_lt (blk_lt (g := g3) (o := .cells #[.pointer (some ⟨p, 0, none⟩)] 24 (0, 0)) (by (with_reducible repeat (first | refine blk_drewN ?_ _ | refine blk_drew ?_ | refine blk_alloc ?_ _)); exact BK3.out))) : g3 ≠ g5); clear HB; clear BK3; have HB := n0_; have BK3 := n1_; have BK5 := n2_; have GE5 := n3_; have NE3_5 := n4_; clear n0_ n1_ n2_ n3_ n4_; clear hb hbox hg; have hc3_0 : w2_.cell? ⟨g3, 0, none⟩ = some (.pointer (some ⟨p, 0, none⟩)) := (blk_cell BK3.out 0).trans rfl; have hf3_0 := blk_frozen BK3.out 0; have hc5_0 : w2_.cell? ⟨g5, 0, none⟩ = some (.int .i64 who) := (blk_cell BK5.out 0).trans rfl; have hf5_0 := blk_frozen BK5.out 0) | (go_at_call 21; have hT := h.below HB.out; have hgs := h.lt; have hc5 : w2_.cell? ⟨g5, 0, none⟩ = some (.int .i64 who) := (blk_cell BK5.out 0).trans rfl; have hsz := HB.out.size; have hc3 : w2_.cell? ⟨g3, 0, none⟩ = some (.pointer (some ⟨p, 0, none⟩)) := (blk_cell BK3.out 0).trans rfl; refine (at_no w2_ p g L hT lock who _ hno).mono ?_; rintro e w' ⟨rfl, hw⟩; obtain rfl := hw.symm))
  go_ret
  have hlt := h.lt
  have hbb : Only p g W w2_ := Only.of HB.out
  exact ⟨rfl, hT, Only.of HB.out⟩
set_option maxHeartbeats 2000000 in
theorem take_inO (W : World) (p g : Nat) (L : List Int) (h : Tbl W p g L) (lock who : Int) (hl : 0 ≤ lock ∧ lock < L.length) (hw : 0 ≤ who) (r : Int) (L' : List Int) (hr : Aside0 ((if L.getD lock.toNat 0 = -1 then (0 : Int) else 5) = r)) (hL' : Aside0 ((if L.getD lock.toNat 0 = -1 then L.set lock.toNat who else L) = L'))  : Calls Try.prog 8 #[.pointer (some ⟨p, 0, none⟩), .int .i64 lock, .int .i64 who] W fun e w' => e = .returned (.int .i64 r) ∧ Tbl w' p g L' ∧ Only p g W w' := by
  have HB := Aside0.mk (Below.refl W.heap.size W)
  have hyes := trivial
  go_enter Try.func8, Try.ntmps8
  go_wp2_with (first | ((with_reducible refine gate_dst (N := 3) rfl ?_); refine box_event ?hg (N := 3) ?hd (cs := #[.pointer (some ⟨p, 0, none⟩)]) (t := 24) ?hr ?_; (case hd => rfl); (case hg => rfl); (case hr => first | (go_simp; done) | (go_simp; rfl)); intro g3 hg w1_ hbox hb; have n0_ := Aside0.mk (below_step (by repeat (first | (with_reducible first | exact HB.out | apply below_alloc | apply pw_below_drewN | apply below_drew1) | exact HB.out)) hb); have n1_ := Aside0.mk hbox; have n2_ := Aside0.mk ((by rw [hg]; exact (below_size (by repeat (first | (with_reducible first | exact HB.out | apply below_alloc | apply pw_below_drewN | apply below_drew1) | exact HB.out)))) : W.heap.size ≤ g3); clear HB; have HB := n0_; have BK3 := n1_; have GE3 := n2_; clear n0_ n1_ n2_; clear hb hbox hg; have hc3_0 : w1_.cell? ⟨g3, 0, none⟩ = some (.pointer (some ⟨p, 0, none⟩)) := (blk_cell BK3.out 0).trans rfl; have hf3_0 := blk_frozen BK3.out 0) | ((with_reducible refine gate_dst (N := 5) rfl ?_); refine box_event ?hg (N := 5) ?hd (cs := #[.int .i64 who]) (t := 3) ?hr ?_; (case hd => rfl); (case hg => rfl); (case hr => first | (go_simp; done) | (go_simp; rfl)); intro g5 hg w2_ hbox hb; have n0_ := Aside0.mk (below_step (by repeat (first | (with_reducible first | exact HB.out | apply below_alloc | apply pw_below_drewN | apply below_drew1 | refine below_set ?_ GE3.out) | exact HB.out)) hb); have n1_ := Aside0.mk (blk_below (g := g3) (o := .cells #[.pointer (some ⟨p, 0, none⟩)] 24 (0, 0)) (by (with_reducible repeat (first | refine blk_drewN ?_ _ | refine blk_drew ?_ | refine blk_alloc ?_ _)); exact BK3.out) hb); have n2_ := Aside0.mk hbox; have n3_ := Aside0.mk ((by rw [hg]; exact (below_size (by repeat (first | (with_reducible first | exact HB.out | apply below_alloc | apply pw_below_drewN | apply below_drew1 | refine below_set ?_ GE3.out) | exact HB.out)))) : W.heap.size ≤ g5); have n4_ := Aside0.mk ((by rw [hg]; exact Nat.ne_of_lt (blk_lt (g := g3) (o := .cells #[.pointer (some ⟨p, 0, none⟩)] 24 (0, 0)) (by (with_reducible repeat (first | refine blk_drewN ?_ _ | refine blk_drew ?_ | refine blk_alloc ?_ _)); exact BK3.out))) : g3 ≠ g5); clear HB; clear BK3; have HB := n0_; have BK3 := n1_; have BK5 := n2_; have GE5 := n3_; have NE3_5 := n4_; clear n0_ n1_ n2_ n3_ n4_; clear hb hbox hg; have hc3_0 : w2_.cell? ⟨g3, 0, none⟩ = some (.pointer (some ⟨p, 0, none⟩)) := (blk_cell BK3.out 0).trans rfl; have hf3_0 := blk_frozen BK3.out 0; have hc5_0 : w2_.cell? ⟨g5, 0, none⟩ = some (.int .i64 who) := (blk_cell BK5.out 0).trans rfl; have hf5_0 := blk_frozen BK5.out 0) | (go_at_call 21; have hT := h.below HB.out; have hgs := h.lt; have hc5 : w2_.cell? ⟨g5, 0, none⟩ = some (.int .i64 who) := (blk_cell BK5.out 0).trans rfl; have hsz := HB.out.size; have hc3 : w2_.cell? ⟨g3, 0, none⟩ = some (.pointer (some ⟨p, 0, none⟩)) := (blk_cell BK3.out 0).trans rfl; refine (at_take w2_ p g L hT lock who hl hw _ _ _ (take1_allO w2_ p g L hT lock who hl g5 g3 hc5 hc3 (by have := GE5.out; omega) (by have := GE3.out; omega) r L' hr hL')).mono ?_; rintro e w' ⟨rfl, hT', hb⟩))
  go_ret
  have hlt := h.lt
  have hbb : Only p g W w2_ := Only.of HB.out
  exact ⟨rfl, hT', hbb.trans hb⟩
theorem take_callsO (W : World) (p g : Nat) (L : List Int) (h : Tbl W p g L) (lock who : Int)  : Calls Try.prog 8 #[.pointer (some ⟨p, 0, none⟩), .int .i64 lock, .int .i64 who] W fun e w' => e = .returned (.int .i64 (takeR L lock who).1) ∧ Tbl w' p g (takeR L lock who).2 ∧ Only p g W w' := by
  by_cases hy : 0 ≤ lock ∧ lock < L.length ∧ 0 ≤ who
  · have := take_inO W p g L h lock who ⟨hy.1, hy.2.1⟩ hy.2.2 _ _ (Aside0.mk rfl) (Aside0.mk rfl)
    unfold takeR
    rw [if_pos hy]
    split
    · rename_i hq
      rw [if_pos hq, if_pos hq] at this
      exact this
    · rename_i hq
      rw [if_neg hq, if_neg hq] at this
      exact this
  · exact take_noO W p g L h lock who hy
set_option maxHeartbeats 2000000 in
theorem leave_noO (W : World) (p g : Nat) (L : List Int) (h : Tbl W p g L) (lock who : Int) (hno : ¬ (0 ≤ lock ∧ lock < L.length ∧ 0 ≤ who))  : Calls Try.prog 9 #[.pointer (some ⟨p, 0, none⟩), .int .i64 lock, .int .i64 who] W fun e w' => e = .returned (.int .i64 (leaveR L lock who).1) ∧ Tbl w' p g (leaveR L lock who).2 ∧ Only p g W w' := by
  have HB := Aside0.mk (Below.refl W.heap.size W)
  rw [leaveR, if_neg hno]
  go_enter Try.func9, Try.ntmps9
  go_wp2_with (first | ((with_reducible refine gate_dst (N := 5) rfl ?_); refine box_event ?hg (N := 5) ?hd (cs := #[.int .i64 who]) (t := 3) ?hr ?_; (case hd => rfl); (case hg => rfl); (case hr => first | (go_simp; done) | (go_simp; rfl)); intro g5 hg w1_ hbox hb; have n0_ := Aside0.mk (below_step (by repeat (first | (with_reducible first | exact HB.out | apply below_alloc | apply pw_below_drewN | apply below_drew1) | exact HB.out)) hb); have n1_ := Aside0.mk hbox; have n2_ := Aside0.mk ((by rw [hg]; exact (below_size (by repeat (first | (with_reducible first | exact HB.out | apply below_alloc | apply pw_below_drewN | apply below_drew1) | exact HB.out)))) : W.heap.size ≤ g5); clear HB; have HB := n0_; have BK5 := n1_; have GE5 := n2_; clear n0_ n1_ n2_; clear hb hbox hg; have hc5_0 : w1_.cell? ⟨g5, 0, none⟩ = some (.int .i64 who) := (blk_cell BK5.out 0).trans rfl; have hf5_0 := blk_frozen BK5.out 0) | (go_at_call 21; have hT := h.below HB.out; have hgs := h.lt; have hc5 : w1_.cell? ⟨g5, 0, none⟩ = some (.int .i64 who) := (blk_cell BK5.out 0).trans rfl; have hsz := HB.out.size; refine (at_no w1_ p g L hT lock who _ hno).mono ?_; rintro e w' ⟨rfl, hw⟩; obtain rfl := hw.symm))
  go_ret
  have hlt := h.lt
  have hbb : Only p g W w1_ := Only.of HB.out
  exact ⟨rfl, hT, Only.of HB.out⟩
set_option maxHeartbeats 2000000 in
theorem leave_inO (W : World) (p g : Nat) (L : List Int) (h : Tbl W p g L) (lock who : Int) (hl : 0 ≤ lock ∧ lock < L.length) (hw : 0 ≤ who) (r : Int) (L' : List Int) (hr : Aside0 ((if L.getD lock.toNat 0 = who then (0 : Int) else 6) = r)) (hL' : Aside0 ((if L.getD lock.toNat 0 = who then L.set lock.toNat (-1) else L) = L'))  : Calls Try.prog 9 #[.pointer (some ⟨p, 0, none⟩), .int .i64 lock, .int .i64 who] W fun e w' => e = .returned (.int .i64 r) ∧ Tbl w' p g L' ∧ Only p g W w' := by
  have HB := Aside0.mk (Below.refl W.heap.size W)
  have hyes := trivial
  go_enter Try.func9, Try.ntmps9
  go_wp2_with (first | ((with_reducible refine gate_dst (N := 5) rfl ?_); refine box_event ?hg (N := 5) ?hd (cs := #[.int .i64 who]) (t := 3) ?hr ?_; (case hd => rfl); (case hg => rfl); (case hr => first | (go_simp; done) | (go_simp; rfl)); intro g5 hg w1_ hbox hb; have n0_ := Aside0.mk (below_step (by repeat (first | (with_reducible first | exact HB.out | apply below_alloc | apply pw_below_drewN | apply below_drew1) | exact HB.out)) hb); have n1_ := Aside0.mk hbox; have n2_ := Aside0.mk ((by rw [hg]; exact (below_size (by repeat (first | (with_reducible first | exact HB.out | apply below_alloc | apply pw_below_drewN | apply below_drew1) | exact HB.out)))) : W.heap.size ≤ g5); clear HB; have HB := n0_; have BK5 := n1_; have GE5 := n2_; clear n0_ n1_ n2_; clear hb hbox hg; have hc5_0 : w1_.cell? ⟨g5, 0, none⟩ = some (.int .i64 who) := (blk_cell BK5.out 0).trans rfl; have hf5_0 := blk_frozen BK5.out 0) | (go_at_call 21; have hT := h.below HB.out; have hgs := h.lt; have hc5 : w1_.cell? ⟨g5, 0, none⟩ = some (.int .i64 who) := (blk_cell BK5.out 0).trans rfl; have hsz := HB.out.size; refine (at_leave w1_ p g L hT lock who hl hw _ _ (leave1_allO w1_ p g L hT lock who hl g5 hc5 r L' hr hL')).mono ?_; rintro e w' ⟨rfl, hT', hb⟩))
  go_ret
  have hlt := h.lt
  have hbb : Only p g W w1_ := Only.of HB.out
  exact ⟨rfl, hT', hbb.trans hb⟩
theorem leave_callsO (W : World) (p g : Nat) (L : List Int) (h : Tbl W p g L) (lock who : Int)  : Calls Try.prog 9 #[.pointer (some ⟨p, 0, none⟩), .int .i64 lock, .int .i64 who] W fun e w' => e = .returned (.int .i64 (leaveR L lock who).1) ∧ Tbl w' p g (leaveR L lock who).2 ∧ Only p g W w' := by
  by_cases hy : 0 ≤ lock ∧ lock < L.length ∧ 0 ≤ who
  · have := leave_inO W p g L h lock who ⟨hy.1, hy.2.1⟩ hy.2.2 _ _ (Aside0.mk rfl) (Aside0.mk rfl)
    unfold leaveR
    rw [if_pos hy]
    split
    · rename_i hq
      rw [if_pos hq, if_pos hq] at this
      exact this
    · rename_i hq
      rw [if_neg hq, if_neg hq] at this
      exact this
  · exact leave_noO W p g L h lock who hy
theorem take_atO (W : World) (p g : Nat) (L : List Int) (r : Int) (L' : List Int) (h : Tbl W p g L) (lock who : Int) (e : takeR L lock who = (r, L')) : Calls Try.prog 8 #[.pointer (some ⟨p, 0, none⟩), .int .i64 lock, .int .i64 who] W fun e w' => e = .returned (.int .i64 r) ∧ Tbl w' p g L' ∧ Only p g W w' := by
  have := take_callsO W p g L h lock who
  rw [e] at this
  exact this
theorem leave_atO (W : World) (p g : Nat) (L : List Int) (r : Int) (L' : List Int) (h : Tbl W p g L) (lock who : Int) (e : leaveR L lock who = (r, L')) : Calls Try.prog 9 #[.pointer (some ⟨p, 0, none⟩), .int .i64 lock, .int .i64 who] W fun e w' => e = .returned (.int .i64 r) ∧ Tbl w' p g L' ∧ Only p g W w' := by
  have := leave_callsO W p g L h lock who
  rw [e] at this
  exact this
end Go.Proofs.Ytpefbnhicfflpaa.Lk
