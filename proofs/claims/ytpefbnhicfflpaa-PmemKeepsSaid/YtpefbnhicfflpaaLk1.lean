/- Locks: the table in memory; what each method does to it. Conditions: the table lies as 'Tbl' says. -/
import Derived.Test.YtpefbnhicfflpaaProg
import Derived.Test.YtpefbnhicfflpaaWWords
import Derived.Test.YtpefbnhicfflpaaWLast
import Derived.Test.YtpefbnhicfflpaaWMore
import Derived.Laws.LoneSync
import Derived.WalkKit
namespace Go.Proofs.Ytpefbnhicfflpaa.Lk
open Go.RowKit Go.Proofs.YtpefbnhicfflpaaW.PrintWords Go.Proofs.YtpefbnhicfflpaaW.PrintLast Go.Proofs.YtpefbnhicfflpaaW.PrintMore
set_option linter.unusedSimpArgs false
set_option linter.unusedVariables false
/-- The table at block p: its locks' owners L in block g, how often locks were taken. -/
structure Tbl (W : World) (p g : Nat) (L : List Int) : Prop where
  ne : p ≠ g
  tp : ∃ k : Int, W.heap[p]? = some (.cells #[.slice (some ⟨g, 0, none⟩) L.length L.length, .int .i64 k] 56 (0, 0))
  tg : W.heap[g]? = some (.cells (L.map (Value.int .i64)).toArray 3 (0, 0))
theorem Tbl.below {W W' : World} {p g : Nat} {L : List Int} (h : Tbl W p g L) (hb : Below W.heap.size W W') : Tbl W' p g L :=
  ⟨h.ne, let ⟨k, hk⟩ := h.tp; ⟨k, blk_below hk hb⟩, blk_below h.tg hb⟩
theorem Tbl.drewN {W : World} {p g : Nat} {L : List Int} (h : Tbl W p g L) (n : Nat) : Tbl (W.drewN n) p g L := ⟨h.ne, h.tp, h.tg⟩
theorem Tbl.cell {W : World} {p g : Nat} {L : List Int} (h : Tbl W p g L) (i : Nat) (hi : i < L.length) : W.cell? ⟨g, i, none⟩ = some (.int .i64 (L.getD i 0)) := by
  rw [blk_cell h.tg i]
  simp [hi]
theorem len_calls (W : World) (p g : Nat) (L : List Int) (h : Tbl W p g L) : Calls Try.prog 25 #[.pointer (some ⟨p, 0, none⟩)] W fun e w' => e = .returned (.int .i64 L.length) ∧ w' = W := by
  obtain ⟨k, hp⟩ := h.tp
  have hu := Try.underlying56
  have h0 : W.cell? ⟨p, 0, none⟩ = some (.slice (some ⟨g, 0, none⟩) L.length L.length) := (blk_cell hp 0).trans rfl
  go_enter Try.func25, Try.ntmps25
  go_wp2
  go_ret
  exact ⟨rfl, rfl⟩
def ownerV (L : List Int) (i : Int) : Int := if 0 ≤ i ∧ i < L.length then L.getD i.toNat 0 else -1
theorem owner_calls (W : World) (p g : Nat) (L : List Int) (h : Tbl W p g L) (i : Int) : Calls Try.prog 10 #[.pointer (some ⟨p, 0, none⟩), .int .i64 i] W fun e w' => e = .returned (.int .i64 (ownerV L i)) ∧ ∃ n, w' = W.drewN n := by
  obtain ⟨k, hp⟩ := h.tp
  have hu := Try.underlying56
  have h0 : W.cell? ⟨p, 0, none⟩ = some (.slice (some ⟨g, 0, none⟩) L.length L.length) := (blk_cell hp 0).trans rfl
  unfold ownerV
  by_cases h1 : i < 0
  · have hd : decide (i < 0) = true := decide_eq_true h1
    rw [if_neg (by omega)]
    go_enter Try.func10, Try.ntmps10
    go_wp2_with (go_at_call 25; refine (len_calls _ p g L h).mono ?_; rintro e w' ⟨rfl, rfl⟩)
    go_ret
    exact ⟨rfl, 0, rfl⟩
  · have hd : decide (i < 0) = false := decide_eq_false h1
    by_cases h2 : i ≥ L.length
    · have hd2 : decide (i ≥ (L.length : Int)) = true := decide_eq_true h2
      rw [if_neg (by omega)]
      go_enter Try.func10, Try.ntmps10
      go_wp2_with (go_at_call 25; refine (len_calls _ p g L h).mono ?_; rintro e w' ⟨rfl, rfl⟩)
      go_ret
      exact ⟨rfl, 0, rfl⟩
    · have hd2 : decide (i ≥ (L.length : Int)) = false := decide_eq_false h2
      have h3 : 0 ≤ i := by omega
      have h4 : i < (L.length : Int) := by omega
      have hx := h.cell i.toNat (by omega)
      rw [if_pos ⟨h3, h4⟩]
      generalize L.getD i.toNat 0 = y at hx ⊢
      go_enter Try.func10, Try.ntmps10
      go_wp2_with (go_at_call 25; refine (len_calls _ p g L h).mono ?_; rintro e w' ⟨rfl, rfl⟩)
      go_ret
      exact ⟨rfl, 0, rfl⟩
theorem take1_set (W : World) (p g i b5 b3 : Nat) (o k who : Int) (ho : ¬ o = -1) (hx : W.cell? ⟨g, i, none⟩ = some (.int .i64 o)) (h5 : W.cell? ⟨b5, 0, none⟩ = some (.int .i64 who)) (h3 : W.cell? ⟨b3, 0, none⟩ = some (.pointer (some ⟨p, 0, none⟩))) :
    Calls Try.prog 22 #[.pointer (some ⟨g, i, none⟩), .pointer (some ⟨b5, 0, none⟩), .pointer (some ⟨b3, 0, none⟩)] W fun e w' => e = .returned (.int .i64 5) ∧ w' = W := by
  have hd : (o == -1) = false := by simp [ho]
  go_enter Try.func22, Try.ntmps22
  go_wp2
  go_ret
  exact ⟨rfl, rfl⟩
theorem wrap_i64_k (n : Int) : IntKind.i64.wrap n = wrap64 n := by rw [IntKind.wrap_i64]; unfold wrap64; omega
theorem take1_ok (W : World) (p g i b5 b3 : Nat) (k who : Int) (hne : p ≠ g) (hx : W.cell? ⟨g, i, none⟩ = some (.int .i64 (-1))) (hf : W.frozen? ⟨g, i, none⟩ = false) (h5 : W.cell? ⟨b5, 0, none⟩ = some (.int .i64 who)) (h3 : W.cell? ⟨b3, 0, none⟩ = some (.pointer (some ⟨p, 0, none⟩)))
    (hk : W.cell? ⟨p, 1, none⟩ = some (.int .i64 k)) (hfk : W.frozen? ⟨p, 1, none⟩ = false) (hg5 : g ≠ b5) (hg3 : g ≠ b3) :
    Calls Try.prog 22 #[.pointer (some ⟨g, i, none⟩), .pointer (some ⟨b5, 0, none⟩), .pointer (some ⟨b3, 0, none⟩)] W fun e w' => e = .returned (.int .i64 0) ∧ w' = (W.setCell ⟨g, i, none⟩ (.int .i64 who)).setCell ⟨p, 1, none⟩ (.int .i64 (wrap64 (k + 1))) := by
  have hu := Try.underlying56
  have hu2 := Try.underlying54
  have hk2 : (W.setCell ⟨g, i, none⟩ (.int .i64 who)).cell? ⟨p, 1, none⟩ = some (.int .i64 k) := (World.cell?_setCell_other _ _ _ _ (by simp [hne.symm])).trans hk
  have hfk2 : (W.setCell ⟨g, i, none⟩ (.int .i64 who)).frozen? ⟨p, 1, none⟩ = false := by rw [World.frozen?_setCell]; exact hfk
  have h32 : (W.setCell ⟨g, i, none⟩ (.int .i64 who)).cell? ⟨b3, 0, none⟩ = some (.pointer (some ⟨p, 0, none⟩)) := (World.cell?_setCell_other _ _ _ _ (by simp [hg3])).trans h3
  have hadd := run_call_add (P := Try.prog) Try.func40 (by kernel_rfl) (by kernel_rfl) (by kernel_rfl) .i64 (by kernel_rfl) (y := 1) (s := wrap64 (k + 1)) hk2 hfk2 (by simp [go_sem]; exact wrap_i64_k _)
  go_enter Try.func22, Try.ntmps22
  go_wp2
  go_ret
  exact ⟨rfl, rfl⟩
theorem leave1_no (W : World) (g i b5 : Nat) (o who : Int) (ho : ¬ o = who) (hx : W.cell? ⟨g, i, none⟩ = some (.int .i64 o)) (h5 : W.cell? ⟨b5, 0, none⟩ = some (.int .i64 who)) :
    Calls Try.prog 24 #[.pointer (some ⟨g, i, none⟩), .pointer (some ⟨b5, 0, none⟩)] W fun e w' => e = .returned (.int .i64 6) ∧ ∃ n, w' = W.drewN n := by
  have hd : (o == who) = false := by simp [ho]
  go_enter Try.func24, Try.ntmps24
  go_wp2
  go_region
  go_wp2
  go_ret
  exact ⟨rfl, 1, rfl⟩
theorem leave1_ok (W : World) (g i b5 : Nat) (who : Int) (hx : W.cell? ⟨g, i, none⟩ = some (.int .i64 who)) (hf : W.frozen? ⟨g, i, none⟩ = false) (h5 : W.cell? ⟨b5, 0, none⟩ = some (.int .i64 who)) :
    Calls Try.prog 24 #[.pointer (some ⟨g, i, none⟩), .pointer (some ⟨b5, 0, none⟩)] W fun e w' => e = .returned (.int .i64 0) ∧ ∃ n, w' = (W.setCell ⟨g, i, none⟩ (.int .i64 (-1))).drewN n := by
  go_enter Try.func24, Try.ntmps24
  go_wp2
  go_region
  go_wp2
  go_ret
  exact ⟨rfl, 1, rfl⟩

/-! ### at, Take, Leave -/
theorem at_no (W : World) (p g : Nat) (L : List Int) (h : Tbl W p g L) (lock who : Int) (f : Value) (hno : ¬ (0 ≤ lock ∧ lock < L.length ∧ 0 ≤ who)) :
    Calls Try.prog 21 #[.pointer (some ⟨p, 0, none⟩), .int .i64 lock, .int .i64 who, f] W fun e w' => e = .returned (.int .i64 1) ∧ w' = W := by
  by_cases h1 : lock < 0
  · have hd : decide (lock < 0) = true := decide_eq_true h1
    go_enter Try.func21, Try.ntmps21
    go_wp2_with (go_at_call 25; refine (len_calls _ p g L h).mono ?_; rintro e w' ⟨rfl, rfl⟩)
    go_ret
    exact ⟨rfl, rfl⟩
  · have hd : decide (lock < 0) = false := decide_eq_false h1
    by_cases h2 : lock ≥ L.length
    · have hd2 : decide (lock ≥ (L.length : Int)) = true := decide_eq_true h2
      go_enter Try.func21, Try.ntmps21
      go_wp2_with (go_at_call 25; refine (len_calls _ p g L h).mono ?_; rintro e w' ⟨rfl, rfl⟩)
      go_ret
      exact ⟨rfl, rfl⟩
    · have hd2 : decide (lock ≥ (L.length : Int)) = false := decide_eq_false h2
      have hd3 : decide (who < 0) = true := decide_eq_true (by omega)
      go_enter Try.func21, Try.ntmps21
      go_wp2_with (go_at_call 25; refine (len_calls _ p g L h).mono ?_; rintro e w' ⟨rfl, rfl⟩)
      go_ret
      exact ⟨rfl, rfl⟩
theorem at_take (W : World) (p g : Nat) (L : List Int) (h : Tbl W p g L) (lock who : Int) (hl : 0 ≤ lock ∧ lock < L.length) (hw : 0 ≤ who) (c1 c2 : Value) (R : Ending → World → Prop)
    (hf : Calls Try.prog 22 #[.pointer (some ⟨g, lock.toNat, none⟩), c1, c2] W fun e w' => ∃ v, e = .returned v ∧ R e w') :
    Calls Try.prog 21 #[.pointer (some ⟨p, 0, none⟩), .int .i64 lock, .int .i64 who, .func (.func 22) #[] #[c1, c2]] W R := by
  obtain ⟨k, hp⟩ := h.tp
  have hu := Try.underlying56
  have h0 : W.cell? ⟨p, 0, none⟩ = some (.slice (some ⟨g, 0, none⟩) L.length L.length) := (blk_cell hp 0).trans rfl
  have hd : decide (lock < 0) = false := decide_eq_false (by omega)
  have hd2 : decide (lock ≥ (L.length : Int)) = false := decide_eq_false (by omega)
  have hd3 : decide (who < 0) = false := decide_eq_false (by omega)
  have h3 : 0 ≤ lock := hl.1
  have h4 : lock < (L.length : Int) := hl.2
  go_enter Try.func21, Try.ntmps21
  go_wp2_with (first
    | (go_at_call 25; refine (len_calls _ p g L h).mono ?_; rintro e w' ⟨rfl, rfl⟩)
    | (go_at_call 22; refine hf.mono ?_; rintro e w' ⟨v, rfl, hR⟩))
  exact hR
theorem at_leave (W : World) (p g : Nat) (L : List Int) (h : Tbl W p g L) (lock who : Int) (hl : 0 ≤ lock ∧ lock < L.length) (hw : 0 ≤ who) (c1 : Value) (R : Ending → World → Prop)
    (hf : Calls Try.prog 24 #[.pointer (some ⟨g, lock.toNat, none⟩), c1] W fun e w' => ∃ v, e = .returned v ∧ R e w') :
    Calls Try.prog 21 #[.pointer (some ⟨p, 0, none⟩), .int .i64 lock, .int .i64 who, .func (.func 24) #[] #[c1]] W R := by
  obtain ⟨k, hp⟩ := h.tp
  have hu := Try.underlying56
  have h0 : W.cell? ⟨p, 0, none⟩ = some (.slice (some ⟨g, 0, none⟩) L.length L.length) := (blk_cell hp 0).trans rfl
  have hd : decide (lock < 0) = false := decide_eq_false (by omega)
  have hd2 : decide (lock ≥ (L.length : Int)) = false := decide_eq_false (by omega)
  have hd3 : decide (who < 0) = false := decide_eq_false (by omega)
  have h3 : 0 ≤ lock := hl.1
  have h4 : lock < (L.length : Int) := hl.2
  go_enter Try.func21, Try.ntmps21
  go_wp2_with (first
    | (go_at_call 25; refine (len_calls _ p g L h).mono ?_; rintro e w' ⟨rfl, rfl⟩)
    | (go_at_call 24; refine hf.mono ?_; rintro e w' ⟨v, rfl, hR⟩))
  exact hR
def takeR (L : List Int) (i who : Int) : Int × List Int := if 0 ≤ i ∧ i < L.length ∧ 0 ≤ who then (if L.getD i.toNat 0 = -1 then (0, L.set i.toNat who) else (5, L)) else (1, L)
def leaveR (L : List Int) (i who : Int) : Int × List Int := if 0 ≤ i ∧ i < L.length ∧ 0 ≤ who then (if L.getD i.toNat 0 = who then (0, L.set i.toNat (-1)) else (6, L)) else (1, L)
theorem Tbl.put {W : World} {p g : Nat} {L : List Int} (h : Tbl W p g L) (i : Nat) (o : Int) : Tbl (W.setCell ⟨g, i, none⟩ (.int .i64 o)) p g (L.set i o) := by
  refine ⟨h.ne, ?_, ?_⟩
  · obtain ⟨k, hk⟩ := h.tp
    refine ⟨k, ?_⟩
    rw [List.length_set]
    exact blk_far hk h.ne _
  · refine blk_put h.tg i _ ?_
    simp [List.map_set]
theorem Tbl.took {W : World} {p g : Nat} {L : List Int} (h : Tbl W p g L) (k : Int) : Tbl (W.setCell ⟨p, 1, none⟩ (.int .i64 k)) p g L := by
  refine ⟨h.ne, ?_, blk_far h.tg h.ne.symm _⟩
  obtain ⟨k0, hk⟩ := h.tp
  exact ⟨k, blk_put hk 1 _ rfl⟩
theorem take1_all (W : World) (p g : Nat) (L : List Int) (h : Tbl W p g L) (i who : Int) (hl : 0 ≤ i ∧ i < L.length) (b5 b3 : Nat) (h5 : W.cell? ⟨b5, 0, none⟩ = some (.int .i64 who)) (h3 : W.cell? ⟨b3, 0, none⟩ = some (.pointer (some ⟨p, 0, none⟩))) (hg5 : g ≠ b5) (hg3 : g ≠ b3) (r : Int) (L' : List Int) (hr : Aside0 ((if L.getD i.toNat 0 = -1 then (0 : Int) else 5) = r)) (hL' : Aside0 ((if L.getD i.toNat 0 = -1 then L.set i.toNat who else L) = L')) (B : Nat) (hp : B ≤ p) (hg : B ≤ g) (hB : B ≤ W.heap.size) :
    Calls Try.prog 22 #[.pointer (some ⟨g, i.toNat, none⟩), .pointer (some ⟨b5, 0, none⟩), .pointer (some ⟨b3, 0, none⟩)] W fun e w' => ∃ v, e = .returned v ∧
      (e = .returned (.int .i64 r) ∧ Tbl w' p g L' ∧ Below B W w') := by
  have hx := h.cell i.toNat (by omega)
  have hf : W.frozen? ⟨g, i.toNat, none⟩ = false := blk_frozen h.tg _
  obtain ⟨k, hk⟩ := h.tp
  rw [← hr.out, ← hL'.out]
  clear hr hL'
  generalize hy : L.getD i.toNat 0 = y at hx ⊢
  by_cases ho : y = -1
  · subst ho
    rw [if_pos rfl, if_pos rfl]
    refine (take1_ok W p g i.toNat b5 b3 k who h.ne hx hf h5 h3 ((blk_cell hk 1).trans rfl) (blk_frozen hk 1) hg5 hg3).mono ?_
    rintro e w' ⟨rfl, rfl⟩
    exact ⟨_, rfl, rfl, (h.put i.toNat who).took _, ((Below.refl B W).setCell (p := ⟨g, i.toNat, none⟩) hg _).setCell (p := ⟨p, 1, none⟩) hp _⟩
  · rw [if_neg ho, if_neg ho]
    refine (take1_set W p g i.toNat b5 b3 y k who ho hx h5 h3).mono ?_
    rintro e w' ⟨rfl, rfl⟩
    exact ⟨_, rfl, rfl, h, Below.refl _ _⟩
theorem leave1_all (W : World) (p g : Nat) (L : List Int) (h : Tbl W p g L) (i who : Int) (hl : 0 ≤ i ∧ i < L.length) (b5 : Nat) (h5 : W.cell? ⟨b5, 0, none⟩ = some (.int .i64 who)) (r : Int) (L' : List Int) (hr : Aside0 ((if L.getD i.toNat 0 = who then (0 : Int) else 6) = r)) (hL' : Aside0 ((if L.getD i.toNat 0 = who then L.set i.toNat (-1) else L) = L')) (B : Nat) (hp : B ≤ p) (hg : B ≤ g) (hB : B ≤ W.heap.size) :
    Calls Try.prog 24 #[.pointer (some ⟨g, i.toNat, none⟩), .pointer (some ⟨b5, 0, none⟩)] W fun e w' => ∃ v, e = .returned v ∧
      (e = .returned (.int .i64 r) ∧ Tbl w' p g L' ∧ Below B W w') := by
  have hx := h.cell i.toNat (by omega)
  have hf : W.frozen? ⟨g, i.toNat, none⟩ = false := blk_frozen h.tg _
  rw [← hr.out, ← hL'.out]
  clear hr hL'
  generalize hy : L.getD i.toNat 0 = y at hx ⊢
  by_cases ho : y = who
  · subst ho
    rw [if_pos rfl, if_pos rfl]
    refine (leave1_ok W g i.toNat b5 y hx hf h5).mono ?_
    rintro e w' ⟨rfl, n, rfl⟩
    exact ⟨_, rfl, rfl, (h.put i.toNat (-1)).drewN n, pw_below_drewN ((Below.refl B W).setCell (p := ⟨g, i.toNat, none⟩) hg _) n⟩
  · rw [if_neg ho, if_neg ho]
    refine (leave1_no W g i.toNat b5 y who ho hx h5).mono ?_
    rintro e w' ⟨rfl, n, rfl⟩
    exact ⟨_, rfl, rfl, h.drewN n, pw_below_drewN (Below.refl B W) n⟩
theorem Tbl.lt {W : World} {p g : Nat} {L : List Int} (h : Tbl W p g L) : p < W.heap.size ∧ g < W.heap.size := ⟨let ⟨_, hk⟩ := h.tp; blk_lt hk, blk_lt h.tg⟩
set_option maxHeartbeats 2000000 in
theorem take_no (W : World) (p g : Nat) (L : List Int) (h : Tbl W p g L) (lock who : Int) (hno : ¬ (0 ≤ lock ∧ lock < L.length ∧ 0 ≤ who)) (B : Nat) (hp : B ≤ p) (hg : B ≤ g) : Calls Try.prog 8 #[.pointer (some ⟨p, 0, none⟩), .int .i64 lock, .int .i64 who] W fun e w' => e = .returned (.int .i64 (takeR L lock who).1) ∧ Tbl w' p g (takeR L lock who).2 ∧ Below B W w' := by
  have HB := Aside0.mk (Below.refl W.heap.size W)
  rw [takeR, if_neg hno]
  go_enter Try.func8, Try.ntmps8
  go_wp2_with (first | ((with_reducible refine gate_dst (N := 3) rfl ?_); refine box_event ?hg (N := 3) ?hd (cs := #[.pointer (some ⟨p, 0, none⟩)]) (t := 24) ?hr ?_; (case hd => rfl); (case hg => rfl); (case hr => first | (go_simp; done) | (go_simp; rfl)); intro g3 hg w1_ hbox hb; have n0_ := Aside0.mk (below_step (by repeat (first | (with_reducible first | exact HB.out | apply below_alloc | apply pw_below_drewN | apply below_drew1) | exact HB.out)) hb); have n1_ := Aside0.mk hbox; have n2_ := Aside0.mk ((by rw [hg]; exact (below_size (by repeat (first | (with_reducible first | exact HB.out | apply below_alloc | apply pw_below_drewN | apply below_drew1) | exact HB.out)))) : W.heap.size ≤ g3); clear HB; have HB := n0_; have BK3 := n1_; have GE3 := n2_; clear n0_ n1_ n2_; clear hb hbox hg; have hc3_0 : w1_.cell? ⟨g3, 0, none⟩ = some (.pointer (some ⟨p, 0, none⟩)) := (blk_cell BK3.out 0).trans rfl; have hf3_0 := blk_frozen BK3.out 0) | ((with_reducible refine gate_dst (N := 5) rfl ?_); refine box_event ?hg (N := 5) ?hd (cs := #[.int .i64 who]) (t := 3) ?hr ?_; (case hd => rfl); (case hg => rfl); (case hr => first | (go_simp; done) | (go_simp; rfl)); intro g5 hg w2_ hbox hb; have n0_ := Aside0.mk (below_step (by repeat (first | (with_reducible first | exact HB.out | apply below_alloc | apply pw_below_drewN | apply below_drew1 | refine below_set ?_ GE3.out) | exact HB.out)) hb); have n1_ := Aside0.mk (blk_below (g := g3) (o := .cells #[.pointer (some ⟨p, 0, none⟩)] 24 (0, 0)) (by (with_reducible repeat (first | refine blk_drewN ?_ _ | refine blk_drew ?_ | refine blk_alloc ?_ _)); exact BK3.out) hb); have n2_ := Aside0.mk hbox; have n3_ := Aside0.mk ((by rw [hg]; exact (below_size (by repeat (first | (with_reducible first | exact HB.out | apply below_alloc | apply pw_below_drewN | apply below_drew1 | refine below_set ?_ GE3.out) | exact HB.out)))) : W.heap.size ≤ g5); have n4_ := Aside0.mk ((by rw [hg]; exact Nat.ne_of_lt (blk_lt (g := g3) (o := .cells #[.pointer (some ⟨p, 0, none⟩)] 24 (0, 0)) (by (with_reducible repeat (first | refine blk_drewN ?_ _ | refine blk_drew ?_ | refine blk_alloc ?_ _)); exact BK3.out))) : g3 ≠ g5); clear HB; clear BK3; have HB := n0_; have BK3 := n1_; have BK5 := n2_; have GE5 := n3_; have NE3_5 := n4_; clear n0_ n1_ n2_ n3_ n4_; clear hb hbox hg; have hc3_0 : w2_.cell? ⟨g3, 0, none⟩ = some (.pointer (some ⟨p, 0, none⟩)) := (blk_cell BK3.out 0).trans rfl; have hf3_0 := blk_frozen BK3.out 0; have hc5_0 : w2_.cell? ⟨g5, 0, none⟩ = some (.int .i64 who) := (blk_cell BK5.out 0).trans rfl; have hf5_0 := blk_frozen BK5.out 0) | (go_at_call 21; have hT := h.below HB.out; have hgs := h.lt; have hc5 : w2_.cell? ⟨g5, 0, none⟩ = some (.int .i64 who) := (blk_cell BK5.out 0).trans rfl; have hsz := HB.out.size; have hc3 : w2_.cell? ⟨g3, 0, none⟩ = some (.pointer (some ⟨p, 0, none⟩)) := (blk_cell BK3.out 0).trans rfl; refine (at_no w2_ p g L hT lock who _ hno).mono ?_; rintro e w' ⟨rfl, hw⟩; obtain rfl := hw.symm))
  go_ret
  have hlt := h.lt
  have hbb : Below B W w2_ := HB.out.mono (by omega)
  exact ⟨rfl, hT, hbb⟩
set_option maxHeartbeats 2000000 in
theorem take_in (W : World) (p g : Nat) (L : List Int) (h : Tbl W p g L) (lock who : Int) (hl : 0 ≤ lock ∧ lock < L.length) (hw : 0 ≤ who) (r : Int) (L' : List Int) (hr : Aside0 ((if L.getD lock.toNat 0 = -1 then (0 : Int) else 5) = r)) (hL' : Aside0 ((if L.getD lock.toNat 0 = -1 then L.set lock.toNat who else L) = L')) (B : Nat) (hp : B ≤ p) (hg : B ≤ g) : Calls Try.prog 8 #[.pointer (some ⟨p, 0, none⟩), .int .i64 lock, .int .i64 who] W fun e w' => e = .returned (.int .i64 r) ∧ Tbl w' p g L' ∧ Below B W w' := by
  have HB := Aside0.mk (Below.refl W.heap.size W)
  have hyes := trivial
  go_enter Try.func8, Try.ntmps8
  go_wp2_with (first | ((with_reducible refine gate_dst (N := 3) rfl ?_); refine box_event ?hg (N := 3) ?hd (cs := #[.pointer (some ⟨p, 0, none⟩)]) (t := 24) ?hr ?_; (case hd => rfl); (case hg => rfl); (case hr => first | (go_simp; done) | (go_simp; rfl)); intro g3 hg w1_ hbox hb; have n0_ := Aside0.mk (below_step (by repeat (first | (with_reducible first | exact HB.out | apply below_alloc | apply pw_below_drewN | apply below_drew1) | exact HB.out)) hb); have n1_ := Aside0.mk hbox; have n2_ := Aside0.mk ((by rw [hg]; exact (below_size (by repeat (first | (with_reducible first | exact HB.out | apply below_alloc | apply pw_below_drewN | apply below_drew1) | exact HB.out)))) : W.heap.size ≤ g3); clear HB; have HB := n0_; have BK3 := n1_; have GE3 := n2_; clear n0_ n1_ n2_; clear hb hbox hg; have hc3_0 : w1_.cell? ⟨g3, 0, none⟩ = some (.pointer (some ⟨p, 0, none⟩)) := (blk_cell BK3.out 0).trans rfl; have hf3_0 := blk_frozen BK3.out 0) | ((with_reducible refine gate_dst (N := 5) rfl ?_); refine box_event ?hg (N := 5) ?hd (cs := #[.int .i64 who]) (t := 3) ?hr ?_; (case hd => rfl); (case hg => rfl); (case hr => first | (go_simp; done) | (go_simp; rfl)); intro g5 hg w2_ hbox hb; have n0_ := Aside0.mk (below_step (by repeat (first | (with_reducible first | exact HB.out | apply below_alloc | apply pw_below_drewN | apply below_drew1 | refine below_set ?_ GE3.out) | exact HB.out)) hb); have n1_ := Aside0.mk (blk_below (g := g3) (o := .cells #[.pointer (some ⟨p, 0, none⟩)] 24 (0, 0)) (by (with_reducible repeat (first | refine blk_drewN ?_ _ | refine blk_drew ?_ | refine blk_alloc ?_ _)); exact BK3.out) hb); have n2_ := Aside0.mk hbox; have n3_ := Aside0.mk ((by rw [hg]; exact (below_size (by repeat (first | (with_reducible first | exact HB.out | apply below_alloc | apply pw_below_drewN | apply below_drew1 | refine below_set ?_ GE3.out) | exact HB.out)))) : W.heap.size ≤ g5); have n4_ := Aside0.mk ((by rw [hg]; exact Nat.ne_of_lt (blk_lt (g := g3) (o := .cells #[.pointer (some ⟨p, 0, none⟩)] 24 (0, 0)) (by (with_reducible repeat (first | refine blk_drewN ?_ _ | refine blk_drew ?_ | refine blk_alloc ?_ _)); exact BK3.out))) : g3 ≠ g5); clear HB; clear BK3; have HB := n0_; have BK3 := n1_; have BK5 := n2_; have GE5 := n3_; have NE3_5 := n4_; clear n0_ n1_ n2_ n3_ n4_; clear hb hbox hg; have hc3_0 : w2_.cell? ⟨g3, 0, none⟩ = some (.pointer (some ⟨p, 0, none⟩)) := (blk_cell BK3.out 0).trans rfl; have hf3_0 := blk_frozen BK3.out 0; have hc5_0 : w2_.cell? ⟨g5, 0, none⟩ = some (.int .i64 who) := (blk_cell BK5.out 0).trans rfl; have hf5_0 := blk_frozen BK5.out 0) | (go_at_call 21; have hT := h.below HB.out; have hgs := h.lt; have hc5 : w2_.cell? ⟨g5, 0, none⟩ = some (.int .i64 who) := (blk_cell BK5.out 0).trans rfl; have hsz := HB.out.size; have hc3 : w2_.cell? ⟨g3, 0, none⟩ = some (.pointer (some ⟨p, 0, none⟩)) := (blk_cell BK3.out 0).trans rfl; refine (at_take w2_ p g L hT lock who hl hw _ _ _ (take1_all w2_ p g L hT lock who hl g5 g3 hc5 hc3 (by have := GE5.out; omega) (by have := GE3.out; omega) r L' hr hL' B hp hg (by omega))).mono ?_; rintro e w' ⟨rfl, hT', hb⟩))
  go_ret
  have hlt := h.lt
  have hbb : Below B W w2_ := HB.out.mono (by omega)
  exact ⟨rfl, hT', hbb.trans hb⟩
theorem take_calls (W : World) (p g : Nat) (L : List Int) (h : Tbl W p g L) (lock who : Int) (B : Nat) (hp : B ≤ p) (hg : B ≤ g) : Calls Try.prog 8 #[.pointer (some ⟨p, 0, none⟩), .int .i64 lock, .int .i64 who] W fun e w' => e = .returned (.int .i64 (takeR L lock who).1) ∧ Tbl w' p g (takeR L lock who).2 ∧ Below B W w' := by
  by_cases hy : 0 ≤ lock ∧ lock < L.length ∧ 0 ≤ who
  · have := take_in W p g L h lock who ⟨hy.1, hy.2.1⟩ hy.2.2 _ _ (Aside0.mk rfl) (Aside0.mk rfl) B hp hg
    unfold takeR
    rw [if_pos hy]
    split
    · rename_i hq
      rw [if_pos hq, if_pos hq] at this
      exact this
    · rename_i hq
      rw [if_neg hq, if_neg hq] at this
      exact this
  · exact take_no W p g L h lock who hy B hp hg
set_option maxHeartbeats 2000000 in
theorem leave_no (W : World) (p g : Nat) (L : List Int) (h : Tbl W p g L) (lock who : Int) (hno : ¬ (0 ≤ lock ∧ lock < L.length ∧ 0 ≤ who)) (B : Nat) (hp : B ≤ p) (hg : B ≤ g) : Calls Try.prog 9 #[.pointer (some ⟨p, 0, none⟩), .int .i64 lock, .int .i64 who] W fun e w' => e = .returned (.int .i64 (leaveR L lock who).1) ∧ Tbl w' p g (leaveR L lock who).2 ∧ Below B W w' := by
  have HB := Aside0.mk (Below.refl W.heap.size W)
  rw [leaveR, if_neg hno]
  go_enter Try.func9, Try.ntmps9
  go_wp2_with (first | ((with_reducible refine gate_dst (N := 5) rfl ?_); refine box_event ?hg (N := 5) ?hd (cs := #[.int .i64 who]) (t := 3) ?hr ?_; (case hd => rfl); (case hg => rfl); (case hr => first | (go_simp; done) | (go_simp; rfl)); intro g5 hg w1_ hbox hb; have n0_ := Aside0.mk (below_step (by repeat (first | (with_reducible first | exact HB.out | apply below_alloc | apply pw_below_drewN | apply below_drew1) | exact HB.out)) hb); have n1_ := Aside0.mk hbox; have n2_ := Aside0.mk ((by rw [hg]; exact (below_size (by repeat (first | (with_reducible first | exact HB.out | apply below_alloc | apply pw_below_drewN | apply below_drew1) | exact HB.out)))) : W.heap.size ≤ g5); clear HB; have HB := n0_; have BK5 := n1_; have GE5 := n2_; clear n0_ n1_ n2_; clear hb hbox hg; have hc5_0 : w1_.cell? ⟨g5, 0, none⟩ = some (.int .i64 who) := (blk_cell BK5.out 0).trans rfl; have hf5_0 := blk_frozen BK5.out 0) | (go_at_call 21; have hT := h.below HB.out; have hgs := h.lt; have hc5 : w1_.cell? ⟨g5, 0, none⟩ = some (.int .i64 who) := (blk_cell BK5.out 0).trans rfl; have hsz := HB.out.size; refine (at_no w1_ p g L hT lock who _ hno).mono ?_; rintro e w' ⟨rfl, hw⟩; obtain rfl := hw.symm))
  go_ret
  have hlt := h.lt
  have hbb : Below B W w1_ := HB.out.mono (by omega)
  exact ⟨rfl, hT, hbb⟩
set_option maxHeartbeats 2000000 in
theorem leave_in (W : World) (p g : Nat) (L : List Int) (h : Tbl W p g L) (lock who : Int) (hl : 0 ≤ lock ∧ lock < L.length) (hw : 0 ≤ who) (r : Int) (L' : List Int) (hr : Aside0 ((if L.getD lock.toNat 0 = who then (0 : Int) else 6) = r)) (hL' : Aside0 ((if L.getD lock.toNat 0 = who then L.set lock.toNat (-1) else L) = L')) (B : Nat) (hp : B ≤ p) (hg : B ≤ g) : Calls Try.prog 9 #[.pointer (some ⟨p, 0, none⟩), .int .i64 lock, .int .i64 who] W fun e w' => e = .returned (.int .i64 r) ∧ Tbl w' p g L' ∧ Below B W w' := by
  have HB := Aside0.mk (Below.refl W.heap.size W)
  have hyes := trivial
  go_enter Try.func9, Try.ntmps9
  go_wp2_with (first | ((with_reducible refine gate_dst (N := 5) rfl ?_); refine box_event ?hg (N := 5) ?hd (cs := #[.int .i64 who]) (t := 3) ?hr ?_; (case hd => rfl); (case hg => rfl); (case hr => first | (go_simp; done) | (go_simp; rfl)); intro g5 hg w1_ hbox hb; have n0_ := Aside0.mk (below_step (by repeat (first | (with_reducible first | exact HB.out | apply below_alloc | apply pw_below_drewN | apply below_drew1) | exact HB.out)) hb); have n1_ := Aside0.mk hbox; have n2_ := Aside0.mk ((by rw [hg]; exact (below_size (by repeat (first | (with_reducible first | exact HB.out | apply below_alloc | apply pw_below_drewN | apply below_drew1) | exact HB.out)))) : W.heap.size ≤ g5); clear HB; have HB := n0_; have BK5 := n1_; have GE5 := n2_; clear n0_ n1_ n2_; clear hb hbox hg; have hc5_0 : w1_.cell? ⟨g5, 0, none⟩ = some (.int .i64 who) := (blk_cell BK5.out 0).trans rfl; have hf5_0 := blk_frozen BK5.out 0) | (go_at_call 21; have hT := h.below HB.out; have hgs := h.lt; have hc5 : w1_.cell? ⟨g5, 0, none⟩ = some (.int .i64 who) := (blk_cell BK5.out 0).trans rfl; have hsz := HB.out.size; refine (at_leave w1_ p g L hT lock who hl hw _ _ (leave1_all w1_ p g L hT lock who hl g5 hc5 r L' hr hL' B hp hg (by omega))).mono ?_; rintro e w' ⟨rfl, hT', hb⟩))
  go_ret
  have hlt := h.lt
  have hbb : Below B W w1_ := HB.out.mono (by omega)
  exact ⟨rfl, hT', hbb.trans hb⟩
theorem leave_calls (W : World) (p g : Nat) (L : List Int) (h : Tbl W p g L) (lock who : Int) (B : Nat) (hp : B ≤ p) (hg : B ≤ g) : Calls Try.prog 9 #[.pointer (some ⟨p, 0, none⟩), .int .i64 lock, .int .i64 who] W fun e w' => e = .returned (.int .i64 (leaveR L lock who).1) ∧ Tbl w' p g (leaveR L lock who).2 ∧ Below B W w' := by
  by_cases hy : 0 ≤ lock ∧ lock < L.length ∧ 0 ≤ who
  · have := leave_in W p g L h lock who ⟨hy.1, hy.2.1⟩ hy.2.2 _ _ (Aside0.mk rfl) (Aside0.mk rfl) B hp hg
    unfold leaveR
    rw [if_pos hy]
    split
    · rename_i hq
      rw [if_pos hq, if_pos hq] at this
      exact this
    · rename_i hq
      rw [if_neg hq, if_neg hq] at this
      exact this
  · exact leave_no W p g L h lock who hy B hp hg
end Go.Proofs.Ytpefbnhicfflpaa.Lk
