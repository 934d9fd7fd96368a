/- Parts of one proof, set together: Fl1, Fl2, Fl3, Fr. What each says stands at its head; no condition beyond theirs. -/
import Derived.Test.YtmolflmljneelaaEs2
import Derived.Laws.LoneSync
import Derived.Test.YtmolflmljneelaaProg
import Derived.WalkKit
/- Parts of a walk, after my own text Lk1 for another seat. What each says stands at its head. -/
namespace Go.Proofs.Ytmolflmljneelaa.Lk
open Go.RowKit Go.Proofs.YtmolflmljneelaaW.PrintWords Go.Proofs.YtmolflmljneelaaW.PrintLast Go.Proofs.YtmolflmljneelaaW.PrintMore
set_option linter.unusedSimpArgs false
set_option linter.unusedVariables false
/-- The table at block p: its locks' owners L in block g, how often locks were taken. -/
structure Tbl (W : World) (p g : Nat) (L : List Int) : Prop where
  ne : p ≠ g
  tp : ∃ k : Int, W.heap[p]? = some (.cells #[.slice (some ⟨g, 0, none⟩) L.length L.length, .int .i64 k] 65 (0, 0))
  tg : W.heap[g]? = some (.cells (L.map (Value.int .i64)).toArray 3 (0, 0))
theorem Tbl.below {W W' : World} {p g : Nat} {L : List Int} (h : Tbl W p g L) (hb : Below W.heap.size W W') : Tbl W' p g L :=
  ⟨h.ne, let ⟨k, hk⟩ := h.tp; ⟨k, blk_below hk hb⟩, blk_below h.tg hb⟩
theorem Tbl.drewN {W : World} {p g : Nat} {L : List Int} (h : Tbl W p g L) (n : Nat) : Tbl (W.drewN n) p g L := ⟨h.ne, h.tp, h.tg⟩
theorem Tbl.cell {W : World} {p g : Nat} {L : List Int} (h : Tbl W p g L) (i : Nat) (hi : i < L.length) : W.cell? ⟨g, i, none⟩ = some (.int .i64 (L.getD i 0)) := by
  rw [blk_cell h.tg i]
  simp [hi]
theorem len_calls (W : World) (p g : Nat) (L : List Int) (h : Tbl W p g L) : Calls Try.prog 40 #[.pointer (some ⟨p, 0, none⟩)] W fun e w' => e = .returned (.int .i64 L.length) ∧ w' = W := by
  obtain ⟨k, hp⟩ := h.tp
  have hu := Try.underlying65
  have h0 : W.cell? ⟨p, 0, none⟩ = some (.slice (some ⟨g, 0, none⟩) L.length L.length) := (blk_cell hp 0).trans rfl
  go_enter Try.func40, Try.ntmps40
  go_wp2
  go_ret
  exact ⟨rfl, rfl⟩
def ownerV (L : List Int) (i : Int) : Int := if 0 ≤ i ∧ i < L.length then L.getD i.toNat 0 else -1
theorem owner_calls (W : World) (p g : Nat) (L : List Int) (h : Tbl W p g L) (i : Int) : Calls Try.prog 38 #[.pointer (some ⟨p, 0, none⟩), .int .i64 i] W fun e w' => e = .returned (.int .i64 (ownerV L i)) ∧ ∃ n, w' = W.drewN n := by
  obtain ⟨k, hp⟩ := h.tp
  have hu := Try.underlying65
  have h0 : W.cell? ⟨p, 0, none⟩ = some (.slice (some ⟨g, 0, none⟩) L.length L.length) := (blk_cell hp 0).trans rfl
  unfold ownerV
  by_cases h1 : i < 0
  · have hd : decide (i < 0) = true := decide_eq_true h1
    rw [if_neg (by omega)]
    go_enter Try.func38, Try.ntmps38
    go_wp2_with (go_at_call 40; refine (len_calls _ p g L h).mono ?_; rintro e w' ⟨rfl, rfl⟩)
    go_ret
    exact ⟨rfl, 0, rfl⟩
  · have hd : decide (i < 0) = false := decide_eq_false h1
    by_cases h2 : i ≥ L.length
    · have hd2 : decide (i ≥ (L.length : Int)) = true := decide_eq_true h2
      rw [if_neg (by omega)]
      go_enter Try.func38, Try.ntmps38
      go_wp2_with (go_at_call 40; refine (len_calls _ p g L h).mono ?_; rintro e w' ⟨rfl, rfl⟩)
      go_ret
      exact ⟨rfl, 0, rfl⟩
    · have hd2 : decide (i ≥ (L.length : Int)) = false := decide_eq_false h2
      have h3 : 0 ≤ i := by omega
      have h4 : i < (L.length : Int) := by omega
      have hx := h.cell i.toNat (by omega)
      rw [if_pos ⟨h3, h4⟩]
      generalize L.getD i.toNat 0 = y at hx ⊢
      go_enter Try.func38, Try.ntmps38
      go_wp2_with (go_at_call 40; refine (len_calls _ p g L h).mono ?_; rintro e w' ⟨rfl, rfl⟩)
      go_ret
      exact ⟨rfl, 0, rfl⟩
theorem take1_set (W : World) (p g i b5 b3 : Nat) (o k who : Int) (ho : ¬ o = -1) (hx : W.cell? ⟨g, i, none⟩ = some (.int .i64 o)) (h5 : W.cell? ⟨b5, 0, none⟩ = some (.int .i64 who)) (h3 : W.cell? ⟨b3, 0, none⟩ = some (.pointer (some ⟨p, 0, none⟩))) :
    Calls Try.prog 66 #[.pointer (some ⟨g, i, none⟩), .pointer (some ⟨b5, 0, none⟩), .pointer (some ⟨b3, 0, none⟩)] W fun e w' => e = .returned (.int .i64 5) ∧ w' = W := by
  have hd : (o == -1) = false := by simp [ho]
  go_enter Try.func66, Try.ntmps66
  go_wp2
  go_ret
  exact ⟨rfl, rfl⟩
theorem wrap_i64_k (n : Int) : IntKind.i64.wrap n = wrap64 n := by rw [IntKind.wrap_i64]; unfold wrap64; omega
theorem take1_ok (W : World) (p g i b5 b3 : Nat) (k who : Int) (hne : p ≠ g) (hx : W.cell? ⟨g, i, none⟩ = some (.int .i64 (-1))) (hf : W.frozen? ⟨g, i, none⟩ = false) (h5 : W.cell? ⟨b5, 0, none⟩ = some (.int .i64 who)) (h3 : W.cell? ⟨b3, 0, none⟩ = some (.pointer (some ⟨p, 0, none⟩)))
    (hk : W.cell? ⟨p, 1, none⟩ = some (.int .i64 k)) (hfk : W.frozen? ⟨p, 1, none⟩ = false) (hg5 : g ≠ b5) (hg3 : g ≠ b3) :
    Calls Try.prog 66 #[.pointer (some ⟨g, i, none⟩), .pointer (some ⟨b5, 0, none⟩), .pointer (some ⟨b3, 0, none⟩)] W fun e w' => e = .returned (.int .i64 0) ∧ w' = (W.setCell ⟨g, i, none⟩ (.int .i64 who)).setCell ⟨p, 1, none⟩ (.int .i64 (wrap64 (k + 1))) := by
  have hu := Try.underlying65
  have hu2 := Try.underlying63
  have hk2 : (W.setCell ⟨g, i, none⟩ (.int .i64 who)).cell? ⟨p, 1, none⟩ = some (.int .i64 k) := (World.cell?_setCell_other _ _ _ _ (by simp [hne.symm])).trans hk
  have hfk2 : (W.setCell ⟨g, i, none⟩ (.int .i64 who)).frozen? ⟨p, 1, none⟩ = false := by rw [World.frozen?_setCell]; exact hfk
  have h32 : (W.setCell ⟨g, i, none⟩ (.int .i64 who)).cell? ⟨b3, 0, none⟩ = some (.pointer (some ⟨p, 0, none⟩)) := (World.cell?_setCell_other _ _ _ _ (by simp [hg3])).trans h3
  have hadd := run_call_add (P := Try.prog) Try.func70 (by kernel_rfl) (by kernel_rfl) (by kernel_rfl) .i64 (by kernel_rfl) (y := 1) (s := wrap64 (k + 1)) hk2 hfk2 (by simp [go_sem]; exact wrap_i64_k _)
  go_enter Try.func66, Try.ntmps66
  go_wp2
  go_ret
  exact ⟨rfl, rfl⟩
theorem leave1_no (W : World) (g i b5 : Nat) (o who : Int) (ho : ¬ o = who) (hx : W.cell? ⟨g, i, none⟩ = some (.int .i64 o)) (h5 : W.cell? ⟨b5, 0, none⟩ = some (.int .i64 who)) :
    Calls Try.prog 68 #[.pointer (some ⟨g, i, none⟩), .pointer (some ⟨b5, 0, none⟩)] W fun e w' => e = .returned (.int .i64 6) ∧ ∃ n, w' = W.drewN n := by
  have hd : (o == who) = false := by simp [ho]
  go_enter Try.func68, Try.ntmps68
  go_wp2
  go_region
  go_wp2
  go_ret
  exact ⟨rfl, 1, rfl⟩
theorem leave1_ok (W : World) (g i b5 : Nat) (who : Int) (hx : W.cell? ⟨g, i, none⟩ = some (.int .i64 who)) (hf : W.frozen? ⟨g, i, none⟩ = false) (h5 : W.cell? ⟨b5, 0, none⟩ = some (.int .i64 who)) :
    Calls Try.prog 68 #[.pointer (some ⟨g, i, none⟩), .pointer (some ⟨b5, 0, none⟩)] W fun e w' => e = .returned (.int .i64 0) ∧ ∃ n, w' = (W.setCell ⟨g, i, none⟩ (.int .i64 (-1))).drewN n := by
  go_enter Try.func68, Try.ntmps68
  go_wp2
  go_region
  go_wp2
  go_ret
  exact ⟨rfl, 1, rfl⟩

/-! ### at, Take, Leave -/
theorem at_no (W : World) (p g : Nat) (L : List Int) (h : Tbl W p g L) (lock who : Int) (f : Value) (hno : ¬ (0 ≤ lock ∧ lock < L.length ∧ 0 ≤ who)) :
    Calls Try.prog 65 #[.pointer (some ⟨p, 0, none⟩), .int .i64 lock, .int .i64 who, f] W fun e w' => e = .returned (.int .i64 1) ∧ w' = W := by
  by_cases h1 : lock < 0
  · have hd : decide (lock < 0) = true := decide_eq_true h1
    go_enter Try.func65, Try.ntmps65
    go_wp2_with (go_at_call 40; refine (len_calls _ p g L h).mono ?_; rintro e w' ⟨rfl, rfl⟩)
    go_ret
    exact ⟨rfl, rfl⟩
  · have hd : decide (lock < 0) = false := decide_eq_false h1
    by_cases h2 : lock ≥ L.length
    · have hd2 : decide (lock ≥ (L.length : Int)) = true := decide_eq_true h2
      go_enter Try.func65, Try.ntmps65
      go_wp2_with (go_at_call 40; refine (len_calls _ p g L h).mono ?_; rintro e w' ⟨rfl, rfl⟩)
      go_ret
      exact ⟨rfl, rfl⟩
    · have hd2 : decide (lock ≥ (L.length : Int)) = false := decide_eq_false h2
      have hd3 : decide (who < 0) = true := decide_eq_true (by omega)
      go_enter Try.func65, Try.ntmps65
      go_wp2_with (go_at_call 40; refine (len_calls _ p g L h).mono ?_; rintro e w' ⟨rfl, rfl⟩)
      go_ret
      exact ⟨rfl, rfl⟩
theorem at_take (W : World) (p g : Nat) (L : List Int) (h : Tbl W p g L) (lock who : Int) (hl : 0 ≤ lock ∧ lock < L.length) (hw : 0 ≤ who) (c1 c2 : Value) (R : Ending → World → Prop)
    (hf : Calls Try.prog 66 #[.pointer (some ⟨g, lock.toNat, none⟩), c1, c2] W fun e w' => ∃ v, e = .returned v ∧ R e w') :
    Calls Try.prog 65 #[.pointer (some ⟨p, 0, none⟩), .int .i64 lock, .int .i64 who, .func (.func 66) #[] #[c1, c2]] W R := by
  obtain ⟨k, hp⟩ := h.tp
  have hu := Try.underlying65
  have h0 : W.cell? ⟨p, 0, none⟩ = some (.slice (some ⟨g, 0, none⟩) L.length L.length) := (blk_cell hp 0).trans rfl
  have hd : decide (lock < 0) = false := decide_eq_false (by omega)
  have hd2 : decide (lock ≥ (L.length : Int)) = false := decide_eq_false (by omega)
  have hd3 : decide (who < 0) = false := decide_eq_false (by omega)
  have h3 : 0 ≤ lock := hl.1
  have h4 : lock < (L.length : Int) := hl.2
  go_enter Try.func65, Try.ntmps65
  go_wp2_with (first
    | (go_at_call 40; refine (len_calls _ p g L h).mono ?_; rintro e w' ⟨rfl, rfl⟩)
    | (go_at_call 66; refine hf.mono ?_; rintro e w' ⟨v, rfl, hR⟩))
  exact hR
theorem at_leave (W : World) (p g : Nat) (L : List Int) (h : Tbl W p g L) (lock who : Int) (hl : 0 ≤ lock ∧ lock < L.length) (hw : 0 ≤ who) (c1 : Value) (R : Ending → World → Prop)
    (hf : Calls Try.prog 68 #[.pointer (some ⟨g, lock.toNat, none⟩), c1] W fun e w' => ∃ v, e = .returned v ∧ R e w') :
    Calls Try.prog 65 #[.pointer (some ⟨p, 0, none⟩), .int .i64 lock, .int .i64 who, .func (.func 68) #[] #[c1]] W R := by
  obtain ⟨k, hp⟩ := h.tp
  have hu := Try.underlying65
  have h0 : W.cell? ⟨p, 0, none⟩ = some (.slice (some ⟨g, 0, none⟩) L.length L.length) := (blk_cell hp 0).trans rfl
  have hd : decide (lock < 0) = false := decide_eq_false (by omega)
  have hd2 : decide (lock ≥ (L.length : Int)) = false := decide_eq_false (by omega)
  have hd3 : decide (who < 0) = false := decide_eq_false (by omega)
  have h3 : 0 ≤ lock := hl.1
  have h4 : lock < (L.length : Int) := hl.2
  go_enter Try.func65, Try.ntmps65
  go_wp2_with (first
    | (go_at_call 40; refine (len_calls _ p g L h).mono ?_; rintro e w' ⟨rfl, rfl⟩)
    | (go_at_call 68; refine hf.mono ?_; rintro e w' ⟨v, rfl, hR⟩))
  exact hR
def takeR (L : List Int) (i who : Int) : Int × List Int := if 0 ≤ i ∧ i < L.length ∧ 0 ≤ who then (if L.getD i.toNat 0 = -1 then (0, L.set i.toNat who) else (5, L)) else (1, L)
def leaveR (L : List Int) (i who : Int) : Int × List Int := if 0 ≤ i ∧ i < L.length ∧ 0 ≤ who then (if L.getD i.toNat 0 = who then (0, L.set i.toNat (-1)) else (6, L)) else (1, L)
theorem Tbl.put {W : World} {p g : Nat} {L : List Int} (h : Tbl W p g L) (i : Nat) (o : Int) : Tbl (W.setCell ⟨g, i, none⟩ (.int .i64 o)) p g (L.set i o) := by
  refine ⟨h.ne, ?_, ?_⟩
  · obtain ⟨k, hk⟩ := h.tp
    refine ⟨k, ?_⟩
    rw [List.length_set]
    exact blk_far hk h.ne _
  · refine blk_put h.tg i _ ?_
    simp [List.map_set]
theorem Tbl.took {W : World} {p g : Nat} {L : List Int} (h : Tbl W p g L) (k : Int) : Tbl (W.setCell ⟨p, 1, none⟩ (.int .i64 k)) p g L := by
  refine ⟨h.ne, ?_, blk_far h.tg h.ne.symm _⟩
  obtain ⟨k0, hk⟩ := h.tp
  exact ⟨k, blk_put hk 1 _ rfl⟩
theorem Tbl.lt {W : World} {p g : Nat} {L : List Int} (h : Tbl W p g L) : p < W.heap.size ∧ g < W.heap.size := ⟨let ⟨_, hk⟩ := h.tp; blk_lt hk, blk_lt h.tg⟩
end Go.Proofs.Ytmolflmljneelaa.Lk
/- Parts of a walk, after my own text Lk2 for another seat. What each says stands at its head. -/
namespace Go.Proofs.Ytmolflmljneelaa.Lk
open Go.RowKit Go.Proofs.YtmolflmljneelaaW.PrintWords Go.Proofs.YtmolflmljneelaaW.PrintLast Go.Proofs.YtmolflmljneelaaW.PrintMore
set_option linter.unusedSimpArgs false
set_option linter.unusedVariables false
def dropped (L : List Int) (i : Nat) : List Int := List.replicate i (-1) ++ L.drop i
theorem dropped_len (L : List Int) (i : Nat) (h : i ≤ L.length) : (dropped L i).length = L.length := by simp [dropped]; omega
theorem dropped_set (L : List Int) (i : Nat) (h : i < L.length) : (dropped L i).set i (-1) = dropped L (i + 1) := by
  unfold dropped
  rw [List.set_append_right _ _ (by simp)]
  simp only [List.length_replicate, Nat.sub_self]
  rw [List.drop_eq_getElem_cons h, List.set_cons_zero, List.replicate_succ', List.append_assoc]
  rfl
set_option maxHeartbeats 2000000 in
theorem drop_calls (W : World) (p g : Nat) (L : List Int) (h : Tbl W p g L) (B : Nat) (hp : B ≤ p) (hg : B ≤ g) (hL : L.length ≤ 16) : Calls Try.prog 20 #[.pointer (some ⟨p, 0, none⟩)] W fun e w' => (∃ v, e = .returned v) ∧ Tbl w' p g (List.replicate L.length (-1)) ∧ Below B W w' := by
  have hu := Try.underlying65
  go_enter Try.func20, Try.ntmps20
  go_wp2_with (go_at_call 40; refine (len_calls _ p g L h).mono ?_; rintro e w' ⟨rfl, rfl⟩)
  go_loopw [5] (fun v wr => ∃ i : Nat, i ≤ L.length ∧ v = .int .i64 i ∧ Aside0 (Below B w' wr) ∧ Tbl wr p g (dropped L i)) (fun v _ => L.length - (intOf v).toNat)
  case atStart => exact ⟨0, by omega, rfl, Aside0.mk (Below.refl _ _), by simpa [dropped] using h⟩
  case round =>
    obtain ⟨i, hi, rfl, HB, hT⟩ := hrel
    obtain ⟨k, hk⟩ := hT.tp
    rw [dropped_len L i hi] at hk
    have h0 : wr.cell? ⟨p, 0, none⟩ = some (.slice (some ⟨g, 0, none⟩) L.length L.length) := (blk_cell hk 0).trans rfl
    by_cases hlt : i < L.length
    · have hx := hT.cell i (by rw [dropped_len L i hi]; exact hlt)
      have hf : wr.frozen? ⟨g, i, none⟩ = false := blk_frozen hT.tg _
      generalize (dropped L i).getD i 0 = y at hx
      have hi0 : (0 : Int) ≤ (i : Int) := by omega
      have hi1 : (i : Int) < (L.length : Int) := by omega
      go_wp2
      refine ⟨⟨i + 1, by omega, by push_cast; rfl, ?_, ?_⟩, ?_⟩
      · exact Aside0.mk (HB.out.setCell (p := ⟨g, i, none⟩) hg _)
      · have := hT.put i (-1)
        rwa [dropped_set L i hlt] at this
      · show L.length - ((i : Int) + 1).toNat < L.length - (i : Int).toNat
        omega
    · obtain rfl : i = L.length := by omega
      go_wp2
      go_end0
      exact ⟨⟨_, rfl⟩, by simpa [dropped] using hT, HB.out⟩
theorem made_rep (m : Nat) : madeCells #[.int .i64 0] m = ((List.replicate m (0 : Int)).map (Value.int .i64)).toArray := by
  apply Array.ext
  · simp [madeCells]
  · intro i h1 h2
    simp [madeCells, Nat.mod_one]
set_option maxHeartbeats 2000000 in
theorem new_calls (n : Int) (hn : 1 ≤ n ∧ n ≤ 16) (W : World) : Calls Try.prog 6 #[.int .i64 n] W fun e w' => ∃ p g, e = .returned (.pointer (some ⟨p, 0, none⟩)) ∧ W.heap.size ≤ p ∧ W.heap.size ≤ g ∧ Tbl w' p g (List.replicate n.toNat (-1)) ∧ Below W.heap.size W w' := by
  have hm := print_make_int (P := Try.prog) 58 3 (.int .i64 0) 8 Try.underlying58 (by kernel_rfl) rfl (by decide) n (by omega) (by omega)
  have hd : decide (n < 1) = false := decide_eq_false (by omega)
  have hd2 : decide (16 < n) = false := decide_eq_false (by omega)
  have hT : Tbl ((W.alloc (.cells (madeCells #[.int .i64 0] n.toNat) 3)).alloc (.cells #[.slice (some ⟨W.heap.size, 0, none⟩) n.toNat n.toNat, .int .i64 0] 65)) (W.heap.size + 1) W.heap.size (List.replicate n.toNat 0) := by
    refine ⟨by omega, ⟨0, ?_⟩, ?_⟩
    · have := blk_new (W.alloc (.cells (madeCells #[.int .i64 0] n.toNat) 3)) (.cells #[.slice (some ⟨W.heap.size, 0, none⟩) n.toNat n.toNat, .int .i64 0] 65)
      rw [World.size_alloc] at this
      rw [List.length_replicate]
      exact this
    · rw [← made_rep]
      exact blk_alloc (blk_new W _) _
  have hB : Below W.heap.size W ((W.alloc (.cells (madeCells #[.int .i64 0] n.toNat) 3)).alloc (.cells #[.slice (some ⟨W.heap.size, 0, none⟩) n.toNat n.toNat, .int .i64 0] 65)) := ((Below.refl _ W).alloc (Nat.le_refl _) _).alloc (by simp) _
  go_enter Try.func6, Try.ntmps6
  go_upto_region 4 with fail
  generalize hW : (W.alloc (.cells (madeCells #[.int .i64 0] n.toNat) 3)).alloc (.cells #[.slice (some ⟨W.heap.size, 0, none⟩) n.toNat n.toNat, .int .i64 0] 65) = W1 at hT hB ⊢
  clear hW
  have hD := drop_calls W1 (W.heap.size + 1) W.heap.size _ hT W.heap.size (by omega) (by omega) (by simp; omega)
  rw [List.length_replicate] at hD
  go_wp2_with (go_at_call 20; refine hD.mono ?_; rintro e w' ⟨⟨v, rfl⟩, hT2, hb⟩)
  go_ret
  exact ⟨_, _, rfl, by omega, by omega, hT2, hB.trans hb⟩
end Go.Proofs.Ytmolflmljneelaa.Lk
/- Parts of a walk, after my own text Lk3 for another seat. What each says stands at its head. -/
namespace Go.Proofs.Ytmolflmljneelaa.Lk
open Go.RowKit Go.Proofs.YtmolflmljneelaaW.PrintWords Go.Proofs.YtmolflmljneelaaW.PrintLast Go.Proofs.YtmolflmljneelaaW.PrintMore
set_option linter.unusedSimpArgs false
set_option linter.unusedVariables false
/-- Of what lay, the table's two blocks alone have turned. -/
structure Only (p g : Nat) (w w' : World) : Prop where
  os : w'.os = w.os
  tape : w'.tape = w.tape
  output : w'.output = w.output
  size : w.heap.size ≤ w'.heap.size
  block : ∀ k, k < w.heap.size → k ≠ p → k ≠ g → w'.heap[k]? = w.heap[k]?
theorem Only.refl (p g : Nat) (w : World) : Only p g w w := ⟨rfl, rfl, rfl, Nat.le_refl _, fun _ _ _ _ => rfl⟩
theorem Only.trans {p g : Nat} {a b c : World} (h : Only p g a b) (k : Only p g b c) : Only p g a c :=
  ⟨k.os.trans h.os, k.tape.trans h.tape, k.output.trans h.output, Nat.le_trans h.size k.size, fun i hi h1 h2 => (k.block i (Nat.lt_of_lt_of_le hi h.size) h1 h2).trans (h.block i hi h1 h2)⟩
theorem Only.of {p g : Nat} {a b : World} (h : Below a.heap.size a b) : Only p g a b := ⟨h.os, h.tape, h.output, h.size, fun i hi _ _ => h.block i hi⟩
theorem Only.setg {p g : Nat} {a w : World} (h : Only p g a w) (i : Nat) (u : Value) : Only p g a (w.setCell ⟨g, i, none⟩ u) :=
  h.trans ⟨rfl, rfl, rfl, by simp [World.setCell], fun k _ _ h2 => Below.heap_setCell _ _ _ _ h2⟩
theorem Only.setp {p g : Nat} {a w : World} (h : Only p g a w) (i : Nat) (u : Value) : Only p g a (w.setCell ⟨p, i, none⟩ u) :=
  h.trans ⟨rfl, rfl, rfl, by simp [World.setCell], fun k _ h1 _ => Below.heap_setCell _ _ _ _ h1⟩
theorem Only.drewN {p g : Nat} {a w : World} (h : Only p g a w) (n : Nat) : Only p g a (w.drewN n) := h.trans (Only.of (pw_below_drewN (Below.refl _ w) n))
theorem Only.below {p g B : Nat} {a w : World} (h : Only p g a w) (hp : B ≤ p) (hg : B ≤ g) (hB : B ≤ a.heap.size) : Below B a w := ⟨h.os, h.tape, h.output, h.size, fun k hk => h.block k (by omega) (by omega) (by omega)⟩
theorem Only.keeps {p g b : Nat} {a w : World} {o : Obj} (h : Only p g a w) (hb : a.heap[b]? = some o) (h1 : b ≠ p) (h2 : b ≠ g) : w.heap[b]? = some o := (h.block b (blk_lt hb) h1 h2).trans hb
theorem take1_allO (W : World) (p g : Nat) (L : List Int) (h : Tbl W p g L) (i who : Int) (hl : 0 ≤ i ∧ i < L.length) (b5 b3 : Nat) (h5 : W.cell? ⟨b5, 0, none⟩ = some (.int .i64 who)) (h3 : W.cell? ⟨b3, 0, none⟩ = some (.pointer (some ⟨p, 0, none⟩))) (hg5 : g ≠ b5) (hg3 : g ≠ b3) (r : Int) (L' : List Int) (hr : Aside0 ((if L.getD i.toNat 0 = -1 then (0 : Int) else 5) = r)) (hL' : Aside0 ((if L.getD i.toNat 0 = -1 then L.set i.toNat who else L) = L'))  :
    Calls Try.prog 66 #[.pointer (some ⟨g, i.toNat, none⟩), .pointer (some ⟨b5, 0, none⟩), .pointer (some ⟨b3, 0, none⟩)] W fun e w' => ∃ v, e = .returned v ∧
      (e = .returned (.int .i64 r) ∧ Tbl w' p g L' ∧ Only p g W w') := by
  have hx := h.cell i.toNat (by omega)
  have hf : W.frozen? ⟨g, i.toNat, none⟩ = false := blk_frozen h.tg _
  obtain ⟨k, hk⟩ := h.tp
  rw [← hr.out, ← hL'.out]
  clear hr hL'
  generalize hy : L.getD i.toNat 0 = y at hx ⊢
  by_cases ho : y = -1
  · subst ho
    rw [if_pos rfl, if_pos rfl]
    refine (take1_ok W p g i.toNat b5 b3 k who h.ne hx hf h5 h3 ((blk_cell hk 1).trans rfl) (blk_frozen hk 1) hg5 hg3).mono ?_
    rintro e w' ⟨rfl, rfl⟩
    exact ⟨_, rfl, rfl, (h.put i.toNat who).took _, ((Only.refl p g W).setg i.toNat _).setp 1 _⟩
  · rw [if_neg ho, if_neg ho]
    refine (take1_set W p g i.toNat b5 b3 y k who ho hx h5 h3).mono ?_
    rintro e w' ⟨rfl, rfl⟩
    exact ⟨_, rfl, rfl, h, Only.refl _ _ _⟩
theorem leave1_allO (W : World) (p g : Nat) (L : List Int) (h : Tbl W p g L) (i who : Int) (hl : 0 ≤ i ∧ i < L.length) (b5 : Nat) (h5 : W.cell? ⟨b5, 0, none⟩ = some (.int .i64 who)) (r : Int) (L' : List Int) (hr : Aside0 ((if L.getD i.toNat 0 = who then (0 : Int) else 6) = r)) (hL' : Aside0 ((if L.getD i.toNat 0 = who then L.set i.toNat (-1) else L) = L'))  :
    Calls Try.prog 68 #[.pointer (some ⟨g, i.toNat, none⟩), .pointer (some ⟨b5, 0, none⟩)] W fun e w' => ∃ v, e = .returned v ∧
      (e = .returned (.int .i64 r) ∧ Tbl w' p g L' ∧ Only p g W w') := by
  have hx := h.cell i.toNat (by omega)
  have hf : W.frozen? ⟨g, i.toNat, none⟩ = false := blk_frozen h.tg _
  rw [← hr.out, ← hL'.out]
  clear hr hL'
  generalize hy : L.getD i.toNat 0 = y at hx ⊢
  by_cases ho : y = who
  · subst ho
    rw [if_pos rfl, if_pos rfl]
    refine (leave1_ok W g i.toNat b5 y hx hf h5).mono ?_
    rintro e w' ⟨rfl, n, rfl⟩
    exact ⟨_, rfl, rfl, (h.put i.toNat (-1)).drewN n, ((Only.refl p g W).setg i.toNat _).drewN n⟩
  · rw [if_neg ho, if_neg ho]
    refine (leave1_no W g i.toNat b5 y who ho hx h5).mono ?_
    rintro e w' ⟨rfl, n, rfl⟩
    exact ⟨_, rfl, rfl, h.drewN n, (Only.refl p g W).drewN n⟩
set_option maxHeartbeats 2000000 in
theorem take_noO (W : World) (p g : Nat) (L : List Int) (h : Tbl W p g L) (lock who : Int) (hno : ¬ (0 ≤ lock ∧ lock < L.length ∧ 0 ≤ who))  : Calls Try.prog 52 #[.pointer (some ⟨p, 0, none⟩), .int .i64 lock, .int .i64 who] W fun e w' => e = .returned (.int .i64 (takeR L lock who).1) ∧ Tbl w' p g (takeR L lock who).2 ∧ Only p g W w' := by
  have HB := Aside0.mk (Below.refl W.heap.size W)
  rw [takeR, if_neg hno]
  go_enter Try.func52, Try.ntmps52
  go_wp2_with (first | ((with_reducible refine gate_dst (N := 3) rfl ?_); refine box_event ?hg (N := 3) ?hd (cs := #[.pointer (some ⟨p, 0, none⟩)]) (t := 27) ?hr ?_; (case hd => rfl); (case hg => rfl); (case hr => first | (go_simp; done) | (go_simp; rfl)); intro g3 hg w1_ hbox hb; have n0_ := Aside0.mk (below_step (by repeat (first | (with_reducible first | exact HB.out | apply below_alloc | apply pw_below_drewN | apply below_drew1) | exact HB.out)) hb); have n1_ := Aside0.mk hbox; have n2_ := Aside0.mk ((by rw [hg]; exact (below_size (by repeat (first | (with_reducible first | exact HB.out | apply below_alloc | apply pw_below_drewN | apply below_drew1) | exact HB.out)))) : W.heap.size ≤ g3); clear HB; have HB := n0_; have BK3 := n1_; have GE3 := n2_; clear n0_ n1_ n2_; clear hb hbox hg; have hc3_0 : w1_.cell? ⟨g3, 0, none⟩ = some (.pointer (some ⟨p, 0, none⟩)) := (blk_cell BK3.out 0).trans rfl; have hf3_0 := blk_frozen BK3.out 0) | ((with_reducible refine gate_dst (N := 5) rfl ?_); refine box_event ?hg (N := 5) ?hd (cs := #[.int .i64 who]) (t := 3) ?hr ?_; (case hd => rfl); (case hg => rfl); (case hr => first | (go_simp; done) | (go_simp; rfl)); intro g5 hg w2_ hbox hb; have n0_ := Aside0.mk (below_step (by repeat (first | (with_reducible first | exact HB.out | apply below_alloc | apply pw_below_drewN | apply below_drew1 | refine below_set ?_ GE3.out) | exact HB.out)) hb); have n1_ := Aside0.mk (blk_below (g := g3) (o := .cells #[.pointer (some ⟨p, 0, none⟩)] 27 (0, 0)) (by (with_reducible repeat (first | refine blk_drewN ?_ _ | refine blk_drew ?_ | refine blk_alloc ?_ _)); exact BK3.out) hb); have n2_ := Aside0.mk hbox; have n3_ := Aside0.mk ((by rw [hg]; exact (below_size (by repeat (first | (with_reducible first | exact HB.out | apply below_alloc | apply pw_below_drewN | apply below_drew1 | refine below_set ?_ GE3.out) | exact HB.out)))) : W.heap.size ≤ g5); have n4_ := Aside0.mk ((by rw [hg]; exact Nat.ne_of_lt (blk_lt (g := g3) (o := .cells #[.pointer (some ⟨p, 0, none⟩)] 27 (0, 0)) (by (with_reducible repeat (first | refine blk_drewN ?_ _ | refine blk_drew ?_ | refine blk_alloc ?_ _)); exact BK3.out))) : g3 ≠ g5); clear HB; clear BK3; have HB := n0_; have BK3 := n1_; have BK5 := n2_; have GE5 := n3_; have NE3_5 := n4_; clear n0_ n1_ n2_ n3_ n4_; clear hb hbox hg; have hc3_0 : w2_.cell? ⟨g3, 0, none⟩ = some (.pointer (some ⟨p, 0, none⟩)) := (blk_cell BK3.out 0).trans rfl; have hf3_0 := blk_frozen BK3.out 0; have hc5_0 : w2_.cell? ⟨g5, 0, none⟩ = some (.int .i64 who) := (blk_cell BK5.out 0).trans rfl; have hf5_0 := blk_frozen BK5.out 0) | (go_at_call 65; have hT := h.below HB.out; have hgs := h.lt; have hc5 : w2_.cell? ⟨g5, 0, none⟩ = some (.int .i64 who) := (blk_cell BK5.out 0).trans rfl; have hsz := HB.out.size; have hc3 : w2_.cell? ⟨g3, 0, none⟩ = some (.pointer (some ⟨p, 0, none⟩)) := (blk_cell BK3.out 0).trans rfl; refine (at_no w2_ p g L hT lock who _ hno).mono ?_; rintro e w' ⟨rfl, hw⟩; obtain rfl := hw.symm))
  go_ret
  have hlt := h.lt
  have hbb : Only p g W w2_ := Only.of HB.out
  exact ⟨rfl, hT, Only.of HB.out⟩
set_option maxHeartbeats 2000000 in
theorem take_inO (W : World) (p g : Nat) (L : List Int) (h : Tbl W p g L) (lock who : Int) (hl : 0 ≤ lock ∧ lock < L.length) (hw : 0 ≤ who) (r : Int) (L' : List Int) (hr : Aside0 ((if L.getD lock.toNat 0 = -1 then (0 : Int) else 5) = r)) (hL' : Aside0 ((if L.getD lock.toNat 0 = -1 then L.set lock.toNat who else L) = L'))  : Calls Try.prog 52 #[.pointer (some ⟨p, 0, none⟩), .int .i64 lock, .int .i64 who] W fun e w' => e = .returned (.int .i64 r) ∧ Tbl w' p g L' ∧ Only p g W w' := by
  have HB := Aside0.mk (Below.refl W.heap.size W)
  have hyes := trivial
  go_enter Try.func52, Try.ntmps52
  go_wp2_with (first | ((with_reducible refine gate_dst (N := 3) rfl ?_); refine box_event ?hg (N := 3) ?hd (cs := #[.pointer (some ⟨p, 0, none⟩)]) (t := 27) ?hr ?_; (case hd => rfl); (case hg => rfl); (case hr => first | (go_simp; done) | (go_simp; rfl)); intro g3 hg w1_ hbox hb; have n0_ := Aside0.mk (below_step (by repeat (first | (with_reducible first | exact HB.out | apply below_alloc | apply pw_below_drewN | apply below_drew1) | exact HB.out)) hb); have n1_ := Aside0.mk hbox; have n2_ := Aside0.mk ((by rw [hg]; exact (below_size (by repeat (first | (with_reducible first | exact HB.out | apply below_alloc | apply pw_below_drewN | apply below_drew1) | exact HB.out)))) : W.heap.size ≤ g3); clear HB; have HB := n0_; have BK3 := n1_; have GE3 := n2_; clear n0_ n1_ n2_; clear hb hbox hg; have hc3_0 : w1_.cell? ⟨g3, 0, none⟩ = some (.pointer (some ⟨p, 0, none⟩)) := (blk_cell BK3.out 0).trans rfl; have hf3_0 := blk_frozen BK3.out 0) | ((with_reducible refine gate_dst (N := 5) rfl ?_); refine box_event ?hg (N := 5) ?hd (cs := #[.int .i64 who]) (t := 3) ?hr ?_; (case hd => rfl); (case hg => rfl); (case hr => first | (go_simp; done) | (go_simp; rfl)); intro g5 hg w2_ hbox hb; have n0_ := Aside0.mk (below_step (by repeat (first | (with_reducible first | exact HB.out | apply below_alloc | apply pw_below_drewN | apply below_drew1 | refine below_set ?_ GE3.out) | exact HB.out)) hb); have n1_ := Aside0.mk (blk_below (g := g3) (o := .cells #[.pointer (some ⟨p, 0, none⟩)] 27 (0, 0)) (by (with_reducible repeat (first | refine blk_drewN ?_ _ | refine blk_drew ?_ | refine blk_alloc ?_ _)); exact BK3.out) hb); have n2_ := Aside0.mk hbox; have n3_ := Aside0.mk ((by rw [hg]; exact (below_size (by repeat (first | (with_reducible first | exact HB.out | apply below_alloc | apply pw_below_drewN | apply below_drew1 | refine below_set ?_ GE3.out) | exact HB.out)))) : W.heap.size ≤ g5); have n4_ := Aside0.mk ((by rw [hg]; exact Nat.ne_of_lt (blk_lt (g := g3) (o := .cells #[.pointer (some ⟨p, 0, none⟩)] 27 (0, 0)) (by (with_reducible repeat (first | refine blk_drewN ?_ _ | refine blk_drew ?_ | refine blk_alloc ?_ _)); exact BK3.out))) : g3 ≠ g5); clear HB; clear BK3; have HB := n0_; have BK3 := n1_; have BK5 := n2_; have GE5 := n3_; have NE3_5 := n4_; clear n0_ n1_ n2_ n3_ n4_; clear hb hbox hg; have hc3_0 : w2_.cell? ⟨g3, 0, none⟩ = some (.pointer (some ⟨p, 0, none⟩)) := (blk_cell BK3.out 0).trans rfl; have hf3_0 := blk_frozen BK3.out 0; have hc5_0 : w2_.cell? ⟨g5, 0, none⟩ = some (.int .i64 who) := (blk_cell BK5.out 0).trans rfl; have hf5_0 := blk_frozen BK5.out 0) | (go_at_call 65; have hT := h.below HB.out; have hgs := h.lt; have hc5 : w2_.cell? ⟨g5, 0, none⟩ = some (.int .i64 who) := (blk_cell BK5.out 0).trans rfl; have hsz := HB.out.size; have hc3 : w2_.cell? ⟨g3, 0, none⟩ = some (.pointer (some ⟨p, 0, none⟩)) := (blk_cell BK3.out 0).trans rfl; refine (at_take w2_ p g L hT lock who hl hw _ _ _ (take1_allO w2_ p g L hT lock who hl g5 g3 hc5 hc3 (by have := GE5.out; omega) (by have := GE3.out; omega) r L' hr hL')).mono ?_; rintro e w' ⟨rfl, hT', hb⟩))
  go_ret
  have hlt := h.lt
  have hbb : Only p g W w2_ := Only.of HB.out
  exact ⟨rfl, hT', hbb.trans hb⟩
theorem take_callsO (W : World) (p g : Nat) (L : List Int) (h : Tbl W p g L) (lock who : Int)  : Calls Try.prog 52 #[.pointer (some ⟨p, 0, none⟩), .int .i64 lock, .int .i64 who] W fun e w' => e = .returned (.int .i64 (takeR L lock who).1) ∧ Tbl w' p g (takeR L lock who).2 ∧ Only p g W w' := by
  by_cases hy : 0 ≤ lock ∧ lock < L.length ∧ 0 ≤ who
  · have := take_inO W p g L h lock who ⟨hy.1, hy.2.1⟩ hy.2.2 _ _ (Aside0.mk rfl) (Aside0.mk rfl)
    unfold takeR
    rw [if_pos hy]
    split
    · rename_i hq
      rw [if_pos hq, if_pos hq] at this
      exact this
    · rename_i hq
      rw [if_neg hq, if_neg hq] at this
      exact this
  · exact take_noO W p g L h lock who hy
set_option maxHeartbeats 2000000 in
theorem leave_noO (W : World) (p g : Nat) (L : List Int) (h : Tbl W p g L) (lock who : Int) (hno : ¬ (0 ≤ lock ∧ lock < L.length ∧ 0 ≤ who))  : Calls Try.prog 54 #[.pointer (some ⟨p, 0, none⟩), .int .i64 lock, .int .i64 who] W fun e w' => e = .returned (.int .i64 (leaveR L lock who).1) ∧ Tbl w' p g (leaveR L lock who).2 ∧ Only p g W w' := by
  have HB := Aside0.mk (Below.refl W.heap.size W)
  rw [leaveR, if_neg hno]
  go_enter Try.func54, Try.ntmps54
  go_wp2_with (first | ((with_reducible refine gate_dst (N := 5) rfl ?_); refine box_event ?hg (N := 5) ?hd (cs := #[.int .i64 who]) (t := 3) ?hr ?_; (case hd => rfl); (case hg => rfl); (case hr => first | (go_simp; done) | (go_simp; rfl)); intro g5 hg w1_ hbox hb; have n0_ := Aside0.mk (below_step (by repeat (first | (with_reducible first | exact HB.out | apply below_alloc | apply pw_below_drewN | apply below_drew1) | exact HB.out)) hb); have n1_ := Aside0.mk hbox; have n2_ := Aside0.mk ((by rw [hg]; exact (below_size (by repeat (first | (with_reducible first | exact HB.out | apply below_alloc | apply pw_below_drewN | apply below_drew1) | exact HB.out)))) : W.heap.size ≤ g5); clear HB; have HB := n0_; have BK5 := n1_; have GE5 := n2_; clear n0_ n1_ n2_; clear hb hbox hg; have hc5_0 : w1_.cell? ⟨g5, 0, none⟩ = some (.int .i64 who) := (blk_cell BK5.out 0).trans rfl; have hf5_0 := blk_frozen BK5.out 0) | (go_at_call 65; have hT := h.below HB.out; have hgs := h.lt; have hc5 : w1_.cell? ⟨g5, 0, none⟩ = some (.int .i64 who) := (blk_cell BK5.out 0).trans rfl; have hsz := HB.out.size; refine (at_no w1_ p g L hT lock who _ hno).mono ?_; rintro e w' ⟨rfl, hw⟩; obtain rfl := hw.symm))
  go_ret
  have hlt := h.lt
  have hbb : Only p g W w1_ := Only.of HB.out
  exact ⟨rfl, hT, Only.of HB.out⟩
set_option maxHeartbeats 2000000 in
theorem leave_inO (W : World) (p g : Nat) (L : List Int) (h : Tbl W p g L) (lock who : Int) (hl : 0 ≤ lock ∧ lock < L.length) (hw : 0 ≤ who) (r : Int) (L' : List Int) (hr : Aside0 ((if L.getD lock.toNat 0 = who then (0 : Int) else 6) = r)) (hL' : Aside0 ((if L.getD lock.toNat 0 = who then L.set lock.toNat (-1) else L) = L'))  : Calls Try.prog 54 #[.pointer (some ⟨p, 0, none⟩), .int .i64 lock, .int .i64 who] W fun e w' => e = .returned (.int .i64 r) ∧ Tbl w' p g L' ∧ Only p g W w' := by
  have HB := Aside0.mk (Below.refl W.heap.size W)
  have hyes := trivial
  go_enter Try.func54, Try.ntmps54
  go_wp2_with (first | ((with_reducible refine gate_dst (N := 5) rfl ?_); refine box_event ?hg (N := 5) ?hd (cs := #[.int .i64 who]) (t := 3) ?hr ?_; (case hd => rfl); (case hg => rfl); (case hr => first | (go_simp; done) | (go_simp; rfl)); intro g5 hg w1_ hbox hb; have n0_ := Aside0.mk (below_step (by repeat (first | (with_reducible first | exact HB.out | apply below_alloc | apply pw_below_drewN | apply below_drew1) | exact HB.out)) hb); have n1_ := Aside0.mk hbox; have n2_ := Aside0.mk ((by rw [hg]; exact (below_size (by repeat (first | (with_reducible first | exact HB.out | apply below_alloc | apply pw_below_drewN | apply below_drew1) | exact HB.out)))) : W.heap.size ≤ g5); clear HB; have HB := n0_; have BK5 := n1_; have GE5 := n2_; clear n0_ n1_ n2_; clear hb hbox hg; have hc5_0 : w1_.cell? ⟨g5, 0, none⟩ = some (.int .i64 who) := (blk_cell BK5.out 0).trans rfl; have hf5_0 := blk_frozen BK5.out 0) | (go_at_call 65; have hT := h.below HB.out; have hgs := h.lt; have hc5 : w1_.cell? ⟨g5, 0, none⟩ = some (.int .i64 who) := (blk_cell BK5.out 0).trans rfl; have hsz := HB.out.size; refine (at_leave w1_ p g L hT lock who hl hw _ _ (leave1_allO w1_ p g L hT lock who hl g5 hc5 r L' hr hL')).mono ?_; rintro e w' ⟨rfl, hT', hb⟩))
  go_ret
  have hlt := h.lt
  have hbb : Only p g W w1_ := Only.of HB.out
  exact ⟨rfl, hT', hbb.trans hb⟩
theorem leave_callsO (W : World) (p g : Nat) (L : List Int) (h : Tbl W p g L) (lock who : Int)  : Calls Try.prog 54 #[.pointer (some ⟨p, 0, none⟩), .int .i64 lock, .int .i64 who] W fun e w' => e = .returned (.int .i64 (leaveR L lock who).1) ∧ Tbl w' p g (leaveR L lock who).2 ∧ Only p g W w' := by
  by_cases hy : 0 ≤ lock ∧ lock < L.length ∧ 0 ≤ who
  · have := leave_inO W p g L h lock who ⟨hy.1, hy.2.1⟩ hy.2.2 _ _ (Aside0.mk rfl) (Aside0.mk rfl)
    unfold leaveR
    rw [if_pos hy]
    split
    · rename_i hq
      rw [if_pos hq, if_pos hq] at this
      exact this
    · rename_i hq
      rw [if_neg hq, if_neg hq] at this
      exact this
  · exact leave_noO W p g L h lock who hy
end Go.Proofs.Ytmolflmljneelaa.Lk
/- Frames: which blocks a call may have turned ('Fr X'): X says which of the elder ones; all others that lay are as they were. -/
namespace Go.Proofs.Ytmolflmljneelaa.Pm
open Go.RowKit Go.Proofs.YtmolflmljneelaaW.PrintWords Go.Proofs.YtmolflmljneelaaW.PrintLast Go.Proofs.YtmolflmljneelaaW.PrintMore
/-- Of the blocks that lay at w none has turned but those of X. -/
structure Fr (X : Nat → Prop) (w w' : World) : Prop where
  os : w'.os = w.os
  tape : w'.tape = w.tape
  output : w'.output = w.output
  size : w.heap.size ≤ w'.heap.size
  block : ∀ k, k < w.heap.size → ¬ X k → w'.heap[k]? = w.heap[k]?
theorem Fr.refl (X : Nat → Prop) (w : World) : Fr X w w := ⟨rfl, rfl, rfl, Nat.le_refl _, fun _ _ _ => rfl⟩
theorem Fr.trans {X : Nat → Prop} {a b c : World} (h : Fr X a b) (k : Fr X b c) : Fr X a c :=
  ⟨k.os.trans h.os, k.tape.trans h.tape, k.output.trans h.output, Nat.le_trans h.size k.size, fun i hi h1 => (k.block i (Nat.lt_of_lt_of_le hi h.size) h1).trans (h.block i hi h1)⟩
/-- Two steps of which the second may turn, of what lay at a, X alone. -/
theorem Fr.trans' {X Y : Nat → Prop} {a b c : World} (h : Fr X a b) (k : Fr Y b c) (hY : ∀ i, i < a.heap.size → Y i → X i) : Fr X a c :=
  ⟨k.os.trans h.os, k.tape.trans h.tape, k.output.trans h.output, Nat.le_trans h.size k.size, fun i hi h1 => (k.block i (Nat.lt_of_lt_of_le hi h.size) (fun hy => h1 (hY i hi hy))).trans (h.block i hi h1)⟩
theorem Fr.mono {X Y : Nat → Prop} {a b : World} (h : Fr X a b) (hY : ∀ i, X i → Y i) : Fr Y a b := ⟨h.os, h.tape, h.output, h.size, fun i hi h1 => h.block i hi (fun hx => h1 (hY i hx))⟩
theorem Fr.of {X : Nat → Prop} {a b : World} (h : Below a.heap.size a b) : Fr X a b := ⟨h.os, h.tape, h.output, h.size, fun i hi _ => h.block i hi⟩
theorem Fr.thn {X : Nat → Prop} {a b c : World} (h : Fr X a b) (k : Below b.heap.size b c) : Fr X a c := h.trans (Fr.of k)
theorem Fr.setCell {X : Nat → Prop} {a w : World} (h : Fr X a w) {p : Addr} (hp : X p.block ∨ a.heap.size ≤ p.block) (u : Value) : Fr X a (w.setCell p u) :=
  ⟨h.os, h.tape, h.output, by simpa [World.setCell] using h.size, fun k hk hx => (Below.heap_setCell _ _ _ _ (fun e => by
    subst e
    rcases hp with hp | hp
    · exact hx hp
    · omega)).trans (h.block k hk hx)⟩
theorem Fr.drewN {X : Nat → Prop} {a w : World} (h : Fr X a w) (n : Nat) : Fr X a (w.drewN n) := h.thn (pw_below_drewN (Below.refl _ w) n)
theorem Fr.drew1 {X : Nat → Prop} {a w : World} (h : Fr X a w) : Fr X a w.drew := h.thn (Below.refl _ w).drew
theorem Fr.alloc {X : Nat → Prop} {a w : World} (h : Fr X a w) (o : Obj) : Fr X a (w.alloc o) := h.thn ((Below.refl _ w).alloc (Nat.le_refl _) o)
theorem Fr.grown {X : Nat → Prop} {a w w' : World} {row : Option Nat} (h : Fr X a w) (hg : w.grownBy w' row) (hr : ∀ k, row = some k → X k ∨ a.heap.size ≤ k) : Fr X a w' :=
  ⟨hg.os.trans h.os, hg.tape.trans h.tape, hg.output.trans h.output, Nat.le_trans h.size hg.size, fun k hk hx => (hg.block k (Nat.lt_of_lt_of_le hk h.size) (fun e => by
    rcases hr k e.symm with hp | hp
    · exact hx hp
    · omega)).trans (h.block k hk hx)⟩
/-- A block that lay, and that X does not name, lies as it lay. -/
theorem Fr.keeps {X : Nat → Prop} {b : Nat} {a w : World} {o : Obj} (h : Fr X a w) (hb : a.heap[b]? = some o) (hx : ¬ X b) : w.heap[b]? = some o := (h.block b (blk_lt hb) hx).trans hb
theorem Fr.below {X : Nat → Prop} {B : Nat} {a w : World} (h : Fr X a w) (hX : ∀ k, X k → B ≤ k) (hB : B ≤ a.heap.size) : Below B a w :=
  ⟨h.os, h.tape, h.output, h.size, fun k hk => h.block k (by omega) (fun hx => by have := hX k hx; omega)⟩
end Go.Proofs.Ytmolflmljneelaa.Pm
