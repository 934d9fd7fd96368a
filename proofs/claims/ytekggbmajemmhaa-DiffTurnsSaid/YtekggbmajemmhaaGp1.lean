/- Diff, in plain words: graphs, walks, changes; the changes back. No program here. -/
import Derived.WalkKit
namespace Go.Proofs.Ytekggbmajemmhaa.Gr
open Go.RowKit
set_option linter.unusedSimpArgs false
set_option linter.unusedVariables false
/-- A node: its four numbers, where its slots and data lie, what they are. -/
structure Nd where
  (adr refs sl words : Int)
  A : Option Addr
  (m c : Nat)
  B : Option Addr
  (n d : Nat)
  (S T : List Int)
instance : Inhabited Nd := ⟨⟨0, 0, 0, 0, none, 0, 0, none, 0, 0, [], []⟩⟩
abbrev Nd.val (x : Nd) : Value := .agg #[.int .i64 x.adr, .int .i64 x.refs, .int .i64 x.sl, .int .i64 x.words, .slice x.A x.m x.c, .slice x.B x.n x.d]
/-- A change. -/
structure Ch where
  (k a i was is : Int)
instance : Inhabited Ch := ⟨⟨0, 0, 0, 0, 0⟩⟩
abbrev u64 (x : Int) : Int := IntKind.u64.wrap x
def find (NS : List Nd) (x : Int) : Option Nd := NS.find? fun n => decide (n.adr = x)
theorem find_adr {NS : List Nd} {x : Int} {n : Nd} (h : find NS x = some n) : n.adr = x := by
  have := List.find?_some h
  simpa using this
theorem find_mem {NS : List Nd} {x : Int} {n : Nd} (h : find NS x = some n) : n ∈ NS := List.mem_of_find?_eq_some h
/-- Walk on from some addresses, behind those that were come to. -/
def visitR (NS : List Nd) : Nat → List Int → List Int → List Int
  | 0, s, _ => s
  | f + 1, s, l => l.foldl (fun s x => match find NS x with
    | none => s
    | some n => if x ∈ s then s else visitR NS f (s ++ [x]) n.S) s
def walkR (NS : List Nd) (R : List Int) : List Int := visitR NS (NS.length + 1) [] R
/-- How many nodes' places were not come to. -/
def left (NS : List Nd) (s : List Int) : Nat := (NS.filter fun n => decide (n.adr ∉ s)).length
theorem left_le (NS : List Nd) (s : List Int) : left NS s ≤ NS.length := List.length_filter_le _ _
theorem left_sub {NS : List Nd} {s t : List Int} (h : ∀ x, x ∈ s → x ∈ t) : left NS t ≤ left NS s := by
  unfold left
  induction NS with
  | nil => simp
  | cons n NS ih =>
    by_cases h1 : n.adr ∈ s
    · have h2 := h _ h1
      simp only [List.filter_cons, h1, h2, not_true, decide_false, Bool.false_eq_true, if_false]
      exact ih
    · by_cases h2 : n.adr ∈ t
      · simp only [List.filter_cons, h1, h2, not_true, not_false_eq_true, decide_false, decide_true, Bool.false_eq_true, if_false, if_true, List.length_cons]
        omega
      · simp only [List.filter_cons, h1, h2, not_false_eq_true, decide_true, if_true, List.length_cons]
        omega
theorem left_lt {NS : List Nd} {s : List Int} {x : Int} {n : Nd} (hn : find NS x = some n) (hx : x ∉ s) : left NS (s ++ [x]) < left NS s := by
  have h1 := find_mem hn
  have h2 := find_adr hn
  unfold left
  clear hn
  induction NS with
  | nil => cases h1
  | cons q NS ih =>
    by_cases e : q.adr = x
    · have hs : left NS (s ++ [x]) ≤ left NS s := left_sub (fun y hy => List.mem_append_left _ hy)
      unfold left at hs
      have hq : q.adr ∈ s ++ [x] := by rw [e]; simp
      have hq2 : q.adr ∉ s := by rw [e]; exact hx
      simp only [List.filter_cons, hq, hq2, not_true, not_false_eq_true, decide_false, decide_true, Bool.false_eq_true, if_false, if_true, List.length_cons]
      omega
    · have hm : n ∈ NS := by
        rcases List.mem_cons.1 h1 with rfl | h
        · exact absurd h2 e
        · exact h
      have := ih hm
      by_cases h3 : q.adr ∈ s
      · have h4 : q.adr ∈ s ++ [x] := List.mem_append_left _ h3
        simp only [List.filter_cons, h3, h4, not_true, decide_false, Bool.false_eq_true, if_false]
        exact this
      · have h4 : q.adr ∉ s ++ [x] := by simp [h3, e]
        simp only [List.filter_cons, h3, h4, not_false_eq_true, decide_true, if_true, List.length_cons]
        omega
/-- One step of a walk. -/
def stepR (NS : List Nd) (f : Nat) (s : List Int) (x : Int) : List Int := match find NS x with
  | none => s
  | some n => if x ∈ s then s else visitR NS f (s ++ [x]) n.S
theorem visitR_eq (NS : List Nd) (f : Nat) (s l : List Int) : visitR NS (f + 1) s l = l.foldl (stepR NS f) s := rfl
theorem visitR_ext (NS : List Nd) : ∀ (f : Nat) (s l : List Int), ∃ t, visitR NS f s l = s ++ t ∧ (∀ x ∈ t, ∃ n, find NS x = some n)
  | 0, s, l => ⟨[], by simp [visitR], by simp⟩
  | f + 1, s, l => by
    rw [visitR_eq]
    induction l generalizing s with
    | nil => exact ⟨[], by simp, by simp⟩
    | cons x l ih =>
      rw [List.foldl_cons]
      have h1 : ∃ t, stepR NS f s x = s ++ t ∧ (∀ x ∈ t, ∃ n, find NS x = some n) := by
        unfold stepR
        cases hf : find NS x with
        | none => exact ⟨[], by simp, by simp⟩
        | some n =>
          by_cases hx : x ∈ s
          · exact ⟨[], by simp [hx], by simp⟩
          · obtain ⟨t, e, ht⟩ := visitR_ext NS f (s ++ [x]) n.S
            refine ⟨[x] ++ t, by simp [hx, e], fun y hy => ?_⟩
            rcases List.mem_append.1 hy with h | h
            · rw [List.mem_singleton.1 h]
              exact ⟨n, hf⟩
            · exact ht y h
      obtain ⟨t, e, ht⟩ := h1
      obtain ⟨t2, e2, ht2⟩ := ih (s ++ t)
      rw [e]
      exact ⟨t ++ t2, by rw [e2, List.append_assoc], fun y hy => (List.mem_append.1 hy).elim (ht y) (ht2 y)⟩
theorem visitR_nodup (NS : List Nd) : ∀ (f : Nat) (s l : List Int), s.Nodup → (visitR NS f s l).Nodup
  | 0, s, l, h => h
  | f + 1, s, l, h => by
    rw [visitR_eq]
    induction l generalizing s with
    | nil => exact h
    | cons x l ih =>
      rw [List.foldl_cons]
      refine ih _ ?_
      unfold stepR
      cases hf : find NS x with
      | none => exact h
      | some n =>
        by_cases hx : x ∈ s
        · simpa [hx] using h
        · simp only [hx, if_false]
          refine visitR_nodup NS f _ _ ?_
          rw [List.nodup_append]
          exact ⟨h, by simp, fun a ha b hb => by rw [List.mem_singleton.1 hb]; exact fun e => hx (e ▸ ha)⟩
theorem walkR_find {NS : List Nd} {R : List Int} {x : Int} (h : x ∈ walkR NS R) : ∃ n, find NS x = some n := by
  obtain ⟨t, e, ht⟩ := visitR_ext NS (NS.length + 1) [] R
  unfold walkR at h
  rw [e] at h
  exact ht x (by simpa using h)
theorem walkR_nodup (NS : List Nd) (R : List Int) : (walkR NS R).Nodup := visitR_nodup NS _ _ _ List.nodup_nil
/-! ### The changes -/
def rootsTo (R1 R2 : List Int) (n : Nat) : List Ch := (List.range n).flatMap fun i => if R1.getD i 0 = R2.getD i 0 then [] else [⟨4, 0, i, u64 (R1.getD i 0), u64 (R2.getD i 0)⟩]
def slotsTo (x y : Nd) (n : Nat) : List Ch := (List.range n).flatMap fun i => if x.S.getD i 0 = y.S.getD i 0 then [] else [⟨4, x.adr, i, u64 (x.S.getD i 0), u64 (y.S.getD i 0)⟩]
def dataTo (x y : Nd) (n : Nat) : List Ch := (List.range n).flatMap fun i => if x.T.getD i 0 = y.T.getD i 0 then [] else [⟨5, x.adr, i, x.T.getD i 0, y.T.getD i 0⟩]
def insideR (x y : Nd) : List Ch := if x.m ≠ y.m ∨ x.words ≠ y.words ∨ x.n ≠ y.n then [⟨3, x.adr, 0, u64 x.words, u64 y.words⟩] else slotsTo x y x.m ++ dataTo x y x.n
def nd (NS : List Nd) (w : List Int) (k : Int) : Nd := if k ∈ w then (find NS k).getD default else default
def changeR (N1 : List Nd) (w1 : List Int) (N2 : List Nd) (w2 : List Int) (k : Int) : List Ch :=
  if k ∉ w2 then [⟨1, k, 0, u64 (nd N1 w1 k).words, 0⟩] else if k ∉ w1 then [⟨2, k, 0, 0, u64 (nd N2 w2 k).words⟩] else insideR (nd N1 w1 k) (nd N2 w2 k)
/-- A list that rises, with these. -/
def Keys (w1 w2 K : List Int) : Prop := K.Pairwise (· < ·) ∧ ∀ x, x ∈ K ↔ x ∈ w1 ∨ x ∈ w2
theorem rising_ext : ∀ {K L : List Int}, K.Pairwise (· < ·) → L.Pairwise (· < ·) → (∀ x, x ∈ K ↔ x ∈ L) → K = L
  | [], [], _, _, _ => rfl
  | [], y :: L, _, _, h => absurd ((h y).2 (by simp)) (by simp)
  | x :: K, [], _, _, h => absurd ((h x).1 (by simp)) (by simp)
  | x :: K, y :: L, hK, hL, h => by
    have hK' := List.pairwise_cons.1 hK
    have hL' := List.pairwise_cons.1 hL
    have e : x = y := by
      have h1 := (h x).1 (by simp)
      have h2 := (h y).2 (by simp)
      rcases List.mem_cons.1 h1 with h1 | h1
      · exact h1
      · rcases List.mem_cons.1 h2 with h2 | h2
        · exact h2.symm
        · have := hL'.1 x h1
          have := hK'.1 y h2
          omega
    subst e
    have ht : ∀ z, z ∈ K ↔ z ∈ L := fun z => by
      have hz := h z
      simp only [List.mem_cons] at hz
      constructor
      · intro hm
        have := hK'.1 z hm
        rcases hz.1 (Or.inr hm) with e | e
        · omega
        · exact e
      · intro hm
        have := hL'.1 z hm
        rcases hz.2 (Or.inr hm) with e | e
        · omega
        · exact e
    rw [rising_ext hK'.2 hL'.2 ht]
def turn (c : Ch) : Ch := ⟨if c.k = 1 then 2 else if c.k = 2 then 1 else c.k, c.a, c.i, c.is, c.was⟩
theorem roots_turn (R1 R2 : List Int) (n : Nat) : (rootsTo R1 R2 n).map turn = rootsTo R2 R1 n := by
  unfold rootsTo
  rw [List.map_flatMap]
  congr 1
  funext i
  by_cases h : R1.getD i 0 = R2.getD i 0
  · rw [if_pos h, if_pos h.symm]; rfl
  · rw [if_neg h, if_neg (fun e => h e.symm)]; rfl
theorem slots_turn {x y : Nd} (h : x.adr = y.adr) (n : Nat) : (slotsTo x y n).map turn = slotsTo y x n := by
  unfold slotsTo
  rw [List.map_flatMap]
  congr 1
  funext i
  by_cases e : x.S.getD i 0 = y.S.getD i 0
  · rw [if_pos e, if_pos e.symm]; rfl
  · rw [if_neg e, if_neg (fun e' => e e'.symm), h]; rfl
theorem data_turn {x y : Nd} (h : x.adr = y.adr) (n : Nat) : (dataTo x y n).map turn = dataTo y x n := by
  unfold dataTo
  rw [List.map_flatMap]
  congr 1
  funext i
  by_cases e : x.T.getD i 0 = y.T.getD i 0
  · rw [if_pos e, if_pos e.symm]; rfl
  · rw [if_neg e, if_neg (fun e' => e e'.symm), h]; rfl
theorem inside_turn {x y : Nd} (h : x.adr = y.adr) : (insideR x y).map turn = insideR y x := by
  unfold insideR
  by_cases e : x.m ≠ y.m ∨ x.words ≠ y.words ∨ x.n ≠ y.n
  · have e' : y.m ≠ x.m ∨ y.words ≠ x.words ∨ y.n ≠ x.n := by
      rcases e with e | e | e
      · exact Or.inl e.symm
      · exact Or.inr (Or.inl e.symm)
      · exact Or.inr (Or.inr e.symm)
    rw [if_pos e, if_pos e', h]; rfl
  · have e' : ¬ (y.m ≠ x.m ∨ y.words ≠ x.words ∨ y.n ≠ x.n) := by
      rintro (e' | e' | e')
      · exact e (Or.inl e'.symm)
      · exact e (Or.inr (Or.inl e'.symm))
      · exact e (Or.inr (Or.inr e'.symm))
    rw [if_neg e, if_neg e', List.map_append, slots_turn h, data_turn h]
    have h1 : x.m = y.m := Decidable.byContradiction fun q => e (Or.inl q)
    have h2 : x.n = y.n := Decidable.byContradiction fun q => e (Or.inr (Or.inr q))
    rw [h1, h2]
theorem nd_adr {NS : List Nd} {R : List Int} {k : Int} (h : k ∈ walkR NS R) : (nd NS (walkR NS R) k).adr = k := by
  obtain ⟨n, hn⟩ := walkR_find h
  unfold nd
  rw [if_pos h, hn]
  exact find_adr hn
theorem change_turn (N1 N2 : List Nd) (R1 R2 : List Int) {k : Int} (h : k ∈ walkR N1 R1 ∨ k ∈ walkR N2 R2) : (changeR N1 (walkR N1 R1) N2 (walkR N2 R2) k).map turn = changeR N2 (walkR N2 R2) N1 (walkR N1 R1) k := by
  unfold changeR
  by_cases h1 : k ∈ walkR N1 R1
  · by_cases h2 : k ∈ walkR N2 R2
    · simp only [h1, h2, not_true, if_false]
      exact inside_turn ((nd_adr h1).trans (nd_adr h2).symm)
    · simp only [h1, h2, not_true, not_false_eq_true, if_false, if_true]
      rfl
  · have h2 := h.resolve_left h1
    simp only [h1, h2, not_true, not_false_eq_true, if_false, if_true]
    rfl
/-- The changes of two graphs; K: the places of both walks, rising. -/
def ofR (N1 : List Nd) (R1 : List Int) (N2 : List Nd) (R2 : List Int) (K : List Int) : List Ch := rootsTo R1 R2 (max R1.length R2.length) ++ K.flatMap (changeR N1 (walkR N1 R1) N2 (walkR N2 R2))
theorem of_turn (N1 N2 : List Nd) (R1 R2 K L : List Int) (hK : Keys (walkR N1 R1) (walkR N2 R2) K) (hL : Keys (walkR N2 R2) (walkR N1 R1) L) : (ofR N1 R1 N2 R2 K).map turn = ofR N2 R2 N1 R1 L := by
  have e : L = K := rising_ext hL.1 hK.1 fun x => by rw [hK.2, hL.2]; exact Or.comm
  subst e
  unfold ofR
  rw [List.map_append, roots_turn, Nat.max_comm, List.map_flatMap]
  congr 1
  have : ∀ M : List Int, (∀ x ∈ M, x ∈ L) → (M.flatMap fun k => (changeR N1 (walkR N1 R1) N2 (walkR N2 R2) k).map turn) = M.flatMap (changeR N2 (walkR N2 R2) N1 (walkR N1 R1)) := by
    intro M hM
    induction M with
    | nil => rfl
    | cons x M ih =>
      rw [List.flatMap_cons, List.flatMap_cons, ih (fun y hy => hM y (List.mem_cons_of_mem _ hy)), change_turn N1 N2 R1 R2 ((hK.2 x).1 (hM x (by simp)))]
  exact this L (fun _ h => h)
/-! ### Lengths -/
theorem flat_le {α β : Type} (l : List α) (g : α → List β) (b : Nat) (h : ∀ x ∈ l, (g x).length ≤ b) : (l.flatMap g).length ≤ l.length * b := by
  induction l with
  | nil => simp
  | cons x l ih =>
    rw [List.flatMap_cons, List.length_append, List.length_cons, Nat.succ_mul]
    have h1 := h x (by simp)
    have h2 := ih (fun y hy => h y (List.mem_cons_of_mem _ hy))
    omega
theorem rootsTo_le (R1 R2 : List Int) (n : Nat) : (rootsTo R1 R2 n).length ≤ n := by
  have := flat_le (List.range n) (fun i => if R1.getD i 0 = R2.getD i 0 then [] else [(⟨4, 0, i, u64 (R1.getD i 0), u64 (R2.getD i 0)⟩ : Ch)]) 1 (fun x _ => by split <;> simp)
  rw [List.length_range, Nat.mul_one] at this
  exact this
theorem slotsTo_le (x y : Nd) (n : Nat) : (slotsTo x y n).length ≤ n := by
  have := flat_le (List.range n) (fun i => if x.S.getD i 0 = y.S.getD i 0 then [] else [(⟨4, x.adr, i, u64 (x.S.getD i 0), u64 (y.S.getD i 0)⟩ : Ch)]) 1 (fun x _ => by split <;> simp)
  rw [List.length_range, Nat.mul_one] at this
  exact this
theorem dataTo_le (x y : Nd) (n : Nat) : (dataTo x y n).length ≤ n := by
  have := flat_le (List.range n) (fun i => if x.T.getD i 0 = y.T.getD i 0 then [] else [(⟨5, x.adr, i, x.T.getD i 0, y.T.getD i 0⟩ : Ch)]) 1 (fun x _ => by split <;> simp)
  rw [List.length_range, Nat.mul_one] at this
  exact this
theorem insideR_le (x y : Nd) (h : x.m ≤ 300 ∧ x.n ≤ 300) : (insideR x y).length ≤ 600 := by
  unfold insideR
  split
  · simp
  · rw [List.length_append]
    have := slotsTo_le x y x.m
    have := dataTo_le x y x.n
    omega
theorem rootsTo_succ (R1 R2 : List Int) (n : Nat) : rootsTo R1 R2 (n + 1) = rootsTo R1 R2 n ++ if R1.getD n 0 = R2.getD n 0 then [] else [⟨4, 0, n, u64 (R1.getD n 0), u64 (R2.getD n 0)⟩] := by
  unfold rootsTo
  rw [List.range_succ, List.flatMap_append]
  simp
theorem slotsTo_succ (x y : Nd) (n : Nat) : slotsTo x y (n + 1) = slotsTo x y n ++ if x.S.getD n 0 = y.S.getD n 0 then [] else [⟨4, x.adr, n, u64 (x.S.getD n 0), u64 (y.S.getD n 0)⟩] := by
  unfold slotsTo
  rw [List.range_succ, List.flatMap_append]
  simp
theorem dataTo_succ (x y : Nd) (n : Nat) : dataTo x y (n + 1) = dataTo x y n ++ if x.T.getD n 0 = y.T.getD n 0 then [] else [⟨5, x.adr, n, x.T.getD n 0, y.T.getD n 0⟩] := by
  unfold dataTo
  rw [List.range_succ, List.flatMap_append]
  simp
end Go.Proofs.Ytekggbmajemmhaa.Gr
