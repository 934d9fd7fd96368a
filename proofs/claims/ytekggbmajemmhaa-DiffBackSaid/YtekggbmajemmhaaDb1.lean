/- Parts of one proof, set together: Gp1, Ap1. What each says stands at its head; no condition beyond theirs. -/
import Derived.WalkKit
/- Diff, in plain words: graphs, walks, changes; the changes back. No program here. -/
namespace Go.Proofs.Ytekggbmajemmhaa.Gr
open Go.RowKit
set_option linter.unusedSimpArgs false
set_option linter.unusedVariables false
/-- A node: its four numbers, where its slots and data lie, what they are. -/
structure Nd where
  (adr refs sl words : Int)
  A : Option Addr
  (m c : Nat)
  B : Option Addr
  (n d : Nat)
  (S T : List Int)
instance : Inhabited Nd := ⟨⟨0, 0, 0, 0, none, 0, 0, none, 0, 0, [], []⟩⟩
abbrev Nd.val (x : Nd) : Value := .agg #[.int .i64 x.adr, .int .i64 x.refs, .int .i64 x.sl, .int .i64 x.words, .slice x.A x.m x.c, .slice x.B x.n x.d]
/-- A change. -/
structure Ch where
  (k a i was is : Int)
instance : Inhabited Ch := ⟨⟨0, 0, 0, 0, 0⟩⟩
abbrev u64 (x : Int) : Int := IntKind.u64.wrap x
def find (NS : List Nd) (x : Int) : Option Nd := NS.find? fun n => decide (n.adr = x)
theorem find_adr {NS : List Nd} {x : Int} {n : Nd} (h : find NS x = some n) : n.adr = x := by
  have := List.find?_some h
  simpa using this
theorem find_mem {NS : List Nd} {x : Int} {n : Nd} (h : find NS x = some n) : n ∈ NS := List.mem_of_find?_eq_some h
/-- Walk on from some addresses, behind those that were come to. -/
def visitR (NS : List Nd) : Nat → List Int → List Int → List Int
  | 0, s, _ => s
  | f + 1, s, l => l.foldl (fun s x => match find NS x with
    | none => s
    | some n => if x ∈ s then s else visitR NS f (s ++ [x]) n.S) s
def walkR (NS : List Nd) (R : List Int) : List Int := visitR NS (NS.length + 1) [] R
/-- How many nodes' places were not come to. -/
def left (NS : List Nd) (s : List Int) : Nat := (NS.filter fun n => decide (n.adr ∉ s)).length
theorem left_le (NS : List Nd) (s : List Int) : left NS s ≤ NS.length := List.length_filter_le _ _
theorem left_sub {NS : List Nd} {s t : List Int} (h : ∀ x, x ∈ s → x ∈ t) : left NS t ≤ left NS s := by
  unfold left
  induction NS with
  | nil => simp
  | cons n NS ih =>
    by_cases h1 : n.adr ∈ s
    · have h2 := h _ h1
      simp only [List.filter_cons, h1, h2, not_true, decide_false, Bool.false_eq_true, if_false]
      exact ih
    · by_cases h2 : n.adr ∈ t
      · simp only [List.filter_cons, h1, h2, not_true, not_false_eq_true, decide_false, decide_true, Bool.false_eq_true, if_false, if_true, List.length_cons]
        omega
      · simp only [List.filter_cons, h1, h2, not_false_eq_true, decide_true, if_true, List.length_cons]
        omega
theorem left_lt {NS : List Nd} {s : List Int} {x : Int} {n : Nd} (hn : find NS x = some n) (hx : x ∉ s) : left NS (s ++ [x]) < left NS s := by
  have h1 := find_mem hn
  have h2 := find_adr hn
  unfold left
  clear hn
  induction NS with
  | nil => cases h1
  | cons q NS ih =>
    by_cases e : q.adr = x
    · have hs : left NS (s ++ [x]) ≤ left NS s := left_sub (fun y hy => List.mem_append_left _ hy)
      unfold left at hs
      have hq : q.adr ∈ s ++ [x] := by rw [e]; simp
      have hq2 : q.adr ∉ s := by rw [e]; exact hx
      simp only [List.filter_cons, hq, hq2, not_true, not_false_eq_true, decide_false, decide_true, Bool.false_eq_true, if_false, if_true, List.length_cons]
      omega
    · have hm : n ∈ NS := by
        rcases List.mem_cons.1 h1 with rfl | h
        · exact absurd h2 e
        · exact h
      have := ih hm
      by_cases h3 : q.adr ∈ s
      · have h4 : q.adr ∈ s ++ [x] := List.mem_append_left _ h3
        simp only [List.filter_cons, h3, h4, not_true, decide_false, Bool.false_eq_true, if_false]
        exact this
      · have h4 : q.adr ∉ s ++ [x] := by simp [h3, e]
        simp only [List.filter_cons, h3, h4, not_false_eq_true, decide_true, if_true, List.length_cons]
        omega
/-- One step of a walk. -/
def stepR (NS : List Nd) (f : Nat) (s : List Int) (x : Int) : List Int := match find NS x with
  | none => s
  | some n => if x ∈ s then s else visitR NS f (s ++ [x]) n.S
theorem visitR_eq (NS : List Nd) (f : Nat) (s l : List Int) : visitR NS (f + 1) s l = l.foldl (stepR NS f) s := rfl
theorem visitR_ext (NS : List Nd) : ∀ (f : Nat) (s l : List Int), ∃ t, visitR NS f s l = s ++ t ∧ (∀ x ∈ t, ∃ n, find NS x = some n)
  | 0, s, l => ⟨[], by simp [visitR], by simp⟩
  | f + 1, s, l => by
    rw [visitR_eq]
    induction l generalizing s with
    | nil => exact ⟨[], by simp, by simp⟩
    | cons x l ih =>
      rw [List.foldl_cons]
      have h1 : ∃ t, stepR NS f s x = s ++ t ∧ (∀ x ∈ t, ∃ n, find NS x = some n) := by
        unfold stepR
        cases hf : find NS x with
        | none => exact ⟨[], by simp, by simp⟩
        | some n =>
          by_cases hx : x ∈ s
          · exact ⟨[], by simp [hx], by simp⟩
          · obtain ⟨t, e, ht⟩ := visitR_ext NS f (s ++ [x]) n.S
            refine ⟨[x] ++ t, by simp [hx, e], fun y hy => ?_⟩
            rcases List.mem_append.1 hy with h | h
            · rw [List.mem_singleton.1 h]
              exact ⟨n, hf⟩
            · exact ht y h
      obtain ⟨t, e, ht⟩ := h1
      obtain ⟨t2, e2, ht2⟩ := ih (s ++ t)
      rw [e]
      exact ⟨t ++ t2, by rw [e2, List.append_assoc], fun y hy => (List.mem_append.1 hy).elim (ht y) (ht2 y)⟩
theorem visitR_nodup (NS : List Nd) : ∀ (f : Nat) (s l : List Int), s.Nodup → (visitR NS f s l).Nodup
  | 0, s, l, h => h
  | f + 1, s, l, h => by
    rw [visitR_eq]
    induction l generalizing s with
    | nil => exact h
    | cons x l ih =>
      rw [List.foldl_cons]
      refine ih _ ?_
      unfold stepR
      cases hf : find NS x with
      | none => exact h
      | some n =>
        by_cases hx : x ∈ s
        · simpa [hx] using h
        · simp only [hx, if_false]
          refine visitR_nodup NS f _ _ ?_
          rw [List.nodup_append]
          exact ⟨h, by simp, fun a ha b hb => by rw [List.mem_singleton.1 hb]; exact fun e => hx (e ▸ ha)⟩
theorem walkR_find {NS : List Nd} {R : List Int} {x : Int} (h : x ∈ walkR NS R) : ∃ n, find NS x = some n := by
  obtain ⟨t, e, ht⟩ := visitR_ext NS (NS.length + 1) [] R
  unfold walkR at h
  rw [e] at h
  exact ht x (by simpa using h)
theorem walkR_nodup (NS : List Nd) (R : List Int) : (walkR NS R).Nodup := visitR_nodup NS _ _ _ List.nodup_nil
/-! ### The changes -/
def rootsTo (R1 R2 : List Int) (n : Nat) : List Ch := (List.range n).flatMap fun i => if R1.getD i 0 = R2.getD i 0 then [] else [⟨4, 0, i, u64 (R1.getD i 0), u64 (R2.getD i 0)⟩]
def slotsTo (x y : Nd) (n : Nat) : List Ch := (List.range n).flatMap fun i => if x.S.getD i 0 = y.S.getD i 0 then [] else [⟨4, x.adr, i, u64 (x.S.getD i 0), u64 (y.S.getD i 0)⟩]
def dataTo (x y : Nd) (n : Nat) : List Ch := (List.range n).flatMap fun i => if x.T.getD i 0 = y.T.getD i 0 then [] else [⟨5, x.adr, i, x.T.getD i 0, y.T.getD i 0⟩]
def insideR (x y : Nd) : List Ch := if x.m ≠ y.m ∨ x.words ≠ y.words ∨ x.n ≠ y.n then [⟨3, x.adr, 0, u64 x.words, u64 y.words⟩] else slotsTo x y x.m ++ dataTo x y x.n
def nd (NS : List Nd) (w : List Int) (k : Int) : Nd := if k ∈ w then (find NS k).getD default else default
def changeR (N1 : List Nd) (w1 : List Int) (N2 : List Nd) (w2 : List Int) (k : Int) : List Ch :=
  if k ∉ w2 then [⟨1, k, 0, u64 (nd N1 w1 k).words, 0⟩] else if k ∉ w1 then [⟨2, k, 0, 0, u64 (nd N2 w2 k).words⟩] else insideR (nd N1 w1 k) (nd N2 w2 k)
/-- A list that rises, with these. -/
def Keys (w1 w2 K : List Int) : Prop := K.Pairwise (· < ·) ∧ ∀ x, x ∈ K ↔ x ∈ w1 ∨ x ∈ w2
theorem rising_ext : ∀ {K L : List Int}, K.Pairwise (· < ·) → L.Pairwise (· < ·) → (∀ x, x ∈ K ↔ x ∈ L) → K = L
  | [], [], _, _, _ => rfl
  | [], y :: L, _, _, h => absurd ((h y).2 (by simp)) (by simp)
  | x :: K, [], _, _, h => absurd ((h x).1 (by simp)) (by simp)
  | x :: K, y :: L, hK, hL, h => by
    have hK' := List.pairwise_cons.1 hK
    have hL' := List.pairwise_cons.1 hL
    have e : x = y := by
      have h1 := (h x).1 (by simp)
      have h2 := (h y).2 (by simp)
      rcases List.mem_cons.1 h1 with h1 | h1
      · exact h1
      · rcases List.mem_cons.1 h2 with h2 | h2
        · exact h2.symm
        · have := hL'.1 x h1
          have := hK'.1 y h2
          omega
    subst e
    have ht : ∀ z, z ∈ K ↔ z ∈ L := fun z => by
      have hz := h z
      simp only [List.mem_cons] at hz
      constructor
      · intro hm
        have := hK'.1 z hm
        rcases hz.1 (Or.inr hm) with e | e
        · omega
        · exact e
      · intro hm
        have := hL'.1 z hm
        rcases hz.2 (Or.inr hm) with e | e
        · omega
        · exact e
    rw [rising_ext hK'.2 hL'.2 ht]
def turn (c : Ch) : Ch := ⟨if c.k = 1 then 2 else if c.k = 2 then 1 else c.k, c.a, c.i, c.is, c.was⟩
/-- The changes of two graphs; K: the places of both walks, rising. -/
def ofR (N1 : List Nd) (R1 : List Int) (N2 : List Nd) (R2 : List Int) (K : List Int) : List Ch := rootsTo R1 R2 (max R1.length R2.length) ++ K.flatMap (changeR N1 (walkR N1 R1) N2 (walkR N2 R2))
/-! ### Lengths -/
theorem flat_le {α β : Type} (l : List α) (g : α → List β) (b : Nat) (h : ∀ x ∈ l, (g x).length ≤ b) : (l.flatMap g).length ≤ l.length * b := by
  induction l with
  | nil => simp
  | cons x l ih =>
    rw [List.flatMap_cons, List.length_append, List.length_cons, Nat.succ_mul]
    have h1 := h x (by simp)
    have h2 := ih (fun y hy => h y (List.mem_cons_of_mem _ hy))
    omega
theorem rootsTo_le (R1 R2 : List Int) (n : Nat) : (rootsTo R1 R2 n).length ≤ n := by
  have := flat_le (List.range n) (fun i => if R1.getD i 0 = R2.getD i 0 then [] else [(⟨4, 0, i, u64 (R1.getD i 0), u64 (R2.getD i 0)⟩ : Ch)]) 1 (fun x _ => by split <;> simp)
  rw [List.length_range, Nat.mul_one] at this
  exact this
theorem slotsTo_le (x y : Nd) (n : Nat) : (slotsTo x y n).length ≤ n := by
  have := flat_le (List.range n) (fun i => if x.S.getD i 0 = y.S.getD i 0 then [] else [(⟨4, x.adr, i, u64 (x.S.getD i 0), u64 (y.S.getD i 0)⟩ : Ch)]) 1 (fun x _ => by split <;> simp)
  rw [List.length_range, Nat.mul_one] at this
  exact this
theorem dataTo_le (x y : Nd) (n : Nat) : (dataTo x y n).length ≤ n := by
  have := flat_le (List.range n) (fun i => if x.T.getD i 0 = y.T.getD i 0 then [] else [(⟨5, x.adr, i, x.T.getD i 0, y.T.getD i 0⟩ : Ch)]) 1 (fun x _ => by split <;> simp)
  rw [List.length_range, Nat.mul_one] at this
  exact this
theorem insideR_le (x y : Nd) (h : x.m ≤ 300 ∧ x.n ≤ 300) : (insideR x y).length ≤ 600 := by
  unfold insideR
  split
  · simp
  · rw [List.length_append]
    have := slotsTo_le x y x.m
    have := dataTo_le x y x.n
    omega
theorem rootsTo_succ (R1 R2 : List Int) (n : Nat) : rootsTo R1 R2 (n + 1) = rootsTo R1 R2 n ++ if R1.getD n 0 = R2.getD n 0 then [] else [⟨4, 0, n, u64 (R1.getD n 0), u64 (R2.getD n 0)⟩] := by
  unfold rootsTo
  rw [List.range_succ, List.flatMap_append]
  simp
theorem slotsTo_succ (x y : Nd) (n : Nat) : slotsTo x y (n + 1) = slotsTo x y n ++ if x.S.getD n 0 = y.S.getD n 0 then [] else [⟨4, x.adr, n, u64 (x.S.getD n 0), u64 (y.S.getD n 0)⟩] := by
  unfold slotsTo
  rw [List.range_succ, List.flatMap_append]
  simp
theorem dataTo_succ (x y : Nd) (n : Nat) : dataTo x y (n + 1) = dataTo x y n ++ if x.T.getD n 0 = y.T.getD n 0 then [] else [⟨5, x.adr, n, x.T.getD n 0, y.T.getD n 0⟩] := by
  unfold dataTo
  rw [List.range_succ, List.flatMap_append]
  simp
end Go.Proofs.Ytekggbmajemmhaa.Gr
/- Apply, in plain words: nodes by rising addresses, changes done to them. No program here. -/
namespace Go.Proofs.Ytekggbmajemmhaa.Gr
open Go.RowKit
set_option linter.unusedSimpArgs false
set_option linter.unusedVariables false
/-- What a node says. -/
structure Pn where
  (adr refs sl words : Int)
  (S T : List Int)
instance : Inhabited Pn := ⟨⟨0, 0, 0, 0, [], []⟩⟩
abbrev Nd.pn (n : Nd) : Pn := ⟨n.adr, n.refs, n.sl, n.words, n.S, n.T⟩
def Rise (K : List Int) : Prop := K.Pairwise (· < ·)
abbrev adrs (M : List Nd) : List Int := M.map Nd.adr
/-- The place of an address. -/
def idx : List Int → Int → Option Nat
  | [], _ => none
  | x :: l, a => if x = a then some 0 else (idx l a).map (· + 1)
/-- How many lie ahead of an address. -/
def beh : List Int → Int → Nat
  | [], _ => 0
  | x :: l, a => if x < a then beh l a + 1 else 0
theorem beh_le : ∀ (l : List Int) (a : Int), beh l a ≤ l.length
  | [], a => Nat.le_refl _
  | x :: l, a => by unfold beh; split; have := beh_le l a; simp; omega; simp
theorem idx_none : ∀ {l : List Int} {a : Int}, idx l a = none ↔ a ∉ l
  | [], a => by simp [idx]
  | x :: l, a => by
    unfold idx
    by_cases h : x = a
    · subst h; simp
    · have ih := idx_none (l := l) (a := a)
      rw [if_neg h, Option.map_eq_none_iff, ih]
      simp [Ne.symm h]
theorem idx_some : ∀ {l : List Int} {a : Int} {i : Nat}, idx l a = some i → l[i]? = some a ∧ ∀ j, j < i → l[j]? ≠ some a
  | [], a, i, h => by simp [idx] at h
  | x :: l, a, i, h => by
    unfold idx at h
    by_cases hx : x = a
    · simp [hx] at h
      subst h
      exact ⟨by simp [hx], fun j hj => by omega⟩
    · simp [hx] at h
      obtain ⟨k, hk, rfl⟩ := h
      obtain ⟨h1, h2⟩ := idx_some hk
      refine ⟨by simpa using h1, fun j hj => ?_⟩
      rcases j with _ | j
      · simpa using hx
      · simpa using h2 j (by omega)
theorem rise_at {K : List Int} (h : Rise K) {i j : Nat} {x y : Int} (hi : K[i]? = some x) (hj : K[j]? = some y) (hij : i < j) : x < y := by
  obtain ⟨h1, rfl⟩ := List.getElem?_eq_some_iff.1 hi
  obtain ⟨h2, rfl⟩ := List.getElem?_eq_some_iff.1 hj
  exact List.pairwise_iff_getElem.1 h i j h1 h2 hij
theorem idx_rise {K : List Int} (h : Rise K) {i : Nat} {a : Int} (hi : K[i]? = some a) : idx K a = some i := by
  cases hx : idx K a with
  | none => exact absurd (List.mem_of_getElem? hi) (idx_none.1 hx)
  | some j =>
    obtain ⟨h1, h2⟩ := idx_some hx
    rcases Nat.lt_trichotomy i j with h3 | h3 | h3
    · exact absurd hi (h2 i h3)
    · rw [h3]
    · have := rise_at h h1 hi h3
      omega
theorem beh_lt : ∀ {K : List Int} {a : Int} {j : Nat} {x : Int}, K[j]? = some x → j < beh K a → x < a
  | [], a, j, x, h, _ => by simp at h
  | y :: K, a, j, x, h, hj => by
    unfold beh at hj
    split at hj
    · rcases j with _ | j
      · simp at h; omega
      · exact beh_lt (K := K) (by simpa using h) (by omega)
    · omega
theorem beh_ge : ∀ {K : List Int} (_ : Rise K) {a : Int} {j : Nat} {x : Int}, K[j]? = some x → beh K a ≤ j → a ≤ x
  | [], _, a, j, x, h, _ => by simp at h
  | y :: K, hR, a, j, x, h, hj => by
    have hR' := List.pairwise_cons.1 hR
    unfold beh at hj
    split at hj
    · rcases j with _ | j
      · omega
      · exact beh_ge (K := K) hR'.2 (by simpa using h) (by omega)
    · rcases j with _ | j
      · simp at h; omega
      · have := hR'.1 x (List.mem_of_getElem? (by simpa using h))
        omega
/-! ### finds -/
theorem find_idx : ∀ (M : List Nd) (a : Int), find M a = (idx (adrs M) a).bind fun i => M[i]?
  | [], a => rfl
  | n :: M, a => by
    unfold find adrs idx
    by_cases h : n.adr = a
    · simp [h]
    · have := find_idx M a
      unfold find adrs at this
      simp only [List.find?_cons, h, decide_false, List.map_cons, if_false, this]
      cases idx (List.map Nd.adr M) a <;> simp
theorem find_none_of {M : List Nd} {a : Int} (h : idx (adrs M) a = none) : find M a = none := by rw [find_idx, h]; rfl
theorem find_some_of {M : List Nd} {a : Int} {i : Nat} (h : idx (adrs M) a = some i) : ∃ n, M[i]? = some n ∧ find M a = some n ∧ n.adr = a := by
  have h1 := (idx_some h).1
  rw [List.getElem?_map] at h1
  cases hn : M[i]? with
  | none => rw [hn] at h1; cases h1
  | some n =>
    rw [hn] at h1
    exact ⟨n, rfl, by rw [find_idx, h]; exact hn, by simpa using h1⟩
theorem find_app (A B : List Nd) (y : Int) : find (A ++ B) y = (find A y).or (find B y) := List.find?_append
theorem find_cons (n : Nd) (B : List Nd) (y : Int) : find (n :: B) y = if n.adr = y then some n else find B y := by
  unfold find
  by_cases h : n.adr = y <;> simp [h]
theorem find_out {M : List Nd} {y : Int} (h : y ∉ adrs M) : find M y = none := find_none_of (idx_none.2 h)
theorem find_put {M : List Nd} {a : Int} (b : Nat) {x : Nd} (hx : x.adr = a) (h : idx (adrs M) a = none) (y : Int) : find (M.take b ++ x :: M.drop b) y = if y = a then some x else find M y := by
  have hn := idx_none.1 h
  have hsplit : find M y = (find (M.take b) y).or (find (M.drop b) y) := by rw [← find_app, List.take_append_drop]
  have h1 : a ∉ adrs (M.take b) := fun hm => hn (by
    obtain ⟨n, hn1, hn2⟩ := List.mem_map.1 hm
    exact List.mem_map.2 ⟨n, List.mem_of_mem_take hn1, hn2⟩)
  rw [find_app, find_cons, hx]
  by_cases hy : y = a
  · subst hy
    rw [find_out h1]
    simp
  · rw [if_neg hy, if_neg (fun e => hy e.symm), hsplit]
/-- A list parted at a place. -/
theorem parted {M : List Nd} {i : Nat} {n : Nd} (h : M[i]? = some n) : M = M.take i ++ n :: M.drop (i + 1) := by
  obtain ⟨h1, rfl⟩ := List.getElem?_eq_some_iff.1 h
  rw [List.getElem_cons_drop, List.take_append_drop]
theorem set_parted {α : Type} {M : List α} {i : Nat} (h : i < M.length) (x : α) : M.set i x = M.take i ++ x :: M.drop (i + 1) := List.set_eq_take_append_cons_drop.trans (if_pos h)
theorem erase_parted {α : Type} (M : List α) (i : Nat) : M.eraseIdx i = M.take i ++ M.drop (i + 1) := List.eraseIdx_eq_take_drop_succ M i
theorem off_rise {M : List Nd} (hR : Rise (adrs M)) {i : Nat} {n : Nd} (hi : M[i]? = some n) : n.adr ∉ adrs (M.take i) ∧ n.adr ∉ adrs (M.drop (i + 1)) := by
  have hK : (adrs M)[i]? = some n.adr := by rw [List.getElem?_map, hi]; rfl
  refine ⟨fun hm => ?_, fun hm => ?_⟩
  · obtain ⟨m, hm1, hm2⟩ := List.mem_map.1 hm
    obtain ⟨j, hj⟩ := List.mem_iff_getElem?.1 hm1
    rw [List.getElem?_take] at hj
    split at hj
    · have : (adrs M)[j]? = some m.adr := by rw [List.getElem?_map, hj]; rfl
      have := rise_at hR this hK (by omega)
      omega
    · cases hj
  · obtain ⟨m, hm1, hm2⟩ := List.mem_map.1 hm
    obtain ⟨j, hj⟩ := List.mem_iff_getElem?.1 hm1
    rw [List.getElem?_drop] at hj
    have : (adrs M)[i + 1 + j]? = some m.adr := by rw [List.getElem?_map, hj]; rfl
    have := rise_at hR hK this (by omega)
    omega
theorem find_set {M : List Nd} (hR : Rise (adrs M)) {i : Nat} {n x : Nd} (hi : M[i]? = some n) (hx : x.adr = n.adr) (y : Int) : find (M.set i x) y = if y = n.adr then some x else find M y := by
  have hl := (List.getElem?_eq_some_iff.1 hi).1
  have ho := off_rise hR hi
  have e : find M y = find (M.take i ++ n :: M.drop (i + 1)) y := congrArg (find · y) (parted hi)
  rw [set_parted hl, e, find_app, find_app, find_cons, find_cons, hx]
  by_cases hy : y = n.adr
  · subst hy
    rw [find_out ho.1]
    simp
  · rw [if_neg hy, if_neg (fun e => hy e.symm), if_neg (fun e => hy e.symm)]
theorem find_erase {M : List Nd} (hR : Rise (adrs M)) {i : Nat} {n : Nd} (hi : M[i]? = some n) (y : Int) : find (M.eraseIdx i) y = if y = n.adr then none else find M y := by
  have ho := off_rise hR hi
  have e : find M y = find (M.take i ++ n :: M.drop (i + 1)) y := congrArg (find · y) (parted hi)
  rw [erase_parted, e, find_app, find_app, find_cons]
  by_cases hy : y = n.adr
  · subst hy
    rw [find_out ho.1, find_out ho.2]
    simp
  · rw [if_neg hy, if_neg (fun e => hy e.symm)]
/-! ### They go on rising -/
theorem rise_erase {K : List Int} (hR : Rise K) (i : Nat) : Rise (K.eraseIdx i) := hR.sublist (List.eraseIdx_sublist K i)
theorem rise_put {K : List Int} (hR : Rise K) {a : Int} (h : a ∉ K) : Rise (K.take (beh K a) ++ a :: K.drop (beh K a)) := by
  refine List.pairwise_append.2 ⟨hR.sublist (List.take_sublist _ _), List.pairwise_cons.2 ⟨fun x hx => ?_, hR.sublist (List.drop_sublist _ _)⟩, fun x hx y hy => ?_⟩
  · obtain ⟨j, hj⟩ := List.mem_iff_getElem?.1 hx
    rw [List.getElem?_drop] at hj
    have h1 := beh_ge hR hj (Nat.le_add_right _ _)
    have h2 : x ≠ a := fun e => h (e ▸ List.mem_of_getElem? hj)
    omega
  · obtain ⟨j, hj⟩ := List.mem_iff_getElem?.1 hx
    rw [List.getElem?_take] at hj
    split at hj
    · rename_i hjb
      have h1 := beh_lt hj hjb
      rcases List.mem_cons.1 hy with rfl | hy
      · exact h1
      · obtain ⟨k, hk⟩ := List.mem_iff_getElem?.1 hy
        rw [List.getElem?_drop] at hk
        have := beh_ge hR hk (Nat.le_add_right _ _)
        omega
    · cases hj
/-! ### A change -/
abbrev i64 (x : Int) : Int := IntKind.i64.wrap x
/-- A list with a place that points elsewhere. -/
def chgS (l : List Int) (c : Ch) : Option (List Int) := if 0 ≤ c.i ∧ c.i < l.length ∧ u64 (l.getD c.i.toNat 0) = c.was then some (l.set c.i.toNat (i64 c.is)) else none
/-- A list with a datum that is another one. -/
def chgT (l : List Int) (c : Ch) : Option (List Int) := if 0 ≤ c.i ∧ c.i < l.length ∧ l.getD c.i.toNat 0 = c.was then some (l.set c.i.toNat c.is) else none
def bareN (x : Int) : Nat := (min x 255).toNat
def bareP (a x : Int) : Pn := ⟨a, 0, 0, (bareN x : Int), [], List.replicate (bareN x) 0⟩
def stepP (M : List Pn) (c : Ch) : Option (List Pn) :=
  if c.k = 2 then (match idx (M.map Pn.adr) c.a with
    | some _ => none
    | none => some (M.take (beh (M.map Pn.adr) c.a) ++ bareP c.a c.is :: M.drop (beh (M.map Pn.adr) c.a)))
  else match idx (M.map Pn.adr) c.a with
    | none => none
    | some i => if c.k = 1 then (if u64 (M.getD i default).words = c.was then some (M.eraseIdx i) else none)
      else if c.k = 3 then (if u64 (M.getD i default).words = c.was then some (M.set i (bareP c.a c.is)) else none)
      else if c.k = 4 then (chgS (M.getD i default).S c).map fun S => M.set i { M.getD i default with S := S }
      else if c.k = 5 then (chgT (M.getD i default).T c).map fun T => M.set i { M.getD i default with T := T }
      else none
def applyP (s : List Int × List Pn) (c : Ch) : Option (List Int × List Pn) :=
  if c.k = 4 ∧ c.a = 0 then (chgS s.1 c).map fun R => (R, s.2) else (stepP s.2 c).map fun M => (s.1, M)
def applyAll (s : List Int × List Pn) : List Ch → Option (List Int × List Pn)
  | [] => some s
  | c :: l => (applyP s c).bind fun s => applyAll s l
theorem applyAll_snoc (l : List Ch) (c : Ch) : ∀ s, applyAll s (l ++ [c]) = (applyAll s l).bind fun s => applyP s c := by
  induction l with
  | nil => intro s; simp [applyAll]
  | cons x l ih =>
    intro s
    simp only [List.cons_append, applyAll]
    cases applyP s x with
    | none => rfl
    | some t => simpa using ih t
/-! ### The nodes that a walk comes to -/
/-- Where one that comes from behind ends. -/
def backR (K : List Int) (a : Int) : Nat → Nat
  | 0 => 0
  | p + 1 => if K.getD p 0 > a then backR K a p else p + 1
theorem backR_le (K : List Int) (a : Int) : ∀ p, backR K a p ≤ p
  | 0 => Nat.le_refl _
  | p + 1 => by unfold backR; split; have := backR_le K a p; omega; omega
theorem backR_spec (K : List Int) (a : Int) : ∀ p, (∀ j, backR K a p ≤ j → j < p → a < K.getD j 0) ∧ (backR K a p = 0 ∨ K.getD (backR K a p - 1) 0 ≤ a)
  | 0 => ⟨fun j _ h => by omega, Or.inl rfl⟩
  | p + 1 => by
    unfold backR
    split
    · rename_i h
      obtain ⟨h1, h2⟩ := backR_spec K a p
      refine ⟨fun j hj hp => ?_, h2⟩
      rcases Nat.lt_succ_iff_lt_or_eq.1 hp with h3 | rfl
      · exact h1 j hj h3
      · exact h
    · rename_i h
      exact ⟨fun j hj hp => by omega, Or.inr (by simpa using h)⟩
theorem backR_beh {K : List Int} (hR : Rise K) {a : Int} (h : a ∉ K) : backR K a K.length = beh K a := by
  obtain ⟨h1, h2⟩ := backR_spec K a K.length
  have hl := backR_le K a K.length
  have hb := beh_le K a
  have gd : ∀ j, j < K.length → K[j]? = some (K.getD j 0) := fun j hj => by rw [List.getD_eq_getElem?_getD, List.getElem?_eq_getElem hj]; rfl
  rcases Nat.lt_trichotomy (backR K a K.length) (beh K a) with h3 | h3 | h3
  · have e := gd _ (Nat.lt_of_lt_of_le h3 hb)
    have := h1 _ (Nat.le_refl _) (by omega)
    have := beh_lt e h3
    omega
  · exact h3
  · rcases h2 with h2 | h2
    · omega
    · have e := gd (backR K a K.length - 1) (by omega)
      have h4 := beh_ge (a := a) hR e (by omega)
      have h5 : K.getD (backR K a K.length - 1) 0 ≠ a := fun e2 => h (e2 ▸ List.mem_of_getElem? e)
      omega
def ins (M : List Nd) (n : Nd) : List Nd := M.take (backR (adrs M) n.adr M.length) ++ n :: M.drop (backR (adrs M) n.adr M.length)
def sorted (NS : List Nd) (w : List Int) : List Nd := w.foldl (fun M x => ins M ((find NS x).getD default)) []
theorem sorted_snoc (NS : List Nd) (w : List Int) (x : Int) : sorted NS (w ++ [x]) = ins (sorted NS w) ((find NS x).getD default) := by simp [sorted]
theorem adrs_put (M : List Nd) (b : Nat) (n : Nd) : adrs (M.take b ++ n :: M.drop b) = (adrs M).take b ++ n.adr :: (adrs M).drop b := by simp [adrs, List.map_take, List.map_drop]
structure Sorted (NS : List Nd) (w : List Int) (M : List Nd) : Prop where
  rise : Rise (adrs M)
  len : M.length = w.length
  at_ : ∀ y, find M y = if y ∈ w then find NS y else none
  mem : ∀ n ∈ M, n ∈ NS
theorem sorted_is (NS : List Nd) : ∀ (n : Nat) (w : List Int), w.length = n → w.Nodup → (∀ x ∈ w, ∃ n, find NS x = some n) → Sorted NS w (sorted NS w)
  | 0, w, hl, _, _ => by
    obtain rfl := List.length_eq_zero_iff.1 hl
    exact ⟨List.Pairwise.nil, rfl, fun y => by simp [sorted, find], fun n hn => by simp [sorted] at hn⟩
  | k + 1, w, hl, hnd, hf => by
    obtain ⟨v, x, rfl⟩ : ∃ v x, w = v ++ [x] := ⟨w.dropLast, w.getLast (by intro h; rw [h] at hl; simp at hl), (List.dropLast_concat_getLast _).symm⟩
    rw [List.nodup_append] at hnd
    obtain ⟨h1, _, h3⟩ := hnd
    have hx : x ∉ v := fun h => h3 x h x (by simp) rfl
    have hS := sorted_is NS k v (by simpa using hl) h1 (fun y hy => hf y (by simp [hy]))
    obtain ⟨n, hn⟩ := hf x (by simp)
    have ha : n.adr = x := find_adr hn
    have hout : n.adr ∉ adrs (sorted NS v) := by
      rw [← idx_none]
      cases hi : idx (adrs (sorted NS v)) n.adr with
      | none => rfl
      | some i =>
        obtain ⟨m, _, hm, _⟩ := find_some_of hi
        rw [ha, hS.at_, if_neg hx] at hm
        cases hm
    have e : sorted NS (v ++ [x]) = (sorted NS v).take (beh (adrs (sorted NS v)) n.adr) ++ n :: (sorted NS v).drop (beh (adrs (sorted NS v)) n.adr) := by
      rw [sorted_snoc, hn]
      unfold ins
      simp only [Option.getD_some]
      have hb := backR_beh hS.rise hout
      rw [show (adrs (sorted NS v)).length = (sorted NS v).length by simp [adrs]] at hb
      rw [hb]
    rw [e]
    have hb := beh_le (adrs (sorted NS v)) n.adr
    refine ⟨by rw [adrs_put]; exact rise_put hS.rise hout, ?_, fun y => ?_, fun m hm => ?_⟩
    · have h5 := hS.len
      have hb' : beh (adrs (sorted NS v)) n.adr ≤ (sorted NS v).length := by simpa [adrs] using hb
      rw [List.length_append, List.length_cons, List.length_take, List.length_drop, List.length_append]
      simp only [List.length_cons, List.length_nil]
      omega
    · rw [find_put _ rfl (idx_none.2 hout), hS.at_]
      by_cases hy : y = x
      · subst hy
        simp [ha, hn]
      · have : y ≠ n.adr := fun e2 => hy (e2.trans ha)
        rw [if_neg this]
        simp [hy]
    · rcases List.mem_append.1 hm with h | h
      · exact hS.mem m (List.mem_of_mem_take h)
      · rcases List.mem_cons.1 h with rfl | h
        · exact find_mem hn
        · exact hS.mem m (List.mem_of_mem_drop h)
theorem sorted_walk (NS : List Nd) (R : List Int) : Sorted NS (walkR NS R) (sorted NS (walkR NS R)) := sorted_is NS _ _ rfl (walkR_nodup NS R) (fun x hx => walkR_find hx)
/-- Lists of nodes that rise and have the same finds are the same. -/
theorem rise_same {M L : List Nd} (hM : Rise (adrs M)) (hL : Rise (adrs L)) (h : ∀ n, n ∈ L ↔ n ∈ M) : L = M := by
  have hK : adrs L = adrs M := rising_ext hL hM fun x => by
    constructor
    · intro hx
      obtain ⟨n, h1, h2⟩ := List.mem_map.1 hx
      exact List.mem_map.2 ⟨n, (h n).1 h1, h2⟩
    · intro hx
      obtain ⟨n, h1, h2⟩ := List.mem_map.1 hx
      exact List.mem_map.2 ⟨n, (h n).2 h1, h2⟩
  refine List.ext_getElem? fun i => ?_
  have hi := congrArg (·[i]?) hK
  simp only [adrs, List.getElem?_map] at hi
  cases h1 : L[i]? with
  | none =>
    rw [h1] at hi
    cases h2 : M[i]? with
    | none => rfl
    | some m => rw [h2] at hi; cases hi
  | some l =>
    obtain ⟨j, hj⟩ := List.mem_iff_getElem?.1 ((h l).1 (List.mem_of_getElem? h1))
    have k1 : (adrs M)[j]? = some l.adr := by rw [List.getElem?_map, hj]; rfl
    have k2 : (adrs M)[i]? = some l.adr := by rw [List.getElem?_map, ← hi, h1]; rfl
    have : j = i := by
      have e1 := idx_rise hM k1
      have e2 := idx_rise hM k2
      rw [e1] at e2
      injection e2
    subst this
    rw [hj]
/-! ### Loops over such lists -/
theorem getD_at {K : List Int} {j : Nat} (h : j < K.length) : K[j]? = some (K.getD j 0) := by rw [List.getD_eq_getElem?_getD, List.getElem?_eq_getElem h]; rfl
end Go.Proofs.Ytekggbmajemmhaa.Gr
