/- Parts of one proof, set together: Fp1, Fp2. What each says stands at its head; no condition beyond theirs. -/
import Derived.Test.YtmolflmljneelaaEs3
import Derived.Maps.Own
import Derived.Maps.OwnOps
import Derived.Maps.RangeWalk
import Derived.Test.YtmolflmljneelaaProg
import Derived.WalkKit
/- Parts of a walk, after my own text Pm1 for another seat. What each says stands at its head. -/
namespace Go.Proofs.Ytmolflmljneelaa.Pm
open Go.RowKit Go.Proofs.YtmolflmljneelaaW.PrintWords Go.Proofs.YtmolflmljneelaaW.PrintLast Go.Proofs.YtmolflmljneelaaW.PrintMore
set_option linter.unusedSimpArgs false
set_option linter.unusedVariables false
/-- A row of N words in block g: its first N cells are S. -/
structure Row (W : World) (g N cap : Nat) (S : List Int) : Prop where
  len : S.length = N
  cur : ∃ cur : Array Value, W.heap[g]? = some (.cells cur 49 (0, 0)) ∧ cur.size = cap ∧ N ≤ cap ∧ cap ≤ maxLen ∧ ∀ i, i < N → cur[i]? = some (.int .u64 (S.getD i 0))
theorem Row.below {W W' : World} {g N cap : Nat} {S : List Int} (h : Row W g N cap S) (hb : Below W.heap.size W W') : Row W' g N cap S := ⟨h.len, let ⟨c, h1, h2⟩ := h.cur; ⟨c, blk_below h1 hb, h2⟩⟩
theorem Row.lt {W : World} {g N cap : Nat} {S : List Int} (h : Row W g N cap S) : g < W.heap.size := let ⟨_, h1, _⟩ := h.cur; blk_lt h1
theorem Row.cell {W : World} {g N cap : Nat} {S : List Int} (h : Row W g N cap S) (i : Nat) (hi : i < N) : W.cell? ⟨g, i, none⟩ = some (.int .u64 (S.getD i 0)) := let ⟨_, h1, _, _, _, h2⟩ := h.cur; (blk_cell h1 i).trans (h2 i hi)
theorem Row.frozen {W : World} {g N cap : Nat} {S : List Int} (h : Row W g N cap S) (i : Nat) : W.frozen? ⟨g, i, none⟩ = false := let ⟨_, h1, _⟩ := h.cur; blk_frozen h1 i
theorem Row.far {W : World} {g N cap : Nat} {S : List Int} (h : Row W g N cap S) {p : Addr} (hp : g ≠ p.block) (u : Value) : Row (W.setCell p u) g N cap S := ⟨h.len, let ⟨c, h1, h2⟩ := h.cur; ⟨c, blk_far h1 hp u, h2⟩⟩
theorem Row.drewN {W : World} {g N cap : Nat} {S : List Int} (h : Row W g N cap S) (n : Nat) : Row (W.drewN n) g N cap S := ⟨h.len, h.cur⟩
theorem Row.put {W : World} {g N cap : Nat} {S : List Int} (h : Row W g N cap S) (i : Nat) (hi : i < N) (x : Int) : Row (W.setCell ⟨g, i, none⟩ (.int .u64 x)) g N cap (S.set i x) := by
  refine ⟨by rw [List.length_set]; exact h.len, ?_⟩
  obtain ⟨c, h1, h2, h3, h4, h5⟩ := h.cur
  refine ⟨c.setIfInBounds i (.int .u64 x), blk_set h1 i _, by simp [h2], h3, h4, fun j hj => ?_⟩
  rw [Array.getElem?_setIfInBounds]
  have hl := h.len
  by_cases e : i = j
  · subst e
    rw [if_pos rfl, if_pos (by omega)]
    simp [hl, hj]
  · rw [if_neg e, h5 j hj]
    simp only [List.getD_eq_getElem?_getD, List.getElem?_set]
    rw [if_neg e]
def noteL (l : List Value) : Option (DataW Unit × List MemPlace) := match l with
  | [.int .u64 a0, .int .u64 a1, .int .u64 a2, .int .u64 a3, .int .u64 a4, .int .u64 a5, .int .u64 a6, .int .u64 a7] => some (.agg [.lit (.int .u64 a0), .lit (.int .u64 a1), .lit (.int .u64 a2), .lit (.int .u64 a3), .lit (.int .u64 a4), .lit (.int .u64 a5), .lit (.int .u64 a6), .lit (.int .u64 a7)], [])
  | _ => none
def noteR (v : Value) : Option (DataW Unit × List MemPlace) := match v with
  | .agg cs => noteL cs.toList
  | _ => none
/-- The region at block p. -/
structure Rg (W : World) (p gs gk bm N cs ck n : Nat) (S K : List Int) (D : DataW Unit) : Prop where
  tp : ∃ st : Int, W.heap[p]? = some (.cells #[.slice (some ⟨gs, 0, none⟩) N cs, .slice (some ⟨gk, 0, none⟩) N ck, .map (some bm), .int .i64 st] 86 (0, 0))
  rs : Row W gs N cs S
  rk : Row W gk N ck K
  mp : W.ownsMap Try.prog 3 noteR bm n D
  ne : p ≠ gs ∧ p ≠ gk ∧ gs ≠ gk ∧ bm ≠ p ∧ bm ≠ gs ∧ bm ≠ gk
theorem owns_below {W W' : World} {bm n : Nat} {D : DataW Unit} (h : W.ownsMap Try.prog 3 noteR bm n D) (hb : Below W.heap.size W W') : W'.ownsMap Try.prog 3 noteR bm n D := by
  have hlt := h.lt
  obtain ⟨es, clock, h1, h2⟩ := h
  exact ⟨es, clock, (hb.block bm hlt).trans h1, h2⟩
theorem owns_far {W : World} {bm n : Nat} {D : DataW Unit} (h : W.ownsMap Try.prog 3 noteR bm n D) {p : Addr} (hp : bm ≠ p.block) (u : Value) : (W.setCell p u).ownsMap Try.prog 3 noteR bm n D := by
  obtain ⟨es, clock, h1, h2⟩ := h
  exact ⟨es, clock, (Below.heap_setCell W p u bm hp).trans h1, h2⟩
section
variable {W W' : World} {p gs gk bm N cs ck n : Nat} {S K : List Int} {D : DataW Unit}
theorem Rg.below (h : Rg W p gs gk bm N cs ck n S K D) (hb : Below W.heap.size W W') : Rg W' p gs gk bm N cs ck n S K D := ⟨let ⟨st, h1⟩ := h.tp; ⟨st, blk_below h1 hb⟩, h.rs.below hb, h.rk.below hb, owns_below h.mp hb, h.ne⟩
theorem Rg.drewN (h : Rg W p gs gk bm N cs ck n S K D) (m : Nat) : Rg (W.drewN m) p gs gk bm N cs ck n S K D := ⟨h.tp, h.rs.drewN m, h.rk.drewN m, h.mp, h.ne⟩
theorem Rg.step (h : Rg W p gs gk bm N cs ck n S K D) (st : Int) : Rg (W.setCell ⟨p, 3, none⟩ (.int .i64 st)) p gs gk bm N cs ck n S K D := by
  obtain ⟨n1, n2, n3, n4, n5, n6⟩ := h.ne
  refine ⟨?_, h.rs.far (p := ⟨p, 3, none⟩) (fun e => n1 e.symm) _, h.rk.far (p := ⟨p, 3, none⟩) (fun e => n2 e.symm) _, owns_far h.mp (p := ⟨p, 3, none⟩) n4 _, h.ne⟩
  obtain ⟨st0, h1⟩ := h.tp
  exact ⟨st, blk_put h1 3 _ rfl⟩
theorem Rg.store (h : Rg W p gs gk bm N cs ck n S K D) (i : Nat) (hi : i < N) (x : Int) : Rg (W.setCell ⟨gs, i, none⟩ (.int .u64 x)) p gs gk bm N cs ck n (S.set i x) K D := by
  obtain ⟨n1, n2, n3, n4, n5, n6⟩ := h.ne
  exact ⟨let ⟨st, h1⟩ := h.tp; ⟨st, blk_far h1 n1 _⟩, h.rs.put i hi x, h.rk.far (p := ⟨gs, i, none⟩) (fun e => n3 e.symm) _, owns_far h.mp (p := ⟨gs, i, none⟩) n5 _, h.ne⟩
theorem Rg.lt (h : Rg W p gs gk bm N cs ck n S K D) : p < W.heap.size ∧ gs < W.heap.size ∧ gk < W.heap.size ∧ bm < W.heap.size := ⟨let ⟨_, h1⟩ := h.tp; blk_lt h1, h.rs.lt, h.rk.lt, h.mp.lt⟩
end
theorem size_calls (W : World) {p gs gk bm N cs ck n : Nat} {S K : List Int} {D : DataW Unit} (h : Rg W p gs gk bm N cs ck n S K D) : Calls Try.prog 71 #[.pointer (some ⟨p, 0, none⟩)] W fun e w' => e = .returned (.int .i64 N) ∧ w' = W := by
  obtain ⟨st, hp⟩ := h.tp
  have hu := Try.underlying86
  have h0 : W.cell? ⟨p, 0, none⟩ = some (.slice (some ⟨gs, 0, none⟩) N cs) := (blk_cell hp 0).trans rfl
  go_enter Try.func71, Try.ntmps71
  go_wp2
  go_ret
  exact ⟨rfl, rfl⟩
def thereB (N : Nat) (a : Int) : Bool := decide (0 ≤ a ∧ a < N)
theorem there_calls (W : World) {p gs gk bm N cs ck n : Nat} {S K : List Int} {D : DataW Unit} (h : Rg W p gs gk bm N cs ck n S K D) (a : Int) : Calls Try.prog 69 #[.pointer (some ⟨p, 0, none⟩), .int .i64 a] W fun e w' => e = .returned (.bool (thereB N a)) ∧ w' = W := by
  unfold thereB
  by_cases h1 : 0 ≤ a
  · by_cases h2 : a < N
    · rw [decide_eq_true ⟨h1, h2⟩]
      have hd : decide (a ≥ 0) = true := decide_eq_true h1
      have hd2 : decide (a < (N : Int)) = true := decide_eq_true h2
      go_enter Try.func69, Try.ntmps69
      go_wp2_with (go_at_call 71; refine (size_calls _ h).mono ?_; rintro e w' ⟨rfl, rfl⟩)
      go_ret
      exact ⟨by simp [h2], rfl⟩
    · rw [decide_eq_false (fun x => h2 x.2)]
      have hd : decide (a ≥ 0) = true := decide_eq_true h1
      have hd2 : decide (a < (N : Int)) = false := decide_eq_false h2
      go_enter Try.func69, Try.ntmps69
      go_wp2_with (go_at_call 71; refine (size_calls _ h).mono ?_; rintro e w' ⟨rfl, rfl⟩)
      go_ret
      exact ⟨by first | (simp; done) | (simp; omega), rfl⟩
  · rw [decide_eq_false (fun x => h1 x.1)]
    have hd : decide (a ≥ 0) = false := decide_eq_false h1
    go_enter Try.func69, Try.ntmps69
    go_wp2_with (go_at_call 71; refine (size_calls _ h).mono ?_; rintro e w' ⟨rfl, rfl⟩)
    go_ret
    exact ⟨rfl, rfl⟩
theorem line_calls (a : Int) (ha : 0 ≤ a ∧ a < 64) (W : World) : Calls Try.prog 62 #[.int .i64 a] W fun e w' => e = .returned (.int .i64 (a - a % 8)) ∧ w' = W := by
  go_enter Try.func62, Try.ntmps62
  go_wp2
  go_ret
  exact ⟨rfl, rfl⟩
theorem at_no (W : World) {p gs gk bm N cs ck n : Nat} {S K : List Int} {D : DataW Unit} (h : Rg W p gs gk bm N cs ck n S K D) (a : Int) (ha : thereB N a = false) (f : Value) : Calls Try.prog 57 #[.pointer (some ⟨p, 0, none⟩), .int .i64 a, f] W fun e w' => e = .returned (.int .i64 13) ∧ w' = W := by
  go_enter Try.func57, Try.ntmps57
  go_wp2_with (go_at_call 69; refine (there_calls _ h a).mono ?_; rintro e w' ⟨rfl, rfl⟩; rw [ha])
  go_ret
  exact ⟨rfl, rfl⟩
set_option maxHeartbeats 1000000 in
theorem at_store (W : World) {p gs gk bm N cs ck n : Nat} {S K : List Int} {D : DataW Unit} (h : Rg W p gs gk bm N cs ck n S K D) (a : Int) (ha : thereB N a = true) (c1 c2 c3 : Value) (R : World → Prop)
    (hf : Calls Try.prog 58 #[c1, c2, c3] W fun e w' => (∃ v, e = .returned v) ∧ R w') (hR : ∀ w', R w' → ∃ st, w'.cell? ⟨p, 3, none⟩ = some (.int .i64 st) ∧ w'.frozen? ⟨p, 3, none⟩ = false) :
    Calls Try.prog 57 #[.pointer (some ⟨p, 0, none⟩), .int .i64 a, .func (.func 58) #[] #[c1, c2, c3]] W fun e w' => e = .returned (.int .i64 0) ∧ ∃ w1 st, R w1 ∧ w' = w1.setCell ⟨p, 3, none⟩ (.int .i64 st) := by
  have hu := Try.underlying86
  go_enter Try.func57, Try.ntmps57
  go_wp2_with (first
    | (go_at_call 69; refine (there_calls _ h a).mono ?_; rintro e w' ⟨rfl, rfl⟩; rw [ha])
    | (go_at_call 58; refine hf.mono ?_; rintro e w1 ⟨⟨v, rfl⟩, hr⟩; obtain ⟨st, hc3, hf3⟩ := hR w1 hr))
  go_ret
  exact ⟨rfl, w1, _, hr, rfl⟩
set_option maxHeartbeats 1000000 in
theorem at_flush (W : World) {p gs gk bm N cs ck n : Nat} {S K : List Int} {D : DataW Unit} (h : Rg W p gs gk bm N cs ck n S K D) (a : Int) (ha : thereB N a = true) (c1 c2 : Value) (R : World → Prop)
    (hf : Calls Try.prog 60 #[c1, c2] W fun e w' => (∃ v, e = .returned v) ∧ R w') (hR : ∀ w', R w' → ∃ st, w'.cell? ⟨p, 3, none⟩ = some (.int .i64 st) ∧ w'.frozen? ⟨p, 3, none⟩ = false) :
    Calls Try.prog 57 #[.pointer (some ⟨p, 0, none⟩), .int .i64 a, .func (.func 60) #[] #[c1, c2]] W fun e w' => e = .returned (.int .i64 0) ∧ ∃ w1 st, R w1 ∧ w' = w1.setCell ⟨p, 3, none⟩ (.int .i64 st) := by
  have hu := Try.underlying86
  go_enter Try.func57, Try.ntmps57
  go_wp2_with (first
    | (go_at_call 69; refine (there_calls _ h a).mono ?_; rintro e w' ⟨rfl, rfl⟩; rw [ha])
    | (go_at_call 60; refine hf.mono ?_; rintro e w1 ⟨⟨v, rfl⟩, hr⟩; obtain ⟨st, hc3, hf3⟩ := hR w1 hr))
  go_ret
  exact ⟨rfl, w1, _, hr, rfl⟩
set_option maxHeartbeats 1000000 in
theorem at_fence (W : World) {p gs gk bm N cs ck n : Nat} {S K : List Int} {D : DataW Unit} (h : Rg W p gs gk bm N cs ck n S K D) (a : Int) (ha : thereB N a = true) (c1 : Value) (R : World → Prop)
    (hf : Calls Try.prog 63 #[c1] W fun e w' => (∃ v, e = .returned v) ∧ R w') (hR : ∀ w', R w' → ∃ st, w'.cell? ⟨p, 3, none⟩ = some (.int .i64 st) ∧ w'.frozen? ⟨p, 3, none⟩ = false) :
    Calls Try.prog 57 #[.pointer (some ⟨p, 0, none⟩), .int .i64 a, .func (.func 63) #[] #[c1]] W fun e w' => e = .returned (.int .i64 0) ∧ ∃ w1 st, R w1 ∧ w' = w1.setCell ⟨p, 3, none⟩ (.int .i64 st) := by
  have hu := Try.underlying86
  go_enter Try.func57, Try.ntmps57
  go_wp2_with (first
    | (go_at_call 69; refine (there_calls _ h a).mono ?_; rintro e w' ⟨rfl, rfl⟩; rw [ha])
    | (go_at_call 63; refine hf.mono ?_; rintro e w1 ⟨⟨v, rfl⟩, hr⟩; obtain ⟨st, hc3, hf3⟩ := hR w1 hr))
  go_ret
  exact ⟨rfl, w1, _, hr, rfl⟩
set_option maxHeartbeats 1000000 in
theorem at_load (W : World) {p gs gk bm N cs ck n : Nat} {S K : List Int} {D : DataW Unit} (h : Rg W p gs gk bm N cs ck n S K D) (a : Int) (ha : thereB N a = true) (c1 c2 c3 : Value) (R : World → Prop)
    (hf : Calls Try.prog 59 #[c1, c2, c3] W fun e w' => (∃ v, e = .returned v) ∧ R w') (hR : ∀ w', R w' → ∃ st, w'.cell? ⟨p, 3, none⟩ = some (.int .i64 st) ∧ w'.frozen? ⟨p, 3, none⟩ = false) :
    Calls Try.prog 57 #[.pointer (some ⟨p, 0, none⟩), .int .i64 a, .func (.func 59) #[] #[c1, c2, c3]] W fun e w' => e = .returned (.int .i64 0) ∧ ∃ w1 st, R w1 ∧ w' = w1.setCell ⟨p, 3, none⟩ (.int .i64 st) := by
  have hu := Try.underlying86
  go_enter Try.func57, Try.ntmps57
  go_wp2_with (first
    | (go_at_call 69; refine (there_calls _ h a).mono ?_; rintro e w' ⟨rfl, rfl⟩; rw [ha])
    | (go_at_call 59; refine hf.mono ?_; rintro e w1 ⟨⟨v, rfl⟩, hr⟩; obtain ⟨st, hc3, hf3⟩ := hR w1 hr))
  go_ret
  exact ⟨rfl, w1, _, hr, rfl⟩
end Go.Proofs.Ytmolflmljneelaa.Pm
/- Parts of a walk, after my own text Pm2 for another seat. What each says stands at its head. -/
namespace Go.Proofs.Ytmolflmljneelaa.Pm
open Go.RowKit Go.Proofs.YtmolflmljneelaaW.PrintWords Go.Proofs.YtmolflmljneelaaW.PrintLast Go.Proofs.YtmolflmljneelaaW.PrintMore
set_option linter.unusedSimpArgs false
set_option linter.unusedVariables false
theorem Rg.step_cell {p gs gk bm N cs ck n : Nat} {S K : List Int} {D : DataW Unit} {W : World} (h : Rg W p gs gk bm N cs ck n S K D) : ∃ st, W.cell? ⟨p, 3, none⟩ = some (.int .i64 st) ∧ W.frozen? ⟨p, 3, none⟩ = false :=
  let ⟨st, h1⟩ := h.tp; ⟨st, (blk_cell h1 3).trans rfl, blk_frozen h1 3⟩
set_option maxHeartbeats 1000000 in
theorem store1 (W : World) {p gs gk bm N cs ck n : Nat} {S K : List Int} {D : DataW Unit} (h : Rg W p gs gk bm N cs ck n S K D) (a x : Int) (ha : 0 ≤ a ∧ a < N) (bx br ba : Nat) (hx : W.cell? ⟨bx, 0, none⟩ = some (.int .u64 x)) (hr : W.cell? ⟨br, 0, none⟩ = some (.pointer (some ⟨p, 0, none⟩))) (haa : W.cell? ⟨ba, 0, none⟩ = some (.int .i64 a)) :
    Calls Try.prog 58 #[.pointer (some ⟨bx, 0, none⟩), .pointer (some ⟨br, 0, none⟩), .pointer (some ⟨ba, 0, none⟩)] W fun e w' => (∃ v, e = .returned v) ∧ ∃ m, w' = (W.setCell ⟨gs, a.toNat, none⟩ (.int .u64 x)).drewN m := by
  obtain ⟨st, hp⟩ := h.tp
  have hu := Try.underlying86
  have h0 : W.cell? ⟨p, 0, none⟩ = some (.slice (some ⟨gs, 0, none⟩) N cs) := (blk_cell hp 0).trans rfl
  have hc := h.rs.cell a.toNat (by omega)
  have hf := h.rs.frozen a.toNat
  have h3 : 0 ≤ a := ha.1
  have h4 : a < (N : Int) := ha.2
  generalize S.getD a.toNat 0 = y at hc
  go_enter Try.func58, Try.ntmps58
  go_region
  go_end0
  exact ⟨⟨_, rfl⟩, 1, rfl⟩
set_option maxHeartbeats 1000000 in
theorem load1 (W : World) {p gs gk bm N cs ck n : Nat} {S K : List Int} {D : DataW Unit} (h : Rg W p gs gk bm N cs ck n S K D) (a : Int) (ha : 0 ≤ a ∧ a < N) (br ba bx : Nat) (hx : W.cell? ⟨bx, 0, none⟩ = some (.int .u64 0)) (hfx : W.frozen? ⟨bx, 0, none⟩ = false) (hr : W.cell? ⟨br, 0, none⟩ = some (.pointer (some ⟨p, 0, none⟩))) (haa : W.cell? ⟨ba, 0, none⟩ = some (.int .i64 a)) :
    Calls Try.prog 59 #[.pointer (some ⟨br, 0, none⟩), .pointer (some ⟨ba, 0, none⟩), .pointer (some ⟨bx, 0, none⟩)] W fun e w' => (∃ v, e = .returned v) ∧ ∃ m, w' = (W.setCell ⟨bx, 0, none⟩ (.int .u64 (S.getD a.toNat 0))).drewN m := by
  obtain ⟨st, hp⟩ := h.tp
  have hu := Try.underlying86
  have h0 : W.cell? ⟨p, 0, none⟩ = some (.slice (some ⟨gs, 0, none⟩) N cs) := (blk_cell hp 0).trans rfl
  have hc := h.rs.cell a.toNat (by omega)
  have h3 : 0 ≤ a := ha.1
  have h4 : a < (N : Int) := ha.2
  generalize S.getD a.toNat 0 = y at hc ⊢
  go_enter Try.func59, Try.ntmps59
  go_region
  go_end0
  exact ⟨⟨_, rfl⟩, 1, rfl⟩

set_option maxHeartbeats 2000000 in
theorem store_no (W : World) {p gs gk bm N cs ck n : Nat} {S K : List Int} {D : DataW Unit} (h : Rg W p gs gk bm N cs ck n S K D) (a x : Int) (ha : thereB N a = false) : Calls Try.prog 44 #[.pointer (some ⟨p, 0, none⟩), .int .i64 a, .int .u64 x] W fun e w' => e = .returned (.int .i64 13) ∧ Rg w' p gs gk bm N cs ck n S K D ∧ Below W.heap.size W w' := by
  have HB := Aside0.mk (Below.refl W.heap.size W)
  go_enter Try.func44, Try.ntmps44
  go_wp2_with (first | ((with_reducible refine gate_dst (N := 3) rfl ?_); refine box_event ?hg (N := 3) ?hd (cs := #[.pointer (some ⟨p, 0, none⟩)]) (t := 25) ?hr ?_; (case hd => rfl); (case hg => rfl); (case hr => first | (go_simp; done) | (go_simp; rfl)); intro g3 hg w1_ hbox hb; have n0_ := Aside0.mk (below_step (by repeat (first | (with_reducible first | exact HB.out | apply below_alloc | apply pw_below_drewN | apply below_drew1) | exact HB.out)) hb); have n1_ := Aside0.mk hbox; have n2_ := Aside0.mk ((by rw [hg]; exact (below_size (by repeat (first | (with_reducible first | exact HB.out | apply below_alloc | apply pw_below_drewN | apply below_drew1) | exact HB.out)))) : W.heap.size ≤ g3); clear HB; have HB := n0_; have BK3 := n1_; have GE3 := n2_; clear n0_ n1_ n2_; clear hb hbox hg; have hc3_0 : w1_.cell? ⟨g3, 0, none⟩ = some (.pointer (some ⟨p, 0, none⟩)) := (blk_cell BK3.out 0).trans rfl; have hf3_0 := blk_frozen BK3.out 0) | ((with_reducible refine gate_dst (N := 4) rfl ?_); refine box_event ?hg (N := 4) ?hd (cs := #[.int .i64 a]) (t := 3) ?hr ?_; (case hd => rfl); (case hg => rfl); (case hr => first | (go_simp; done) | (go_simp; rfl)); intro g4 hg w2_ hbox hb; have n0_ := Aside0.mk (below_step (by repeat (first | (with_reducible first | exact HB.out | apply below_alloc | apply pw_below_drewN | apply below_drew1 | refine below_set ?_ GE3.out) | exact HB.out)) hb); have n1_ := Aside0.mk (blk_below (g := g3) (o := .cells #[.pointer (some ⟨p, 0, none⟩)] 25 (0, 0)) (by (with_reducible repeat (first | refine blk_drewN ?_ _ | refine blk_drew ?_ | refine blk_alloc ?_ _)); exact BK3.out) hb); have n2_ := Aside0.mk hbox; have n3_ := Aside0.mk ((by rw [hg]; exact (below_size (by repeat (first | (with_reducible first | exact HB.out | apply below_alloc | apply pw_below_drewN | apply below_drew1 | refine below_set ?_ GE3.out) | exact HB.out)))) : W.heap.size ≤ g4); have n4_ := Aside0.mk ((by rw [hg]; exact Nat.ne_of_lt (blk_lt (g := g3) (o := .cells #[.pointer (some ⟨p, 0, none⟩)] 25 (0, 0)) (by (with_reducible repeat (first | refine blk_drewN ?_ _ | refine blk_drew ?_ | refine blk_alloc ?_ _)); exact BK3.out))) : g3 ≠ g4); clear HB; clear BK3; have HB := n0_; have BK3 := n1_; have BK4 := n2_; have GE4 := n3_; have NE3_4 := n4_; clear n0_ n1_ n2_ n3_ n4_; clear hb hbox hg; have hc3_0 : w2_.cell? ⟨g3, 0, none⟩ = some (.pointer (some ⟨p, 0, none⟩)) := (blk_cell BK3.out 0).trans rfl; have hf3_0 := blk_frozen BK3.out 0; have hc4_0 : w2_.cell? ⟨g4, 0, none⟩ = some (.int .i64 a) := (blk_cell BK4.out 0).trans rfl; have hf4_0 := blk_frozen BK4.out 0) | ((with_reducible refine gate_dst (N := 5) rfl ?_); refine box_event ?hg (N := 5) ?hd (cs := #[.int .u64 x]) (t := 49) ?hr ?_; (case hd => rfl); (case hg => rfl); (case hr => first | (go_simp; done) | (go_simp; rfl)); intro g5 hg w3_ hbox hb; have n0_ := Aside0.mk (below_step (by repeat (first | (with_reducible first | exact HB.out | apply below_alloc | apply pw_below_drewN | apply below_drew1 | refine below_set ?_ GE3.out | refine below_set ?_ GE4.out) | exact HB.out)) hb); have n1_ := Aside0.mk (blk_below (g := g3) (o := .cells #[.pointer (some ⟨p, 0, none⟩)] 25 (0, 0)) (by (with_reducible repeat (first | refine blk_drewN ?_ _ | refine blk_drew ?_ | refine blk_alloc ?_ _)); exact BK3.out) hb); have n2_ := Aside0.mk (blk_below (g := g4) (o := .cells #[.int .i64 a] 3 (0, 0)) (by (with_reducible repeat (first | refine blk_drewN ?_ _ | refine blk_drew ?_ | refine blk_alloc ?_ _)); exact BK4.out) hb); have n3_ := Aside0.mk hbox; have n4_ := Aside0.mk ((by rw [hg]; exact (below_size (by repeat (first | (with_reducible first | exact HB.out | apply below_alloc | apply pw_below_drewN | apply below_drew1 | refine below_set ?_ GE3.out | refine below_set ?_ GE4.out) | exact HB.out)))) : W.heap.size ≤ g5); have n5_ := Aside0.mk ((by rw [hg]; exact Nat.ne_of_lt (blk_lt (g := g3) (o := .cells #[.pointer (some ⟨p, 0, none⟩)] 25 (0, 0)) (by (with_reducible repeat (first | refine blk_drewN ?_ _ | refine blk_drew ?_ | refine blk_alloc ?_ _)); exact BK3.out))) : g3 ≠ g5); have n6_ := Aside0.mk ((by rw [hg]; exact Nat.ne_of_lt (blk_lt (g := g4) (o := .cells #[.int .i64 a] 3 (0, 0)) (by (with_reducible repeat (first | refine blk_drewN ?_ _ | refine blk_drew ?_ | refine blk_alloc ?_ _)); exact BK4.out))) : g4 ≠ g5); clear HB; clear BK3; clear BK4; have HB := n0_; have BK3 := n1_; have BK4 := n2_; have BK5 := n3_; have GE5 := n4_; have NE3_5 := n5_; have NE4_5 := n6_; clear n0_ n1_ n2_ n3_ n4_ n5_ n6_; clear hb hbox hg; have hc3_0 : w3_.cell? ⟨g3, 0, none⟩ = some (.pointer (some ⟨p, 0, none⟩)) := (blk_cell BK3.out 0).trans rfl; have hf3_0 := blk_frozen BK3.out 0; have hc4_0 : w3_.cell? ⟨g4, 0, none⟩ = some (.int .i64 a) := (blk_cell BK4.out 0).trans rfl; have hf4_0 := blk_frozen BK4.out 0; have hc5_0 : w3_.cell? ⟨g5, 0, none⟩ = some (.int .u64 x) := (blk_cell BK5.out 0).trans rfl; have hf5_0 := blk_frozen BK5.out 0) | (go_at_call 57; have hT := h.below HB.out; have hgs := h.lt; have hsz := HB.out.size; have hq3 : w3_.cell? ⟨g3, 0, none⟩ = some (.pointer (some ⟨p, 0, none⟩)) := (blk_cell BK3.out 0).trans rfl; have hq4 : w3_.cell? ⟨g4, 0, none⟩ = some (.int .i64 a) := (blk_cell BK4.out 0).trans rfl; have hq5 : w3_.cell? ⟨g5, 0, none⟩ = some (.int .u64 x) := (blk_cell BK5.out 0).trans rfl; refine (at_no w3_ hT a ha _).mono ?_; rintro e w' ⟨rfl, hw⟩; obtain rfl := hw.symm))
  go_ret
  exact ⟨rfl, hT, HB.out⟩
set_option maxHeartbeats 2000000 in
theorem store_in (W : World) {p gs gk bm N cs ck n : Nat} {S K : List Int} {D : DataW Unit} (h : Rg W p gs gk bm N cs ck n S K D) (a x : Int) (ha : 0 ≤ a ∧ a < N) (hb : thereB N a = true) (X : Nat → Prop) (hBp : X p) (hBs : X gs) : Calls Try.prog 44 #[.pointer (some ⟨p, 0, none⟩), .int .i64 a, .int .u64 x] W fun e w' => e = .returned (.int .i64 0) ∧ Rg w' p gs gk bm N cs ck n (S.set a.toNat x) K D ∧ Fr X W w' := by
  have HB := Aside0.mk (Below.refl W.heap.size W)
  go_enter Try.func44, Try.ntmps44
  go_wp2_with (first | ((with_reducible refine gate_dst (N := 3) rfl ?_); refine box_event ?hg (N := 3) ?hd (cs := #[.pointer (some ⟨p, 0, none⟩)]) (t := 25) ?hr ?_; (case hd => rfl); (case hg => rfl); (case hr => first | (go_simp; done) | (go_simp; rfl)); intro g3 hg w1_ hbox hb; have n0_ := Aside0.mk (below_step (by repeat (first | (with_reducible first | exact HB.out | apply below_alloc | apply pw_below_drewN | apply below_drew1) | exact HB.out)) hb); have n1_ := Aside0.mk hbox; have n2_ := Aside0.mk ((by rw [hg]; exact (below_size (by repeat (first | (with_reducible first | exact HB.out | apply below_alloc | apply pw_below_drewN | apply below_drew1) | exact HB.out)))) : W.heap.size ≤ g3); clear HB; have HB := n0_; have BK3 := n1_; have GE3 := n2_; clear n0_ n1_ n2_; clear hb hbox hg; have hc3_0 : w1_.cell? ⟨g3, 0, none⟩ = some (.pointer (some ⟨p, 0, none⟩)) := (blk_cell BK3.out 0).trans rfl; have hf3_0 := blk_frozen BK3.out 0) | ((with_reducible refine gate_dst (N := 4) rfl ?_); refine box_event ?hg (N := 4) ?hd (cs := #[.int .i64 a]) (t := 3) ?hr ?_; (case hd => rfl); (case hg => rfl); (case hr => first | (go_simp; done) | (go_simp; rfl)); intro g4 hg w2_ hbox hb; have n0_ := Aside0.mk (below_step (by repeat (first | (with_reducible first | exact HB.out | apply below_alloc | apply pw_below_drewN | apply below_drew1 | refine below_set ?_ GE3.out) | exact HB.out)) hb); have n1_ := Aside0.mk (blk_below (g := g3) (o := .cells #[.pointer (some ⟨p, 0, none⟩)] 25 (0, 0)) (by (with_reducible repeat (first | refine blk_drewN ?_ _ | refine blk_drew ?_ | refine blk_alloc ?_ _)); exact BK3.out) hb); have n2_ := Aside0.mk hbox; have n3_ := Aside0.mk ((by rw [hg]; exact (below_size (by repeat (first | (with_reducible first | exact HB.out | apply below_alloc | apply pw_below_drewN | apply below_drew1 | refine below_set ?_ GE3.out) | exact HB.out)))) : W.heap.size ≤ g4); have n4_ := Aside0.mk ((by rw [hg]; exact Nat.ne_of_lt (blk_lt (g := g3) (o := .cells #[.pointer (some ⟨p, 0, none⟩)] 25 (0, 0)) (by (with_reducible repeat (first | refine blk_drewN ?_ _ | refine blk_drew ?_ | refine blk_alloc ?_ _)); exact BK3.out))) : g3 ≠ g4); clear HB; clear BK3; have HB := n0_; have BK3 := n1_; have BK4 := n2_; have GE4 := n3_; have NE3_4 := n4_; clear n0_ n1_ n2_ n3_ n4_; clear hb hbox hg; have hc3_0 : w2_.cell? ⟨g3, 0, none⟩ = some (.pointer (some ⟨p, 0, none⟩)) := (blk_cell BK3.out 0).trans rfl; have hf3_0 := blk_frozen BK3.out 0; have hc4_0 : w2_.cell? ⟨g4, 0, none⟩ = some (.int .i64 a) := (blk_cell BK4.out 0).trans rfl; have hf4_0 := blk_frozen BK4.out 0) | ((with_reducible refine gate_dst (N := 5) rfl ?_); refine box_event ?hg (N := 5) ?hd (cs := #[.int .u64 x]) (t := 49) ?hr ?_; (case hd => rfl); (case hg => rfl); (case hr => first | (go_simp; done) | (go_simp; rfl)); intro g5 hg w3_ hbox hb; have n0_ := Aside0.mk (below_step (by repeat (first | (with_reducible first | exact HB.out | apply below_alloc | apply pw_below_drewN | apply below_drew1 | refine below_set ?_ GE3.out | refine below_set ?_ GE4.out) | exact HB.out)) hb); have n1_ := Aside0.mk (blk_below (g := g3) (o := .cells #[.pointer (some ⟨p, 0, none⟩)] 25 (0, 0)) (by (with_reducible repeat (first | refine blk_drewN ?_ _ | refine blk_drew ?_ | refine blk_alloc ?_ _)); exact BK3.out) hb); have n2_ := Aside0.mk (blk_below (g := g4) (o := .cells #[.int .i64 a] 3 (0, 0)) (by (with_reducible repeat (first | refine blk_drewN ?_ _ | refine blk_drew ?_ | refine blk_alloc ?_ _)); exact BK4.out) hb); have n3_ := Aside0.mk hbox; have n4_ := Aside0.mk ((by rw [hg]; exact (below_size (by repeat (first | (with_reducible first | exact HB.out | apply below_alloc | apply pw_below_drewN | apply below_drew1 | refine below_set ?_ GE3.out | refine below_set ?_ GE4.out) | exact HB.out)))) : W.heap.size ≤ g5); have n5_ := Aside0.mk ((by rw [hg]; exact Nat.ne_of_lt (blk_lt (g := g3) (o := .cells #[.pointer (some ⟨p, 0, none⟩)] 25 (0, 0)) (by (with_reducible repeat (first | refine blk_drewN ?_ _ | refine blk_drew ?_ | refine blk_alloc ?_ _)); exact BK3.out))) : g3 ≠ g5); have n6_ := Aside0.mk ((by rw [hg]; exact Nat.ne_of_lt (blk_lt (g := g4) (o := .cells #[.int .i64 a] 3 (0, 0)) (by (with_reducible repeat (first | refine blk_drewN ?_ _ | refine blk_drew ?_ | refine blk_alloc ?_ _)); exact BK4.out))) : g4 ≠ g5); clear HB; clear BK3; clear BK4; have HB := n0_; have BK3 := n1_; have BK4 := n2_; have BK5 := n3_; have GE5 := n4_; have NE3_5 := n5_; have NE4_5 := n6_; clear n0_ n1_ n2_ n3_ n4_ n5_ n6_; clear hb hbox hg; have hc3_0 : w3_.cell? ⟨g3, 0, none⟩ = some (.pointer (some ⟨p, 0, none⟩)) := (blk_cell BK3.out 0).trans rfl; have hf3_0 := blk_frozen BK3.out 0; have hc4_0 : w3_.cell? ⟨g4, 0, none⟩ = some (.int .i64 a) := (blk_cell BK4.out 0).trans rfl; have hf4_0 := blk_frozen BK4.out 0; have hc5_0 : w3_.cell? ⟨g5, 0, none⟩ = some (.int .u64 x) := (blk_cell BK5.out 0).trans rfl; have hf5_0 := blk_frozen BK5.out 0) | (go_at_call 57; have hT := h.below HB.out; have hgs := h.lt; have hsz := HB.out.size; have hq3 : w3_.cell? ⟨g3, 0, none⟩ = some (.pointer (some ⟨p, 0, none⟩)) := (blk_cell BK3.out 0).trans rfl; have hq4 : w3_.cell? ⟨g4, 0, none⟩ = some (.int .i64 a) := (blk_cell BK4.out 0).trans rfl; have hq5 : w3_.cell? ⟨g5, 0, none⟩ = some (.int .u64 x) := (blk_cell BK5.out 0).trans rfl; refine (at_store w3_ hT a hb _ _ _ (fun w1 => ∃ m, w1 = (w3_.setCell ⟨gs, a.toNat, none⟩ (.int .u64 x)).drewN m) (store1 w3_ hT a x ha g5 g3 g4 hq5 hq3 hq4) (fun w1 hw => by obtain ⟨m, rfl⟩ := hw; exact ((hT.store a.toNat (by omega) x).drewN m).step_cell)).mono ?_; rintro e w' ⟨rfl, w1, st, ⟨m, rfl⟩, rfl⟩))
  go_ret
  refine ⟨rfl, ((hT.store a.toNat (by omega) x).drewN m).step st, ?_⟩
  have hb1 : Fr X W w3_ := Fr.of HB.out
  exact ((hb1.setCell (p := ⟨gs, a.toNat, none⟩) (.inl hBs) _).drewN m).setCell (p := ⟨p, 3, none⟩) (.inl hBp) _

set_option maxHeartbeats 2000000 in
theorem load_no (W : World) {p gs gk bm N cs ck n : Nat} {S K : List Int} {D : DataW Unit} (h : Rg W p gs gk bm N cs ck n S K D) (a : Int) (ha : thereB N a = false) : Calls Try.prog 46 #[.pointer (some ⟨p, 0, none⟩), .int .i64 a] W fun e w' => e = .returned (.tuple #[.int .u64 0, .int .i64 13]) ∧ Rg w' p gs gk bm N cs ck n S K D ∧ Below W.heap.size W w' := by
  have HB := Aside0.mk (Below.refl W.heap.size W)
  go_enter Try.func46, Try.ntmps46
  go_upto_region 2 with (first | ((with_reducible refine gate_dst (N := 2) rfl ?_); refine box_event ?hg (N := 2) ?hd (cs := #[.pointer (some ⟨p, 0, none⟩)]) (t := 25) ?hr ?_; (case hd => rfl); (case hg => rfl); (case hr => first | (go_simp; done) | (go_simp; rfl)); intro g2 hg w1_ hbox hb; have n0_ := Aside0.mk (below_step (by repeat (first | (with_reducible first | exact HB.out | apply below_alloc | apply pw_below_drewN | apply below_drew1) | exact HB.out)) hb); have n1_ := Aside0.mk hbox; have n2_ := Aside0.mk ((by rw [hg]; exact (below_size (by repeat (first | (with_reducible first | exact HB.out | apply below_alloc | apply pw_below_drewN | apply below_drew1) | exact HB.out)))) : W.heap.size ≤ g2); clear HB; have HB := n0_; have BK2 := n1_; have GE2 := n2_; clear n0_ n1_ n2_; clear hb hbox hg; have hc2_0 : w1_.cell? ⟨g2, 0, none⟩ = some (.pointer (some ⟨p, 0, none⟩)) := (blk_cell BK2.out 0).trans rfl; have hf2_0 := blk_frozen BK2.out 0) | ((with_reducible refine gate_dst (N := 3) rfl ?_); refine box_event ?hg (N := 3) ?hd (cs := #[.int .i64 a]) (t := 3) ?hr ?_; (case hd => rfl); (case hg => rfl); (case hr => first | (go_simp; done) | (go_simp; rfl)); intro g3 hg w2_ hbox hb; have n0_ := Aside0.mk (below_step (by repeat (first | (with_reducible first | exact HB.out | apply below_alloc | apply pw_below_drewN | apply below_drew1 | refine below_set ?_ GE2.out) | exact HB.out)) hb); have n1_ := Aside0.mk (blk_below (g := g2) (o := .cells #[.pointer (some ⟨p, 0, none⟩)] 25 (0, 0)) (by (with_reducible repeat (first | refine blk_drewN ?_ _ | refine blk_drew ?_ | refine blk_alloc ?_ _)); exact BK2.out) hb); have n2_ := Aside0.mk hbox; have n3_ := Aside0.mk ((by rw [hg]; exact (below_size (by repeat (first | (with_reducible first | exact HB.out | apply below_alloc | apply pw_below_drewN | apply below_drew1 | refine below_set ?_ GE2.out) | exact HB.out)))) : W.heap.size ≤ g3); have n4_ := Aside0.mk ((by rw [hg]; exact Nat.ne_of_lt (blk_lt (g := g2) (o := .cells #[.pointer (some ⟨p, 0, none⟩)] 25 (0, 0)) (by (with_reducible repeat (first | refine blk_drewN ?_ _ | refine blk_drew ?_ | refine blk_alloc ?_ _)); exact BK2.out))) : g2 ≠ g3); clear HB; clear BK2; have HB := n0_; have BK2 := n1_; have BK3 := n2_; have GE3 := n3_; have NE2_3 := n4_; clear n0_ n1_ n2_ n3_ n4_; clear hb hbox hg; have hc2_0 : w2_.cell? ⟨g2, 0, none⟩ = some (.pointer (some ⟨p, 0, none⟩)) := (blk_cell BK2.out 0).trans rfl; have hf2_0 := blk_frozen BK2.out 0; have hc3_0 : w2_.cell? ⟨g3, 0, none⟩ = some (.int .i64 a) := (blk_cell BK3.out 0).trans rfl; have hf3_0 := blk_frozen BK3.out 0) | ((with_reducible refine gate_dst (N := 6) rfl ?_); refine box_event ?hg (N := 6) ?hd (cs := #[.int .u64 0]) (t := 49) ?hr ?_; (case hd => rfl); (case hg => rfl); (case hr => first | (go_simp; done) | (go_simp; rfl)); intro g6 hg w3_ hbox hb; have n0_ := Aside0.mk (below_step (by repeat (first | (with_reducible first | exact HB.out | apply below_alloc | apply pw_below_drewN | apply below_drew1 | refine below_set ?_ GE2.out | refine below_set ?_ GE3.out) | exact HB.out)) hb); have n1_ := Aside0.mk (blk_below (g := g2) (o := .cells #[.pointer (some ⟨p, 0, none⟩)] 25 (0, 0)) (by (with_reducible repeat (first | refine blk_drewN ?_ _ | refine blk_drew ?_ | refine blk_alloc ?_ _)); exact BK2.out) hb); have n2_ := Aside0.mk (blk_below (g := g3) (o := .cells #[.int .i64 a] 3 (0, 0)) (by (with_reducible repeat (first | refine blk_drewN ?_ _ | refine blk_drew ?_ | refine blk_alloc ?_ _)); exact BK3.out) hb); have n3_ := Aside0.mk hbox; have n4_ := Aside0.mk ((by rw [hg]; exact (below_size (by repeat (first | (with_reducible first | exact HB.out | apply below_alloc | apply pw_below_drewN | apply below_drew1 | refine below_set ?_ GE2.out | refine below_set ?_ GE3.out) | exact HB.out)))) : W.heap.size ≤ g6); have n5_ := Aside0.mk ((by rw [hg]; exact Nat.ne_of_lt (blk_lt (g := g2) (o := .cells #[.pointer (some ⟨p, 0, none⟩)] 25 (0, 0)) (by (with_reducible repeat (first | refine blk_drewN ?_ _ | refine blk_drew ?_ | refine blk_alloc ?_ _)); exact BK2.out))) : g2 ≠ g6); have n6_ := Aside0.mk ((by rw [hg]; exact Nat.ne_of_lt (blk_lt (g := g3) (o := .cells #[.int .i64 a] 3 (0, 0)) (by (with_reducible repeat (first | refine blk_drewN ?_ _ | refine blk_drew ?_ | refine blk_alloc ?_ _)); exact BK3.out))) : g3 ≠ g6); clear HB; clear BK2; clear BK3; have HB := n0_; have BK2 := n1_; have BK3 := n2_; have BK6 := n3_; have GE6 := n4_; have NE2_6 := n5_; have NE3_6 := n6_; clear n0_ n1_ n2_ n3_ n4_ n5_ n6_; clear hb hbox hg; have hc2_0 : w3_.cell? ⟨g2, 0, none⟩ = some (.pointer (some ⟨p, 0, none⟩)) := (blk_cell BK2.out 0).trans rfl; have hf2_0 := blk_frozen BK2.out 0; have hc3_0 : w3_.cell? ⟨g3, 0, none⟩ = some (.int .i64 a) := (blk_cell BK3.out 0).trans rfl; have hf3_0 := blk_frozen BK3.out 0; have hc6_0 : w3_.cell? ⟨g6, 0, none⟩ = some (.int .u64 0) := (blk_cell BK6.out 0).trans rfl; have hf6_0 := blk_frozen BK6.out 0))
  generalize hw_ : (w3_.setCell ⟨g6, 0, none⟩ (.int .u64 0)) = w4_
  have n0_ := Aside0.mk (show Below W.heap.size W w4_ from by rw [← hw_]; exact (by repeat (first | (with_reducible first | exact HB.out | apply below_alloc | apply pw_below_drewN | apply below_drew1 | refine below_set ?_ GE2.out | refine below_set ?_ GE3.out | refine below_set ?_ GE6.out) | exact HB.out)))
  have n1_ := Aside0.mk (show w4_.heap[g2]? = some (.cells #[.pointer (some ⟨p, 0, none⟩)] 25 (0, 0)) from by rw [← hw_]; refine blk_far ?_ NE2_6.out _; exact BK2.out)
  have n2_ := Aside0.mk (show w4_.heap[g3]? = some (.cells #[.int .i64 a] 3 (0, 0)) from by rw [← hw_]; refine blk_far ?_ NE3_6.out _; exact BK3.out)
  have n3_ := Aside0.mk (show w4_.heap[g6]? = some (.cells #[.int .u64 0] 49 (0, 0)) from by rw [← hw_]; exact (by (with_reducible repeat (first | refine blk_drewN ?_ _ | refine blk_drew ?_ | refine blk_alloc ?_ _)); refine blk_put (cs := #[.int .u64 0]) ?_ 0 _ rfl; (with_reducible repeat (first | refine blk_drewN ?_ _ | refine blk_drew ?_ | refine blk_alloc ?_ _)); exact BK6.out))
  clear HB
  clear BK2
  clear BK3
  clear BK6
  have HB := n0_
  have BK2 := n1_
  have BK3 := n2_
  have BK6 := n3_
  clear n0_ n1_ n2_ n3_
  clear hw_
  have hc2_0 : w4_.cell? ⟨g2, 0, none⟩ = some (.pointer (some ⟨p, 0, none⟩)) := (blk_cell BK2.out 0).trans rfl
  have hf2_0 := blk_frozen BK2.out 0
  have hc3_0 : w4_.cell? ⟨g3, 0, none⟩ = some (.int .i64 a) := (blk_cell BK3.out 0).trans rfl
  have hf3_0 := blk_frozen BK3.out 0
  have hc6_0 : w4_.cell? ⟨g6, 0, none⟩ = some (.int .u64 0) := (blk_cell BK6.out 0).trans rfl
  have hf6_0 := blk_frozen BK6.out 0
  go_wp2_with (first | (go_at_call 57; have hT := h.below HB.out; have hgs := h.lt; have hsz := HB.out.size; have hfz : w4_.frozen? ⟨g6, 0, none⟩ = false := blk_frozen BK6.out 0; have hq2 : w4_.cell? ⟨g2, 0, none⟩ = some (.pointer (some ⟨p, 0, none⟩)) := (blk_cell BK2.out 0).trans rfl; have hq3 : w4_.cell? ⟨g3, 0, none⟩ = some (.int .i64 a) := (blk_cell BK3.out 0).trans rfl; have hq6 : w4_.cell? ⟨g6, 0, none⟩ = some (.int .u64 0) := (blk_cell BK6.out 0).trans rfl; refine (at_no w4_ hT a ha _).mono ?_; rintro e w' ⟨rfl, hw⟩; obtain rfl := hw.symm))
  go_ret2
  exact ⟨rfl, hT, HB.out⟩
set_option maxHeartbeats 2000000 in
theorem load_in (W : World) {p gs gk bm N cs ck n : Nat} {S K : List Int} {D : DataW Unit} (h : Rg W p gs gk bm N cs ck n S K D) (a y : Int) (ha : 0 ≤ a ∧ a < N) (hb : thereB N a = true) (HY : Aside0 (S.getD a.toNat 0 = y)) (X : Nat → Prop) (hBp : X p) : Calls Try.prog 46 #[.pointer (some ⟨p, 0, none⟩), .int .i64 a] W fun e w' => e = .returned (.tuple #[.int .u64 y, .int .i64 0]) ∧ Rg w' p gs gk bm N cs ck n S K D ∧ Fr X W w' := by
  have HB := Aside0.mk (Below.refl W.heap.size W)
  go_enter Try.func46, Try.ntmps46
  go_upto_region 2 with (first | ((with_reducible refine gate_dst (N := 2) rfl ?_); refine box_event ?hg (N := 2) ?hd (cs := #[.pointer (some ⟨p, 0, none⟩)]) (t := 25) ?hr ?_; (case hd => rfl); (case hg => rfl); (case hr => first | (go_simp; done) | (go_simp; rfl)); intro g2 hg w1_ hbox hb; have n0_ := Aside0.mk (below_step (by repeat (first | (with_reducible first | exact HB.out | apply below_alloc | apply pw_below_drewN | apply below_drew1) | exact HB.out)) hb); have n1_ := Aside0.mk hbox; have n2_ := Aside0.mk ((by rw [hg]; exact (below_size (by repeat (first | (with_reducible first | exact HB.out | apply below_alloc | apply pw_below_drewN | apply below_drew1) | exact HB.out)))) : W.heap.size ≤ g2); clear HB; have HB := n0_; have BK2 := n1_; have GE2 := n2_; clear n0_ n1_ n2_; clear hb hbox hg; have hc2_0 : w1_.cell? ⟨g2, 0, none⟩ = some (.pointer (some ⟨p, 0, none⟩)) := (blk_cell BK2.out 0).trans rfl; have hf2_0 := blk_frozen BK2.out 0) | ((with_reducible refine gate_dst (N := 3) rfl ?_); refine box_event ?hg (N := 3) ?hd (cs := #[.int .i64 a]) (t := 3) ?hr ?_; (case hd => rfl); (case hg => rfl); (case hr => first | (go_simp; done) | (go_simp; rfl)); intro g3 hg w2_ hbox hb; have n0_ := Aside0.mk (below_step (by repeat (first | (with_reducible first | exact HB.out | apply below_alloc | apply pw_below_drewN | apply below_drew1 | refine below_set ?_ GE2.out) | exact HB.out)) hb); have n1_ := Aside0.mk (blk_below (g := g2) (o := .cells #[.pointer (some ⟨p, 0, none⟩)] 25 (0, 0)) (by (with_reducible repeat (first | refine blk_drewN ?_ _ | refine blk_drew ?_ | refine blk_alloc ?_ _)); exact BK2.out) hb); have n2_ := Aside0.mk hbox; have n3_ := Aside0.mk ((by rw [hg]; exact (below_size (by repeat (first | (with_reducible first | exact HB.out | apply below_alloc | apply pw_below_drewN | apply below_drew1 | refine below_set ?_ GE2.out) | exact HB.out)))) : W.heap.size ≤ g3); have n4_ := Aside0.mk ((by rw [hg]; exact Nat.ne_of_lt (blk_lt (g := g2) (o := .cells #[.pointer (some ⟨p, 0, none⟩)] 25 (0, 0)) (by (with_reducible repeat (first | refine blk_drewN ?_ _ | refine blk_drew ?_ | refine blk_alloc ?_ _)); exact BK2.out))) : g2 ≠ g3); clear HB; clear BK2; have HB := n0_; have BK2 := n1_; have BK3 := n2_; have GE3 := n3_; have NE2_3 := n4_; clear n0_ n1_ n2_ n3_ n4_; clear hb hbox hg; have hc2_0 : w2_.cell? ⟨g2, 0, none⟩ = some (.pointer (some ⟨p, 0, none⟩)) := (blk_cell BK2.out 0).trans rfl; have hf2_0 := blk_frozen BK2.out 0; have hc3_0 : w2_.cell? ⟨g3, 0, none⟩ = some (.int .i64 a) := (blk_cell BK3.out 0).trans rfl; have hf3_0 := blk_frozen BK3.out 0) | ((with_reducible refine gate_dst (N := 6) rfl ?_); refine box_event ?hg (N := 6) ?hd (cs := #[.int .u64 0]) (t := 49) ?hr ?_; (case hd => rfl); (case hg => rfl); (case hr => first | (go_simp; done) | (go_simp; rfl)); intro g6 hg w3_ hbox hb; have n0_ := Aside0.mk (below_step (by repeat (first | (with_reducible first | exact HB.out | apply below_alloc | apply pw_below_drewN | apply below_drew1 | refine below_set ?_ GE2.out | refine below_set ?_ GE3.out) | exact HB.out)) hb); have n1_ := Aside0.mk (blk_below (g := g2) (o := .cells #[.pointer (some ⟨p, 0, none⟩)] 25 (0, 0)) (by (with_reducible repeat (first | refine blk_drewN ?_ _ | refine blk_drew ?_ | refine blk_alloc ?_ _)); exact BK2.out) hb); have n2_ := Aside0.mk (blk_below (g := g3) (o := .cells #[.int .i64 a] 3 (0, 0)) (by (with_reducible repeat (first | refine blk_drewN ?_ _ | refine blk_drew ?_ | refine blk_alloc ?_ _)); exact BK3.out) hb); have n3_ := Aside0.mk hbox; have n4_ := Aside0.mk ((by rw [hg]; exact (below_size (by repeat (first | (with_reducible first | exact HB.out | apply below_alloc | apply pw_below_drewN | apply below_drew1 | refine below_set ?_ GE2.out | refine below_set ?_ GE3.out) | exact HB.out)))) : W.heap.size ≤ g6); have n5_ := Aside0.mk ((by rw [hg]; exact Nat.ne_of_lt (blk_lt (g := g2) (o := .cells #[.pointer (some ⟨p, 0, none⟩)] 25 (0, 0)) (by (with_reducible repeat (first | refine blk_drewN ?_ _ | refine blk_drew ?_ | refine blk_alloc ?_ _)); exact BK2.out))) : g2 ≠ g6); have n6_ := Aside0.mk ((by rw [hg]; exact Nat.ne_of_lt (blk_lt (g := g3) (o := .cells #[.int .i64 a] 3 (0, 0)) (by (with_reducible repeat (first | refine blk_drewN ?_ _ | refine blk_drew ?_ | refine blk_alloc ?_ _)); exact BK3.out))) : g3 ≠ g6); clear HB; clear BK2; clear BK3; have HB := n0_; have BK2 := n1_; have BK3 := n2_; have BK6 := n3_; have GE6 := n4_; have NE2_6 := n5_; have NE3_6 := n6_; clear n0_ n1_ n2_ n3_ n4_ n5_ n6_; clear hb hbox hg; have hc2_0 : w3_.cell? ⟨g2, 0, none⟩ = some (.pointer (some ⟨p, 0, none⟩)) := (blk_cell BK2.out 0).trans rfl; have hf2_0 := blk_frozen BK2.out 0; have hc3_0 : w3_.cell? ⟨g3, 0, none⟩ = some (.int .i64 a) := (blk_cell BK3.out 0).trans rfl; have hf3_0 := blk_frozen BK3.out 0; have hc6_0 : w3_.cell? ⟨g6, 0, none⟩ = some (.int .u64 0) := (blk_cell BK6.out 0).trans rfl; have hf6_0 := blk_frozen BK6.out 0))
  generalize hw_ : (w3_.setCell ⟨g6, 0, none⟩ (.int .u64 0)) = w4_
  have n0_ := Aside0.mk (show Below W.heap.size W w4_ from by rw [← hw_]; exact (by repeat (first | (with_reducible first | exact HB.out | apply below_alloc | apply pw_below_drewN | apply below_drew1 | refine below_set ?_ GE2.out | refine below_set ?_ GE3.out | refine below_set ?_ GE6.out) | exact HB.out)))
  have n1_ := Aside0.mk (show w4_.heap[g2]? = some (.cells #[.pointer (some ⟨p, 0, none⟩)] 25 (0, 0)) from by rw [← hw_]; refine blk_far ?_ NE2_6.out _; exact BK2.out)
  have n2_ := Aside0.mk (show w4_.heap[g3]? = some (.cells #[.int .i64 a] 3 (0, 0)) from by rw [← hw_]; refine blk_far ?_ NE3_6.out _; exact BK3.out)
  have n3_ := Aside0.mk (show w4_.heap[g6]? = some (.cells #[.int .u64 0] 49 (0, 0)) from by rw [← hw_]; exact (by (with_reducible repeat (first | refine blk_drewN ?_ _ | refine blk_drew ?_ | refine blk_alloc ?_ _)); refine blk_put (cs := #[.int .u64 0]) ?_ 0 _ rfl; (with_reducible repeat (first | refine blk_drewN ?_ _ | refine blk_drew ?_ | refine blk_alloc ?_ _)); exact BK6.out))
  clear HB
  clear BK2
  clear BK3
  clear BK6
  have HB := n0_
  have BK2 := n1_
  have BK3 := n2_
  have BK6 := n3_
  clear n0_ n1_ n2_ n3_
  clear hw_
  have hc2_0 : w4_.cell? ⟨g2, 0, none⟩ = some (.pointer (some ⟨p, 0, none⟩)) := (blk_cell BK2.out 0).trans rfl
  have hf2_0 := blk_frozen BK2.out 0
  have hc3_0 : w4_.cell? ⟨g3, 0, none⟩ = some (.int .i64 a) := (blk_cell BK3.out 0).trans rfl
  have hf3_0 := blk_frozen BK3.out 0
  have hc6_0 : w4_.cell? ⟨g6, 0, none⟩ = some (.int .u64 0) := (blk_cell BK6.out 0).trans rfl
  have hf6_0 := blk_frozen BK6.out 0
  go_wp2_with (first | (go_at_call 57; have hT := h.below HB.out; have hgs := h.lt; have hsz := HB.out.size; have hfz : w4_.frozen? ⟨g6, 0, none⟩ = false := blk_frozen BK6.out 0; have hq2 : w4_.cell? ⟨g2, 0, none⟩ = some (.pointer (some ⟨p, 0, none⟩)) := (blk_cell BK2.out 0).trans rfl; have hq3 : w4_.cell? ⟨g3, 0, none⟩ = some (.int .i64 a) := (blk_cell BK3.out 0).trans rfl; have hq6 : w4_.cell? ⟨g6, 0, none⟩ = some (.int .u64 0) := (blk_cell BK6.out 0).trans rfl; go_loud (have hL1 := load1 w4_ hT a ha g2 g3 g6 hq6 hfz hq2 hq3; rw [HY.out] at hL1; refine (at_load w4_ hT a hb _ _ _ (fun w1 => ∃ m, w1 = (w4_.setCell ⟨g6, 0, none⟩ (.int .u64 y)).drewN m) hL1 (fun w1 hw => by obtain ⟨m, rfl⟩ := hw; exact (h.below (pw_below_drewN (HB.out.setCell (p := ⟨g6, 0, none⟩) GE6.out _) m)).step_cell)).mono ?_; rintro e w5 ⟨rfl, w1, st, ⟨m, hw1⟩, hw5⟩; have hB5 := pw_below_drewN (HB.out.setCell (p := ⟨g6, 0, none⟩) GE6.out (.int .u64 y)) m; rw [← hw1] at hB5; have hT5 := (h.below hB5).step st; rw [← hw5] at hT5; have hc9 : w5.cell? ⟨g6, 0, none⟩ = some (.int .u64 y) := (by rw [hw5, World.cell?_setCell_other _ _ _ _ (by simp), hw1]; exact World.cell?_setCell_same' _ _ _ (by rw [hq6]; rfl)); have hlp := hgs.1; have hBB : Fr X W w5 := (by rw [hw5]; exact (Fr.of hB5).setCell (p := ⟨p, 3, none⟩) (.inl hBp) _); clear hw5 hw1)))
  go_ret2
  exact ⟨rfl, hT5, hBB⟩

end Go.Proofs.Ytmolflmljneelaa.Pm
