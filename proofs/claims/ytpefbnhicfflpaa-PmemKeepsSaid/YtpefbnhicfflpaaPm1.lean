/- Pmem: the region in memory; Size, there, line, at, Store, Load. Conditions: the region lies as 'Rg' says. -/
import Derived.Test.YtpefbnhicfflpaaProg
import Derived.Test.YtpefbnhicfflpaaWWords
import Derived.Test.YtpefbnhicfflpaaWLast
import Derived.Test.YtpefbnhicfflpaaWMore
import Derived.Maps.Own
import Derived.Maps.OwnOps
import Derived.Maps.RangeWalk
import Derived.WalkKit
namespace Go.Proofs.Ytpefbnhicfflpaa.Pm
open Go.RowKit Go.Proofs.YtpefbnhicfflpaaW.PrintWords Go.Proofs.YtpefbnhicfflpaaW.PrintLast Go.Proofs.YtpefbnhicfflpaaW.PrintMore
set_option linter.unusedSimpArgs false
set_option linter.unusedVariables false
/-- A row of N words in block g: its first N cells are S. -/
structure Row (W : World) (g N cap : Nat) (S : List Int) : Prop where
  len : S.length = N
  cur : ∃ cur : Array Value, W.heap[g]? = some (.cells cur 36 (0, 0)) ∧ cur.size = cap ∧ N ≤ cap ∧ cap ≤ maxLen ∧ ∀ i, i < N → cur[i]? = some (.int .u64 (S.getD i 0))
theorem Row.below {W W' : World} {g N cap : Nat} {S : List Int} (h : Row W g N cap S) (hb : Below W.heap.size W W') : Row W' g N cap S := ⟨h.len, let ⟨c, h1, h2⟩ := h.cur; ⟨c, blk_below h1 hb, h2⟩⟩
theorem Row.lt {W : World} {g N cap : Nat} {S : List Int} (h : Row W g N cap S) : g < W.heap.size := let ⟨_, h1, _⟩ := h.cur; blk_lt h1
theorem Row.cell {W : World} {g N cap : Nat} {S : List Int} (h : Row W g N cap S) (i : Nat) (hi : i < N) : W.cell? ⟨g, i, none⟩ = some (.int .u64 (S.getD i 0)) := let ⟨_, h1, _, _, _, h2⟩ := h.cur; (blk_cell h1 i).trans (h2 i hi)
theorem Row.frozen {W : World} {g N cap : Nat} {S : List Int} (h : Row W g N cap S) (i : Nat) : W.frozen? ⟨g, i, none⟩ = false := let ⟨_, h1, _⟩ := h.cur; blk_frozen h1 i
theorem Row.far {W : World} {g N cap : Nat} {S : List Int} (h : Row W g N cap S) {p : Addr} (hp : g ≠ p.block) (u : Value) : Row (W.setCell p u) g N cap S := ⟨h.len, let ⟨c, h1, h2⟩ := h.cur; ⟨c, blk_far h1 hp u, h2⟩⟩
theorem Row.drewN {W : World} {g N cap : Nat} {S : List Int} (h : Row W g N cap S) (n : Nat) : Row (W.drewN n) g N cap S := ⟨h.len, h.cur⟩
theorem Row.put {W : World} {g N cap : Nat} {S : List Int} (h : Row W g N cap S) (i : Nat) (hi : i < N) (x : Int) : Row (W.setCell ⟨g, i, none⟩ (.int .u64 x)) g N cap (S.set i x) := by
  refine ⟨by rw [List.length_set]; exact h.len, ?_⟩
  obtain ⟨c, h1, h2, h3, h4, h5⟩ := h.cur
  refine ⟨c.setIfInBounds i (.int .u64 x), blk_set h1 i _, by simp [h2], h3, h4, fun j hj => ?_⟩
  rw [Array.getElem?_setIfInBounds]
  have hl := h.len
  by_cases e : i = j
  · subst e
    rw [if_pos rfl, if_pos (by omega)]
    simp [hl, hj]
  · rw [if_neg e, h5 j hj]
    simp only [List.getD_eq_getElem?_getD, List.getElem?_set]
    rw [if_neg e]
/-- A word as a datum; a note (eight words) as a datum. -/
def wordD (v : Value) : Option (DataW Unit) := match v with | .int .u64 a => some (.lit (.int .u64 a)) | _ => none
def noteL (l : List Value) : Option (DataW Unit × List MemPlace) := match l with
  | [.int .u64 a0, .int .u64 a1, .int .u64 a2, .int .u64 a3, .int .u64 a4, .int .u64 a5, .int .u64 a6, .int .u64 a7] => some (.agg [.lit (.int .u64 a0), .lit (.int .u64 a1), .lit (.int .u64 a2), .lit (.int .u64 a3), .lit (.int .u64 a4), .lit (.int .u64 a5), .lit (.int .u64 a6), .lit (.int .u64 a7)], [])
  | _ => none
def noteR (v : Value) : Option (DataW Unit × List MemPlace) := match v with
  | .agg cs => noteL cs.toList
  | _ => none
/-- The region at block p. -/
structure Rg (W : World) (p gs gk bm N cs ck n : Nat) (S K : List Int) (D : DataW Unit) : Prop where
  tp : ∃ st : Int, W.heap[p]? = some (.cells #[.slice (some ⟨gs, 0, none⟩) N cs, .slice (some ⟨gk, 0, none⟩) N ck, .map (some bm), .int .i64 st] 68 (0, 0))
  rs : Row W gs N cs S
  rk : Row W gk N ck K
  mp : W.ownsMap Try.prog 3 noteR bm n D
  ne : p ≠ gs ∧ p ≠ gk ∧ gs ≠ gk ∧ bm ≠ p ∧ bm ≠ gs ∧ bm ≠ gk
theorem owns_below {W W' : World} {bm n : Nat} {D : DataW Unit} (h : W.ownsMap Try.prog 3 noteR bm n D) (hb : Below W.heap.size W W') : W'.ownsMap Try.prog 3 noteR bm n D := by
  have hlt := h.lt
  obtain ⟨es, clock, h1, h2⟩ := h
  exact ⟨es, clock, (hb.block bm hlt).trans h1, h2⟩
theorem owns_far {W : World} {bm n : Nat} {D : DataW Unit} (h : W.ownsMap Try.prog 3 noteR bm n D) {p : Addr} (hp : bm ≠ p.block) (u : Value) : (W.setCell p u).ownsMap Try.prog 3 noteR bm n D := by
  obtain ⟨es, clock, h1, h2⟩ := h
  exact ⟨es, clock, (Below.heap_setCell W p u bm hp).trans h1, h2⟩
section
variable {W W' : World} {p gs gk bm N cs ck n : Nat} {S K : List Int} {D : DataW Unit}
theorem Rg.below (h : Rg W p gs gk bm N cs ck n S K D) (hb : Below W.heap.size W W') : Rg W' p gs gk bm N cs ck n S K D := ⟨let ⟨st, h1⟩ := h.tp; ⟨st, blk_below h1 hb⟩, h.rs.below hb, h.rk.below hb, owns_below h.mp hb, h.ne⟩
theorem Rg.drewN (h : Rg W p gs gk bm N cs ck n S K D) (m : Nat) : Rg (W.drewN m) p gs gk bm N cs ck n S K D := ⟨h.tp, h.rs.drewN m, h.rk.drewN m, h.mp, h.ne⟩
theorem Rg.step (h : Rg W p gs gk bm N cs ck n S K D) (st : Int) : Rg (W.setCell ⟨p, 3, none⟩ (.int .i64 st)) p gs gk bm N cs ck n S K D := by
  obtain ⟨n1, n2, n3, n4, n5, n6⟩ := h.ne
  refine ⟨?_, h.rs.far (p := ⟨p, 3, none⟩) (fun e => n1 e.symm) _, h.rk.far (p := ⟨p, 3, none⟩) (fun e => n2 e.symm) _, owns_far h.mp (p := ⟨p, 3, none⟩) n4 _, h.ne⟩
  obtain ⟨st0, h1⟩ := h.tp
  exact ⟨st, blk_put h1 3 _ rfl⟩
theorem Rg.store (h : Rg W p gs gk bm N cs ck n S K D) (i : Nat) (hi : i < N) (x : Int) : Rg (W.setCell ⟨gs, i, none⟩ (.int .u64 x)) p gs gk bm N cs ck n (S.set i x) K D := by
  obtain ⟨n1, n2, n3, n4, n5, n6⟩ := h.ne
  exact ⟨let ⟨st, h1⟩ := h.tp; ⟨st, blk_far h1 n1 _⟩, h.rs.put i hi x, h.rk.far (p := ⟨gs, i, none⟩) (fun e => n3 e.symm) _, owns_far h.mp (p := ⟨gs, i, none⟩) n5 _, h.ne⟩
theorem Rg.lt (h : Rg W p gs gk bm N cs ck n S K D) : p < W.heap.size ∧ gs < W.heap.size ∧ gk < W.heap.size ∧ bm < W.heap.size := ⟨let ⟨_, h1⟩ := h.tp; blk_lt h1, h.rs.lt, h.rk.lt, h.mp.lt⟩
end
theorem size_calls (W : World) {p gs gk bm N cs ck n : Nat} {S K : List Int} {D : DataW Unit} (h : Rg W p gs gk bm N cs ck n S K D) : Calls Try.prog 45 #[.pointer (some ⟨p, 0, none⟩)] W fun e w' => e = .returned (.int .i64 N) ∧ w' = W := by
  obtain ⟨st, hp⟩ := h.tp
  have hu := Try.underlying68
  have h0 : W.cell? ⟨p, 0, none⟩ = some (.slice (some ⟨gs, 0, none⟩) N cs) := (blk_cell hp 0).trans rfl
  go_enter Try.func45, Try.ntmps45
  go_wp2
  go_ret
  exact ⟨rfl, rfl⟩
def thereB (N : Nat) (a : Int) : Bool := decide (0 ≤ a ∧ a < N)
theorem there_calls (W : World) {p gs gk bm N cs ck n : Nat} {S K : List Int} {D : DataW Unit} (h : Rg W p gs gk bm N cs ck n S K D) (a : Int) : Calls Try.prog 42 #[.pointer (some ⟨p, 0, none⟩), .int .i64 a] W fun e w' => e = .returned (.bool (thereB N a)) ∧ w' = W := by
  unfold thereB
  by_cases h1 : 0 ≤ a
  · by_cases h2 : a < N
    · rw [decide_eq_true ⟨h1, h2⟩]
      have hd : decide (a ≥ 0) = true := decide_eq_true h1
      have hd2 : decide (a < (N : Int)) = true := decide_eq_true h2
      go_enter Try.func42, Try.ntmps42
      go_wp2_with (go_at_call 45; refine (size_calls _ h).mono ?_; rintro e w' ⟨rfl, rfl⟩)
      go_ret
      exact ⟨by simp [h2], rfl⟩
    · rw [decide_eq_false (fun x => h2 x.2)]
      have hd : decide (a ≥ 0) = true := decide_eq_true h1
      have hd2 : decide (a < (N : Int)) = false := decide_eq_false h2
      go_enter Try.func42, Try.ntmps42
      go_wp2_with (go_at_call 45; refine (size_calls _ h).mono ?_; rintro e w' ⟨rfl, rfl⟩)
      go_ret
      exact ⟨by first | (simp; done) | (simp; omega), rfl⟩
  · rw [decide_eq_false (fun x => h1 x.1)]
    have hd : decide (a ≥ 0) = false := decide_eq_false h1
    go_enter Try.func42, Try.ntmps42
    go_wp2_with (go_at_call 45; refine (size_calls _ h).mono ?_; rintro e w' ⟨rfl, rfl⟩)
    go_ret
    exact ⟨rfl, rfl⟩
theorem line_calls (a : Int) (ha : 0 ≤ a ∧ a < 64) (W : World) : Calls Try.prog 33 #[.int .i64 a] W fun e w' => e = .returned (.int .i64 (a - a % 8)) ∧ w' = W := by
  go_enter Try.func33, Try.ntmps33
  go_wp2
  go_ret
  exact ⟨rfl, rfl⟩
theorem at_no (W : World) {p gs gk bm N cs ck n : Nat} {S K : List Int} {D : DataW Unit} (h : Rg W p gs gk bm N cs ck n S K D) (a : Int) (ha : thereB N a = false) (f : Value) : Calls Try.prog 29 #[.pointer (some ⟨p, 0, none⟩), .int .i64 a, f] W fun e w' => e = .returned (.int .i64 13) ∧ w' = W := by
  go_enter Try.func29, Try.ntmps29
  go_wp2_with (go_at_call 42; refine (there_calls _ h a).mono ?_; rintro e w' ⟨rfl, rfl⟩; rw [ha])
  go_ret
  exact ⟨rfl, rfl⟩
set_option maxHeartbeats 1000000 in
theorem at_store (W : World) {p gs gk bm N cs ck n : Nat} {S K : List Int} {D : DataW Unit} (h : Rg W p gs gk bm N cs ck n S K D) (a : Int) (ha : thereB N a = true) (c1 c2 c3 : Value) (R : World → Prop)
    (hf : Calls Try.prog 30 #[c1, c2, c3] W fun e w' => (∃ v, e = .returned v) ∧ R w') (hR : ∀ w', R w' → ∃ st, w'.cell? ⟨p, 3, none⟩ = some (.int .i64 st) ∧ w'.frozen? ⟨p, 3, none⟩ = false) :
    Calls Try.prog 29 #[.pointer (some ⟨p, 0, none⟩), .int .i64 a, .func (.func 30) #[] #[c1, c2, c3]] W fun e w' => e = .returned (.int .i64 0) ∧ ∃ w1 st, R w1 ∧ w' = w1.setCell ⟨p, 3, none⟩ (.int .i64 st) := by
  have hu := Try.underlying68
  go_enter Try.func29, Try.ntmps29
  go_wp2_with (first
    | (go_at_call 42; refine (there_calls _ h a).mono ?_; rintro e w' ⟨rfl, rfl⟩; rw [ha])
    | (go_at_call 30; refine hf.mono ?_; rintro e w1 ⟨⟨v, rfl⟩, hr⟩; obtain ⟨st, hc3, hf3⟩ := hR w1 hr))
  go_ret
  exact ⟨rfl, w1, _, hr, rfl⟩
set_option maxHeartbeats 1000000 in
theorem at_flush (W : World) {p gs gk bm N cs ck n : Nat} {S K : List Int} {D : DataW Unit} (h : Rg W p gs gk bm N cs ck n S K D) (a : Int) (ha : thereB N a = true) (c1 c2 : Value) (R : World → Prop)
    (hf : Calls Try.prog 31 #[c1, c2] W fun e w' => (∃ v, e = .returned v) ∧ R w') (hR : ∀ w', R w' → ∃ st, w'.cell? ⟨p, 3, none⟩ = some (.int .i64 st) ∧ w'.frozen? ⟨p, 3, none⟩ = false) :
    Calls Try.prog 29 #[.pointer (some ⟨p, 0, none⟩), .int .i64 a, .func (.func 31) #[] #[c1, c2]] W fun e w' => e = .returned (.int .i64 0) ∧ ∃ w1 st, R w1 ∧ w' = w1.setCell ⟨p, 3, none⟩ (.int .i64 st) := by
  have hu := Try.underlying68
  go_enter Try.func29, Try.ntmps29
  go_wp2_with (first
    | (go_at_call 42; refine (there_calls _ h a).mono ?_; rintro e w' ⟨rfl, rfl⟩; rw [ha])
    | (go_at_call 31; refine hf.mono ?_; rintro e w1 ⟨⟨v, rfl⟩, hr⟩; obtain ⟨st, hc3, hf3⟩ := hR w1 hr))
  go_ret
  exact ⟨rfl, w1, _, hr, rfl⟩
set_option maxHeartbeats 1000000 in
theorem at_fence (W : World) {p gs gk bm N cs ck n : Nat} {S K : List Int} {D : DataW Unit} (h : Rg W p gs gk bm N cs ck n S K D) (a : Int) (ha : thereB N a = true) (c1 : Value) (R : World → Prop)
    (hf : Calls Try.prog 34 #[c1] W fun e w' => (∃ v, e = .returned v) ∧ R w') (hR : ∀ w', R w' → ∃ st, w'.cell? ⟨p, 3, none⟩ = some (.int .i64 st) ∧ w'.frozen? ⟨p, 3, none⟩ = false) :
    Calls Try.prog 29 #[.pointer (some ⟨p, 0, none⟩), .int .i64 a, .func (.func 34) #[] #[c1]] W fun e w' => e = .returned (.int .i64 0) ∧ ∃ w1 st, R w1 ∧ w' = w1.setCell ⟨p, 3, none⟩ (.int .i64 st) := by
  have hu := Try.underlying68
  go_enter Try.func29, Try.ntmps29
  go_wp2_with (first
    | (go_at_call 42; refine (there_calls _ h a).mono ?_; rintro e w' ⟨rfl, rfl⟩; rw [ha])
    | (go_at_call 34; refine hf.mono ?_; rintro e w1 ⟨⟨v, rfl⟩, hr⟩; obtain ⟨st, hc3, hf3⟩ := hR w1 hr))
  go_ret
  exact ⟨rfl, w1, _, hr, rfl⟩
set_option maxHeartbeats 1000000 in
theorem at_load (W : World) {p gs gk bm N cs ck n : Nat} {S K : List Int} {D : DataW Unit} (h : Rg W p gs gk bm N cs ck n S K D) (a : Int) (ha : thereB N a = true) (c1 c2 c3 : Value) (R : World → Prop)
    (hf : Calls Try.prog 39 #[c1, c2, c3] W fun e w' => (∃ v, e = .returned v) ∧ R w') (hR : ∀ w', R w' → ∃ st, w'.cell? ⟨p, 3, none⟩ = some (.int .i64 st) ∧ w'.frozen? ⟨p, 3, none⟩ = false) :
    Calls Try.prog 29 #[.pointer (some ⟨p, 0, none⟩), .int .i64 a, .func (.func 39) #[] #[c1, c2, c3]] W fun e w' => e = .returned (.int .i64 0) ∧ ∃ w1 st, R w1 ∧ w' = w1.setCell ⟨p, 3, none⟩ (.int .i64 st) := by
  have hu := Try.underlying68
  go_enter Try.func29, Try.ntmps29
  go_wp2_with (first
    | (go_at_call 42; refine (there_calls _ h a).mono ?_; rintro e w' ⟨rfl, rfl⟩; rw [ha])
    | (go_at_call 39; refine hf.mono ?_; rintro e w1 ⟨⟨v, rfl⟩, hr⟩; obtain ⟨st, hc3, hf3⟩ := hR w1 hr))
  go_ret
  exact ⟨rfl, w1, _, hr, rfl⟩
set_option maxHeartbeats 1000000 in
theorem at_evict (W : World) {p gs gk bm N cs ck n : Nat} {S K : List Int} {D : DataW Unit} (h : Rg W p gs gk bm N cs ck n S K D) (a : Int) (ha : thereB N a = true) (c1 c2 : Value) (R : World → Prop)
    (hf : Calls Try.prog 41 #[c1, c2] W fun e w' => (∃ v, e = .returned v) ∧ R w') (hR : ∀ w', R w' → ∃ st, w'.cell? ⟨p, 3, none⟩ = some (.int .i64 st) ∧ w'.frozen? ⟨p, 3, none⟩ = false) :
    Calls Try.prog 29 #[.pointer (some ⟨p, 0, none⟩), .int .i64 a, .func (.func 41) #[] #[c1, c2]] W fun e w' => e = .returned (.int .i64 0) ∧ ∃ w1 st, R w1 ∧ w' = w1.setCell ⟨p, 3, none⟩ (.int .i64 st) := by
  have hu := Try.underlying68
  go_enter Try.func29, Try.ntmps29
  go_wp2_with (first
    | (go_at_call 42; refine (there_calls _ h a).mono ?_; rintro e w' ⟨rfl, rfl⟩; rw [ha])
    | (go_at_call 41; refine hf.mono ?_; rintro e w1 ⟨⟨v, rfl⟩, hr⟩; obtain ⟨st, hc3, hf3⟩ := hR w1 hr))
  go_ret
  exact ⟨rfl, w1, _, hr, rfl⟩

end Go.Proofs.Ytpefbnhicfflpaa.Pm
