/- Parts of one proof, set together: DoorDk8, DoorDk9, DoorDn1, DoorDk10. What each says stands at its head; no condition beyond theirs. -/
import Derived.Test.YtacjlkjdmhlbaaaDoorDm12
import Derived.Laws.AppendOwnNone
import Derived.Shelf.Spec.SlicesGrow
/- Dump: slices.Grow of nothing, slices.Concat of three rows of words. Conditions: the rows lie in memory and are small. -/
namespace Go.Proofs.YtacjlkjdmhlbaaaDoor.Gr
open Go.RowKit Go.Shelf Go.Maps Go.ChangeMaps Go.MapKept Go.Proofs.YtacjlkjdmhlbaaaDoorW.PrintWords Go.Proofs.YtacjlkjdmhlbaaaDoorW.PrintLast Go.Proofs.YtacjlkjdmhlbaaaDoorW.PrintMore
set_option linter.unusedSimpArgs false
set_option linter.unusedVariables false
set_option maxHeartbeats 4000000 in
set_option maxRecDepth 100000 in
theorem grow_calls (W : World) (n : Nat) (h0 : 0 < n) (h1 : n ≤ 1000) : Calls Tryd.prog 28 #[.slice none 0 0, .int .i64 (n : Int)] W fun e W' => ∃ a c, e = .returned (.slice a 0 c) ∧ W'.ownsRow W.heap.size 9 1 (.slice a 0 c) 0 [] ∧ Below W.heap.size W W' := by
  obtain ⟨i0, hi, hz0, hz1, hz2⟩ := info_parts info9
  have g1 : ¬ ((n : Int) < 0) := by omega
  have g1' : decide ((n : Int) < 0) = false := decide_eq_false g1
  have g4 : decide ((n : Int) > 0) = true := decide_eq_true (by omega)
  have g4' : decide ((0 : Int) < (n : Int)) = true := decide_eq_true (by omega)
  have hrz : ∀ ty, (Builtin.append_ #[52, 3] ty #[.slice none 0 0, .int .i64 (n : Int)]).run Tryd.prog W = .ok (.slice (some ⟨W.heap.size, 0, none⟩) (0 + n) (grownCap W (0 + n) 0 9)) (W.drew.alloc (.cells (([] : List Value).toArray ++ Builtin.zeroCells (Value.string ⟨#[]⟩).cells n ++ Builtin.zeroCells (Value.string ⟨#[]⟩).cells (grownCap W (0 + n) 0 9 - (0 + n))) 9)) := fun ty => by
    exact Lib.run_append_grow_zeros W 52 3 ty 9 i0 (.string ⟨#[]⟩) .i64 .i64 Tryd.underlying52 Tryd.underlying3 hi hz0 none 0 0 [] (by rw [hz1]; exact run_firstCells_none W.drew 1 0 0 0) n h0 (by rw [hz1]; decide) (by omega) (by omega) (by rw [hz2]; omega) (growslice_fits (by omega) (by rw [hz2]; omega))
  have hGn : 0 + n ≤ grownCap W (0 + n) 0 9 := grownCap_ge W _ _ _
  have hG63 : grownCap W (0 + n) 0 9 ≤ maxLen := grownCap_le_maxLen W (0 + n) 0 9 (by unfold maxLen; omega)
  obtain ⟨G, hG⟩ : ∃ G, G = grownCap W (0 + n) 0 9 := ⟨_, rfl⟩
  rw [← hG] at hrz hGn hG63
  rw [Nat.zero_add] at hrz hGn
  have hG64 : G ≤ 9223372036854775807 := by unfold maxLen at hG63; omega
  clear hG
  obtain ⟨cur, hcur⟩ : ∃ cur, cur = ([] : List Value).toArray ++ Builtin.zeroCells (Value.string ⟨#[]⟩).cells n ++ Builtin.zeroCells (Value.string ⟨#[]⟩).cells (G - n) := ⟨_, rfl⟩
  have hcs : cur.size = G := by rw [hcur]; simp [Builtin.zeroCells, Value.cells]; omega
  rw [← hcur] at hrz
  clear hcur
  go_enter Tryd.func28, Tryd.ntmps28
  go_wp2_with (at_builtin; refine Lib.wpList_append_run _ rfl _ _ _ _ rfl _ _ rfl rfl _ _ (hrz _) ?_)
  go_ret
  refine ⟨_, _, rfl, ⟨rfl, .inr ⟨W.heap.size, G, cur, rfl, Nat.le_refl _, ?_, Nat.zero_le _, hG63, by rw [hcs, Nat.mul_one], rfl⟩⟩, below_alloc (below_drew1 (Below.refl _ _)) _⟩
  exact blk_new _ _
/-- A row of words that lies in memory, as a slice. -/
def RW (W : World) (a : Option Addr) (n c : Nat) (l : List (List UInt8)) : Prop := l.length = n ∧ ∃ B, W.ownsRow B 9 1 (.slice a n c) n (strs l)
theorem RW.below {W W' : World} {a : Option Addr} {n c : Nat} {l : List (List UInt8)} (h : RW W a n c l) (hb : Below W.heap.size W W') : RW W' a n c l := by
  obtain ⟨h1, B, h2⟩ := h
  exact ⟨h1, B, row9_below h2 hb⟩
theorem app_row {w0 w : World} {ops : Array Oper} {rest : List Oper} {o : Oper} {a : Act} {Q : Exit → Act → World → Prop} (hgd : o.guard = none) (s x : Operand) (ho : o.op = .call { callee := .builtin .append, args := #[s, x], argTypes := #[52, 52] })
    (v : Value) (k : Nat) (O : List (List UInt8)) (hs : a.eval s = v) (hown : w.ownsRow w0.heap.size 9 1 v k (strs O)) (A : Option Addr) (n c : Nat) (l : List (List UInt8)) (hx : a.eval x = .slice A n c) (hr : RW w A n c l) (hk : k ≤ 1000) (hn : n ≤ 1000) (hb : Below w0.heap.size w0 w)
    (h : ∀ a1 c1 w', w'.ownsRow w0.heap.size 9 1 (.slice a1 (k + n) c1) (k + n) (strs (O ++ l)) → Below w0.heap.size w0 w' → wpList Tryd.prog ops Q rest (a.put o.dst (.slice a1 (k + n) c1)) w') : wpList Tryd.prog ops Q (o :: rest) a w := by
  obtain ⟨i0, hi, hz0, hz1, hz2⟩ := info_parts info9
  obtain ⟨hl, B, hr2⟩ := hr
  have hslice : ∀ {w' : World} {v' : Value} {m : Nat} {xs : List Value}, w'.ownsRow w0.heap.size 9 1 v' m xs → ∃ a1 c1, v' = .slice a1 m c1 := fun h => by
    rcases h.2 with ⟨e, h0⟩ | ⟨g, cap, cur, e, _⟩
    · exact ⟨none, 0, by rw [e, h0]⟩
    · exact ⟨_, _, e⟩
  rcases hr2.2 with ⟨e, h0⟩ | ⟨g, cap, cur, e, _, hg, _⟩
  · cases e
    have hl0 : l = [] := List.length_eq_zero_iff.1 (by omega)
    subst hl0
    obtain ⟨a1, c1, rfl⟩ := hslice hown
    refine wpList_append_own_none hgd s x 52 ho w0.heap.size 9 i0 1 Tryd.underlying52 hi _ k (strs O) hs hown hx ?_
    exact h a1 c1 w (by simpa using hown) hb
  · cases e
    refine wpList_append_own _ hgd s x 52 ho w0.heap.size 9 i0 (.string ⟨#[]⟩) 1 16 Tryd.underlying52 hi hz0 hz1 hz2 rfl (by decide) v k (strs O) hs hown ⟨g, 0, none⟩ n c (strs l) hx (by rw [strs_len, hl, Nat.mul_one]) (hr2.cells (g := g) rfl) (by intro u hu; obtain ⟨t, _, rfl⟩ := List.mem_map.1 hu; rfl) (by unfold maxLen; omega) (by omega) hb.size ?_
    intro v' w' hown' hgrow _
    obtain ⟨a1, c1, rfl⟩ := hslice hown'
    exact h a1 c1 w' (by simpa [strs] using hown') (own_below hb (Nat.le_refl _) hown hgrow)
set_option maxHeartbeats 8000000 in
set_option maxRecDepth 100000 in
theorem concat_calls (W : World) (g0 : Nat) (a1 a2 a3 : Option Addr) (n1 c1 n2 c2 n3 c3 : Nat) (l1 l2 l3 : List (List UInt8)) (BK0 : Aside0 (W.heap[g0]? = some (.cells #[.slice a1 n1 c1, .slice a2 n2 c2, .slice a3 n3 c3] 52 (0, 0)))) (HR1 : Aside0 (RW W a1 n1 c1 l1)) (HR2 : Aside0 (RW W a2 n2 c2 l2)) (HR3 : Aside0 (RW W a3 n3 c3 l3)) (h1 : 0 < n1) (hn1 : n1 ≤ 10) (hn2 : n2 ≤ 301) (hn3 : n3 ≤ 301) :
    Calls Tryd.prog 16 #[.slice (some ⟨g0, 0, none⟩) 3 3] W fun e W' => ∃ a c, e = .returned (.slice a (n1 + n2 + n3) c) ∧ W'.ownsRow W.heap.size 9 1 (.slice a (n1 + n2 + n3) c) (n1 + n2 + n3) (strs (l1 ++ l2 ++ l3)) ∧ Below W.heap.size W W' := by
  have hc0 : W.cell? ⟨g0, 0, none⟩ = some (.slice a1 n1 c1) := (blk_cell BK0.out 0).trans rfl
  have hc1 : W.cell? ⟨g0, 1, none⟩ = some (.slice a2 n2 c2) := (blk_cell BK0.out 1).trans rfl
  have hc2 : W.cell? ⟨g0, 2, none⟩ = some (.slice a3 n3 c3) := (blk_cell BK0.out 2).trans rfl
  obtain ⟨s2, hs2⟩ : ∃ x, x = n1 + n2 := ⟨_, rfl⟩
  obtain ⟨s3, hs3⟩ : ∃ x, x = s2 + n3 := ⟨_, rfl⟩
  have HS2 := Aside0.mk hs2
  have HS3 := Aside0.mk hs3
  have hp2 : 0 < s2 := by omega
  have hp3 : 0 < s3 := by omega
  have hb2 : s2 ≤ 311 := by omega
  have hb3 : s3 ≤ 612 := by omega
  clear hs2 hs3
  rw [← HS2.out, ← HS3.out]
  go_enter Tryd.func16, Tryd.ntmps16
  go_wp2
  go_loopw [3, 11] (fun vs v wr => wr = W ∧ ((v = .int .i64 0 ∧ vs = .int .i64 0) ∨ (v = .int .i64 1 ∧ vs = .int .i64 (n1 : Int)) ∨ (v = .int .i64 2 ∧ vs = .int .i64 (s2 : Int)) ∨ (v = .int .i64 3 ∧ vs = .int .i64 (s3 : Int)))) (fun _ v _ => 3 - (intOf v).toNat)
  case atStart => exact ⟨rfl, .inl ⟨rfl, rfl⟩⟩
  case round =>
    obtain ⟨rfl, ⟨rfl, rfl⟩ | ⟨rfl, rfl⟩ | ⟨rfl, rfl⟩ | ⟨rfl, rfl⟩⟩ := hrel
    · have e1 : decide ((n1 : Int) < 0) = false := decide_eq_false (by omega)
      go_wp2
      refine ⟨⟨trivial, .inr (.inl ⟨rfl, rfl⟩)⟩, ?_⟩
      show 3 - (1 : Int).toNat < 3 - (0 : Int).toNat
      decide
    · have e2 : (n1 : Int) + (n2 : Int) = (s2 : Int) := by have := HS2.out; omega
      have e1 : decide ((s2 : Int) < 0) = false := decide_eq_false (by omega)
      go_wp2
      refine ⟨⟨trivial, .inr (.inr (.inl ⟨rfl, rfl⟩))⟩, ?_⟩
      show 3 - (2 : Int).toNat < 3 - (1 : Int).toNat
      decide
    · have e2 : (s2 : Int) + (n3 : Int) = (s3 : Int) := by have := HS3.out; omega
      have e1 : decide ((s3 : Int) < 0) = false := decide_eq_false (by omega)
      go_wp2
      refine ⟨⟨trivial, .inr (.inr (.inr ⟨rfl, rfl⟩))⟩, ?_⟩
      show 3 - (3 : Int).toNat < 3 - (2 : Int).toNat
      decide
    · rename World => W
      go_upto_region 10 with (go_at_call 28; refine (grow_calls _ s3 hp3 (by omega)).mono ?_; rintro e w1 ⟨aG, cG, rfl, hr, hb⟩; have OWN := Aside0.mk (show w1.ownsRow W.heap.size 9 1 (.slice aG 0 cG) 0 (strs ([] : List (List UInt8))) from hr); have HB := Aside0.mk hb; clear hr hb)
      clear hc0 hc1 hc2
      go_wp2
      go_loopw [6, 27] (fun vo v wr => ∃ (aN : Option Addr) (cN : Nat), ((v = .int .i64 0 ∧ vo = .slice aN 0 cN ∧ Aside0 (wr.ownsRow W.heap.size 9 1 (.slice aN 0 cN) 0 (strs ([] : List (List UInt8))))) ∨ (v = .int .i64 1 ∧ vo = .slice aN n1 cN ∧ Aside0 (wr.ownsRow W.heap.size 9 1 (.slice aN n1 cN) n1 (strs l1))) ∨ (v = .int .i64 2 ∧ vo = .slice aN s2 cN ∧ Aside0 (wr.ownsRow W.heap.size 9 1 (.slice aN s2 cN) s2 (strs (l1 ++ l2)))) ∨ (v = .int .i64 3 ∧ vo = .slice aN s3 cN ∧ Aside0 (wr.ownsRow W.heap.size 9 1 (.slice aN s3 cN) s3 (strs (l1 ++ l2 ++ l3))))) ∧ Aside0 (Below W.heap.size W wr)) (fun _ v _ => 3 - (intOf v).toNat)
      case atStart => exact ⟨aG, cG, .inl ⟨rfl, rfl, OWN⟩, HB⟩
      case round =>
        clear OWN HB
        obtain ⟨aN0, cN0, ⟨rfl, rfl, OWN⟩ | ⟨rfl, rfl, OWN⟩ | ⟨rfl, rfl, OWN⟩ | ⟨rfl, rfl, OWN⟩, HB⟩ := hrel
        · have hx1 : wr.cell? ⟨g0, 0, none⟩ = some (.slice a1 n1 c1) := (blk_cell (blk_below BK0.out HB.out) 0).trans rfl
          go_wp2_with (at_builtin; refine app_row (w0 := W) rfl (.tmp 31) (.tmp 32) rfl _ 0 (([] : List (List UInt8))) rfl OWN.out a1 n1 c1 l1 rfl (HR1.out.below HB.out) (by omega) (by omega) HB.out ?_; intro aN cN w2 hr hb; have OWN2 := Aside0.mk hr; have HB2 := Aside0.mk hb; clear hr hb)
          refine ⟨⟨_, _, .inr (.inl ⟨rfl, rfl, Aside0.mk (by simpa using OWN2.out)⟩), HB2⟩, ?_⟩
          show 3 - (1 : Int).toNat < 3 - (0 : Int).toNat
          decide
        · have hx2 : wr.cell? ⟨g0, 1, none⟩ = some (.slice a2 n2 c2) := (blk_cell (blk_below BK0.out HB.out) 1).trans rfl
          go_wp2_with (at_builtin; refine app_row (w0 := W) rfl (.tmp 31) (.tmp 32) rfl _ n1 (l1) rfl OWN.out a2 n2 c2 l2 rfl (HR2.out.below HB.out) (by omega) (by omega) HB.out ?_; intro aN cN w2 hr hb; have OWN2 := Aside0.mk hr; have HB2 := Aside0.mk hb; clear hr hb)
          refine ⟨⟨_, _, .inr (.inr (.inl ⟨rfl, by rw [← HS2.out], Aside0.mk (by rw [HS2.out]; exact OWN2.out)⟩)), HB2⟩, ?_⟩
          show 3 - (2 : Int).toNat < 3 - (1 : Int).toNat
          decide
        · have hx3 : wr.cell? ⟨g0, 2, none⟩ = some (.slice a3 n3 c3) := (blk_cell (blk_below BK0.out HB.out) 2).trans rfl
          go_wp2_with (at_builtin; refine app_row (w0 := W) rfl (.tmp 31) (.tmp 32) rfl _ s2 (l1 ++ l2) rfl OWN.out a3 n3 c3 l3 rfl (HR3.out.below HB.out) (by omega) (by omega) HB.out ?_; intro aN cN w2 hr hb; have OWN2 := Aside0.mk hr; have HB2 := Aside0.mk hb; clear hr hb)
          refine ⟨⟨_, _, .inr (.inr (.inr ⟨rfl, by rw [← HS3.out], Aside0.mk (by rw [HS3.out]; exact OWN2.out)⟩)), HB2⟩, ?_⟩
          show 3 - (3 : Int).toNat < 3 - (2 : Int).toNat
          decide
        · go_wp2
          go_ret
          exact ⟨_, _, rfl, OWN.out, HB.out⟩
end Go.Proofs.YtacjlkjdmhlbaaaDoor.Gr
/- Dump: line. Conditions: the words lie in memory; at most 1000, of at most 50 bytes each. -/
namespace Go.Proofs.YtacjlkjdmhlbaaaDoor.Gr
open Go.RowKit Go.Shelf Go.Maps Go.ChangeMaps Go.MapKept Go.Proofs.YtacjlkjdmhlbaaaDoorW.PrintWords Go.Proofs.YtacjlkjdmhlbaaaDoorW.PrintLast Go.Proofs.YtacjlkjdmhlbaaaDoorW.PrintMore
set_option linter.unusedSimpArgs false
set_option linter.unusedVariables false
def lineR (l : List (List UInt8)) : List UInt8 := Lib.join l [32] ++ [10]
theorem lens_le (l : List (List UInt8)) (h : ∀ s ∈ l, s.length ≤ 50) : Lib.lens l ≤ 50 * l.length := by
  induction l with
  | nil => simp [Lib.lens]
  | cons s l ih =>
    have h1 := h s (by simp)
    have h2 := ih (fun t ht => h t (List.mem_cons_of_mem _ ht))
    simp only [Lib.lens, List.map_cons, List.sum_cons, List.length_cons] at h2 ⊢
    omega
theorem join_le (l : List (List UInt8)) (h : ∀ s ∈ l, s.length ≤ 50) : (Lib.join l [32]).length ≤ 51 * l.length := by
  cases l with
  | nil => simp [Lib.join_nil]
  | cons s l =>
    have := lens_le (s :: l) h
    rw [Lib.join_length]
    simp only [List.length_cons, List.length_nil] at this ⊢
    omega
theorem lineR_le (l : List (List UInt8)) (h : ∀ s ∈ l, s.length ≤ 50) : (lineR l).length ≤ 51 * l.length + 1 := by
  have := join_le l h
  unfold lineR
  rw [List.length_append]
  simp
  omega
theorem line_calls (W : World) (a : Option Addr) (n c : Nat) (l : List (List UInt8)) (HR : Aside0 (RW W a n c l)) (hn0 : 0 < n) (hn : n ≤ 1000) (HW : Aside0 (∀ s ∈ l, s.length ≤ 50)) : Calls Tryd.prog 13 #[.slice a n c] W fun e W' => e = .returned (.string ⟨(lineR l).toArray⟩) ∧ Below W.heap.size W W' := by
  have hjl := join_le l HW.out
  obtain ⟨hl, B, hr⟩ := HR.out
  have hjs : (Lib.join l [32]).length ≤ 51000 := by rw [hl] at hjl; omega
  rcases hr.2 with ⟨e, h0⟩ | ⟨g, cap, cur, e, hB, hg, hnc, hcm, h4, h5⟩
  · omega
  · cases e
    have hcells : ∀ (j : Nat) x, (l.map fun s => (⟨s.toArray⟩ : ByteArray))[j]? = some x → W.cell? ⟨g, 0 + j, none⟩ = some (.string x) := fun j x hx => by
      have h := hr.cells (g := g) rfl j (.string x) (by
        rw [List.getElem?_map] at hx
        unfold strs
        rw [List.getElem?_map]
        cases hj : l[j]? with
        | none => rw [hj] at hx; cases hx
        | some s => rw [hj] at hx; simp only [Option.map_some, Option.some.injEq] at hx; rw [← hx]; rfl)
      have e : (⟨g, 0, none⟩ : Addr).add j = ⟨g, 0 + j, none⟩ := by unfold Addr.add; split <;> simp_all
      rw [e] at h
      exact h
    have hmm : (l.map fun s => (⟨s.toArray⟩ : ByteArray)).map (·.data.toList) = l := by
      rw [List.map_map]
      exact (List.map_congr_left (fun s _ => rfl)).trans (List.map_id l)
    have hcon := Sh.strings_Join g 0 c (l.map fun s => (⟨s.toArray⟩ : ByteArray)) ⟨#[32]⟩ W hcells (blk_lt hg) (by rw [List.length_map, hl]; omega) (by rw [List.length_map, hl]; exact hnc) (by rw [hmm]; show (Lib.join l [32]).length ≤ _; omega)
    rw [List.length_map, hl, hmm] at hcon
    have hcat : ∀ w, (Op.stringOp .add ⟨(Lib.join l [32]).toArray⟩ ⟨#[10]⟩).run Tryd.prog w = .ok (.string ⟨(lineR l).toArray⟩) w := fun w => by rw [run_string_add_sum w _ _ (by simp [ByteArray.size]; omega)]; exact congrArg (fun b => Result.ok (Value.string b) w) (ByteArray.mk_append_mk _ [10])
    have HCON := Aside0.mk hcon
    clear hcon hcells hmm hjl
    go_enter Tryd.func13, Tryd.ntmps13
    go_wp2_with (go_at_call 26; refine HCON.out.mono ?_; rintro e w3 ⟨rfl, hb3⟩)
    go_ret
    exact ⟨rfl, hb3⟩
end Go.Proofs.YtacjlkjdmhlbaaaDoor.Gr
/- Rows of nodes, appends in a region of open order (my own lemmas of another seat, at this one's numbers). No program is walked here. -/
namespace Go.Proofs.YtacjlkjdmhlbaaaDoor.Gr
open Go.RowKit Go.Shelf Go.Maps Go.ChangeMaps Go.MapKept Go.Proofs.YtacjlkjdmhlbaaaDoorW.PrintWords Go.Proofs.YtacjlkjdmhlbaaaDoorW.PrintLast Go.Proofs.YtacjlkjdmhlbaaaDoorW.PrintMore
set_option linter.unusedSimpArgs false
set_option linter.unusedVariables false
abbrev Nd.cells (x : Nd) : List Value := [.int .i64 x.adr, .int .i64 x.refs, .int .i64 x.sl, .int .i64 x.words, .slice x.A x.m x.c, .slice x.B x.n x.d]
def nds (l : List Nd) : List Value := l.flatMap Nd.cells
theorem nds_snoc (l : List Nd) (c : Nd) : nds (l ++ [c]) = nds l ++ c.cells := by simp [nds]
theorem nds_len (L : List Nd) : (nds L).length = L.length * 6 := by
  induction L with
  | nil => rfl
  | cons x L ih =>
    show (x.cells ++ nds L).length = _
    rw [List.length_append, ih]
    show 6 + L.length * 6 = (L.length + 1) * 6
    omega
theorem nds_at {L : List Nd} {i : Nat} (hi : i < L.length) (j : Nat) (hj : j < 6) : (nds L)[i * 6 + j]? = (L.getD i default).cells[j]? := by
  induction L generalizing i with
  | nil => simp at hi
  | cons x L ih =>
    cases i with
    | zero =>
      show (x.cells ++ nds L)[0 * 6 + j]? = _
      rw [List.getElem?_append_left (by show 0 * 6 + j < 6; omega), Nat.zero_mul, Nat.zero_add]
      rfl
    | succ i =>
      show (x.cells ++ nds L)[(i + 1) * 6 + j]? = _
      rw [List.getElem?_append_right (by show 6 ≤ (i + 1) * 6 + j; omega), show (i + 1) * 6 + j - x.cells.length = i * 6 + j by show (i + 1) * 6 + j - 6 = _; omega, ih (by simpa using hi)]
      rfl
theorem row35_form {W : World} {X n : Nat} {v : Value} {xs : List Value} (h : W.ownsRow X 35 6 v n xs) : (v = .slice none 0 0 ∧ n = 0) ∨ ∃ g cap, v = .slice (some ⟨g, 0, none⟩) n cap := by
  rcases h.2 with h0 | ⟨g, cap, cur, rfl, _⟩
  · exact .inl h0
  · exact .inr ⟨g, cap, rfl⟩
theorem row35_len {W : World} {X n : Nat} {v : Value} {L : List Nd} (h : W.ownsRow X 35 6 v n (nds L)) : L.length = n := by
  have := h.1
  rw [nds_len] at this
  omega
theorem row_cell6 {W : World} {X g n cap : Nat} {L : List Nd} (h : W.ownsRow X 35 6 (.slice (some ⟨g, 0, none⟩) n cap) n (nds L)) {i : Nat} (hi : i < n) (j : Nat) (hj : j < 6) (u : Value) (hu : (L.getD i default).cells[j]? = some u) : W.cell? ⟨g, i * 6 + j, none⟩ = some u := by
  have hl := row35_len h
  rw [h.cellAt (i * 6 + j) (by omega), nds_at (by omega) j hj, hu]
theorem row35_six {W : World} {X n cap : Nat} {a : Option Addr} {L : List Nd} (h : W.ownsRow X 35 6 (.slice a n cap) n (nds L)) {i : Nat} (hi : i < n) :
    ∃ y, a = some y ∧ X ≤ y.block ∧ W.cell? (y.add (i * 6)) = some (.int .i64 (L.getD i default).adr) ∧ W.cell? { block := (y.add (i * 6)).block, off := (y.add (i * 6)).off + 1 } = some (.int .i64 (L.getD i default).refs) ∧ W.cell? { block := (y.add (i * 6)).block, off := (y.add (i * 6)).off + 2 } = some (.int .i64 (L.getD i default).sl) ∧ W.cell? { block := (y.add (i * 6)).block, off := (y.add (i * 6)).off + 3 } = some (.int .i64 (L.getD i default).words) ∧
      W.cell? { block := (y.add (i * 6)).block, off := (y.add (i * 6)).off + 4 } = some (.slice (L.getD i default).A (L.getD i default).m (L.getD i default).c) ∧ W.cell? { block := (y.add (i * 6)).block, off := (y.add (i * 6)).off + 5 } = some (.slice (L.getD i default).B (L.getD i default).n (L.getD i default).d) := by
  rcases row35_form h with ⟨_, h0⟩ | ⟨g, cap', e⟩
  · omega
  · cases e
    have h0 := row_cell6 h hi 0 (by decide) _ rfl
    have h1 := row_cell6 h hi 1 (by decide) _ rfl
    have h2 := row_cell6 h hi 2 (by decide) _ rfl
    have h3 := row_cell6 h hi 3 (by decide) _ rfl
    have h4 := row_cell6 h hi 4 (by decide) _ rfl
    have h5 := row_cell6 h hi 5 (by decide) _ rfl
    rw [Nat.add_zero] at h0
    have hX : X ≤ g := by
      rcases h.2 with ⟨e, _⟩ | ⟨g', _, _, e, hg, _⟩
      · cases e
      · cases e; exact hg
    have ea : (⟨g, 0, none⟩ : Addr).add (i * 6) = ⟨g, i * 6, none⟩ := by unfold Addr.add; split <;> simp_all
    refine ⟨_, rfl, hX, ?_⟩
    rw [ea]
    exact ⟨h0, h1, h2, h3, h4, h5⟩
theorem nd_cells {W : World} {g : Nat} {t : TypeId} {q : Nd} (h : W.heap[g]? = some (.cells #[.int .i64 q.adr, .int .i64 q.refs, .int .i64 q.sl, .int .i64 q.words, .slice q.A q.m q.c, .slice q.B q.n q.d] t (0, 0))) : ∀ j u, q.cells[j]? = some u → W.cell? ((⟨g, 0, none⟩ : Addr).add j) = some u := by
  intro j u hj
  have ea : (⟨g, 0, none⟩ : Addr).add j = ⟨g, j, none⟩ := by unfold Addr.add; split <;> simp_all
  rw [ea, blk_cell h j, ← hj]
  simp
theorem info35 : (Tryd.prog.info? 35).map (fun i => (i.zero, i.size, i.bytes)) = some (some (.agg #[.int .i64 0, .int .i64 0, .int .i64 0, .int .i64 0, .slice none 0 0, .slice none 0 0]), 6, 80) := by kernel_rfl
theorem walkR_len (NS : List Nd) (R : List Int) : (walkR NS R).length ≤ NS.length := by
  have h := visitR_cnt NS NS.length (NS.length + 1) [] R (by have := left_le NS []; simp; omega)
  unfold walkR
  omega
theorem row_form {W : World} {X n : Nat} {v : Value} {l : List Int} (h : W.ownsRow X 3 1 v n (l.map (Value.int .i64))) : ∃ a cap, v = .slice a n cap ∧ l.length = n := by
  have hl : l.length = n := by have := h.1; rw [List.length_map] at this; omega
  rcases h.2 with ⟨rfl, rfl⟩ | ⟨g, cap, cur, rfl, _⟩
  · exact ⟨none, 0, rfl, hl⟩
  · exact ⟨_, cap, rfl, hl⟩
theorem row_cell {W : World} {X n c : Nat} {a : Option Addr} {l : List Int} (h : W.ownsRow X 3 1 (.slice a n c) n (l.map (Value.int .i64))) (j : Nat) (hj : j < n) : ∃ y, a = some y ∧ W.cell? (y.add j) = some (.int .i64 (l.getD j 0)) := by
  have hl : l.length = n := by have := h.1; rw [List.length_map] at this; omega
  have hcs := @World.ownsRow.cells _ _ _ _ _ _ _ h
  rcases h.2 with ⟨e, h0⟩ | ⟨g, cap, cur, e, _⟩
  · omega
  · cases e
    refine ⟨_, rfl, ?_⟩
    rw [hcs (g := g) rfl j _ (by rw [List.getElem?_map, List.getElem?_eq_getElem (by omega)]; rfl), List.getD_eq_getElem?_getD, List.getElem?_eq_getElem (by omega)]
    rfl
variable {P : Program} {ops : Array Oper} {Q : Exit → Act → World → Prop}
theorem append_ {oi : Oper} {N : Option Tmp} {a : Act} {w : World} {K : Act → World → Prop} (hw : Region.wanted oi (yielded ops a.tmps) = true) (hN : oi.dst = N) (s x : Operand) (t : TypeId)
    (ho : oi.op = .call { callee := .builtin .append, args := #[s, x], argTypes := #[t, t] })
    (base : Nat) (e : TypeId) (i : TypeInfo) (z : Value) (size bytes : Nat) (ht : P.underlying t = some (.slice e)) (hi : P.info? e = some i) (hz : i.zero = some z)
    (hsize : i.size = size) (hby : i.bytes = bytes) (hzs : z.cells.size = size) (hsz : 0 < size)
    (v : Value) (n : Nat) (xs : List Value) (hs : a.eval s = v) (hown : w.ownsRow base e size v n xs)
    (ad : Addr) (m c : Nat) (news : List Value) (hx : a.eval x = .slice (some ad) m c) (hl : news.length = m * size) (hnews : ∀ j u, news[j]? = some u → w.cell? (ad.add j) = some u) (h1 : ∀ u ∈ news, u.oneCell' = true)
    (h63 : n + m ≤ maxLen) (hbytes : (n + m) * bytes ≤ 140737488355328) (hbase : base ≤ w.heap.size)
    (h : ∀ v' w', w'.ownsRow base e size v' (n + m) (xs ++ news) → w.grownBy w' v.ownBlock → K (a.put N v') w') : if Region.wanted oi (yielded ops a.tmps) = true then Oper.wp P oi a w K Q else K (a.put N undef) w := by
  rw [if_pos hw]
  subst hN
  exact wp_append_own w s x t ho base e i z size bytes ht hi hz hsize hby hzs hsz v n xs hs hown ad m c news hx hl hnews h1 h63 hbytes hbase (fun v' w' h2 h3 _ => h v' w' h2 h3)
end Go.Proofs.YtacjlkjdmhlbaaaDoor.Gr
/- Dump: walked. Conditions: the graph lies in memory and is small. -/
namespace Go.Proofs.YtacjlkjdmhlbaaaDoor.Gr
open Go.RowKit Go.Shelf Go.Maps Go.ChangeMaps Go.MapKept Go.Proofs.YtacjlkjdmhlbaaaDoorW.PrintWords Go.Proofs.YtacjlkjdmhlbaaaDoorW.PrintLast Go.Proofs.YtacjlkjdmhlbaaaDoorW.PrintMore
set_option linter.unusedSimpArgs false
set_option linter.unusedVariables false
/-- The node of an address. -/
def nodeOf (NS : List Nd) (x : Int) : Nd := (find NS x).getD default
theorem find_first {NS : List Nd} {x : Int} {k : Nd} (h : find NS x = some k) : ∃ j, j < NS.length ∧ NS.getD j default = k ∧ k.adr = x ∧ ∀ i, i < j → (NS.getD i default).adr ≠ x := by
  obtain ⟨hp, i, hi, e, hn⟩ := List.find?_eq_some_iff_getElem.1 h
  refine ⟨i, hi, by rw [List.getD_eq_getElem?_getD, List.getElem?_eq_getElem hi, Option.getD_some, e], by simpa using hp, fun j hj => ?_⟩
  have := hn j hj
  rw [List.getD_eq_getElem?_getD, List.getElem?_eq_getElem (by omega), Option.getD_some]
  simpa using this
theorem nd_six {W : World} {g : Nat} {t : TypeId} {a r s w : Int} {A B : Option Addr} {m c n d : Nat} (h : W.heap[g]? = some (.cells #[.int .i64 a, .int .i64 r, .int .i64 s, .int .i64 w, .slice A m c, .slice B n d] t (0, 0))) : ∀ j u, [Value.int .i64 a, .int .i64 r, .int .i64 s, .int .i64 w, .slice A m c, .slice B n d][j]? = some u → W.cell? ((⟨g, 0, none⟩ : Addr).add j) = some u :=
  nd_cells (q := ⟨a, r, s, w, A, m, c, B, n, d, [], []⟩) h
/-- A map stands where a row grew. -/
theorem owns_row {W W' : World} {X e s n b k : Nat} {v : Value} {xs : List Value} {D : DataW Value} (h : W.ownsMap Tryd.prog 3 nR b k D) (ho : W.ownsRow X e s v n xs) (hg : W.grownBy W' v.ownBlock) : W'.ownsMap Tryd.prog 3 nR b k D := by
  refine h.kept hg ?_
  rcases ho.2 with ⟨rfl, _⟩ | ⟨g0, cap, cur, rfl, _, hgb, _⟩
  · simp [Value.ownBlock]
  · have := map_ne_cells h hgb
    simp [Value.ownBlock]
    exact fun e => this e.symm
/-- A row stands where another one, of another kind, grew. -/
theorem rows_apart {W W' : World} {X Y e f s t n m : Nat} {v u : Value} {xs ys : List Value} (h : W.ownsRow X e s v n xs) (ho : W.ownsRow Y f t u m ys) (hg : W.grownBy W' u.ownBlock) (hef : e ≠ f) : W'.ownsRow X e s v n xs := by
  refine ⟨h.1, ?_⟩
  rcases h.2 with h0 | ⟨g, cap, cur, e1, hX, hb, r⟩
  · exact .inl h0
  · exact .inr ⟨g, cap, cur, e1, hX, own_keeps ho hg hb hef, r⟩
theorem ownsRow_as {W : World} {X e s n : Nat} {v : Value} {xs : List Value} (h : W.ownsRow X e s v n xs) : ∃ a c, v = .slice a n c := by
  rcases h.2 with ⟨rfl, rfl⟩ | ⟨g, cap, cur, e1, _⟩
  · exact ⟨none, 0, rfl⟩
  · exact ⟨_, _, e1⟩
theorem row_mapg {W W' : World} {X e s n b : Nat} {v : Value} {l : List Value} {H : Type} {R : Value → Option (DataW H × List MemPlace)} {k : Nat} {D : DataW H} (h : W.ownsRow X e s v n l) (hm : W.ownsMap Tryd.prog 3 R b k D) (hg : W.grownBy W' (some b)) : W'.ownsRow X e s v n l := by
  refine h.kept hg ?_
  rcases h.2 with ⟨rfl, _⟩ | ⟨g0, cap, cur, rfl, _, hgb, _⟩
  · exact .inl rfl
  · exact .inr (by simpa [Value.ownBlock] using map_ne_cells hm hgb)
/-- A row stands where a cell of a block of another kind is written. -/
theorem row_set {W : World} {X e s n g i t : Nat} {v : Value} {xs : List Value} {cs : Array Value} (h : W.ownsRow X e s v n xs) (hb : W.heap[g]? = some (.cells cs t (0, 0))) (ht : t ≠ e) (z : Value) : (W.setCell ⟨g, i, none⟩ z).ownsRow X e s v n xs := by
  refine ⟨h.1, ?_⟩
  rcases h.2 with h0 | ⟨g0, cap, cur, e1, hX, hg0, r⟩
  · exact .inl h0
  · have hne : g0 ≠ g := fun e2 => by rw [e2, hb] at hg0; cases hg0; exact ht rfl
    exact .inr ⟨g0, cap, cur, e1, hX, blk_far hg0 hne _, r⟩
def wk7.T7 : Bool × List (List Nat × List Nat) := (true, [([], []), ([0], [0]), ([], []), ([2], [2]), ([], []), ([3, 4], [3, 4]), ([5], [5]), ([6], [6]), ([1, 7], [1, 7]), ([0, 1, 2, 3, 4, 5, 6, 7, 8], []), ([9, 8, 8, 0, 1, 2, 3, 4, 5, 6, 7, 8], [8, 9])])
def wk7.B7 : List Nat := [0, 1, 0, 4, 0, 28, 60, 124, 255, 511, 1023]
theorem wk7.tab7 : rtab .any (opsOf Tryd.f11 7) = wk7.T7 := by kernel_rfl
theorem wk7.bits7 : waitsOk wk7.T7.2 wk7.B7 = true := by kernel_rfl
set_option maxHeartbeats 16000000 in
set_option maxRecDepth 100000 in
theorem walked_calls (W : World) (B : Nat) (hB : B ≤ W.heap.size) (g : Gd) (hsm : Small g) (HG : Aside0 (GM W B g)) : Calls Tryd.prog 11 #[.agg #[.slice g.rA g.rl g.rc, .slice g.nA g.nl g.nc]] W fun e W' => ∃ mb aN cN, e = .returned (.agg #[.map (some mb), .slice aN (walkR g.NS g.R).length cN]) ∧ PMap .i64 W' mb (fun y => (pl (walkR g.NS g.R) y : Int)) (walkR g.NS g.R) ∧ W'.ownsRow W.heap.size 35 6 (.slice aN (walkR g.NS g.R).length cN) (walkR g.NS g.R).length (nds ((walkR g.NS g.R).map (nodeOf g.NS))) ∧ Below W.heap.size W W' := by
  obtain ⟨i0, hi, hz0, hz1, hz2⟩ := info_parts info35
  have HB := Aside0.mk (Below.refl W.heap.size W)
  go_enter Tryd.func11, Tryd.ntmps11
  go_upto_region 1 with (first | ((with_reducible refine gate_dst (N := 1) rfl ?_); refine box_event ?hg (N := 1) ?hd (cs := #[.slice g.rA g.rl g.rc, .slice g.nA g.nl g.nc]) (t := 25) ?hr ?_; (case hd => rfl); (case hg => rfl); (case hr => first | (go_simp; done) | (go_simp; rfl)); intro g1 hg w1_ hbox hb; have n0_ := Aside0.mk (below_step (by repeat (first | (with_reducible first | exact HB.out | apply below_alloc | apply pw_below_drewN | apply below_drew1) | exact HB.out)) hb); have n1_ := Aside0.mk hbox; have n2_ := Aside0.mk ((by rw [hg]; exact (below_size (by repeat (first | (with_reducible first | exact HB.out | apply below_alloc | apply pw_below_drewN | apply below_drew1) | exact HB.out)))) : W.heap.size ≤ g1); clear HB; have HB := n0_; have BK1 := n1_; have GE1 := n2_; clear n0_ n1_ n2_; clear hb hbox hg) | ((with_reducible refine gate_dst (N := 2) rfl ?_); refine box_event ?hg (N := 2) ?hd (cs := #[.map none, .slice none 0 0]) (t := 40) ?hr ?_; (case hd => rfl); (case hg => rfl); (case hr => first | (go_simp; done) | (go_simp; rfl)); intro g2 hg w2_ hbox hb; have n0_ := Aside0.mk (below_step (by repeat (first | (with_reducible first | exact HB.out | apply below_alloc | apply pw_below_drewN | apply below_drew1 | refine below_set ?_ GE1.out) | exact HB.out)) hb); have n1_ := Aside0.mk (blk_below (g := g1) (o := .cells #[.slice g.rA g.rl g.rc, .slice g.nA g.nl g.nc] 25 (0, 0)) (by (with_reducible repeat (first | refine blk_drewN ?_ _ | refine blk_drew ?_ | refine blk_alloc ?_ _)); exact BK1.out) hb); have n2_ := Aside0.mk hbox; have n3_ := Aside0.mk ((by rw [hg]; exact (below_size (by repeat (first | (with_reducible first | exact HB.out | apply below_alloc | apply pw_below_drewN | apply below_drew1 | refine below_set ?_ GE1.out) | exact HB.out)))) : W.heap.size ≤ g2); have n4_ := Aside0.mk ((by rw [hg]; exact Nat.ne_of_lt (blk_lt (g := g1) (o := .cells #[.slice g.rA g.rl g.rc, .slice g.nA g.nl g.nc] 25 (0, 0)) (by (with_reducible repeat (first | refine blk_drewN ?_ _ | refine blk_drew ?_ | refine blk_alloc ?_ _)); exact BK1.out))) : g1 ≠ g2); clear HB; clear BK1; have HB := n0_; have BK1 := n1_; have BK2 := n2_; have GE2 := n3_; have NE1_2 := n4_; clear n0_ n1_ n2_ n3_ n4_; clear hb hbox hg))
  go_wp2
  rw [run_makeMap]
  obtain ⟨wm, hwm⟩ : ∃ x, x = w2_.alloc (.map #[] 0) := ⟨_, rfl⟩
  obtain ⟨mb, hmb⟩ : ∃ x, x = w2_.heap.size := ⟨_, rfl⟩
  rw [← hwm, ← hmb]
  have hbm : Below w2_.heap.size w2_ wm := by rw [hwm]; exact below_alloc (Below.refl _ _) _
  have MP0 := Aside0.mk (show wm.ownsMap Tryd.prog 3 nR mb 0 (.map []) by rw [hwm, hmb]; exact World.ownsMap_made _ _ _ _)
  have HBm := Aside0.mk (below_step HB.out hbm)
  have BK1m := Aside0.mk (blk_below BK1.out hbm)
  have BK2m := Aside0.mk (blk_below BK2.out hbm)
  have GMB := Aside0.mk (show W.heap.size ≤ mb by rw [hmb]; exact HB.out.size)
  clear hbm hwm hmb HB BK1 BK2
  go_upto_region 2 with fail
  obtain ⟨w3, hw3⟩ : ∃ x, x = wm.alloc (.cells #[.map (some mb), .slice none 0 0] 40) := ⟨_, rfl⟩
  obtain ⟨g3, hg3⟩ : ∃ x, x = wm.heap.size := ⟨_, rfl⟩
  rw [← hw3, ← hg3]
  have hb3 : Below wm.heap.size wm w3 := by rw [hw3]; exact below_alloc (Below.refl _ _) _
  have BK3 := Aside0.mk (show w3.heap[g3]? = some (.cells #[.map (some mb), .slice none 0 0] 40 (0, 0)) by rw [hw3, hg3]; exact blk_new _ _)
  have GE3 := Aside0.mk (show W.heap.size ≤ g3 by rw [hg3]; exact HBm.out.size)
  have NE13 := Aside0.mk (show g1 ≠ g3 by rw [hg3]; exact Nat.ne_of_lt (blk_lt BK1m.out))
  have NE23 := Aside0.mk (show g2 ≠ g3 by rw [hg3]; exact Nat.ne_of_lt (blk_lt BK2m.out))
  have NM3 := Aside0.mk (show mb ≠ g3 by rw [hg3]; exact Nat.ne_of_lt (World.ownsMap.lt MP0.out))
  have HB := Aside0.mk (below_step HBm.out hb3)
  have BK1 := Aside0.mk (blk_below BK1m.out hb3)
  have BK2 := Aside0.mk (blk_below BK2m.out hb3)
  have MP := Aside0.mk (owns_below MP0.out hb3)
  clear hb3 hw3 hg3 HBm BK1m BK2m MP0
  have hc1_0 : w3.cell? ⟨g1, 0, none⟩ = some (.slice g.rA g.rl g.rc) := (blk_cell BK1.out 0).trans rfl
  have hc1_1 : w3.cell? ⟨g1, 1, none⟩ = some (.slice g.nA g.nl g.nc) := (blk_cell BK1.out 1).trans rfl
  go_wp2_with (go_at_call 20; refine (walk_calls _ g B (Nat.le_trans hB HB.out.size) (Aside0.mk (HG.out.kept fun k hk => HB.out.block k (by omega))) hsm).mono ?_; rintro e w10 ⟨v10, rfl, hr, hb⟩; have HB10 := Aside0.mk (below_step HB.out hb); have BK110 := Aside0.mk (blk_below BK1.out hb); have BK210 := Aside0.mk (blk_below BK2.out hb); have BK310 := Aside0.mk (blk_below BK3.out hb); have MP10 := Aside0.mk (owns_below MP.out hb); obtain ⟨a10, c10, rfl, hll⟩ := row_form hr; have HV := Aside0.mk (row9_mono hr HB.out.size); clear hr hb)
  obtain ⟨L, hL⟩ : ∃ L, L = walkR g.NS g.R := ⟨_, rfl⟩
  have hL40 : L.length ≤ 40 := by rw [hL]; exact Nat.le_trans (walkR_len _ _) (by rw [HG.out.nds.1]; exact hsm.n40)
  have HND := Aside0.mk (show L.Nodup by rw [hL]; exact walkR_nodup _ _)
  have HFI := Aside0.mk (show ∀ x ∈ L, ∃ k, find g.NS x = some k from fun x hx => walkR_find (by rw [← hL]; exact hx))
  rw [← hL] at HV ⊢
  have HLW := Aside0.mk hL
  clear hL hll HB BK1 BK2 BK3 MP hc1_0 hc1_1
  go_loopw [12] (fun v wr => ∃ (j : Nat) (aN : Option Addr) (cN : Nat) (DD : DataW Value), j ≤ L.length ∧ v = .int .i64 (j : Int) ∧ Aside0 (∀ y z, DD.atKey (key y) z = if y ∈ L.take j then .held (.int .i64 (pl L y : Int)) else z) ∧ Aside0 (IsMap DD) ∧ Aside0 (wr.ownsMap Tryd.prog 3 nR mb j DD) ∧ Aside0 (wr.ownsRow W.heap.size 3 1 (.slice a10 L.length c10) L.length (L.map (Value.int .i64))) ∧ Aside0 (wr.ownsRow W.heap.size 35 6 (.slice aN j cN) j (nds ((L.take j).map (nodeOf g.NS)))) ∧ Aside0 (Below W.heap.size W wr) ∧ Aside0 (wr.heap[g1]? = some (.cells #[.slice g.rA g.rl g.rc, .slice g.nA g.nl g.nc] 25 (0, 0))) ∧ Aside0 (wr.heap[g2]? = some (.cells #[.map none, .slice none 0 0] 40 (0, 0))) ∧ Aside0 (wr.heap[g3]? = some (.cells #[.map (some mb), .slice aN j cN] 40 (0, 0)))) (fun v _ => L.length - (intOf v).toNat)
  case atStart => exact ⟨0, none, 0, .map [], by omega, rfl, Aside0.mk (fun y z => by rw [if_neg (by simp)]; rfl), Aside0.mk ⟨[], rfl⟩, MP10, HV, Aside0.mk (World.ownsRow_nil _ _ _ _), HB10, BK110, BK210, BK310⟩
  case round =>
    clear HB10 BK110 BK210 BK310 MP10 HV
    obtain ⟨j, aN, cN, DD, hj, rfl, HAT, HIM, MP, HV, OWN, HB, BK1, BK2, BK3⟩ := hrel
    by_cases hgo : j < L.length
    · have hd : decide ((j : Int) < (L.length : Int)) = true := decide_eq_true (by omega)
      obtain ⟨y, e, hyc⟩ := row_cell HV.out j hgo
      subst e
      obtain ⟨x, hx⟩ : ∃ x, x = L.getD j 0 := ⟨_, rfl⟩
      rw [← hx] at hyc
      have hLj : L[j]? = some x := by rw [hx, List.getD_eq_getElem?_getD, List.getElem?_eq_getElem hgo]; rfl
      obtain ⟨k, hk⟩ := HFI.out x (List.mem_of_getElem? hLj)
      have HWF := Aside0.mk (show (Lit.int .i64 x).wf = true by rw [← find_adr hk]; exact HG.out.ok k (find_mem hk))
      have HPL := Aside0.mk (pl_at HND.out hLj)
      have HTK := Aside0.mk (show L.take (j + 1) = L.take j ++ [x] by rw [List.take_add_one, hLj]; rfl)
      obtain ⟨jj, hj1, hj2, hj3, hj4⟩ := find_first hk
      have hjj : jj < g.nl := by rw [← HG.out.nds.1]; exact hj1
      have HJ := Aside0.mk (show (g.NS.getD jj default).adr = x ∧ ∀ i, i < jj → (g.NS.getD i default).adr ≠ x from ⟨by rw [hj2]; exact hj3, hj4⟩)
      have HNO := Aside0.mk (show nodeOf g.NS x = k by unfold nodeOf; rw [hk]; rfl)
      have HKJ := Aside0.mk hj2
      clear hx hLj hk hj1 hj2 hj3 hj4
      have hj0 : (0 : Int) ≤ (j : Int) := by omega
      have hj1 : (j : Int) < (L.length : Int) := by omega
      have hmx : j < maxLen := by unfold maxLen; omega
      have hj1n : j + 1 ≤ L.length := by omega
      go_upto_region 5 with fail
      obtain ⟨g5, hg5⟩ : ∃ x, x = wr.heap.size := ⟨_, rfl⟩
      obtain ⟨wc, hwc⟩ : ∃ z, z = wr.alloc (.cells #[.int .i64 x] 3) := ⟨_, rfl⟩
      rw [← hg5, ← hwc]
      have hbc : Below wr.heap.size wr wc := by rw [hwc]; exact below_alloc (Below.refl _ _) _
      have BK5 := Aside0.mk (show wc.heap[g5]? = some (.cells #[.int .i64 x] 3 (0, 0)) by rw [hwc, hg5]; exact blk_new _ _)
      have HBc := Aside0.mk (below_step HB.out hbc)
      have BK1c := Aside0.mk (blk_below BK1.out hbc)
      have BK2c := Aside0.mk (blk_below BK2.out hbc)
      have BK3c := Aside0.mk (blk_below BK3.out hbc)
      have HD1 := Aside0.mk (owns_below MP.out hbc)
      have HVc := Aside0.mk (row9_below HV.out hbc)
      have OWNc := Aside0.mk (row9_below OWN.out hbc)
      clear hbc hwc hg5 hyc HB BK1 BK2 BK3 MP HV OWN
      have hc3 : wc.cell? ⟨g3, 0, none⟩ = some (.map (some mb)) := (blk_cell BK3c.out 0).trans rfl
      have hc5 : wc.cell? ⟨g5, 0, none⟩ = some (.int .i64 x) := (blk_cell BK5.out 0).trans rfl
      go_upto_region 6 with (at_mapUpdate; refine wpList_mapUpdate_own _ rfl _ _ _ 38 rfl 3 3 Di.keyed3 Tryd.underlying38 nR mb j _ rfl HD1.out hmx _ _ _ rfl rfl (keyOf3 HWF.out) (.held (.int .i64 ((j : Int) + 1))) [] rfl ?_; intro w9 hown9 hg9; have MP9 := Aside0.mk hown9; have HG9 := Aside0.mk hg9; clear hown9 hg9)
      have NB1 := map_ne_cells HD1.out BK1c.out
      have NB2 := map_ne_cells HD1.out BK2c.out
      have NB3 := map_ne_cells HD1.out BK3c.out
      have NB5 := map_ne_cells HD1.out BK5.out
      have HB9 := Aside0.mk (HBc.out.grown HG9.out HBc.out.size (fun k e => by cases e; exact GMB.out))
      have BK19 := Aside0.mk ((HG9.out.block g1 (blk_lt BK1c.out) (by simpa using NB1)).trans BK1c.out)
      have BK29 := Aside0.mk ((HG9.out.block g2 (blk_lt BK2c.out) (by simpa using NB2)).trans BK2c.out)
      have BK39 := Aside0.mk ((HG9.out.block g3 (blk_lt BK3c.out) (by simpa using NB3)).trans BK3c.out)
      have BK59 := Aside0.mk ((HG9.out.block g5 (blk_lt BK5.out) (by simpa using NB5)).trans BK5.out)
      have HV9 := Aside0.mk (row_mapg HVc.out HD1.out HG9.out)
      have OWN9 := Aside0.mk (row_mapg OWNc.out HD1.out HG9.out)
      clear hc3 hc5 NB1 NB2 NB3 NB5 HBc BK1c BK2c BK3c HVc OWNc BK5 HD1 HG9
      have hc9 : w9.cell? ⟨g1, 1, none⟩ = some (.slice g.nA g.nl g.nc) := (blk_cell BK19.out 1).trans rfl
      go_upto_region 7 with (go_at_call 23; refine (index23_calls _ g.nA g.nl g.nc g.NS (Aside0.mk (NL_up (HG.out.nds.kept fun k hk => HB9.out.block k (by omega)) (Nat.le_trans hB HB9.out.size))) (by have := hsm.n40; omega) g5 x BK59 jj hjj HJ).mono ?_; rintro e w11 ⟨rfl, hb⟩; have HB11 := Aside0.mk (below_step HB9.out hb); have BK111 := Aside0.mk (blk_below BK19.out hb); have BK211 := Aside0.mk (blk_below BK29.out hb); have BK311 := Aside0.mk (blk_below BK39.out hb); have MP11 := Aside0.mk (owns_below MP9.out hb); have HV11 := Aside0.mk (row9_below HV9.out hb); have OWN11 := Aside0.mk (row9_below OWN9.out hb); clear hb)
      clear hc9 HB9 BK19 BK29 BK39 BK59 HV9 OWN9 MP9
      obtain ⟨yn, en, _, _⟩ := HG.out.nds.2 jj hjj
      have HNC0 := Aside0.mk (fun (W' : World) (hb : Below W.heap.size W W') => (HG.out.nds.kept fun q hq => hb.block q (by omega)).2 jj hjj)
      have BK1s := Aside0.mk (show w11.heap[g1]? = some (.cells #[.slice g.rA g.rl g.rc, .slice (some yn) g.nl g.nc] 25 (0, 0)) by rw [← en]; exact BK111.out)
      obtain ⟨ka, kr, ks, kw, kA, km, kc, kB, kn, kd, kS, kT⟩ := k
      have HNC := Aside0.mk (fun (W' : World) (hb : Below W.heap.size W W') => show W'.cell? (yn.add (jj * 6)) = some (.int .i64 ka) ∧ W'.cell? { block := (yn.add (jj * 6)).block, off := (yn.add (jj * 6)).off + 1 } = some (.int .i64 kr) ∧ W'.cell? { block := (yn.add (jj * 6)).block, off := (yn.add (jj * 6)).off + 2 } = some (.int .i64 ks) ∧ W'.cell? { block := (yn.add (jj * 6)).block, off := (yn.add (jj * 6)).off + 3 } = some (.int .i64 kw) ∧ W'.cell? { block := (yn.add (jj * 6)).block, off := (yn.add (jj * 6)).off + 4 } = some (.slice kA km kc) ∧ W'.cell? { block := (yn.add (jj * 6)).block, off := (yn.add (jj * 6)).off + 5 } = some (.slice kB kn kd) by
        obtain ⟨y2, e2, _, h0, h1, h2, h3, h4, h5⟩ := HNC0.out W' hb
        rw [en] at e2
        cases e2
        rw [HKJ.out] at h0 h1 h2 h3 h4 h5
        exact ⟨(congrArg _ (add_zero _).symm).trans h0, h1, h2, h3, h4, h5⟩)
      have EN := Aside0.mk en
      clear en HNC0 BK111
      obtain ⟨xs, hxs⟩ : ∃ xs, xs = nds ((L.take j).map (nodeOf g.NS)) := ⟨_, rfl⟩
      rw [← hxs] at OWN11
      have HXS := Aside0.mk hxs
      clear hxs
      obtain ⟨D2, hD2⟩ : ∃ d, d = DD.put (key x) (.held (.int .i64 ((j : Int) + 1))) := ⟨_, rfl⟩
      have MP12 := Aside0.mk (show w11.ownsMap Tryd.prog 3 nR mb (j + 1) D2 by rw [hD2]; exact MP11.out)
      have HD2 := Aside0.mk hD2
      clear hD2 MP11
      have hjj0 : (0 : Int) ≤ (jj : Int) := by omega
      have hjj1 : (jj : Int) < (g.nl : Int) := by omega
      have HB := HB11
      have BK1 := BK1s
      have BK2 := BK211
      have BK3 := BK311
      have MP := MP12
      have HV := HV11
      have OWN := OWN11
      clear HB11 BK1s BK211 BK311 MP12 HV11 OWN11
      refine start_ (n := 11) (S := fun w' => True) (ds := []) #[false, false, false, false, false, false, false, false, false, false, false] (by kernel_rfl) rfl rfl trivial (fun hHeld => ?_)
      refine with_tabW wk7.tab7 wk7.bits7 (fun HT_ HW_ => ?_)
      refine inv_at [0, 1, 2, 3, 4, 5, 6, 7, 8, 9, 10] (fun a0_ b a w' => ∃ (gz : Nat) (a34 : Option Addr) (c34 : Nat) (m7_ : Value) (m8_ : Value), a = putSel a0_ b [(0, 26, .pointer (some ⟨g3, 1, none⟩)), (1, 27, .slice aN j cN), (2, 28, .pointer (some ⟨g1, 1, none⟩)), (3, 29, .slice (some yn) g.nl g.nc), (4, 30, .int .i64 (jj : Int)), (5, 31, .pointer (some (yn.add (jj * 6)))), (6, 32, .agg #[.int .i64 ka, .int .i64 kr, .int .i64 ks, .int .i64 kw, .slice kA km kc, .slice kB kn kd]), (7, 33, m7_), (8, 34, m8_), (9, 35, .pointer (some ⟨g3, 1, none⟩))] ∧ (Below W.heap.size W w') ∧ (w'.heap[g1]? = some (.cells #[.slice g.rA g.rl g.rc, .slice (some yn) g.nl g.nc] 25 (0, 0))) ∧ (w'.heap[g2]? = some (.cells #[.map none, .slice none 0 0] 40 (0, 0))) ∧ (b 10 = false → w'.heap[g3]? = some (.cells #[.map (some mb), .slice aN j cN] 40 (0, 0))) ∧ (b 10 = true → w'.heap[g3]? = some (.cells #[.map (some mb), .slice a34 (j + 1) c34] 40 (0, 0))) ∧ (w'.ownsMap Tryd.prog 3 nR mb (j + 1) D2) ∧ (w'.ownsRow W.heap.size 3 1 (.slice (some y) L.length c10) L.length (L.map (Value.int .i64))) ∧ (b 8 = false → w'.ownsRow W.heap.size 35 6 (.slice aN j cN) j xs) ∧ (b 7 = true → b 8 = false → w'.heap[gz]? = some (.cells #[.int .i64 ka, .int .i64 kr, .int .i64 ks, .int .i64 kw, .slice kA km kc, .slice kB kn kd] 35 (0, 0))) ∧ (b 8 = true → w'.ownsRow W.heap.size 35 6 (.slice a34 (j + 1) c34) (j + 1) (xs ++ [Value.int .i64 ka, .int .i64 kr, .int .i64 ks, .int .i64 kw, .slice kA km kc, .slice kB kn kd])) ∧ (b 7 = true → (m7_ : Value) = .slice (some ⟨gz, 0, none⟩) 1 1) ∧ (b 8 = true → (m8_ : Value) = .slice a34 (j + 1) c34)) HT_.out HW_.out (by kernel_rfl) (by kernel_rfl) ?_ ?_ ?_
      · exact ⟨0, none, 0, .bool false, .bool false, by simp only [putSel, Bool.false_eq_true, if_false], below_drew1 HB.out, BK1.out, BK2.out, fun _ => BK3.out, fun h_ => absurd h_ (by decide), owns_drew MP.out, HV.out, fun _ => OWN.out, fun h_ => absurd h_ (by decide), fun h_ => absurd h_ (by decide), fun h_ => absurd h_ (by decide), fun h_ => absurd h_ (by decide)⟩
      · skip
        clear BK1 BK2 BK3 HB HV MP OWN
        refine steps_cons ?_ ?_
        · rintro b a w' ⟨gz, a34, c34, m7_, m8_, ha, Q_HB, Q_BK1, Q_BK2, Q_BK3, Q_BK3n, Q_MP, Q_HV, Q_OWN, Q_BZ, Q_OWN2, Q_X7_, Q_X8_⟩ hb_ hon hoff
          refine ⟨_, rfl, fun K hK => ?_⟩
          have e3 : a.tmps[3]? = some (.pointer (some ⟨g3, 0, none⟩)) := by rw [ha]; exact (putSel_off rfl).trans rfl
          replace ha := Aside0.mk ha
          have HB := Aside0.mk Q_HB
          have BK1 := Aside0.mk Q_BK1
          have BK2 := Aside0.mk Q_BK2
          have BK3 := Aside0.mk (Q_BK3 (hoff 10 (by kernel_rfl)))
          have MP := Aside0.mk Q_MP
          have HV := Aside0.mk Q_HV
          have OWN := Aside0.mk (Q_OWN (hoff 8 (by kernel_rfl)))
          refine value_ (w1 := w') (v := .pointer (some ⟨g3, 1, none⟩)) (by rfl) rfl ?_ ?_
          · go_simp
            (try simp only [i64_w])
            try rfl
          refine hK.out _ _ ⟨gz, a34, c34, m7_, m8_, (by rw [ha.out]; exact putSel_upk 0 hb_ rfl rfl rfl), Q_HB, Q_BK1, Q_BK2, Q_BK3, fun h0_ => absurd ((hoff 10 (by kernel_rfl)).symm.trans h0_) (by decide), Q_MP, Q_HV, Q_OWN, Q_BZ, fun h0_ => absurd ((hoff 8 (by kernel_rfl)).symm.trans h0_) (by decide), Q_X7_, fun h0_ => absurd ((hoff 8 (by kernel_rfl)).symm.trans h0_) (by decide)⟩
        refine steps_cons ?_ ?_
        · rintro b a w' ⟨gz, a34, c34, m7_, m8_, ha, Q_HB, Q_BK1, Q_BK2, Q_BK3, Q_BK3n, Q_MP, Q_HV, Q_OWN, Q_BZ, Q_OWN2, Q_X7_, Q_X8_⟩ hb_ hon hoff
          refine ⟨_, rfl, fun K hK => ?_⟩
          have e26 : a.tmps[26]? = some (.pointer (some ⟨g3, 1, none⟩)) := by rw [ha]; exact putSel_on (e := (0, 26, .pointer (some ⟨g3, 1, none⟩))) 0 rfl rfl (hon 0 (by kernel_rfl)) rfl
          replace ha := Aside0.mk ha
          have HB := Aside0.mk Q_HB
          have BK1 := Aside0.mk Q_BK1
          have BK2 := Aside0.mk Q_BK2
          have BK3 := Aside0.mk (Q_BK3 (hoff 10 (by kernel_rfl)))
          have MP := Aside0.mk Q_MP
          have HV := Aside0.mk Q_HV
          have OWN := Aside0.mk (Q_OWN (hoff 8 (by kernel_rfl)))
          have hl27 : w'.cell? ⟨g3, 1, none⟩ = some (.slice aN j cN) := (blk_cell BK3.out 1).trans rfl
          refine value_ (w1 := w') (v := .slice aN j cN) (by rfl) rfl ?_ ?_
          · go_simp
            (try simp only [i64_w])
            try rfl
          refine hK.out _ _ ⟨gz, a34, c34, m7_, m8_, (by rw [ha.out]; exact putSel_upk 1 hb_ rfl rfl rfl), Q_HB, Q_BK1, Q_BK2, Q_BK3, fun h0_ => absurd ((hoff 10 (by kernel_rfl)).symm.trans h0_) (by decide), Q_MP, Q_HV, Q_OWN, Q_BZ, fun h0_ => absurd ((hoff 8 (by kernel_rfl)).symm.trans h0_) (by decide), Q_X7_, fun h0_ => absurd ((hoff 8 (by kernel_rfl)).symm.trans h0_) (by decide)⟩
        refine steps_cons ?_ ?_
        · rintro b a w' ⟨gz, a34, c34, m7_, m8_, ha, Q_HB, Q_BK1, Q_BK2, Q_BK3, Q_BK3n, Q_MP, Q_HV, Q_OWN, Q_BZ, Q_OWN2, Q_X7_, Q_X8_⟩ hb_ hon hoff
          refine ⟨_, rfl, fun K hK => ?_⟩
          have e1 : a.tmps[1]? = some (.pointer (some ⟨g1, 0, none⟩)) := by rw [ha]; exact (putSel_off rfl).trans rfl
          replace ha := Aside0.mk ha
          have HB := Aside0.mk Q_HB
          have BK1 := Aside0.mk Q_BK1
          have BK2 := Aside0.mk Q_BK2
          have BK3 := Aside0.mk (Q_BK3 (hoff 10 (by kernel_rfl)))
          have MP := Aside0.mk Q_MP
          have HV := Aside0.mk Q_HV
          have OWN := Aside0.mk (Q_OWN (hoff 8 (by kernel_rfl)))
          refine value_ (w1 := w') (v := .pointer (some ⟨g1, 1, none⟩)) (by rfl) rfl ?_ ?_
          · go_simp
            (try simp only [i64_w])
            try rfl
          refine hK.out _ _ ⟨gz, a34, c34, m7_, m8_, (by rw [ha.out]; exact putSel_upk 2 hb_ rfl rfl rfl), Q_HB, Q_BK1, Q_BK2, Q_BK3, fun h0_ => absurd ((hoff 10 (by kernel_rfl)).symm.trans h0_) (by decide), Q_MP, Q_HV, Q_OWN, fun h0_ _ => absurd ((hoff 7 (by kernel_rfl)).symm.trans h0_) (by decide), fun h0_ => absurd ((hoff 8 (by kernel_rfl)).symm.trans h0_) (by decide), fun h0_ => absurd ((hoff 7 (by kernel_rfl)).symm.trans h0_) (by decide), fun h0_ => absurd ((hoff 8 (by kernel_rfl)).symm.trans h0_) (by decide)⟩
        refine steps_cons ?_ ?_
        · rintro b a w' ⟨gz, a34, c34, m7_, m8_, ha, Q_HB, Q_BK1, Q_BK2, Q_BK3, Q_BK3n, Q_MP, Q_HV, Q_OWN, Q_BZ, Q_OWN2, Q_X7_, Q_X8_⟩ hb_ hon hoff
          refine ⟨_, rfl, fun K hK => ?_⟩
          have e28 : a.tmps[28]? = some (.pointer (some ⟨g1, 1, none⟩)) := by rw [ha]; exact putSel_on (e := (2, 28, .pointer (some ⟨g1, 1, none⟩))) 2 rfl rfl (hon 2 (by kernel_rfl)) rfl
          replace ha := Aside0.mk ha
          have HB := Aside0.mk Q_HB
          have BK1 := Aside0.mk Q_BK1
          have BK2 := Aside0.mk Q_BK2
          have BK3 := Aside0.mk (Q_BK3 (hoff 10 (by kernel_rfl)))
          have MP := Aside0.mk Q_MP
          have HV := Aside0.mk Q_HV
          have OWN := Aside0.mk (Q_OWN (hoff 8 (by kernel_rfl)))
          have hl29 : w'.cell? ⟨g1, 1, none⟩ = some (.slice (some yn) g.nl g.nc) := (blk_cell BK1.out 1).trans rfl
          refine value_ (w1 := w') (v := .slice (some yn) g.nl g.nc) (by rfl) rfl ?_ ?_
          · go_simp
            (try simp only [i64_w])
            try rfl
          refine hK.out _ _ ⟨gz, a34, c34, m7_, m8_, (by rw [ha.out]; exact putSel_upk 3 hb_ rfl rfl rfl), Q_HB, Q_BK1, Q_BK2, Q_BK3, fun h0_ => absurd ((hoff 10 (by kernel_rfl)).symm.trans h0_) (by decide), Q_MP, Q_HV, Q_OWN, fun h0_ _ => absurd ((hoff 7 (by kernel_rfl)).symm.trans h0_) (by decide), fun h0_ => absurd ((hoff 8 (by kernel_rfl)).symm.trans h0_) (by decide), fun h0_ => absurd ((hoff 7 (by kernel_rfl)).symm.trans h0_) (by decide), fun h0_ => absurd ((hoff 8 (by kernel_rfl)).symm.trans h0_) (by decide)⟩
        refine steps_cons ?_ ?_
        · rintro b a w' ⟨gz, a34, c34, m7_, m8_, ha, Q_HB, Q_BK1, Q_BK2, Q_BK3, Q_BK3n, Q_MP, Q_HV, Q_OWN, Q_BZ, Q_OWN2, Q_X7_, Q_X8_⟩ hb_ hon hoff
          refine ⟨_, rfl, fun K hK => ?_⟩
          have e6 : a.tmps[6]? = some (.int .i64 (jj : Int)) := by rw [ha]; exact (putSel_off rfl).trans rfl
          replace ha := Aside0.mk ha
          have HB := Aside0.mk Q_HB
          have BK1 := Aside0.mk Q_BK1
          have BK2 := Aside0.mk Q_BK2
          have BK3 := Aside0.mk (Q_BK3 (hoff 10 (by kernel_rfl)))
          have MP := Aside0.mk Q_MP
          have HV := Aside0.mk Q_HV
          have OWN := Aside0.mk (Q_OWN (hoff 8 (by kernel_rfl)))
          refine value_ (w1 := w') (v := .int .i64 (jj : Int)) (by rfl) rfl ?_ ?_
          · go_simp
            (try simp only [i64_w])
            try rfl
          refine hK.out _ _ ⟨gz, a34, c34, m7_, m8_, (by rw [ha.out]; exact putSel_upk 4 hb_ rfl rfl rfl), Q_HB, Q_BK1, Q_BK2, Q_BK3, fun h0_ => absurd ((hoff 10 (by kernel_rfl)).symm.trans h0_) (by decide), Q_MP, Q_HV, Q_OWN, fun h0_ _ => absurd ((hoff 7 (by kernel_rfl)).symm.trans h0_) (by decide), fun h0_ => absurd ((hoff 8 (by kernel_rfl)).symm.trans h0_) (by decide), fun h0_ => absurd ((hoff 7 (by kernel_rfl)).symm.trans h0_) (by decide), fun h0_ => absurd ((hoff 8 (by kernel_rfl)).symm.trans h0_) (by decide)⟩
        refine steps_cons ?_ ?_
        · rintro b a w' ⟨gz, a34, c34, m7_, m8_, ha, Q_HB, Q_BK1, Q_BK2, Q_BK3, Q_BK3n, Q_MP, Q_HV, Q_OWN, Q_BZ, Q_OWN2, Q_X7_, Q_X8_⟩ hb_ hon hoff
          refine ⟨_, rfl, fun K hK => ?_⟩
          have e29 : a.tmps[29]? = some (.slice (some yn) g.nl g.nc) := by rw [ha]; exact putSel_on (e := (3, 29, .slice (some yn) g.nl g.nc)) 3 rfl rfl (hon 3 (by kernel_rfl)) rfl
          have e30 : a.tmps[30]? = some (.int .i64 (jj : Int)) := by rw [ha]; exact putSel_on (e := (4, 30, .int .i64 (jj : Int))) 4 rfl rfl (hon 4 (by kernel_rfl)) rfl
          replace ha := Aside0.mk ha
          have HB := Aside0.mk Q_HB
          have BK1 := Aside0.mk Q_BK1
          have BK2 := Aside0.mk Q_BK2
          have BK3 := Aside0.mk (Q_BK3 (hoff 10 (by kernel_rfl)))
          have MP := Aside0.mk Q_MP
          have HV := Aside0.mk Q_HV
          have OWN := Aside0.mk (Q_OWN (hoff 8 (by kernel_rfl)))
          refine value_ (w1 := w') (v := .pointer (some (yn.add (jj * 6)))) (by rfl) rfl ?_ ?_
          · go_simp
            (try simp only [i64_w])
            try rfl
          refine hK.out _ _ ⟨gz, a34, c34, m7_, m8_, (by rw [ha.out]; exact putSel_upk 5 hb_ rfl rfl rfl), Q_HB, Q_BK1, Q_BK2, Q_BK3, fun h0_ => absurd ((hoff 10 (by kernel_rfl)).symm.trans h0_) (by decide), Q_MP, Q_HV, Q_OWN, fun h0_ _ => absurd ((hoff 7 (by kernel_rfl)).symm.trans h0_) (by decide), fun h0_ => absurd ((hoff 8 (by kernel_rfl)).symm.trans h0_) (by decide), fun h0_ => absurd ((hoff 7 (by kernel_rfl)).symm.trans h0_) (by decide), fun h0_ => absurd ((hoff 8 (by kernel_rfl)).symm.trans h0_) (by decide)⟩
        refine steps_cons ?_ ?_
        · rintro b a w' ⟨gz, a34, c34, m7_, m8_, ha, Q_HB, Q_BK1, Q_BK2, Q_BK3, Q_BK3n, Q_MP, Q_HV, Q_OWN, Q_BZ, Q_OWN2, Q_X7_, Q_X8_⟩ hb_ hon hoff
          refine ⟨_, rfl, fun K hK => ?_⟩
          have e31 : a.tmps[31]? = some (.pointer (some (yn.add (jj * 6)))) := by rw [ha]; exact putSel_on (e := (5, 31, .pointer (some (yn.add (jj * 6))))) 5 rfl rfl (hon 5 (by kernel_rfl)) rfl
          replace ha := Aside0.mk ha
          have HB := Aside0.mk Q_HB
          have BK1 := Aside0.mk Q_BK1
          have BK2 := Aside0.mk Q_BK2
          have BK3 := Aside0.mk (Q_BK3 (hoff 10 (by kernel_rfl)))
          have MP := Aside0.mk Q_MP
          have HV := Aside0.mk Q_HV
          have OWN := Aside0.mk (Q_OWN (hoff 8 (by kernel_rfl)))
          obtain ⟨hn0, hn1, hn2, hn3, hn4, hn5⟩ := HNC.out w' HB.out
          refine value_ (w1 := w') (v := .agg #[.int .i64 ka, .int .i64 kr, .int .i64 ks, .int .i64 kw, .slice kA km kc, .slice kB kn kd]) (by rfl) rfl ?_ ?_
          · go_simp
            (try simp only [i64_w])
            try rfl
          refine hK.out _ _ ⟨gz, a34, c34, m7_, m8_, (by rw [ha.out]; exact putSel_upk 6 hb_ rfl rfl rfl), Q_HB, Q_BK1, Q_BK2, Q_BK3, fun h0_ => absurd ((hoff 10 (by kernel_rfl)).symm.trans h0_) (by decide), Q_MP, Q_HV, Q_OWN, fun h0_ _ => absurd ((hoff 7 (by kernel_rfl)).symm.trans h0_) (by decide), fun h0_ => absurd ((hoff 8 (by kernel_rfl)).symm.trans h0_) (by decide), fun h0_ => absurd ((hoff 7 (by kernel_rfl)).symm.trans h0_) (by decide), fun h0_ => absurd ((hoff 8 (by kernel_rfl)).symm.trans h0_) (by decide)⟩
        refine steps_cons ?_ ?_
        · rintro b a w' ⟨gz, a34, c34, m7_, m8_, ha, Q_HB, Q_BK1, Q_BK2, Q_BK3, Q_BK3n, Q_MP, Q_HV, Q_OWN, Q_BZ, Q_OWN2, Q_X7_, Q_X8_⟩ hb_ hon hoff
          refine ⟨_, rfl, fun K hK => ?_⟩
          have e32 : a.tmps[32]? = some (.agg #[.int .i64 ka, .int .i64 kr, .int .i64 ks, .int .i64 kw, .slice kA km kc, .slice kB kn kd]) := by rw [ha]; exact putSel_on (e := (6, 32, .agg #[.int .i64 ka, .int .i64 kr, .int .i64 ks, .int .i64 kw, .slice kA km kc, .slice kB kn kd])) 6 rfl rfl (hon 6 (by kernel_rfl)) rfl
          replace ha := Aside0.mk ha
          have HB := Aside0.mk Q_HB
          have BK1 := Aside0.mk Q_BK1
          have BK2 := Aside0.mk Q_BK2
          have BK3 := Aside0.mk (Q_BK3 (hoff 10 (by kernel_rfl)))
          have MP := Aside0.mk Q_MP
          have HV := Aside0.mk Q_HV
          have OWN := Aside0.mk (Q_OWN (hoff 8 (by kernel_rfl)))
          refine value_ (w1 := ?_) (v := ?_) (by rfl) rfl ?_ ?_
          rotate_left 2
          · go_simp
            constructor
            · rfl
            · rfl
          have hb := below_alloc (Below.refl w'.heap.size w') (.cells #[.int .i64 ka, .int .i64 kr, .int .i64 ks, .int .i64 kw, .slice kA km kc, .slice kB kn kd] 35)
          refine hK.out _ _ ⟨w'.heap.size, a34, c34, (.slice (some ⟨w'.heap.size, 0, none⟩) 1 1), m8_, (by rw [ha.out]; exact putSel_upk 7 hb_ rfl rfl rfl), (below_step HB.out hb), (blk_below BK1.out hb), (blk_below BK2.out hb), fun _ => (blk_below BK3.out hb), fun h0_ => absurd ((hoff 10 (by kernel_rfl)).symm.trans h0_) (by decide), (owns_below MP.out hb), (row9_below HV.out hb), fun _ => (row9_below OWN.out hb), fun _ _ => (blk_new w' (.cells #[.int .i64 ka, .int .i64 kr, .int .i64 ks, .int .i64 kw, .slice kA km kc, .slice kB kn kd] 35)), fun h0_ => absurd ((hoff 8 (by kernel_rfl)).symm.trans h0_) (by decide), fun _ => rfl, fun h0_ => absurd ((hoff 8 (by kernel_rfl)).symm.trans h0_) (by decide)⟩
        refine steps_cons ?_ ?_
        · rintro b a w' ⟨gz, a34, c34, m7_, m8_, ha, Q_HB, Q_BK1, Q_BK2, Q_BK3, Q_BK3n, Q_MP, Q_HV, Q_OWN, Q_BZ, Q_OWN2, Q_X7_, Q_X8_⟩ hb_ hon hoff
          refine ⟨_, rfl, fun K hK => ?_⟩
          have e27 : a.tmps[27]? = some (.slice aN j cN) := by rw [ha]; exact putSel_on (e := (1, 27, .slice aN j cN)) 1 rfl rfl (hon 1 (by kernel_rfl)) rfl
          have e33 : a.tmps[33]? = some (m7_) := by rw [ha]; exact putSel_on (e := (7, 33, m7_)) 7 rfl rfl (hon 7 (by kernel_rfl)) rfl
          rw [Q_X7_ (hon 7 (by kernel_rfl))] at e33
          replace ha := Aside0.mk ha
          have HB := Aside0.mk Q_HB
          have BK1 := Aside0.mk Q_BK1
          have BK2 := Aside0.mk Q_BK2
          have BK3 := Aside0.mk (Q_BK3 (hoff 10 (by kernel_rfl)))
          have MP := Aside0.mk Q_MP
          have HV := Aside0.mk Q_HV
          have OWN := Aside0.mk (Q_OWN hb_)
          have BZ := Aside0.mk (Q_BZ (hon 7 (by kernel_rfl)) hb_)
          refine append_ (by rfl) rfl (.tmp 27) (.tmp 33) 23 rfl W.heap.size 35 i0 (.agg #[.int .i64 0, .int .i64 0, .int .i64 0, .int .i64 0, .slice none 0 0, .slice none 0 0]) 6 80 Tryd.underlying23 hi hz0 hz1 hz2 rfl (by decide) (.slice aN j cN) j xs ?qs1 OWN.out ⟨gz, 0, none⟩ 1 1 [Value.int .i64 ka, .int .i64 kr, .int .i64 ks, .int .i64 kw, .slice kA km kc, .slice kB kn kd] ?qx1 rfl (nd_six BZ.out) ?qo1 (by unfold maxLen; omega) (by omega) (below_size HB.out) ?_
          (case qs1 => simp [Act.eval, e27])
          (case qx1 => simp [Act.eval, e33])
          (case qo1 => intro u hu; simp at hu; rcases hu with rfl | rfl | rfl | rfl | rfl | rfl <;> rfl)
          intro v9 w9_ hown9 hgr9
          obtain ⟨a9, c9, rfl⟩ := ownsRow_as hown9
          refine hK.out _ _ ⟨gz, a9, c9, m7_, (.slice a9 (j + 1) c9), (by rw [ha.out]; exact putSel_upk 8 hb_ rfl rfl rfl), (own_below HB.out (Nat.le_refl _) OWN.out hgr9), (own_keeps OWN.out hgr9 BK1.out (by decide)), (own_keeps OWN.out hgr9 BK2.out (by decide)), fun _ => (own_keeps OWN.out hgr9 BK3.out (by decide)), fun h0_ => absurd ((hoff 10 (by kernel_rfl)).symm.trans h0_) (by decide), (owns_row MP.out OWN.out hgr9), (rows_apart HV.out OWN.out hgr9 (by decide)), fun h0_ => absurd ((up_self b 8).symm.trans h0_) (by decide), fun _ h1_ => absurd ((up_self b 8).symm.trans h1_) (by decide), fun _ => hown9, Q_X7_, fun _ => rfl⟩
        refine steps_cons ?_ ?_
        · rintro b a w' ⟨gz, a34, c34, m7_, m8_, ha, Q_HB, Q_BK1, Q_BK2, Q_BK3, Q_BK3n, Q_MP, Q_HV, Q_OWN, Q_BZ, Q_OWN2, Q_X7_, Q_X8_⟩ hb_ hon hoff
          refine ⟨_, rfl, fun K hK => ?_⟩
          have e3 : a.tmps[3]? = some (.pointer (some ⟨g3, 0, none⟩)) := by rw [ha]; exact (putSel_off rfl).trans rfl
          replace ha := Aside0.mk ha
          have HB := Aside0.mk Q_HB
          have BK1 := Aside0.mk Q_BK1
          have BK2 := Aside0.mk Q_BK2
          have BK3 := Aside0.mk (Q_BK3 (hoff 10 (by kernel_rfl)))
          have MP := Aside0.mk Q_MP
          have HV := Aside0.mk Q_HV
          have OWN2 := Aside0.mk (Q_OWN2 (hon 8 (by kernel_rfl)))
          refine value_ (w1 := w') (v := .pointer (some ⟨g3, 1, none⟩)) (by rfl) rfl ?_ ?_
          · go_simp
            (try simp only [i64_w])
            try rfl
          refine hK.out _ _ ⟨gz, a34, c34, m7_, m8_, (by rw [ha.out]; exact putSel_upk 9 hb_ rfl rfl rfl), Q_HB, Q_BK1, Q_BK2, Q_BK3, fun h0_ => absurd ((hoff 10 (by kernel_rfl)).symm.trans h0_) (by decide), Q_MP, Q_HV, fun h0_ => absurd ((hon 8 (by kernel_rfl)).symm.trans h0_) (by decide), fun _ h1_ => absurd ((hon 8 (by kernel_rfl)).symm.trans h1_) (by decide), Q_OWN2, Q_X7_, Q_X8_⟩
        refine steps_cons ?_ ?_
        · rintro b a w' ⟨gz, a34, c34, m7_, m8_, ha, Q_HB, Q_BK1, Q_BK2, Q_BK3, Q_BK3n, Q_MP, Q_HV, Q_OWN, Q_BZ, Q_OWN2, Q_X7_, Q_X8_⟩ hb_ hon hoff
          refine ⟨_, rfl, fun K hK => ?_⟩
          have e35 : a.tmps[35]? = some (.pointer (some ⟨g3, 1, none⟩)) := by rw [ha]; exact putSel_on (e := (9, 35, .pointer (some ⟨g3, 1, none⟩))) 9 rfl rfl (hon 9 (by kernel_rfl)) rfl
          have e34 : a.tmps[34]? = some (m8_) := by rw [ha]; exact putSel_on (e := (8, 34, m8_)) 8 rfl rfl (hon 8 (by kernel_rfl)) rfl
          rw [Q_X8_ (hon 8 (by kernel_rfl))] at e34
          replace ha := Aside0.mk ha
          have HB := Aside0.mk Q_HB
          have BK1 := Aside0.mk Q_BK1
          have BK2 := Aside0.mk Q_BK2
          have BK3 := Aside0.mk (Q_BK3 hb_)
          have MP := Aside0.mk Q_MP
          have HV := Aside0.mk Q_HV
          have OWN2 := Aside0.mk (Q_OWN2 (hon 8 (by kernel_rfl)))
          have hq1 : w'.cell? ⟨g3, 1, none⟩ = some (.slice aN j cN) := (blk_cell BK3.out 1).trans rfl
          have hf1 := blk_frozen BK3.out 1
          refine skip_ (w1 := ?_) (by rfl) rfl ?_ ?_
          rotate_left
          · go_simp
            rfl
          refine hK.out _ _ ⟨gz, a34, c34, m7_, m8_, (by rw [ha.out]; exact putSel_none (v := undef) rfl), (below_set HB.out GE3.out), (blk_far BK1.out NE13.out _), (blk_far BK2.out NE23.out _), fun h0_ => absurd ((up_self b 10).symm.trans h0_) (by decide), fun _ => (blk_put (cs := #[.map (some mb), .slice aN j cN]) BK3.out 1 _ rfl), (owns_far MP.out NM3.out _), (row_set HV.out BK3.out (by decide) _), fun h0_ => absurd ((hon 8 (by kernel_rfl)).symm.trans h0_) (by decide), fun _ h1_ => absurd ((hon 8 (by kernel_rfl)).symm.trans h1_) (by decide), fun _ => (row_set OWN2.out BK3.out (by decide) _), Q_X7_, Q_X8_⟩
        exact steps_nil
      rintro b a wx hall ⟨gz, a34, c34, m7_, m8_, ha, Q_HB, Q_BK1, Q_BK2, Q_BK3, Q_BK3n, Q_MP, Q_HV, Q_OWN, Q_BZ, Q_OWN2, Q_X7_, Q_X8_⟩
      clear BK1 BK2 BK3 HB HV MP OWN
      have hb0_ := hall 0 (by kernel_rfl)
      have hb1_ := hall 1 (by kernel_rfl)
      have hb2_ := hall 2 (by kernel_rfl)
      have hb3_ := hall 3 (by kernel_rfl)
      have hb4_ := hall 4 (by kernel_rfl)
      have hb5_ := hall 5 (by kernel_rfl)
      have hb6_ := hall 6 (by kernel_rfl)
      have hb7_ := hall 7 (by kernel_rfl)
      have hb8_ := hall 8 (by kernel_rfl)
      have hb9_ := hall 9 (by kernel_rfl)
      have hb10_ := hall 10 (by kernel_rfl)
      subst ha
      obtain rfl := Q_X7_ hb7_
      obtain rfl := Q_X8_ hb8_
      simp only [putSel, hb0_, hb1_, hb2_, hb3_, hb4_, hb5_, hb6_, hb7_, hb8_, hb9_, hb10_, if_true, Act.put, List.setIfInBounds_toArray, List.set_cons_zero, List.set_cons_succ]
      have HB := Aside0.mk Q_HB
      clear Q_HB
      have BK1 := Aside0.mk Q_BK1
      clear Q_BK1
      have BK2 := Aside0.mk Q_BK2
      clear Q_BK2
      clear Q_BK3
      have BK3n := Aside0.mk (Q_BK3n hb10_)
      clear Q_BK3n
      have MP := Aside0.mk Q_MP
      clear Q_MP
      have HV := Aside0.mk Q_HV
      clear Q_HV
      clear Q_OWN
      clear Q_BZ
      have OWN2 := Aside0.mk (Q_OWN2 hb8_)
      clear Q_OWN2
      clear hall hb0_ hb1_ hb2_ hb3_ hb4_ hb5_ hb6_ hb7_ hb8_ hb9_ hb10_
      have HAT2 := Aside0.mk (show ∀ y z, D2.atKey (key y) z = if y ∈ L.take (j + 1) then .held (.int .i64 (pl L y : Int)) else z by
        rw [HD2.out, HTK.out]
        have h := PMap.put_ (k := .i64) (p := fun y => (pl L y : Int)) HIM.out HAT.out x
        rw [HPL.out] at h
        exact h)
      have HIM2 := Aside0.mk (show IsMap D2 by rw [HD2.out]; exact put_isMap HIM.out _ _)
      have OWN3 := Aside0.mk (show wx.ownsRow W.heap.size 35 6 (.slice a34 (j + 1) c34) (j + 1) (nds ((L.take (j + 1)).map (nodeOf g.NS))) by
        rw [HTK.out, List.map_append, List.map_singleton, nds_snoc, HNO.out, ← HXS.out]
        exact OWN2.out)
      have BK1n := Aside0.mk (show wx.heap[g1]? = some (.cells #[.slice g.rA g.rl g.rc, .slice g.nA g.nl g.nc] 25 (0, 0)) by rw [EN.out]; exact BK1.out)
      go_wp2
      refine ⟨⟨j + 1, a34, c34, D2, hj1n, by push_cast; rfl, HAT2, HIM2, MP, HV, OWN3, HB, BK1n, BK2, BK3n⟩, ?_⟩
      show L.length - ((j : Int) + 1).toNat < L.length - (j : Int).toNat
      omega
    · obtain rfl : j = L.length := by omega
      have hd : decide ((L.length : Int) < (L.length : Int)) = false := decide_eq_false (by omega)
      have hx3_0 : wr.cell? ⟨g3, 0, none⟩ = some (.map (some mb)) := (blk_cell BK3.out 0).trans rfl
      have hx3_1 : wr.cell? ⟨g3, 1, none⟩ = some (.slice aN L.length cN) := (blk_cell BK3.out 1).trans rfl
      have hx2_0 : wr.cell? ⟨g2, 0, none⟩ = some (.map none) := (blk_cell BK2.out 0).trans rfl
      have hx2_1 : wr.cell? ⟨g2, 1, none⟩ = some (.slice none 0 0) := (blk_cell BK2.out 1).trans rfl
      have hy2_0 := blk_frozen BK2.out 0
      have hy2_1 := blk_frozen BK2.out 1
      have NB2 := Aside0.mk (map_ne_cells MP.out BK2.out).symm
      go_wp2
      refine bodyPost_ret (results_cell_row rfl _ _ g2 40 #[.map (some mb), .slice aN L.length cN] (0, 0) _ rfl ?bk Tryd.underlying40 rfl (by kernel_rfl)) rfl ?_
      case bk => exact blk_put (blk_put BK2.out 0 _ rfl) 1 _ rfl
      have hA := HAT.out
      rw [List.take_of_length_le (Nat.le_refl _)] at hA
      have hO := OWN.out
      rw [List.take_of_length_le (Nat.le_refl _)] at hO
      have hb0 : (wr.setCell ⟨g2, 0, none⟩ (.map (some mb))).heap[g2]? = some (.cells #[.map (some mb), .slice none 0 0] 40 (0, 0)) := blk_put BK2.out 0 _ rfl
      rw [← HLW.out]
      exact ⟨mb, aN, cN, rfl, ⟨DD, owns_far (owns_far MP.out NB2.out _) NB2.out _, HIM.out, hA⟩, row_set (t := 40) (row_set (t := 40) hO BK2.out (by decide) _) hb0 (by decide) _, below_set (below_set HB.out GE2.out) GE2.out⟩
end Go.Proofs.YtacjlkjdmhlbaaaDoor.Gr
