/- Parts of one proof, set together: DoorDk4, DoorDk5. What each says stands at its head; no condition beyond theirs. -/
import Derived.Test.YtacjlkjdmhlbaaaDoorDm9
import Derived.Laws.Concat
import Derived.Lib.ItoaLen
import Derived.RangeFuncBox
/- Dump: places in a walk, maps of places, walk.object. Conditions: the map lies in memory; the table of powers is laid. -/
namespace Go.Proofs.YtacjlkjdmhlbaaaDoor.Gr
open Go.RowKit Go.Shelf Go.Maps Go.ChangeMaps Go.MapKept Go.Proofs.YtacjlkjdmhlbaaaDoorW.PrintWords Go.Proofs.YtacjlkjdmhlbaaaDoorW.PrintLast Go.Proofs.YtacjlkjdmhlbaaaDoorW.PrintMore
set_option linter.unusedSimpArgs false
set_option linter.unusedVariables false
/-- The place of an address: 1 is the first; 0: none. -/
def pl : List Int → Int → Nat
  | [], _ => 0
  | y :: l, x => if y = x then 1 else if pl l x = 0 then 0 else pl l x + 1
theorem pl_le (x : Int) : ∀ l, pl l x ≤ l.length
  | [] => Nat.le_refl _
  | y :: l => by
    have := pl_le x l
    unfold pl
    rw [List.length_cons]
    split
    · omega
    · split <;> omega
theorem pl_zero (x : Int) : ∀ l, pl l x = 0 ↔ x ∉ l
  | [] => by simp [pl]
  | y :: l => by
    have ih := pl_zero x l
    unfold pl
    by_cases h : y = x
    · rw [if_pos h]; simp [h]
    · rw [if_neg h]
      by_cases h2 : pl l x = 0
      · rw [if_pos h2]
        have := ih.1 h2
        simp [this, Ne.symm h]
      · rw [if_neg h2]
        have : x ∈ l := Decidable.byContradiction fun e => h2 (ih.2 e)
        simp [this]
theorem pl_at {l : List Int} (hn : l.Nodup) : ∀ {i : Nat} {x : Int}, l[i]? = some x → pl l x = i + 1 := by
  induction l with
  | nil => intro i x h; cases h
  | cons y l ih =>
    intro i x h
    have hn' := List.nodup_cons.1 hn
    unfold pl
    rcases i with _ | i
    · simp only [List.getElem?_cons_zero, Option.some.injEq] at h
      rw [if_pos h]
    · simp only [List.getElem?_cons_succ] at h
      have hne : ¬ y = x := fun e => hn'.1 (by rw [e]; exact List.mem_of_getElem? h)
      rw [if_neg hne, ih hn'.2 h, if_neg (by omega)]
/-- A map of numbers by addresses. -/
def PMap (k : IntKind) (w : World) (b : Nat) (p : Int → Int) (s : List Int) : Prop := ∃ D, w.ownsMap Tryd.prog 3 nR b s.length D ∧ IsMap D ∧ ∀ y z, D.atKey (key y) z = if y ∈ s then .held (.int k (p y)) else z
theorem PMap.none (k : IntKind) (p : Int → Int) {w : World} {b : Nat} (h : w.ownsMap Tryd.prog 3 nR b 0 (.map [])) : PMap k w b p [] := ⟨_, h, ⟨[], rfl⟩, fun y z => by rw [if_neg (by simp)]; rfl⟩
theorem PMap.put_ {k : IntKind} {p : Int → Int} {s : List Int} {D : DataW Value} (hm : IsMap D) (hD : ∀ y z, D.atKey (key y) z = if y ∈ s then .held (.int k (p y)) else z) (x : Int) : ∀ y z, (D.put (key x) (.held (.int k (p x)))).atKey (key y) z = if y ∈ s ++ [x] then .held (.int k (p y)) else z := fun y z => by
  by_cases e : y = x
  · subst e
    rw [atKey_put_same hm (key_is y), if_pos (by simp)]
  · rw [atKey_put_other (fun h' => e (key_inj h')), hD]
    simp [e]
theorem PMap.below {k : IntKind} {w w' : World} {b : Nat} {p : Int → Int} {s : List Int} (h : PMap k w b p s) (hb : Below w.heap.size w w') : PMap k w' b p s := by
  obtain ⟨D, h1, h2, h3⟩ := h
  exact ⟨D, owns_below h1 hb, h2, h3⟩
theorem look38 {W : World} {b : Nat} {p : Int → Int} {s : List Int} (h : PMap .i64 W b p s) {x : Int} (hk : (Lit.int .i64 x).wf = true) : (Instr.lookup 38 (.map (some b)) (.int .i64 x) false).run Tryd.prog W = .ok (.int .i64 (if x ∈ s then p x else 0)) W := by
  obtain ⟨D, h1, h2, h3⟩ := h
  obtain ⟨v, ps, hrun, hv⟩ := h1.lookup Di.keyed3 Tryd.underlying38 (Tryd.zeroValue3 W) (zd := .held (.int .i64 0)) (zp := []) rfl (keyOf3 hk)
  rw [h3] at hv
  unfold nR at hv
  simp only [Option.some.injEq, Prod.mk.injEq] at hv
  have hv1 := hv.1
  have : v = .int .i64 (if x ∈ s then p x else 0) := by
    by_cases hx : x ∈ s
    · rw [if_pos hx] at hv1 ⊢; exact held_inj hv1
    · rw [if_neg hx] at hv1 ⊢; exact held_inj hv1
  rw [← this]
  exact hrun
theorem look58 {W : World} {b : Nat} {p : Int → Int} {s : List Int} (h : PMap .u64 W b p s) {x : Int} (hk : (Lit.int .i64 x).wf = true) : (Instr.lookup 58 (.map (some b)) (.int .i64 x) false).run Tryd.prog W = .ok (.int .u64 (if x ∈ s then p x else 0)) W := by
  obtain ⟨D, h1, h2, h3⟩ := h
  obtain ⟨v, ps, hrun, hv⟩ := h1.lookup Di.keyed3 Tryd.underlying58 (Tryd.zeroValue32 W) (zd := .held (.int .u64 0)) (zp := []) rfl (keyOf3 hk)
  rw [h3] at hv
  unfold nR at hv
  simp only [Option.some.injEq, Prod.mk.injEq] at hv
  have hv1 := hv.1
  have : v = .int .u64 (if x ∈ s then p x else 0) := by
    by_cases hx : x ∈ s
    · rw [if_pos hx] at hv1 ⊢; exact held_inj hv1
    · rw [if_neg hx] at hv1 ⊢; exact held_inj hv1
  rw [← this]
  exact hrun
theorem pl_if (ws : List Int) (x : Int) : (if x ∈ ws then (pl ws x : Int) else 0) = (pl ws x : Int) := by
  by_cases h : x ∈ ws
  · rw [if_pos h]
  · rw [if_neg h, (pl_zero x ws).2 h]; rfl
/-- The word of an object of a place. -/
def objR (p : Nat) : List UInt8 := if 0 < p then 35 :: Lib.itoa p else [63]
theorem dec_len (u : Nat) (h : u < 18446744073709551616) : (Lib.decDigits u).length ≤ 20 := by rw [Lib.decDigits_length]; exact Lib.nDigits_le20 u h
theorem itoa_len (n : Int) (h0 : -9223372036854775808 ≤ n) (h1 : n ≤ 9223372036854775807) : (Lib.itoa n).length ≤ 21 := by
  unfold Lib.itoa
  split
  · have := dec_len n.natAbs (by omega)
    rw [List.length_cons]; omega
  · have := dec_len n.toNat (by omega)
    omega
set_option maxHeartbeats 4000000 in
set_option maxRecDepth 100000 in
theorem object_calls (W : World) (mb : Nat) (a : Option Addr) (n c : Nat) (ws : List Int) (HM : Aside0 (PMap .i64 W mb (fun y => (pl ws y : Int)) ws)) (x : Int) (hx : (Lit.int .i64 x).wf = true) (hlen : ws.length ≤ 40) (HT : Aside0 (Tb W)) :
    Calls Tryd.prog 15 #[.agg #[.map (some mb), .slice a n c], .int .i64 x] W fun e W' => e = .returned (.string ⟨(objR (pl ws x)).toArray⟩) ∧ Below W.heap.size W W' := by
  have HB := Aside0.mk (Below.refl W.heap.size W)
  have HX := Aside0.mk hx
  clear hx
  obtain ⟨p, hp⟩ : ∃ p, p = pl ws x := ⟨_, rfl⟩
  have hp40 : p ≤ 40 := by rw [hp]; exact Nat.le_trans (pl_le x ws) hlen
  rw [← hp]
  have HP := Aside0.mk hp
  clear hp
  go_enter Tryd.func15, Tryd.ntmps15
  go_upto_region 1 with ((with_reducible refine gate_dst (N := 2) rfl ?_); refine box_event ?hg (N := 2) ?hd (cs := #[.map (some mb), .slice a n c]) (t := 40) ?hr ?_; (case hd => rfl); (case hg => rfl); (case hr => first | (go_simp; done) | (go_simp; rfl)); intro g2 hg w1_ hbox hb; have n0_ := Aside0.mk (below_step (by repeat (first | (with_reducible first | exact HB.out | apply below_alloc | apply pw_below_drewN | apply below_drew1) | exact HB.out)) hb); have n1_ := Aside0.mk hbox; have n2_ := Aside0.mk ((by rw [hg]; exact (below_size (by repeat (first | (with_reducible first | exact HB.out | apply below_alloc | apply pw_below_drewN | apply below_drew1) | exact HB.out)))) : W.heap.size ≤ g2); clear HB; have HB := n0_; have BK2 := n1_; have GE2 := n2_; clear n0_ n1_ n2_; clear hb hbox hg; have hc2_0 : w1_.cell? ⟨g2, 0, none⟩ = some (.map (some mb)) := (blk_cell BK2.out 0).trans rfl; have hf2_0 := blk_frozen BK2.out 0; have hc2_1 : w1_.cell? ⟨g2, 1, none⟩ = some (.slice a n c) := (blk_cell BK2.out 1).trans rfl; have hf2_1 := blk_frozen BK2.out 1)
  have hlk : (Instr.lookup 38 (.map (some mb)) (.int .i64 x) false).run Tryd.prog w1_ = .ok (.int .i64 (p : Int)) w1_ := by
    have h := look38 (HM.out.below HB.out) HX.out
    rw [pl_if, ← HP.out] at h
    exact h
  by_cases h0 : 0 < p
  · have hd : decide ((p : Int) > 0) = true := decide_eq_true (by omega)
    have hd' : decide ((0 : Int) < (p : Int)) = true := decide_eq_true (by omega)
    have hil := itoa_len (p : Int) (by omega) (by omega)
    have hcat : ∀ w, (Op.stringOp .add ⟨#[35]⟩ ⟨(Lib.itoa (p : Int)).toArray⟩).run Tryd.prog w = .ok (.string ⟨(35 :: Lib.itoa (p : Int)).toArray⟩) w := fun w => by rw [run_string_add_sum w _ _ (by simp [ByteArray.size]; omega)]; exact congrArg (fun b => Result.ok (Value.string b) w) (ByteArray.mk_append_mk [35] _)
    go_wp2_with (go_at_call 14; refine (itoa_calls (p : Int) (by omega) (by omega) _ (Aside0.mk (HT.out.to HB.out))).mono ?_; rintro e w3 ⟨rfl, hb3⟩; have HB3 := Aside0.mk (below_step HB.out hb3); clear hb3)
    go_ret
    exact ⟨by unfold objR; rw [if_pos h0]; rfl, HB3.out⟩
  · have hd : decide ((p : Int) > 0) = false := decide_eq_false (by omega)
    have hd' : decide ((0 : Int) < (p : Int)) = false := decide_eq_false (by omega)
    go_wp2
    go_ret
    exact ⟨by unfold objR; rw [if_neg h0]; rfl, HB.out⟩
end Go.Proofs.YtacjlkjdmhlbaaaDoor.Gr
/- Dump: walk.slots. Conditions: the map and the slots lie in memory; at most 300 slots. -/
namespace Go.Proofs.YtacjlkjdmhlbaaaDoor.Gr
open Go.RowKit Go.Shelf Go.Maps Go.ChangeMaps Go.MapKept Go.Proofs.YtacjlkjdmhlbaaaDoorW.PrintWords Go.Proofs.YtacjlkjdmhlbaaaDoorW.PrintLast Go.Proofs.YtacjlkjdmhlbaaaDoorW.PrintMore
set_option linter.unusedSimpArgs false
set_option linter.unusedVariables false
theorem own_keeps {W W' : World} {X : Nat} {e : TypeId} {s n : Nat} {v : Value} {xs : List Value} (h : W.ownsRow X e s v n xs) (hg : W.grownBy W' v.ownBlock) {j : Nat} {cs : Array Value} {t : TypeId} (hj : W.heap[j]? = some (.cells cs t (0, 0))) (ht : t ≠ e) : W'.heap[j]? = some (.cells cs t (0, 0)) := by
  refine (hg.block j (blk_lt hj) ?_).trans hj
  rcases h.2 with ⟨rfl, _⟩ | ⟨g0, cap, cur, rfl, _, hgb, _⟩
  · simp [Value.ownBlock]
  · intro e'
    obtain rfl : j = g0 := by simpa [Value.ownBlock] using e'
    rw [hgb] at hj
    cases hj
    exact ht rfl
theorem own_below {w W W' : World} {X : Nat} {e : TypeId} {s n : Nat} {v : Value} {xs : List Value} (hb : Below X w W) (hX : X ≤ w.heap.size) (h : W.ownsRow X e s v n xs) (hg : W.grownBy W' v.ownBlock) : Below X w W' :=
  hb.grown hg (Nat.le_trans hX hb.size) (fun k e => (h.lt k e).1)
theorem one_new (w : World) (v : Value) (t : TypeId) : ∀ (j : Nat) u, [v][j]? = some u → (w.alloc (.cells #[v] t)).cell? ((⟨w.heap.size, 0, none⟩ : Addr).add j) = some u := by
  intro j u h
  rcases j with _ | j
  · simp only [List.getElem?_cons_zero, Option.some.injEq] at h
    subst h
    rw [add_zero, World.cell?_alloc_new]
    rfl
  · simp at h
theorem info9 : (Tryd.prog.info? 9).map (fun i => (i.zero, i.size, i.bytes)) = some (some (.string ⟨#[]⟩), 1, 16) := by kernel_rfl
/-- Words as values. -/
def strs (l : List (List UInt8)) : List Value := l.map fun s => .string ⟨s.toArray⟩
theorem strs_snoc (l : List (List UInt8)) (s : List UInt8) : strs (l ++ [s]) = strs l ++ [.string ⟨s.toArray⟩] := by simp [strs]
theorem strs_len (l : List (List UInt8)) : (strs l).length = l.length := by simp [strs]
/-- A row of words stands in a later world. -/
theorem row9_below {W W' : World} {X e s n : Nat} {v : Value} {xs : List Value} (h : W.ownsRow X e s v n xs) (hb : Below W.heap.size W W') : W'.ownsRow X e s v n xs := by
  refine ⟨h.1, ?_⟩
  rcases h.2 with h0 | ⟨g, cap, cur, e1, hX, hg, r⟩
  · exact .inl h0
  · exact .inr ⟨g, cap, cur, e1, hX, (hb.block g (blk_lt hg)).trans hg, r⟩
theorem row9_mono {W : World} {X Y e s n : Nat} {v : Value} {xs : List Value} (h : W.ownsRow X e s v n xs) (hY : Y ≤ X) : W.ownsRow Y e s v n xs := by
  refine ⟨h.1, ?_⟩
  rcases h.2 with h0 | ⟨g, cap, cur, e1, hX, hg, r⟩
  · exact .inl h0
  · exact .inr ⟨g, cap, cur, e1, Nat.le_trans hY hX, hg, r⟩
theorem row_first {w : World} {v : Value} {t : TypeId} {W : World} (hb : W.heap.size ≤ w.heap.size) : (w.alloc (.cells #[v] t)).ownsRow W.heap.size t 1 (.slice (some ⟨w.heap.size, 0, none⟩) 1 1) 1 [v] :=
  ⟨rfl, .inr ⟨w.heap.size, 1, _, rfl, hb, blk_new _ _, Nat.le_refl _, by unfold maxLen; omega, rfl, rfl⟩⟩
/-- A slot's word. -/
def slotW (ws : List Int) (x : Int) : List UInt8 := if x = 0 then [45] else objR (pl ws x)
def slotsP (ws S : List Int) : List (List UInt8) := [45, 62] :: S.map (slotW ws)
def slotsR (ws S : List Int) : List (List UInt8) := if S.length = 0 then [] else slotsP ws S
theorem slotsP_len (ws S : List Int) : (slotsP ws S).length = S.length + 1 := by simp [slotsP]
theorem slotsP_take (ws : List Int) {S : List Int} {i : Nat} (hi : i < S.length) : slotsP ws (S.take (i + 1)) = slotsP ws (S.take i) ++ [slotW ws (S.getD i 0)] := by
  unfold slotsP
  rw [List.take_add_one, List.getElem?_eq_getElem hi, List.map_append, List.getD_eq_getElem?_getD, List.getElem?_eq_getElem hi]
  rfl
set_option maxHeartbeats 8000000 in
set_option maxRecDepth 100000 in
theorem slots_calls (W : World) (mb : Nat) (a : Option Addr) (n c : Nat) (ws : List Int) (HM : Aside0 (PMap .i64 W mb (fun y => (pl ws y : Int)) ws)) (hlen : ws.length ≤ 40) (HT : Aside0 (Tb W)) (A1 : Option Addr) (m e1 : Nat) (S : List Int) (HI : Aside0 (IL .i64 W W.heap.size A1 m S)) (HS : Aside0 (∀ x ∈ S, (Lit.int .i64 x).wf = true)) (hm : m ≤ 300) :
    Calls Tryd.prog 17 #[.agg #[.map (some mb), .slice a n c], .slice A1 m e1] W fun e W' => ∃ v, e = .returned v ∧ W'.ownsRow W.heap.size 9 1 v (slotsR ws S).length (strs (slotsR ws S)) ∧ Below W.heap.size W W' := by
  obtain ⟨i0, hi, hz0, hz1, hz2⟩ := info_parts info9
  have HB := Aside0.mk (Below.refl W.heap.size W)
  have hSl : S.length = m := HI.out.1
  by_cases hm0 : m = 0
  · have hd : ((m : Int) == 0) = true := by simp [hm0]
    have hd2 : decide ((m : Int) = 0) = true := by simp [hm0]
    have HM0 := Aside0.mk hm0
    clear hm0
    go_enter Tryd.func17, Tryd.ntmps17
    go_wp2_with ((with_reducible refine gate_dst (N := 2) rfl ?_); refine box_event ?hg (N := 2) ?hd (cs := #[.map (some mb), .slice a n c]) (t := 40) ?hr ?_; (case hd => rfl); (case hg => rfl); (case hr => first | (go_simp; done) | (go_simp; rfl)); intro g2 hg w1_ hbox hb; have n0_ := Aside0.mk (below_step (by repeat (first | (with_reducible first | exact HB.out | apply below_alloc | apply pw_below_drewN | apply below_drew1) | exact HB.out)) hb); have n1_ := Aside0.mk hbox; have n2_ := Aside0.mk ((by rw [hg]; exact (below_size (by repeat (first | (with_reducible first | exact HB.out | apply below_alloc | apply pw_below_drewN | apply below_drew1) | exact HB.out)))) : W.heap.size ≤ g2); clear HB; have HB := n0_; have BK2 := n1_; have GE2 := n2_; clear n0_ n1_ n2_; clear hb hbox hg)
    go_ret
    have e0 : slotsR ws S = [] := by unfold slotsR; rw [if_pos (by rw [hSl]; exact HM0.out)]
    exact ⟨_, rfl, by rw [e0]; exact World.ownsRow_nil _ _ _ _, HB.out⟩
  · have hd : ((m : Int) == 0) = false := by simp [hm0]
    have hd2 : decide ((m : Int) = 0) = false := by simp [hm0]
    have HM0 := Aside0.mk hm0
    clear hm0
    go_enter Tryd.func17, Tryd.ntmps17
    go_upto_region 3 with ((with_reducible refine gate_dst (N := 2) rfl ?_); refine box_event ?hg (N := 2) ?hd (cs := #[.map (some mb), .slice a n c]) (t := 40) ?hr ?_; (case hd => rfl); (case hg => rfl); (case hr => first | (go_simp; done) | (go_simp; rfl)); intro g2 hg w1_ hbox hb; have n0_ := Aside0.mk (below_step (by repeat (first | (with_reducible first | exact HB.out | apply below_alloc | apply pw_below_drewN | apply below_drew1) | exact HB.out)) hb); have n1_ := Aside0.mk hbox; have n2_ := Aside0.mk ((by rw [hg]; exact (below_size (by repeat (first | (with_reducible first | exact HB.out | apply below_alloc | apply pw_below_drewN | apply below_drew1) | exact HB.out)))) : W.heap.size ≤ g2); clear HB; have HB := n0_; have BK2 := n1_; have GE2 := n2_; clear n0_ n1_ n2_; clear hb hbox hg)
    have hsz0 := HB.out.size
    have OWN := Aside0.mk (row_first (v := .string ⟨#[45, 62]⟩) (t := 9) (w := w1_) (W := W) hsz0)
    obtain ⟨w2, hw2⟩ : ∃ x, x = w1_.alloc (.cells #[.string ⟨#[45, 62]⟩] 9) := ⟨_, rfl⟩
    obtain ⟨gg, hgg⟩ : ∃ x, x = w1_.heap.size := ⟨_, rfl⟩
    have HB2 := Aside0.mk (show Below W.heap.size W w2 by rw [hw2]; exact below_alloc HB.out _)
    have BK22 := Aside0.mk (show w2.heap[g2]? = some (.cells #[.map (some mb), .slice a n c] 40 (0, 0)) by rw [hw2]; exact blk_alloc BK2.out _)
    rw [← hw2, ← hgg] at OWN
    clear HB BK2 hsz0
    have HB := HB2
    have BK2 := BK22
    clear HB2 BK22
    go_wp2
    rw [← hw2, ← hgg]
    clear hw2 hgg
    go_loopw [5, 14] (fun vo v wr => ∃ i : Nat, i ≤ m ∧ v = .int .i64 (i : Int) ∧ (∃ a1 c1, vo = .slice a1 (i + 1) c1) ∧ Aside0 (wr.ownsRow W.heap.size 9 1 vo (i + 1) (strs (slotsP ws (S.take i)))) ∧ Aside0 (Below W.heap.size W wr) ∧ Aside0 (wr.heap[g2]? = some (.cells #[.map (some mb), .slice a n c] 40 (0, 0)))) (fun _ v _ => m - (intOf v).toNat)
    case atStart => exact ⟨0, by omega, rfl, ⟨_, _, rfl⟩, Aside0.mk (by simpa [slotsP, strs] using OWN.out), HB, BK2⟩
    case round =>
      clear HB BK2 OWN
      obtain ⟨i, hi_, rfl, ⟨a1, c1, rfl⟩, OWN, HB, BK2⟩ := hrel
      have hr2_0 : wr.cell? ⟨g2, 0, none⟩ = some (.map (some mb)) := (blk_cell BK2.out 0).trans rfl
      have hr2_1 : wr.cell? ⟨g2, 1, none⟩ = some (.slice a n c) := (blk_cell BK2.out 1).trans rfl
      by_cases hgo : i < m
      · have hd3 : decide ((i : Int) < (m : Int)) = true := decide_eq_true (by omega)
        obtain ⟨y, e, _, hy⟩ := (HI.out.kept (fun k hk => HB.out.block k hk)).2 i hgo
        subst e
        obtain ⟨x, hx⟩ : ∃ x, x = S.getD i 0 := ⟨_, rfl⟩
        rw [← hx] at hy
        have HXW := Aside0.mk (show (Lit.int .i64 x).wf = true by rw [hx, List.getD_eq_getElem?_getD, List.getElem?_eq_getElem (show i < S.length by omega)]; exact HS.out _ (List.getElem_mem _))
        have HSP := Aside0.mk (show strs (slotsP ws (S.take (i + 1))) = strs (slotsP ws (S.take i)) ++ [.string ⟨(slotW ws x).toArray⟩] by rw [slotsP_take ws (show i < S.length by omega), strs_snoc, ← hx])
        clear hx
        have hi0 : (0 : Int) ≤ (i : Int) := by omega
        have hi1 : (i : Int) < (m : Int) := by omega
        have hi1n : i + 1 ≤ m := by omega
        obtain ⟨xs, hxs⟩ : ∃ xs, xs = strs (slotsP ws (S.take i)) := ⟨_, rfl⟩
        rw [← hxs] at OWN HSP
        clear hxs
        by_cases h0 : x = 0
        · have hx0 : (x == 0) = true := by simp [h0]
          have HSW := Aside0.mk (show slotW ws x = [45] by unfold slotW; rw [if_pos h0])
          rw [HSW.out] at HSP
          clear h0
          go_wp2_with (at_builtin; refine wpList_append_own _ rfl (.tmp 20) (.tmp 21) 52 rfl W.heap.size 9 i0 (.string ⟨#[]⟩) 1 16 Tryd.underlying52 hi hz0 hz1 hz2 rfl (by decide) (.slice a1 (i + 1) c1) (i + 1) (xs) rfl (OWN.out.alloc _) ⟨wr.heap.size, 0, none⟩ 1 1 [.string ⟨#[45]⟩] rfl rfl (one_new _ _ _) (by simp [Value.oneCell']) (by unfold maxLen; omega) (by omega) (by rw [World.size_alloc]; have := HB.out.size; omega) ?_; intro v' w5 hown' hgrow _; obtain ⟨g', cap', rfl⟩ := ownsRow_succ hown'; have OWN5 := Aside0.mk hown'; have HB5 := Aside0.mk (own_below (below_alloc HB.out _) (Nat.le_refl _) (OWN.out.alloc _) hgrow); have BK25 := Aside0.mk (own_keeps (OWN.out.alloc _) hgrow (blk_alloc BK2.out _) (by decide)); clear hown' hgrow)
          have OWN6 := Aside0.mk (show w5.ownsRow W.heap.size 9 1 (.slice (some ⟨g', 0, none⟩) (i + 1 + 1) cap') (i + 1 + 1) (strs (slotsP ws (S.take (i + 1)))) by rw [HSP.out]; exact OWN5.out)
          refine ⟨⟨i + 1, hi1n, by push_cast; rfl, ⟨_, _, rfl⟩, OWN6, HB5, BK25⟩, ?_⟩
          show m - ((i : Int) + 1).toNat < m - (i : Int).toNat
          omega
        · have hx0 : (x == 0) = false := by simp [h0]
          have HSW := Aside0.mk (show slotW ws x = objR (pl ws x) by unfold slotW; rw [if_neg h0])
          rw [HSW.out] at HSP
          clear h0
          go_wp2_with (first | (go_at_call 15; refine (object_calls _ mb a n c ws (Aside0.mk (HM.out.below HB.out)) x HXW.out hlen (Aside0.mk (HT.out.to HB.out))).mono ?_; rintro e w3 ⟨rfl, hb3⟩; have HB3 := Aside0.mk (below_step HB.out hb3); have BK23 := Aside0.mk (blk_below BK2.out hb3); have OWN3 := Aside0.mk (row9_below OWN.out hb3); clear hb3) | (at_builtin; refine wpList_append_own _ rfl (.tmp 23) (.tmp 27) 52 rfl W.heap.size 9 i0 (.string ⟨#[]⟩) 1 16 Tryd.underlying52 hi hz0 hz1 hz2 rfl (by decide) (.slice a1 (i + 1) c1) (i + 1) (xs) rfl (OWN3.out.alloc _) ⟨w3.heap.size, 0, none⟩ 1 1 [.string ⟨(objR (pl ws x)).toArray⟩] rfl rfl (one_new _ _ _) (by simp [Value.oneCell']) (by unfold maxLen; omega) (by omega) (by rw [World.size_alloc]; have := HB3.out.size; omega) ?_; intro v' w5 hown' hgrow _; obtain ⟨g', cap', rfl⟩ := ownsRow_succ hown'; have OWN5 := Aside0.mk hown'; have HB5 := Aside0.mk (own_below (below_alloc HB3.out _) (Nat.le_refl _) (OWN3.out.alloc _) hgrow); have BK25 := Aside0.mk (own_keeps (OWN3.out.alloc _) hgrow (blk_alloc BK23.out _) (by decide)); clear hown' hgrow))
          have OWN6 := Aside0.mk (show w5.ownsRow W.heap.size 9 1 (.slice (some ⟨g', 0, none⟩) (i + 1 + 1) cap') (i + 1 + 1) (strs (slotsP ws (S.take (i + 1)))) by rw [HSP.out]; exact OWN5.out)
          refine ⟨⟨i + 1, hi1n, by push_cast; rfl, ⟨_, _, rfl⟩, OWN6, HB5, BK25⟩, ?_⟩
          show m - ((i : Int) + 1).toNat < m - (i : Int).toNat
          omega
      · obtain rfl : i = m := by omega
        have hd3 : decide ((i : Int) < (i : Int)) = false := decide_eq_false (by omega)
        go_wp2
        go_ret
        have e0 : slotsR ws S = slotsP ws S := by unfold slotsR; rw [if_neg (by rw [hSl]; exact HM0.out)]
        have hO := OWN.out
        rw [List.take_of_length_le (by omega)] at hO
        exact ⟨_, rfl, by rw [e0, slotsP_len, hSl]; exact hO, HB.out⟩
end Go.Proofs.YtacjlkjdmhlbaaaDoor.Gr
