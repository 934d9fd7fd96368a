/- Parts of one proof, set together: Bk1, Bk2, Bk3. What each says stands at its head; no condition beyond theirs. -/
import Derived.Test.YtekggbmajemmhaaDb1
import Derived.WideShapes4
/- DiffBack, in plain words: changes without gone, new and turned ones, done one by one, lead to the other graph. No program here. -/
namespace Go.Proofs.Ytekggbmajemmhaa.Gr
open Go.RowKit
set_option linter.unusedSimpArgs false
set_option linter.unusedVariables false
theorem i64_u64 {x : Int} (h : (Lit.int .i64 x).wf = true) : i64 (u64 x) = x := by
  have := (Lit.wf_int_iff .i64 _).1 h
  unfold i64 u64 IntKind.wrap
  simp [IntKind.bits, IntKind.signed, IntKind.min, IntKind.max] at this ⊢
  split <;> omega
theorem applyAll_ap (l m : List Ch) : ∀ s, applyAll s (l ++ m) = (applyAll s l).bind fun s => applyAll s m := by
  induction l with
  | nil => intro s; rfl
  | cons c l ih =>
    intro s
    rw [List.cons_append, applyAll, applyAll, Option.bind_assoc]
    exact congrArg _ (funext fun t => ih t)
/-- Lists that are turned into one another, place by place. -/
theorem range_all (P Q : List Int) (st : List Int → List Int × List Pn) (d : Nat → Ch) (hl : P.length = Q.length)
    (hd : ∀ j L, j < Q.length → L = Q.take j ++ P.drop j → P.getD j 0 ≠ Q.getD j 0 → applyP (st L) (d j) = some (st (L.set j (Q.getD j 0)))) :
    ∀ n, n ≤ Q.length → applyAll (st P) ((List.range n).flatMap fun i => if P.getD i 0 = Q.getD i 0 then [] else [d i]) = some (st (Q.take n ++ P.drop n))
  | 0, _ => by simp [applyAll]
  | n + 1, hn => by
    have ih := range_all P Q st d hl hd n (by omega)
    have e1 : P.drop n = P.getD n 0 :: P.drop (n + 1) := by
      rw [List.getD_eq_getElem?_getD, List.getElem?_eq_getElem (show n < P.length by omega), Option.getD_some, List.getElem_cons_drop]
    have e2 : Q.take (n + 1) = Q.take n ++ [Q.getD n 0] := by
      rw [List.getD_eq_getElem?_getD, List.getElem?_eq_getElem (show n < Q.length by omega), Option.getD_some, List.take_append_getElem]
    have e3 : (Q.take n ++ P.drop n).set n (Q.getD n 0) = Q.take (n + 1) ++ P.drop (n + 1) := by
      have hlen : (Q.take n).length = n := by rw [List.length_take]; omega
      rw [e1, e2, List.set_append, if_neg (by omega), hlen, Nat.sub_self, List.append_assoc]
      rfl
    rw [List.range_succ, List.flatMap_append, applyAll_ap, ih, Option.bind_some]
    by_cases h : P.getD n 0 = Q.getD n 0
    · rw [List.flatMap_singleton, if_pos h, e2, ← h, List.append_assoc, List.singleton_append, ← e1]
      rfl
    · rw [List.flatMap_singleton, if_neg h]
      show (applyP _ _).bind _ = _
      rw [hd n _ (by omega) rfl h, e3]
      rfl
theorem at_mid {P Q : List Int} {j : Nat} (hl : P.length = Q.length) (hj : j < Q.length) : (Q.take j ++ P.drop j).length = Q.length ∧ (Q.take j ++ P.drop j).getD j 0 = P.getD j 0 := by
  have hlen : (Q.take j).length = j := by rw [List.length_take]; omega
  refine ⟨by rw [List.length_append, hlen, List.length_drop]; omega, ?_⟩
  rw [List.getD_eq_getElem?_getD, List.getElem?_append_right (by omega), hlen, List.getElem?_drop, Nat.sub_self, Nat.add_zero, ← List.getD_eq_getElem?_getD]
theorem roots_to (P Q : List Int) (M : List Pn) (hl : P.length = Q.length) (hq : ∀ x ∈ Q, (Lit.int .i64 x).wf = true) : applyAll (P, M) (rootsTo P Q (max P.length Q.length)) = some (Q, M) := by
  have h := range_all P Q (fun L => (L, M)) (fun i => ⟨4, 0, i, u64 (P.getD i 0), u64 (Q.getD i 0)⟩) hl (fun j L hj hL hne => by
    subst hL
    obtain ⟨h1, h2⟩ := at_mid hl hj
    unfold applyP
    rw [if_pos ⟨rfl, rfl⟩]
    unfold chgS
    have hm : Q.getD j 0 ∈ Q := by rw [List.getD_eq_getElem?_getD, List.getElem?_eq_getElem hj]; exact List.getElem_mem _
    simp only [Int.toNat_natCast, h1, h2, i64_u64 (hq _ hm)]
    rw [if_pos ⟨by omega, by omega, trivial⟩]
    rfl) Q.length (Nat.le_refl _)
  rw [List.take_length, ← hl, List.drop_length, List.append_nil] at h
  rw [← hl, Nat.max_self]
  exact h
/-! ### One node -/
theorem idx_pre : ∀ (pre : List Pn) (x : Pn) (rest : List Pn), (∀ p ∈ pre, p.adr ≠ x.adr) → idx ((pre ++ x :: rest).map Pn.adr) x.adr = some pre.length
  | [], x, rest, _ => by simp [idx]
  | p :: pre, x, rest, h => by
    have := idx_pre pre x rest (fun q hq => h q (List.mem_cons_of_mem _ hq))
    rw [List.cons_append, List.map_cons, idx, if_neg (h p (by simp)), this]
    rfl
theorem mid_getD (pre : List Pn) (x : Pn) (rest : List Pn) : (pre ++ x :: rest).getD pre.length default = x := by
  rw [List.getD_eq_getElem?_getD, List.getElem?_append_right (Nat.le_refl _), Nat.sub_self]; rfl
theorem mid_set (pre : List Pn) (x y : Pn) (rest : List Pn) : (pre ++ x :: rest).set pre.length y = pre ++ y :: rest := by
  rw [List.set_append, if_neg (Nat.lt_irrefl _), Nat.sub_self]; rfl
theorem slots_to (R : List Int) (pre rest : List Pn) (x : Pn) (Q : List Int) (c0 : Int) (hpre : ∀ p ∈ pre, p.adr ≠ x.adr) (h0 : x.adr ≠ 0) (hl : x.S.length = Q.length) (hq : ∀ z ∈ Q, (Lit.int .i64 z).wf = true) :
    applyAll (R, pre ++ x :: rest) ((List.range x.S.length).flatMap fun i => if x.S.getD i 0 = Q.getD i 0 then [] else [⟨4, x.adr, i, u64 (x.S.getD i 0), u64 (Q.getD i 0)⟩]) = some (R, pre ++ { x with S := Q } :: rest) := by
  have h := range_all x.S Q (fun L => (R, pre ++ { x with S := L } :: rest)) (fun i => ⟨4, x.adr, i, u64 (x.S.getD i 0), u64 (Q.getD i 0)⟩) hl (fun j L hj hL hne => by
    obtain ⟨h1, h2⟩ := at_mid hl hj
    rw [← hL] at h1 h2
    have hi := idx_pre pre { x with S := L } rest hpre
    have hm : Q.getD j 0 ∈ Q := by rw [List.getD_eq_getElem?_getD, List.getElem?_eq_getElem hj]; exact List.getElem_mem _
    unfold applyP
    rw [if_neg (fun e => h0 e.2)]
    unfold stepP
    rw [if_neg (by decide : ¬ ((4 : Int) = 2))]
    show Option.map _ (match idx ((pre ++ { x with S := L } :: rest).map Pn.adr) x.adr with | none => none | some i => _) = _
    rw [hi]
    simp only [mid_getD, mid_set]
    rw [if_neg (by decide : ¬ ((4 : Int) = 1)), if_neg (by decide : ¬ ((4 : Int) = 3)), if_pos trivial]
    unfold chgS
    simp only [Int.toNat_natCast, h1, h2, i64_u64 (hq _ hm)]
    rw [if_pos ⟨by omega, by omega, trivial⟩]
    rfl) Q.length (Nat.le_refl _)
  rw [List.take_length, ← hl, List.drop_length, List.append_nil] at h
  exact h
theorem data_to (R : List Int) (pre rest : List Pn) (x : Pn) (Q : List Int) (hpre : ∀ p ∈ pre, p.adr ≠ x.adr) (hl : x.T.length = Q.length) :
    applyAll (R, pre ++ x :: rest) ((List.range x.T.length).flatMap fun i => if x.T.getD i 0 = Q.getD i 0 then [] else [⟨5, x.adr, i, x.T.getD i 0, Q.getD i 0⟩]) = some (R, pre ++ { x with T := Q } :: rest) := by
  have h := range_all x.T Q (fun L => (R, pre ++ { x with T := L } :: rest)) (fun i => ⟨5, x.adr, i, x.T.getD i 0, Q.getD i 0⟩) hl (fun j L hj hL hne => by
    obtain ⟨h1, h2⟩ := at_mid hl hj
    rw [← hL] at h1 h2
    have hi := idx_pre pre { x with T := L } rest hpre
    unfold applyP
    rw [if_neg (fun e => absurd e.1 (by decide : ¬ ((5 : Int) = 4)))]
    unfold stepP
    rw [if_neg (by decide : ¬ ((5 : Int) = 2))]
    show Option.map _ (match idx ((pre ++ { x with T := L } :: rest).map Pn.adr) x.adr with | none => none | some i => _) = _
    rw [hi]
    simp only [mid_getD, mid_set]
    rw [if_neg (by decide : ¬ ((5 : Int) = 1)), if_neg (by decide : ¬ ((5 : Int) = 3)), if_neg (by decide : ¬ ((5 : Int) = 4)), if_pos trivial]
    unfold chgT
    simp only [Int.toNat_natCast, h1, h2]
    rw [if_pos ⟨by omega, by omega, trivial⟩]
    rfl) Q.length (Nat.le_refl _)
  rw [List.take_length, ← hl, List.drop_length, List.append_nil] at h
  exact h
end Go.Proofs.Ytekggbmajemmhaa.Gr
/- DiffBack, in plain words: the changes of two graphs of the same places, done to the one, give the other one's slots and data. No program here. -/
namespace Go.Proofs.Ytekggbmajemmhaa.Gr
open Go.RowKit
set_option linter.unusedSimpArgs false
set_option linter.unusedVariables false
def upd (x y : Pn) : Pn := { x with S := y.S, T := y.T }
theorem inside_to (R : List Int) (pre rest : List Pn) (x y : Nd) (hpre : ∀ p ∈ pre, p.adr ≠ x.adr) (h0 : x.adr ≠ 0) (hm : x.S.length = x.m) (hn : x.T.length = x.n) (hm' : y.S.length = y.m) (hn' : y.T.length = y.n)
    (hq : ∀ z ∈ y.S, (Lit.int .i64 z).wf = true) (hk : ∀ c ∈ insideR x y, c.k ≠ 3) : x.m = y.m ∧ x.words = y.words ∧ x.n = y.n ∧ applyAll (R, pre ++ x.pn :: rest) (insideR x y) = some (R, pre ++ upd x.pn y.pn :: rest) := by
  by_cases h : x.m ≠ y.m ∨ x.words ≠ y.words ∨ x.n ≠ y.n
  · unfold insideR at hk
    rw [if_pos h] at hk
    exact absurd rfl (hk _ (List.mem_singleton.2 rfl))
  · have e1 : x.m = y.m := Decidable.byContradiction fun e => h (Or.inl e)
    have e2 : x.words = y.words := Decidable.byContradiction fun e => h (Or.inr (Or.inl e))
    have e3 : x.n = y.n := Decidable.byContradiction fun e => h (Or.inr (Or.inr e))
    refine ⟨e1, e2, e3, ?_⟩
    unfold insideR
    rw [if_neg h, applyAll_ap]
    have s1 := slots_to R pre rest x.pn y.S 0 hpre h0 (by show x.S.length = _; omega) hq
    have s2 := data_to R pre rest { x.pn with S := y.S } y.T hpre (by show x.T.length = _; omega)
    have k1 : slotsTo x y x.m = (List.range x.pn.S.length).flatMap fun i => if x.pn.S.getD i 0 = y.S.getD i 0 then [] else [⟨4, x.pn.adr, i, u64 (x.pn.S.getD i 0), u64 (y.S.getD i 0)⟩] := by
      rw [← hm]; rfl
    have k2 : dataTo x y x.n = (List.range x.pn.T.length).flatMap fun i => if x.pn.T.getD i 0 = y.T.getD i 0 then [] else [⟨5, x.pn.adr, i, x.pn.T.getD i 0, y.T.getD i 0⟩] := by
      rw [← hn]; rfl
    rw [k1, k2, s1, Option.bind_some]
    exact s2
/-- What a node must be. -/
def Fit (n : Nd) : Prop := n.S.length = n.m ∧ n.T.length = n.n ∧ ∀ z ∈ n.S, (Lit.int .i64 z).wf = true
theorem all_to (R : List Int) : ∀ (A B : List Nd) (pre : List Pn), A.length = B.length → Rise (adrs A) → (∀ p ∈ pre, p.adr ∉ adrs A) → (∀ x ∈ A, x.adr ≠ 0 ∧ Fit x) → (∀ y ∈ B, Fit y) → (∀ c ∈ (A.zip B).flatMap fun p => insideR p.1 p.2, c.k ≠ 3) →
    applyAll (R, pre ++ A.map Nd.pn) ((A.zip B).flatMap fun p => insideR p.1 p.2) = some (R, pre ++ List.zipWith upd (A.map Nd.pn) (B.map Nd.pn)) ∧ (∀ p ∈ A.zip B, p.1.m = p.2.m ∧ p.1.words = p.2.words ∧ p.1.n = p.2.n)
  | [], [], pre, _, _, _, _, _, _ => ⟨by simp [applyAll], fun p hp => by cases hp⟩
  | x :: A, y :: B, pre, hl, hR, hpre, hA, hB, hk => by
    have hR' := List.pairwise_cons.1 hR
    have hx := hA x (by simp)
    have hy := hB y (by simp)
    rw [List.zip_cons_cons, List.flatMap_cons] at hk
    obtain ⟨e1, e2, e3, e4⟩ := inside_to R pre (A.map Nd.pn) x y (fun p hp e => hpre p hp (by rw [e]; exact List.mem_cons_self)) hx.1 hx.2.1 hx.2.2.1 hy.1 hy.2.1 hy.2.2 (fun c hc => hk c (List.mem_append_left _ hc))
    obtain ⟨k1, k2⟩ := all_to R A B (pre ++ [upd x.pn y.pn]) (by simpa using hl) hR'.2 (fun p hp => by
      rcases List.mem_append.1 hp with h | h
      · exact fun hm => hpre p h (List.mem_cons_of_mem _ hm)
      · rw [List.mem_singleton.1 h]
        exact fun hm => absurd (hR'.1 _ hm) (Int.lt_irrefl _)) (fun z hz => hA z (List.mem_cons_of_mem _ hz)) (fun z hz => hB z (List.mem_cons_of_mem _ hz)) (fun c hc => hk c (List.mem_append_right _ hc))
    refine ⟨?_, fun p hp => ?_⟩
    · rw [List.zip_cons_cons, List.flatMap_cons, applyAll_ap, List.map_cons, List.map_cons, e4, Option.bind_some, List.zipWith_cons_cons]
      simpa [List.append_assoc] using k1
    · rw [List.zip_cons_cons] at hp
      rcases List.mem_cons.1 hp with rfl | hp
      · exact ⟨e1, e2, e3⟩
      · exact k2 p hp
theorem flat_zip (f : Int → List Ch) (g : Nd × Nd → List Ch) : ∀ (A B : List Nd), adrs A = adrs B → (∀ x ∈ A, ∀ y ∈ B, x.adr = y.adr → f x.adr = g (x, y)) → (adrs A).flatMap f = (A.zip B).flatMap g
  | [], [], _, _ => rfl
  | x :: A, y :: B, h, hfg => by
    have h1 : x.adr = y.adr ∧ adrs A = adrs B := List.cons.inj h
    show ((x :: A).map Nd.adr).flatMap f = _
    rw [List.map_cons, List.flatMap_cons, List.zip_cons_cons, List.flatMap_cons, hfg x (by simp) y (by simp) h1.1]
    exact congrArg _ (flat_zip f g A B h1.2 (fun a ha b hb => hfg a (List.mem_cons_of_mem _ ha) b (List.mem_cons_of_mem _ hb)))
  | [], y :: B, h, _ => by cases h
  | x :: A, [], h, _ => by cases h
theorem find_own {M : List Nd} (hR : Rise (adrs M)) {n : Nd} (hn : n ∈ M) : find M n.adr = some n := by
  obtain ⟨i, hi⟩ := List.mem_iff_getElem?.1 hn
  have hK : (adrs M)[i]? = some n.adr := by rw [List.getElem?_map, hi]; rfl
  rw [find_idx, idx_rise hR hK]
  exact hi
theorem mem_adrs {NS : List Nd} {w : List Int} {M : List Nd} (h : Sorted NS w M) (hf : ∀ x ∈ w, ∃ n, find NS x = some n) (x : Int) : x ∈ adrs M ↔ x ∈ w := by
  constructor
  · intro hx
    obtain ⟨n, hn, rfl⟩ := List.mem_map.1 hx
    have e := find_own h.rise hn
    rw [h.at_] at e
    by_cases hw : n.adr ∈ w
    · exact hw
    · rw [if_neg hw] at e; cases e
  · intro hx
    refine Decidable.byContradiction fun hn => ?_
    have e := h.at_ x
    rw [find_out hn, if_pos hx] at e
    obtain ⟨n, hn⟩ := hf x hx
    rw [hn] at e; cases e
theorem nd_own {NS : List Nd} {w : List Int} {M : List Nd} (h : Sorted NS w M) {n : Nd} (hn : n ∈ M) : nd NS w n.adr = n := by
  have e := find_own h.rise hn
  rw [h.at_] at e
  unfold nd
  by_cases hw : n.adr ∈ w
  · rw [if_pos hw] at e ⊢; rw [e]; rfl
  · rw [if_neg hw] at e; cases e
/-- The changes, done to the one graph, give the other one. -/
theorem back_is {NA NB : List Nd} {RA RB K : List Int} (hK : Keys (walkR NA RA) (walkR NB RB) K) (hl : RA.length = RB.length) (hrb : ∀ x ∈ RB, (Lit.int .i64 x).wf = true)
    (hA : ∀ x ∈ NA, x.adr ≠ 0 ∧ Fit x) (hB : ∀ y ∈ NB, Fit y) (hk : ∀ c ∈ ofR NA RA NB RB K, c.k ≠ 1 ∧ c.k ≠ 2 ∧ c.k ≠ 3) :
    adrs (sorted NA (walkR NA RA)) = adrs (sorted NB (walkR NB RB)) ∧
    applyAll (RA, (sorted NA (walkR NA RA)).map Nd.pn) (ofR NA RA NB RB K) = some (RB, List.zipWith upd ((sorted NA (walkR NA RA)).map Nd.pn) ((sorted NB (walkR NB RB)).map Nd.pn)) ∧
    ∀ p ∈ (sorted NA (walkR NA RA)).zip (sorted NB (walkR NB RB)), p.1.m = p.2.m ∧ p.1.words = p.2.words ∧ p.1.n = p.2.n := by
  have sA := sorted_walk NA RA
  have sB := sorted_walk NB RB
  have hch : ∀ k ∈ K, ∀ c ∈ changeR NA (walkR NA RA) NB (walkR NB RB) k, c.k ≠ 1 ∧ c.k ≠ 2 ∧ c.k ≠ 3 := fun k hkK c hc => hk c (List.mem_append_right _ (List.mem_flatMap.2 ⟨k, hkK, hc⟩))
  have hboth : ∀ k ∈ K, k ∈ walkR NA RA ∧ k ∈ walkR NB RB := fun k hkK => by
    have h := hch k hkK
    unfold changeR at h
    by_cases h2 : k ∈ walkR NB RB
    · by_cases h1 : k ∈ walkR NA RA
      · exact ⟨h1, h2⟩
      · rw [if_neg (not_not_intro h2), if_pos h1] at h
        exact absurd rfl (h _ (List.mem_singleton.2 rfl)).2.1
    · rw [if_pos h2] at h
      exact absurd rfl (h _ (List.mem_singleton.2 rfl)).1
  have eA : adrs (sorted NA (walkR NA RA)) = K := rising_ext sA.rise hK.1 fun x => by
    rw [mem_adrs sA (fun x hx => walkR_find hx)]
    exact ⟨fun h => (hK.2 x).2 (Or.inl h), fun h => (hboth x h).1⟩
  have eB : adrs (sorted NB (walkR NB RB)) = K := rising_ext sB.rise hK.1 fun x => by
    rw [mem_adrs sB (fun x hx => walkR_find hx)]
    exact ⟨fun h => (hK.2 x).2 (Or.inr h), fun h => (hboth x h).2⟩
  have eAB := eA.trans eB.symm
  have hfl : K.flatMap (changeR NA (walkR NA RA) NB (walkR NB RB)) = ((sorted NA (walkR NA RA)).zip (sorted NB (walkR NB RB))).flatMap fun p => insideR p.1 p.2 := by
    have := flat_zip (changeR NA (walkR NA RA) NB (walkR NB RB)) (fun p => insideR p.1 p.2) _ _ eAB (fun x hx y hy e => by
      have hm := hboth x.adr (by rw [← eA]; exact List.mem_map.2 ⟨x, hx, rfl⟩)
      unfold changeR
      rw [if_neg (not_not_intro hm.2), if_neg (not_not_intro hm.1), nd_own sA hx, e, nd_own sB hy])
    rw [eA] at this
    exact this
  have hlen : (sorted NA (walkR NA RA)).length = (sorted NB (walkR NB RB)).length := by
    have := congrArg List.length eAB
    simpa [adrs] using this
  have main := all_to RB _ _ [] hlen sA.rise (fun p hp => by cases hp) (fun x hx => hA x (sA.mem x hx)) (fun y hy => hB y (sB.mem y hy)) (fun c hc => by
    rw [← hfl] at hc
    obtain ⟨k, hkK, hc⟩ := List.mem_flatMap.1 hc
    exact (hch k hkK c hc).2.2)
  refine ⟨eAB, ?_, main.2⟩
  unfold ofR
  rw [applyAll_ap, roots_to RA RB _ hl hrb, Option.bind_some, hfl]
  exact main.1
end Go.Proofs.Ytekggbmajemmhaa.Gr
/- DiffBack, in plain words: how many changes there are, that their numbers are numbers of their kinds, what their count tells. No program here. -/
namespace Go.Proofs.Ytekggbmajemmhaa.Gr
open Go.RowKit
set_option linter.unusedSimpArgs false
set_option linter.unusedVariables false
theorem rise_len : ∀ {K l : List Int}, K.Pairwise (· < ·) → (∀ x ∈ K, x ∈ l) → K.length ≤ l.length
  | [], l, _, _ => Nat.zero_le _
  | x :: K, l, hK, h => by
    have hK' := List.pairwise_cons.1 hK
    have hx := h x (by simp)
    have ih := rise_len (K := K) (l := l.erase x) hK'.2 (fun y hy => (List.mem_erase_of_ne (by have := hK'.1 y hy; omega)).2 (h y (List.mem_cons_of_mem _ hy)))
    rw [List.length_erase_of_mem hx] at ih
    have := List.length_pos_of_mem hx
    rw [List.length_cons]
    omega
theorem nd_le {N : List Nd} {w : List Int} {k : Int} (h : ∀ n ∈ N, n.m ≤ 300 ∧ n.n ≤ 300) : (nd N w k).m ≤ 300 ∧ (nd N w k).n ≤ 300 := by
  unfold nd
  split
  · cases hf : find N k with
    | none => exact ⟨Nat.zero_le _, Nat.zero_le _⟩
    | some n => exact h n (find_mem hf)
  · exact ⟨Nat.zero_le _, Nat.zero_le _⟩
theorem changeR_le {N1 : List Nd} {w1 : List Int} {N2 : List Nd} {w2 : List Int} {k : Int} (h : ∀ n ∈ N1, n.m ≤ 300 ∧ n.n ≤ 300) : (changeR N1 w1 N2 w2 k).length ≤ 600 := by
  unfold changeR
  split
  · simp
  · split
    · simp
    · exact insideR_le _ _ (nd_le h)
theorem ofR_le {NA NB : List Nd} {RA RB K : List Int} (hK : Keys (walkR NA RA) (walkR NB RB) K) (hra : RA.length ≤ 40) (hrb : RB.length ≤ 40) (h4 : (walkR NA RA).length ≤ 40) (h5 : (walkR NB RB).length ≤ 40) (h : ∀ n ∈ NA, n.m ≤ 300 ∧ n.n ≤ 300) : (ofR NA RA NB RB K).length ≤ 100000 := by
  unfold ofR
  have h1 := rootsTo_le RA RB (max RA.length RB.length)
  have h2 := flat_le K (changeR NA (walkR NA RA) NB (walkR NB RB)) 600 (fun k _ => changeR_le h)
  have h3 : K.length ≤ (walkR NA RA ++ walkR NB RB).length := rise_len hK.1 (fun x hx => List.mem_append.2 ((hK.2 x).1 hx))
  rw [List.length_append] at h3 ⊢
  have h6 : max RA.length RB.length ≤ 40 := Nat.max_le.2 ⟨hra, hrb⟩
  have h7 : K.length * 600 ≤ 80 * 600 := Nat.mul_le_mul_right _ (by omega)
  omega
theorem u64_wf (x : Int) : (Lit.int .u64 (u64 x)).wf = true := by
  refine (Lit.wf_int_iff .u64 _).2 ?_
  unfold u64 IntKind.wrap
  simp [IntKind.bits, IntKind.signed, IntKind.min, IntKind.max]
  omega
theorem zero_wf : (Lit.int .i64 0).wf = true := by decide
theorem zero_wfu : (Lit.int .u64 0).wf = true := by decide
theorem nd_adrwf {N : List Nd} {w : List Int} {k : Int} (h : ∀ n ∈ N, (Lit.int .i64 n.adr).wf = true) : (Lit.int .i64 (nd N w k).adr).wf = true := by
  unfold nd
  split
  · cases hf : find N k with
    | none => exact zero_wf
    | some n => exact h n (find_mem hf)
  · exact zero_wf
theorem nd_Twf {N : List Nd} {w : List Int} {k : Int} (h : ∀ n ∈ N, ∀ x ∈ n.T, (Lit.int .u64 x).wf = true) (i : Nat) : (Lit.int .u64 ((nd N w k).T.getD i 0)).wf = true := by
  have hg : ∀ l : List Int, (∀ x ∈ l, (Lit.int .u64 x).wf = true) → (Lit.int .u64 (l.getD i 0)).wf = true := fun l hl => by
    rw [List.getD_eq_getElem?_getD]
    cases hi : l[i]? with
    | none => exact zero_wfu
    | some x => exact hl x (List.mem_of_getElem? hi)
  unfold nd
  split
  · cases hf : find N k with
    | none => exact hg [] (fun x hx => by cases hx)
    | some n => exact hg _ (h n (find_mem hf))
  · exact hg [] (fun x hx => by cases hx)
theorem ofR_wf {NA NB : List Nd} {RA RB K : List Int} (hK : Keys (walkR NA RA) (walkR NB RB) K) (hA : ∀ n ∈ NA, (Lit.int .i64 n.adr).wf = true) (hB : ∀ n ∈ NB, (Lit.int .i64 n.adr).wf = true) (hT : ∀ n ∈ NB, ∀ x ∈ n.T, (Lit.int .u64 x).wf = true) :
    ∀ c ∈ ofR NA RA NB RB K, (Lit.int .i64 c.a).wf = true ∧ (Lit.int .u64 c.is).wf = true := by
  intro c hc
  unfold ofR at hc
  rcases List.mem_append.1 hc with hc | hc
  · unfold rootsTo at hc
    obtain ⟨i, _, hc⟩ := List.mem_flatMap.1 hc
    split at hc
    · cases hc
    · rw [List.mem_singleton.1 hc]
      exact ⟨zero_wf, u64_wf _⟩
  · obtain ⟨k, hk, hc⟩ := List.mem_flatMap.1 hc
    have hkw : (Lit.int .i64 k).wf = true := by
      rcases (hK.2 k).1 hk with h | h
      · obtain ⟨n, hn⟩ := walkR_find h
        have := hA n (find_mem hn)
        rwa [find_adr hn] at this
      · obtain ⟨n, hn⟩ := walkR_find h
        have := hB n (find_mem hn)
        rwa [find_adr hn] at this
    unfold changeR at hc
    split at hc
    · rw [List.mem_singleton.1 hc]
      exact ⟨hkw, zero_wfu⟩
    · split at hc
      · rw [List.mem_singleton.1 hc]
        exact ⟨hkw, u64_wf _⟩
      · unfold insideR at hc
        split at hc
        · rw [List.mem_singleton.1 hc]
          exact ⟨nd_adrwf hA, u64_wf _⟩
        · rcases List.mem_append.1 hc with hc | hc
          · unfold slotsTo at hc
            obtain ⟨i, _, hc⟩ := List.mem_flatMap.1 hc
            split at hc
            · cases hc
            · rw [List.mem_singleton.1 hc]
              exact ⟨nd_adrwf hA, u64_wf _⟩
          · unfold dataTo at hc
            obtain ⟨i, _, hc⟩ := List.mem_flatMap.1 hc
            split at hc
            · cases hc
            · rw [List.mem_singleton.1 hc]
              exact ⟨nd_adrwf hA, nd_Twf hT i⟩
end Go.Proofs.Ytekggbmajemmhaa.Gr
