/- Pack, plainly: layouts: the program's Join and Split, and the document's, tell the same; what is joined is split (no Go in it). -/
import Derived.Test.YtpafhgipgldclaaPf
import Derived.Test.YtpafhgipgldclaaSp1
namespace Go.Proofs.Ytpafhgipgldclaa.Pl
set_option linter.unusedVariables false
open Go.RowKit Go.Proofs.YtpafhgipgldclaaW.PrintWords Go.Proofs.YtpafhgipgldclaaW.PrintMore Go.Proofs.Ytpafhgipgldclaa.Pk Go.Proofs.Ytpafhgipgldclaa.Jo Go.Proofs.Ytpafhgipgldclaa.Sp Go.Proofs.Ytpafhgipgldclaa.Pf

/-- Where the fields of a layout end. -/
def endL : List Int → Int → Option Int
  | [], a => some a
  | n :: r, a => if fld a n = true then endL r (a + n) else none
theorem endL_step (ws : List Int) (i : Nat) (hlt : i < ws.length) (a : Int) : endL (ws.drop i) a = if fld a (ws.getD i 0) = true then endL (ws.drop (i + 1)) (a + ws.getD i 0) else none := by
  rw [List.drop_eq_getElem_cons hlt]
  simp only [endL]
  have e4 : ws[i] = ws.getD i 0 := by rw [List.getD_eq_getElem?_getD, List.getElem?_eq_getElem hlt]; rfl
  rw [e4]
theorem endL_range : ∀ (ws : List Int) (a e : Int), 0 ≤ a → a ≤ 64 → endL ws a = some e → 0 ≤ e ∧ e ≤ 64
  | [], a, e, h0, h1, h => by simp only [endL, Option.some.injEq] at h; omega
  | n :: r, a, e, h0, h1, h => by
    simp only [endL] at h
    by_cases hf : fld a n = true
    · rw [if_pos hf] at h
      have := fld_range hf
      exact endL_range r (a + n) e (by omega) (by omega) h
    · rw [if_neg hf] at h; cases h
theorem rd_getD (l : List Int) (i : Nat) : rd l (i : Int) = l.getD i 0 := by simp [rd]

theorem ref_end_loop (ws : List Int) (hl : ws.length ≤ 1000) (d : Nat) : ∀ (k i : Nat) (a : Int), i + d = ws.length → d < k → 0 ≤ a → a ≤ 64 →
    trencherref02_End.l0 k ws a (i : Int) = some ((endL (ws.drop i) a).getD (-1)) := by
  induction d with
  | zero =>
    intro k i a h hk _ _
    obtain ⟨k, rfl⟩ : ∃ m, k = m + 1 := ⟨k - 1, by omega⟩
    rw [trencherref02_End.l0, if_neg (by omega), List.drop_of_length_le (by omega)]
    rfl
  | succ d ih =>
    intro k i a h hk ha0 ha1
    obtain ⟨k, rfl⟩ : ∃ m, k = m + 1 := ⟨k - 1, by omega⟩
    rw [trencherref02_End.l0, if_pos (by omega), if_pos (by omega), rd_getD, ref_field, endL_step ws i (by omega) a]
    simp only [Option.bind_some]
    by_cases hf : fld a (ws.getD i 0) = true
    · have := fld_range hf
      rw [if_pos hf, if_pos hf, w64 _ (by omega) (by omega), w64 _ (by omega) (by omega), show (i : Int) + 1 = ((i + 1 : Nat) : Int) from rfl]
      exact ih k (i + 1) _ (by omega) (by omega) (by omega) (by omega)
    · rw [if_neg hf, if_neg hf]
      rfl
theorem ref_end (ws : List Int) (hl : ws.length ≤ 1000) (k : Nat) (hk : 1001 ≤ k) : trencherref02_End.f k ws = some ((endL ws 0).getD (-1)) := by
  unfold trencherref02_End.f
  exact ref_end_loop ws hl ws.length k 0 0 (by omega) (by omega) (by omega) (by omega)

/-! ### Join -/
theorem joinL_end : ∀ (ws vs : List Int) (a : Int) (b : Bool) (x : Int), (joinL ws vs a b x).map (·.1) = endL ws a
  | [], _, _, _, _ => rfl
  | n :: r, vs, a, b, x => by
    simp only [joinL, endL]
    by_cases hf : fld a n = true
    · rw [if_pos hf, if_pos hf]; exact joinL_end r _ _ _ _
    · rw [if_neg hf, if_neg hf]; rfl
theorem joinL_false : ∀ (ws vs : List Int) (a x e : Int) (b : Bool) (y : Int), joinL ws vs a false x = some (e, b, y) → b = false
  | [], _, _, _, _, _, _, h => by simp only [joinL, Option.some.injEq, Prod.mk.injEq] at h; exact h.2.1.symm
  | n :: r, vs, a, x, e, b, y, h => by
    simp only [joinL] at h
    by_cases hf : fld a n = true
    · rw [if_pos hf, Bool.false_and] at h
      exact joinL_false r _ _ _ _ _ _ h
    · rw [if_neg hf] at h; cases h
/-- What Join makes of what walk did. -/
def fin : Option (Int × Bool × Int) → Int × Bool
  | some (_, true, x) => (x, true)
  | _ => (0, false)
theorem fin_false (ws vs : List Int) (a x : Int) : fin (joinL ws vs a false x) = (0, false) := by
  cases h : joinL ws vs a false x with
  | none => rfl
  | some r =>
    obtain ⟨e, b, y⟩ := r
    have := joinL_false _ _ _ _ _ _ _ h
    subst this
    rfl
theorem joinR_fin (ws vs : List Int) : joinR ws vs = if vs.length = ws.length then fin (joinL ws vs 0 true 0) else (0, false) := by
  unfold joinR fin
  by_cases h : vs.length = ws.length
  · rw [if_pos h, if_pos h]; rfl
  · rw [if_neg h, if_neg h]
/-- Words of 64 bits. -/
def U64 (l : List Int) : Prop := ∀ i, ∃ v : Nat, l.getD i 0 = (v : Int) ∧ v < 2 ^ 64
theorem mk_nat (n : Nat) (h1 : 1 ≤ n) (h : n ≤ 64) : mk (n : Int) = ((2 ^ n - 1 : Nat) : Int) := by unfold mk; rw [mask_eq n h1 h]; rfl
theorem pt_nat (x v : Nat) (hx : x < 2 ^ 64) (hv : v < 2 ^ 64) (a n : Nat) (h1 : 1 ≤ n) (h : a + n ≤ 64) : pt (x : Int) (a : Int) (n : Int) (v : Int) = ((putN x a n v : Nat) : Int) := by unfold pt; rw [put_eq x v hx hv a n h1 h]; rfl
theorem gt_nat (x : Nat) (hx : x < 2 ^ 64) (a n : Nat) (h1 : 1 ≤ n) (h : a + n ≤ 64) : gt (x : Int) (a : Int) (n : Int) = ((getN x a n : Nat) : Int) := by unfold gt; rw [get_eq x hx a n h1 h]; rfl
theorem get_put (x v a n : Nat) (hx : x < 2 ^ 64) (h : a + n ≤ 64) : getN (putN x a n v) a n = v % 2 ^ n := by
  apply Nat.eq_of_testBit_eq
  intro j
  rw [tb_get, Nat.testBit_mod_two_pow]
  by_cases hj : j < n
  · rw [tb_put _ _ _ _ _ h (by omega), if_pos (by omega), show j + a - a = j by omega]
  · simp [hj]
theorem ref_join_loop (ws vs : List Int) (hl : ws.length ≤ 1000) (hlen : vs.length = ws.length) (hv : U64 vs) (d : Nat) : ∀ (k i : Nat) (a e : Int) (x : Nat), i + d = ws.length → 400 + d ≤ k → 0 ≤ a → a ≤ 64 → x < 2 ^ 64 → endL (ws.drop i) a = some e →
    trencherref02_Join.l0 k ws vs (x : Int) a (i : Int) = some (fin (joinL (ws.drop i) (vs.drop i) a true (x : Int))) := by
  induction d with
  | zero =>
    intro k i a e x h hk _ _ _ _
    obtain ⟨k, rfl⟩ : ∃ m, k = m + 1 := ⟨k - 1, by omega⟩
    rw [trencherref02_Join.l0, if_neg (by omega), List.drop_of_length_le (by omega)]
    rfl
  | succ d ih =>
    intro k i a e x h hk ha0 ha1 hx he
    obtain ⟨k, rfl⟩ : ∃ m, k = m + 1 := ⟨k - 1, by omega⟩
    rw [endL_step ws i (by omega) a] at he
    by_cases hf : fld a (ws.getD i 0) = true
    · rw [if_pos hf] at he
      obtain ⟨v, hvv, hv64⟩ := hv i
      rw [trencherref02_Join.l0, if_pos (by omega), if_pos (by omega), if_pos (by omega), rd_getD, rd_getD, joinL_step ws vs i (by omega), if_pos hf, hvv]
      generalize hn : ws.getD i 0 = n at *
      obtain ⟨a, n, rfl, rfl, h1, h2⟩ := fld_nat hf
      have hp : putN x a n v < 2 ^ 64 := put_lt hx h2
      rw [ref_put x v hx hv64 _ _ k (by omega), put_eq x v hx hv64 a n h1 h2]
      simp only [Option.bind_some]
      rw [ref_get _ hp _ _ k (by omega), get_eq _ hp a n h1 h2]
      simp only [Option.bind_some]
      rw [get_put x v a n hx h2, pt_nat x v hx hv64 a n h1 h2, mk_nat n h1 (by omega), Bool.true_and]
      have hpow := Nat.two_pow_pos n
      by_cases hfit : v < 2 ^ n
      · rw [if_pos (by rw [Nat.mod_eq_of_lt hfit]), decide_eq_true (by omega), w64 ((a : Int) + (n : Int)) (by omega) (by omega), w64 _ (by omega) (by omega), show (i : Int) + 1 = ((i + 1 : Nat) : Int) from rfl]
        exact ih k (i + 1) _ e _ (by omega) (by omega) (by omega) (by omega) hp he
      · have hm : v % 2 ^ n < 2 ^ n := Nat.mod_lt _ hpow
        rw [if_neg (by omega), decide_eq_false (by omega), fin_false]
    · rw [if_neg hf] at he; cases he
theorem ref_join (ws vs : List Int) (hl : ws.length ≤ 200) (hv : U64 vs) : trencherref02_Join.f 2000 ws vs = some (joinR ws vs) := by
  unfold trencherref02_Join.f
  rw [ref_end ws (by omega) 2000 (by omega), joinR_fin]
  simp only [Option.bind_some]
  cases he : endL ws 0 with
  | none =>
    have hj : joinL ws vs 0 true 0 = none := by
      have := joinL_end ws vs 0 true 0
      rw [he] at this
      simpa using this
    rw [if_pos (by decide), trencherref02_Join.j0, if_pos rfl, hj]
    split <;> rfl
  | some e =>
    have hr := endL_range ws 0 e (by omega) (by omega) he
    rw [if_neg (by simp; omega), trencherref02_Join.j0]
    by_cases hlen : vs.length = ws.length
    · have hb : ((ws.length : Int) != (vs.length : Int)) = false := by rw [bne_eq_false_iff_eq]; omega
      rw [hb, if_neg (by decide), if_pos hlen]
      exact ref_join_loop ws vs (by omega) hlen hv ws.length 1999 0 0 e 0 (by omega) (by omega) (by omega) (by omega) (by decide) he
    · have hb : ((ws.length : Int) != (vs.length : Int)) = true := by rw [bne_iff_ne]; omega
      rw [hb, if_pos rfl, if_neg hlen]

/-! ### Split -/
theorem splitL_end' : ∀ (ws : List Int) (a x : Int) (out : List Int), (splitL ws a x out).map (·.1) = endL ws a
  | [], _, _, _ => rfl
  | n :: r, a, x, out => by
    simp only [splitL, endL]
    by_cases hf : fld a n = true
    · rw [if_pos hf, if_pos hf]; exact splitL_end' r _ _ _
    · rw [if_neg hf, if_neg hf]; rfl
theorem ref_split_loop (ws : List Int) (x : Nat) (hx : x < 2 ^ 64) (hl : ws.length ≤ 1000) (d : Nat) : ∀ (k i : Nat) (a e : Int) (out : List Int), i + d = ws.length → 400 + d ≤ k → 0 ≤ a → a ≤ 64 → out.length = i → endL (ws.drop i) a = some e →
    trencherref02_Split.l0 k ws (x : Int) out a (i : Int) = some (((splitL (ws.drop i) a (x : Int) out).map (·.2)).getD [], true) := by
  induction d with
  | zero =>
    intro k i a e out h hk _ _ _ _
    obtain ⟨k, rfl⟩ : ∃ m, k = m + 1 := ⟨k - 1, by omega⟩
    rw [trencherref02_Split.l0, if_neg (by omega), List.drop_of_length_le (by omega)]
    rfl
  | succ d ih =>
    intro k i a e out h hk ha0 ha1 hout he
    obtain ⟨k, rfl⟩ : ∃ m, k = m + 1 := ⟨k - 1, by omega⟩
    rw [endL_step ws i (by omega) a] at he
    by_cases hf : fld a (ws.getD i 0) = true
    · rw [if_pos hf] at he
      have hg := gt_eq hf (x : Int)
      have hr := fld_range hf
      rw [trencherref02_Split.l0, if_pos (by omega), if_pos (by omega), rd_getD, splitL_step ws i (by omega), if_pos hf, ref_get x hx _ _ k (by omega), hg]
      simp only [Option.bind_some]
      rw [if_pos (by omega), w64 _ (by omega) (by omega), w64 _ (by omega) (by omega), show (i : Int) + 1 = ((i + 1 : Nat) : Int) from rfl]
      exact ih k (i + 1) _ e _ (by omega) (by omega) (by omega) (by omega) (by simp [hout]) he
    · rw [if_neg hf] at he; cases he
theorem ref_split (ws : List Int) (x : Nat) (hx : x < 2 ^ 64) (hl : ws.length ≤ 200) : trencherref02_Split.f 2000 ws (x : Int) = some (splitR ws (x : Int)) := by
  unfold trencherref02_Split.f splitR
  rw [ref_end ws (by omega) 2000 (by omega)]
  simp only [Option.bind_some]
  have hse := splitL_end' ws 0 (x : Int) []
  cases he : endL ws 0 with
  | none =>
    have hj : splitL ws 0 (x : Int) [] = none := by
      rw [he] at hse
      simpa using hse
    rw [if_pos (by decide), trencherref02_Split.j0, if_pos rfl, hj]
  | some e =>
    have hr := endL_range ws 0 e (by omega) (by omega) he
    have hloop := ref_split_loop ws x hx (by omega) ws.length 1999 0 0 e [] (by omega) (by omega) (by omega) (by omega) rfl he
    rw [List.drop_zero] at hloop
    rw [he] at hse
    cases hs : splitL ws 0 (x : Int) [] with
    | none => rw [hs] at hse; cases hse
    | some r =>
      obtain ⟨a, outs⟩ := r
      rw [hs] at hse hloop
      obtain rfl : a = e := by simpa using hse
      have hloop' : trencherref02_Split.l0 1999 ws (x : Int) [] 0 0 = some (outs, true) := hloop
      obtain ⟨n, rfl⟩ := Int.eq_ofNat_of_zero_le hr.1
      simp only [Option.getD_some, Int.toNat_natCast]
      rw [if_neg (by omega)]
      by_cases h64 : n < 64
      · have hw : wrap64 (64 - (n : Int)) = ((64 - n : Nat) : Int) := by rw [w64 _ (by omega) (by omega)]; omega
        rw [if_pos (by omega), hw, ref_get x hx _ _ 2000 (by omega), get_eq x hx n (64 - n) (by omega) (by omega)]
        simp only [Option.bind_some]
        have hd : x / 2 ^ n < 2 ^ (64 - n) := by
          rw [Nat.div_lt_iff_lt_mul (Nat.two_pow_pos n), ← Nat.pow_add, show 64 - n + n = 64 by omega]
          exact hx
        have hg : getN x n (64 - n) = x / 2 ^ n := by unfold getN; exact Nat.mod_eq_of_lt hd
        have hc : (x : Int) / 2 ^ n = ((x / 2 ^ n : Nat) : Int) := by rw [Int.natCast_ediv, Int.natCast_pow]; rfl
        rw [hg]
        by_cases hz : x / 2 ^ n = 0
        · rw [if_neg (fun c => c.2 (by rw [hc, hz]; rfl)), hz, decide_eq_false (by omega), trencherref02_Split.j0, if_neg (by decide)]
          exact hloop'
        · rw [if_pos ⟨by omega, by rw [hc]; omega⟩, decide_eq_true (by omega), trencherref02_Split.j0, if_pos rfl]
      · rw [if_neg (by omega), if_neg (fun c => by omega), trencherref02_Split.j0, if_neg (by decide)]
        exact hloop'

/-! ### What is joined is split -/
theorem put_low (x v a n : Nat) (hxa : x < 2 ^ a) (hv : v < 2 ^ n) (h : a + n ≤ 64) : putN x a n v < 2 ^ (a + n) ∧ putN x a n v % 2 ^ a = x := by
  have hx : x < 2 ^ 64 := Nat.lt_of_lt_of_le hxa (Nat.pow_le_pow_right (by decide) (by omega))
  constructor
  · refine lt_of_bits (fun j hj => ?_)
    by_cases h64 : j < 64
    · rw [tb_put _ _ _ _ _ h h64, if_neg (by omega)]
      exact bit_high hxa (by omega)
    · exact bit_high (put_lt hx h) (by omega)
  · apply Nat.eq_of_testBit_eq
    intro j
    rw [Nat.testBit_mod_two_pow]
    by_cases hj : j < a
    · rw [tb_put _ _ _ _ _ h (by omega), if_neg (by omega)]
      simp [hj]
    · rw [bit_high hxa (by omega)]
      simp [hj]
theorem joined_split : ∀ (ws vs : List Int), vs.length = ws.length → U64 vs → ∀ (a x : Nat) (e : Int) (y : Int) (out : List Int), a ≤ 64 → x < 2 ^ a → joinL ws vs (a : Int) true (x : Int) = some (e, true, y) →
    ∃ (e' y' : Nat), e = e' ∧ y = y' ∧ e' ≤ 64 ∧ y' < 2 ^ e' ∧ y' % 2 ^ a = x ∧ splitL ws (a : Int) (y' : Int) out = some ((e' : Int), out ++ vs)
  | [], vs, hlen, _, a, x, e, y, out, ha, hx, h => by
    simp only [joinL, Option.some.injEq, Prod.mk.injEq] at h
    obtain ⟨rfl, _, rfl⟩ := h
    have : vs = [] := List.eq_nil_of_length_eq_zero hlen
    subst this
    exact ⟨a, x, rfl, rfl, ha, hx, Nat.mod_eq_of_lt hx, by simp [splitL]⟩
  | n :: r, [], hlen, _, _, _, _, _, _, _, _, _ => by simp at hlen
  | n :: r, v :: vs, hlen, hU, a, x, e, y, out, ha, hx, h => by
    simp only [joinL] at h
    by_cases hf : fld (a : Int) n = true
    · rw [if_pos hf] at h
      obtain ⟨a', n, ha', rfl, h1, h2⟩ := fld_nat hf
      obtain rfl : a = a' := by omega
      obtain ⟨v', hv', hv64⟩ := hU 0
      have hv'' : v = (v' : Int) := hv'
      subst hv''
      have hx64 : x < 2 ^ 64 := Nat.lt_of_lt_of_le hx (Nat.pow_le_pow_right (by decide) ha)
      simp only [List.getD_cons_zero, List.drop_succ_cons, List.drop_zero, Bool.true_and] at h
      rw [pt_nat x v' hx64 hv64 a n h1 h2, mk_nat n h1 (by omega)] at h
      have hpow := Nat.two_pow_pos n
      by_cases hfit : v' < 2 ^ n
      · rw [decide_eq_true (by omega)] at h
        obtain ⟨hp1, hp2⟩ := put_low x v' a n hx hfit h2
        have hU' : U64 vs := fun i => by have := hU (i + 1); rwa [List.getD_cons_succ] at this
        obtain ⟨e', y', rfl, rfl, he, hy, hym, hsp⟩ := joined_split r vs (by simpa using hlen) hU' (a + n) (putN x a n v') e y (out ++ [(v' : Int)]) (by omega) hp1 h
        have hy64 : y' < 2 ^ 64 := Nat.lt_of_lt_of_le hy (Nat.pow_le_pow_right (by decide) he)
        have hbit : ∀ j, j < a + n → y'.testBit j = (putN x a n v').testBit j := fun j hj => by
          have := congrArg (fun z => z.testBit j) hym
          simp only [Nat.testBit_mod_two_pow] at this
          simpa [hj] using this
        have hget : getN y' a n = v' := by
          apply Nat.eq_of_testBit_eq
          intro j
          rw [tb_get]
          by_cases hj : j < n
          · rw [hbit (j + a) (by omega), tb_put _ _ _ _ _ h2 (by omega), if_pos (by omega), show j + a - a = j by omega]
            simp [hj]
          · rw [bit_high hfit (by omega)]
            simp [hj]
        refine ⟨e', y', rfl, rfl, he, hy, ?_, ?_⟩
        · rw [← hp2]
          apply Nat.eq_of_testBit_eq
          intro j
          rw [Nat.testBit_mod_two_pow, Nat.testBit_mod_two_pow]
          by_cases hj : j < a
          · rw [hbit j (by omega)]
          · simp [hj]
        · simp only [splitL]
          rw [if_pos hf, gt_nat y' hy64 a n h1 h2, hget]
          rw [show (a : Int) + (n : Int) = ((a + n : Nat) : Int) from rfl, hsp, List.append_assoc]
          rfl
      · rw [decide_eq_false (by omega)] at h
        have := joinL_false _ _ _ _ _ _ _ h
        cases this
    · rw [if_neg hf] at h; cases h
theorem split_join (ws vs : List Int) (hv : U64 vs) (h : (joinR ws vs).2 = true) : splitR ws (joinR ws vs).1 = (vs, true) ∧ vs.length = ws.length := by
  rw [joinR_fin] at h ⊢
  by_cases hlen : vs.length = ws.length
  · rw [if_pos hlen] at h ⊢
    cases hj : joinL ws vs 0 true 0 with
    | none => rw [hj] at h; cases h
    | some r =>
      obtain ⟨e, b, y⟩ := r
      rw [hj] at h
      cases b with
      | false => cases h
      | true =>
        obtain ⟨e', y', rfl, rfl, he, hy, _, hsp⟩ := joined_split ws vs hlen hv 0 0 e y [] (by omega) (by decide) hj
        refine ⟨?_, hlen⟩
        show splitR ws (y' : Int) = (vs, true)
        unfold splitR
        rw [show (0 : Int) = ((0 : Nat) : Int) from rfl, hsp]
        simp only [Int.toNat_natCast, List.nil_append]
        have hz : (y' : Int) / 2 ^ e' = 0 := by
          have : (y' : Int) / 2 ^ e' = ((y' / 2 ^ e' : Nat) : Int) := by rw [Int.natCast_ediv, Int.natCast_pow]; rfl
          rw [this, Nat.div_eq_of_lt hy]; rfl
        rw [if_neg (fun c => c.2 hz)]
  · rw [if_neg hlen] at h; cases h
end Go.Proofs.Ytpafhgipgldclaa.Pl
