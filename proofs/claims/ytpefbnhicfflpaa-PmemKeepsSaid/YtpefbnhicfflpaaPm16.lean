/- Pmem: each operation as a step of one state. -/
import Derived.Test.YtpefbnhicfflpaaPm15
namespace Go.Proofs.Ytpefbnhicfflpaa.Pm
open Go.RowKit Go.Maps Go.ChangeMaps Go.MapKept Go.Proofs.YtpefbnhicfflpaaW.PrintWords Go.Proofs.YtpefbnhicfflpaaW.PrintLast Go.Proofs.YtpefbnhicfflpaaW.PrintMore
set_option linter.unusedSimpArgs false
set_option linter.unusedVariables false
/-- A region whose blocks lie at B or behind. -/
def St (W : World) (B p N : Nat) (S K : List Int) (D : DataW Unit) (n : Nat) : Prop := ∃ gs gk bm cs ck, Rg W p gs gk bm N cs ck n S K D ∧ B ≤ p ∧ B ≤ gs ∧ B ≤ gk ∧ B ≤ bm
/-- A word that is kept, whatever happens. -/
structure Keep (S K : List Int) (D : DataW Unit) (j : Nat) (x : Int) : Prop where
  s : S.getD j 0 = x
  k : K.getD j 0 = x
  d : pendAt D j = none ∨ pendAt D j = some x
/-- What a step leaves. -/
def Post (W : World) (B p N : Nat) (S K : List Int) (D : DataW Unit) (n : Nat) (ok : Nat → Prop) (w' : World) : Prop := ∃ S' K' D' n', St w' B p N S' K' D' n' ∧ n' ≤ n + 1 ∧ WFD N D' ∧ (∀ j x, j < N → ok j → Keep S K D j x → Keep S' K' D' j x) ∧ Below B W w'
theorem St.lt {W : World} {B p N : Nat} {S K : List Int} {D : DataW Unit} {n : Nat} (h : St W B p N S K D n) : B ≤ W.heap.size := by
  obtain ⟨gs, gk, bm, cs, ck, h1, h2, _⟩ := h
  have := h1.lt
  omega
theorem St.below {W W' : World} {B p N : Nat} {S K : List Int} {D : DataW Unit} {n : Nat} (h : St W B p N S K D n) (hb : Below W.heap.size W W') : St W' B p N S K D n := by
  obtain ⟨gs, gk, bm, cs, ck, h1, h2⟩ := h
  exact ⟨gs, gk, bm, cs, ck, h1.below hb, h2⟩
theorem thereB_true {N : Nat} {a : Int} (h : thereB N a = true) : 0 ≤ a ∧ a < N := of_decide_eq_true h
theorem getD_eight (S : List Int) (i q : Nat) (h : q < 8) : ([S.getD (i + 0) 0, S.getD (i + 1) 0, S.getD (i + 2) 0, S.getD (i + 3) 0, S.getD (i + 4) 0, S.getD (i + 5) 0, S.getD (i + 6) 0, S.getD (i + 7) 0] : List Int).getD q 0 = S.getD (i + q) 0 := by
  rcases q with _ | _ | _ | _ | _ | _ | _ | _ | q <;> first | rfl | omega
theorem word_eight (S : List Int) (i q : Nat) (h : q < 8) : wordN (.agg [.lit (.int .u64 (S.getD (i + 0) 0)), .lit (.int .u64 (S.getD (i + 1) 0)), .lit (.int .u64 (S.getD (i + 2) 0)), .lit (.int .u64 (S.getD (i + 3) 0)), .lit (.int .u64 (S.getD (i + 4) 0)), .lit (.int .u64 (S.getD (i + 5) 0)), .lit (.int .u64 (S.getD (i + 6) 0)), .lit (.int .u64 (S.getD (i + 7) 0))]) q = S.getD (i + q) 0 := by
  rcases q with _ | _ | _ | _ | _ | _ | _ | _ | q <;> first | rfl | omega
theorem step_load (W : World) {B p N : Nat} {S K : List Int} {D : DataW Unit} {n : Nat} (h : St W B p N S K D n) (hD : WFD N D) (a : Int) : Calls Try.prog 19 #[.pointer (some ⟨p, 0, none⟩), .int .i64 a] W fun e w' => (∃ v, e = .returned v) ∧ Post W B p N S K D n (fun _ => True) w' := by
  have hlt := h.lt
  obtain ⟨gs, gk, bm, cs, ck, h1, h2⟩ := h
  cases hb : thereB N a with
  | false =>
    refine (load_no W h1 a hb).mono ?_
    rintro e w' ⟨hv, hR, hB⟩
    exact ⟨hv, S, K, D, n, ⟨gs, gk, bm, cs, ck, hR, h2⟩, by omega, hD, fun _ _ _ _ hk => hk, hB.mono hlt⟩
  | true =>
    refine (load_in W h1 a _ (thereB_true hb) hb ⟨rfl⟩ B h2.1).mono ?_
    rintro e w' ⟨rfl, hR, hB⟩
    exact ⟨⟨_, rfl⟩, S, K, D, n, ⟨gs, gk, bm, cs, ck, hR, h2⟩, by omega, hD, fun _ _ _ _ hk => hk, hB⟩
theorem step_store (W : World) {B p N : Nat} {S K : List Int} {D : DataW Unit} {n : Nat} (h : St W B p N S K D n) (hD : WFD N D) (a x : Int) : Calls Try.prog 14 #[.pointer (some ⟨p, 0, none⟩), .int .i64 a, .int .u64 x] W fun e w' => (∃ v, e = .returned v) ∧ Post W B p N S K D n (fun j => (j : Int) ≠ a) w' := by
  have hlt := h.lt
  obtain ⟨gs, gk, bm, cs, ck, h1, h2⟩ := h
  cases hb : thereB N a with
  | false =>
    refine (store_no W h1 a x hb).mono ?_
    rintro e w' ⟨hv, hR, hB⟩
    exact ⟨hv, S, K, D, n, ⟨gs, gk, bm, cs, ck, hR, h2⟩, by omega, hD, fun _ _ _ _ hk => hk, hB.mono hlt⟩
  | true =>
    have ha := thereB_true hb
    refine (store_in W h1 a x ha hb B h2.1 h2.2.1).mono ?_
    rintro e w' ⟨hv, hR, hB⟩
    refine ⟨hv, S.set a.toNat x, K, D, n, ⟨gs, gk, bm, cs, ck, hR, h2⟩, by omega, hD, fun j y hj hne hk => ⟨?_, hk.k, hk.d⟩, hB⟩
    rw [set_at _ _ _ _ (by rw [h1.rs.len]; exact hj), if_neg (by omega)]
    exact hk.s
theorem step_flush (W : World) {B p N : Nat} {S K : List Int} {D : DataW Unit} {n : Nat} (h : St W B p N S K D n) (hD : WFD N D) (hN : N ≤ 64) (hN8 : N % 8 = 0) (hn : n ≤ 1000) (a : Int) : Calls Try.prog 15 #[.pointer (some ⟨p, 0, none⟩), .int .i64 a] W fun e w' => (∃ v, e = .returned v) ∧ Post W B p N S K D n (fun _ => True) w' := by
  have hlt := h.lt
  obtain ⟨gs, gk, bm, cs, ck, h1, h2⟩ := h
  cases hb : thereB N a with
  | false =>
    refine (flush_no W h1 a hb).mono ?_
    rintro e w' ⟨hv, hR, hB⟩
    exact ⟨hv, S, K, D, n, ⟨gs, gk, bm, cs, ck, hR, h2⟩, by omega, hD, fun _ _ _ _ hk => hk, hB.mono hlt⟩
  | true =>
    have ha := thereB_true hb
    obtain ⟨i, hi⟩ : ∃ i : Nat, a - a % 8 = i := ⟨(a - a % 8).toNat, by omega⟩
    have hi8 : i + 8 ≤ N := by omega
    refine (flush_in W h1 (by simp only [maxLen]; omega) a ⟨ha.1, by omega⟩ hb i ⟨hi⟩ hi8 hN (S.getD (i + 0) 0) (S.getD (i + 1) 0) (S.getD (i + 2) 0) (S.getD (i + 3) 0) (S.getD (i + 4) 0) (S.getD (i + 5) 0) (S.getD (i + 6) 0) (S.getD (i + 7) 0) ⟨⟨rfl, rfl, rfl, rfl, rfl, rfl, rfl, rfl⟩⟩ B h2.1 h2.2.2.2).mono ?_
    rintro e w' ⟨hv, hR, hB⟩
    refine ⟨hv, S, K, _, n + 1, ⟨gs, gk, bm, cs, ck, hR, h2⟩, by omega, wfd_put hD i (by omega) hi8 _, fun j y hj _ hk => ⟨hk.s, hk.k, ?_⟩, hB⟩
    rw [pend_put hD.map]
    by_cases hji : j - j % 8 = i
    · rw [if_pos hji, word_eight S i (j % 8) (by omega), show i + j % 8 = j by omega, hk.s]
      exact Or.inr rfl
    · rw [if_neg hji]
      exact hk.d
theorem step_fence (W : World) {B p N : Nat} {S K : List Int} {D : DataW Unit} {n : Nat} (h : St W B p N S K D n) (hD : WFD N D) (hN : N ≤ 64) (hN0 : 0 < N) : Calls Try.prog 16 #[.pointer (some ⟨p, 0, none⟩)] W fun e w' => (∃ v, e = .returned v) ∧ ∃ K', St w' B p N S K' (.map []) 0 ∧ (∀ j, j < N → K'.getD j 0 = (pendAt D j).getD (K.getD j 0)) ∧ Below B W w' := by
  obtain ⟨gs, gk, bm, cs, ck, h1, h2⟩ := h
  refine (fence_calls W h1 hD hN hN0 B h2.1 h2.2.2.1 h2.2.2.2).mono ?_
  rintro e w' ⟨hv, ⟨K', hR, hK⟩, hB⟩
  exact ⟨hv, K', ⟨gs, gk, bm, cs, ck, hR, h2⟩, hK, hB⟩
theorem keep_fence {S K K' : List Int} {D : DataW Unit} {j : Nat} {x : Int} (h : Keep S K D j x) (hK : K'.getD j 0 = (pendAt D j).getD (K.getD j 0)) : Keep S K' (.map []) j x := by
  refine ⟨h.s, ?_, Or.inl (pend_nil j)⟩
  rw [hK]
  rcases h.d with e | e
  · rw [e]; exact h.k
  · rw [e]; rfl
theorem step_evict (W : World) {B p N : Nat} {S K : List Int} {D : DataW Unit} {n : Nat} (h : St W B p N S K D n) (hD : WFD N D) (hN : N ≤ 64) (hN8 : N % 8 = 0) (hn : n ≤ 1000) (a : Int) : Calls Try.prog 28 #[.pointer (some ⟨p, 0, none⟩), .int .i64 a] W fun e w' => (∃ v, e = .returned v) ∧ Post W B p N S K D n (fun _ => True) w' := by
  have hlt := h.lt
  obtain ⟨gs, gk, bm, cs, ck, h1, h2⟩ := h
  cases hb : thereB N a with
  | false =>
    refine (evict_no W h1 a hb).mono ?_
    rintro e w' ⟨hv, hR, hB⟩
    exact ⟨hv, S, K, D, n, ⟨gs, gk, bm, cs, ck, hR, h2⟩, by omega, hD, fun _ _ _ _ hk => hk, hB.mono hlt⟩
  | true =>
    have ha := thereB_true hb
    obtain ⟨i, hi⟩ : ∃ i : Nat, a - a % 8 = i := ⟨(a - a % 8).toNat, by omega⟩
    have hi8 : i + 8 ≤ N := by omega
    have hkk : ∀ j y, j < N → Keep S K D j y → (putL K i [S.getD (i + 0) 0, S.getD (i + 1) 0, S.getD (i + 2) 0, S.getD (i + 3) 0, S.getD (i + 4) 0, S.getD (i + 5) 0, S.getD (i + 6) 0, S.getD (i + 7) 0]).getD j 0 = y := fun j y hj hk => by
      rw [putL_at _ _ _ _ (by rw [h1.rk.len]; exact hj)]
      show (if i ≤ j ∧ j < i + 8 then ([S.getD (i + 0) 0, S.getD (i + 1) 0, S.getD (i + 2) 0, S.getD (i + 3) 0, S.getD (i + 4) 0, S.getD (i + 5) 0, S.getD (i + 6) 0, S.getD (i + 7) 0] : List Int).getD (j - i) 0 else K.getD j 0) = y
      by_cases hji : i ≤ j ∧ j < i + 8
      · rw [if_pos hji, getD_eight S i (j - i) (by omega), show i + (j - i) = j by omega]
        exact hk.s
      · rw [if_neg hji]
        exact hk.k
    by_cases hd : has D (key i) = true
    · refine (evict_on W h1 (by simp only [maxLen]; omega) a ⟨ha.1, by omega⟩ hb i hd ⟨hi⟩ hi8 hN (S.getD (i + 0) 0) (S.getD (i + 1) 0) (S.getD (i + 2) 0) (S.getD (i + 3) 0) (S.getD (i + 4) 0) (S.getD (i + 5) 0) (S.getD (i + 6) 0) (S.getD (i + 7) 0) ⟨⟨rfl, rfl, rfl, rfl, rfl, rfl, rfl, rfl⟩⟩ B h2.1 h2.2.2.1 h2.2.2.2).mono ?_
      rintro e w' ⟨hv, hR, hB⟩
      refine ⟨hv, S, _, _, n + 1, ⟨gs, gk, bm, cs, ck, hR, h2⟩, by omega, wfd_put hD i (by omega) hi8 _, fun j y hj _ hk => ⟨hk.s, hkk j y hj hk, ?_⟩, hB⟩
      rw [pend_put hD.map]
      by_cases hji : j - j % 8 = i
      · rw [if_pos hji, word_eight S i (j % 8) (by omega), show i + j % 8 = j by omega, hk.s]
        exact Or.inr rfl
      · rw [if_neg hji]
        exact hk.d
    · refine (evict_off W h1 (by simp only [maxLen]; omega) a ⟨ha.1, by omega⟩ hb i (by simpa using hd) ⟨hi⟩ hi8 hN (S.getD (i + 0) 0) (S.getD (i + 1) 0) (S.getD (i + 2) 0) (S.getD (i + 3) 0) (S.getD (i + 4) 0) (S.getD (i + 5) 0) (S.getD (i + 6) 0) (S.getD (i + 7) 0) ⟨⟨rfl, rfl, rfl, rfl, rfl, rfl, rfl, rfl⟩⟩ B h2.1 h2.2.2.1 h2.2.2.2).mono ?_
      rintro e w' ⟨hv, hR, hB⟩
      exact ⟨hv, S, _, D, n, ⟨gs, gk, bm, cs, ck, hR, h2⟩, by omega, hD, fun j y hj _ hk => ⟨hk.s, hkk j y hj hk, hk.d⟩, hB⟩
theorem ways_keep {S K : List Int} {D : DataW Unit} {j : Nat} {x : Int} (h : Keep S K D j x) : (waysL S K D j).length = 1 := by
  unfold waysL
  have h1 : addW [x] x = [x] := if_pos (by simp)
  rcases h.d with e | e <;> rw [e, h.s, h.k]
  · show (addW [x] x).length = 1
    rw [h1]; rfl
  · show (addW (addW [x] x) x).length = 1
    rw [h1, h1]; rfl
theorem step_crash (W : World) {B p N : Nat} {S K : List Int} {D : DataW Unit} {n : Nat} (hN : N ≤ 64) (hN0 : 0 < N) (hN8 : N % 8 = 0) {bc bl m c : Nat} {A : Option Addr} (hP : Pk W B bc bl A m c 0) (W0 : World) (h0 : St W0 B p N S K D n) (hbc : W0.heap.size ≤ bc) (hbl : W0.heap.size ≤ bl) (hbb : Below W0.heap.size W0 W) :
    Calls Try.prog 17 #[.pointer (some ⟨p, 0, none⟩), .func (.func 38) #[] #[.pointer (some ⟨bc, 0, none⟩), .pointer (some ⟨bl, 0, none⟩)]] W fun e w' => (∃ v, e = .returned v) ∧ ∃ K', St w' B p N K' K' (.map []) 0 ∧ (m = 0 → ∀ j, K'.getD j 0 = K.getD j 0) ∧ (∀ j, j < N → (waysL S K D j).length = 1 → K'.getD j 0 = K.getD j 0) ∧ Below B W w' := by
  obtain ⟨gs, gk, bm, cs, ck, h1, h2⟩ := h0
  have hl := h1.lt
  refine (crash_calls W (h1.below hbb) hN hN0 hN8 hP ⟨by omega, by omega, by omega, by omega⟩ ⟨by omega, by omega, by omega, by omega⟩ h2).mono ?_
  rintro e w' ⟨hv, ⟨K', g', c', hR, hg, hK0, hK⟩, hB⟩
  exact ⟨hv, K', ⟨g', gk, bm, c', ck, hR, h2.1, hg, h2.2.2.1, h2.2.2.2⟩, hK0, hK, hB⟩
theorem keep_crash {S K K' : List Int} {D : DataW Unit} {j : Nat} {x : Int} (h : Keep S K D j x) (hK : (waysL S K D j).length = 1 → K'.getD j 0 = K.getD j 0) : Keep K' K' (.map []) j x := by
  have h1 := (hK (ways_keep h)).trans h.k
  exact ⟨h1, h1, Or.inl (pend_nil j)⟩
end Go.Proofs.Ytpefbnhicfflpaa.Pm
