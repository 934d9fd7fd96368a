/- Bits: the four laws' walks. Conditions: the table lies as its initialiser lays it; a set is a uint64. -/
import Derived.Test.YtbdedbhafciilaaDoorBt3
import Derived.Test.YtbdedbhafciilaaDoorPBitsBackx1
namespace Go.Proofs.YtbdedbhafciilaaDoor.Bt
open Go.RowKit Go.Shelf Go.Proofs.YtbdedbhafciilaaDoorW.PrintWords Go.Proofs.YtbdedbhafciilaaDoorW.PrintLast Go.Proofs.YtbdedbhafciilaaDoorW.PrintMore
set_option linter.unusedSimpArgs false
set_option linter.unusedVariables false
theorem rhas_calls (m : Nat) (hm : m < 2 ^ 64) (i : Int) (w : World) : Calls Tryd.prog 10 #[.int .u64 (m : Int), .int .i64 i] w fun e w' => e = .returned (.bool (hasN m i)) ∧ ∃ n, w' = w.drewN n :=
  (PBitsSets.trencherref01_Has.calls 70 (m : Int) i _ w (rhas_s m hm i)).mono fun _ _ h => ⟨h.1, h.2.out⟩
theorem rwith_calls (m : Nat) (hm : m < 2 ^ 64) (i : Int) (w : World) : Calls Tryd.prog 16 #[.int .u64 (m : Int), .int .i64 i] w fun e w' => e = .returned (.int .u64 ((withN m i : Nat) : Int)) ∧ ∃ n, w' = w.drewN n :=
  (PBitsSets.trencherref01_With.calls 70 (m : Int) i _ w (rwith m hm i)).mono fun _ _ h => ⟨h.1, h.2.out⟩
theorem rwithout_calls (m : Nat) (hm : m < 2 ^ 64) (i : Int) (w : World) : Calls Tryd.prog 17 #[.int .u64 (m : Int), .int .i64 i] w fun e w' => e = .returned (.int .u64 ((withoutN m i : Nat) : Int)) ∧ ∃ n, w' = w.drewN n :=
  (PBitsSets.trencherref01_Without.calls 70 (m : Int) i _ w (rwithout m hm i)).mono fun _ _ h => ⟨h.1, h.2.out⟩
theorem has_with (m : Nat) (i k : Int) (h : ¬ i = k) : hasN (withN m i) k = hasN m k := by
  unfold hasN
  by_cases hk : 0 ≤ k ∧ k < 64
  · rw [decide_eq_true hk, Bool.true_and, Bool.true_and, tb_with m i k.toNat (by omega), decide_eq_false (by omega), Bool.or_false]
  · rw [decide_eq_false hk]; rfl
theorem has_without (m : Nat) (i k : Int) (h : ¬ i = k) : hasN (withoutN m i) k = hasN m k := by
  unfold hasN
  by_cases hk : 0 ≤ k ∧ k < 64
  · rw [decide_eq_true hk, Bool.true_and, Bool.true_and, tb_without m i k.toNat (by omega), decide_eq_false (by omega)]
    simp
  · rw [decide_eq_false hk]; rfl

theorem wf_nat {m : Int} (h : (Lit.int .u64 m).wf = true) : ∃ n : Nat, m = n ∧ n < 2 ^ 64 := by
  have h2 : (decide (0 ≤ m) && decide (m ≤ 18446744073709551615)) = true := h
  have h3 : 0 ≤ m ∧ m ≤ 18446744073709551615 := by simpa using h2
  exact ⟨m.toNat, by omega, by omega⟩
theorem rhas_more_a (k : Nat) (m : Nat) (hm : m < 2 ^ 64) (i : Int) : PBitsAll.trencherref01_Has.f (k + 70) (m : Int) i = some (hasN m i) := by
  induction k with
  | zero => rw [Nat.zero_add]; exact rhas_a m hm i
  | succ k ih => rw [show k + 1 + 70 = k + 70 + 1 by omega]; exact PBitsAll.trencherref01_Has.mono _ _ _ _ ih
/-! ### BitsSets -/
set_option maxRecDepth 100000 in
set_option maxHeartbeats 8000000 in
theorem sets_eq (m : Nat) (hm : m < 2 ^ 64) (i : Int) (w : World) (hT : Tab w) (h0 : 0 < w.heap.size) : Calls Tryd.prog 4 #[.int .u64 (m : Int), .int .i64 i, .int .i64 i] w fun e w' => e = .returned (.bool true) ∧ Below w.heap.size w w' := by
  go_enter Tryd.func4, Tryd.ntmps4
  go_wp2_with (first | (go_at_call 7; with_reducible refine (alive_calls _ hT h0).mono ?_; rintro e w1 ⟨rfl, hb⟩; have HB := Aside0.mk hb; have HT1 := Aside0.mk (tab_below hT hb h0); clear hb) | (go_at_call 13; with_reducible refine (with_calls m hm i _).mono ?_; rintro e w' ⟨rfl, rfl⟩) | (go_at_call 14; with_reducible refine (without_calls m hm i _).mono ?_; rintro e w' ⟨rfl, rfl⟩) | (go_at_call 15; with_reducible refine (has_calls m hm i _).mono ?_; rintro e w' ⟨rfl, rfl⟩) | (go_at_call 10; with_reducible refine (rhas_calls m hm i _).mono ?_; rintro e w' ⟨rfl, n1, rfl⟩) | (go_at_call 16; with_reducible refine (rwith_calls m hm i _).mono ?_; rintro e w' ⟨rfl, n2, rfl⟩) | (go_at_call 17; with_reducible refine (rwithout_calls m hm i _).mono ?_; rintro e w' ⟨rfl, n3, rfl⟩))
  go_ret
  exact ⟨rfl, by repeat (first | exact HB.out | apply pw_below_drewN | apply below_drew1)⟩
set_option maxRecDepth 100000 in
set_option maxHeartbeats 8000000 in
theorem sets_ne (m : Nat) (hm : m < 2 ^ 64) (i k : Int) (hik : ¬ i = k) (w : World) (hT : Tab w) (h0 : 0 < w.heap.size) : Calls Tryd.prog 4 #[.int .u64 (m : Int), .int .i64 i, .int .i64 k] w fun e w' => e = .returned (.bool true) ∧ Below w.heap.size w w' := by
  have e1 := has_with m i k hik
  have e2 := has_without m i k hik
  go_enter Tryd.func4, Tryd.ntmps4
  go_wp2_with (first | (go_at_call 7; with_reducible refine (alive_calls _ hT h0).mono ?_; rintro e w1 ⟨rfl, hb⟩; have HB := Aside0.mk hb; have HT1 := Aside0.mk (tab_below hT hb h0); clear hb) | (go_at_call 13; with_reducible refine (with_calls m hm i _).mono ?_; rintro e w' ⟨rfl, rfl⟩) | (go_at_call 14; with_reducible refine (without_calls m hm i _).mono ?_; rintro e w' ⟨rfl, rfl⟩) | (go_at_call 15; first | (with_reducible refine (has_calls m hm _ _).mono ?_; rintro e w' ⟨rfl, rfl⟩) | (with_reducible refine (has_calls (withN m i) (with_lt hm i) k _).mono ?_; rintro e w' ⟨rfl, rfl⟩; rw [e1]) | (with_reducible refine (has_calls (withoutN m i) (without_lt hm i) k _).mono ?_; rintro e w' ⟨rfl, rfl⟩; rw [e2])) | (go_at_call 10; with_reducible refine (rhas_calls m hm i _).mono ?_; rintro e w' ⟨rfl, n1, rfl⟩) | (go_at_call 16; with_reducible refine (rwith_calls m hm i _).mono ?_; rintro e w' ⟨rfl, n2, rfl⟩) | (go_at_call 17; with_reducible refine (rwithout_calls m hm i _).mono ?_; rintro e w' ⟨rfl, n3, rfl⟩))
  go_ret
  exact ⟨rfl, by repeat (first | exact HB.out | apply pw_below_drewN | apply below_drew1)⟩
theorem sets_walk (m i k : Int) (w : World) (hT : Tab w) (h0 : 0 < w.heap.size) (km : (Lit.int .u64 m).wf = true) (_ : (Lit.int .i64 i).wf = true) (_ : (Lit.int .i64 k).wf = true) : Calls Tryd.prog 4 #[.int .u64 m, .int .i64 i, .int .i64 k] w fun e w' => e = .returned (.bool true) ∧ Below w.heap.size w w' := by
  obtain ⟨m, rfl, hm⟩ := wf_nat km
  by_cases hik : i = k
  · subst hik
    exact sets_eq m hm i w hT h0
  · exact sets_ne m hm i k hik w hT h0

/-! ### BitsBack -/
theorem ww (m : Nat) (hm : m < 2 ^ 64) (i : Int) : withN (withN m i) i = withN m i := ext64 (with_lt (with_lt hm i) i) (with_lt hm i) (fun j hj => by rw [tb_with _ _ j hj, tb_with _ _ j hj]; cases m.testBit j <;> cases decide (i = (j : Int)) <;> rfl)
theorem oo (m : Nat) (hm : m < 2 ^ 64) (i : Int) : withoutN (withoutN m i) i = withoutN m i := ext64 (without_lt (without_lt hm i) i) (without_lt hm i) (fun j hj => by rw [tb_without _ _ j hj, tb_without _ _ j hj]; cases m.testBit j <;> cases decide (i = (j : Int)) <;> rfl)
theorem ow (m : Nat) (hm : m < 2 ^ 64) (i : Int) : withoutN (withN m i) i = withoutN m i := ext64 (without_lt (with_lt hm i) i) (without_lt hm i) (fun j hj => by rw [tb_without _ _ j hj, tb_with _ _ j hj, tb_without _ _ j hj]; cases m.testBit j <;> cases decide (i = (j : Int)) <;> rfl)
theorem wo (m : Nat) (hm : m < 2 ^ 64) (i : Int) : withN (withoutN m i) i = withN m i := ext64 (with_lt (without_lt hm i) i) (with_lt hm i) (fun j hj => by rw [tb_with _ _ j hj, tb_without _ _ j hj, tb_with _ _ j hj]; cases m.testBit j <;> cases decide (i = (j : Int)) <;> rfl)
theorem got_more (a b : Nat) (h : ∀ j, j < 64 → a.testBit j = true → b.testBit j = true) : (got a 64).length ≤ (got b 64).length := by
  unfold got
  rw [List.length_map, List.length_map, ← List.countP_eq_length_filter, ← List.countP_eq_length_filter]
  exact List.countP_mono_left (fun j hj => h j (List.mem_range.1 hj))
theorem count_calls (m : Nat) (hm : m < 2 ^ 64) (w : World) : Calls Tryd.prog 20 #[.int .u64 (m : Int)] w fun e W' => e = .returned (.int .i64 (got m 64).length) ∧ Below w.heap.size w W' :=
  (callsIn_wide (n := 6)).1 (count_in 6 (by decide) m hm w)
set_option maxRecDepth 100000 in
set_option maxHeartbeats 8000000 in
theorem back_at (m : Nat) (hm : m < 2 ^ 64) (i : Int) (a b : Nat) (ha : a < 2 ^ 64) (hb : b < 2 ^ 64) (ca cb : Nat) (hca : Aside0 ((got a 64).length = ca)) (hcb : Aside0 ((got b 64).length = cb)) (hc : cb ≤ ca) (HA : Aside0 (withN m i = a)) (HO : Aside0 (withoutN m i = b))
    (e1 : Aside0 (withN a i = a)) (e2 : Aside0 (withoutN b i = b)) (e3 : Aside0 (withoutN a i = b)) (e4 : Aside0 (withN b i = a)) (w : World) (hT : Tab w) (h0 : 0 < w.heap.size) : Calls Tryd.prog 6 #[.int .u64 (m : Int), .int .i64 i] w fun e w' => e = .returned (.bool true) ∧ Below w.heap.size w w' := by
  go_enter Tryd.func6, Tryd.ntmps6
  go_upto_region 5 with (first
    | (go_at_call 7; with_reducible refine (alive_calls _ hT h0).mono ?_; rintro e w1 ⟨rfl, hb⟩; have HB := Aside0.mk hb; have HT1 := Aside0.mk (tab_below hT hb h0); clear hb)
    | (go_at_call 13; with_reducible refine (with_calls m hm i _).mono ?_; rintro e w' ⟨rfl, rfl⟩; rw [HA.out])
    | (go_at_call 14; with_reducible refine (without_calls m hm i _).mono ?_; rintro e w' ⟨rfl, rfl⟩; rw [HO.out]))
  go_wp2_with (first
    | (go_at_call 13; first | (with_reducible refine (with_calls a ha i _).mono ?_; rintro e w' ⟨rfl, rfl⟩; rw [e1.out]) | (with_reducible refine (with_calls b hb i _).mono ?_; rintro e w' ⟨rfl, rfl⟩; rw [e4.out]))
    | (go_at_call 14; first | (with_reducible refine (without_calls b hb i _).mono ?_; rintro e w' ⟨rfl, rfl⟩; rw [e2.out]) | (with_reducible refine (without_calls a ha i _).mono ?_; rintro e w' ⟨rfl, rfl⟩; rw [e3.out]))
    | (go_at_call 20; first | (with_reducible refine (count_calls a ha _).mono ?_; rintro e w' ⟨rfl, hb'⟩; rw [hca.out]; have n0_ := Aside0.mk (below_step HB.out hb'); clear HB; have HB := n0_; clear n0_ hb') | (with_reducible refine (count_calls b hb _).mono ?_; rintro e w' ⟨rfl, hb'⟩; rw [hcb.out]; have n0_ := Aside0.mk (below_step HB.out hb'); clear HB; have HB := n0_; clear n0_ hb')))
  go_ret
  exact ⟨by simp [hc], by repeat (first | exact HB.out | apply pw_below_drewN | apply below_drew1)⟩
theorem back_walk (m i : Int) (w : World) (hT : Tab w) (h0 : 0 < w.heap.size) (km : (Lit.int .u64 m).wf = true) (_ : (Lit.int .i64 i).wf = true) : Calls Tryd.prog 6 #[.int .u64 m, .int .i64 i] w fun e w' => e = .returned (.bool true) ∧ Below w.heap.size w w' := by
  obtain ⟨m, rfl, hm⟩ := wf_nat km
  refine back_at m hm i _ _ (with_lt hm i) (without_lt hm i) _ _ (Aside0.mk rfl) (Aside0.mk rfl) ?_ (Aside0.mk rfl) (Aside0.mk rfl) (Aside0.mk (ww m hm i)) (Aside0.mk (oo m hm i)) (Aside0.mk (ow m hm i)) (Aside0.mk (wo m hm i)) w hT h0
  have := got_more (withoutN m i) (withN m i) (fun j hj h => by
    rw [tb_without _ _ j hj] at h
    rw [tb_with _ _ j hj]
    cases hb : m.testBit j <;> simp_all)
  exact this

/-! ### BitsFirst -/
theorem rfirst_calls (m : Nat) (hm : m < 2 ^ 64) (n : Int) (w : World) : Calls Tryd.prog 8 #[.int .u64 (m : Int), .int .i64 n] w fun e w' => e = .returned (.int .i64 (firstN m n)) ∧ ∃ n, w' = w.drewN n :=
  (PBitsFirst.trencherref01_First.calls 300 (m : Int) n _ w (rfirst m hm n)).mono fun _ _ h => ⟨h.1, h.2.out⟩
theorem has_lows (n i : Int) (h : 0 ≤ i ∧ i < 64) : hasN (lowsN n) i = decide (i < n) := by
  unfold hasN
  rw [decide_eq_true h, Bool.true_and, tb_lows n i.toNat (by omega)]
  rw [Int.toNat_of_nonneg h.1]
theorem first_neg (m : Nat) (n : Int) : decide (firstN m n < 0) = fullN m n := by
  unfold firstN
  cases fullN m n with
  | true => rfl
  | false => rw [if_neg (by decide)]; exact decide_eq_false (by omega)
set_option maxRecDepth 100000 in
set_option maxHeartbeats 8000000 in
theorem first_at (m : Nat) (hm : m < 2 ^ 64) (n f : Int) (b : Bool) (HF : Aside0 (firstN m n = f)) (HU : Aside0 (fullN m n = b)) (hfb : decide (f < 0) = b) (l : Nat) (hl : l < 2 ^ 64) (HL : Aside0 (lowsN n = l)) (w : World) (hT : Tab w) (h0 : 0 < w.heap.size) : Calls Tryd.prog 3 #[.int .u64 (m : Int), .int .i64 n] w fun e w' => e = .returned (.bool true) ∧ Below w.heap.size w w' := by
  go_enter Tryd.func3, Tryd.ntmps3
  go_wp2_with (first
    | (go_at_call 7; with_reducible refine (alive_calls _ hT h0).mono ?_; rintro e w1 ⟨rfl, hb⟩; have HB := Aside0.mk hb; have HT1 := Aside0.mk (tab_below hT hb h0); clear hb)
    | (go_at_call 8; with_reducible refine (rfirst_calls m hm n _).mono ?_; rintro e w' ⟨rfl, n1, rfl⟩; rw [HF.out])
    | (go_at_call 9; with_reducible refine (lows_calls n _).mono ?_; rintro e w' ⟨rfl, rfl⟩; rw [HL.out]))
  go_loopw [7] (fun v wr => ∃ i : Int, 0 ≤ i ∧ i ≤ 64 ∧ v = .int .i64 i ∧ Aside0 (Below w.heap.size w wr)) (fun v _ => (64 - intOf v).toNat)
  case atStart => exact ⟨0, by omega, by omega, rfl, Aside0.mk (by repeat (first | exact HB.out | apply pw_below_drewN | apply below_drew1))⟩
  case round =>
    clear HB HT1
    obtain ⟨i, hi0, hi1, rfl, HB⟩ := hrel
    have HT1 := Aside0.mk (tab_below hT HB.out h0)
    by_cases hlt : i < 64
    · have hh : hasN l i = decide (i < n) := by rw [← HL.out]; exact has_lows n i ⟨hi0, hlt⟩
      have hw : wrap64 (i + 1) = i + 1 := w64 _ (by omega) (by omega)
      by_cases hin : i < n
      · have hd : decide (i < n) = true := decide_eq_true hin
        rw [hd] at hh
        go_wp2_with (go_at_call 10; with_reducible refine (rhas_calls l hl i _).mono ?_; rintro e w' ⟨rfl, n1, rfl⟩; rw [hh])
        refine ⟨⟨i + 1, by omega, by omega, rfl, Aside0.mk (by repeat (first | exact HB.out | apply pw_below_drewN | apply below_drew1))⟩, ?_⟩
        show (64 - (i + 1)).toNat < (64 - i).toNat
        omega
      · have hd : decide (i < n) = false := decide_eq_false hin
        rw [hd] at hh
        go_wp2_with (go_at_call 10; with_reducible refine (rhas_calls l hl i _).mono ?_; rintro e w' ⟨rfl, n1, rfl⟩; rw [hh])
        refine ⟨⟨i + 1, by omega, by omega, rfl, Aside0.mk (by repeat (first | exact HB.out | apply pw_below_drewN | apply below_drew1))⟩, ?_⟩
        show (64 - (i + 1)).toNat < (64 - i).toNat
        omega
    · obtain rfl : i = 64 := by omega
      go_wp2_with (first
        | (go_at_call 11; with_reducible refine (first_calls m hm n _ HT1.out).mono ?_; rintro e w' ⟨rfl, rfl⟩; rw [HF.out])
        | (go_at_call 12; with_reducible refine (full_calls m hm n _).mono ?_; rintro e w' ⟨rfl, rfl⟩; rw [HU.out]))
      go_ret
      exact ⟨by simp [hfb], by repeat (first | exact HB.out | apply pw_below_drewN | apply below_drew1)⟩
theorem first_walk (m n : Int) (w : World) (hT : Tab w) (h0 : 0 < w.heap.size) (km : (Lit.int .u64 m).wf = true) (_ : (Lit.int .i64 n).wf = true) : Calls Tryd.prog 3 #[.int .u64 m, .int .i64 n] w fun e w' => e = .returned (.bool true) ∧ Below w.heap.size w w' := by
  obtain ⟨m, rfl, hm⟩ := wf_nat km
  exact first_at m hm n _ _ (Aside0.mk rfl) (Aside0.mk rfl) (first_neg m n) _ (lows_lt n) (Aside0.mk rfl) w hT h0

/-! ### BitsAll -/
theorem rall_l (m : Nat) (hm : m < 2 ^ 64) (d : Nat) : ∀ (k : Nat) (j : Nat), j + d = 64 → d + 80 ≤ k → PBitsAll.trencherref01_All.l0 k (m : Int) (got m j) (j : Int) = some (got m 64) := by
  induction d with
  | zero =>
    intro k j h1 hk
    obtain ⟨k, rfl⟩ : ∃ k', k = k' + 1 := ⟨k - 1, by omega⟩
    obtain rfl : j = 64 := by omega
    simp only [PBitsAll.trencherref01_All.l0]
    rw [if_neg (by omega)]
  | succ d ih =>
    intro k j h1 hk
    obtain ⟨k, rfl⟩ : ∃ k', k = k' + 1 := ⟨k - 1, by omega⟩
    simp only [PBitsAll.trencherref01_All.l0]
    have hk2 : PBitsAll.trencherref01_Has.f k (m : Int) (j : Int) = some (hasN m j) := by
      have := rhas_more_a (k - 70) m hm j
      rwa [show k - 70 + 70 = k by omega] at this
    rw [if_pos (by omega), hk2]
    simp only [Option.bind_some]
    rw [has_at m j (by omega), w64 _ (by omega) (by omega)]
    have := got_len m j
    cases hb : m.testBit j with
    | true =>
      rw [if_pos rfl, if_pos (by omega), ← got_hit hb]
      exact ih k (j + 1) (by omega) (by omega)
    | false =>
      rw [if_neg (by decide), ← got_miss hb]
      exact ih k (j + 1) (by omega) (by omega)
theorem rall (m : Nat) (hm : m < 2 ^ 64) : PBitsAll.trencherref01_All.f 200 (m : Int) = some (got m 64) := rall_l m hm 64 200 0 rfl (by decide)
set_option maxRecDepth 100000 in
set_option maxHeartbeats 8000000 in
theorem all_at (m : Nat) (hm : m < 2 ^ 64) (l : List Int) (HG : Aside0 (got m 64 = l)) (hl : l.length ≤ 64) (w : World) (hT : Tab w) (h0 : 0 < w.heap.size) : Calls Tryd.prog 5 #[.int .u64 (m : Int)] w fun e w' => e = .returned (.bool true) ∧ Below w.heap.size w w' := by
  go_enter Tryd.func5, Tryd.ntmps5
  go_wp2_with (first
    | (go_at_call 7; with_reducible refine (alive_calls _ hT h0).mono ?_; rintro e w1 ⟨rfl, hb⟩; have HB := Aside0.mk hb; have HT1 := Aside0.mk (tab_below hT hb h0); clear hb)
    | (go_at_call 18; with_reducible refine (all_R m hm _).mono ?_; rintro e w2 ⟨v, rfl, hR, hb⟩; rw [HG.out] at hR; obtain ⟨A, c, rfl, _, hr⟩ := Kd.R_reads hR; have KA := Aside0.mk hr; have n0_ := Aside0.mk (below_step HB.out hb); clear HB hR hr hb; have HB := n0_; clear n0_)
    | (go_at_call 19; with_reducible refine (PBitsAll.trencherref01_All.calls 200 (m : Int) _ _ (rall m hm)).mono ?_; rintro e w3 ⟨v, rfl, hR, hb⟩; rw [HG.out] at hR; obtain ⟨A1, c1, rfl, _, hr⟩ := Kd.R_reads hR; have KB := Aside0.mk hr; have n1_ := Aside0.mk (Kd.C_below KA.out hb); have n0_ := Aside0.mk (below_step HB.out hb); clear HB KA hR hr hb; have HB := n0_; have KA := n1_; clear n0_ n1_)
    | (go_at_call 20; with_reducible refine (count_calls m hm _).mono ?_; rintro e w4 ⟨rfl, hb⟩; rw [HG.out]; have n2_ := Aside0.mk (Kd.C_below KB.out hb); have n1_ := Aside0.mk (Kd.C_below KA.out hb); have n0_ := Aside0.mk (below_step HB.out hb); clear HB KA KB hb; have HB := n0_; have KA := n1_; have KB := n2_; clear n0_ n1_ n2_))
  go_loopw [5] (fun v wr => ∃ i : Nat, i ≤ l.length ∧ v = .int .i64 i ∧ ∃ nd, wr = w4.drewN nd) (fun v _ => l.length - (intOf v).toNat)
  case atStart => exact ⟨0, by omega, rfl, 0, rfl⟩
  case round =>
    obtain ⟨i, hi, rfl, nd, rfl⟩ := hrel
    by_cases hlt : i < l.length
    · obtain ⟨ad, e, hx⟩ := Kd.at_int KA.out (i : Int) (by omega) (by omega)
      cases e
      obtain ⟨ad1, e, hx1⟩ := Kd.at_int KB.out (i : Int) (by omega) (by omega)
      cases e
      rw [Int.toNat_natCast] at hx hx1
      generalize rd l (i : Int) = y at hx hx1
      have hi0 : (0 : Int) ≤ (i : Int) := by omega
      have hi1 : (i : Int) < (l.length : Int) := by omega
      have hnn : (y != y) = false := by simp
      go_wp2
      go_quiet (fail)
      go_wp2
      refine ⟨⟨i + 1, by omega, by push_cast; rfl, _, rfl⟩, ?_⟩
      show l.length - ((i : Int) + 1).toNat < l.length - (i : Int).toNat
      omega
    · obtain rfl : i = l.length := by omega
      go_wp2
      go_ret
      exact ⟨rfl, by repeat (first | exact HB.out | apply pw_below_drewN | apply below_drew1)⟩
theorem all_walk (m : Int) (w : World) (hT : Tab w) (h0 : 0 < w.heap.size) (km : (Lit.int .u64 m).wf = true) : Calls Tryd.prog 5 #[.int .u64 m] w fun e w' => e = .returned (.bool true) ∧ Below w.heap.size w w' := by
  obtain ⟨m, rfl, hm⟩ := wf_nat km
  exact all_at m hm _ (Aside0.mk rfl) (got_len m 64) w hT h0
end Go.Proofs.YtbdedbhafciilaaDoor.Bt
