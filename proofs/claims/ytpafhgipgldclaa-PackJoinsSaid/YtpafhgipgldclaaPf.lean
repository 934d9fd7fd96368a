/- PackFields and PackApart, the walks: for every words and fields the laws' calls return true and turn nothing that was there. Conditions: the numbers are of their kinds. -/
import Derived.Test.YtpafhgipgldclaaPl1
namespace Go.Proofs.Ytpafhgipgldclaa.Pf
open Go.RowKit Go.Proofs.YtpafhgipgldclaaW.PrintWords Go.Proofs.YtpafhgipgldclaaW.PrintLast Go.Proofs.YtpafhgipgldclaaW.PrintMore Go.Proofs.Ytpafhgipgldclaa.Pk Go.Proofs.Ytpafhgipgldclaa.Jo Go.Proofs.Ytpafhgipgldclaa.Pl
set_option linter.unusedVariables false

theorem u64_of_wf {x : Int} (h : (Lit.int .u64 x).wf = true) : ∃ n : Nat, x = (n : Int) ∧ n < 2 ^ 64 := by
  simp [Lit.wf, IntKind.min, IntKind.max, IntKind.signed, IntKind.bits] at h
  exact ⟨x.toNat, by omega, by omega⟩
theorem get_some (x : Nat) (hx : x < 2 ^ 64) (a n : Int) : ∃ g : Nat, g < 2 ^ 64 ∧ pack_Get.f (x : Int) a n = some (g : Int) := by
  cases h : fld a n with
  | true =>
    obtain ⟨a, n, rfl, rfl, h1, h2⟩ := fld_nat h
    exact ⟨_, get_lt x a n (by omega), get_eq x hx a n h1 h2⟩
  | false => exact ⟨0, by decide, get_no _ _ _ h⟩
theorem put_some (x v : Nat) (hx : x < 2 ^ 64) (hv : v < 2 ^ 64) (a n : Int) : ∃ g : Nat, g < 2 ^ 64 ∧ pack_Put.f (x : Int) a n (v : Int) = some (g : Int) := by
  cases h : fld a n with
  | true =>
    obtain ⟨a, n, rfl, rfl, h1, h2⟩ := fld_nat h
    exact ⟨_, put_lt hx h2, put_eq x v hx hv a n h1 h2⟩
  | false => exact ⟨x, hx, put_no _ _ _ _ h⟩

set_option maxHeartbeats 1000000 in
theorem fields_walk (x a n v : Int) (w : World) (wx : (Lit.int .u64 x).wf = true) (_ : (Lit.int .i64 a).wf = true) (_ : (Lit.int .i64 n).wf = true) (wv : (Lit.int .u64 v).wf = true) :
    Calls Try.prog 3 #[.int .u64 x, .int .i64 a, .int .i64 n, .int .u64 v] w fun e w' => e = .returned (.bool true) ∧ Below w.heap.size w w' := by
  obtain ⟨x, rfl, hx⟩ := u64_of_wf wx
  obtain ⟨v, rfl, hv⟩ := u64_of_wf wv
  obtain ⟨g, _, hg⟩ := get_some x hx a n
  obtain ⟨p, _, hp⟩ := put_some x v hx hv a n
  have hrg := ref_get x hx a n 300 (by omega)
  have hrp := ref_put x v hx hv a n 300 (by omega)
  rw [hg] at hrg
  rw [hp] at hrp
  have HG := Aside0.mk hg
  have HP := Aside0.mk hp
  have HRG := Aside0.mk hrg
  have HRP := Aside0.mk hrp
  clear hg hp hrg hrp wx wv hx hv
  go_enter Try.func3, Try.ntmps3
  go_wp2_with fail
  refine (alive_calls _).mono ?_
  rintro e w1 ⟨rfl, hb⟩
  have HB := Aside0.mk hb
  clear hb
  go_wp2_with fail
  refine (pack_Get.calls _ a n g _ HG.out).mono ?_
  rintro e w2 ⟨rfl, hd⟩
  have HB2 := Aside0.mk (below_step HB.out hd.below)
  clear hd HB
  go_wp2_with fail
  refine (trencherref02_Get.calls 300 _ a n g _ HRG.out).mono ?_
  rintro e w3 ⟨rfl, hd⟩
  have HB3 := Aside0.mk (below_step HB2.out hd.below)
  clear hd HB2
  go_wp2_with fail
  refine (pack_Put.calls _ a n _ p _ HP.out).mono ?_
  rintro e w4 ⟨rfl, hd⟩
  have HB4 := Aside0.mk (below_step HB3.out hd.below)
  clear hd HB3
  go_wp2_with fail
  refine (trencherref02_Put.calls 300 _ a n _ p _ HRP.out).mono ?_
  rintro e w5 ⟨rfl, hd⟩
  have HB5 := Aside0.mk (below_step HB4.out hd.below)
  clear hd HB4
  go_wp2
  go_ret
  exact ⟨rfl, HB5.out⟩

/-- What is put into a field turns no field that has no bit of it. -/
theorem apart (x v a n o m : Nat) (hx : x < 2 ^ 64) (h1 : a + n ≤ 64) (h2 : o + m ≤ 64) (h : a + n ≤ o ∨ o + m ≤ a) : getN (putN x a n v) o m = getN x o m := by
  apply Nat.eq_of_testBit_eq
  intro j
  rw [tb_get, tb_get]
  by_cases hj : j < m
  · rw [tb_put _ _ _ _ _ h1 (by omega), if_neg (by omega)]
  · simp [hj]
theorem back (x v a n : Nat) (hx : x < 2 ^ 64) (h1 : a + n ≤ 64) : putN (putN x a n v) a n (getN x a n) = x := by
  refine ext64 (put_lt (put_lt hx h1) h1) hx (fun j hj => ?_)
  rw [tb_put _ _ _ _ _ h1 hj, tb_put _ _ _ _ _ h1 hj, tb_get]
  by_cases c : a ≤ j ∧ j < a + n
  · rw [if_pos c, show j - a + a = j by omega]
    have : j - a < n := by omega
    simp [this]
  · rw [if_neg c, if_neg c]

set_option maxHeartbeats 1000000 in
theorem apart_walk (x a n v o m : Int) (w : World) (wx : (Lit.int .u64 x).wf = true) (_ : (Lit.int .i64 a).wf = true) (_ : (Lit.int .i64 n).wf = true) (wv : (Lit.int .u64 v).wf = true) (_ : (Lit.int .i64 o).wf = true) (_ : (Lit.int .i64 m).wf = true) :
    Calls Try.prog 4 #[.int .u64 x, .int .i64 a, .int .i64 n, .int .u64 v, .int .i64 o, .int .i64 m] w fun e w' => e = .returned (.bool true) ∧ Below w.heap.size w w' := by
  obtain ⟨x, rfl, hx⟩ := u64_of_wf wx
  obtain ⟨v, rfl, hv⟩ := u64_of_wf wv
  clear wx wv
  have HF1 := Aside0.mk (ref_field a n)
  have HF2 := Aside0.mk (ref_field o m)
  cases h1 : fld a n with
  | false =>
    rw [h1] at HF1
    clear hx hv h1 HF2
    go_enter Try.func4, Try.ntmps4
    go_wp2_with fail
    refine (alive_calls _).mono ?_
    rintro e w1 ⟨rfl, hb⟩
    have HB := Aside0.mk hb
    clear hb
    go_wp2_with fail
    refine (trencherref02_Field.calls a n false _ HF1.out).mono ?_
    rintro e w2 ⟨rfl, hd⟩
    have HB2 := Aside0.mk (below_step HB.out hd.below)
    clear hd HB
    go_wp2
    go_ret
    exact ⟨rfl, HB2.out⟩
  | true =>
    cases h2 : fld o m with
    | false =>
      rw [h1] at HF1
      rw [h2] at HF2
      clear hx hv h1 h2
      go_enter Try.func4, Try.ntmps4
      go_wp2_with fail
      refine (alive_calls _).mono ?_
      rintro e w1 ⟨rfl, hb⟩
      have HB := Aside0.mk hb
      clear hb
      go_wp2_with fail
      refine (trencherref02_Field.calls a n true _ HF1.out).mono ?_
      rintro e w2 ⟨rfl, hd⟩
      have HB2 := Aside0.mk (below_step HB.out hd.below)
      clear hd HB
      go_wp2_with fail
      refine (trencherref02_Field.calls o m false _ HF2.out).mono ?_
      rintro e w3 ⟨rfl, hd⟩
      have HB3 := Aside0.mk (below_step HB2.out hd.below)
      clear hd HB2
      go_wp2
      go_ret
      exact ⟨rfl, HB3.out⟩
    | true =>
      rw [h1] at HF1
      rw [h2] at HF2
      obtain ⟨a, n, rfl, rfl, ha1, ha2⟩ := fld_nat h1
      obtain ⟨o, m, rfl, rfl, ho1, ho2⟩ := fld_nat h2
      clear h1 h2
      by_cases hov : (o : Int) < (a : Int) + (n : Int) ∧ (a : Int) < (o : Int) + (m : Int)
      · obtain ⟨c1, c2⟩ := hov
        have d1 : decide ((o : Int) < (a : Int) + (n : Int)) = true := decide_eq_true c1
        have d2 : decide ((a : Int) < (o : Int) + (m : Int)) = true := decide_eq_true c2
        clear hx hv
        go_enter Try.func4, Try.ntmps4
        go_wp2_with fail
        refine (alive_calls _).mono ?_
        rintro e w1 ⟨rfl, hb⟩
        have HB := Aside0.mk hb
        clear hb
        go_wp2_with fail
        refine (trencherref02_Field.calls _ _ true _ HF1.out).mono ?_
        rintro e w2 ⟨rfl, hd⟩
        have HB2 := Aside0.mk (below_step HB.out hd.below)
        clear hd HB
        go_wp2_with fail
        refine (trencherref02_Field.calls _ _ true _ HF2.out).mono ?_
        rintro e w3 ⟨rfl, hd⟩
        have HB3 := Aside0.mk (below_step HB2.out hd.below)
        clear hd HB2
        go_wp2
        go_ret
        exact ⟨rfl, HB3.out⟩
      · have hap : a + n ≤ o ∨ o + m ≤ a := by omega
        have hpl := put_lt (v := v) hx ha2
        have P1 := Aside0.mk (put_eq x v hx hv a n ha1 ha2)
        have G1 := Aside0.mk (get_eq _ hpl o m ho1 ho2)
        rw [apart x v a n o m hx ha2 ho2 hap] at G1
        have G2 := Aside0.mk (get_eq x hx o m ho1 ho2)
        have G3 := Aside0.mk (get_eq x hx a n ha1 ha2)
        have P2 := Aside0.mk (put_eq _ _ hpl (get_lt x a n (by omega)) a n ha1 ha2)
        rw [back x v a n hx ha2] at P2
        have hord : (o : Int) < (a : Int) + (n : Int) ∧ ¬ (a : Int) < (o : Int) + (m : Int) ∨ ¬ (o : Int) < (a : Int) + (n : Int) := by omega
        generalize putN x a n v = y at *
        generalize getN x o m = g at *
        generalize getN x a n = g2 at *
        clear hov hap hx hv hpl
        rcases hord with ⟨c1, c2⟩ | c1
        all_goals
          go_enter Try.func4, Try.ntmps4
          go_wp2_with fail
          refine (alive_calls _).mono ?_
          rintro e w1 ⟨rfl, hb⟩
          have HB := Aside0.mk hb
          clear hb
          go_wp2_with fail
          refine (trencherref02_Field.calls _ _ true _ HF1.out).mono ?_
          rintro e w2 ⟨rfl, hd⟩
          have HB2 := Aside0.mk (below_step HB.out hd.below)
          clear hd HB
          go_wp2_with fail
          refine (trencherref02_Field.calls _ _ true _ HF2.out).mono ?_
          rintro e w3 ⟨rfl, hd⟩
          have HB3 := Aside0.mk (below_step HB2.out hd.below)
          clear hd HB2
          go_wp2_with fail
          refine (pack_Put.calls _ _ _ _ _ _ P1.out).mono ?_
          rintro e w4 ⟨rfl, hd⟩
          have HB4 := Aside0.mk (below_step HB3.out hd.below)
          clear hd HB3
          go_wp2_with fail
          refine (pack_Get.calls _ _ _ _ _ G1.out).mono ?_
          rintro e w5 ⟨rfl, hd⟩
          have HB5 := Aside0.mk (below_step HB4.out hd.below)
          clear hd HB4
          go_wp2_with fail
          refine (pack_Get.calls _ _ _ _ _ G2.out).mono ?_
          rintro e w6 ⟨rfl, hd⟩
          have HB6 := Aside0.mk (below_step HB5.out hd.below)
          clear hd HB5
          go_wp2_with fail
          refine (pack_Get.calls _ _ _ _ _ G3.out).mono ?_
          rintro e w7 ⟨rfl, hd⟩
          have HB7 := Aside0.mk (below_step HB6.out hd.below)
          clear hd HB6
          go_wp2_with fail
          refine (pack_Put.calls _ _ _ _ _ _ P2.out).mono ?_
          rintro e w8 ⟨rfl, hd⟩
          have HB8 := Aside0.mk (below_step HB7.out hd.below)
          clear hd HB7
          go_wp2
          go_ret
          exact ⟨rfl, HB8.out⟩
end Go.Proofs.Ytpafhgipgldclaa.Pf
