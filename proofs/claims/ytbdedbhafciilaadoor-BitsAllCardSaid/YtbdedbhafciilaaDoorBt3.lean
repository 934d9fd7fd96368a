/- Bits: With, Without, Lows, Full, First (math/bits.TrailingZeros64's table at hand), the examples. Conditions: a set is a natural number below 2^64; the table lies as its initialiser lays it. -/
import Derived.Shelf.Spec.TrailingZeros
import Derived.Test.YtbdedbhafciilaaDoorBt2
namespace Go.Proofs.YtbdedbhafciilaaDoor.Bt
open Go.RowKit Go.Shelf Go.Proofs.YtbdedbhafciilaaDoorW.PrintWords
set_option linter.unusedSimpArgs false
set_option linter.unusedVariables false
def tz_ren : Go.Shelf.Ren := ⟨fun | 29 => 21 | n => n, fun | 22 => 22 | 3 => 3 | 4 => 4 | 25 => 38 | 54 => 37 | 0 => 0 | 5 => 5 | n => n, fun | 1 => 0 | n => n⟩
theorem tz : Go.Proofs.Lays7.n29 Tryd.prog tz_ren := {
  mixed := by kernel_rfl
  f29 := Tryd.func21.trans (congrArg some (by kernel_rfl))
  t0 := Tryd.underlying0
  a0 := Tryd.isAgg0
  z0 := Tryd.sizeOf0
  v0 := Tryd.zeroValue0
  i0 := by kernel_rfl
  t3 := Tryd.underlying3
  a3 := Tryd.isAgg3
  z3 := Tryd.sizeOf3
  v3 := Tryd.zeroValue3
  i3 := by kernel_rfl
  t4 := Tryd.underlying4
  a4 := Tryd.isAgg4
  z4 := Tryd.sizeOf4
  v4 := Tryd.zeroValue4
  i4 := by kernel_rfl
  t5 := Tryd.underlying5
  a5 := Tryd.isAgg5
  z5 := Tryd.sizeOf5
  v5 := Tryd.zeroValue5
  i5 := by kernel_rfl
  t22 := Tryd.underlying22
  a22 := Tryd.isAgg22
  z22 := Tryd.sizeOf22
  v22 := Tryd.zeroValue22
  i22 := by kernel_rfl
  t25 := Tryd.underlying38
  a25 := Tryd.isAgg38
  z25 := Tryd.sizeOf38
  v25 := Tryd.zeroValue38
  i25 := by kernel_rfl
  t54 := Tryd.underlying37
  a54 := Tryd.isAgg37
  z54 := Tryd.sizeOf37
  g1 := by kernel_rfl }

abbrev Tab (w : World) : Prop := TabAt 0 Lib.deBruijn64tab w
theorem tab_below {w w' : World} (h : Tab w) (hb : Below w.heap.size w w') (h0 : 0 < w.heap.size) : Tab w' := fun j hj => (hb.cell (p := ⟨0, j, none⟩) h0).trans (h j hj)
theorem with_calls (m : Nat) (hm : m < 2 ^ 64) (i : Int) (w : World) : Calls Tryd.prog 13 #[.int .u64 (m : Int), .int .i64 i] w fun e w' => e = .returned (.int .u64 ((withN m i : Nat) : Int)) ∧ w' = w := by
  have H := with_f m hm i
  unfold PBitsSets.bits_With.f at H
  rw [one_f] at H
  simp only [Option.bind_some] at H
  rw [← Option.some.inj H]
  clear H
  go_enter Tryd.func13, Tryd.ntmps13
  go_wp2_with (go_at_call 22; refine (one_calls i _).mono ?_; rintro e w' ⟨rfl, rfl⟩)
  go_ret
  exact ⟨rfl, rfl⟩
theorem without_calls (m : Nat) (hm : m < 2 ^ 64) (i : Int) (w : World) : Calls Tryd.prog 14 #[.int .u64 (m : Int), .int .i64 i] w fun e w' => e = .returned (.int .u64 ((withoutN m i : Nat) : Int)) ∧ w' = w := by
  have H := without_f m hm i
  unfold PBitsSets.bits_Without.f at H
  rw [one_f] at H
  simp only [Option.bind_some] at H
  rw [← Option.some.inj H]
  clear H
  go_enter Tryd.func14, Tryd.ntmps14
  go_wp2_with (go_at_call 22; refine (one_calls i _).mono ?_; rintro e w' ⟨rfl, rfl⟩)
  go_ret
  exact ⟨rfl, rfl⟩
theorem lows_calls (n : Int) (w : World) : Calls Tryd.prog 9 #[.int .i64 n] w fun e w' => e = .returned (.int .u64 ((lowsN n : Nat) : Int)) ∧ w' = w := by
  unfold lowsN
  by_cases h1 : n ≤ 0
  · have hd : decide (n ≤ 0) = true := decide_eq_true h1
    rw [if_pos h1]
    go_enter Tryd.func9, Tryd.ntmps9
    go_wp2
    go_ret
    exact ⟨rfl, rfl⟩
  · have hd : decide (n ≤ 0) = false := decide_eq_false h1
    by_cases h2 : n ≥ 64
    · have hd2 : decide (n ≥ 64) = true := decide_eq_true h2
      rw [if_neg h1, if_pos h2]
      go_enter Tryd.func9, Tryd.ntmps9
      go_wp2
      go_ret
      exact ⟨rfl, rfl⟩
    · have hd2 : decide (n ≥ 64) = false := decide_eq_false h2
      have h0 : 0 ≤ n := by omega
      have e : IntKind.u64.wrap ((2 : Int) ^ n.toNat) = ((2 ^ n.toNat : Nat) : Int) := by
        have h := u64_nat (2 ^ n.toNat) (two_lt (by omega))
        rw [Int.natCast_pow] at h ⊢
        exact h
      have hp := two_lt (n := n.toNat) (by omega)
      have hq := Nat.two_pow_pos n.toNat
      have e2 : IntKind.u64.wrap (((2 ^ n.toNat : Nat) : Int) - 1) = ((2 ^ n.toNat - 1 : Nat) : Int) := by
        rw [wraps_u64 _ (by omega) (by omega)]
        omega
      rw [if_neg h1, if_neg h2]
      go_enter Tryd.func9, Tryd.ntmps9
      go_wp2
      go_ret
      refine ⟨?_, rfl⟩
      rw [Int.natCast_pow] at e2
      show Ending.returned (Value.int IntKind.u64 (IntKind.u64.wrap ((2 : Int) ^ n.toNat - 1))) = _
      exact congrArg (fun x => Ending.returned (Value.int IntKind.u64 x)) e2
theorem full_calls (m : Nat) (hm : m < 2 ^ 64) (n : Int) (w : World) : Calls Tryd.prog 12 #[.int .u64 (m : Int), .int .i64 n] w fun e w' => e = .returned (.bool (fullN m n)) ∧ w' = w := by
  have H := full_f m hm n
  unfold PBitsFirst.bits_Full.f at H
  rw [lows_f] at H
  simp only [Option.bind_some] at H
  rw [← Option.some.inj H]
  clear H
  go_enter Tryd.func12, Tryd.ntmps12
  go_wp2_with (go_at_call 9; refine (lows_calls n _).mono ?_; rintro e w' ⟨rfl, rfl⟩)
  go_ret
  exact ⟨rfl, rfl⟩
theorem xor_eq (m : Nat) (hm : m < 2 ^ 64) : bits BinOp.xor IntKind.u64 (if IntKind.u64.signed = true then -1 else IntKind.u64.max) (m : Int) = ((2 ^ 64 - 1 - m : Nat) : Int) := by
  show bits BinOp.xor IntKind.u64 ((18446744073709551615 : Nat) : Int) (m : Int) = _
  have h1 : m % 2 ^ 64 = m := Nat.mod_eq_of_lt hm
  have hbits : IntKind.u64.bits = 64 := rfl
  have e : 18446744073709551615 % 2 ^ 64 ^^^ m = 2 ^ 64 - 1 - m := by
    apply ext64 (Nat.xor_lt_two_pow (by decide) hm) (by omega)
    intro j hj
    rw [Nat.testBit_xor, tb_not m j hm, show 18446744073709551615 % 2 ^ 64 = 2 ^ 64 - 1 from rfl, Nat.testBit_two_pow_sub_one, decide_eq_true hj]
    simp
  simp only [bits, hbits, BitVec.ofInt_natCast, BitVec.toNat_xor, BitVec.toNat_ofNat, h1, e]
  exact u64_nat _ (by omega)
theorem tz_calls (x : Nat) (hx : x < 18446744073709551616) (w : World) (hT : Tab w) : Calls Tryd.prog 21 #[.int .u64 (x : Int)] w fun e w' => e = .returned (.int .i64 ((Lib.ctz 64 x : Nat) : Int)) ∧ w' = w :=
  Any7.bits_TrailingZeros64 tz x hx w (fun _ => hT)
theorem first_calls (m : Nat) (hm : m < 2 ^ 64) (n : Int) (w : World) (hT : Tab w) : Calls Tryd.prog 11 #[.int .u64 (m : Int), .int .i64 n] w fun e w' => e = .returned (.int .i64 (firstN m n)) ∧ w' = w := by
  unfold firstN
  cases hf : fullN m n with
  | true =>
    rw [if_pos rfl]
    go_enter Tryd.func11, Tryd.ntmps11
    go_wp2_with (go_at_call 12; refine (full_calls m hm n _).mono ?_; rintro e w' ⟨rfl, rfl⟩; rw [hf])
    go_ret
    exact ⟨rfl, rfl⟩
  | false =>
    rw [if_neg (by decide)]
    go_enter Tryd.func11, Tryd.ntmps11
    go_wp2_with (first
      | (go_at_call 12; refine (full_calls m hm n _).mono ?_; rintro e w' ⟨rfl, rfl⟩; rw [hf])
      | (go_at_call 21; rw [xor_eq m hm]; refine (tz_calls (2 ^ 64 - 1 - m) (by omega) _ hT).mono ?_; rintro e w' ⟨rfl, rfl⟩))
    go_ret
    exact ⟨rfl, rfl⟩

/-- What All hands back, in the print's own words. -/
theorem all_R (m : Nat) (hm : m < 2 ^ 64) (w : World) : Calls Tryd.prog 18 #[.int .u64 (m : Int)] w fun e w' => ∃ v, e = .returned v ∧ Kd.R (Kd.int .i64) 3 w' w.heap.size (fun _ => True) v (got m 64) ∧ Below w.heap.size w w' := by
  refine (all_calls m hm w).mono ?_
  rintro e w' ⟨v, rfl, hrow, _, hb⟩
  exact ⟨v, rfl, Kd.R_of_own hrow (fun _ _ => trivial), hb⟩
theorem got5 : got 5 64 = [0, 2] := by decide
theorem withA (w : World) : Calls Tryd.prog 13 #[.int .u64 5, .int .i64 1] w fun e w' => e = .returned (.int .u64 7) ∧ w' = w := with_calls 5 (by decide) 1 w
theorem firstA (w : World) (hT : Tab w) : Calls Tryd.prog 11 #[.int .u64 7, .int .i64 8] w fun e w' => e = .returned (.int .i64 3) ∧ w' = w := by
  have := first_calls 7 (by decide) 8 w hT
  rw [show firstN 7 8 = 3 from by decide +kernel] at this
  exact this
theorem firstB (w : World) (hT : Tab w) : Calls Tryd.prog 11 #[.int .u64 255, .int .i64 8] w fun e w' => e = .returned (.int .i64 (-1)) ∧ w' = w := by
  have := first_calls 255 (by decide) 8 w hT
  rw [show firstN 255 8 = -1 from by decide +kernel] at this
  exact this
set_option maxRecDepth 100000 in
set_option maxHeartbeats 4000000 in
theorem alive_calls (w : World) (hT : Tab w) (h0 : 0 < w.heap.size) : Calls Tryd.prog 7 #[] w fun e w' => e = .returned (.bool true) ∧ Below w.heap.size w w' := by
  have hA := all_R 5 (by decide) w
  rw [got5] at hA
  go_enter Tryd.func7, Tryd.ntmps7
  go_upto_region 2 with (go_at_call 18; refine hA.mono ?_; rintro e w1 ⟨v, rfl, hR, hb⟩)
  have hT1 := tab_below hT hb h0
  obtain ⟨A, c, rfl, _, hr⟩ := Kd.R_reads hR
  obtain ⟨ad, ea, hx0⟩ := Kd.at_int hr 0 (by decide) (by decide)
  obtain ⟨ad1, ea1, hx1⟩ := Kd.at_int hr 1 (by decide) (by decide)
  subst ea
  cases ea1
  have t : ad.add (0 : Int).toNat = ad := by simp [Addr.add]
  rw [t] at hx0
  have hy0 : w1.cell? ad = some (.int .i64 0) := hx0
  have hy1 : w1.cell? { block := ad.block, off := ad.off + 1 } = some (.int .i64 2) := hx1
  clear hx0 hx1 t
  go_wp2_with (first
    | (go_at_call 13; with_reducible refine (withA _).mono ?_; rintro e w' ⟨rfl, rfl⟩)
    | (go_at_call 11; first | (with_reducible refine (firstA _ hT1).mono ?_; rintro e w' ⟨rfl, rfl⟩) | (with_reducible refine (firstB _ hT1).mono ?_; rintro e w' ⟨rfl, rfl⟩)))
  go_ret
  exact ⟨rfl, hb⟩
end Go.Proofs.YtbdedbhafciilaaDoor.Bt
