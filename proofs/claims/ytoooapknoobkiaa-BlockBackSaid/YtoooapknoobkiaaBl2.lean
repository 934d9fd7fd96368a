/- Block, plainly: Join and Split at the widths 16, 8, 8; what the document reads (no Go in it). -/
import Derived.Test.YtoooapknoobkiaaBl1
namespace Go.Proofs.Ytoooapknoobkiaa.Bl
open Go.RowKit Go.Proofs.YtoooapknoobkiaaW.PrintWords Go.Proofs.YtoooapknoobkiaaW.PrintMore Go.Proofs.Ytoooapknoobkiaa.Pk Go.Proofs.Ytoooapknoobkiaa.Jo Go.Proofs.Ytoooapknoobkiaa.Sp Go.Proofs.Ytoooapknoobkiaa.Pl
set_option linter.unusedVariables false
set_option linter.unusedSimpArgs false

theorem mk_nat (n : Nat) (h1 : 1 ≤ n) (h : n ≤ 64) : mk (n : Int) = ((2 ^ n - 1 : Nat) : Int) := by unfold mk; rw [mask_eq n h1 h]; rfl
theorem pt_nat (x v : Nat) (hx : x < 2 ^ 64) (hv : v < 2 ^ 64) (a n : Nat) (h1 : 1 ≤ n) (h : a + n ≤ 64) : pt (x : Int) (a : Int) (n : Int) (v : Int) = ((putN x a n v : Nat) : Int) := by unfold pt; rw [put_eq x v hx hv a n h1 h]; rfl
theorem gt_nat (x : Nat) (hx : x < 2 ^ 64) (a n : Nat) (h1 : 1 ≤ n) (h : a + n ≤ 64) : gt (x : Int) (a : Int) (n : Int) = ((getN x a n : Nat) : Int) := by unfold gt; rw [get_eq x hx a n h1 h]; rfl
theorem put_add (x v a n : Nat) (hxa : x < 2 ^ a) (hv : v < 2 ^ n) (h : a + n ≤ 64) : putN x a n v = x + 2 ^ a * v := by
  have hx : x < 2 ^ 64 := Nat.lt_of_lt_of_le hxa (Nat.pow_le_pow_right (by decide) (by omega))
  rw [Nat.add_comm, Nat.two_pow_add_eq_or_of_lt hxa]
  have hlt : 2 ^ a * v ||| x < 2 ^ 64 := by
    rw [← Nat.two_pow_add_eq_or_of_lt hxa]
    have h1 : 2 ^ a * v + 2 ^ a ≤ 2 ^ a * 2 ^ n := by rw [← Nat.mul_succ]; exact Nat.mul_le_mul_left _ hv
    have h2 : 2 ^ a * 2 ^ n ≤ 2 ^ 64 := by rw [← Nat.pow_add]; exact Nat.pow_le_pow_right (by decide) h
    omega
  refine ext64 (put_lt hx h) hlt (fun j hj => ?_)
  rw [tb_put _ _ _ _ _ h hj, Nat.testBit_or, Nat.testBit_two_pow_mul]
  by_cases h1 : a ≤ j
  · by_cases h2 : j < a + n
    · rw [if_pos ⟨h1, h2⟩, bit_high hxa h1]; simp [h1]
    · rw [if_neg (fun e => h2 e.2), bit_high hxa h1, bit_high hv (by omega)]; simp
  · rw [if_neg (fun e => h1 e.1)]; simp [h1]
theorem join_word (r s q : Nat) (hr : r < 2 ^ 16) (hs : s < 2 ^ 8) (hq : q < 2 ^ 8) : joinR [16, 8, 8] [(r : Int), (s : Int), (q : Int)] = (wordV r s q, true) := by
  have f1 : fld 0 16 = true := by decide
  have f2 : fld (0 + 16) 8 = true := by decide
  have f3 : fld (0 + 16 + 8) 8 = true := by decide
  have m1 : mk 16 = 65535 := mk_nat 16 (by decide) (by decide)
  have m2 : mk 8 = 255 := mk_nat 8 (by decide) (by decide)
  have p1 : pt 0 0 16 (r : Int) = ((r : Nat) : Int) := by
    have := pt_nat 0 r (by decide) (by omega) 0 16 (by decide) (by decide)
    rw [put_add 0 r 0 16 (by decide) hr (by decide)] at this
    simpa using this
  have p2 : pt (r : Int) (0 + 16) 8 (s : Int) = ((r + 2 ^ 16 * s : Nat) : Int) := by
    have := pt_nat r s (by omega) (by omega) 16 8 (by decide) (by decide)
    rw [put_add r s 16 8 hr hs (by decide)] at this
    exact this
  have p3 : pt ((r + 2 ^ 16 * s : Nat) : Int) (0 + 16 + 8) 8 (q : Int) = ((r + 2 ^ 16 * s + 2 ^ 24 * q : Nat) : Int) := by
    have := pt_nat (r + 2 ^ 16 * s) q (by omega) (by omega) 24 8 (by decide) (by decide)
    rw [put_add (r + 2 ^ 16 * s) q 24 8 (by omega) hq (by decide)] at this
    exact this
  unfold joinR
  rw [if_pos (show [(r : Int), (s : Int), (q : Int)].length = ([16, 8, 8] : List Int).length from rfl)]
  simp only [joinL, List.getD_cons_zero, List.drop_succ_cons, List.drop_zero, f1, if_true, p1, f2, p2, f3, p3, m1, m2]
  rw [decide_eq_true (show (r : Int) ≤ 65535 by omega), decide_eq_true (show (s : Int) ≤ 255 by omega), decide_eq_true (show (q : Int) ≤ 255 by omega)]
  simp only [Bool.and_self, wordV]
  congr 1
  try omega
theorem split_word (x : Nat) (hx : x < 2 ^ 64) : splitR [16, 8, 8] (x : Int) = if x < 2 ^ 32 then ([((x % 65536 : Nat) : Int), ((x / 65536 % 256 : Nat) : Int), ((x / 16777216 % 256 : Nat) : Int)], true) else ([], false) := by
  have f1 : fld 0 16 = true := by decide
  have f2 : fld (0 + 16) 8 = true := by decide
  have f3 : fld (0 + 16 + 8) 8 = true := by decide
  have g1 : gt (x : Int) 0 16 = ((x % 65536 : Nat) : Int) := by
    have := gt_nat x hx 0 16 (by decide) (by decide)
    unfold getN at this
    rw [Nat.pow_zero, Nat.div_one] at this
    exact this
  have g2 : gt (x : Int) (0 + 16) 8 = ((x / 65536 % 256 : Nat) : Int) := gt_nat x hx 16 8 (by decide) (by decide)
  have g3 : gt (x : Int) (0 + 16 + 8) 8 = ((x / 16777216 % 256 : Nat) : Int) := gt_nat x hx 24 8 (by decide) (by decide)
  unfold splitR
  simp only [splitL, f1, f2, f3, if_true, g1, g2, g3, List.nil_append, List.cons_append]
  have e : (x : Int) / 2 ^ (0 + 16 + 8 + 8 : Int).toNat = ((x / 2 ^ 32 : Nat) : Int) := by
    show (x : Int) / 4294967296 = ((x / 4294967296 : Nat) : Int)
    omega
  rw [e]
  by_cases h : x < 2 ^ 32
  · rw [if_neg (fun hh => hh.2 (by rw [Nat.div_eq_of_lt h]; rfl)), if_pos h]
  · have hne : ((x / 2 ^ 32 : Nat) : Int) ≠ 0 := by omega
    rw [if_pos ⟨by decide, hne⟩, if_neg h]
/-- What is read from a word: the object, 0 or 11. -/
def readV (x kl : Int) : (Int × Int × Int) × Int :=
  if x = 0 then ((0, 0, 0), 0)
  else if x < 4294967296 ∧ mayO (x % 65536) (x / 65536 % 256) (x / 16777216 % 256) = true ∧ cls (x / 16777216 % 256) = kl then ((x % 65536, x / 65536 % 256, x / 16777216 % 256), 0)
  else ((0, 0, 0), 11)
theorem r_read (x : Int) (h0 : 0 ≤ x) (h1 : x < 18446744073709551616) (kl : Int) : PBlockWords.trencherref09_Read.f 10 x kl = some ((readV x kl).1.1, (readV x kl).1.2.1, (readV x kl).1.2.2, decide ((readV x kl).2 = 0)) := by
  have e1 : wrap64 (Int.tmod x 65536) = x % 65536 := by rw [Int.tmod_eq_emod_of_nonneg h0, w64 _ (by omega) (by omega)]
  have d1 : IntKind.u64.wrap (Int.tdiv x 65536) = x / 65536 := by rw [Int.tdiv_eq_ediv_of_nonneg h0, u64w (by omega) (by omega)]
  have d2 : IntKind.u64.wrap (Int.tdiv x 16777216) = x / 16777216 := by rw [Int.tdiv_eq_ediv_of_nonneg h0, u64w (by omega) (by omega)]
  have e2 : wrap64 (Int.tmod (x / 65536) 256) = x / 65536 % 256 := by rw [Int.tmod_eq_emod_of_nonneg (by omega), w64 _ (by omega) (by omega)]
  have e3 : wrap64 (Int.tmod (x / 16777216) 256) = x / 16777216 % 256 := by rw [Int.tmod_eq_emod_of_nonneg (by omega), w64 _ (by omega) (by omega)]
  unfold PBlockWords.trencherref09_Read.f readV
  by_cases hx : x = 0
  · rw [if_pos hx, if_pos hx]; rfl
  · rw [if_neg hx, if_neg hx]
    simp only [e1, d1, d2, e2, e3, r_mayO, Option.bind_some]
    by_cases hm : mayO (x % 65536) (x / 65536 % 256) (x / 16777216 % 256) = true
    · rw [if_pos hm, r_word hm]
      simp only [Option.bind_some]
      by_cases hw : x < 4294967296
      · rw [if_pos (by unfold wordV; omega), rcof _ (by omega)]
        simp only [Option.bind_some]
        by_cases hc : cls (x / 16777216 % 256) = kl
        · rw [if_pos hc, if_pos ⟨hw, hm, hc⟩]; rfl
        · rw [if_neg hc, if_neg (fun h => hc h.2.2)]; rfl
      · rw [if_neg (by unfold wordV; omega), if_neg (fun h => hw h.1)]; rfl
    · rw [if_neg hm, if_neg (fun h => hm h.2.1)]; rfl
end Go.Proofs.Ytoooapknoobkiaa.Bl
