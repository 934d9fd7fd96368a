/- Pack, plainly: fields of words as bits of natural numbers; the program's Get and Put, and the document's, tell them (no Go in it). -/
import Derived.Test.YtoooapknoobkiaaSp1
namespace Go.Proofs.Ytoooapknoobkiaa.Pl
open Go.RowKit Go.Proofs.YtoooapknoobkiaaW.PrintWords Go.Proofs.YtoooapknoobkiaaW.PrintMore Go.Proofs.Ytoooapknoobkiaa.Pk Go.Proofs.Ytoooapknoobkiaa.Jo

/-! ### Bits -/
theorem wraps_u64 (n : Int) (h₀ : 0 ≤ n) (h₁ : n < 2 ^ 64) : IntKind.u64.wrap n = n := by rw [IntKind.wrap_u64]; omega
theorem w64 (n : Int) (h0 : -9223372036854775808 ≤ n) (h1 : n ≤ 9223372036854775807) : wrap64 n = n := by unfold wrap64; omega
theorem u64_nat (n : Nat) (h : n < 2 ^ 64) : IntKind.u64.wrap (n : Int) = (n : Int) := wraps_u64 _ (Int.natCast_nonneg _) (by exact_mod_cast h)
theorem or_u64 (a b : Nat) (ha : a < 2 ^ 64) (hb : b < 2 ^ 64) : bits .or .u64 (a : Int) (b : Int) = ((a ||| b : Nat) : Int) := (bits_nat .u64 64 (by decide) wraps_u64 a b ha hb).2
theorem and_u64 (a b : Nat) (ha : a < 2 ^ 64) (hb : b < 2 ^ 64) : bits .and .u64 (a : Int) (b : Int) = ((a &&& b : Nat) : Int) := (bits_nat .u64 64 (by decide) wraps_u64 a b ha hb).1
theorem andNot_u64 (a b : Nat) (ha : a < 2 ^ 64) (hb : b < 2 ^ 64) : bits .andNot .u64 (a : Int) (b : Int) = ((a &&& (2 ^ 64 - 1 - b) : Nat) : Int) := by
  have h1 : a % 2 ^ 64 = a := Nat.mod_eq_of_lt ha
  have h2 : b % 2 ^ 64 = b := Nat.mod_eq_of_lt hb
  have hbits : IntKind.u64.bits = 64 := rfl
  simp only [bits, hbits, BitVec.ofInt_natCast, BitVec.toNat_and, BitVec.toNat_not, BitVec.toNat_ofNat, h1, h2]
  exact u64_nat _ (Nat.lt_of_le_of_lt Nat.and_le_left ha)
theorem shl_u64 (x n : Nat) (hn : n ≤ 64) : shl .u64 (x : Int) (n : Int) = ((x * 2 ^ n % 2 ^ 64 : Nat) : Int) := by
  unfold shl
  rw [Int.toNat_natCast, show IntKind.u64.bits = 64 from rfl, Nat.min_eq_left hn, IntKind.wrap_u64]
  have : (x : Int) * 2 ^ n = ((x * 2 ^ n : Nat) : Int) := by rw [Int.natCast_mul, Int.natCast_pow]; rfl
  rw [this]
  rfl
theorem shr_u64 (x n : Nat) (hn : n ≤ 64) : shr .u64 (x : Int) (n : Int) = ((x / 2 ^ n : Nat) : Int) := by
  unfold shr
  rw [Int.toNat_natCast, show IntKind.u64.bits = 64 from rfl, Nat.min_eq_left hn, Int.natCast_ediv, Int.natCast_pow]
  rfl

theorem lt_of_bits {x n : Nat} (h : ∀ j, n ≤ j → x.testBit j = false) : x < 2 ^ n := Nat.lt_pow_two_of_testBit x h
theorem bit_high {x n j : Nat} (h : x < 2 ^ n) (hj : n ≤ j) : x.testBit j = false := Nat.testBit_lt_two_pow (Nat.lt_of_lt_of_le h (Nat.pow_le_pow_right (by decide) hj))
theorem ext64 {x y : Nat} (hx : x < 2 ^ 64) (hy : y < 2 ^ 64) (h : ∀ j, j < 64 → x.testBit j = y.testBit j) : x = y := by
  apply Nat.eq_of_testBit_eq
  intro j
  by_cases hj : j < 64
  · exact h j hj
  · rw [bit_high hx (by omega), bit_high hy (by omega)]
theorem add_bit {x i : Nat} (h : x.testBit i = false) : x + 2 ^ i = x ||| 2 ^ i := by
  have hr : x % 2 ^ (i + 1) < 2 ^ i := lt_of_bits (fun j hj => by
    rw [Nat.testBit_mod_two_pow]
    by_cases e : j = i
    · subst e; simp [h]
    · have : ¬ j < i + 1 := by omega
      simp [this])
  have hx : x = 2 ^ (i + 1) * (x / 2 ^ (i + 1)) + x % 2 ^ (i + 1) := (Nat.div_add_mod x (2 ^ (i + 1))).symm
  generalize x % 2 ^ (i + 1) = r at *
  generalize x / 2 ^ (i + 1) = q at *
  have hp : 2 ^ (i + 1) = 2 * 2 ^ i := by rw [Nat.pow_succ, Nat.mul_comm]
  have hlt : 2 ^ i * 1 + r < 2 ^ (i + 1) := by omega
  have hs : x + 2 ^ i = 2 ^ (i + 1) * q + (2 ^ i * 1 + r) := by omega
  apply Nat.eq_of_testBit_eq
  intro j
  rw [hs, Nat.testBit_two_pow_mul_add _ hlt, Nat.testBit_two_pow_mul_add _ hr, Nat.testBit_or, Nat.testBit_two_pow, hx, Nat.testBit_two_pow_mul_add _ (by omega : r < 2 ^ (i + 1))]
  by_cases h1 : j < i + 1
  · rw [if_pos h1, if_pos h1]
    by_cases h2 : j < i
    · rw [if_pos h2]
      have : ¬ i = j := by omega
      simp [this]
    · have : j = i := by omega
      subst this
      rw [if_neg h2]
      simp
  · rw [if_neg h1, if_neg h1]
    have : ¬ i = j := by omega
    simp [this]

/-- A number's bit in a set. -/
def getN (x a n : Nat) : Nat := x / 2 ^ a % 2 ^ n
theorem tb_get (x a n j : Nat) : (getN x a n).testBit j = (decide (j < n) && x.testBit (j + a)) := by unfold getN; rw [Nat.testBit_mod_two_pow, Nat.testBit_div_two_pow]
theorem get_lt (x a n : Nat) (hn : n ≤ 64) : getN x a n < 2 ^ 64 := Nat.lt_of_lt_of_le (Nat.mod_lt _ (Nat.two_pow_pos n)) (Nat.pow_le_pow_right (by decide) hn)
/-- A word with another number in a field. -/
def putN (x a n v : Nat) : Nat := (x &&& (2 ^ 64 - 1 - (2 ^ n - 1) * 2 ^ a)) ||| (v % 2 ^ n) * 2 ^ a
theorem tb_mask (a n j : Nat) : ((2 ^ n - 1) * 2 ^ a).testBit j = (decide (a ≤ j) && decide (j < a + n)) := by
  rw [Nat.testBit_mul_two_pow, Nat.testBit_two_pow_sub_one]
  by_cases h : a ≤ j
  · have : (j - a < n) ↔ (j < a + n) := by omega
    simp only [this]
  · simp [h]
theorem mask_lt (a n : Nat) (h : a + n ≤ 64) : (2 ^ n - 1) * 2 ^ a < 2 ^ 64 := lt_of_bits (fun j hj => by
  rw [tb_mask]
  have : ¬ j < a + n := by omega
  simp [this])
theorem tb_put (x a n v j : Nat) (h : a + n ≤ 64) (hj : j < 64) : (putN x a n v).testBit j = if a ≤ j ∧ j < a + n then v.testBit (j - a) else x.testBit j := by
  have hc : (2 ^ 64 - 1 - (2 ^ n - 1) * 2 ^ a).testBit j = !(decide (a ≤ j) && decide (j < a + n)) := by
    rw [Nat.sub_sub, Nat.add_comm 1, Nat.testBit_two_pow_sub_succ (mask_lt a n h), tb_mask]
    simp [hj]
  unfold putN
  rw [Nat.testBit_or, Nat.testBit_and, hc, Nat.testBit_mul_two_pow, Nat.testBit_mod_two_pow]
  by_cases h1 : a ≤ j
  · by_cases h2 : j < a + n
    · rw [if_pos ⟨h1, h2⟩]
      have : j - a < n := by omega
      simp [h1, h2, this]
    · rw [if_neg (fun c => h2 c.2)]
      have : ¬ j - a < n := by omega
      simp [h1, h2, this]
  · rw [if_neg (fun c => h1 c.1)]
    simp [h1]
theorem put_lt {x a n v : Nat} (hx : x < 2 ^ 64) (h : a + n ≤ 64) : putN x a n v < 2 ^ 64 := by
  unfold putN
  apply Nat.or_lt_two_pow
  · exact Nat.lt_of_le_of_lt Nat.and_le_left hx
  · have h1 : v % 2 ^ n < 2 ^ n := Nat.mod_lt _ (Nat.two_pow_pos n)
    have h2 : (v % 2 ^ n) * 2 ^ a < 2 ^ n * 2 ^ a := Nat.mul_lt_mul_of_pos_right h1 (Nat.two_pow_pos a)
    rw [← Nat.pow_add] at h2
    exact Nat.lt_of_lt_of_le h2 (Nat.pow_le_pow_right (by decide) (by omega))

/-! ### The program's fields -/
theorem fld_nat {a n : Int} (h : fld a n = true) : ∃ a' n' : Nat, a = a' ∧ n = n' ∧ 1 ≤ n' ∧ a' + n' ≤ 64 := by
  have := fld_range h
  exact ⟨a.toNat, n.toNat, by omega, by omega, by omega, by omega⟩
theorem fld_of (a n : Nat) (h1 : 1 ≤ n) (h : a + n ≤ 64) : fld (a : Int) (n : Int) = true := by
  unfold fld
  rw [decide_eq_true]
  omega
theorem mask_eq (n : Nat) (h1 : 1 ≤ n) (h : n ≤ 64) : pack_mask.f (n : Int) = some ((2 ^ n - 1 : Nat) : Int) := by
  unfold pack_mask.f
  rw [w64 _ (by omega) (by omega), if_pos (by omega)]
  have e : (64 : Int) - (n : Int) = ((64 - n : Nat) : Int) := by omega
  rw [e, show (18446744073709551615 : Int) = ((18446744073709551615 : Nat) : Int) from rfl, shr_u64 _ _ (by omega)]
  congr 2
  have hp : 2 ^ 64 = 2 ^ (64 - n) * 2 ^ n := by rw [← Nat.pow_add]; congr 1; omega
  have hpos := Nat.two_pow_pos (64 - n)
  have hpn := Nat.two_pow_pos n
  apply Nat.div_eq_of_lt_le
  · have : (2 ^ n - 1) * 2 ^ (64 - n) + 2 ^ (64 - n) = 2 ^ 64 := by
      rw [← Nat.succ_mul, Nat.succ_eq_add_one, Nat.sub_add_cancel hpn, Nat.mul_comm, ← hp]
    omega
  · have : (2 ^ n - 1 + 1) * 2 ^ (64 - n) = 2 ^ 64 := by rw [Nat.sub_add_cancel hpn, Nat.mul_comm, ← hp]
    omega
theorem field_some (a n : Int) : pack_field.f a n = some (fld a n) ∨ (pack_field.f a n = some false ∧ fld a n = false) := by
  by_cases h : -9223372036854775808 ≤ n ∧ n ≤ 9223372036854775807
  · exact .inl (fld_eq a n h.1 h.2)
  · right
    unfold pack_field.f fld
    by_cases h1 : n ≥ 1
    · rw [if_pos h1, if_neg (by omega)]
      exact ⟨rfl, decide_eq_false (by omega)⟩
    · rw [if_neg h1]
      exact ⟨rfl, decide_eq_false (by omega)⟩
theorem field_f (a n : Int) : pack_field.f a n = some (fld a n) := by
  rcases field_some a n with h | ⟨h, h2⟩
  · exact h
  · rw [h, h2]
theorem put_eq (x v : Nat) (hx : x < 2 ^ 64) (hv : v < 2 ^ 64) (a n : Nat) (h1 : 1 ≤ n) (h : a + n ≤ 64) : pack_Put.f (x : Int) (a : Int) (n : Int) (v : Int) = some ((putN x a n v : Nat) : Int) := by
  unfold pack_Put.f
  rw [field_f, fld_of a n h1 h]
  simp only [Option.bind_some, if_true]
  rw [mask_eq n h1 (by omega)]
  simp only [Option.bind_some]
  rw [if_pos (by omega)]
  have hm : 2 ^ n - 1 < 2 ^ 64 := Nat.lt_of_lt_of_le (Nat.sub_lt (Nat.two_pow_pos n) (by decide)) (Nat.pow_le_pow_right (by decide) (by omega))
  have hml := mask_lt a n h
  rw [shl_u64 _ _ (by omega), Nat.mod_eq_of_lt hml, andNot_u64 x _ hx hml, and_u64 v _ hv hm, Nat.and_two_pow_sub_one_eq_mod, shl_u64 _ _ (by omega)]
  have h2 : (v % 2 ^ n) * 2 ^ a < 2 ^ 64 := by
    have h1 : v % 2 ^ n < 2 ^ n := Nat.mod_lt _ (Nat.two_pow_pos n)
    have h2 : (v % 2 ^ n) * 2 ^ a < 2 ^ n * 2 ^ a := Nat.mul_lt_mul_of_pos_right h1 (Nat.two_pow_pos a)
    rw [← Nat.pow_add] at h2
    exact Nat.lt_of_lt_of_le h2 (Nat.pow_le_pow_right (by decide) (by omega))
  rw [Nat.mod_eq_of_lt h2, or_u64 _ _ (Nat.lt_of_le_of_lt Nat.and_le_left hx) h2]
  rfl
theorem put_no (x v a n : Int) (h : fld a n = false) : pack_Put.f x a n v = some x := by
  unfold pack_Put.f
  rw [field_f, h]
  rfl
theorem get_eq (x : Nat) (hx : x < 2 ^ 64) (a n : Nat) (h1 : 1 ≤ n) (h : a + n ≤ 64) : pack_Get.f (x : Int) (a : Int) (n : Int) = some ((getN x a n : Nat) : Int) := by
  unfold pack_Get.f
  rw [field_f, fld_of a n h1 h]
  simp only [Option.bind_some, if_true]
  rw [if_pos (by omega), mask_eq n h1 (by omega)]
  simp only [Option.bind_some]
  have hm : 2 ^ n - 1 < 2 ^ 64 := Nat.lt_of_lt_of_le (Nat.sub_lt (Nat.two_pow_pos n) (by decide)) (Nat.pow_le_pow_right (by decide) (by omega))
  rw [shr_u64 _ _ (by omega), and_u64 _ _ (Nat.lt_of_le_of_lt (Nat.div_le_self _ _) hx) hm, Nat.and_two_pow_sub_one_eq_mod]
  rfl
theorem get_no (x a n : Int) (h : fld a n = false) : pack_Get.f x a n = some 0 := by
  unfold pack_Get.f
  rw [field_f, h]
  rfl

end Go.Proofs.Ytoooapknoobkiaa.Pl
