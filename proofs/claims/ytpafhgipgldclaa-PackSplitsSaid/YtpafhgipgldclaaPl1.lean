/- Pack, plainly: fields of words as bits of natural numbers; the program's Get and Put, and the document's, tell them (no Go in it). -/
import Derived.Test.YtpafhgipgldclaaJo2
namespace Go.Proofs.Ytpafhgipgldclaa.Pl
open Go.RowKit Go.Proofs.YtpafhgipgldclaaW.PrintWords Go.Proofs.YtpafhgipgldclaaW.PrintMore Go.Proofs.Ytpafhgipgldclaa.Pk Go.Proofs.Ytpafhgipgldclaa.Jo

/-! ### Bits -/
theorem wraps_u64 (n : Int) (h₀ : 0 ≤ n) (h₁ : n < 2 ^ 64) : IntKind.u64.wrap n = n := by rw [IntKind.wrap_u64]; omega
theorem w64 (n : Int) (h0 : -9223372036854775808 ≤ n) (h1 : n ≤ 9223372036854775807) : wrap64 n = n := by unfold wrap64; omega
theorem u64_nat (n : Nat) (h : n < 2 ^ 64) : IntKind.u64.wrap (n : Int) = (n : Int) := wraps_u64 _ (Int.natCast_nonneg _) (by exact_mod_cast h)
theorem or_u64 (a b : Nat) (ha : a < 2 ^ 64) (hb : b < 2 ^ 64) : bits .or .u64 (a : Int) (b : Int) = ((a ||| b : Nat) : Int) := (bits_nat .u64 64 (by decide) wraps_u64 a b ha hb).2
theorem and_u64 (a b : Nat) (ha : a < 2 ^ 64) (hb : b < 2 ^ 64) : bits .and .u64 (a : Int) (b : Int) = ((a &&& b : Nat) : Int) := (bits_nat .u64 64 (by decide) wraps_u64 a b ha hb).1
theorem andNot_u64 (a b : Nat) (ha : a < 2 ^ 64) (hb : b < 2 ^ 64) : bits .andNot .u64 (a : Int) (b : Int) = ((a &&& (2 ^ 64 - 1 - b) : Nat) : Int) := by
  have h1 : a % 2 ^ 64 = a := Nat.mod_eq_of_lt ha
  have h2 : b % 2 ^ 64 = b := Nat.mod_eq_of_lt hb
  have hbits : IntKind.u64.bits = 64 := rfl
  simp only [bits, hbits, BitVec.ofInt_natCast, BitVec.toNat_and, BitVec.toNat_not, BitVec.toNat_ofNat, h1, h2]
  exact u64_nat _ (Nat.lt_of_le_of_lt Nat.and_le_left ha)
theorem shl_u64 (x n : Nat) (hn : n ≤ 64) : shl .u64 (x : Int) (n : Int) = ((x * 2 ^ n % 2 ^ 64 : Nat) : Int) := by
  unfold shl
  rw [Int.toNat_natCast, show IntKind.u64.bits = 64 from rfl, Nat.min_eq_left hn, IntKind.wrap_u64]
  have : (x : Int) * 2 ^ n = ((x * 2 ^ n : Nat) : Int) := by rw [Int.natCast_mul, Int.natCast_pow]; rfl
  rw [this]
  rfl
theorem shr_u64 (x n : Nat) (hn : n ≤ 64) : shr .u64 (x : Int) (n : Int) = ((x / 2 ^ n : Nat) : Int) := by
  unfold shr
  rw [Int.toNat_natCast, show IntKind.u64.bits = 64 from rfl, Nat.min_eq_left hn, Int.natCast_ediv, Int.natCast_pow]
  rfl

theorem lt_of_bits {x n : Nat} (h : ∀ j, n ≤ j → x.testBit j = false) : x < 2 ^ n := Nat.lt_pow_two_of_testBit x h
theorem bit_high {x n j : Nat} (h : x < 2 ^ n) (hj : n ≤ j) : x.testBit j = false := Nat.testBit_lt_two_pow (Nat.lt_of_lt_of_le h (Nat.pow_le_pow_right (by decide) hj))
theorem ext64 {x y : Nat} (hx : x < 2 ^ 64) (hy : y < 2 ^ 64) (h : ∀ j, j < 64 → x.testBit j = y.testBit j) : x = y := by
  apply Nat.eq_of_testBit_eq
  intro j
  by_cases hj : j < 64
  · exact h j hj
  · rw [bit_high hx (by omega), bit_high hy (by omega)]
theorem add_bit {x i : Nat} (h : x.testBit i = false) : x + 2 ^ i = x ||| 2 ^ i := by
  have hr : x % 2 ^ (i + 1) < 2 ^ i := lt_of_bits (fun j hj => by
    rw [Nat.testBit_mod_two_pow]
    by_cases e : j = i
    · subst e; simp [h]
    · have : ¬ j < i + 1 := by omega
      simp [this])
  have hx : x = 2 ^ (i + 1) * (x / 2 ^ (i + 1)) + x % 2 ^ (i + 1) := (Nat.div_add_mod x (2 ^ (i + 1))).symm
  generalize x % 2 ^ (i + 1) = r at *
  generalize x / 2 ^ (i + 1) = q at *
  have hp : 2 ^ (i + 1) = 2 * 2 ^ i := by rw [Nat.pow_succ, Nat.mul_comm]
  have hlt : 2 ^ i * 1 + r < 2 ^ (i + 1) := by omega
  have hs : x + 2 ^ i = 2 ^ (i + 1) * q + (2 ^ i * 1 + r) := by omega
  apply Nat.eq_of_testBit_eq
  intro j
  rw [hs, Nat.testBit_two_pow_mul_add _ hlt, Nat.testBit_two_pow_mul_add _ hr, Nat.testBit_or, Nat.testBit_two_pow, hx, Nat.testBit_two_pow_mul_add _ (by omega : r < 2 ^ (i + 1))]
  by_cases h1 : j < i + 1
  · rw [if_pos h1, if_pos h1]
    by_cases h2 : j < i
    · rw [if_pos h2]
      have : ¬ i = j := by omega
      simp [this]
    · have : j = i := by omega
      subst this
      rw [if_neg h2]
      simp
  · rw [if_neg h1, if_neg h1]
    have : ¬ i = j := by omega
    simp [this]

/-- A number's bit in a set. -/
def hasN (x : Nat) (i : Int) : Bool := decide (0 ≤ i ∧ i ≤ 63) && x.testBit i.toNat
def withN (x i : Nat) : Nat := x ||| 2 ^ i
def withoutN (x i : Nat) : Nat := if x.testBit i = true then x ^^^ 2 ^ i else x
theorem tb_with (x i j : Nat) : (withN x i).testBit j = (x.testBit j || decide (i = j)) := by unfold withN; rw [Nat.testBit_or, Nat.testBit_two_pow]
theorem tb_without (x i j : Nat) : (withoutN x i).testBit j = (x.testBit j && !decide (i = j)) := by
  unfold withoutN
  by_cases h : x.testBit i = true
  · rw [if_pos h, Nat.testBit_xor, Nat.testBit_two_pow]
    by_cases e : i = j
    · subst e; simp [h]
    · simp [e]
  · rw [if_neg h]
    by_cases e : i = j
    · subst e; simp [h]
    · simp [e]
theorem with_lt {x i : Nat} (hx : x < 2 ^ 64) (hi : i < 64) : withN x i < 2 ^ 64 := lt_of_bits (fun j hj => by
  have : ¬ i = j := by omega
  rw [tb_with, bit_high hx hj]; simp [this])
theorem without_lt {x i : Nat} (hx : x < 2 ^ 64) : withoutN x i < 2 ^ 64 := lt_of_bits (fun j hj => by rw [tb_without, bit_high hx hj]; simp)
theorem without_sub {x i : Nat} (h : x.testBit i = true) : x - 2 ^ i = withoutN x i := by
  have h1 : (withoutN x i).testBit i = false := by rw [tb_without]; simp
  have h2 := add_bit h1
  have h3 : withoutN x i ||| 2 ^ i = x := by
    apply Nat.eq_of_testBit_eq
    intro j
    rw [Nat.testBit_or, tb_without, Nat.testBit_two_pow]
    by_cases e : i = j
    · subst e; simp [h]
    · simp [e]
  omega

/-! ### The document's sets -/
theorem div2 (x d : Nat) : x / 2 ^ d / 2 = x / 2 ^ (d + 1) := by rw [Nat.div_div_eq_div_mul, Nat.pow_succ]
theorem has_loop (x : Nat) (hx : x < 2 ^ 64) (i : Nat) (hi : i ≤ 63) (d : Nat) : ∀ (k q : Nat), q + d = i → d < k →
    trencherref01_Has.l0 k ((x / 2 ^ q : Nat) : Int) (i : Int) (q : Int) = some (x.testBit i) := by
  induction d with
  | zero =>
    intro k q h hk
    obtain ⟨k, rfl⟩ : ∃ m, k = m + 1 := ⟨k - 1, by omega⟩
    obtain rfl : q = i := by omega
    rw [trencherref01_Has.l0, if_neg (by omega), Int.tmod_eq_emod_of_nonneg (Int.natCast_nonneg _)]
    congr 1
    rw [Nat.testBit_eq_decide_div_mod_eq]
    have : (((x / 2 ^ q : Nat) : Int) % 2) = ((x / 2 ^ q % 2 : Nat) : Int) := rfl
    rw [this, Bool.eq_iff_iff]
    simp only [beq_iff_eq, decide_eq_true_eq]
    omega
  | succ d ih =>
    intro k q h hk
    obtain ⟨k, rfl⟩ : ∃ m, k = m + 1 := ⟨k - 1, by omega⟩
    have hlt : x / 2 ^ (q + 1) < 2 ^ 64 := Nat.lt_of_le_of_lt (Nat.div_le_self _ _) hx
    have e : IntKind.u64.wrap (Int.tdiv ((x / 2 ^ q : Nat) : Int) 2) = ((x / 2 ^ (q + 1) : Nat) : Int) := by
      rw [Int.tdiv_eq_ediv_of_nonneg (Int.natCast_nonneg _), ← div2]
      rw [← div2] at hlt
      exact u64_nat _ hlt
    rw [trencherref01_Has.l0, if_pos (by omega), e, w64 _ (by omega) (by omega), show (q : Int) + 1 = ((q + 1 : Nat) : Int) from rfl]
    exact ih k (q + 1) (by omega) (by omega)
theorem has_eq (x : Nat) (hx : x < 2 ^ 64) (i : Int) (k : Nat) (hk : 70 ≤ k) : trencherref01_Has.f k (x : Int) i = some (hasN x i) := by
  obtain ⟨k, rfl⟩ : ∃ m, k = m + 1 := ⟨k - 1, by omega⟩
  unfold trencherref01_Has.f hasN
  by_cases h0 : i < 0
  · rw [if_pos h0, trencherref01_Has.j0, if_pos rfl]
    have : ¬ (0 ≤ i ∧ i ≤ 63) := by omega
    simp [this]
  · rw [if_neg h0]
    by_cases h1 : i > 63
    · rw [decide_eq_true h1, trencherref01_Has.j0, if_pos rfl]
      have : ¬ (0 ≤ i ∧ i ≤ 63) := by omega
      simp [this]
    · rw [decide_eq_false h1, trencherref01_Has.j0, if_neg (by decide)]
      obtain ⟨i, rfl⟩ := Int.eq_ofNat_of_zero_le (show 0 ≤ i by omega)
      have := has_loop x hx i (by omega) i k 0 (by omega) (by omega)
      rw [Nat.pow_zero, Nat.div_one] at this
      refine Eq.trans this ?_
      have h2 : (0 : Int) ≤ (i : Int) ∧ (i : Int) ≤ 63 := by omega
      simp only [Int.toNat_natCast]
      rw [decide_eq_true h2, Bool.true_and]
theorem bit_loop (i : Nat) (hi : i ≤ 63) (d : Nat) : ∀ (k q : Nat), q + d = i → d < k → trencherref01_Bit.l0 k (i : Int) ((2 ^ q : Nat) : Int) (q : Int) = some ((2 ^ i : Nat) : Int) := by
  induction d with
  | zero =>
    intro k q h hk
    obtain ⟨k, rfl⟩ : ∃ m, k = m + 1 := ⟨k - 1, by omega⟩
    obtain rfl : q = i := by omega
    rw [trencherref01_Bit.l0, if_neg (by omega)]
  | succ d ih =>
    intro k q h hk
    obtain ⟨k, rfl⟩ : ∃ m, k = m + 1 := ⟨k - 1, by omega⟩
    have hp : 2 ^ (q + 1) ≤ 2 ^ 63 := Nat.pow_le_pow_right (by decide) (by omega)
    have e : IntKind.u64.wrap (((2 ^ q : Nat) : Int) * 2) = ((2 ^ (q + 1) : Nat) : Int) := by
      rw [show ((2 ^ q : Nat) : Int) * 2 = ((2 ^ (q + 1) : Nat) : Int) from by rw [Nat.pow_succ, Int.natCast_mul]; rfl]
      exact u64_nat _ (by omega)
    rw [trencherref01_Bit.l0, if_pos (by omega), e, w64 _ (by omega) (by omega), show (q : Int) + 1 = ((q + 1 : Nat) : Int) from rfl]
    exact ih k (q + 1) (by omega) (by omega)
theorem bit_eq (i : Nat) (hi : i ≤ 63) (k : Nat) (hk : 70 ≤ k) : trencherref01_Bit.f k (i : Int) = some ((2 ^ i : Nat) : Int) := bit_loop i hi i k 0 (by omega) (by omega)
theorem has_nat (x i : Nat) (hi : i ≤ 63) : hasN x (i : Int) = x.testBit i := by
  unfold hasN
  have h2 : (0 : Int) ≤ (i : Int) ∧ (i : Int) ≤ 63 := by omega
  rw [decide_eq_true h2, Bool.true_and, Int.toNat_natCast]
theorem with_eq (x : Nat) (hx : x < 2 ^ 64) (i : Nat) (hi : i ≤ 63) (k : Nat) (hk : 70 ≤ k) : trencherref01_With.f k (x : Int) (i : Int) = some ((withN x i : Nat) : Int) := by
  unfold trencherref01_With.f
  rw [if_neg (by omega), if_neg (by omega), has_eq x hx _ k hk, has_nat x i hi]
  simp only [Option.bind_some]
  by_cases h : x.testBit i = true
  · rw [if_pos h]
    congr 2
    apply Nat.eq_of_testBit_eq
    intro j
    rw [tb_with]
    by_cases e : i = j
    · subst e; simp [h]
    · simp [e]
  · rw [if_neg h, bit_eq i hi k hk]
    simp only [Option.bind_some]
    have h' : x.testBit i = false := by simpa using h
    have : (x : Int) + ((2 ^ i : Nat) : Int) = ((withN x i : Nat) : Int) := by unfold withN; rw [← add_bit h', Int.natCast_add]
    rw [this, u64_nat _ (with_lt hx (by omega))]
theorem without_eq (x : Nat) (hx : x < 2 ^ 64) (i : Nat) (hi : i ≤ 63) (k : Nat) (hk : 70 ≤ k) : trencherref01_Without.f k (x : Int) (i : Int) = some ((withoutN x i : Nat) : Int) := by
  unfold trencherref01_Without.f
  rw [has_eq x hx _ k hk, has_nat x i hi]
  simp only [Option.bind_some]
  by_cases h : x.testBit i = true
  · rw [if_pos h, bit_eq i hi k hk]
    simp only [Option.bind_some]
    have hle : 2 ^ i ≤ x := Nat.ge_two_pow_of_testBit h
    have : (x : Int) - ((2 ^ i : Nat) : Int) = ((withoutN x i : Nat) : Int) := by rw [← without_sub h]; omega
    rw [this, u64_nat _ (without_lt hx)]
  · rw [if_neg h]
    unfold withoutN
    rw [if_neg h]

/-! ### Fields -/
def getN (x a n : Nat) : Nat := x / 2 ^ a % 2 ^ n
theorem tb_get (x a n j : Nat) : (getN x a n).testBit j = (decide (j < n) && x.testBit (j + a)) := by unfold getN; rw [Nat.testBit_mod_two_pow, Nat.testBit_div_two_pow]
theorem get_lt (x a n : Nat) (hn : n ≤ 64) : getN x a n < 2 ^ 64 := Nat.lt_of_lt_of_le (Nat.mod_lt _ (Nat.two_pow_pos n)) (Nat.pow_le_pow_right (by decide) hn)
/-- A word with another number in a field. -/
def putN (x a n v : Nat) : Nat := (x &&& (2 ^ 64 - 1 - (2 ^ n - 1) * 2 ^ a)) ||| (v % 2 ^ n) * 2 ^ a
theorem tb_mask (a n j : Nat) : ((2 ^ n - 1) * 2 ^ a).testBit j = (decide (a ≤ j) && decide (j < a + n)) := by
  rw [Nat.testBit_mul_two_pow, Nat.testBit_two_pow_sub_one]
  by_cases h : a ≤ j
  · have : (j - a < n) ↔ (j < a + n) := by omega
    simp only [this]
  · simp [h]
theorem mask_lt (a n : Nat) (h : a + n ≤ 64) : (2 ^ n - 1) * 2 ^ a < 2 ^ 64 := lt_of_bits (fun j hj => by
  rw [tb_mask]
  have : ¬ j < a + n := by omega
  simp [this])
theorem tb_put (x a n v j : Nat) (h : a + n ≤ 64) (hj : j < 64) : (putN x a n v).testBit j = if a ≤ j ∧ j < a + n then v.testBit (j - a) else x.testBit j := by
  have hc : (2 ^ 64 - 1 - (2 ^ n - 1) * 2 ^ a).testBit j = !(decide (a ≤ j) && decide (j < a + n)) := by
    rw [Nat.sub_sub, Nat.add_comm 1, Nat.testBit_two_pow_sub_succ (mask_lt a n h), tb_mask]
    simp [hj]
  unfold putN
  rw [Nat.testBit_or, Nat.testBit_and, hc, Nat.testBit_mul_two_pow, Nat.testBit_mod_two_pow]
  by_cases h1 : a ≤ j
  · by_cases h2 : j < a + n
    · rw [if_pos ⟨h1, h2⟩]
      have : j - a < n := by omega
      simp [h1, h2, this]
    · rw [if_neg (fun c => h2 c.2)]
      have : ¬ j - a < n := by omega
      simp [h1, h2, this]
  · rw [if_neg (fun c => h1 c.1)]
    simp [h1]
theorem put_lt {x a n v : Nat} (hx : x < 2 ^ 64) (h : a + n ≤ 64) : putN x a n v < 2 ^ 64 := by
  unfold putN
  apply Nat.or_lt_two_pow
  · exact Nat.lt_of_le_of_lt Nat.and_le_left hx
  · have h1 : v % 2 ^ n < 2 ^ n := Nat.mod_lt _ (Nat.two_pow_pos n)
    have h2 : (v % 2 ^ n) * 2 ^ a < 2 ^ n * 2 ^ a := Nat.mul_lt_mul_of_pos_right h1 (Nat.two_pow_pos a)
    rw [← Nat.pow_add] at h2
    exact Nat.lt_of_lt_of_le h2 (Nat.pow_le_pow_right (by decide) (by omega))

/-! ### The program's fields -/
theorem fld_nat {a n : Int} (h : fld a n = true) : ∃ a' n' : Nat, a = a' ∧ n = n' ∧ 1 ≤ n' ∧ a' + n' ≤ 64 := by
  have := fld_range h
  exact ⟨a.toNat, n.toNat, by omega, by omega, by omega, by omega⟩
theorem fld_of (a n : Nat) (h1 : 1 ≤ n) (h : a + n ≤ 64) : fld (a : Int) (n : Int) = true := by
  unfold fld
  rw [decide_eq_true]
  omega
theorem mask_eq (n : Nat) (h1 : 1 ≤ n) (h : n ≤ 64) : pack_mask.f (n : Int) = some ((2 ^ n - 1 : Nat) : Int) := by
  unfold pack_mask.f
  rw [w64 _ (by omega) (by omega), if_pos (by omega)]
  have e : (64 : Int) - (n : Int) = ((64 - n : Nat) : Int) := by omega
  rw [e, show (18446744073709551615 : Int) = ((18446744073709551615 : Nat) : Int) from rfl, shr_u64 _ _ (by omega)]
  congr 2
  have hp : 2 ^ 64 = 2 ^ (64 - n) * 2 ^ n := by rw [← Nat.pow_add]; congr 1; omega
  have hpos := Nat.two_pow_pos (64 - n)
  have hpn := Nat.two_pow_pos n
  apply Nat.div_eq_of_lt_le
  · have : (2 ^ n - 1) * 2 ^ (64 - n) + 2 ^ (64 - n) = 2 ^ 64 := by
      rw [← Nat.succ_mul, Nat.succ_eq_add_one, Nat.sub_add_cancel hpn, Nat.mul_comm, ← hp]
    omega
  · have : (2 ^ n - 1 + 1) * 2 ^ (64 - n) = 2 ^ 64 := by rw [Nat.sub_add_cancel hpn, Nat.mul_comm, ← hp]
    omega
theorem field_some (a n : Int) : pack_field.f a n = some (fld a n) ∨ (pack_field.f a n = some false ∧ fld a n = false) := by
  by_cases h : -9223372036854775808 ≤ n ∧ n ≤ 9223372036854775807
  · exact .inl (fld_eq a n h.1 h.2)
  · right
    unfold pack_field.f fld
    by_cases h1 : n ≥ 1
    · rw [if_pos h1, if_neg (by omega)]
      exact ⟨rfl, decide_eq_false (by omega)⟩
    · rw [if_neg h1]
      exact ⟨rfl, decide_eq_false (by omega)⟩
theorem field_f (a n : Int) : pack_field.f a n = some (fld a n) := by
  rcases field_some a n with h | ⟨h, h2⟩
  · exact h
  · rw [h, h2]
theorem put_eq (x v : Nat) (hx : x < 2 ^ 64) (hv : v < 2 ^ 64) (a n : Nat) (h1 : 1 ≤ n) (h : a + n ≤ 64) : pack_Put.f (x : Int) (a : Int) (n : Int) (v : Int) = some ((putN x a n v : Nat) : Int) := by
  unfold pack_Put.f
  rw [field_f, fld_of a n h1 h]
  simp only [Option.bind_some, if_true]
  rw [mask_eq n h1 (by omega)]
  simp only [Option.bind_some]
  rw [if_pos (by omega)]
  have hm : 2 ^ n - 1 < 2 ^ 64 := Nat.lt_of_lt_of_le (Nat.sub_lt (Nat.two_pow_pos n) (by decide)) (Nat.pow_le_pow_right (by decide) (by omega))
  have hml := mask_lt a n h
  rw [shl_u64 _ _ (by omega), Nat.mod_eq_of_lt hml, andNot_u64 x _ hx hml, and_u64 v _ hv hm, Nat.and_two_pow_sub_one_eq_mod, shl_u64 _ _ (by omega)]
  have h2 : (v % 2 ^ n) * 2 ^ a < 2 ^ 64 := by
    have h1 : v % 2 ^ n < 2 ^ n := Nat.mod_lt _ (Nat.two_pow_pos n)
    have h2 : (v % 2 ^ n) * 2 ^ a < 2 ^ n * 2 ^ a := Nat.mul_lt_mul_of_pos_right h1 (Nat.two_pow_pos a)
    rw [← Nat.pow_add] at h2
    exact Nat.lt_of_lt_of_le h2 (Nat.pow_le_pow_right (by decide) (by omega))
  rw [Nat.mod_eq_of_lt h2, or_u64 _ _ (Nat.lt_of_le_of_lt Nat.and_le_left hx) h2]
  rfl
theorem put_no (x v a n : Int) (h : fld a n = false) : pack_Put.f x a n v = some x := by
  unfold pack_Put.f
  rw [field_f, h]
  rfl
theorem get_eq (x : Nat) (hx : x < 2 ^ 64) (a n : Nat) (h1 : 1 ≤ n) (h : a + n ≤ 64) : pack_Get.f (x : Int) (a : Int) (n : Int) = some ((getN x a n : Nat) : Int) := by
  unfold pack_Get.f
  rw [field_f, fld_of a n h1 h]
  simp only [Option.bind_some, if_true]
  rw [if_pos (by omega), mask_eq n h1 (by omega)]
  simp only [Option.bind_some]
  have hm : 2 ^ n - 1 < 2 ^ 64 := Nat.lt_of_lt_of_le (Nat.sub_lt (Nat.two_pow_pos n) (by decide)) (Nat.pow_le_pow_right (by decide) (by omega))
  rw [shr_u64 _ _ (by omega), and_u64 _ _ (Nat.lt_of_le_of_lt (Nat.div_le_self _ _) hx) hm, Nat.and_two_pow_sub_one_eq_mod]
  rfl
theorem get_no (x a n : Int) (h : fld a n = false) : pack_Get.f x a n = some 0 := by
  unfold pack_Get.f
  rw [field_f, h]
  rfl

/-! ### The document's fields -/
theorem ref_field (a n : Int) : trencherref02_Field.f a n = some (fld a n) := by
  unfold trencherref02_Field.f fld
  by_cases h1 : n ≥ 1
  · rw [if_pos h1]
    by_cases h2 : n ≤ 64
    · rw [if_pos h2]
      by_cases h3 : a ≥ 0
      · rw [if_pos h3]
        by_cases h4 : a ≤ 64
        · rw [if_pos h4, w64 _ (by omega) (by omega)]
          congr 1
          rw [decide_eq_decide]
          omega
        · rw [if_neg h4]
          congr 1
          exact (decide_eq_false (by omega)).symm
      · rw [if_neg h3]
        congr 1
        exact (decide_eq_false (by omega)).symm
    · rw [if_neg h2]
      congr 1
      exact (decide_eq_false (by omega)).symm
  · rw [if_neg h1]
    congr 1
    exact (decide_eq_false (by omega)).symm
theorem ref_get_loop (x : Nat) (hx : x < 2 ^ 64) (a n : Nat) (h1 : 1 ≤ n) (h : a + n ≤ 64) (d : Nat) : ∀ (k i : Nat), i + d = n → 80 + 2 * d ≤ k →
    trencherref02_Get.l0 k (x : Int) (a : Int) (n : Int) ((getN x a i : Nat) : Int) (i : Int) = some ((getN x a n : Nat) : Int) := by
  induction d with
  | zero =>
    intro k i hi hk
    obtain ⟨k, rfl⟩ : ∃ m, k = m + 1 + 1 := ⟨k - 2, by omega⟩
    obtain rfl : i = n := by omega
    rw [trencherref02_Get.l0, ref_field, fld_of a i h1 h]
    simp only [Option.bind_some, if_true]
    rw [decide_eq_false (by omega), trencherref02_Get.j1, if_neg (by decide)]
  | succ d ih =>
    intro k i hi hk
    obtain ⟨k, rfl⟩ : ∃ m, k = m + 1 + 1 := ⟨k - 2, by omega⟩
    rw [trencherref02_Get.l0, ref_field, fld_of a n h1 h]
    simp only [Option.bind_some, if_true]
    rw [decide_eq_true (by omega), trencherref02_Get.j1, if_pos rfl, w64 _ (by omega) (by omega), show (a : Int) + (i : Int) = ((a + i : Nat) : Int) from rfl, has_eq x hx _ k (by omega), has_nat x _ (by omega), w64 _ (by omega) (by omega), show (i : Int) + 1 = ((i + 1 : Nat) : Int) from rfl]
    simp only [Option.bind_some]
    have hg := get_lt x a i (by omega)
    by_cases hb : x.testBit (a + i) = true
    · rw [if_pos hb, with_eq _ hg i (by omega) k (by omega)]
      simp only [Option.bind_some]
      have e : withN (getN x a i) i = getN x a (i + 1) := by
        apply Nat.eq_of_testBit_eq
        intro j
        rw [tb_with, tb_get, tb_get]
        by_cases e : i = j
        · subst e
          have : i < i + 1 := by omega
          simp [Nat.add_comm i a, hb]
        · have : (j < i + 1) ↔ (j < i) := by omega
          simp only [this]
          simp [e]
      rw [e]
      exact ih k (i + 1) (by omega) (by omega)
    · rw [if_neg hb]
      have e : getN x a i = getN x a (i + 1) := by
        apply Nat.eq_of_testBit_eq
        intro j
        rw [tb_get, tb_get]
        by_cases e : i = j
        · subst e
          have hb' : x.testBit (i + a) = false := by rw [Nat.add_comm]; simpa using hb
          simp [hb']
        · have : (j < i + 1) ↔ (j < i) := by omega
          simp only [this]
      rw [e]
      exact ih k (i + 1) (by omega) (by omega)
theorem ref_get (x : Nat) (hx : x < 2 ^ 64) (a n : Int) (k : Nat) (hk : 300 ≤ k) : trencherref02_Get.f k (x : Int) a n = pack_Get.f (x : Int) a n := by
  cases h : fld a n with
  | true =>
    obtain ⟨a, n, rfl, rfl, h1, h2⟩ := fld_nat h
    rw [get_eq x hx a n h1 h2]
    unfold trencherref02_Get.f
    have := ref_get_loop x hx a n h1 h2 n k 0 (by omega) (by omega)
    have e : getN x a 0 = 0 := by unfold getN; rw [Nat.pow_zero, Nat.mod_one]
    rw [e] at this
    exact this
  | false =>
    rw [get_no _ _ _ h]
    obtain ⟨k, rfl⟩ : ∃ m, k = m + 1 + 1 := ⟨k - 2, by omega⟩
    unfold trencherref02_Get.f
    rw [trencherref02_Get.l0, ref_field, h]
    simp only [Option.bind_some]
    rw [if_neg (by decide), trencherref02_Get.j1, if_neg (by decide)]
theorem ref_put_loop (x v : Nat) (hx : x < 2 ^ 64) (hv : v < 2 ^ 64) (a n : Nat) (h1 : 1 ≤ n) (h : a + n ≤ 64) (d : Nat) : ∀ (k i : Nat), i + d = n → 80 + 2 * d ≤ k →
    trencherref02_Put.l0 k ((putN x a i v : Nat) : Int) (a : Int) (n : Int) (v : Int) (i : Int) = some ((putN x a n v : Nat) : Int) := by
  induction d with
  | zero =>
    intro k i hi hk
    obtain ⟨k, rfl⟩ : ∃ m, k = m + 1 + 1 := ⟨k - 2, by omega⟩
    obtain rfl : i = n := by omega
    rw [trencherref02_Put.l0, ref_field, fld_of a i h1 h]
    simp only [Option.bind_some, if_true]
    rw [decide_eq_false (by omega), trencherref02_Put.j1, if_neg (by decide)]
  | succ d ih =>
    intro k i hi hk
    obtain ⟨k, rfl⟩ : ∃ m, k = m + 1 + 1 := ⟨k - 2, by omega⟩
    rw [trencherref02_Put.l0, ref_field, fld_of a n h1 h]
    simp only [Option.bind_some, if_true]
    rw [decide_eq_true (by omega), trencherref02_Put.j1, if_pos rfl, has_eq v hv _ k (by omega), has_nat v _ (by omega), w64 ((a : Int) + (i : Int)) (by omega) (by omega), show (a : Int) + (i : Int) = ((a + i : Nat) : Int) from rfl, w64 _ (by omega) (by omega), show (i : Int) + 1 = ((i + 1 : Nat) : Int) from rfl]
    simp only [Option.bind_some]
    have hp : putN x a i v < 2 ^ 64 := put_lt hx (by omega)
    by_cases hb : v.testBit i = true
    · rw [if_pos hb, with_eq _ hp (a + i) (by omega) k (by omega)]
      simp only [Option.bind_some]
      have e : withN (putN x a i v) (a + i) = putN x a (i + 1) v := by
        refine ext64 (with_lt hp (by omega)) (put_lt hx (by omega)) (fun j hj => ?_)
        rw [tb_with, tb_put _ _ _ _ _ (by omega) hj, tb_put _ _ _ _ _ (by omega) hj]
        by_cases e : a + i = j
        · rw [if_neg (by omega), if_pos (by omega), show j - a = i by omega, hb]
          simp [e]
        · have : (a ≤ j ∧ j < a + (i + 1)) ↔ (a ≤ j ∧ j < a + i) := by omega
          simp only [this]
          simp [e]
      rw [e]
      exact ih k (i + 1) (by omega) (by omega)
    · rw [if_neg hb, without_eq _ hp (a + i) (by omega) k (by omega)]
      simp only [Option.bind_some]
      have e : withoutN (putN x a i v) (a + i) = putN x a (i + 1) v := by
        refine ext64 (without_lt hp) (put_lt hx (by omega)) (fun j hj => ?_)
        rw [tb_without, tb_put _ _ _ _ _ (by omega) hj, tb_put _ _ _ _ _ (by omega) hj]
        by_cases e : a + i = j
        · have hb' : v.testBit i = false := by simpa using hb
          rw [if_neg (by omega), if_pos (by omega), show j - a = i by omega, hb']
          simp [e]
        · have : (a ≤ j ∧ j < a + (i + 1)) ↔ (a ≤ j ∧ j < a + i) := by omega
          simp only [this]
          simp [e]
      rw [e]
      exact ih k (i + 1) (by omega) (by omega)
theorem put_zero (x a v : Nat) (hx : x < 2 ^ 64) (ha : a ≤ 64) : putN x a 0 v = x := by
  refine ext64 (put_lt hx (by omega)) hx (fun j hj => ?_)
  rw [tb_put _ _ _ _ _ (by omega) hj, if_neg (by omega)]
theorem ref_put (x v : Nat) (hx : x < 2 ^ 64) (hv : v < 2 ^ 64) (a n : Int) (k : Nat) (hk : 300 ≤ k) : trencherref02_Put.f k (x : Int) a n (v : Int) = pack_Put.f (x : Int) a n (v : Int) := by
  cases h : fld a n with
  | true =>
    obtain ⟨a, n, rfl, rfl, h1, h2⟩ := fld_nat h
    rw [put_eq x v hx hv a n h1 h2]
    unfold trencherref02_Put.f
    have := ref_put_loop x v hx hv a n h1 h2 n k 0 (by omega) (by omega)
    rw [put_zero x a v hx (by omega)] at this
    exact this
  | false =>
    rw [put_no _ _ _ _ h]
    obtain ⟨k, rfl⟩ : ∃ m, k = m + 1 + 1 := ⟨k - 2, by omega⟩
    unfold trencherref02_Put.f
    rw [trencherref02_Put.l0, ref_field, h]
    simp only [Option.bind_some]
    rw [if_neg (by decide), trencherref02_Put.j1, if_neg (by decide)]
end Go.Proofs.Ytpafhgipgldclaa.Pl
