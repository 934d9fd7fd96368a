/- Bits, plainly: sets as natural numbers' bits; the program's functions and the document's tell them (no Go in it). -/
import Derived.Test.YtbdedbhafciilaaDoorPBitsAllx1
import Derived.Test.YtbdedbhafciilaaDoorPBitsSetsx1
import Derived.Test.YtbdedbhafciilaaDoorPBitsFirstx1
import Derived.Lib.TrailingZeros
namespace Go.Proofs.YtbdedbhafciilaaDoor.Bt
open Go.RowKit Go.Proofs.YtbdedbhafciilaaDoorW.PrintWords Go.Proofs.YtbdedbhafciilaaDoorW.PrintMore
set_option linter.unusedSimpArgs false
/-! ### Bits -/
theorem wraps_u64 (n : Int) (h₀ : 0 ≤ n) (h₁ : n < 2 ^ 64) : IntKind.u64.wrap n = n := by rw [IntKind.wrap_u64]; omega
theorem w64 (n : Int) (h0 : -9223372036854775808 ≤ n) (h1 : n ≤ 9223372036854775807) : wrap64 n = n := by unfold wrap64; omega
theorem u64_nat (n : Nat) (h : n < 2 ^ 64) : IntKind.u64.wrap (n : Int) = (n : Int) := wraps_u64 _ (Int.natCast_nonneg _) (by exact_mod_cast h)
theorem or_u64 (a b : Nat) (ha : a < 2 ^ 64) (hb : b < 2 ^ 64) : bits .or .u64 (a : Int) (b : Int) = ((a ||| b : Nat) : Int) := (bits_nat .u64 64 (by decide) wraps_u64 a b ha hb).2
theorem and_u64 (a b : Nat) (ha : a < 2 ^ 64) (hb : b < 2 ^ 64) : bits .and .u64 (a : Int) (b : Int) = ((a &&& b : Nat) : Int) := (bits_nat .u64 64 (by decide) wraps_u64 a b ha hb).1
theorem andNot_u64 (a b : Nat) (ha : a < 2 ^ 64) (hb : b < 2 ^ 64) : bits .andNot .u64 (a : Int) (b : Int) = ((a &&& (2 ^ 64 - 1 - b) : Nat) : Int) := by
  have h1 : a % 2 ^ 64 = a := Nat.mod_eq_of_lt ha
  have h2 : b % 2 ^ 64 = b := Nat.mod_eq_of_lt hb
  have hbits : IntKind.u64.bits = 64 := rfl
  simp only [bits, hbits, BitVec.ofInt_natCast, BitVec.toNat_and, BitVec.toNat_not, BitVec.toNat_ofNat, h1, h2]
  exact u64_nat _ (Nat.lt_of_le_of_lt Nat.and_le_left ha)
theorem shl_u64 (x n : Nat) (hn : n ≤ 64) : shl .u64 (x : Int) (n : Int) = ((x * 2 ^ n % 2 ^ 64 : Nat) : Int) := by
  unfold shl
  rw [Int.toNat_natCast, show IntKind.u64.bits = 64 from rfl, Nat.min_eq_left hn, IntKind.wrap_u64]
  have : (x : Int) * 2 ^ n = ((x * 2 ^ n : Nat) : Int) := by rw [Int.natCast_mul, Int.natCast_pow]; rfl
  rw [this]
  rfl
theorem shr_u64 (x n : Nat) (hn : n ≤ 64) : shr .u64 (x : Int) (n : Int) = ((x / 2 ^ n : Nat) : Int) := by
  unfold shr
  rw [Int.toNat_natCast, show IntKind.u64.bits = 64 from rfl, Nat.min_eq_left hn, Int.natCast_ediv, Int.natCast_pow]
  rfl

theorem lt_of_bits {x n : Nat} (h : ∀ j, n ≤ j → x.testBit j = false) : x < 2 ^ n := Nat.lt_pow_two_of_testBit x h
theorem bit_high {x n j : Nat} (h : x < 2 ^ n) (hj : n ≤ j) : x.testBit j = false := Nat.testBit_lt_two_pow (Nat.lt_of_lt_of_le h (Nat.pow_le_pow_right (by decide) hj))
theorem ext64 {x y : Nat} (hx : x < 2 ^ 64) (hy : y < 2 ^ 64) (h : ∀ j, j < 64 → x.testBit j = y.testBit j) : x = y := by
  apply Nat.eq_of_testBit_eq
  intro j
  by_cases hj : j < 64
  · exact h j hj
  · rw [bit_high hx (by omega), bit_high hy (by omega)]
theorem add_bit {x i : Nat} (h : x.testBit i = false) : x + 2 ^ i = x ||| 2 ^ i := by
  have hr : x % 2 ^ (i + 1) < 2 ^ i := lt_of_bits (fun j hj => by
    rw [Nat.testBit_mod_two_pow]
    by_cases e : j = i
    · subst e; simp [h]
    · have : ¬ j < i + 1 := by omega
      simp [this])
  have hx : x = 2 ^ (i + 1) * (x / 2 ^ (i + 1)) + x % 2 ^ (i + 1) := (Nat.div_add_mod x (2 ^ (i + 1))).symm
  generalize x % 2 ^ (i + 1) = r at *
  generalize x / 2 ^ (i + 1) = q at *
  have hp : 2 ^ (i + 1) = 2 * 2 ^ i := by rw [Nat.pow_succ, Nat.mul_comm]
  have hlt : 2 ^ i * 1 + r < 2 ^ (i + 1) := by omega
  have hs : x + 2 ^ i = 2 ^ (i + 1) * q + (2 ^ i * 1 + r) := by omega
  apply Nat.eq_of_testBit_eq
  intro j
  rw [hs, Nat.testBit_two_pow_mul_add _ hlt, Nat.testBit_two_pow_mul_add _ hr, Nat.testBit_or, Nat.testBit_two_pow, hx, Nat.testBit_two_pow_mul_add _ (by omega : r < 2 ^ (i + 1))]
  by_cases h1 : j < i + 1
  · rw [if_pos h1, if_pos h1]
    by_cases h2 : j < i
    · rw [if_pos h2]
      have : ¬ i = j := by omega
      simp [this]
    · have : j = i := by omega
      subst this
      rw [if_neg h2]
      simp
  · rw [if_neg h1, if_neg h1]
    have : ¬ i = j := by omega
    simp [this]

/-- Whether a number is in a set. -/
def hasN (m : Nat) (i : Int) : Bool := decide (0 ≤ i ∧ i < 64) && m.testBit i.toNat
def withN (m : Nat) (i : Int) : Nat := if 0 ≤ i ∧ i < 64 then m ||| 2 ^ i.toNat else m
def withoutN (m : Nat) (i : Int) : Nat := if 0 ≤ i ∧ i < 64 then m &&& (2 ^ 64 - 1 - 2 ^ i.toNat) else m
def oneV (i : Int) : Nat := if 0 ≤ i ∧ i < 64 then 2 ^ i.toNat else 0
theorem two_lt {n : Nat} (h : n < 64) : 2 ^ n < 2 ^ 64 := Nat.pow_lt_pow_right (by decide) h
theorem oneV_lt (i : Int) : oneV i < 2 ^ 64 := by
  unfold oneV
  split
  · exact two_lt (by omega)
  · decide
theorem shl_one (i : Int) (h : 0 ≤ i ∧ i < 64) : shl .u64 1 i = ((2 ^ i.toNat : Nat) : Int) := by
  have := shl_u64 1 i.toNat (by omega)
  rw [Int.toNat_of_nonneg h.1, Nat.one_mul, Nat.mod_eq_of_lt (two_lt (by omega))] at this
  exact this
theorem one_f (i : Int) : PBitsSets.bits_one.f i = some ((oneV i : Nat) : Int) := by
  unfold PBitsSets.bits_one.f oneV
  by_cases h1 : i < 0
  · rw [if_pos h1, if_neg (by omega)]; rfl
  · by_cases h2 : i ≥ 64
    · rw [if_neg h1, if_pos h2, if_neg (by omega)]; rfl
    · rw [if_neg h1, if_neg h2, if_pos (by omega), if_pos (by omega), shl_one i (by omega)]
theorem tb_pow (i j : Nat) : (2 ^ i).testBit j = decide (i = j) := Nat.testBit_two_pow
theorem tb_not (x j : Nat) (hx : x < 2 ^ 64) : (2 ^ 64 - 1 - x).testBit j = (decide (j < 64) && !x.testBit j) := by
  have := Nat.testBit_two_pow_sub_succ hx j
  rw [show 2 ^ 64 - 1 - x = 2 ^ 64 - (x + 1) by omega]
  exact this
theorem has_f (m : Nat) (hm : m < 2 ^ 64) (i : Int) : PBitsSets.bits_Has.f (m : Int) i = some (hasN m i) := by
  unfold PBitsSets.bits_Has.f
  rw [one_f]
  simp only [Option.bind_some]
  rw [and_u64 _ _ hm (oneV_lt i)]
  congr 1
  unfold hasN oneV
  by_cases h : 0 ≤ i ∧ i < 64
  · rw [if_pos h, decide_eq_true h, Bool.true_and]
    cases hb : m.testBit i.toNat with
    | true =>
      have : m &&& 2 ^ i.toNat ≠ 0 := fun e => by
        have := congrArg (fun x => x.testBit i.toNat) e
        simp [hb, Nat.testBit_and, tb_pow] at this
      simp; omega
    | false =>
      have : m &&& 2 ^ i.toNat = 0 := by
        apply Nat.eq_of_testBit_eq
        intro j
        rw [Nat.testBit_and, tb_pow, Nat.zero_testBit]
        by_cases e : i.toNat = j
        · subst e; simp [hb]
        · simp [e]
      rw [this]; rfl
  · rw [if_neg h, decide_eq_false h]
    simp
theorem with_lt {m : Nat} (hm : m < 2 ^ 64) (i : Int) : withN m i < 2 ^ 64 := by
  unfold withN
  split
  · exact Nat.or_lt_two_pow hm (two_lt (by omega))
  · exact hm
theorem without_lt {m : Nat} (hm : m < 2 ^ 64) (i : Int) : withoutN m i < 2 ^ 64 := by
  unfold withoutN
  split
  · exact Nat.lt_of_le_of_lt Nat.and_le_left hm
  · exact hm
theorem with_f (m : Nat) (hm : m < 2 ^ 64) (i : Int) : PBitsSets.bits_With.f (m : Int) i = some ((withN m i : Nat) : Int) := by
  unfold PBitsSets.bits_With.f
  rw [one_f]
  simp only [Option.bind_some]
  rw [or_u64 _ _ hm (oneV_lt i)]
  unfold withN oneV
  by_cases h : 0 ≤ i ∧ i < 64
  · rw [if_pos h, if_pos h]
  · rw [if_neg h, if_neg h, Nat.or_zero]
theorem without_f (m : Nat) (hm : m < 2 ^ 64) (i : Int) : PBitsSets.bits_Without.f (m : Int) i = some ((withoutN m i : Nat) : Int) := by
  unfold PBitsSets.bits_Without.f
  rw [one_f]
  simp only [Option.bind_some]
  rw [andNot_u64 _ _ hm (oneV_lt i)]
  unfold withoutN oneV
  by_cases h : 0 ≤ i ∧ i < 64
  · rw [if_pos h, if_pos h]
  · rw [if_neg h, if_neg h]
    congr 2
    apply ext64 (Nat.lt_of_le_of_lt Nat.and_le_left hm) hm
    intro j hj
    rw [Nat.testBit_and, tb_not 0 j (by decide)]
    simp [hj]
theorem tb_with (m : Nat) (i : Int) (j : Nat) (hj : j < 64) : (withN m i).testBit j = (m.testBit j || decide (i = j)) := by
  unfold withN
  by_cases h : 0 ≤ i ∧ i < 64
  · rw [if_pos h, Nat.testBit_or, tb_pow]
    congr 1
    by_cases e : i = j
    · subst e; simp
    · rw [decide_eq_false e, decide_eq_false (by omega)]
  · rw [if_neg h, decide_eq_false (by omega), Bool.or_false]
theorem tb_without (m : Nat) (i : Int) (j : Nat) (hj : j < 64) : (withoutN m i).testBit j = (m.testBit j && !decide (i = j)) := by
  unfold withoutN
  by_cases h : 0 ≤ i ∧ i < 64
  · rw [if_pos h, Nat.testBit_and, tb_not _ _ (two_lt (by omega)), tb_pow, decide_eq_true hj, Bool.true_and]
    congr 2
    by_cases e : i = j
    · subst e; simp
    · rw [decide_eq_false e, decide_eq_false (by omega)]
  · rw [if_neg h, decide_eq_false (by omega)]
    simp
theorem rhas_l_s (d : Nat) : ∀ (k : Nat) (x : Nat) (i j : Int), x < 2 ^ 64 → j + d = i → 0 ≤ j → i < 64 → d < k → PBitsSets.trencherref01_Has.l0 k (x : Int) i j = some (x.testBit d) := by
  induction d with
  | zero =>
    intro k x i j hx h1 h2 h3 hk
    obtain ⟨k, rfl⟩ : ∃ k', k = k' + 1 := ⟨k - 1, by omega⟩
    simp only [PBitsSets.trencherref01_Has.l0]
    rw [if_neg (by omega), Int.tmod_eq_emod_of_nonneg (by omega), Nat.testBit_zero]
    congr 1
    by_cases h : x % 2 = 1
    · have : (x : Int) % 2 = 1 := by omega
      simp [h, this]
    · have : (x : Int) % 2 = 0 := by omega
      simp [h, this]
  | succ d ih =>
    intro k x i j hx h1 h2 h3 hk
    obtain ⟨k, rfl⟩ : ∃ k', k = k' + 1 := ⟨k - 1, by omega⟩
    simp only [PBitsSets.trencherref01_Has.l0]
    have e : IntKind.u64.wrap (Int.tdiv (x : Int) 2) = ((x / 2 : Nat) : Int) := by
      rw [Int.tdiv_eq_ediv_of_nonneg (by omega), wraps_u64 _ (by omega) (by omega)]
      omega
    rw [if_pos (by omega), e, w64 (j + 1) (by omega) (by omega), ih k (x / 2) i (j + 1) (by omega) (by omega) (by omega) h3 (by omega), Nat.testBit_succ]
theorem rhas_s (m : Nat) (hm : m < 2 ^ 64) (i : Int) : PBitsSets.trencherref01_Has.f 70 (m : Int) i = some (hasN m i) := by
  unfold PBitsSets.trencherref01_Has.f hasN
  by_cases h1 : i < 0
  · rw [if_pos h1]
    simp only [PBitsSets.trencherref01_Has.j0]
    rw [if_pos trivial, decide_eq_false (by omega)]
    rfl
  · rw [if_neg h1]
    simp only [PBitsSets.trencherref01_Has.j0]
    by_cases h2 : i > 63
    · rw [if_pos (decide_eq_true h2), decide_eq_false (by omega)]
      rfl
    · rw [if_neg (by simp; omega), rhas_l_s i.toNat 69 m i 0 hm (by omega) (by omega) (by omega) (by omega), decide_eq_true (by omega : 0 ≤ i ∧ i < 64)]
      rfl
theorem rhas_l_f (d : Nat) : ∀ (k : Nat) (x : Nat) (i j : Int), x < 2 ^ 64 → j + d = i → 0 ≤ j → i < 64 → d < k → PBitsFirst.trencherref01_Has.l0 k (x : Int) i j = some (x.testBit d) := by
  induction d with
  | zero =>
    intro k x i j hx h1 h2 h3 hk
    obtain ⟨k, rfl⟩ : ∃ k', k = k' + 1 := ⟨k - 1, by omega⟩
    simp only [PBitsFirst.trencherref01_Has.l0]
    rw [if_neg (by omega), Int.tmod_eq_emod_of_nonneg (by omega), Nat.testBit_zero]
    congr 1
    by_cases h : x % 2 = 1
    · have : (x : Int) % 2 = 1 := by omega
      simp [h, this]
    · have : (x : Int) % 2 = 0 := by omega
      simp [h, this]
  | succ d ih =>
    intro k x i j hx h1 h2 h3 hk
    obtain ⟨k, rfl⟩ : ∃ k', k = k' + 1 := ⟨k - 1, by omega⟩
    simp only [PBitsFirst.trencherref01_Has.l0]
    have e : IntKind.u64.wrap (Int.tdiv (x : Int) 2) = ((x / 2 : Nat) : Int) := by
      rw [Int.tdiv_eq_ediv_of_nonneg (by omega), wraps_u64 _ (by omega) (by omega)]
      omega
    rw [if_pos (by omega), e, w64 (j + 1) (by omega) (by omega), ih k (x / 2) i (j + 1) (by omega) (by omega) (by omega) h3 (by omega), Nat.testBit_succ]
theorem rhas_f (m : Nat) (hm : m < 2 ^ 64) (i : Int) : PBitsFirst.trencherref01_Has.f 70 (m : Int) i = some (hasN m i) := by
  unfold PBitsFirst.trencherref01_Has.f hasN
  by_cases h1 : i < 0
  · rw [if_pos h1]
    simp only [PBitsFirst.trencherref01_Has.j0]
    rw [if_pos trivial, decide_eq_false (by omega)]
    rfl
  · rw [if_neg h1]
    simp only [PBitsFirst.trencherref01_Has.j0]
    by_cases h2 : i > 63
    · rw [if_pos (decide_eq_true h2), decide_eq_false (by omega)]
      rfl
    · rw [if_neg (by simp; omega), rhas_l_f i.toNat 69 m i 0 hm (by omega) (by omega) (by omega) (by omega), decide_eq_true (by omega : 0 ≤ i ∧ i < 64)]
      rfl
theorem rhas_l_a (d : Nat) : ∀ (k : Nat) (x : Nat) (i j : Int), x < 2 ^ 64 → j + d = i → 0 ≤ j → i < 64 → d < k → PBitsAll.trencherref01_Has.l0 k (x : Int) i j = some (x.testBit d) := by
  induction d with
  | zero =>
    intro k x i j hx h1 h2 h3 hk
    obtain ⟨k, rfl⟩ : ∃ k', k = k' + 1 := ⟨k - 1, by omega⟩
    simp only [PBitsAll.trencherref01_Has.l0]
    rw [if_neg (by omega), Int.tmod_eq_emod_of_nonneg (by omega), Nat.testBit_zero]
    congr 1
    by_cases h : x % 2 = 1
    · have : (x : Int) % 2 = 1 := by omega
      simp [h, this]
    · have : (x : Int) % 2 = 0 := by omega
      simp [h, this]
  | succ d ih =>
    intro k x i j hx h1 h2 h3 hk
    obtain ⟨k, rfl⟩ : ∃ k', k = k' + 1 := ⟨k - 1, by omega⟩
    simp only [PBitsAll.trencherref01_Has.l0]
    have e : IntKind.u64.wrap (Int.tdiv (x : Int) 2) = ((x / 2 : Nat) : Int) := by
      rw [Int.tdiv_eq_ediv_of_nonneg (by omega), wraps_u64 _ (by omega) (by omega)]
      omega
    rw [if_pos (by omega), e, w64 (j + 1) (by omega) (by omega), ih k (x / 2) i (j + 1) (by omega) (by omega) (by omega) h3 (by omega), Nat.testBit_succ]
theorem rhas_a (m : Nat) (hm : m < 2 ^ 64) (i : Int) : PBitsAll.trencherref01_Has.f 70 (m : Int) i = some (hasN m i) := by
  unfold PBitsAll.trencherref01_Has.f hasN
  by_cases h1 : i < 0
  · rw [if_pos h1]
    simp only [PBitsAll.trencherref01_Has.j0]
    rw [if_pos trivial, decide_eq_false (by omega)]
    rfl
  · rw [if_neg h1]
    simp only [PBitsAll.trencherref01_Has.j0]
    by_cases h2 : i > 63
    · rw [if_pos (decide_eq_true h2), decide_eq_false (by omega)]
      rfl
    · rw [if_neg (by simp; omega), rhas_l_a i.toNat 69 m i 0 hm (by omega) (by omega) (by omega) (by omega), decide_eq_true (by omega : 0 ≤ i ∧ i < 64)]
      rfl

theorem rbit_l (d : Nat) : ∀ (k x : Nat) (i j : Int), x * 2 ^ d < 2 ^ 64 → j + d = i → 0 ≤ j → i < 64 → d < k → PBitsSets.trencherref01_Bit.l0 k i (x : Int) j = some ((x * 2 ^ d : Nat) : Int) := by
  induction d with
  | zero =>
    intro k x i j hx h1 h2 h3 hk
    obtain ⟨k, rfl⟩ : ∃ k', k = k' + 1 := ⟨k - 1, by omega⟩
    simp only [PBitsSets.trencherref01_Bit.l0]
    rw [if_neg (by omega)]
    simp
  | succ d ih =>
    intro k x i j hx h1 h2 h3 hk
    obtain ⟨k, rfl⟩ : ∃ k', k = k' + 1 := ⟨k - 1, by omega⟩
    have e1 : x * 2 ^ (d + 1) = x * 2 * 2 ^ d := by rw [Nat.pow_succ, Nat.mul_assoc, Nat.mul_comm 2]
    rw [e1] at hx ⊢
    have h4 : x * 2 < 2 ^ 64 := Nat.lt_of_le_of_lt (Nat.le_mul_of_pos_right _ (Nat.two_pow_pos d)) hx
    have e : IntKind.u64.wrap ((x : Int) * 2) = ((x * 2 : Nat) : Int) := by
      rw [wraps_u64 _ (by omega) (by omega)]
      omega
    simp only [PBitsSets.trencherref01_Bit.l0]
    rw [if_pos (by omega), e, w64 (j + 1) (by omega) (by omega), ih k (x * 2) i (j + 1) hx (by omega) (by omega) h3 (by omega)]
theorem rbit (i : Int) (h : 0 ≤ i ∧ i < 64) : PBitsSets.trencherref01_Bit.f 70 i = some ((2 ^ i.toNat : Nat) : Int) := by
  unfold PBitsSets.trencherref01_Bit.f
  have := rbit_l i.toNat 70 1 i 0 (by rw [Nat.one_mul]; exact two_lt (by omega)) (by omega) (by omega) h.2 (by omega)
  rw [Nat.one_mul] at this
  exact this
theorem rwith (m : Nat) (hm : m < 2 ^ 64) (i : Int) : PBitsSets.trencherref01_With.f 70 (m : Int) i = some ((withN m i : Nat) : Int) := by
  unfold PBitsSets.trencherref01_With.f withN
  by_cases h1 : i < 0
  · rw [if_pos h1, if_neg (by omega)]
  · by_cases h2 : i > 63
    · rw [if_neg h1, if_pos h2, if_neg (by omega)]
    · have h : 0 ≤ i ∧ i < 64 := by omega
      rw [if_neg h1, if_neg h2, rhas_s m hm, rbit i h, if_pos h]
      simp only [Option.bind_some]
      unfold hasN
      rw [decide_eq_true h, Bool.true_and]
      cases hb : m.testBit i.toNat with
      | true =>
        rw [if_pos rfl]
        congr 2
        apply Nat.eq_of_testBit_eq
        intro j
        rw [Nat.testBit_or, tb_pow]
        by_cases e : i.toNat = j
        · subst e; simp [hb]
        · simp [e]
      | false =>
        have hlt : m ||| 2 ^ i.toNat < 2 ^ 64 := Nat.or_lt_two_pow hm (two_lt (by omega))
        have e := add_bit hb
        rw [if_neg (by decide), ← e, wraps_u64 _ (by omega) (by rw [← e] at hlt; omega)]
        congr 1
theorem rwithout (m : Nat) (hm : m < 2 ^ 64) (i : Int) : PBitsSets.trencherref01_Without.f 70 (m : Int) i = some ((withoutN m i : Nat) : Int) := by
  unfold PBitsSets.trencherref01_Without.f withoutN
  rw [rhas_s m hm]
  simp only [Option.bind_some]
  unfold hasN
  by_cases h : 0 ≤ i ∧ i < 64
  · rw [if_pos h, decide_eq_true h, Bool.true_and, rbit i h]
    have hp := two_lt (n := i.toNat) (by omega)
    cases hb : m.testBit i.toNat with
    | true =>
      rw [if_pos rfl]
      simp only [Option.bind_some]
      have e1 : (m &&& (2 ^ 64 - 1 - 2 ^ i.toNat)).testBit i.toNat = false := by
        rw [Nat.testBit_and, tb_not _ _ hp, tb_pow]; simp
      have e2 := add_bit e1
      have e3 : (m &&& (2 ^ 64 - 1 - 2 ^ i.toNat)) ||| 2 ^ i.toNat = m := by
        apply Nat.eq_of_testBit_eq
        intro j
        rw [Nat.testBit_or, Nat.testBit_and, tb_not _ _ hp, tb_pow]
        by_cases e : i.toNat = j
        · subst e; simp [hb]
        · by_cases hj : j < 64
          · simp [e, hj]
          · rw [bit_high hm (by omega)]; simp [e]
      rw [e3] at e2
      have e4 : m &&& (2 ^ 64 - 1 - 2 ^ i.toNat) ≤ m := Nat.and_le_left
      rw [wraps_u64 _ (by omega) (by omega)]
      congr 1
      omega
    | false =>
      rw [if_neg (by decide)]
      congr 2
      apply ext64 hm (Nat.lt_of_le_of_lt Nat.and_le_left hm)
      intro j hj
      rw [Nat.testBit_and, tb_not _ _ hp, tb_pow]
      by_cases e : i.toNat = j
      · subst e; simp [hb]
      · simp [e, hj]
  · rw [if_neg h, decide_eq_false h]
    rfl
/-- The first numbers. -/
def lowsN (n : Int) : Nat := if n ≤ 0 then 0 else if n ≥ 64 then 2 ^ 64 - 1 else 2 ^ n.toNat - 1
theorem lows_lt (n : Int) : lowsN n < 2 ^ 64 := by
  unfold lowsN
  split
  · decide
  · split
    · decide
    · have := two_lt (n := n.toNat) (by omega)
      omega
theorem tb_lows (n : Int) (j : Nat) (hj : j < 64) : (lowsN n).testBit j = decide ((j : Int) < n) := by
  unfold lowsN
  by_cases h1 : n ≤ 0
  · rw [if_pos h1, Nat.zero_testBit, decide_eq_false (by omega)]
  · rw [if_neg h1]
    by_cases h2 : n ≥ 64
    · rw [if_pos h2, Nat.testBit_two_pow_sub_one, decide_eq_true hj, decide_eq_true (by omega)]
    · rw [if_neg h2, Nat.testBit_two_pow_sub_one]
      by_cases h3 : (j : Int) < n
      · rw [decide_eq_true h3, decide_eq_true (by omega)]
      · rw [decide_eq_false h3, decide_eq_false (by omega)]
theorem lows_f (n : Int) : PBitsFirst.bits_Lows.f n = some ((lowsN n : Nat) : Int) := by
  unfold PBitsFirst.bits_Lows.f lowsN
  by_cases h1 : n ≤ 0
  · rw [if_pos h1, if_pos h1]; rfl
  · by_cases h2 : n ≥ 64
    · rw [if_neg h1, if_pos h2, if_neg h1, if_pos h2]; rfl
    · rw [if_neg h1, if_neg h2, if_pos (by omega), if_neg h1, if_neg h2, shl_one n (by omega)]
      have hp := two_lt (n := n.toNat) (by omega)
      have h1 := Nat.two_pow_pos n.toNat
      rw [wraps_u64 _ (by omega) (by omega)]
      congr 1
      omega
def fullN (m : Nat) (n : Int) : Bool := (m &&& lowsN n) == lowsN n
theorem full_f (m : Nat) (hm : m < 2 ^ 64) (n : Int) : PBitsFirst.bits_Full.f (m : Int) n = some (fullN m n) := by
  unfold PBitsFirst.bits_Full.f fullN
  rw [lows_f]
  simp only [Option.bind_some]
  rw [and_u64 _ _ hm (lows_lt n)]
  congr 1
  by_cases h : m &&& lowsN n = lowsN n
  · rw [h]; simp
  · have : ¬ ((m &&& lowsN n : Nat) : Int) = ((lowsN n : Nat) : Int) := by omega
    rw [beq_eq_false_iff_ne.2 h]
    exact beq_eq_false_iff_ne.2 this
theorem full_iff (m : Nat) (n : Int) : fullN m n = true ↔ ∀ j : Nat, j < 64 → (j : Int) < n → m.testBit j = true := by
  unfold fullN
  rw [beq_iff_eq]
  constructor
  · intro h j hj hn
    have := congrArg (fun x => x.testBit j) h
    rw [Nat.testBit_and, tb_lows n j hj, decide_eq_true hn] at this
    simpa using this
  · intro h
    apply ext64 (Nat.lt_of_le_of_lt Nat.and_le_right (lows_lt n)) (lows_lt n)
    intro j hj
    rw [Nat.testBit_and, tb_lows n j hj]
    by_cases hn : (j : Int) < n
    · rw [h j hj hn]; simp
    · rw [decide_eq_false hn]; simp
theorem ctz_eq (x j : Nat) (hx : x < 2 ^ 64) (hj : x.testBit j = true) (hlow : ∀ i, i < j → x.testBit i = false) : Lib.ctz 64 x = j := by
  have h0 : x ≠ 0 := fun e => by rw [e, Nat.zero_testBit] at hj; cases hj
  obtain ⟨m, hm, _⟩ := Lib.ctzFrom_spec 64 x (by omega) hx
  unfold Lib.ctz
  rw [if_neg h0]
  generalize Lib.ctzFrom 64 x = k at hm
  have tb (i : Nat) : x.testBit i = (decide (i ≥ k) && (2 * m + 1).testBit (i - k)) := by rw [hm, Nat.testBit_two_pow_mul]
  have hk : x.testBit k = true := by rw [tb k, Nat.sub_self, Nat.testBit_zero]; simp
  rcases Nat.lt_trichotomy k j with h | h | h
  · rw [hlow k h] at hk; cases hk
  · exact h
  · rw [tb j, decide_eq_false (by omega)] at hj; cases hj
theorem rhas_more (k : Nat) (m : Nat) (hm : m < 2 ^ 64) (i : Int) : PBitsFirst.trencherref01_Has.f (k + 70) (m : Int) i = some (hasN m i) := by
  induction k with
  | zero => rw [Nat.zero_add]; exact rhas_f m hm i
  | succ k ih => rw [show k + 1 + 70 = k + 70 + 1 by omega]; exact PBitsFirst.trencherref01_Has.mono _ _ _ _ ih
def firstN (m : Nat) (n : Int) : Int := if fullN m n = true then -1 else ((Lib.ctz 64 (2 ^ 64 - 1 - m) : Nat) : Int)
theorem rfirst_l (m : Nat) (hm : m < 2 ^ 64) (n : Int) (d : Nat) : ∀ (k : Nat) (j : Nat), j + d = 64 → 2 * d + 80 ≤ k → (∀ i, i < j → m.testBit i = true) → PBitsFirst.trencherref01_First.l0 k (m : Int) n (j : Int) = some (firstN m n) := by
  induction d with
  | zero =>
    intro k j h1 hk hall
    obtain ⟨k, rfl⟩ : ∃ k', k = k' + 2 := ⟨k - 2, by omega⟩
    have hf : fullN m n = true := (full_iff m n).2 (fun i hi _ => hall i (by omega))
    unfold firstN
    rw [if_pos hf]
    simp only [PBitsFirst.trencherref01_First.l0, PBitsFirst.trencherref01_First.j1]
    rw [decide_eq_false (by omega : ¬ (j : Int) < 64)]
    split <;> rfl
  | succ d ih =>
    intro k j h1 hk hall
    obtain ⟨k, rfl⟩ : ∃ k', k = k' + 2 := ⟨k - 2, by omega⟩
    simp only [PBitsFirst.trencherref01_First.l0, PBitsFirst.trencherref01_First.j1]
    rw [decide_eq_true (by omega : (j : Int) < 64)]
    by_cases hn : (j : Int) < n
    · rw [if_pos hn, if_pos rfl]
      have hk2 : PBitsFirst.trencherref01_Has.f k (m : Int) (j : Int) = some (hasN m j) := by
        have := rhas_more (k - 70) m hm j
        rwa [show k - 70 + 70 = k by omega] at this
      rw [hk2]
      simp only [Option.bind_some]
      have hh : hasN m j = m.testBit j := by unfold hasN; rw [decide_eq_true (by omega)]; rfl
      rw [hh]
      cases hb : m.testBit j with
      | true =>
        rw [if_pos rfl, w64 _ (by omega) (by omega)]
        exact ih k (j + 1) (by omega) (by omega) (fun i hi => by
          by_cases e : i = j
          · rw [e]; exact hb
          · exact hall i (by omega))
      | false =>
        rw [if_neg (by decide)]
        have hf : ¬ fullN m n = true := fun h => by rw [(full_iff m n).1 h j (by omega) hn] at hb; cases hb
        unfold firstN
        rw [if_neg hf, ctz_eq (2 ^ 64 - 1 - m) j (by omega) (by rw [tb_not m j hm, hb, decide_eq_true (by omega)]; rfl) (fun i hi => by rw [tb_not m i hm, hall i hi]; simp)]
    · rw [if_neg hn, if_neg (by decide)]
      have hf : fullN m n = true := (full_iff m n).2 (fun i hi hin => hall i (by omega))
      unfold firstN
      rw [if_pos hf]
theorem rfirst (m : Nat) (hm : m < 2 ^ 64) (n : Int) : PBitsFirst.trencherref01_First.f 300 (m : Int) n = some (firstN m n) := rfirst_l m hm n 64 300 0 rfl (by decide) (fun i hi => absurd hi (by omega))
end Go.Proofs.YtbdedbhafciilaaDoor.Bt
