/- TextsPack, plain lists: what packs and unpacks, word by word (no Go in it). -/
import Derived.Test.YtbdedbhafciilaaTp2
import Derived.Test.YtbdedbhafciilaaPTextsPackx2
namespace Go.Proofs.Ytbdedbhafciilaa.Tp
open Go.RowKit Go.Proofs.YtbdedbhafciilaaW.PrintWords Go.Proofs.Ytbdedbhafciilaa.PTextsPack

theorem wraps_u64 (n : Int) (h₀ : 0 ≤ n) (h₁ : n < 2 ^ 64) : IntKind.u64.wrap n = n := by rw [IntKind.wrap_u64]; omega
theorem u64_in (n : Int) (h₀ : 0 ≤ n) (h₁ : n < 18446744073709551616) : IntKind.u64.wrap n = n := by rw [IntKind.wrap_u64]; omega

/-- The number of bytes, the lowest first. -/
def val : List Int → Int
  | [] => 0
  | c :: r => c + 256 * val r
def Bytes (l : List Int) : Prop := ∀ c ∈ l, 0 ≤ c ∧ c ≤ 255
theorem val_append (a b : List Int) : val (a ++ b) = val a + 256 ^ a.length * val b := by
  induction a with
  | nil => simp [val]
  | cons c r ih => simp only [List.cons_append, val, ih, List.length_cons, Int.pow_succ]; rw [Int.mul_add, ← Int.mul_assoc, Int.mul_comm 256 (256 ^ r.length), Int.add_assoc]
theorem Bytes.take {l : List Int} (h : Bytes l) (n : Nat) : Bytes (l.take n) := fun c hc => h c (List.mem_of_mem_take hc)
theorem Bytes.drop {l : List Int} (h : Bytes l) (n : Nat) : Bytes (l.drop n) := fun c hc => h c (List.mem_of_mem_drop hc)
theorem val_range : ∀ {l : List Int}, Bytes l → 0 ≤ val l ∧ val l < 256 ^ l.length
  | [], _ => by simp [val]
  | c :: r, h => by
    have h1 := h c (by simp)
    have h2 := val_range (l := r) (fun x hx => h x (by simp [hx]))
    simp only [val, List.length_cons, Int.pow_succ]
    omega
theorem getD_byte {l : List Int} (h : Bytes l) (i : Nat) : 0 ≤ l.getD i 0 ∧ l.getD i 0 ≤ 255 := by
  by_cases hi : i < l.length
  · exact h _ (getD_mem hi)
  · rw [List.getD_eq_getElem?_getD, List.getElem?_eq_none (by omega)]; simp
theorem val_digit : ∀ {l : List Int}, Bytes l → ∀ k, val l / 256 ^ k % 256 = l.getD k 0
  | [], _, k => by simp [val]
  | c :: r, h, 0 => by
    have h1 := h c (by simp)
    simp only [val, Int.pow_zero, Int.ediv_one, List.getD_cons_zero]
    omega
  | c :: r, h, k + 1 => by
    have h1 := h c (by simp)
    have ih := val_digit (l := r) (fun x hx => h x (by simp [hx])) k
    rw [List.getD_cons_succ, ← ih]
    have e : (c + 256 * val r) / 256 = val r := by omega
    have hp : (256 : Int) ^ (k + 1) = 256 * 256 ^ k := by rw [Int.pow_succ, Int.mul_comm]
    rw [hp, ← Int.ediv_ediv_of_nonneg (show (0 : Int) ≤ 256 by decide)]
    simp only [val]
    rw [e]

theorem pow_256 : ∀ n : Nat, (256 : Int) ^ n = ((2 ^ (8 * n) : Nat) : Int)
  | 0 => rfl
  | n + 1 => by
    rw [Int.pow_succ, pow_256 n, show 8 * (n + 1) = 8 * n + 8 from rfl, Nat.pow_add, Int.natCast_mul]
    rfl
theorem or_low (a d i : Nat) (ha : a < 2 ^ i) (ha2 : a < 2 ^ 64) (hd : 2 ^ i * d < 2 ^ 64) : bits .or .u64 (a : Int) ((2 ^ i * d : Nat) : Int) = ((a + 2 ^ i * d : Nat) : Int) := by
  rw [(bits_nat .u64 64 (by decide) wraps_u64 a (2 ^ i * d) ha2 hd).2, Nat.or_comm, ← Nat.two_pow_add_eq_or_of_lt ha, Nat.add_comm]
theorem or_add (x c : Int) (i : Nat) (hx : 0 ≤ x) (hx1 : x < 256 ^ (i % 8)) (hc : 0 ≤ c) (hc1 : c ≤ 255) : orIn x c i = x + 256 ^ (i % 8) * c := by
  have hn : i % 8 < 8 := Nat.mod_lt _ (by decide)
  unfold orIn
  generalize i % 8 = n at *
  obtain ⟨a, rfl⟩ := Int.eq_ofNat_of_zero_le hx
  obtain ⟨d, rfl⟩ := Int.eq_ofNat_of_zero_le hc
  rw [pow_256] at hx1 ⊢
  have ha : a < 2 ^ (8 * n) := by exact_mod_cast hx1
  have hd : d ≤ 255 := by omega
  have hp : 2 ^ (8 * n) ≤ 2 ^ 56 := Nat.pow_le_pow_right (by decide) (by omega)
  have h1 : 2 ^ (8 * n) * d ≤ 2 ^ 56 * 255 := Nat.mul_le_mul hp hd
  have h64 : 2 ^ (8 * n) * d < 2 ^ 64 := by omega
  have e : (d : Int) * 2 ^ (8 * n) = ((2 ^ (8 * n) * d : Nat) : Int) := by
    rw [Int.natCast_mul, Int.mul_comm, Int.natCast_pow]
    rfl
  have hlt : ((2 ^ (8 * n) * d : Nat) : Int) < 2 ^ 64 := by exact_mod_cast h64
  rw [e, wraps_u64 _ (Int.natCast_nonneg _) hlt, or_low a d (8 * n) ha (by omega) h64, Int.natCast_add, Int.natCast_mul]

/-- Of the bytes' j-th eight what lies ahead of i. -/
def ch (b : List Int) (i j : Nat) : List Int := (b.drop (8 * j)).take (min 8 (i - 8 * j))
theorem ch_length (b : List Int) (i j : Nat) (h : i ≤ b.length) : (ch b i j).length = min 8 (i - 8 * j) := by
  unfold ch; rw [List.length_take, List.length_drop]; omega
theorem ch_bytes {b : List Int} (h : Bytes b) (i j : Nat) : Bytes (ch b i j) := (h.drop _).take _
theorem ch_other (b : List Int) (i j : Nat) (h : j ≠ i / 8) : ch b (i + 1) j = ch b i j := by
  unfold ch
  have : min 8 (i + 1 - 8 * j) = min 8 (i - 8 * j) := by omega
  rw [this]
theorem ch_same (b : List Int) (i : Nat) (h : i < b.length) : ch b (i + 1) (i / 8) = ch b i (i / 8) ++ [b.getD i 0] := by
  unfold ch
  have e1 : min 8 (i + 1 - 8 * (i / 8)) = i % 8 + 1 := by omega
  have e2 : min 8 (i - 8 * (i / 8)) = i % 8 := by omega
  have hl : i % 8 < (b.drop (8 * (i / 8))).length := by rw [List.length_drop]; omega
  rw [e1, e2, List.take_succ_eq_append_getElem hl, List.getElem_drop]
  have e3 : 8 * (i / 8) + i % 8 = i := by omega
  simp only [e3]
  rw [List.getD_eq_getElem?_getD, List.getElem?_eq_getElem h]; rfl

theorem packTo_eq (b : List Int) (hb : Bytes b) : ∀ i, i ≤ b.length → packTo b i = (b.length : Int) :: (List.range ((b.length + 7) / 8)).map fun j => val (ch b i j)
  | 0, _ => by
    have : (fun j => val (ch b 0 j)) = fun _ => (0 : Int) := by
      funext j
      simp [ch, val]
    simp [packTo, this, List.map_const']
  | i + 1, h => by
    have ih := packTo_eq b hb i (by omega)
    have hi : i < b.length := by omega
    simp only [packTo, packStep, ih]
    have hj : i / 8 < (b.length + 7) / 8 := by omega
    have hg : ((b.length : Int) :: (List.range ((b.length + 7) / 8)).map fun j => val (ch b i j)).getD (1 + i / 8) 0 = val (ch b i (i / 8)) := by
      rw [Nat.add_comm 1 (i / 8), List.getD_cons_succ, List.getD_eq_getElem?_getD]
      simp [hj]
    rw [hg, Nat.add_comm 1 (i / 8), List.set_cons_succ]
    congr 1
    have hr := val_range (ch_bytes hb i (i / 8))
    have hcl : (ch b i (i / 8)).length = i % 8 := by rw [ch_length b i _ (by omega)]; omega
    rw [hcl] at hr
    have hby := getD_byte hb i
    rw [or_add _ _ _ hr.1 hr.2 hby.1 hby.2]
    apply List.ext_getElem
    · simp
    · intro j h1 h2
      simp only [List.getElem_set, List.getElem_map, List.getElem_range]
      by_cases e : i / 8 = j
      · subst e
        rw [if_pos rfl, ch_same b i hi, val_append, hcl]
        simp [val]
      · rw [if_neg e, ch_other b i j (fun h => e h.symm)]

theorem packL_eq (b : List Int) (hb : Bytes b) : packL b = (b.length : Int) :: (List.range ((b.length + 7) / 8)).map fun j => val ((b.drop (8 * j)).take 8) := by
  unfold packL
  rw [packTo_eq b hb b.length (Nat.le_refl _)]
  congr 1
  apply List.map_congr_left
  intro j _
  unfold ch
  congr 1
  rw [show min 8 (b.length - 8 * j) = min 8 (b.drop (8 * j)).length by rw [List.length_drop]]
  by_cases h : (b.drop (8 * j)).length ≤ 8
  · rw [Nat.min_eq_right h, List.take_length, List.take_of_length_le h]
  · rw [Nat.min_eq_left (by omega)]

/-! ### What unpacks -/
theorem low_get (x : Int) : ∀ k i, i < k → (low x k).getD i 0 = x / 256 ^ i % 256
  | 0, i, h => by omega
  | k + 1, i, h => by
    simp only [low]
    rw [List.getD_eq_getElem?_getD]
    by_cases e : i < k
    · rw [List.getElem?_append_left (by rw [low_length]; exact e), ← List.getD_eq_getElem?_getD]
      exact low_get x k i e
    · have : i = k := by omega
      subst this
      rw [List.getElem?_append_right (by rw [low_length]; exact Nat.le_refl _), low_length]
      simp
theorem raw_get (t : List Int) : ∀ m i, i < 8 * m → (rawTo t m).getD i 0 = t.getD (i / 8) 0 / 256 ^ (i % 8) % 256
  | 0, i, h => by omega
  | m + 1, i, h => by
    simp only [rawTo]
    rw [List.getD_eq_getElem?_getD]
    by_cases e : i < 8 * m
    · rw [List.getElem?_append_left (by rw [rawTo_length]; exact e), ← List.getD_eq_getElem?_getD]
      exact raw_get t m i e
    · rw [List.getElem?_append_right (by rw [rawTo_length]; omega), rawTo_length, ← List.getD_eq_getElem?_getD, low_get _ 8 _ (by omega)]
      have e1 : i / 8 = m := by omega
      have e2 : i - 8 * m = i % 8 := by omega
      rw [e1, e2]
theorem ext_getD {a b : List Int} (hl : a.length = b.length) (h : ∀ i, i < a.length → a.getD i 0 = b.getD i 0) : a = b := by
  apply List.ext_getElem hl
  intro i h1 h2
  have := h i h1
  rwa [List.getD_eq_getElem?_getD, List.getElem?_eq_getElem h1, List.getD_eq_getElem?_getD, List.getElem?_eq_getElem h2] at this
theorem getD_take (l : List Int) (n i : Nat) (h : i < n) : (l.take n).getD i 0 = l.getD i 0 := by
  rw [List.getD_eq_getElem?_getD, List.getElem?_take, if_pos h, ← List.getD_eq_getElem?_getD]
theorem getD_drop (l : List Int) (n i : Nat) : (l.drop n).getD i 0 = l.getD (n + i) 0 := by
  rw [List.getD_eq_getElem?_getD, List.getElem?_drop, ← List.getD_eq_getElem?_getD]
theorem getD_words (b : List Int) (j : Nat) (h : j < (b.length + 7) / 8) : ((List.range ((b.length + 7) / 8)).map fun j => val ((b.drop (8 * j)).take 8)).getD j 0 = val ((b.drop (8 * j)).take 8) := by
  rw [List.getD_eq_getElem?_getD]
  simp [h]

/-- What is packed is unpacked. -/
theorem unpack_pack (b : List Int) (hb : Bytes b) (h : b.length ≤ 2000) : unpackL (packL b) = (b, true) := by
  have hp := packL_eq b hb
  obtain ⟨ws, hws⟩ : ∃ ws, (List.range ((b.length + 7) / 8)).map (fun j => val ((b.drop (8 * j)).take 8)) = ws := ⟨_, rfl⟩
  have hwl : ws.length = (b.length + 7) / 8 := by rw [← hws]; simp
  rw [hws] at hp
  have hraw : (rawTo ws ws.length).take b.length = b := by
    apply ext_getD
    · rw [List.length_take, rawTo_length]; omega
    · intro i hi
      rw [List.length_take, rawTo_length] at hi
      rw [getD_take _ _ _ (by omega), raw_get _ _ _ (by omega), ← hws, getD_words b _ (by omega), val_digit ((hb.drop _).take _), getD_take _ _ _ (by omega), getD_drop]
      congr 1
      omega
  unfold unpackL
  rw [hp]
  have hd : ((b.length : Int) :: ws).drop 1 = ws := rfl
  have hg : ((b.length : Int) :: ws).getD 0 0 = (b.length : Int) := rfl
  rw [hd, hg, if_neg (by simp), if_neg (by omega)]
  have hm : min (b.length : Int).toNat (rawTo ws ws.length).length = b.length := by rw [rawTo_length]; omega
  simp only [hm, hraw]
  rw [if_pos hp]

/-! ### The document's Pack -/
theorem word_loop (b : List Int) (hb : Bytes b) (hl : b.length ≤ 2000) (x3 : List Int) (hx3 : x3.length ≤ 1000) (j : Nat) (hj : 8 * j < b.length) : ∀ (t k : Nat), t ≤ 8 →
    trencherref31_Pack.l1 (k + t + 1) b x3 (8 * j : Nat) (val ((b.drop (8 * j + t)).take (8 - t))) ((t : Int) - 1) = trencherref31_Pack.l0 k b (x3 ++ [val ((b.drop (8 * j)).take 8)]) ((8 * (j + 1) : Nat) : Int)
  | 0, k, _ => by
    rw [show k + 0 + 1 = k + 1 from rfl]
    simp only [trencherref31_Pack.l1]
    rw [if_neg (by omega), if_pos (by omega)]
    have hw : wrap64 (((8 * j : Nat) : Int) + 8) = ((8 * (j + 1) : Nat) : Int) := by unfold wrap64; omega
    rw [hw]
    rfl
  | t + 1, k, ht => by
    have ih := word_loop b hb hl x3 hx3 j hj t k (by omega)
    rw [show k + (t + 1) + 1 = (k + t + 1) + 1 from rfl]
    simp only [trencherref31_Pack.l1]
    have e0 : ((t + 1 : Nat) : Int) - 1 = t := by omega
    have hw : wrap64 (((8 * j : Nat) : Int) + (t : Int)) = ((8 * j + t : Nat) : Int) := by unfold wrap64; omega
    have hw2 : wrap64 ((t : Int) - 1) = (t : Int) - 1 := by unfold wrap64; omega
    have hby : Bytes ((b.drop (8 * j + (t + 1))).take (8 - (t + 1))) := (hb.drop _).take _
    have hr := val_range hby
    have hlen : ((b.drop (8 * j + (t + 1))).take (8 - (t + 1))).length ≤ 7 := by rw [List.length_take]; omega
    have hpow : (256 : Int) ^ ((b.drop (8 * j + (t + 1))).take (8 - (t + 1))).length ≤ 256 ^ 7 := by
      rw [pow_256, pow_256]
      exact_mod_cast Nat.pow_le_pow_right (by decide) (by omega)
    have h7 : (256 : Int) ^ 7 = 72057594037927936 := by decide +kernel
    rw [h7] at hpow
    rw [e0, if_pos (by omega), hw, hw2]
    have hu : IntKind.u64.wrap (val ((b.drop (8 * j + (t + 1))).take (8 - (t + 1))) * 256) = val ((b.drop (8 * j + (t + 1))).take (8 - (t + 1))) * 256 := u64_in _ (by omega) (by omega)
    rw [hu]
    by_cases hin : 8 * j + t < b.length
    · have hbt := getD_byte hb (8 * j + t)
      have hu2 : IntKind.u64.wrap (rd b ((8 * j + t : Nat) : Int)) = b.getD (8 * j + t) 0 := by rw [rd_getD]; exact u64_in _ (by omega) (by omega)
      have hu3 : IntKind.u64.wrap (val ((b.drop (8 * j + (t + 1))).take (8 - (t + 1))) * 256 + b.getD (8 * j + t) 0) = val ((b.drop (8 * j + (t + 1))).take (8 - (t + 1))) * 256 + b.getD (8 * j + t) 0 := u64_in _ (by omega) (by omega)
      rw [if_pos (by omega), if_pos (by omega), hu2, hu3]
      have hv : val ((b.drop (8 * j + t)).take (8 - t)) = val ((b.drop (8 * j + (t + 1))).take (8 - (t + 1))) * 256 + b.getD (8 * j + t) 0 := by
        rw [List.drop_eq_getElem_cons hin, show 8 - t = (8 - (t + 1)) + 1 by omega, List.take_succ_cons]
        simp only [val]
        rw [List.getD_eq_getElem?_getD, List.getElem?_eq_getElem hin, Option.getD_some, Int.mul_comm, Int.add_comm]
        rfl
      rw [← hv]
      exact ih
    · have hv : val ((b.drop (8 * j + t)).take (8 - t)) = val ((b.drop (8 * j + (t + 1))).take (8 - (t + 1))) * 256 := by
        rw [List.drop_of_length_le (by omega), List.drop_of_length_le (by omega)]
        simp [val]
      rw [if_neg (by omega), ← hv]
      exact ih
theorem ref_pack_loop (b : List Int) (hb : Bytes b) (hl : b.length ≤ 2000) : ∀ (d j k : Nat), j + d = (b.length + 7) / 8 →
    trencherref31_Pack.l0 (k + 10 * d + 1) b ((b.length : Int) :: (List.range j).map fun j => val ((b.drop (8 * j)).take 8)) ((8 * j : Nat) : Int) = some (packL b)
  | 0, j, k, h => by
    simp only [trencherref31_Pack.l0]
    rw [if_neg (by omega), packL_eq b hb, ← h]
    rfl
  | d + 1, j, k, h => by
    have ih := ref_pack_loop b hb hl d (j + 1) k (by omega)
    rw [show k + 10 * (d + 1) + 1 = (k + 10 * d + 1 + 8 + 1) + 1 by omega]
    simp only [trencherref31_Pack.l0]
    rw [if_pos (by omega)]
    have hlen : ((b.length : Int) :: (List.range j).map fun j => val ((b.drop (8 * j)).take 8)).length ≤ 1000 := by simp; omega
    have := word_loop b hb hl _ hlen j (by omega) 8 (k + 10 * d + 1) (by omega)
    have h8 : ((b.drop (8 * j + 8)).take (8 - 8)) = ([] : List Int) := by simp
    rw [h8] at this
    have h7 : ((8 : Nat) : Int) - 1 = 7 := rfl
    rw [h7] at this
    rw [show val [] = 0 from rfl] at this
    rw [this, ← ih, List.range_succ, List.map_append]
    rfl
theorem ref_pack (b : List Int) (hb : Bytes b) (hl : b.length ≤ 2000) : trencherref31_Pack.f (10 * ((b.length + 7) / 8) + 1) b = some (packL b) := by
  unfold trencherref31_Pack.f
  have := ref_pack_loop b hb hl ((b.length + 7) / 8) 0 0 (by omega)
  rw [u64_in _ (by omega) (by omega)]
  simpa using this
end Go.Proofs.Ytbdedbhafciilaa.Tp
