/- TextsPack, plain lists: the document's Unpack tells what the program's tells (no Go in it). -/
import Derived.Test.YtbdedbhafciilaaTp3
import Derived.Test.YtbdedbhafciilaaPTextsPackx1
namespace Go.Proofs.Ytbdedbhafciilaa.Tp
open Go.RowKit Go.Proofs.YtbdedbhafciilaaW.PrintWords Go.Proofs.Ytbdedbhafciilaa.PTextsPack

/-- Words of 64 bits. -/
def Words64 (l : List Int) : Prop := ∀ x ∈ l, 0 ≤ x ∧ x < 18446744073709551616
theorem getD_word {l : List Int} (h : Words64 l) (i : Nat) : 0 ≤ l.getD i 0 ∧ l.getD i 0 < 18446744073709551616 := by
  by_cases hi : i < l.length
  · exact h _ (getD_mem hi)
  · rw [List.getD_eq_getElem?_getD, List.getElem?_eq_none (by omega)]; simp

theorem tdiv_pos {a b : Int} (h : 0 ≤ a) : Int.tdiv a b = a / b := Int.tdiv_eq_ediv_of_nonneg h
theorem tmod_pos {a b : Int} (h : 0 ≤ a) : Int.tmod a b = a % b := Int.tmod_eq_emod_of_nonneg h

/-- The inner rounds: a word is divided so often. -/
theorem shift_loop (l out : List Int) (i : Nat) (hi : i ≤ 3000) (x : Int) (h0 : 0 ≤ x) (h1 : x < 18446744073709551616) : ∀ (d q k : Nat), q + d = i % 8 →
    trencherref31_Unpack.l1 (k + d) l out (i : Int) (x / 256 ^ q) (q : Int) = trencherref31_Unpack.l1 k l out (i : Int) (x / 256 ^ (i % 8)) ((i % 8 : Nat) : Int)
  | 0, q, k, h => by rw [Nat.add_zero] at h; rw [h]; rfl
  | d + 1, q, k, h => by
    have ih := shift_loop l out i hi x h0 h1 d (q + 1) k (by omega)
    rw [show k + (d + 1) = (k + d) + 1 from rfl]
    have hq : 0 ≤ x / 256 ^ q := Int.ediv_nonneg h0 (Int.pow_nonneg (by omega))
    have hq1 : x / 256 ^ q ≤ x := Int.ediv_le_self _ h0
    have e1 : x / 256 ^ q / 256 = x / 256 ^ (q + 1) := by rw [Int.ediv_ediv_of_nonneg (Int.pow_nonneg (by omega)), ← Int.pow_succ]
    have hm : Int.tmod (i : Int) 8 = ((i % 8 : Nat) : Int) := by rw [tmod_pos (by omega)]; rfl
    have hw : wrap64 ((q : Int) + 1) = ((q + 1 : Nat) : Int) := by unfold wrap64; omega
    rw [← ih]
    conv => lhs; unfold trencherref31_Unpack.l1
    rw [hm, if_pos (by omega), tdiv_pos hq, u64_in _ (by omega) (by omega), e1, hw]

theorem take_succ_getD (l : List Int) (i : Nat) (h : i < l.length) : l.take (i + 1) = l.take i ++ [l.getD i 0] := by
  rw [List.take_succ_eq_append_getElem h, List.getD_eq_getElem?_getD, List.getElem?_eq_getElem h]; rfl

theorem w64 (n : Int) (h0 : -9223372036854775808 ≤ n) (h1 : n ≤ 9223372036854775807) : wrap64 n = n := by unfold wrap64; omega

open Classical in
/-- What is told from byte i on. -/
noncomputable def done (raw : List Int) (n e i : Nat) : List Int × Bool := if ∀ q, i ≤ q → q < e → n ≤ q → raw.getD q 0 = 0 then (raw.take n, true) else ([], false)
theorem done_yes {raw : List Int} {n e i : Nat} (h : ∀ q, i ≤ q → q < e → n ≤ q → raw.getD q 0 = 0) : done raw n e i = (raw.take n, true) := by unfold done; rw [if_pos h]
theorem done_no {raw : List Int} {n e i : Nat} (h : ¬ ∀ q, i ≤ q → q < e → n ≤ q → raw.getD q 0 = 0) : done raw n e i = ([], false) := by unfold done; rw [if_neg h]
theorem done_step {raw : List Int} {n e i : Nat} (h : i < n ∨ raw.getD i 0 = 0) : done raw n e (i + 1) = done raw n e i := by
  by_cases hh : ∀ q, i + 1 ≤ q → q < e → n ≤ q → raw.getD q 0 = 0
  · rw [done_yes hh, done_yes]
    intro q h1 h2 h3
    by_cases eq : q = i
    · subst eq
      rcases h with h | h
      · omega
      · exact h
    · exact hh q (by omega) h2 h3
  · rw [done_no hh, done_no]
    exact fun h2 => hh fun q a b c => h2 q (by omega) b c

/-- One outer round: byte i. -/
theorem ref_unpack_round (l : List Int) (hw : Words64 l) (hl : l.length ≤ 300) (hp : 0 < l.length) (n : Nat) (hn : n ≤ 2000) (hn0 : l.getD 0 0 = (n : Int)) (raw : List Int) (hri : ∀ i, i < 8 * (l.length - 1) → raw.getD i 0 = l.getD (1 + i / 8) 0 / 256 ^ (i % 8) % 256) (hrl : raw.length = 8 * (l.length - 1))
    (i kk : Nat) (hie : i < 8 * (l.length - 1)) (ih' : trencherref31_Unpack.l0 kk l (raw.take (min (i + 1) n)) ((i + 1 : Nat) : Int) = some (done raw n (8 * (l.length - 1)) (i + 1))) :
    trencherref31_Unpack.l0 (kk + 1 + i % 8 + 1) l (raw.take (min i n)) (i : Int) = some (done raw n (8 * (l.length - 1)) i) := by
  have e1 : wrap64 (8 * wrap64 ((l.length : Int) - 1)) = ((8 * (l.length - 1) : Nat) : Int) := by rw [w64 ((l.length : Int) - 1) (by omega) (by omega), w64 _ (by omega) (by omega)]; omega
  have e2 : wrap64 (1 + wrap64 (Int.tdiv (i : Int) 8)) = ((1 + i / 8 : Nat) : Int) := by rw [tdiv_pos (by omega), w64 ((i : Int) / 8) (by omega) (by omega), w64 _ (by omega) (by omega)]; omega
  have e3 : wrap64 ((i : Int) + 1) = ((i + 1 : Nat) : Int) := by rw [w64 _ (by omega) (by omega)]; omega
  have hx := getD_word hw (1 + i / 8)
  have hm8 : i % 8 < 8 := Nat.mod_lt _ (by decide)
  have hs := shift_loop l (raw.take (min i n)) i (by omega) (l.getD (1 + i / 8) 0) hx.1 hx.2 (i % 8) 0 (kk + 1) (by omega)
  rw [Int.pow_zero, Int.ediv_one] at hs
  rw [show ((0 : Nat) : Int) = 0 from rfl] at hs
  have hm : Int.tmod (i : Int) 8 = ((i % 8 : Nat) : Int) := by rw [tmod_pos (by omega)]; rfl
  have hq : 0 ≤ l.getD (1 + i / 8) 0 / 256 ^ (i % 8) := Int.ediv_nonneg hx.1 (Int.pow_nonneg (by omega))
  replace hri := hri i hie
  have h00 : wrap64 (rd l 0) = (n : Int) := by
    rw [show rd l 0 = l.getD 0 0 from rfl, hn0, w64 _ (by omega) (by omega)]
  have hbr : 0 ≤ raw.getD i 0 ∧ raw.getD i 0 ≤ 255 := by rw [hri]; exact ⟨Int.emod_nonneg _ (by decide), by have := Int.emod_lt_of_pos (l.getD (1 + i / 8) 0 / 256 ^ (i % 8)) (show (0 : Int) < 256 by decide); omega⟩
  have e4 : raw.getD i 0 % 256 = raw.getD i 0 := by omega
  have hrd : rd l ((1 + i / 8 : Nat) : Int) = l.getD (1 + i / 8) 0 := rd_getD _ _
  clear hx hw
  generalize l.getD (1 + i / 8) 0 / 256 ^ (i % 8) = xq at *
  generalize l.getD (1 + i / 8) 0 = xw at *
  rw [trencherref31_Unpack.l0, e1, e2, if_pos (by omega), if_pos (by omega), if_pos (by omega), hrd, hs]
  rw [trencherref31_Unpack.l1, hm, if_neg (by omega), if_pos (by omega), h00, tmod_pos hq, ← hri, e3]
  by_cases hin : i < n
  · rw [if_pos (by omega)]
    have hlt : (raw.take (min i n)).length < 140737488355328 := by rw [List.length_take]; omega
    rw [if_pos hlt]
    have e5 : raw.take (min i n) ++ [raw.getD i 0] = raw.take (min (i + 1) n) := by
      rw [Nat.min_eq_left (by omega), Nat.min_eq_left (by omega), take_succ_getD _ _ (by omega)]
    rw [e4, e5, ih', done_step (.inl hin)]
  · rw [if_neg (by omega)]
    have e5 : raw.take (min i n) = raw.take (min (i + 1) n) := by rw [Nat.min_eq_right (by omega), Nat.min_eq_right (by omega)]
    by_cases hz : raw.getD i 0 = 0
    · rw [if_pos hz, e5, ih', done_step (.inr hz)]
    · rw [if_neg hz, done_no (fun hh => hz (hh i (Nat.le_refl _) (by omega) (by omega)))]

/-- The outer rounds: from byte i on. -/
theorem ref_unpack_loop (l : List Int) (hw : Words64 l) (hl : l.length ≤ 300) (hp : 0 < l.length) (n : Nat) (hn : n ≤ 2000) (hn0 : l.getD 0 0 = (n : Int)) (raw : List Int) (hri : ∀ i, i < 8 * (l.length - 1) → raw.getD i 0 = l.getD (1 + i / 8) 0 / 256 ^ (i % 8) % 256) (hrl : raw.length = 8 * (l.length - 1)) (d : Nat) :
    ∀ (i k : Nat), i + d = 8 * (l.length - 1) → trencherref31_Unpack.l0 (k + 10 * d + 1) l (raw.take (min i n)) (i : Int) = some (done raw n (8 * (l.length - 1)) i) := by
  induction d with
  | zero =>
    intro i k h
    have e1 : wrap64 (8 * wrap64 ((l.length : Int) - 1)) = ((8 * (l.length - 1) : Nat) : Int) := by rw [w64 ((l.length : Int) - 1) (by omega) (by omega), w64 _ (by omega) (by omega)]; omega
    rw [trencherref31_Unpack.l0, e1, if_neg (by omega), done_yes (fun q h1 h2 => by omega)]
    by_cases hin : i ≤ n
    · rw [Nat.min_eq_left hin, List.take_of_length_le (by omega), List.take_of_length_le (by omega)]
    · rw [Nat.min_eq_right (by omega)]
  | succ d ih =>
    intro i k h
    have hm8 : i % 8 < 8 := Nat.mod_lt _ (by decide)
    rw [show k + 10 * (d + 1) + 1 = ((k + (8 - i % 8)) + 10 * d + 1) + 1 + i % 8 + 1 by omega]
    exact ref_unpack_round l hw hl hp n hn hn0 raw hri hrl i _ (by omega) (ih (i + 1) (k + (8 - i % 8)) (by omega))

theorem val_zero {l : List Int} (h : Bytes l) : val l = 0 ↔ ∀ i, l.getD i 0 = 0 := by
  constructor
  · intro hv i
    rw [← val_digit h i, hv]
    simp
  · induction l with
    | nil => intro _; rfl
    | cons c r ih =>
      intro hh
      have h0 := hh 0
      have hr : ∀ i, r.getD i 0 = 0 := fun i => by have := hh (i + 1); rwa [List.getD_cons_succ] at this
      have := ih (fun x hx => h x (by simp [hx])) hr
      rw [List.getD_cons_zero] at h0
      simp [val, this, h0]

/-- A word out of its eight bytes. -/
theorem val_low (x : Int) (h0 : 0 ≤ x) : ∀ k, val (low x k) = x % 256 ^ k
  | 0 => by simp [low, val]
  | k + 1 => by
    have hp : (0 : Int) < 256 ^ k := Int.pow_pos (by omega)
    simp only [low]
    rw [val_append, low_length, val_low x h0 k]
    simp only [val, Int.mul_zero, Int.add_zero]
    rw [Int.pow_succ]
    have h1 := Int.emod_add_mul_ediv x (256 ^ k)
    have h2 := Int.emod_add_mul_ediv (x / 256 ^ k) 256
    have h3 := Int.emod_add_mul_ediv x (256 ^ k * 256)
    have h4 : x / (256 ^ k * 256) = x / 256 ^ k / 256 := (Int.ediv_ediv_of_nonneg (by omega)).symm
    rw [h4, Int.mul_assoc] at h3
    have h5 : 256 ^ k * (x / 256 ^ k) = 256 ^ k * (x / 256 ^ k % 256) + 256 ^ k * (256 * (x / 256 ^ k / 256)) := by rw [← Int.mul_add, h2]
    omega

theorem getD_none {l : List Int} {i : Nat} (h : l.length ≤ i) : l.getD i 0 = 0 := by rw [List.getD_eq_getElem?_getD, List.getElem?_eq_none h]; rfl
theorem val_ext : ∀ {a b : List Int}, (∀ k, a.getD k 0 = b.getD k 0) → val a = val b
  | [], b, h => by
    have hz : ∀ c : List Int, (∀ k, c.getD k 0 = 0) → val c = 0 := by
      intro c
      induction c with
      | nil => intro _; rfl
      | cons x r ih =>
        intro hh
        have h0 : x = 0 := hh 0
        have hr := ih (fun i => by have := hh (i + 1); rwa [List.getD_cons_succ] at this)
        simp [val, h0, hr]
    rw [hz b (fun k => by rw [← h k]; rfl)]
    rfl
  | c :: r, [], h => by
    have h0 : c = 0 := h 0
    have := val_ext (a := r) (b := []) (fun k => by have := h (k + 1); rwa [List.getD_cons_succ] at this)
    simp only [val] at this ⊢
    rw [this, h0]; rfl
  | c :: r, d :: s, h => by
    have h0 : c = d := h 0
    have := val_ext (a := r) (b := s) (fun k => by have := h (k + 1); rwa [List.getD_cons_succ, List.getD_cons_succ] at this)
    simp only [val]
    rw [this, h0]

/-- What unpacks is what the document's unpacks. -/
theorem ref_unpack (l : List Int) (hw : Words64 l) (hl : l.length ≤ 300) : ∃ k, trencherref31_Unpack.f k l = some (unpackL l) := by
  by_cases h0 : l.length = 0
  · refine ⟨1, ?_⟩
    unfold trencherref31_Unpack.f unpackL
    rw [if_pos (by omega), if_pos h0]
    rfl
  have hx0 := getD_word hw 0
  by_cases h1 : 2000 < l.getD 0 0
  · refine ⟨1, ?_⟩
    unfold trencherref31_Unpack.f unpackL
    rw [if_neg (by omega), if_pos (by omega), if_pos (show rd l 0 > 2000 from h1), if_neg h0, if_pos h1]
    rfl
  obtain ⟨n, hn⟩ := Int.eq_ofNat_of_zero_le hx0.1
  have hn2 : n ≤ 2000 := by omega
  obtain ⟨raw, hraw⟩ : ∃ raw, rawTo (l.drop 1) (l.drop 1).length = raw := ⟨_, rfl⟩
  have hrl : raw.length = 8 * (l.length - 1) := by rw [← hraw, rawTo_length, List.length_drop]
  have hri : ∀ i, i < 8 * (l.length - 1) → raw.getD i 0 = l.getD (1 + i / 8) 0 / 256 ^ (i % 8) % 256 := fun i hi => by
    rw [← hraw, raw_get _ _ _ (by rw [List.length_drop]; omega), getD_drop]
  have hrb : Bytes raw := by rw [← hraw]; exact rawTo_range _ _
  have hU : unpackL l = if packL (raw.take (min n raw.length)) = l then (raw.take (min n raw.length), true) else ([], false) := by
    unfold unpackL
    rw [if_neg h0, if_neg h1, hraw, hn]
    simp
  have e1 : wrap64 (rd l 0) = (n : Int) := by rw [show rd l 0 = l.getD 0 0 from rfl, hn, w64 _ (by omega) (by omega)]
  have e2 : wrap64 (Int.tdiv (wrap64 ((n : Int) + 7)) 8) = (((n + 7) / 8 : Nat) : Int) := by
    rw [w64 ((n : Int) + 7) (by omega) (by omega), tdiv_pos (by omega), w64 _ (by omega) (by omega)]; omega
  have e3 : wrap64 ((l.length : Int) - 1) = ((l.length - 1 : Nat) : Int) := by rw [w64 _ (by omega) (by omega)]; omega
  have hf : ∀ k, trencherref31_Unpack.f k l = trencherref31_Unpack.j0 k l ((((n + 7) / 8 : Nat) : Int) != ((l.length - 1 : Nat) : Int)) := by
    intro k
    unfold trencherref31_Unpack.f
    rw [if_neg (by omega), if_pos (by omega), if_neg (show ¬ rd l 0 > 2000 from h1), e1, e2, e3]
  have hol : (raw.take (min n raw.length)).length = min n raw.length := by rw [List.length_take]; omega
  by_cases hm : (n + 7) / 8 = l.length - 1
  · refine ⟨(0 + 10 * (8 * (l.length - 1)) + 1) + 1, ?_⟩
    rw [hf, hm, hU]
    have hmin : min n raw.length = n := by omega
    rw [hmin] at hol ⊢
    rw [trencherref31_Unpack.j0]
    rw [if_neg (by simp)]
    have hlp := ref_unpack_loop l hw hl (by omega) n hn2 hn raw hri hrl (8 * (l.length - 1)) 0 0 (by omega)
    rw [Nat.zero_min, List.take_zero] at hlp
    rw [show ((0 : Nat) : Int) = 0 from rfl] at hlp
    rw [hlp]
    congr 1
    have hpk := packL_eq (raw.take n) (hrb.take n)
    rw [hol, hm] at hpk
    have hwd : ∀ j, j < l.length - 1 → ((List.range (l.length - 1)).map fun j => val (((raw.take n).drop (8 * j)).take 8)).getD j 0 = val (((raw.take n).drop (8 * j)).take 8) := by
      intro j hj
      rw [List.getD_eq_getElem?_getD]
      simp [hj]
    by_cases hz : ∀ q, 0 ≤ q → q < 8 * (l.length - 1) → n ≤ q → raw.getD q 0 = 0
    · rw [done_yes hz, if_pos]
      rw [hpk]
      apply ext_getD
      · simp; omega
      · intro i hi
        rw [List.length_cons, List.length_map, List.length_range] at hi
        cases i with
        | zero => rw [List.getD_cons_zero, hn]
        | succ j =>
          rw [List.getD_cons_succ, hwd j (by omega)]
          have hx := getD_word hw (j + 1)
          have hv := val_low (l.getD (j + 1) 0) hx.1 8
          have h256 : (256 : Int) ^ 8 = 18446744073709551616 := by decide +kernel
          rw [h256, Int.emod_eq_of_lt hx.1 hx.2] at hv
          rw [← hv]
          apply val_ext
          intro k
          by_cases hk : k < 8
          · rw [low_get _ 8 k hk, getD_take _ _ _ hk, getD_drop]
            have hr := hri (8 * j + k) (by omega)
            have e4 : 1 + (8 * j + k) / 8 = j + 1 := by omega
            have e5 : (8 * j + k) % 8 = k := by omega
            rw [e4, e5] at hr
            rw [← hr]
            by_cases hq : 8 * j + k < n
            · rw [getD_take _ _ _ hq]
            · rw [hz (8 * j + k) (by omega) (by omega) (by omega), getD_none (by rw [hol]; omega)]
          · rw [getD_none (by rw [List.length_take]; omega), getD_none (by rw [low_length]; omega)]
    · rw [done_no hz, if_neg]
      intro hp
      apply hz
      intro q _ hq hnq
      rw [hri q hq, ← hp, hpk, Nat.add_comm 1, List.getD_cons_succ, hwd _ (by omega), val_digit (((hrb.take n).drop _).take _), getD_take _ _ _ (by omega), getD_drop]
      exact getD_none (by rw [hol]; omega)
  · refine ⟨1, ?_⟩
    rw [hf, hU, if_neg]
    · have hb : ((((n + 7) / 8 : Nat) : Int) != ((l.length - 1 : Nat) : Int)) = true := by rw [bne_iff_ne]; omega
      rw [hb]
      rfl
    · intro hp
      have hpk := packL_eq (raw.take (min n raw.length)) (hrb.take _)
      rw [hp, hol] at hpk
      have hh : l.getD 0 0 = ((min n raw.length : Nat) : Int) := by rw [hpk]; rfl
      have hll : l.length = (min n raw.length + 7) / 8 + 1 := by
        have := congrArg List.length hpk
        simpa using this
      omega
end Go.Proofs.Ytbdedbhafciilaa.Tp
