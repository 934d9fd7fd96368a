/- TextsPack, the walk: for every bytes and every words the law's call returns true and turns nothing that was there. Condition: the slices are read as the row's readings say. -/
import Derived.Test.YtbdedbhafciilaaTp4
import Derived.Lib.SlBytesConst
namespace Go.Proofs.Ytbdedbhafciilaa.Tp
open Go.RowKit Go.Proofs.YtbdedbhafciilaaW.PrintWords Go.Proofs.YtbdedbhafciilaaW.PrintLast Go.Proofs.YtbdedbhafciilaaW.PrintMore Go.Proofs.Ytbdedbhafciilaa.PTextsPack
set_option linter.unusedVariables false

theorem words_loop (a : List Int) (hm : a.length ≤ 9223372036854775806) (d : Nat) : ∀ (k i : Nat), i + d = a.length → d < k → trencherref12_Words.l0 k a a (i : Int) = some true := by
  induction d with
  | zero =>
    intro k i hi hk
    obtain ⟨k, rfl⟩ : ∃ m, k = m + 1 := ⟨k - 1, by omega⟩
    simp only [trencherref12_Words.l0]
    rw [if_neg (by omega)]
  | succ d ih =>
    intro k i hi hk
    obtain ⟨k, rfl⟩ : ∃ m, k = m + 1 := ⟨k - 1, by omega⟩
    have hw : wrap64 ((i : Int) + 1) = ((i + 1 : Nat) : Int) := by rw [w64 _ (by omega) (by omega)]; omega
    simp only [trencherref12_Words.l0]
    rw [if_pos (by omega), if_pos (by omega), if_pos (by omega), if_pos trivial, hw]
    exact ih k (i + 1) (by omega) (by omega)
theorem words_same (a : List Int) (hm : a.length ≤ 9223372036854775806) : trencherref12_Words.f (a.length + 1) a a = some true := by
  unfold trencherref12_Words.f
  rw [if_pos rfl]
  exact words_loop a hm a.length _ 0 (by omega) (by omega)
theorem words_calls (A0 : Option Addr) (n0 c0 : Nat) (a : List Int) (A1 : Option Addr) (n1 c1 : Nat) (hn0 : a.length = n0) (hn1 : a.length = n1) (w : World) (h0 : Kd.C (Kd.int .u64) w A0 n0 a) (k0 : n0 ≤ c0) (h1 : Kd.C (Kd.int .u64) w A1 n1 a) (k1 : n1 ≤ c1) (hm : n0 ≤ 9223372036854775806) :
    Calls Try.prog 20 #[.slice A0 n0 c0, .slice A1 n1 c1] w fun e w' => e = .returned (.bool true) ∧ Drawn0 w w' := by
  subst hn0 hn1
  exact trencherref12_Words.calls (a.length + 1) A0 c0 a A1 c1 a _ w h0 k0 h1 k1 (words_same a hm)

theorem abc : packL [97, 98, 99] = [3, 6513249] := by decide +kernel

/-- A row of cells, written out, is read. -/
theorem C_cells {k : IntKind} (W : World) (b : Nat) (l : List Int) (hl : l.length ≤ 9223372036854775807) (h : ∀ j, j < l.length → W.cell? ⟨b, j, none⟩ = some (.int k (l.getD j 0))) : Kd.C (Kd.int k) W (some ⟨b, 0, none⟩) l.length l := by
  refine Kd.C_of_reads (enc := Value.int k) (d := (0 : Int)) (h1 := fun _ => rfl) ⟨rfl, hl, fun _ => ⟨_, rfl, fun j hj => ?_⟩⟩
  rw [add_plain]
  exact h j hj

set_option maxHeartbeats 400000 in
theorem alive_calls (w : World) : Calls Try.prog 16 #[] w fun e w' => e = .returned (.bool true) ∧ Below w.heap.size w w' := by
  have kc := fun (w : World) (C : Array Value) (n c : Nat) => Lib.run_convert_bytes_const (P := Try.prog) w 29 5 C n c Try.underlying29 Try.underlying5
  go_enter Try.func16, Try.ntmps16
  go_wp2_with fail
  refine (pack_calls' (some ⟨w.heap.size, 0, none⟩) 3 3 [97, 98, 99] rfl _ (C_cells _ _ [97, 98, 99] (by decide) ?hc) (by decide) (by decide) (by decide)).mono ?_
  case hc =>
    intro j hj
    match j, hj with
    | 0, _ => rw [World.cell?_alloc_mark]; rfl
    | 1, _ => rw [World.cell?_alloc_mark]; rfl
    | 2, _ => rw [World.cell?_alloc_mark]; rfl
  rintro e w1 ⟨v, rfl, ho, hb⟩
  obtain ⟨A, c, hv, hc, hr⟩ := Kd.R_reads ho
  subst hv
  rw [abc] at hr hc
  have HR := Aside0.mk hr
  have HB := Aside0.mk (below_then ((Below.refl w.heap.size w).alloc (Nat.le_refl _) (.cells #[.int .u8 97, .int .u8 98, .int .u8 99] 5 (3, 4))) (by simp) hb)
  rw [abc, show ([3, 6513249] : List Int).length = 2 from rfl]
  clear hr ho hb
  go_wp2_with fail
  refine (words_calls A 2 c [3, 6513249] (some ⟨w1.heap.size, 0, none⟩) 2 2 rfl rfl _ (Kd.C_alloc HR.out _) hc (C_cells _ _ [3, 6513249] (by decide) ?hc) (by decide) (by decide)).mono ?_
  case hc =>
    intro j hj
    match j, hj with
    | 0, _ => simp [go_sem]
    | 1, _ => simp [go_sem]
  rintro e w2 ⟨rfl, hd⟩
  have HB2 := Aside0.mk (below_then (HB.out.alloc HB.out.size (.cells #[.int .u64 3, .int .u64 6513249] 39)) (by simp; have := HB.out.size; omega) hd.below)
  clear hd HR HB
  go_wp2
  go_ret
  exact ⟨rfl, HB2.out⟩

theorem packL_words (b : List Int) (hb : Bytes b) (hl : b.length ≤ 2000) : Words64 (packL b) := by
  rw [packL_eq b hb]
  intro x hx
  rcases List.mem_cons.1 hx with rfl | hx
  · omega
  · obtain ⟨j, _, rfl⟩ := List.mem_map.1 hx
    have h1 := val_range ((hb.drop (8 * j)).take 8)
    have h2 : (256 : Int) ^ ((b.drop (8 * j)).take 8).length ≤ 256 ^ 8 := by
      rw [pow_256, pow_256]
      exact_mod_cast Nat.pow_le_pow_right (by decide) (by rw [List.length_take]; omega)
    have h8 : (256 : Int) ^ 8 = 18446744073709551616 := by decide +kernel
    rw [h8] at h2
    omega
theorem unpack_calls (A0 : Option Addr) (n c0 : Nat) (l0 : List Int) (hn : l0.length = n) (w : World) (hr0 : Kd.C (Kd.int .u64) w A0 n l0) (hc0 : n ≤ c0) (hle : n ≤ 300) (hw : Words64 l0) :
    Calls Try.prog 18 #[.slice A0 n c0] w fun e w' => ∃ A cp, e = .returned (.tuple #[.slice A (unpackL l0).1.length cp, .bool (unpackL l0).2]) ∧ Kd.C (Kd.int .u8) w' A (unpackL l0).1.length (unpackL l0).1 ∧ (unpackL l0).1.length ≤ cp ∧ Below w.heap.size w w' := by
  subst hn
  by_cases hno : l0.length = 0 ∨ 2000 < l0.getD 0 0
  · refine (unpack_no A0 c0 l0 w hr0 hno (getD_word hw 0).1).mono ?_
    rintro e w' ⟨rfl, hb⟩
    have hU : unpackL l0 = ([], false) := by
      unfold unpackL
      rcases hno with h | h
      · rw [if_pos h]
      · by_cases h0 : l0.length = 0
        · rw [if_pos h0]
        · rw [if_neg h0, if_pos h]
    rw [hU]
    exact ⟨none, 0, rfl, Kd.C_nil _ _, by simp, hb⟩
  · exact unpack_yes A0 c0 l0 w hr0 hc0 (by omega) hle (getD_word hw 0).1 (by omega) (fun i => (getD_word hw i).1)

set_option maxHeartbeats 1000000 in
theorem law_walk (a0 : Option Addr) (len0 cap0 : Nat) (z0 : List Int) (a1 : Option Addr) (len1 cap1 : Nat) (z1 : List Int) (w : World)
    (w0 : (a0 = none ∧ len0 = 0 ∧ cap0 = 0 ∧ z0 = []) ∨ ∃ x, a0 = some x ∧ len0 ≤ cap0 ∧ cap0 ≤ maxLen ∧ z0.length = cap0 ∧ (∀ i, i < z0.length → w.cell? (x.add i) = some (.int .u8 (z0.getD i 0))) ∧ ∀ n ∈ z0, (Lit.int .u8 n).wf = true) (y0 : len0 * 1 ≤ 140737488351232)
    (w1 : (a1 = none ∧ len1 = 0 ∧ cap1 = 0 ∧ z1 = []) ∨ ∃ x, a1 = some x ∧ len1 ≤ cap1 ∧ cap1 ≤ maxLen ∧ z1.length = cap1 ∧ (∀ i, i < z1.length → w.cell? (x.add i) = some (.int .u64 (z1.getD i 0))) ∧ ∀ n ∈ z1, (Lit.int .u64 n).wf = true) (y1 : len1 * 8 ≤ 140737488351232) :
    Calls Try.prog 5 #[.slice a0 len0 cap0, .slice a1 len1 cap1] w fun e w' => e = .returned (.bool true) ∧ Below w.heap.size w w' := by
  obtain ⟨b, rfl, hr0, hm0, hw0, hc0⟩ := ReadsInt.ofRowC w0
  obtain ⟨l, rfl, hr1, hm1, hw1, hc1⟩ := ReadsInt.ofRowC w1
  have k0 := Aside0.mk (Kd.C_of_reads (enc := Value.int .u8) (d := (0 : Int)) (h1 := fun _ => rfl) hr0)
  have k1 := Aside0.mk (Kd.C_of_reads (enc := Value.int .u64) (d := (0 : Int)) (h1 := fun _ => rfl) hr1)
  have hB := Aside0.mk (show Bytes b from fun c hc => by have := hw0 c hc; simp [Lit.wf, IntKind.min, IntKind.max, IntKind.signed, IntKind.bits] at this; omega)
  have hW := Aside0.mk (show Words64 l from fun c hc => by have := hw1 c hc; simp [Lit.wf, IntKind.min, IntKind.max, IntKind.signed, IntKind.bits] at this; omega)
  clear w0 w1 hr0 hr1 hw0 hw1 hm0 hm1
  by_cases hg : 2000 < b.length ∨ 300 < l.length
  · have hor : (2000 < (b.length : Int)) ∨ ((b.length : Int) ≤ 2000 ∧ 300 < (l.length : Int)) := by omega
    clear hg
    rcases hor with h | ⟨h, h'⟩
    · have hd : decide (2000 < (b.length : Int)) = true := decide_eq_true h
      go_enter Try.func5, Try.ntmps5
      go_wp2_with fail
      refine (alive_calls _).mono ?_
      rintro e w2 ⟨rfl, hb⟩
      have HB := Aside0.mk hb
      clear hb
      go_wp2
      go_ret
      exact ⟨rfl, HB.out⟩
    · have hd : decide (2000 < (b.length : Int)) = false := decide_eq_false (by omega)
      have hd' : decide (300 < (l.length : Int)) = true := decide_eq_true h'
      go_enter Try.func5, Try.ntmps5
      go_wp2_with fail
      refine (alive_calls _).mono ?_
      rintro e w2 ⟨rfl, hb⟩
      have HB := Aside0.mk hb
      clear hb
      go_wp2
      go_ret
      exact ⟨rfl, HB.out⟩
  · have hd : decide (2000 < (b.length : Int)) = false := decide_eq_false (by omega)
    have hd' : decide (300 < (l.length : Int)) = false := decide_eq_false (by omega)
    have hlb : b.length ≤ 2000 := by omega
    have hll : l.length ≤ 300 := by omega
    clear hg
    go_enter Try.func5, Try.ntmps5
    go_wp2_with fail
    refine (alive_calls _).mono ?_
    rintro e w2 ⟨rfl, hb⟩
    have HB := Aside0.mk hb
    have K0 := Aside0.mk (Kd.C_below k0.out hb)
    have K1 := Aside0.mk (Kd.C_below k1.out hb)
    clear hb k0 k1
    go_wp2_with fail
    refine (pack_calls' a0 _ cap0 b rfl w2 K0.out hc0 (by omega) (fun i hi => getD_byte hB.out i)).mono ?_
    rintro e w3 ⟨v, rfl, ho, hb⟩
    obtain ⟨A2, c2, hv, hc2, hr2⟩ := Kd.R_reads ho
    subst hv
    have hpl : (packL b).length ≤ 300 := by unfold packL; rw [packTo_length]; omega
    have P3 := Aside0.mk hr2
    have HB3 := Aside0.mk (below_step HB.out hb)
    have K03 := Aside0.mk (Kd.C_below K0.out hb)
    have K13 := Aside0.mk (Kd.C_below K1.out hb)
    clear hb K0 K1 HB ho hr2
    go_wp2_with fail
    have hUP := Aside0.mk (unpack_pack b hB.out hlb)
    refine (unpack_calls A2 _ c2 (packL b) rfl w3 P3.out hc2 hpl (packL_words b hB.out hlb)).mono ?_
    rintro e w4 ⟨A3, c3, rfl, hr4, hc3, hb⟩
    rw [hUP.out] at hr4 hc3 ⊢
    have P4 := Aside0.mk (Kd.C_below P3.out hb)
    have U4 := Aside0.mk hr4
    have HB4 := Aside0.mk (below_step HB3.out hb)
    have K04 := Aside0.mk (Kd.C_below K03.out hb)
    have K14 := Aside0.mk (Kd.C_below K13.out hb)
    clear hb K03 K13 HB3 hr4 P3
    go_wp2_with fail
    refine (unpack_calls a1 _ cap1 l rfl w4 K14.out hc1 hll hW.out).mono ?_
    rintro e w5 ⟨A5, c5, rfl, hr5, hc5, hb⟩
    have P5 := Aside0.mk (Kd.C_below P4.out hb)
    have U5 := Aside0.mk (Kd.C_below U4.out hb)
    have V5 := Aside0.mk hr5
    have HB5 := Aside0.mk (below_step HB4.out hb)
    have K05 := Aside0.mk (Kd.C_below K04.out hb)
    have K15 := Aside0.mk (Kd.C_below K14.out hb)
    clear hb K04 K14 HB4 hr5 P4 U4
    obtain ⟨kk, hkk⟩ := ref_unpack l hW.out hll
    obtain ⟨r1, r2, hrr⟩ : ∃ r1 r2, unpackL l = (r1, r2) := ⟨_, _, rfl⟩
    rw [hrr] at hkk V5 hc5 ⊢
    have HK := Aside0.mk hkk
    clear hkk hrr
    go_wp2_with fail
    refine (trencherref31_Unpack.calls kk a1 cap1 l r1 r2 w5 K15.out hc1 HK.out).mono ?_
    rintro e w6 ⟨v6, rfl, ho6, hb⟩
    obtain ⟨A6, c6, hv, hc6, hr6⟩ := Kd.R_reads ho6
    subst hv
    have P6 := Aside0.mk (Kd.C_below P5.out hb)
    have U6 := Aside0.mk (Kd.C_below U5.out hb)
    have V6 := Aside0.mk (Kd.C_below V5.out hb)
    have X6 := Aside0.mk hr6
    have HB6 := Aside0.mk (below_step HB5.out hb)
    have K06 := Aside0.mk (Kd.C_below K05.out hb)
    clear hb K05 K15 HB5 hr6 ho6 P5 U5 V5 HK
    go_wp2_with fail
    refine (trencherref31_Pack.calls _ a0 cap0 b (packL b) w6 K06.out hc0 (ref_pack b hB.out hlb)).mono ?_
    rintro e w7 ⟨v7, rfl, ho7, hb⟩
    obtain ⟨A7, c7, hv, hc7, hr7⟩ := Kd.R_reads ho7
    subst hv
    have P7 := Aside0.mk (Kd.C_below P6.out hb)
    have U7 := Aside0.mk (Kd.C_below U6.out hb)
    have V7 := Aside0.mk (Kd.C_below V6.out hb)
    have X7 := Aside0.mk (Kd.C_below X6.out hb)
    have Y7 := Aside0.mk hr7
    have HB7 := Aside0.mk (below_step HB6.out hb)
    have K07 := Aside0.mk (Kd.C_below K06.out hb)
    clear hb K06 HB6 hr7 ho7 P6 U6 V6 X6
    go_wp2_with fail
    refine (words_calls A2 _ c2 (packL b) A7 _ c7 rfl rfl w7 P7.out hc2 Y7.out hc7 (by omega)).mono ?_
    rintro e w8 ⟨rfl, hd⟩
    have hb := hd.below
    have s1 := Kd.C_string (P := Try.prog) (c := c3) (dst := 9) Try.underlying29 Try.underlying5 Try.underlying9 (Kd.C_below U7.out hb)
    have s2 := Kd.C_string (P := Try.prog) (c := cap0) (dst := 9) Try.underlying29 Try.underlying5 Try.underlying9 (Kd.C_below K07.out hb)
    have s3 := Kd.C_string (P := Try.prog) (c := c5) (dst := 9) Try.underlying29 Try.underlying5 Try.underlying9 (Kd.C_below V7.out hb)
    have s4 := Kd.C_string (P := Try.prog) (c := c6) (dst := 9) Try.underlying29 Try.underlying5 Try.underlying9 (Kd.C_below X7.out hb)
    have HB8 := Aside0.mk (below_step HB7.out hb)
    clear hb hd HB7 K07 P7 U7 V7 X7 Y7
    go_wp2
    go_ret
    exact ⟨rfl, HB8.out⟩

end Go.Proofs.Ytbdedbhafciilaa.Tp
