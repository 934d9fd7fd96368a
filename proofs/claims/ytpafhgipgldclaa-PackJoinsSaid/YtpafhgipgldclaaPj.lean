/- PackJoins and PackSplits, the walks: for every layout, values and word the laws' calls return true and turn nothing that was there. Conditions: the slices are read as the row's readings say. -/
import Derived.Test.YtpafhgipgldclaaPl2
import Derived.BigQuiet
namespace Go.Proofs.Ytpafhgipgldclaa
def IsRow (k : IntKind) (w : World) (a : Option Addr) (len cap : Nat) (zs : List Int) : Prop :=
  (a = none ∧ len = 0 ∧ cap = 0 ∧ zs = []) ∨
  ∃ x, a = some x ∧ len ≤ cap ∧ cap ≤ maxLen ∧ zs.length = cap ∧ (∀ i, i < zs.length → w.cell? (x.add i) = some (.int k (zs.getD i 0))) ∧ ∀ n ∈ zs, (Lit.int k n).wf = true
end Go.Proofs.Ytpafhgipgldclaa
namespace Go.Proofs.Ytpafhgipgldclaa.Pj
open Go.RowKit Go.Proofs.YtpafhgipgldclaaW.PrintWords Go.Proofs.YtpafhgipgldclaaW.PrintLast Go.Proofs.YtpafhgipgldclaaW.PrintMore Go.Proofs.Ytpafhgipgldclaa.Pk Go.Proofs.Ytpafhgipgldclaa.Jo Go.Proofs.Ytpafhgipgldclaa.Sp Go.Proofs.Ytpafhgipgldclaa.Pf Go.Proofs.Ytpafhgipgldclaa.Pl
set_option linter.unusedVariables false

theorem getD_mem' {l : List Int} {i : Nat} (h : i < l.length) : l.getD i 0 ∈ l := by
  rw [List.getD_eq_getElem?_getD, List.getElem?_eq_getElem h]; exact List.getElem_mem h
theorem u64_of {l : List Int} (h : ∀ x ∈ l, (Lit.int .u64 x).wf = true) : U64 l := fun i => by
  by_cases hi : i < l.length
  · obtain ⟨n, e, hn⟩ := u64_of_wf (h _ (getD_mem' hi))
    exact ⟨n, e, hn⟩
  · exact ⟨0, by rw [List.getD_eq_getElem?_getD, List.getElem?_eq_none (by omega)]; rfl, by decide⟩
theorem i64_of {l : List Int} (h : ∀ x ∈ l, (Lit.int .i64 x).wf = true) : ∀ i, -9223372036854775808 ≤ l.getD i 0 ∧ l.getD i 0 ≤ 9223372036854775807 := fun i => by
  by_cases hi : i < l.length
  · have := h _ (getD_mem' hi)
    generalize l.getD i 0 = v at this ⊢
    simp [Lit.wf, IntKind.min, IntKind.max, IntKind.signed, IntKind.bits] at this
    omega
  · rw [List.getD_eq_getElem?_getD, List.getElem?_eq_none (by omega)]; simp
/-- A word that is joined is a natural number. -/
theorem joinL_nat : ∀ (ws vs : List Int), U64 vs → ∀ (a : Int) (b : Bool) (x : Nat) (e : Int) (b' : Bool) (y : Int), x < 2 ^ 64 → joinL ws vs a b (x : Int) = some (e, b', y) → 0 ≤ y
  | [], _, _, _, _, x, _, _, _, _, h => by simp only [joinL, Option.some.injEq, Prod.mk.injEq] at h; omega
  | n :: r, vs, hU, a, b, x, e, b', y, hx, h => by
    simp only [joinL] at h
    by_cases hf : fld a n = true
    · rw [if_pos hf] at h
      obtain ⟨a, n, rfl, rfl, h1, h2⟩ := fld_nat hf
      obtain ⟨v, hv, hv64⟩ := hU 0
      rw [hv, pt_nat x v hx hv64 a n h1 h2] at h
      refine joinL_nat r (vs.drop 1) (fun i => ?_) _ _ _ _ _ _ (put_lt hx h2) h
      have := hU (1 + i)
      rwa [show vs.getD (1 + i) 0 = (vs.drop 1).getD i 0 from by rw [List.getD_eq_getElem?_getD, List.getD_eq_getElem?_getD, List.getElem?_drop]] at this
    · rw [if_neg hf] at h; cases h
theorem joinR_nat (ws vs : List Int) (hU : U64 vs) : 0 ≤ (joinR ws vs).1 := by
  rw [joinR_fin]
  by_cases h : vs.length = ws.length
  · rw [if_pos h]
    cases hj : joinL ws vs 0 true 0 with
    | none => exact Int.le_refl _
    | some r =>
      obtain ⟨e, b, y⟩ := r
      cases b with
      | false => exact Int.le_refl _
      | true => exact joinL_nat ws vs hU 0 true 0 e true y (by decide) hj
  · rw [if_neg h]; exact Int.le_refl _

set_option maxHeartbeats 2000000 in
theorem joins_walk (a0 : Option Addr) (len0 cap0 : Nat) (z0 : List Int) (a1 : Option Addr) (len1 cap1 : Nat) (z1 : List Int) (w : World)
    (w0 : IsRow .i64 w a0 len0 cap0 z0) (y0 : len0 * 8 ≤ 140737488351232) (w1 : IsRow .u64 w a1 len1 cap1 z1) (y1 : len1 * 8 ≤ 140737488351232) :
    Calls Try.prog 5 #[.slice a0 len0 cap0, .slice a1 len1 cap1] w fun e w' => e = .returned (.bool true) ∧ Below w.heap.size w w' := by
  obtain ⟨ws, rfl, hr0, hm0, hw0, hc0⟩ := ReadsInt.ofRowC w0
  obtain ⟨vs, rfl, hr1, hm1, hw1, hc1⟩ := ReadsInt.ofRowC w1
  have k0 := Aside0.mk (Kd.C_of_reads (enc := Value.int .i64) (d := (0 : Int)) (h1 := fun _ => rfl) hr0)
  have k1 := Aside0.mk (Kd.C_of_reads (enc := Value.int .u64) (d := (0 : Int)) (h1 := fun _ => rfl) hr1)
  have hB := Aside0.mk (i64_of hw0)
  have hW := Aside0.mk (u64_of hw1)
  clear w0 w1 hr0 hr1 hw0 hw1 hm0 hm1
  by_cases hg : 200 < ws.length ∨ 200 < vs.length
  · have hor : (200 < (ws.length : Int)) ∨ ((ws.length : Int) ≤ 200 ∧ 200 < (vs.length : Int)) := by omega
    clear hg
    rcases hor with h | ⟨h, h'⟩
    · have hd : decide (200 < (ws.length : Int)) = true := decide_eq_true h
      go_enter Try.func5, Try.ntmps5
      go_wp2_with fail
      refine (alive_calls _).mono ?_
      rintro e w2 ⟨rfl, hb⟩
      have HB := Aside0.mk hb
      clear hb
      go_wp2
      go_ret
      exact ⟨rfl, HB.out⟩
    · have hd : decide (200 < (ws.length : Int)) = false := decide_eq_false (by omega)
      have hd' : decide (200 < (vs.length : Int)) = true := decide_eq_true h'
      go_enter Try.func5, Try.ntmps5
      go_wp2_with fail
      refine (alive_calls _).mono ?_
      rintro e w2 ⟨rfl, hb⟩
      have HB := Aside0.mk hb
      clear hb
      go_wp2
      go_ret
      exact ⟨rfl, HB.out⟩
  · have hd : decide (200 < (ws.length : Int)) = false := decide_eq_false (by omega)
    have hd' : decide (200 < (vs.length : Int)) = false := decide_eq_false (by omega)
    have hlb : ws.length ≤ 200 := by omega
    have hll : vs.length ≤ 200 := by omega
    have HJ := Aside0.mk (ref_join ws vs hlb hW.out)
    have HX := Aside0.mk (joinR_nat ws vs hW.out)
    have HSJ := Aside0.mk (split_join ws vs hW.out)
    obtain ⟨x, ok, hxo⟩ : ∃ x ok, joinR ws vs = (x, ok) := ⟨_, _, rfl⟩
    have HXO := Aside0.mk hxo
    rw [hxo] at HJ HX HSJ
    clear hg hxo
    go_enter Try.func5, Try.ntmps5
    go_wp2_with fail
    refine (alive_calls _).mono ?_
    rintro e w2 ⟨rfl, hb⟩
    have HB := Aside0.mk hb
    have K0 := Aside0.mk (Kd.C_below k0.out hb)
    have K1 := Aside0.mk (Kd.C_below k1.out hb)
    clear hb k0 k1
    go_wp2_with fail
    refine (join_calls a0 _ cap0 ws a1 _ cap1 vs w2 rfl rfl K0.out K1.out hB.out (by omega) (by omega)).mono ?_
    rintro e w3 ⟨rfl, hb⟩
    rw [HXO.out]
    have HB3 := Aside0.mk (below_step HB.out hb)
    have K03 := Aside0.mk (Kd.C_below K0.out hb)
    have K13 := Aside0.mk (Kd.C_below K1.out hb)
    clear hb K0 K1 HB HXO
    go_wp2_with fail
    refine (trencherref02_Join.calls 2000 a0 cap0 ws a1 cap1 vs x ok w3 K03.out hc0 K13.out hc1 HJ.out).mono ?_
    rintro e w4 ⟨rfl, hb'⟩
    have hb := hb'.below
    have HB4 := Aside0.mk (below_step HB3.out hb)
    have K04 := Aside0.mk (Kd.C_below K03.out hb)
    have K14 := Aside0.mk (Kd.C_below K13.out hb)
    clear hb hb' K03 K13 HB3 HJ
    cases ok with
    | false =>
      go_wp2
      go_ret
      exact ⟨rfl, HB4.out⟩
    | true =>
      have hsj := HSJ.out rfl
      have HS := Aside0.mk hsj.1
      have HX' := Aside0.mk HX.out
      have hl2 : (vs.length : Int) ≤ 200 := by omega
      clear hsj HSJ HX
      go_wp2_with fail
      refine (split_calls a0 _ cap0 ws x w4 rfl K04.out hB.out (by omega) HX'.out).mono ?_
      rintro e w5 ⟨A5, c5, rfl, hr5, hc5, hb⟩
      rw [HS.out] at hr5 hc5 ⊢
      have HB5 := Aside0.mk (below_step HB4.out hb)
      have K15 := Aside0.mk (Kd.C_below K14.out hb)
      have S5 := Aside0.mk hr5
      clear hb K04 K14 HB4 hr5 HS
      go_wp2_with fail
      go_loopw [11] (fun v wr => ∃ i : Nat, i ≤ vs.length ∧ v = .int .i64 i ∧ ∃ nd, wr = w5.drewN nd) (fun v _ => vs.length - (intOf v).toNat)
      case atStart => exact ⟨0, by omega, rfl, 0, rfl⟩
      case round =>
        obtain ⟨i, hi, rfl, nd, rfl⟩ := hrel
        by_cases hlt : i < vs.length
        · obtain ⟨ad, e, hx⟩ := Kd.at_int S5.out (i : Int) (by omega) (by omega)
          cases e
          obtain ⟨ad1, e, hx1⟩ := Kd.at_int K15.out (i : Int) (by omega) (by omega)
          cases e
          rw [Int.toNat_natCast] at hx hx1
          generalize rd vs (i : Int) = y at hx hx1
          have hi0 : (0 : Int) ≤ (i : Int) := by omega
          have hi1 : (i : Int) < (vs.length : Int) := by omega
          have hnn : (y != y) = false := by simp
          go_wp2
          go_quiet (fail)
          go_wp2
          refine ⟨⟨i + 1, by omega, by push_cast; rfl, _, rfl⟩, ?_⟩
          show vs.length - ((i : Int) + 1).toNat < vs.length - (i : Int).toNat
          omega
        · obtain rfl : i = vs.length := by omega
          go_wp2
          go_ret
          exact ⟨rfl, pw_below_drewN HB5.out _⟩

theorem splitR_len (ws : List Int) (x : Int) : (splitR ws x).1.length ≤ ws.length := by
  unfold splitR
  cases h : splitL ws 0 x [] with
  | none => simp
  | some r =>
    obtain ⟨a, o⟩ := r
    have := (splitL_end ws 0 x [] (by decide) (by decide) a o h).2.2
    simp only []
    split
    · simp
    · simp only [this, List.length_nil]; omega

set_option maxHeartbeats 2000000 in
theorem splits_walk (a0 : Option Addr) (len0 cap0 : Nat) (z0 : List Int) (xx : Int) (w : World)
    (w0 : IsRow .i64 w a0 len0 cap0 z0) (y0 : len0 * 8 ≤ 140737488351232) (wx : (Lit.int .u64 xx).wf = true) :
    Calls Try.prog 6 #[.slice a0 len0 cap0, .int .u64 xx] w fun e w' => e = .returned (.bool true) ∧ Below w.heap.size w w' := by
  obtain ⟨x, rfl, hx⟩ := u64_of_wf wx
  obtain ⟨ws, rfl, hr0, hm0, hw0, hc0⟩ := ReadsInt.ofRowC w0
  have k0 := Aside0.mk (Kd.C_of_reads (enc := Value.int .i64) (d := (0 : Int)) (h1 := fun _ => rfl) hr0)
  have hB := Aside0.mk (i64_of hw0)
  clear w0 hr0 hw0 hm0 wx
  by_cases hg : 200 < ws.length
  · have hd : decide (200 < (ws.length : Int)) = true := decide_eq_true (by omega)
    go_enter Try.func6, Try.ntmps6
    go_wp2_with fail
    refine (alive_calls _).mono ?_
    rintro e w2 ⟨rfl, hb⟩
    have HB := Aside0.mk hb
    clear hb
    go_wp2
    go_ret
    exact ⟨rfl, HB.out⟩
  · have hd : decide (200 < (ws.length : Int)) = false := decide_eq_false (by omega)
    have hlb : ws.length ≤ 200 := by omega
    have HR := ref_split ws x hx hlb
    obtain ⟨vs, ok, hvo⟩ : ∃ vs ok, splitR ws (x : Int) = (vs, ok) := ⟨_, _, rfl⟩
    have HVO := Aside0.mk hvo
    have HL : Aside0 (vs.length ≤ ws.length) := Aside0.mk (by have := splitR_len ws (x : Int); rwa [hvo] at this)
    rw [hvo] at HR
    have HRS := Aside0.mk HR
    clear hg hvo HR
    go_enter Try.func6, Try.ntmps6
    go_wp2_with fail
    refine (alive_calls _).mono ?_
    rintro e w2 ⟨rfl, hb⟩
    have HB := Aside0.mk hb
    have K0 := Aside0.mk (Kd.C_below k0.out hb)
    clear hb k0
    go_wp2_with fail
    refine (split_calls a0 _ cap0 ws (x : Int) w2 rfl K0.out hB.out (by omega) (by omega)).mono ?_
    rintro e w3 ⟨A3, c3, rfl, hr3, hc3, hb⟩
    rw [HVO.out] at hr3 hc3 ⊢
    have HB3 := Aside0.mk (below_step HB.out hb)
    have K03 := Aside0.mk (Kd.C_below K0.out hb)
    have S3 := Aside0.mk hr3
    clear hb K0 HB HVO hr3
    go_wp2_with fail
    refine (trencherref02_Split.calls 2000 a0 cap0 ws (x : Int) vs ok w3 K03.out hc0 HRS.out).mono ?_
    rintro e w4 ⟨v0_, rfl, hR4, hb⟩
    obtain ⟨A4, c4, rfl, hc4, hr4⟩ := Kd.R_reads hR4
    have HB4 := Aside0.mk (below_step HB3.out hb)
    have S34 := Aside0.mk (Kd.C_below S3.out hb)
    have S44 := Aside0.mk hr4
    clear hb K03 HB3 S3 hR4 hr4 HRS
    have hnb : (ok != ok) = false := by cases ok <;> rfl
    have hnl : ((vs.length : Int) != (vs.length : Int)) = false := by simp
    have hl2 : (vs.length : Int) ≤ 200 := by have := HL.out; omega
    go_wp2_with fail
    go_loopw [9] (fun v wr => ∃ i : Nat, i ≤ vs.length ∧ v = .int .i64 i ∧ ∃ nd, wr = w4.drewN nd) (fun v _ => vs.length - (intOf v).toNat)
    case atStart => exact ⟨0, by omega, rfl, 0, rfl⟩
    case round =>
      obtain ⟨i, hi, rfl, nd, rfl⟩ := hrel
      by_cases hlt : i < vs.length
      · obtain ⟨ad, e, hx⟩ := Kd.at_int S34.out (i : Int) (by omega) (by omega)
        cases e
        obtain ⟨ad1, e, hx1⟩ := Kd.at_int S44.out (i : Int) (by omega) (by omega)
        cases e
        rw [Int.toNat_natCast] at hx hx1
        generalize rd vs (i : Int) = y at hx hx1
        have hi0 : (0 : Int) ≤ (i : Int) := by omega
        have hi1 : (i : Int) < (vs.length : Int) := by omega
        have hnn : (y != y) = false := by simp
        go_wp2
        go_quiet (fail)
        go_wp2
        refine ⟨⟨i + 1, by omega, by push_cast; rfl, _, rfl⟩, ?_⟩
        show vs.length - ((i : Int) + 1).toNat < vs.length - (i : Int).toNat
        omega
      · obtain rfl : i = vs.length := by omega
        go_wp2
        go_ret
        exact ⟨rfl, pw_below_drewN HB4.out _⟩
end Go.Proofs.Ytpafhgipgldclaa.Pj
