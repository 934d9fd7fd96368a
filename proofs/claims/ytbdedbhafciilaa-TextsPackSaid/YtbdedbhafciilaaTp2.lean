/- TextsPack, Unpack's contract. -/
import Derived.Test.YtbdedbhafciilaaTp1
import Derived.Test.YtbdedbhafciilaaPTextsPackx1
namespace Go.Proofs.Ytbdedbhafciilaa.Tp
open Go.RowKit Go.Proofs.YtbdedbhafciilaaW.PrintWords Go.Proofs.YtbdedbhafciilaaW.PrintLast Go.Proofs.YtbdedbhafciilaaW.PrintMore Go.Proofs.Ytbdedbhafciilaa.PTextsPack
set_option linter.unusedVariables false
attribute [local go_sem] max2_int min2_int

/-- The low bytes of a word, one behind the other. -/
def low (x : Int) : Nat → List Int
  | 0 => []
  | k + 1 => low x k ++ [x / 256 ^ k % 256]
def rawTo (t : List Int) : Nat → List Int
  | 0 => []
  | j + 1 => rawTo t j ++ low (t.getD j 0) 8
def unpackL (l : List Int) : List Int × Bool :=
  if l.length = 0 then ([], false) else if 2000 < l.getD 0 0 then ([], false) else
    let raw := rawTo (l.drop 1) (l.drop 1).length
    let out := raw.take (min (l.getD 0 0).toNat raw.length)
    if packL out = l then (out, true) else ([], false)
theorem low_length (x : Int) : ∀ k, (low x k).length = k
  | 0 => rfl
  | k + 1 => by simp [low, low_length x k]
theorem rawTo_length (t : List Int) : ∀ j, (rawTo t j).length = 8 * j
  | 0 => rfl
  | j + 1 => by simp [rawTo, rawTo_length t j, low_length]; omega

theorem info5 : (Try.prog.info? 5).map (fun i => (i.zero, i.size, i.bytes)) = some (some (.int .u8 0), 1, 1) := by kernel_rfl

set_option maxHeartbeats 400000 in
theorem unpack_no (A0 : Option Addr) (c0 : Nat) (l0 : List Int) (w : World) (hr0 : Kd.C (Kd.int .u64) w A0 l0.length l0) (hno : l0.length = 0 ∨ 2000 < l0.getD 0 0) (h0 : 0 ≤ l0.getD 0 0) :
    Calls Try.prog 18 #[.slice A0 l0.length c0] w fun e w' => e = .returned (.tuple #[.slice none 0 0, .bool false]) ∧ Below w.heap.size w w' := by
  by_cases hl : l0.length = 0
  · have hb : ((l0.length : Int) == 0) = true := by simp [hl]
    clear hl hno
    go_enter Try.func18, Try.ntmps18
    go_wp2
    go_ret2
    exact ⟨rfl, Below.refl _ _⟩
  · have hb : ((l0.length : Int) == 0) = false := beq_eq_false_iff_ne.mpr (by omega)
    have hp : (0 : Int) < (l0.length : Int) := by omega
    obtain ⟨ad, e, hx⟩ := Kd.at_int hr0 0 (by omega) hp
    cases e
    have hg : 2000 < l0.getD 0 0 := by rcases hno with h | h
                                       · exact absurd h hl
                                       · exact h
    have hrd : rd l0 0 = l0.getD 0 0 := rfl
    rw [hrd, show (0 : Int).toNat = 0 from rfl, show ad.add 0 = ad from by simp [Addr.add]] at hx
    obtain ⟨x, hxx⟩ : ∃ x, l0.getD 0 0 = x := ⟨_, rfl⟩
    rw [hxx] at hx hg h0
    have hgb : decide (2000 < x) = true := decide_eq_true hg
    clear hrd hxx hno hl hr0 hg
    go_enter Try.func18, Try.ntmps18
    go_wp2
    go_ret2
    exact ⟨rfl, Below.refl _ _⟩

theorem u8_wrap (x : Int) : IntKind.u8.wrap x = x % 256 := by rw [IntKind.wrap_u8]

theorem rd_getD (l : List Int) (i : Nat) : rd l (i : Int) = l.getD i 0 := by simp [rd]
/-- slices.Equal tells whether two lists are the same. -/
theorem equal_loop (a b : List Int) (hl : a.length = b.length) (hm : a.length ≤ 9223372036854775806) : ∀ (d k i : Nat), i + d = a.length → d < k →
    slices_Equal_uint64_uint64.l0 k a b (a.length : Int) (i : Int) = some (decide (a.drop i = b.drop i)) := by
  intro d
  induction d with
  | zero =>
    intro k i hi hk
    obtain ⟨k, rfl⟩ : ∃ m, k = m + 1 := ⟨k - 1, by omega⟩
    simp only [slices_Equal_uint64_uint64.l0]
    rw [if_neg (by omega), List.drop_of_length_le (by omega), List.drop_of_length_le (by omega)]
    simp
  | succ d ih =>
    intro k i hi hk
    obtain ⟨k, rfl⟩ : ∃ m, k = m + 1 := ⟨k - 1, by omega⟩
    have hia : i < a.length := by omega
    have hib : i < b.length := by omega
    have hw : wrap64 ((i : Int) + 1) = ((i + 1 : Nat) : Int) := by unfold wrap64; omega
    simp only [slices_Equal_uint64_uint64.l0]
    rw [if_pos (by omega), if_pos (by omega), if_pos (by omega), if_pos (by omega), rd_getD, rd_getD, hw, ih k (i + 1) (by omega) (by omega)]
    have hdr : (a.drop i = b.drop i) ↔ (a[i] = b[i] ∧ a.drop (i + 1) = b.drop (i + 1)) := by
      rw [List.drop_eq_getElem_cons hia, List.drop_eq_getElem_cons hib]
      exact List.cons_eq_cons
    simp only [List.getD_eq_getElem?_getD, List.getElem?_eq_getElem hia, List.getElem?_eq_getElem hib, Option.getD_some]
    by_cases e : a[i] = b[i]
    · rw [if_pos e]
      congr 1
      rw [decide_eq_decide, hdr]
      exact ⟨fun h => ⟨e, h⟩, fun h => h.2⟩
    · rw [if_neg e]
      congr 1
      exact (decide_eq_false (fun h => e (hdr.1 h).1)).symm
theorem equal_f (a b : List Int) (hm : a.length ≤ 9223372036854775806) : slices_Equal_uint64_uint64.f (a.length + 1) a b = some (decide (a = b)) := by
  unfold slices_Equal_uint64_uint64.f
  by_cases hl : a.length = b.length
  · rw [if_pos (by omega)]
    have := equal_loop a b hl hm a.length (a.length + 1) 0 (by omega) (by omega)
    simpa using this
  · rw [if_neg (by omega)]
    have : a ≠ b := fun h => hl (by rw [h])
    rw [decide_eq_false this]
theorem equal_calls (A0 : Option Addr) (n0 c0 : Nat) (a : List Int) (A1 : Option Addr) (n1 c1 : Nat) (b : List Int) (hn0 : a.length = n0) (hn1 : b.length = n1) (w : World) (h0 : Kd.C (Kd.int .u64) w A0 n0 a) (k0 : n0 ≤ c0) (h1 : Kd.C (Kd.int .u64) w A1 n1 b) (k1 : n1 ≤ c1) (hm : n0 ≤ 9223372036854775806) :
    Calls Try.prog 24 #[.slice A0 n0 c0, .slice A1 n1 c1] w fun e w' => e = .returned (.bool (decide (a = b))) ∧ Drawn0 w w' := by
  subst hn0 hn1
  exact slices_Equal_uint64_uint64.calls (a.length + 1) A0 c0 a A1 c1 b _ w h0 k0 h1 k1 (equal_f a b hm)
theorem pack_calls' (A0 : Option Addr) (n c0 : Nat) (l0 : List Int) (hn : l0.length = n) (w : World) (hr0 : Kd.C (Kd.int .u8) w A0 n l0) (hc0 : n ≤ c0) (hlen : n ≤ 2400) (hby : ∀ i, i < n → 0 ≤ l0.getD i 0 ∧ l0.getD i 0 ≤ 255) :
    Calls Try.prog 17 #[.slice A0 n c0] w fun e w' => ∃ v, e = .returned v ∧ Kd.R (Kd.int .u64) 39 w' w.heap.size (fun _ => True) v (packL l0) ∧ Below w.heap.size w w' := by
  subst hn
  exact pack_calls A0 c0 l0 w hr0 hc0 hlen hby
theorem low_range (x : Int) : ∀ k, ∀ b ∈ low x k, 0 ≤ b ∧ b ≤ 255
  | 0, b, h => by simp [low] at h
  | k + 1, b, h => by
    simp only [low, List.mem_append, List.mem_singleton] at h
    rcases h with h | rfl
    · exact low_range x k b h
    · omega
theorem rawTo_range (t : List Int) : ∀ j, ∀ b ∈ rawTo t j, 0 ≤ b ∧ b ≤ 255
  | 0, b, h => by simp [rawTo] at h
  | j + 1, b, h => by
    simp only [rawTo, List.mem_append] at h
    rcases h with h | h
    · exact rawTo_range t j b h
    · exact low_range _ _ b h
theorem getD_mem {l : List Int} {i : Nat} (h : i < l.length) : l.getD i 0 ∈ l := by
  rw [List.getD_eq_getElem?_getD, List.getElem?_eq_getElem h]; exact List.getElem_mem h
theorem C_take' {w : World} {A : Option Addr} {xs : List Int} {m : Nat} (h : Kd.C (Kd.int .u8) w A xs.length xs) (hm : m ≤ xs.length) : Kd.C (Kd.int .u8) w A m (xs.take m) := by
  have := Kd.C_take h hm
  rwa [List.length_take, Nat.min_eq_left hm] at this

set_option maxHeartbeats 1000000 in
theorem unpack_yes (A0 : Option Addr) (c0 : Nat) (l0 : List Int) (w : World) (hr0 : Kd.C (Kd.int .u64) w A0 l0.length l0) (hc0 : l0.length ≤ c0) (hp : 0 < l0.length) (hle : l0.length ≤ 300) (hx0 : 0 ≤ l0.getD 0 0) (hx1 : l0.getD 0 0 ≤ 2000) (hpos : ∀ i, 0 ≤ l0.getD i 0) :
    Calls Try.prog 18 #[.slice A0 l0.length c0] w fun e w' => ∃ A cp, e = .returned (.tuple #[.slice A (unpackL l0).1.length cp, .bool (unpackL l0).2]) ∧ Kd.C (Kd.int .u8) w' A (unpackL l0).1.length (unpackL l0).1 ∧ (unpackL l0).1.length ≤ cp ∧ Below w.heap.size w w' := by
  have hb : ((l0.length : Int) == 0) = false := beq_eq_false_iff_ne.mpr (by omega)
  have hpi : (0 : Int) < (l0.length : Int) := by omega
  obtain ⟨ad, e, hx⟩ := Kd.at_int hr0 0 (by omega) hpi
  cases e
  have hrd : rd l0 0 = l0.getD 0 0 := rfl
  rw [hrd, show (0 : Int).toNat = 0 from rfl, show ad.add 0 = ad from by simp [Addr.add]] at hx
  obtain ⟨x, hxx⟩ : ∃ x, l0.getD 0 0 = x := ⟨_, rfl⟩
  rw [hxx] at hx hx0 hx1
  have hgb : decide (2000 < x) = false := decide_eq_false (by omega)
  have HX := Aside0.mk hxx
  have HR0 := Aside0.mk hr0
  have HPOS := Aside0.mk hpos
  obtain ⟨A', hsl, hsr, hsc⟩ := print_drop_of (P := Try.prog) (Value.int .u64) (0 : Int) 30 39 .i64 (i := (Try.prog.info? 39).get (by kernel_rfl)) Try.underlying30 (by kernel_rfl) (by kernel_rfl) (some ad) c0 l0 1 (by omega) (by omega) hc0
  rw [show (1 : Int).toNat = 1 from rfl] at hsl hsr hsc
  have HS := Aside0.mk (hsr w (Kd.reads_of_C (enc := Value.int .u64) (d := (0 : Int)) (h1 := fun _ => rfl) hr0))
  obtain ⟨t, ht⟩ : ∃ t, l0.drop 1 = t := ⟨_, rfl⟩
  rw [ht] at hsl hsc HS
  have htl : t.length ≤ 299 := by rw [← ht, List.length_drop]; omega
  have HT := Aside0.mk ht
  clear hxx hrd hr0 hpos hsr ht
  go_enter Try.func18, Try.ntmps18
  go_wp2
  clear hsl
  go_loopw [4, 20] (fun v4 v20 wr => ∃ j : Nat, j ≤ t.length ∧ v20 = .int .i64 j ∧ Aside0 (Kd.R (Kd.int .u8) 5 wr w.heap.size (fun _ => True) v4 (rawTo t j)) ∧ Aside0 (Below w.heap.size w wr)) (fun _ v20 _ => t.length - (intOf v20).toNat)
  case atStart => exact ⟨0, by omega, rfl, ⟨Kd.R_nil _ _ _ _ _⟩, ⟨Below.refl _ _⟩⟩
  case round =>
    obtain ⟨j, hj, rfl, HO, HB⟩ := hrel
    by_cases hlt : j < t.length
    · obtain ⟨ad', e, hx'⟩ := ReadsOf.at_ HS.out (j : Int) (by omega) (by omega)
      cases e
      replace hx' := (HB.out.cell (World.block_lt_of_cell? w _ hx')).trans hx'
      have hrd : rdOf (0 : Int) t ((j : Int)) = t.getD j 0 := by simp [rdOf]
      rw [hrd, Int.toNat_natCast] at hx'
      have hy0 : 0 ≤ t.getD j 0 := by
        rw [← HT.out]
        have := HPOS.out (1 + j)
        rw [List.getD_eq_getElem?_getD, List.getElem?_drop, ← List.getD_eq_getElem?_getD]
        exact this
      have hst : Aside0 (rawTo t (j + 1) = rawTo t j ++ low (t.getD j 0) 8) := ⟨rfl⟩
      obtain ⟨y, hy⟩ : ∃ y, t.getD j 0 = y := ⟨_, rfl⟩
      rw [hy] at hx' hy0 hst
      clear hy hrd
      go_wp2
      obtain ⟨wo, hwo⟩ : ∃ wo : World, wo = wr := ⟨_, rfl⟩
      subst hwo
      go_loopw [4, 6, 24] (fun v4 v6 v24 wr => ∃ k : Nat, k ≤ 8 ∧ v24 = .int .i64 k ∧ v6 = .int .u64 (y / 256 ^ k) ∧ Aside0 (Kd.R (Kd.int .u8) 5 wr w.heap.size (fun _ => True) v4 (rawTo t j ++ low y k)) ∧ Aside0 (Below w.heap.size w wr)) (fun _ _ v24 _ => 8 - (intOf v24).toNat)
      case atStart => exact ⟨0, by omega, rfl, by simp, ⟨by simpa [low] using HO.out⟩, HB⟩
      case round =>
        clear HO HB hx'
        obtain ⟨k, hk, rfl, rfl, HO, HB⟩ := hrel
        by_cases hk8 : k < 8
        · have hz0 : 0 ≤ y / 256 ^ k := Int.ediv_nonneg hy0 (Int.pow_nonneg (by omega))
          have hz1 : Aside0 (y / 256 ^ k / 256 = y / 256 ^ (k + 1)) := ⟨by rw [Int.ediv_ediv_of_nonneg (Int.pow_nonneg (by omega)), ← Int.pow_succ]⟩
          have hlow : Aside0 ((rawTo t j ++ low y k) ++ [y / 256 ^ k % 256] = rawTo t j ++ low y (k + 1)) := ⟨by rw [List.append_assoc]; rfl⟩
          have hln : Aside0 ((rawTo t j ++ low y k).length ≤ 3000) := ⟨by rw [List.length_append, rawTo_length, low_length]; omega⟩
          obtain ⟨zs, hzs⟩ : ∃ zs, rawTo t j ++ low y k = zs := ⟨_, rfl⟩
          obtain ⟨z, hz⟩ : ∃ z, y / 256 ^ k = z := ⟨_, rfl⟩
          rw [hzs] at HO hlow hln
          rw [hz] at hz0 hz1 hlow
          rw [hz]
          clear hz hzs
          go_wp2_with (first | ((with_reducible refine gate_builtin (b := .append) (xs := #[.tmp 26, .tmp 29]) rfl ?_); at_builtin; refine Kd.R_append (Kd.int .u8) (w0 := w) w.heap.size rfl (.tmp 26) (.tmp 29) 29 5 (.int .u8 0) 1 rfl Try.underlying29 info5 rfl (by decide) (by omega) _ zs (z % 256) [.int .u8 (z % 256)] (fun _ => True) (fun _ => False) rfl rfl rfl (fun _ hk => hk.elim) (fun _ _ => trivial) HO.out HB.out HB.out.size ?aL ?_; (case aL => have := hln.out; omega); intro v130 w10 ho hb2 hg hat; rw [hlow.out] at ho; have HO2 := Aside0.mk ho; have HB2 := Aside0.mk hb2; clear ho hb2 hg hat HO HB))
          go_roundw
          case rel => exact ⟨k + 1, by omega, by go_num, by rw [hz1.out], HO2, HB2⟩
          case measure => simp [intOf]; omega
        · obtain rfl : k = 8 := by omega
          go_wp2
          go_roundw
          case rel => exact ⟨j + 1, by omega, by go_num, ⟨by rw [hst.out]; exact HO.out⟩, HB⟩
          case measure => simp [intOf]; omega
    · obtain rfl : j = t.length := by omega
      obtain ⟨A, cp, hv4, hcpl, hrd⟩ := Kd.R_reads HO.out
      subst hv4
      replace hx := (HB.out.cell (World.block_lt_of_cell? w _ hx)).trans hx
      have HU : Aside0 (unpackL l0 = if packL ((rawTo t t.length).take (min x.toNat (rawTo t t.length).length)) = l0 then ((rawTo t t.length).take (min x.toNat (rawTo t t.length).length), true) else ([], false)) := ⟨by
        unfold unpackL
        rw [if_neg (by omega), HX.out, if_neg (by omega), HT.out]⟩
      have HRW : Aside0 (∀ b ∈ rawTo t t.length, 0 ≤ b ∧ b ≤ 255) := ⟨rawTo_range t t.length⟩
      have hraw : (rawTo t t.length).length ≤ 2392 := by rw [rawTo_length]; omega
      have HRL := Aside0.mk (Kd.C_below HR0.out HB.out)
      obtain ⟨raw, hraww⟩ : ∃ raw, rawTo t t.length = raw := ⟨_, rfl⟩
      rw [hraww] at HU HRW hraw hrd hcpl
      rw [hraww]
      have HRD := Aside0.mk hrd
      clear hraww HO hrd HS HPOS HT
      by_cases hmx : x ≤ (raw.length : Int)
      · have hmin : min x.toNat raw.length = x.toNat := by omega
        rw [hmin] at HU
        clear hmin
        go_wp2_with fail
        refine (pack_calls' A x.toNat x.toNat (raw.take x.toNat) (by rw [List.length_take]; omega) wr (C_take' HRD.out (by omega)) (by omega) (by omega) (fun i hi => HRW.out _ (List.mem_of_mem_take (getD_mem (by rw [List.length_take]; omega))))).mono ?_
        rintro e w2 ⟨v, rfl, ho2, hb2⟩
        obtain ⟨A2, c2, hv2, hc2, hr2⟩ := Kd.R_reads ho2
        subst hv2
        have HRD2 := Aside0.mk (C_take' (Kd.C_below HRD.out hb2) (show x.toNat ≤ raw.length by omega))
        have HRL2 := Aside0.mk (Kd.C_below HRL.out hb2)
        have HB2 := Aside0.mk (below_step HB.out hb2)
        clear HB HRD HRL ho2 hb2
        go_wp2_with fail
        have hpl : (packL (raw.take x.toNat)).length ≤ 400 := by unfold packL; rw [packTo_length, List.length_take]; omega
        obtain ⟨pk, hpk⟩ : ∃ pk, packL (raw.take x.toNat) = pk := ⟨_, rfl⟩
        rw [hpk] at HU hr2 hc2 hpl
        rw [hpk]
        clear hpk
        refine (equal_calls A2 _ c2 pk (some ad) _ c0 l0 rfl rfl w2 hr2 hc2 HRL2.out hc0 (by omega)).mono ?_
        rintro e w3 ⟨rfl, hd⟩
        have HB3 := Aside0.mk (below_step HB2.out hd.below)
        have HRD3 := Aside0.mk (Kd.C_below HRD2.out hd.below)
        clear HB2 HRD2 HRL2 hd hr2
        by_cases heq : pk = l0
        · have hdec : decide (pk = l0) = true := decide_eq_true heq
          rw [hdec]
          rw [if_pos heq] at HU
          clear hdec heq
          go_wp2
          go_ret2
          refine ⟨A, x.toNat, ?_, ?_, ?_, HB3.out⟩
          · rw [HU.out]; simp only [List.length_take]; rw [Nat.min_eq_left (show x.toNat ≤ raw.length by omega)]; rfl
          · rw [HU.out]; simp only [List.length_take]; rw [Nat.min_eq_left (show x.toNat ≤ raw.length by omega)]; exact HRD3.out
          · rw [HU.out]; simp only [List.length_take]; omega
        · have hdec : decide (pk = l0) = false := decide_eq_false heq
          rw [hdec]
          rw [if_neg heq] at HU
          clear hdec heq
          go_wp2
          go_ret2
          refine ⟨none, 0, ?_, ?_, ?_, HB3.out⟩
          · rw [HU.out]; rfl
          · rw [HU.out]; exact Kd.C_nil _ _
          · rw [HU.out]; simp
      · have hmin : min x.toNat raw.length = raw.length := by omega
        have hmx' : (raw.length : Int) < x := by omega
        rw [hmin, List.take_length] at HU
        clear hmin hmx
        go_wp2_with fail
        refine (pack_calls' A raw.length raw.length raw rfl wr HRD.out (by omega) (by omega) (fun i hi => HRW.out _ (getD_mem hi))).mono ?_
        rintro e w2 ⟨v, rfl, ho2, hb2⟩
        obtain ⟨A2, c2, hv2, hc2, hr2⟩ := Kd.R_reads ho2
        subst hv2
        have HRD2 := Aside0.mk (Kd.C_below HRD.out hb2)
        have HRL2 := Aside0.mk (Kd.C_below HRL.out hb2)
        have HB2 := Aside0.mk (below_step HB.out hb2)
        clear HB HRD HRL ho2 hb2
        go_wp2_with fail
        have hpl : (packL raw).length ≤ 400 := by unfold packL; rw [packTo_length]; omega
        obtain ⟨pk, hpk⟩ : ∃ pk, packL raw = pk := ⟨_, rfl⟩
        rw [hpk] at HU hr2 hc2 hpl
        rw [hpk]
        clear hpk
        refine (equal_calls A2 _ c2 pk (some ad) _ c0 l0 rfl rfl w2 hr2 hc2 HRL2.out hc0 (by omega)).mono ?_
        rintro e w3 ⟨rfl, hd⟩
        have HB3 := Aside0.mk (below_step HB2.out hd.below)
        have HRD3 := Aside0.mk (Kd.C_below HRD2.out hd.below)
        clear HB2 HRD2 HRL2 hd hr2
        by_cases heq : pk = l0
        · have hdec : decide (pk = l0) = true := decide_eq_true heq
          rw [hdec]
          rw [if_pos heq] at HU
          clear hdec heq
          go_wp2
          go_ret2
          refine ⟨A, raw.length, ?_, ?_, ?_, HB3.out⟩
          · rw [HU.out]; rfl
          · rw [HU.out]; exact HRD3.out
          · rw [HU.out]; exact Nat.le_refl _
        · have hdec : decide (pk = l0) = false := decide_eq_false heq
          rw [hdec]
          rw [if_neg heq] at HU
          clear hdec heq
          go_wp2
          go_ret2
          refine ⟨none, 0, ?_, ?_, ?_, HB3.out⟩
          · rw [HU.out]; rfl
          · rw [HU.out]; exact Kd.C_nil _ _
          · rw [HU.out]; simp
end Go.Proofs.Ytbdedbhafciilaa.Tp
