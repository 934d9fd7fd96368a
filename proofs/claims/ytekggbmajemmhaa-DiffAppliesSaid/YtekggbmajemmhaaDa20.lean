/- Parts of one proof, set together: Ap20, Ap21, Ap22, Di6, Di7, Di8. What each says stands at its head; no condition beyond theirs. -/
import Derived.Test.YtekggbmajemmhaaDa19
import Derived.Deep.SlicePairs
import Derived.Deep.Strs
import Derived.Lib.SmallJoins
import Derived.OpenShut
import Derived.ProofKit
import Derived.WalkKit
/- The document's Apply. Conditions: the graph and the changes lie in memory and are small. -/
namespace Go.Proofs.Ytekggbmajemmhaa.Gr
open Go.RowKit Go.Shelf Go.Maps Go.ChangeMaps Go.MapKept Go.Proofs.YtekggbmajemmhaaW.PrintWords Go.Proofs.YtekggbmajemmhaaW.PrintLast Go.Proofs.YtekggbmajemmhaaW.PrintMore
set_option linter.unusedSimpArgs false
set_option linter.unusedVariables false
set_option maxRecDepth 100000 in
theorem c10_eq : c10 = .seq (lft c10) (.seq (lft (rgt c10)) (.seq (lft (rgt (rgt c10))) (.seq (.seq (lft (lft (rgt (rgt (rgt c10))))) (.block 0 cLoop)) (rgt (rgt (rgt (rgt c10))))))) := by kernel_rfl
/-- What the change's box leaves. -/
def P06Out (W : World) (g4 i : Nat) (y vt vn : Value) (c : Ch) (e : Exit) (a : Act) (w : World) : Prop := e = .normal ∧ ∃ g9, W.heap.size ≤ g9 ∧ w.heap[g9]? = some (.cells #[.int .i64 c.k, .int .i64 c.a, .int .i64 c.i, .int .u64 c.was, .int .u64 c.is] 44 (0, 0)) ∧ Below W.heap.size W w ∧ Fr a [(1, y), (4, .pointer (some ⟨g4, 0, none⟩)), (5, .bool false), (6, vt), (7, vn), (8, .int .i64 (i : Int)), (9, .pointer (some ⟨g9, 0, none⟩))]
set_option maxHeartbeats 8000000 in
set_option maxRecDepth 100000 in
theorem p06_wp (W : World) (g4 i len c0 : Nat) (A1 : Option Addr) (vt vn : Value) (l : List Ch) (B : Nat) (HC : Aside0 (CM W B A1 len l)) (hlen : i < len) (a : Act) (hf : Fr a [(1, .slice A1 len c0), (4, .pointer (some ⟨g4, 0, none⟩)), (5, .bool false), (6, vt), (7, vn), (8, .int .i64 (i : Int))]) : Code.wp Try.prog (lft cBody) (P06Out W g4 i (.slice A1 len c0) vt vn (l.getD i default)) a W := by
  obtain ⟨yl, ey, hyb, hz0, hz1, hz2, hz3, hz4⟩ := HC.out.2 i hlen
  subst ey
  obtain ⟨ch, hch⟩ : ∃ x, x = l.getD i default := ⟨_, rfl⟩
  rw [← hch] at hz0 hz1 hz2 hz3 hz4
  rw [← hch]
  clear hch
  obtain ⟨ck, ca, ci, cw, cs⟩ := ch
  dsimp only at hz0 hz1 hz2 hz3 hz4
  have hzz1 : W.cell? { block := (yl.add (i * 5)).block, off := (yl.add (i * 5)).off + 1 } = some (.int .i64 ca) := hz1
  have hzz2 : W.cell? { block := (yl.add (i * 5)).block, off := (yl.add (i * 5)).off + 2 } = some (.int .i64 ci) := hz2
  have hzz3 : W.cell? { block := (yl.add (i * 5)).block, off := (yl.add (i * 5)).off + 3 } = some (.int .u64 cw) := hz3
  have hzz4 : W.cell? { block := (yl.add (i * 5)).block, off := (yl.add (i * 5)).off + 4 } = some (.int .u64 cs) := hz4
  have hzz0 : W.cell? (yl.add (i * 5)) = some (.int .i64 ck) := (congrArg _ (add_zero _).symm).trans hz0
  clear hz0 hz1 hz2 hz3 hz4
  have hi0 : (0 : Int) ≤ (i : Int) := by omega
  have hi1 : (i : Int) < (len : Int) := by omega
  obtain ⟨hf1, hf4, hf5, hf6, hf7, hf8, hd_, hs_⟩ := hf
  obtain ⟨u, hu, ha_⟩ := frame_open a hd_ hs_
  have hv1 := (hu 1).symm.trans hf1
  have hv4 := (hu 4).symm.trans hf4
  have hv5 := (hu 5).symm.trans hf5
  have hv6 := (hu 6).symm.trans hf6
  have hv7 := (hu 7).symm.trans hf7
  have hv8 := (hu 8).symm.trans hf8
  clear hd_ hs_ hu hf1 hf4 hf5 hf6 hf7 hf8
  subst ha_
  simp only [hv1, hv4, hv5, hv6, hv7, hv8]
  clear hv1 hv4 hv5 hv6 hv7 hv8
  conv => arg 2; whnf
  go_wp2
  exact ⟨rfl, W.heap.size, Nat.le_refl _, blk_new _ _, below_alloc (Below.refl _ _) _, ⟨rfl, rfl, rfl, rfl, rfl, rfl, rfl, rfl, rfl⟩⟩
def P11Out (W : World) (L : List (Nat × Value)) (e : Exit) (a : Act) (w : World) : Prop := e = .normal ∧ w = W ∧ Fr a L
set_option maxHeartbeats 8000000 in
set_option maxRecDepth 100000 in
theorem p11_wp (W : World) (g4 g9 i : Nat) (y vt vn : Value) (a : Act) (hf : Fr a [(1, y), (4, .pointer (some ⟨g4, 0, none⟩)), (5, .bool false), (6, vt), (7, vn), (8, .int .i64 (i : Int)), (9, .pointer (some ⟨g9, 0, none⟩))]) : Code.wp Try.prog (lft cT1) (P11Out W [(1, y), (4, .pointer (some ⟨g4, 0, none⟩)), (5, .bool false), (6, vt), (7, vn), (8, .int .i64 (i : Int)), (9, .pointer (some ⟨g9, 0, none⟩)), (10, .int .i64 (-1))]) a W := by
  obtain ⟨hf1, hf4, hf5, hf6, hf7, hf8, hf9, hd_, hs_⟩ := hf
  obtain ⟨u, hu, ha_⟩ := frame_open a hd_ hs_
  have hv1 := (hu 1).symm.trans hf1
  have hv4 := (hu 4).symm.trans hf4
  have hv5 := (hu 5).symm.trans hf5
  have hv6 := (hu 6).symm.trans hf6
  have hv7 := (hu 7).symm.trans hf7
  have hv8 := (hu 8).symm.trans hf8
  have hv9 := (hu 9).symm.trans hf9
  clear hd_ hs_ hu hf1 hf4 hf5 hf6 hf7 hf8 hf9
  subst ha_
  simp only [hv1, hv4, hv5, hv6, hv7, hv8, hv9]
  clear hv1 hv4 hv5 hv6 hv7 hv8 hv9
  conv => arg 2; whnf
  go_wp2
  exact ⟨rfl, rfl, rfl, rfl, rfl, rfl, rfl, rfl, rfl, rfl, rfl, rfl⟩
set_option maxHeartbeats 8000000 in
set_option maxRecDepth 100000 in
theorem p12_wp (W : World) (g4 g9 i : Nat) (y vt vn : Value) (a : Act) (hf : Fr a [(1, y), (4, .pointer (some ⟨g4, 0, none⟩)), (5, .bool false), (6, vt), (7, vn), (8, .int .i64 (i : Int)), (9, .pointer (some ⟨g9, 0, none⟩)), (10, .int .i64 (-1))]) : Code.wp Try.prog (lft (rgt cT1)) (P11Out W [(1, y), (4, .pointer (some ⟨g4, 0, none⟩)), (5, .bool false), (6, vt), (7, vn), (8, .int .i64 (i : Int)), (9, .pointer (some ⟨g9, 0, none⟩)), (10, .int .i64 (-1)), (11, .int .i64 0)]) a W := by
  obtain ⟨hf1, hf4, hf5, hf6, hf7, hf8, hf9, hf10, hd_, hs_⟩ := hf
  obtain ⟨u, hu, ha_⟩ := frame_open a hd_ hs_
  have hv1 := (hu 1).symm.trans hf1
  have hv4 := (hu 4).symm.trans hf4
  have hv5 := (hu 5).symm.trans hf5
  have hv6 := (hu 6).symm.trans hf6
  have hv7 := (hu 7).symm.trans hf7
  have hv8 := (hu 8).symm.trans hf8
  have hv9 := (hu 9).symm.trans hf9
  have hv10 := (hu 10).symm.trans hf10
  clear hd_ hs_ hu hf1 hf4 hf5 hf6 hf7 hf8 hf9 hf10
  subst ha_
  simp only [hv1, hv4, hv5, hv6, hv7, hv8, hv9, hv10]
  clear hv1 hv4 hv5 hv6 hv7 hv8 hv9 hv10
  conv => arg 2; whnf
  go_wp2
  exact ⟨rfl, rfl, rfl, rfl, rfl, rfl, rfl, rfl, rfl, rfl, rfl, rfl, rfl⟩
theorem Fr.drop {a : Act} {k : Nat} {v : Value} {l : List (Nat × Value)} (h : Fr a ((k, v) :: l)) : Fr a l := h.2
/-- A round's body. -/
theorem body_wp (wb W : World) (g4 i len c0 : Nat) (A1 : Option Addr) (vt vn : Value) (R : List Int) (M : List Nd) (l : List Ch) (B : Nat) (HC : Aside0 (CM W B A1 len l)) (HW : Aside0 (CW l)) (hlen : i < len) (hM : M.length ≤ 900) (HS : Aside0 (RS wb W g4 vt vn R M)) (a : Act) (hf : Fr a [(1, .slice A1 len c0), (4, .pointer (some ⟨g4, 0, none⟩)), (5, .bool false), (6, vt), (7, vn), (8, .int .i64 (i : Int))]) : Code.wp Try.prog cBody (BodyOut wb g4 i (.slice A1 len c0) R M (l.getD i default)) a W := by
  have hcm : l.getD i default ∈ l := by
    rw [List.getD_eq_getElem?_getD, List.getElem?_eq_getElem (show i < l.length by have := HC.out.1; omega)]
    exact List.getElem_mem _
  obtain ⟨hwa, hws⟩ := HW.out _ hcm
  rw [cBody_eq]
  refine wp_seq (wp_mono (p06_wp W g4 i len c0 A1 vt vn l B HC hlen a hf) ?_)
  generalize l.getD i default = ch at hcm hwa hws ⊢
  rintro e a1 w1 ⟨rfl, g9, hg9, hbk, hb1, hf1⟩
  obtain ⟨ck, ca, ci, cw, cs⟩ := ch
  have HS1 := Aside0.mk (HS.out.to hb1)
  refine wp_seq (wp_mono (p1_wp wb w1 g4 g9 i (.slice A1 len c0) vt vn R M ck ca ci cw cs HS1 (Aside0.mk hbk) a1 hf1) ?_)
  rintro e a2 w2 (⟨hn4, rfl, rfl, hf2⟩ | ⟨_, hout, hne⟩)
  case inr => cases e <;> first | exact absurd rfl hne | exact hout
  show Code.wp _ cT1 _ _ _
  rw [cT1_eq]
  refine wp_seq (wp_mono (p11_wp w2 g4 g9 i (.slice A1 len c0) vt vn a2 hf2) ?_)
  rintro e a3 w3 ⟨rfl, rfl, hf3⟩
  refine wp_seq (wp_mono (p12_wp w3 g4 g9 i (.slice A1 len c0) vt vn a3 hf3) ?_)
  rintro e a4 w4 ⟨rfl, rfl, hf4⟩
  obtain ⟨A0, cn, e0⟩ := row40_slice HS1.out.rows
  subst e0
  refine wp_seq (wp_mono (p2_wp wb w4 g4 g9 i (.slice A1 len c0) vt A0 M.length cn M ck ca ci cw cs (Aside0.mk HS1.out.rows) (by omega) (Aside0.mk hbk) a4 hf4) ?_)
  rintro e a5 w5 ⟨rfl, hb5, hf5⟩
  have HS5 := Aside0.mk (HS1.out.to hb5)
  have hbk5 := blk_below hbk hb5
  show Code.wp _ cT2 _ _ _
  rw [cT2_eq]
  refine wp_seq (wp_mono (p3_wp wb w5 g4 g9 i (.slice A1 len c0) vt (.slice A0 M.length cn) R M (lastAt (adrs M) ca M.length) (lastBeh (adrs M) ca M.length) ck ca ci cw cs rfl rfl (Aside0.mk hws) hM HS5 (Aside0.mk hbk5) a5 hf5) ?_)
  rintro e a6 w6 (⟨hn2, rfl, rfl, hf6⟩ | ⟨_, hout, hne⟩)
  case inr => cases e <;> first | exact absurd rfl hne | exact hout
  refine wp_seq (wp_mono (p4_wp wb w6 g4 g9 i (.slice A1 len c0) vt (.slice A0 M.length cn) R M (lastAt (adrs M) ca M.length) (lastBeh (adrs M) ca M.length) ck ca ci cw cs rfl hn2 hn4 HS5 (Aside0.mk hbk5) a6 hf6) ?_)
  rintro e a7 w7 (⟨rfl, rfl, hf7, ⟨ix, hix, hla⟩, hk1, hk5⟩ | ⟨rfl, hno, hret⟩)
  case inr => exact .inl ⟨rfl, hno, hret⟩
  rw [hla] at hf7
  obtain ⟨q, hq, _, hqa⟩ := find_some_of hix
  refine wp_seq (wp_mono (p26_wp wb w7 g4 g9 i (.slice A1 len c0) vt (.slice A0 M.length cn) R M ix _ q hq HS5 a7 hf7) ?_)
  rintro e a8 w8 ⟨rfl, g13, hg13, hbk13, hb8, hf8⟩
  have hbk8 := blk_below hbk5 hb8
  have HS8 := Aside0.mk (HS5.out.to hb8)
  refine wp_seq (wp_mono (p6_wp wb w8 g4 g9 g13 i (.slice A1 len c0) vt (.slice A0 M.length cn) R M ix _ q ck ca ci cw cs hix hq (Aside0.mk hws) hM HS8 (Aside0.mk hbk8) (Aside0.mk hbk13) a8 hf8) ?_)
  rintro e a9 w9 (⟨⟨hn1, hn3⟩, rfl, rfl, hf9⟩ | ⟨_, hout, hne⟩)
  case inr => cases e <;> first | exact absurd rfl hne | exact hout
  show Code.wp _ (rgt cT5) _ _ _
  rcases (by omega : ck = 4 ∨ ck = 5) with rfl | rfl
  · exact p7_4 wb w7 w9 g4 g9 g13 i _ vt _ R M ix _ q ca ci cw cs hn4 hix hq HS5 (Aside0.mk hb8) hg13 (Aside0.mk hbk8) (Aside0.mk hbk13) a9 hf9
  · exact p7_5 wb w7 w9 g4 g9 g13 i _ vt _ R M ix _ q ca ci cw cs hn4 hix hq HS5 (Aside0.mk hb8) hg13 (Aside0.mk hbk8) (Aside0.mk hbk13) a9 hf9
/-! ### The loop -/
def P04Out (W : World) (g4 i len : Nat) (y vt vn : Value) (e : Exit) (a : Act) (w : World) : Prop := w = W ∧ Fr a [(1, y), (4, .pointer (some ⟨g4, 0, none⟩)), (5, .bool false), (6, vt), (7, vn), (8, .int .i64 (i : Int))] ∧ ((i < len ∧ e = .normal) ∨ (¬ i < len ∧ e = .exit 0))
set_option maxHeartbeats 8000000 in
set_option maxRecDepth 100000 in
theorem p04_wp (W : World) (g4 i len c0 : Nat) (A1 : Option Addr) (vt vn : Value) (a : Act) (hf : Fr a [(1, .slice A1 len c0), (4, .pointer (some ⟨g4, 0, none⟩)), (5, .bool false), (6, vt), (7, vn), (8, .int .i64 (i : Int))]) : Code.wp Try.prog (lft cL) (P04Out W g4 i len (.slice A1 len c0) vt vn) a W := by
  obtain ⟨hf1, hf4, hf5, hf6, hf7, hf8, hd_, hs_⟩ := hf
  obtain ⟨u, hu, ha_⟩ := frame_open a hd_ hs_
  have hv1 := (hu 1).symm.trans hf1
  have hv4 := (hu 4).symm.trans hf4
  have hv5 := (hu 5).symm.trans hf5
  have hv6 := (hu 6).symm.trans hf6
  have hv7 := (hu 7).symm.trans hf7
  have hv8 := (hu 8).symm.trans hf8
  clear hd_ hs_ hu hf1 hf4 hf5 hf6 hf7 hf8
  subst ha_
  simp only [hv1, hv4, hv5, hv6, hv7, hv8]
  clear hv1 hv4 hv5 hv6 hv7 hv8
  by_cases h : i < len
  · have hd : decide ((i : Int) < (len : Int)) = true := decide_eq_true (by omega)
    have HH := Aside0.mk h
    conv => arg 2; whnf
    go_wp2
    exact ⟨rfl, ⟨rfl, rfl, rfl, rfl, rfl, rfl, rfl, rfl⟩, .inl ⟨HH.out, rfl⟩⟩
  · have hd : decide ((i : Int) < (len : Int)) = false := decide_eq_false (by omega)
    have HH := Aside0.mk (show ¬ i < len from h)
    conv => arg 2; whnf
    go_wp2
    exact ⟨rfl, ⟨rfl, rfl, rfl, rfl, rfl, rfl, rfl, rfl⟩, .inr ⟨HH.out, rfl⟩⟩
def P05Out (W : World) (g4 i : Nat) (y vt vn : Value) (e : Exit) (a : Act) (w : World) : Prop := e = .normal ∧ w = W ∧ ∃ z : Int, z = (i : Int) + 1 ∧ Fr a [(1, y), (4, .pointer (some ⟨g4, 0, none⟩)), (5, .bool false), (6, vt), (7, vn), (8, .int .i64 z)]
set_option maxHeartbeats 8000000 in
set_option maxRecDepth 100000 in
theorem p05_wp (W : World) (g4 i : Nat) (hi : i ≤ 1000) (y vt vn : Value) (a : Act) (hf : Fr a [(1, y), (4, .pointer (some ⟨g4, 0, none⟩)), (5, .bool false), (6, vt), (7, vn), (8, .int .i64 (i : Int))]) : Code.wp Try.prog (rgt (rgt cL)) (P05Out W g4 i y vt vn) a W := by
  obtain ⟨hf1, hf4, hf5, hf6, hf7, hf8, hd_, hs_⟩ := hf
  obtain ⟨u, hu, ha_⟩ := frame_open a hd_ hs_
  have hv1 := (hu 1).symm.trans hf1
  have hv4 := (hu 4).symm.trans hf4
  have hv5 := (hu 5).symm.trans hf5
  have hv6 := (hu 6).symm.trans hf6
  have hv7 := (hu 7).symm.trans hf7
  have hv8 := (hu 8).symm.trans hf8
  clear hd_ hs_ hu hf1 hf4 hf5 hf6 hf7 hf8
  subst ha_
  simp only [hv1, hv4, hv5, hv6, hv7, hv8]
  clear hv1 hv4 hv5 hv6 hv7 hv8
  conv => arg 2; whnf
  go_wp2
  exact ⟨rfl, rfl, _, rfl, ⟨rfl, rfl, rfl, rfl, rfl, rfl, rfl, rfl⟩⟩
def LoopOut (wb : World) (g4 : Nat) (r : Option (List Int × List Pn)) (e : Exit) (a : Act) (w : World) : Prop :=
  (e = .ret ∧ r = none ∧ RetNo wb g4 a w) ∨ (e = .exit 0 ∧ ∃ vt vn R M, r = some (R, M.map Nd.pn) ∧ Fr a [(4, .pointer (some ⟨g4, 0, none⟩)), (5, .bool false), (6, vt), (7, vn)] ∧ RS wb w g4 vt vn R M)
theorem loop_wp (wb W : World) (g4 len c0 B : Nat) (hB : B ≤ wb.heap.size) (A1 : Option Addr) (s : List Int × List Pn) (l : List Ch) (HC : Aside0 (CM wb B A1 len l)) (HW : Aside0 (CW l)) (hlen : len ≤ 60) (vt vn : Value) (R : List Int) (M : List Nd) (hs : s = (R, M.map Nd.pn)) (hM : M.length ≤ 40) (HS : RS wb W g4 vt vn R M) (a : Act) (hf : Fr a [(1, .slice A1 len c0), (4, .pointer (some ⟨g4, 0, none⟩)), (5, .bool false), (6, vt), (7, vn), (8, .int .i64 ((0 : Nat) : Int))]) : Code.wp Try.prog cLoop (LoopOut wb g4 (applyAll s l)) a W := by
  rw [cLoop_eq]
  refine wp_loop (fun a w => ∃ (i : Nat) (vt vn : Value) (R : List Int) (M : List Nd), i ≤ len ∧ Fr a [(1, .slice A1 len c0), (4, .pointer (some ⟨g4, 0, none⟩)), (5, .bool false), (6, vt), (7, vn), (8, .int .i64 (i : Int))] ∧ RS wb w g4 vt vn R M ∧ applyAll s (l.take i) = some (R, M.map Nd.pn) ∧ M.length ≤ 40 + i) (fun a _ => len - (intOf (a.tmps.getD 8 undef)).toNat) ⟨0, vt, vn, R, M, Nat.zero_le _, hf, HS, by rw [hs]; rfl, hM⟩ ?_
  rintro a w ⟨i, vt, vn, R, M, hi, hf, hS, hap, hM⟩
  have h8 : a.tmps.getD 8 undef = .int .i64 (i : Int) := hf.2.2.2.2.2.1
  rw [cL_eq]
  refine wp_seq (wp_mono (p04_wp w g4 i len c0 A1 vt vn a hf) ?_)
  rintro e a1 w1 ⟨rfl, hf1, ⟨hlt, rfl⟩ | ⟨hge, rfl⟩⟩
  · have hcm := Aside0.mk (HC.out.kept fun k hk => hS.hb.block k (by omega))
    have hb := body_wp wb w1 g4 i len c0 A1 vt vn R M l B hcm HW hlt (by omega) (Aside0.mk hS) a1 hf1
    have hstep : applyAll s (l.take (i + 1)) = applyP (R, M.map Nd.pn) (l.getD i default) := by
      rw [ch_take (show i < l.length by have := HC.out.1; omega), applyAll_snoc, hap]
      rfl
    refine wp_seq (wp_block (wp_mono hb ?_))
    rintro e a2 w2 (⟨rfl, hno, hret⟩ | ⟨hex, vt', vn', R', M', hyes, hf2, hS2, hl2⟩)
    · exact .inl ⟨rfl, applyAll_dead (i := i + 1) (by rw [hstep]; exact hno), hret⟩
    · have hnext : Code.wp Try.prog (rgt (rgt cL)) (Exit.then (fun a' w' => (∃ (i : Nat) (vt vn : Value) (R : List Int) (M : List Nd), i ≤ len ∧ Fr a' [(1, .slice A1 len c0), (4, .pointer (some ⟨g4, 0, none⟩)), (5, .bool false), (6, vt), (7, vn), (8, .int .i64 (i : Int))] ∧ RS wb w' g4 vt vn R M ∧ applyAll s (l.take i) = some (R, M.map Nd.pn) ∧ M.length ≤ 40 + i) ∧ len - (intOf (a'.tmps.getD 8 undef)).toNat < len - (intOf (a.tmps.getD 8 undef)).toNat) (LoopOut wb g4 (applyAll s l))) a2 w2 := by
        refine wp_mono (p05_wp w2 g4 i (by omega) _ vt' vn' a2 hf2) ?_
        rintro e a3 w3 ⟨rfl, rfl, z, hz, hf3⟩
        have hz2 : z = ((i + 1 : Nat) : Int) := by rw [hz]; push_cast; rfl
        rw [hz2] at hf3
        have h83 : a3.tmps.getD 8 undef = .int .i64 ((i + 1 : Nat) : Int) := hf3.2.2.2.2.2.1
        refine ⟨⟨i + 1, vt', vn', R', M', by omega, hf3, hS2, by rw [hstep]; exact hyes, by omega⟩, ?_⟩
        rw [h8, h83]
        exact meas_i hlt rfl
      rcases hex with rfl | rfl
      · exact hnext
      · exact hnext
  · refine .inr ⟨rfl, vt, vn, R, M, ?_, ⟨hf1.2.1, hf1.2.2.1, hf1.2.2.2.1, hf1.2.2.2.2.1, hf1.2.2.2.2.2.2⟩, hS⟩
    rw [List.take_of_length_le (by have := HC.out.1; omega)] at hap
    exact hap
end Go.Proofs.Ytekggbmajemmhaa.Gr
/- The document's Apply, the function. Conditions: the graph and the changes lie in memory and are small. -/
namespace Go.Proofs.Ytekggbmajemmhaa.Gr
open Go.RowKit Go.Shelf Go.Maps Go.ChangeMaps Go.MapKept Go.Proofs.YtekggbmajemmhaaW.PrintWords Go.Proofs.YtekggbmajemmhaaW.PrintLast Go.Proofs.YtekggbmajemmhaaW.PrintMore
set_option linter.unusedSimpArgs false
set_option linter.unusedVariables false
def Q0Out (W : World) (g : Gd) (y : Value) (e : Exit) (a : Act) (w : World) : Prop := e = .normal ∧ ∃ g2 g4, W.heap.size ≤ g4 ∧ w.heap[g2]? = some (.cells #[.slice g.rA g.rl g.rc, .slice g.nA g.nl g.nc] 25 (0, 0)) ∧ w.heap[g4]? = some (.cells #[.slice none 0 0, .slice none 0 0] 25 (0, 0)) ∧ Below W.heap.size W w ∧ Fr a [(1, y), (2, .pointer (some ⟨g2, 0, none⟩)), (4, .pointer (some ⟨g4, 0, none⟩)), (5, .bool false)]
set_option maxHeartbeats 8000000 in
set_option maxRecDepth 100000 in
theorem q0_wp (W : World) (g : Gd) (A1 : Option Addr) (len c0 : Nat) (a : Act) (hf : Fr a [(0, .agg #[.slice g.rA g.rl g.rc, .slice g.nA g.nl g.nc]), (1, .slice A1 len c0)]) : Code.wp Try.prog (lft c10) (Q0Out W g (.slice A1 len c0)) a W := by
  obtain ⟨hf0, hf1, hd_, hs_⟩ := hf
  obtain ⟨u, hu, ha_⟩ := frame_open a hd_ hs_
  have hv0 := (hu 0).symm.trans hf0
  have hv1 := (hu 1).symm.trans hf1
  clear hd_ hs_ hu hf0 hf1
  subst ha_
  simp only [hv0, hv1]
  clear hv0 hv1
  conv => arg 2; whnf
  go_wp2
  refine ⟨rfl, W.heap.size, W.heap.size + 1, Nat.le_succ _, ?_, ?_, below_alloc (below_alloc (Below.refl _ _) _) _, ⟨rfl, rfl, rfl, rfl, rfl, rfl⟩⟩
  · exact blk_alloc (blk_new W _) _
  · have h := blk_new (W.alloc (.cells #[.slice g.rA g.rl g.rc, .slice g.nA g.nl g.nc] 25)) (.cells #[.slice none 0 0, .slice none 0 0] 25)
    rw [World.size_alloc] at h
    exact h
def Q1Out (W : World) (g2 g4 : Nat) (g : Gd) (y : Value) (e : Exit) (a : Act) (w : World) : Prop := e = .normal ∧ ∃ vt, w.ownsRow W.heap.size 3 1 vt g.rl (g.R.map (Value.int .i64)) ∧ Below W.heap.size W w ∧ Fr a [(1, y), (2, .pointer (some ⟨g2, 0, none⟩)), (4, .pointer (some ⟨g4, 0, none⟩)), (5, .bool false), (6, vt)]
set_option maxHeartbeats 8000000 in
set_option maxRecDepth 100000 in
theorem q1_wp (W : World) (g2 g4 : Nat) (g : Gd) (hr : g.rl ≤ 40) (HI : Aside0 (IL .i64 W W.heap.size g.rA g.rl g.R)) (BK2 : Aside0 (W.heap[g2]? = some (.cells #[.slice g.rA g.rl g.rc, .slice g.nA g.nl g.nc] 25 (0, 0)))) (A1 : Option Addr) (len c0 : Nat) (a : Act) (hf : Fr a [(1, .slice A1 len c0), (2, .pointer (some ⟨g2, 0, none⟩)), (4, .pointer (some ⟨g4, 0, none⟩)), (5, .bool false)]) : Code.wp Try.prog (lft (rgt c10)) (Q1Out W g2 g4 g (.slice A1 len c0)) a W := by
  obtain ⟨i0, hi, hz0, hz1, hz2⟩ := info_parts info3
  obtain ⟨hf1, hf2, hf4, hf5, hd_, hs_⟩ := hf
  obtain ⟨u, hu, ha_⟩ := frame_open a hd_ hs_
  have hv1 := (hu 1).symm.trans hf1
  have hv2 := (hu 2).symm.trans hf2
  have hv4 := (hu 4).symm.trans hf4
  have hv5 := (hu 5).symm.trans hf5
  clear hd_ hs_ hu hf1 hf2 hf4 hf5
  subst ha_
  simp only [hv1, hv2, hv4, hv5]
  clear hv1 hv2 hv4 hv5
  have hx2 : (W.alloc (.cells #[] 3)).cell? ⟨g2, 0, none⟩ = some (.slice g.rA g.rl g.rc) := (blk_cell (blk_alloc BK2.out _) 0).trans rfl
  conv => arg 2; whnf
  go_wp2_with (at_builtin; refine wpList_append_il rfl (.tmp 15) (.tmp 17) 22 rfl .i64 W.heap.size W.heap.size 3 i0 (.int .i64 0) 8 Try.underlying22 hi hz0 hz1 hz2 rfl (.slice (some ⟨W.heap.size, 0, none⟩) 0 0) 0 [] rfl (row_empty (blk_new W (.cells #[] 3)) (Nat.le_refl _)) g.rA g.rl g.rc g.R rfl (HI.out.kept fun k hk => Below.heap_alloc W _ k hk) (by unfold maxLen; omega) (by omega) (by rw [World.size_alloc]; omega) ?_; rw [Nat.zero_add, List.nil_append]; intro v1 w1 hown1 hgr1; have R1 := Aside0.mk hown1; have HB1 := Aside0.mk (own_below (below_alloc (Below.refl W.heap.size W) (.cells #[] 3)) (Nat.le_refl _) (row_empty (s := 1) (blk_new W (.cells #[] 3)) (Nat.le_refl _)) hgr1); clear hown1 hgr1)
  exact ⟨rfl, _, R1.out, HB1.out, ⟨rfl, rfl, rfl, rfl, rfl, rfl, rfl⟩⟩
def Q2Out (W : World) (g2 g4 : Nat) (g : Gd) (y vt : Value) (e : Exit) (a : Act) (w : World) : Prop := e = .normal ∧ ∃ vn, w.ownsRow W.heap.size 40 6 vn (sorted g.NS (walkR g.NS g.R)).length (nds (sorted g.NS (walkR g.NS g.R))) ∧ Below W.heap.size W w ∧ Fr a [(1, y), (2, .pointer (some ⟨g2, 0, none⟩)), (4, .pointer (some ⟨g4, 0, none⟩)), (5, .bool false), (6, vt), (7, vn)]
set_option maxHeartbeats 8000000 in
set_option maxRecDepth 100000 in
theorem q2_wp (W : World) (B : Nat) (hBW : B ≤ W.heap.size) (g2 g4 : Nat) (g : Gd) (hsm : Small g) (HGW : Aside0 (GM W B g)) (BK2 : Aside0 (W.heap[g2]? = some (.cells #[.slice g.rA g.rl g.rc, .slice g.nA g.nl g.nc] 25 (0, 0)))) (A1 : Option Addr) (len c0 : Nat) (vt : Value) (a : Act) (hf : Fr a [(1, .slice A1 len c0), (2, .pointer (some ⟨g2, 0, none⟩)), (4, .pointer (some ⟨g4, 0, none⟩)), (5, .bool false), (6, vt)]) : Code.wp Try.prog (lft (rgt (rgt c10))) (Q2Out W g2 g4 g (.slice A1 len c0) vt) a W := by
  obtain ⟨hf1, hf2, hf4, hf5, hf6, hd_, hs_⟩ := hf
  obtain ⟨u, hu, ha_⟩ := frame_open a hd_ hs_
  have hv1 := (hu 1).symm.trans hf1
  have hv2 := (hu 2).symm.trans hf2
  have hv4 := (hu 4).symm.trans hf4
  have hv5 := (hu 5).symm.trans hf5
  have hv6 := (hu 6).symm.trans hf6
  clear hd_ hs_ hu hf1 hf2 hf4 hf5 hf6
  subst ha_
  simp only [hv1, hv2, hv4, hv5, hv6]
  clear hv1 hv2 hv4 hv5 hv6
  have hx2_0 : W.cell? ⟨g2, 0, none⟩ = some (.slice g.rA g.rl g.rc) := (blk_cell BK2.out 0).trans rfl
  have hx2_1 : W.cell? ⟨g2, 1, none⟩ = some (.slice g.nA g.nl g.nc) := (blk_cell BK2.out 1).trans rfl
  conv => arg 2; whnf
  go_wp2_with (go_at_call 14; refine (rnodes_calls _ B hBW g hsm HGW).mono ?_; rintro e w2 ⟨v2, rfl, hr2, hb2⟩; have R2 := Aside0.mk hr2; have HB2 := Aside0.mk hb2; clear hr2 hb2)
  exact ⟨rfl, _, R2.out, HB2.out, ⟨rfl, rfl, rfl, rfl, rfl, rfl, rfl, rfl⟩⟩
def Q3Out (W : World) (L : List (Nat × Value)) (e : Exit) (a : Act) (w : World) : Prop := e = .normal ∧ w = W ∧ Fr a L
set_option maxHeartbeats 8000000 in
set_option maxRecDepth 100000 in
theorem q3_wp (W : World) (g2 g4 : Nat) (A1 : Option Addr) (len c0 : Nat) (vt vn : Value) (a : Act) (hf : Fr a [(1, .slice A1 len c0), (2, .pointer (some ⟨g2, 0, none⟩)), (4, .pointer (some ⟨g4, 0, none⟩)), (5, .bool false), (6, vt), (7, vn)]) : Code.wp Try.prog (lft (lft (rgt (rgt (rgt c10))))) (Q3Out W [(1, .slice A1 len c0), (4, .pointer (some ⟨g4, 0, none⟩)), (5, .bool false), (6, vt), (7, vn), (8, .int .i64 ((0 : Nat) : Int))]) a W := by
  obtain ⟨hf1, hf2, hf4, hf5, hf6, hf7, hd_, hs_⟩ := hf
  obtain ⟨u, hu, ha_⟩ := frame_open a hd_ hs_
  have hv1 := (hu 1).symm.trans hf1
  have hv2 := (hu 2).symm.trans hf2
  have hv4 := (hu 4).symm.trans hf4
  have hv5 := (hu 5).symm.trans hf5
  have hv6 := (hu 6).symm.trans hf6
  have hv7 := (hu 7).symm.trans hf7
  clear hd_ hs_ hu hf1 hf2 hf4 hf5 hf6 hf7
  subst ha_
  simp only [hv1, hv2, hv4, hv5, hv6, hv7]
  clear hv1 hv2 hv4 hv5 hv6 hv7
  conv => arg 2; whnf
  go_wp2
  exact ⟨rfl, rfl, ⟨rfl, rfl, rfl, rfl, rfl, rfl, rfl, rfl⟩⟩
def Q4Out (wb W : World) (g4 : Nat) (a1 : Option Addr) (n1 c1 : Nat) (a2 : Option Addr) (n2 c2 : Nat) (e : Exit) (a : Act) (w : World) : Prop := e = .ret ∧ w = (W.setCell ⟨g4, 0, none⟩ (.slice a1 n1 c1)).setCell ⟨g4, 1, none⟩ (.slice a2 n2 c2) ∧ Fr a [(4, .pointer (some ⟨g4, 0, none⟩)), (5, .bool true)]
set_option maxHeartbeats 8000000 in
set_option maxRecDepth 100000 in
theorem q4_wp (wb W : World) (g4 : Nat) (a1 : Option Addr) (n1 c1 : Nat) (a2 : Option Addr) (n2 c2 : Nat) (hres : Aside0 (W.heap[g4]? = some (.cells #[.slice none 0 0, .slice none 0 0] 25 (0, 0)))) (a : Act) (hf : Fr a [(4, .pointer (some ⟨g4, 0, none⟩)), (5, .bool false), (6, .slice a1 n1 c1), (7, .slice a2 n2 c2)]) : Code.wp Try.prog (rgt (rgt (rgt (rgt c10)))) (Q4Out wb W g4 a1 n1 c1 a2 n2 c2) a W := by
  obtain ⟨hf4, hf5, hf6, hf7, hd_, hs_⟩ := hf
  obtain ⟨u, hu, ha_⟩ := frame_open a hd_ hs_
  have hv4 := (hu 4).symm.trans hf4
  have hv5 := (hu 5).symm.trans hf5
  have hv6 := (hu 6).symm.trans hf6
  have hv7 := (hu 7).symm.trans hf7
  clear hd_ hs_ hu hf4 hf5 hf6 hf7
  subst ha_
  simp only [hv4, hv5, hv6, hv7]
  clear hv4 hv5 hv6 hv7
  have hx4_0 : W.cell? ⟨g4, 0, none⟩ = some (.slice none 0 0) := (blk_cell hres.out 0).trans rfl
  have hx4_1 : W.cell? ⟨g4, 1, none⟩ = some (.slice none 0 0) := (blk_cell hres.out 1).trans rfl
  have hy4_0 := blk_frozen hres.out 0
  have hy4_1 := blk_frozen hres.out 1
  conv => arg 2; whnf
  go_wp2
  exact ⟨rfl, rfl, ⟨rfl, rfl, rfl, rfl⟩⟩
set_option maxHeartbeats 8000000 in
set_option maxRecDepth 100000 in
theorem rapply_calls (W : World) (B : Nat) (hB : B ≤ W.heap.size) (g : Gd) (hsm : Small g) (HG : Aside0 (GM W B g)) (A1 : Option Addr) (len c0 : Nat) (l : List Ch) (HC : Aside0 (CM W B A1 len l)) (HW : Aside0 (CW l)) (hlen : len ≤ 60) : Calls Try.prog 10 #[.agg #[.slice g.rA g.rl g.rc, .slice g.nA g.nl g.nc], .slice A1 len c0] W fun e W' => ApOut (applyAll (g.R, (sorted g.NS (walkR g.NS g.R)).map Nd.pn) l) W e W' := by
  obtain ⟨s, hs⟩ : ∃ s, s = (g.R, (sorted g.NS (walkR g.NS g.R)).map Nd.pn) := ⟨_, rfl⟩
  rw [← hs]
  go_enter Try.func10, Try.ntmps10
  show Code.wp Try.prog c10 _ _ _
  rw [c10_eq]
  refine wp_seq (wp_mono (q0_wp W g A1 len c0 _ ⟨rfl, rfl, rfl, rfl⟩) ?_)
  rintro e a1 w1 ⟨rfl, g2, g4, hg4, hb2, hb4, hbw1, hf1⟩
  have hI1 := (HG.out.rts.kept fun k hk => hbw1.block k (by omega)).up (Nat.le_trans hB hbw1.size)
  refine wp_seq (wp_mono (q1_wp w1 g2 g4 g hsm.r40 (Aside0.mk hI1) (Aside0.mk hb2) A1 len c0 a1 hf1) ?_)
  rintro e a2 w2 ⟨rfl, vt, hvt, hbw2, hf2⟩
  have hbw2' := below_step hbw1 hbw2
  refine wp_seq (wp_mono (q2_wp w2 B (Nat.le_trans hB hbw2'.size) g2 g4 g hsm (Aside0.mk (HG.out.kept fun k hk => hbw2'.block k (by omega))) (Aside0.mk (blk_below hb2 hbw2)) A1 len c0 vt a2 hf2) ?_)
  rintro e a3 w3 ⟨rfl, vn, hvn, hbw3, hf3⟩
  have hbw3' := below_step hbw2' hbw3
  obtain ⟨M, hM⟩ : ∃ M, M = sorted g.NS (walkR g.NS g.R) := ⟨_, rfl⟩
  rw [← hM] at hvn hs
  have hS := sorted_walk g.NS g.R
  rw [← hM] at hS
  have hRl : g.R.length = g.rl := HG.out.rts.1
  have hvt0 := Di.row_mono hvt hbw1.size
  have hvn0 := Di.row_mono hvn hbw2'.size
  have hvt3 := Di.row_below hvt0 hbw3
  have hM40 : M.length ≤ 40 := by
    have h1 := hS.len
    have h2 := walkR_len g.NS g.R
    have h3 := HG.out.nds.1
    have h4 := hsm.n40
    omega
  have hRS : RS W w3 g4 vt vn g.R M := ⟨hbw3', blk_below (blk_below hb4 hbw2) hbw3, hg4, by rw [hRl]; exact hvt3, hvn0, fun n hn => by
    have h1 := HG.out.sub n (hS.mem n hn)
    have hlt : ∀ j, j ∈ own2 vt vn → W.heap.size ≤ j := fun j hj => by
      rcases own2_mem.1 hj with e | e
      · exact (hvt3.lt j e).1
      · exact (hvn0.lt j e).1
    have h2 := h1.kept (fun k hk => hbw3'.block k (by omega))
    exact ⟨⟨h2.1.1, fun i hi => by
      obtain ⟨y, e, hy, hc⟩ := h2.1.2 i hi
      exact ⟨y, e, by have := hbw3'.size; omega, fun hS => by have := hlt _ hS; omega, hc⟩⟩, ⟨h2.2.1, fun i hi => by
      obtain ⟨y, e, hy, hc⟩ := h2.2.2 i hi
      exact ⟨y, e, by have := hbw3'.size; omega, fun hS => by have := hlt _ hS; omega, hc⟩⟩⟩, hS.rise, fun n hn => hsm.sz n (hS.mem n hn), by rw [hRl]; exact hsm.r40⟩
  refine wp_seq (wp_seq (wp_mono (q3_wp w3 g2 g4 A1 len c0 vt vn a3 hf3) ?_))
  rintro e a4 w4 ⟨rfl, rfl, hf4⟩
  refine wp_block (wp_mono (loop_wp W w4 g4 len c0 B hB A1 s l HC HW hlen vt vn g.R M hs hM40 hRS a4 hf4) ?_)
  rintro e a5 w5 (⟨rfl, hno, hfr, hres, hb5⟩ | ⟨rfl, vt', vn', R', M', hyes, hf5, hS5⟩)
  · obtain ⟨h4, h5, hd, hs5⟩ := hfr
    refine bodyPost_ret (results_ct rfl _ _ g4 25 #[.slice none 0 0, .slice none 0 0] (0, 0) _ h4 hres Try.underlying25 rfl (by kernel_rfl)) hd ?_
    rw [h5]
    exact ⟨none, 0, 0, none, 0, 0, [], [], false, rfl, .inl ⟨hno, rfl, rfl, rfl⟩, IL_nil _ _, NL_nil _ _, (fun n hn => by cases hn), hb5⟩
  · obtain ⟨a7, c7, rfl, hil⟩ := IL_of_row hS5.tops
    obtain ⟨a8, c8, rfl⟩ := row40_slice hS5.rows
    show Code.wp _ (rgt (rgt (rgt (rgt c10)))) _ _ _
    refine wp_mono (q4_wp W w5 g4 a7 _ c7 a8 _ c8 (Aside0.mk hS5.res) a5 hf5) ?_
    rintro e a6 w6 ⟨rfl, rfl, h4, h5, hd, hs6⟩
    refine bodyPost_ret (results_ct rfl _ _ g4 25 #[.slice a7 R'.length c7, .slice a8 M'.length c8] (0, 0) _ h4 (blk_put (cs := #[.slice a7 R'.length c7, .slice none 0 0]) (blk_put (cs := #[.slice none 0 0, .slice none 0 0]) hS5.res 0 _ rfl) 1 _ rfl) Try.underlying25 rfl (by kernel_rfl)) hd ?_
    rw [h5]
    have hne := hS5.ne4
    refine ⟨a7, R'.length, c7, a8, M'.length, c8, R', M', true, rfl, .inr ⟨hyes, rfl⟩, IL_fin hil hS5.res, ?_, fun n hn => ⟨IL_fin (hS5.lists n hn).1.il hS5.res, IL_fin (hS5.lists n hn).2.il hS5.res⟩, below_set (below_set hS5.hb hS5.res4) hS5.res4⟩
    have hrow := hS5.rows
    have hk : ∀ (w : World) (j : Nat) (u : Value), w.ownsRow W.heap.size 40 6 (.slice a8 M'.length c8) M'.length (nds M') → (w.setCell ⟨g4, j, none⟩ u).ownsRow W.heap.size 40 6 (.slice a8 M'.length c8) M'.length (nds M') := fun w j u h => h.kept (row := some g4) ⟨rfl, rfl, rfl, by simp [World.setCell], fun k _ hk => Below.heap_setCell w ⟨g4, j, none⟩ u k (fun e => hk (by rw [e]))⟩ (Or.inr hne.2)
    exact NL_of_row (hk _ _ _ (hk _ _ _ hrow))
end Go.Proofs.Ytekggbmajemmhaa.Gr
/- The document's Same, at graphs that are alike. Conditions: both lie in memory; at most 1000 roots, nodes, slots, data. -/
namespace Go.Proofs.Ytekggbmajemmhaa.Gr
open Go.RowKit Go.Shelf Go.Maps Go.ChangeMaps Go.MapKept Go.Proofs.YtekggbmajemmhaaW.PrintWords Go.Proofs.YtekggbmajemmhaaW.PrintLast Go.Proofs.YtekggbmajemmhaaW.PrintMore
set_option linter.unusedSimpArgs false
set_option linter.unusedVariables false
def in6.T6 : Bool × List (List Nat × List Nat) := (true, [([], []), ([], []), ([0, 1], [0, 1]), ([2], [2]), ([], []), ([], []), ([4, 5], [4, 5]), ([6], [6]), ([3, 7], [3, 7])])
def in6.B6 : List Nat := [0, 0, 3, 7, 0, 0, 48, 112, 255]
theorem in6.tab6 : rtab .any (opsOf Try.f25 6) = in6.T6 := by kernel_rfl
theorem in6.bits6 : waitsOk in6.T6.2 in6.B6 = true := by kernel_rfl
set_option maxHeartbeats 8000000 in
set_option maxRecDepth 100000 in
theorem ints_yes (W : World) (A1 A2 : Option Addr) (n c d : Nat) (l : List Int) (H1 : Aside0 (IL .i64 W W.heap.size A1 n l)) (H2 : Aside0 (IL .i64 W W.heap.size A2 n l)) (hn : n ≤ 1000) : Calls Try.prog 25 #[.slice A1 n c, .slice A2 n d] W fun e W' => e = .returned (.bool true) ∧ Below W.heap.size W W' := by
  have HB := Aside0.mk (Below.refl W.heap.size W)
  go_enter Try.func25, Try.ntmps25
  go_upto_region 4 with fail
  go_loopw [5] (fun v wr => ∃ i : Nat, i ≤ n ∧ v = .int .i64 (i : Int) ∧ Aside0 (Below W.heap.size W wr)) (fun v _ => n - (intOf v).toNat)
  case atStart => exact ⟨0, by omega, rfl, HB⟩
  case round =>
    clear HB
    obtain ⟨i, hi_, rfl, HB⟩ := hrel
    by_cases hgo : i < n
    · have hd : decide ((i : Int) < (n : Int)) = true := decide_eq_true (by omega)
      obtain ⟨ya, ea, _, hya⟩ := (H1.out.kept fun k hk => HB.out.block k hk).2 i hgo
      obtain ⟨yb, eb, _, hyb⟩ := (H2.out.kept fun k hk => HB.out.block k hk).2 i hgo
      subst ea
      subst eb
      obtain ⟨x, hx⟩ : ∃ x, x = l.getD i 0 := ⟨_, rfl⟩
      rw [← hx] at hya hyb
      clear hx
      have hi0 : (0 : Int) ≤ (i : Int) := by omega
      have hi1 : (i : Int) < (n : Int) := by omega
      have hi1n : i + 1 ≤ n := by omega
      have hne : (x != x) = false := by simp
      go_upto_region 6 with fail
      have HR := Aside0.mk (Below.refl wr.heap.size wr)
      refine start_ (n := 9) (S := fun w' => True) (ds := []) #[false, false, false, false, false, false, false, false, false] (by kernel_rfl) rfl rfl trivial (fun hHeld => ?_)
      refine with_tabW in6.tab6 in6.bits6 (fun HT_ HW_ => ?_)
      refine inv_at [0, 1, 2, 3, 4, 5, 6, 7, 8] (fun a0_ b a w' => a = putSel a0_ b [(0, 17, .slice (some ya) n c), (1, 18, .int .i64 (i : Int)), (2, 19, .pointer (some (ya.add i))), (3, 20, .int .i64 x), (4, 21, .slice (some yb) n d), (5, 22, .int .i64 (i : Int)), (6, 23, .pointer (some (yb.add i))), (7, 24, .int .i64 x), (8, 25, .bool false)] ∧ (Below wr.heap.size wr w')) HT_.out HW_.out (by kernel_rfl) (by kernel_rfl) ?_ ?_ ?_
      · exact ⟨by simp only [putSel, Bool.false_eq_true, if_false], below_drew1 HR.out⟩
      · skip
        clear HR
        refine steps_cons ?_ ?_
        · rintro b a w' ⟨ha, Q_HR⟩ hb_ hon hoff
          refine ⟨_, rfl, fun K hK => ?_⟩
          have e0 : a.tmps[0]? = some (.slice (some ya) n c) := by rw [ha]; exact (putSel_off rfl).trans rfl
          replace ha := Aside0.mk ha
          have HR := Aside0.mk Q_HR
          refine value_ (w1 := w') (v := .slice (some ya) n c) (by rfl) rfl ?_ ?_
          · go_simp
            (try simp only [i64_w])
            try rfl
          refine hK.out _ _ ⟨(by rw [ha.out]; exact putSel_upk 0 hb_ rfl rfl rfl), Q_HR⟩
        refine steps_cons ?_ ?_
        · rintro b a w' ⟨ha, Q_HR⟩ hb_ hon hoff
          refine ⟨_, rfl, fun K hK => ?_⟩
          have e5 : a.tmps[5]? = some (.int .i64 (i : Int)) := by rw [ha]; exact (putSel_off rfl).trans rfl
          replace ha := Aside0.mk ha
          have HR := Aside0.mk Q_HR
          refine value_ (w1 := w') (v := .int .i64 (i : Int)) (by rfl) rfl ?_ ?_
          · go_simp
            (try simp only [i64_w])
            try rfl
          refine hK.out _ _ ⟨(by rw [ha.out]; exact putSel_upk 1 hb_ rfl rfl rfl), Q_HR⟩
        refine steps_cons ?_ ?_
        · rintro b a w' ⟨ha, Q_HR⟩ hb_ hon hoff
          refine ⟨_, rfl, fun K hK => ?_⟩
          have e17 : a.tmps[17]? = some (.slice (some ya) n c) := by rw [ha]; exact putSel_on (e := (0, 17, .slice (some ya) n c)) 0 rfl rfl (hon 0 (by kernel_rfl)) rfl
          have e18 : a.tmps[18]? = some (.int .i64 (i : Int)) := by rw [ha]; exact putSel_on (e := (1, 18, .int .i64 (i : Int))) 1 rfl rfl (hon 1 (by kernel_rfl)) rfl
          replace ha := Aside0.mk ha
          have HR := Aside0.mk Q_HR
          refine value_ (w1 := w') (v := .pointer (some (ya.add i))) (by rfl) rfl ?_ ?_
          · go_simp
            (try simp only [i64_w])
            try rfl
          refine hK.out _ _ ⟨(by rw [ha.out]; exact putSel_upk 2 hb_ rfl rfl rfl), Q_HR⟩
        refine steps_cons ?_ ?_
        · rintro b a w' ⟨ha, Q_HR⟩ hb_ hon hoff
          refine ⟨_, rfl, fun K hK => ?_⟩
          have e19 : a.tmps[19]? = some (.pointer (some (ya.add i))) := by rw [ha]; exact putSel_on (e := (2, 19, .pointer (some (ya.add i)))) 2 rfl rfl (hon 2 (by kernel_rfl)) rfl
          replace ha := Aside0.mk ha
          have HR := Aside0.mk Q_HR
          have hl20 : w'.cell? (ya.add i) = some (.int .i64 x) := (HR.out.cell (p := ya.add i) (cell_lt hya)).trans hya
          refine value_ (w1 := w') (v := .int .i64 x) (by rfl) rfl ?_ ?_
          · go_simp
            (try simp only [i64_w])
            try rfl
          refine hK.out _ _ ⟨(by rw [ha.out]; exact putSel_upk 3 hb_ rfl rfl rfl), Q_HR⟩
        refine steps_cons ?_ ?_
        · rintro b a w' ⟨ha, Q_HR⟩ hb_ hon hoff
          refine ⟨_, rfl, fun K hK => ?_⟩
          have e1 : a.tmps[1]? = some (.slice (some yb) n d) := by rw [ha]; exact (putSel_off rfl).trans rfl
          replace ha := Aside0.mk ha
          have HR := Aside0.mk Q_HR
          refine value_ (w1 := w') (v := .slice (some yb) n d) (by rfl) rfl ?_ ?_
          · go_simp
            (try simp only [i64_w])
            try rfl
          refine hK.out _ _ ⟨(by rw [ha.out]; exact putSel_upk 4 hb_ rfl rfl rfl), Q_HR⟩
        refine steps_cons ?_ ?_
        · rintro b a w' ⟨ha, Q_HR⟩ hb_ hon hoff
          refine ⟨_, rfl, fun K hK => ?_⟩
          have e5 : a.tmps[5]? = some (.int .i64 (i : Int)) := by rw [ha]; exact (putSel_off rfl).trans rfl
          replace ha := Aside0.mk ha
          have HR := Aside0.mk Q_HR
          refine value_ (w1 := w') (v := .int .i64 (i : Int)) (by rfl) rfl ?_ ?_
          · go_simp
            (try simp only [i64_w])
            try rfl
          refine hK.out _ _ ⟨(by rw [ha.out]; exact putSel_upk 5 hb_ rfl rfl rfl), Q_HR⟩
        refine steps_cons ?_ ?_
        · rintro b a w' ⟨ha, Q_HR⟩ hb_ hon hoff
          refine ⟨_, rfl, fun K hK => ?_⟩
          have e21 : a.tmps[21]? = some (.slice (some yb) n d) := by rw [ha]; exact putSel_on (e := (4, 21, .slice (some yb) n d)) 4 rfl rfl (hon 4 (by kernel_rfl)) rfl
          have e22 : a.tmps[22]? = some (.int .i64 (i : Int)) := by rw [ha]; exact putSel_on (e := (5, 22, .int .i64 (i : Int))) 5 rfl rfl (hon 5 (by kernel_rfl)) rfl
          replace ha := Aside0.mk ha
          have HR := Aside0.mk Q_HR
          refine value_ (w1 := w') (v := .pointer (some (yb.add i))) (by rfl) rfl ?_ ?_
          · go_simp
            (try simp only [i64_w])
            try rfl
          refine hK.out _ _ ⟨(by rw [ha.out]; exact putSel_upk 6 hb_ rfl rfl rfl), Q_HR⟩
        refine steps_cons ?_ ?_
        · rintro b a w' ⟨ha, Q_HR⟩ hb_ hon hoff
          refine ⟨_, rfl, fun K hK => ?_⟩
          have e23 : a.tmps[23]? = some (.pointer (some (yb.add i))) := by rw [ha]; exact putSel_on (e := (6, 23, .pointer (some (yb.add i)))) 6 rfl rfl (hon 6 (by kernel_rfl)) rfl
          replace ha := Aside0.mk ha
          have HR := Aside0.mk Q_HR
          have hl24 : w'.cell? (yb.add i) = some (.int .i64 x) := (HR.out.cell (p := yb.add i) (cell_lt hyb)).trans hyb
          refine value_ (w1 := w') (v := .int .i64 x) (by rfl) rfl ?_ ?_
          · go_simp
            (try simp only [i64_w])
            try rfl
          refine hK.out _ _ ⟨(by rw [ha.out]; exact putSel_upk 7 hb_ rfl rfl rfl), Q_HR⟩
        refine steps_cons ?_ ?_
        · rintro b a w' ⟨ha, Q_HR⟩ hb_ hon hoff
          refine ⟨_, rfl, fun K hK => ?_⟩
          have e20 : a.tmps[20]? = some (.int .i64 x) := by rw [ha]; exact putSel_on (e := (3, 20, .int .i64 x)) 3 rfl rfl (hon 3 (by kernel_rfl)) rfl
          have e24 : a.tmps[24]? = some (.int .i64 x) := by rw [ha]; exact putSel_on (e := (7, 24, .int .i64 x)) 7 rfl rfl (hon 7 (by kernel_rfl)) rfl
          replace ha := Aside0.mk ha
          have HR := Aside0.mk Q_HR
          refine value_ (w1 := w') (v := .bool false) (by rfl) rfl ?_ ?_
          · go_simp
            (try simp only [i64_w])
            try rfl
          refine hK.out _ _ ⟨(by rw [ha.out]; exact putSel_upk 8 hb_ rfl rfl rfl), Q_HR⟩
        exact steps_nil
      rintro b a wq hall ⟨ha, Q_HR⟩
      clear HR
      have hb0_ := hall 0 (by kernel_rfl)
      have hb1_ := hall 1 (by kernel_rfl)
      have hb2_ := hall 2 (by kernel_rfl)
      have hb3_ := hall 3 (by kernel_rfl)
      have hb4_ := hall 4 (by kernel_rfl)
      have hb5_ := hall 5 (by kernel_rfl)
      have hb6_ := hall 6 (by kernel_rfl)
      have hb7_ := hall 7 (by kernel_rfl)
      have hb8_ := hall 8 (by kernel_rfl)
      subst ha
      simp only [putSel, hb0_, hb1_, hb2_, hb3_, hb4_, hb5_, hb6_, hb7_, hb8_, if_true, Act.put, List.setIfInBounds_toArray, List.set_cons_zero, List.set_cons_succ]
      have HR := Aside0.mk Q_HR
      clear Q_HR
      clear hall hb0_ hb1_ hb2_ hb3_ hb4_ hb5_ hb6_ hb7_ hb8_
      have HB2 := Aside0.mk (below_step HB.out HR.out)
      go_wp2
      go_roundw
      case measure => exact meas_i hgo (by push_cast; rfl)
      case rel => exact ⟨i + 1, hi1n, by push_cast; rfl, HB2⟩
    · obtain rfl : i = n := by omega
      have hd : decide ((i : Int) < (i : Int)) = false := decide_eq_false (by omega)
      go_wp2
      go_ret
      exact ⟨rfl, HB.out⟩
def sm6.T6 : Bool × List (List Nat × List Nat) := (true, [([], []), ([0], [0]), ([], []), ([1, 2], [1, 2]), ([3], [3]), ([], []), ([5], [5]), ([], []), ([6, 7], [6, 7]), ([8], [8]), ([], []), ([], []), ([10, 4, 0, 1, 2, 3, 4, 10, 11], [4, 10]), ([11, 9, 12, 0, 1, 2, 3, 4, 5, 6, 7, 8, 9, 10, 11, 12], [9, 11])])
def sm6.B6 : List Nat := [0, 1, 0, 7, 15, 0, 32, 0, 224, 480, 0, 0, 3103, 8191]
theorem sm6.tab6 : rtab .any (opsOf Try.f11 6) = sm6.T6 := by kernel_rfl
theorem sm6.bits6 : waitsOk sm6.T6.2 sm6.B6 = true := by kernel_rfl
def sm12.T12 : Bool × List (List Nat × List Nat) := (true, [([], []), ([0], [0]), ([], []), ([1, 2], [1, 2]), ([3], [3]), ([], []), ([5], [5]), ([], []), ([6, 7], [6, 7]), ([8], [8]), ([4, 9], [4, 9])])
def sm12.B12 : List Nat := [0, 1, 0, 7, 15, 0, 32, 0, 224, 480, 1023]
theorem sm12.tab12 : rtab .any (opsOf Try.f11 12) = sm12.T12 := by kernel_rfl
theorem sm12.bits12 : waitsOk sm12.T12.2 sm12.B12 = true := by kernel_rfl
set_option maxHeartbeats 16000000 in
set_option maxRecDepth 100000 in
theorem same0_yes (W : World) (r1 r2 n1 n2 : Option Addr) (rl rc1 rc2 nl nc1 nc2 : Nat) (R : List Int) (M1 M2 : List Nd) (HR1 : Aside0 (IL .i64 W W.heap.size r1 rl R)) (HR2 : Aside0 (IL .i64 W W.heap.size r2 rl R)) (HN1 : Aside0 (NL W W.heap.size n1 nl M1)) (HN2 : Aside0 (NL W W.heap.size n2 nl M2)) (HD1 : Aside0 (∀ q ∈ M1, DL W W.heap.size q)) (HD2 : Aside0 (∀ q ∈ M2, DL W W.heap.size q)) (HP : Aside0 (M1.map Nd.pn = M2.map Nd.pn)) (hrl : rl ≤ 1000) (hnl : nl ≤ 1000) (HSZ : Aside0 (∀ q ∈ M1, q.m ≤ 1000 ∧ q.n ≤ 1000)) : Calls Try.prog 11 #[.agg #[.slice r1 rl rc1, .slice n1 nl nc1], .agg #[.slice r2 rl rc2, .slice n2 nl nc2]] W fun e W' => e = .returned (.bool true) ∧ Below W.heap.size W W' := by
  have HB := Aside0.mk (Below.refl W.heap.size W)
  go_enter Try.func11, Try.ntmps11
  go_upto_region 1 with (first | ((with_reducible refine gate_dst (N := 2) rfl ?_); refine box_event ?hg (N := 2) ?hd (cs := #[.slice r1 rl rc1, .slice n1 nl nc1]) (t := 25) ?hr ?_; (case hd => rfl); (case hg => rfl); (case hr => first | (go_simp; done) | (go_simp; rfl)); intro g2 hg w1_ hbox hb; have n0_ := Aside0.mk (below_step (by repeat (first | (with_reducible first | exact HB.out | apply below_alloc | apply pw_below_drewN | apply below_drew1) | exact HB.out)) hb); have n1_ := Aside0.mk hbox; have n2_ := Aside0.mk ((by rw [hg]; exact (below_size (by repeat (first | (with_reducible first | exact HB.out | apply below_alloc | apply pw_below_drewN | apply below_drew1) | exact HB.out)))) : W.heap.size ≤ g2); clear HB; have HB := n0_; have BK2 := n1_; have GE2 := n2_; clear n0_ n1_ n2_; clear hb hbox hg) | ((with_reducible refine gate_dst (N := 3) rfl ?_); refine box_event ?hg (N := 3) ?hd (cs := #[.slice r2 rl rc2, .slice n2 nl nc2]) (t := 25) ?hr ?_; (case hd => rfl); (case hg => rfl); (case hr => first | (go_simp; done) | (go_simp; rfl)); intro g3 hg w2_ hbox hb; have n0_ := Aside0.mk (below_step (by repeat (first | (with_reducible first | exact HB.out | apply below_alloc | apply pw_below_drewN | apply below_drew1 | refine below_set ?_ GE2.out) | exact HB.out)) hb); have n1_ := Aside0.mk (blk_below (g := g2) (o := .cells #[.slice r1 rl rc1, .slice n1 nl nc1] 25 (0, 0)) (by (with_reducible repeat (first | refine blk_drewN ?_ _ | refine blk_drew ?_ | refine blk_alloc ?_ _)); exact BK2.out) hb); have n2_ := Aside0.mk hbox; have n3_ := Aside0.mk ((by rw [hg]; exact (below_size (by repeat (first | (with_reducible first | exact HB.out | apply below_alloc | apply pw_below_drewN | apply below_drew1 | refine below_set ?_ GE2.out) | exact HB.out)))) : W.heap.size ≤ g3); have n4_ := Aside0.mk ((by rw [hg]; exact Nat.ne_of_lt (blk_lt (g := g2) (o := .cells #[.slice r1 rl rc1, .slice n1 nl nc1] 25 (0, 0)) (by (with_reducible repeat (first | refine blk_drewN ?_ _ | refine blk_drew ?_ | refine blk_alloc ?_ _)); exact BK2.out))) : g2 ≠ g3); clear HB; clear BK2; have HB := n0_; have BK2 := n1_; have BK3 := n2_; have GE3 := n3_; have NE2_3 := n4_; clear n0_ n1_ n2_ n3_ n4_; clear hb hbox hg))
  have hc2_0 : w2_.cell? ⟨g2, 0, none⟩ = some (.slice r1 rl rc1) := (blk_cell BK2.out 0).trans rfl
  have hc2_1 : w2_.cell? ⟨g2, 1, none⟩ = some (.slice n1 nl nc1) := (blk_cell BK2.out 1).trans rfl
  have hc3_0 : w2_.cell? ⟨g3, 0, none⟩ = some (.slice r2 rl rc2) := (blk_cell BK3.out 0).trans rfl
  have hc3_1 : w2_.cell? ⟨g3, 1, none⟩ = some (.slice n2 nl nc2) := (blk_cell BK3.out 1).trans rfl
  have hnn : ((nl : Int) != (nl : Int)) = false := by simp
  go_upto_region 4 with (go_at_call 25; refine (ints_yes _ r1 r2 rl rc1 rc2 R (Aside0.mk (HR1.out.to HB.out)) (Aside0.mk (HR2.out.to HB.out)) hrl).mono ?_; rintro e w3 ⟨rfl, hb3⟩; have HB3 := Aside0.mk (below_step HB.out hb3); have BK23 := Aside0.mk (blk_below BK2.out hb3); have BK33 := Aside0.mk (blk_below BK3.out hb3); clear hb3; have hd2_1 : w3.cell? ⟨g2, 1, none⟩ = some (.slice n1 nl nc1) := (blk_cell BK23.out 1).trans rfl; have hd3_1 : w3.cell? ⟨g3, 1, none⟩ = some (.slice n2 nl nc2) := (blk_cell BK33.out 1).trans rfl)
  clear hc2_0 hc2_1 hc3_0 hc3_1 hd2_1 hd3_1 HB BK2 BK3
  have HB := HB3
  have BK2 := BK23
  have BK3 := BK33
  clear HB3 BK23 BK33
  go_loopw [5] (fun v wr => ∃ i : Nat, i ≤ nl ∧ v = .int .i64 (i : Int) ∧ Aside0 (Below W.heap.size W wr) ∧ Aside0 (wr.heap[g2]? = some (.cells #[.slice r1 rl rc1, .slice n1 nl nc1] 25 (0, 0))) ∧ Aside0 (wr.heap[g3]? = some (.cells #[.slice r2 rl rc2, .slice n2 nl nc2] 25 (0, 0)))) (fun v _ => nl - (intOf v).toNat)
  case atStart => exact ⟨0, by omega, rfl, HB, BK2, BK3⟩
  case round =>
    clear HB BK2 BK3
    obtain ⟨i, hi_, rfl, HB, BK2, BK3⟩ := hrel
    have hr2_1 : wr.cell? ⟨g2, 1, none⟩ = some (.slice n1 nl nc1) := (blk_cell BK2.out 1).trans rfl
    by_cases hgo : i < nl
    · have hd : decide ((i : Int) < (nl : Int)) = true := decide_eq_true (by omega)
      obtain ⟨ya, ea, _, ha0', ha1', ha2', ha3', ha4', ha5'⟩ := (HN1.out.kept fun k hk => HB.out.block k hk).2 i hgo
      obtain ⟨yb, eb, _, hb0', hb1', hb2', hb3', hb4', hb5'⟩ := (HN2.out.kept fun k hk => HB.out.block k hk).2 i hgo
      obtain ⟨q1, hq1⟩ : ∃ q, q = M1.getD i default := ⟨_, rfl⟩
      obtain ⟨q2, hq2⟩ : ∃ q, q = M2.getD i default := ⟨_, rfl⟩
      rw [← hq1] at ha0' ha1' ha2' ha3' ha4' ha5'
      rw [← hq2] at hb0' hb1' hb2' hb3' hb4' hb5'
      have hm1 : q1 ∈ M1 := by rw [hq1]; exact node_mem (by rw [HN1.out.1]; exact hgo)
      have hm2 : q2 ∈ M2 := by rw [hq2]; exact node_mem (by rw [HN2.out.1]; exact hgo)
      have hpn : q1.pn = q2.pn := by
        have := congrArg (fun L => L.getD i default) HP.out
        simp only [pn_getD] at this
        rw [hq1, hq2]; exact this
      have hd1 := HD1.out q1 hm1
      have hd2 := HD2.out q2 hm2
      have hsz := HSZ.out q1 hm1
      clear hq1 hq2 hm1 hm2
      obtain ⟨pa, pr, ps, pw, A1, m, c1, B1, n, d1, Sl, Tl⟩ := q1
      obtain ⟨pa', pr', ps', pw', A2, m', c2, B2, n', d2, Sl', Tl'⟩ := q2
      simp only [Nd.pn, Pn.mk.injEq] at hpn
      obtain ⟨rfl, rfl, rfl, rfl, rfl, rfl⟩ := hpn
      dsimp only [DL] at ha0' ha1' ha2' ha3' ha4' ha5' hb0' hb1' hb2' hb3' hb4' hb5' hd1 hd2 hsz
      obtain rfl : m = m' := hd1.1.1.symm.trans hd2.1.1
      obtain rfl : n = n' := hd1.2.1.symm.trans hd2.2.1
      have hm := hsz.1
      have hn := hsz.2
      have HS1 := Aside0.mk hd1.1
      have HS2 := Aside0.mk hd2.1
      have HT1 := Aside0.mk hd1.2
      have HT2 := Aside0.mk hd2.2
      clear hd1 hd2 hsz
      have EA := Aside0.mk ea
      have EB := Aside0.mk eb
      clear ea eb
      have BK2s := Aside0.mk (show wr.heap[g2]? = some (.cells #[.slice r1 rl rc1, .slice (some ya) nl nc1] 25 (0, 0)) by rw [← EA.out]; exact BK2.out)
      have BK3s := Aside0.mk (show wr.heap[g3]? = some (.cells #[.slice r2 rl rc2, .slice (some yb) nl nc2] 25 (0, 0)) by rw [← EB.out]; exact BK3.out)
      have ha0 : wr.cell? (ya.add (i * 6)) = some (.int .i64 pa) := (congrArg _ (add_zero _).symm).trans ha0'
      have ha1 : wr.cell? { block := (ya.add (i * 6)).block, off := (ya.add (i * 6)).off + 1 } = some (.int .i64 pr) := ha1'
      have ha2 : wr.cell? { block := (ya.add (i * 6)).block, off := (ya.add (i * 6)).off + 2 } = some (.int .i64 ps) := ha2'
      have ha3 : wr.cell? { block := (ya.add (i * 6)).block, off := (ya.add (i * 6)).off + 3 } = some (.int .i64 pw) := ha3'
      have ha4 : wr.cell? { block := (ya.add (i * 6)).block, off := (ya.add (i * 6)).off + 4 } = some (.slice A1 m c1) := ha4'
      have ha5 : wr.cell? { block := (ya.add (i * 6)).block, off := (ya.add (i * 6)).off + 5 } = some (.slice B1 n d1) := ha5'
      have hb0 : wr.cell? (yb.add (i * 6)) = some (.int .i64 pa) := (congrArg _ (add_zero _).symm).trans hb0'
      have hb1 : wr.cell? { block := (yb.add (i * 6)).block, off := (yb.add (i * 6)).off + 1 } = some (.int .i64 pr) := hb1'
      have hb2 : wr.cell? { block := (yb.add (i * 6)).block, off := (yb.add (i * 6)).off + 2 } = some (.int .i64 ps) := hb2'
      have hb3 : wr.cell? { block := (yb.add (i * 6)).block, off := (yb.add (i * 6)).off + 3 } = some (.int .i64 pw) := hb3'
      have hb4 : wr.cell? { block := (yb.add (i * 6)).block, off := (yb.add (i * 6)).off + 4 } = some (.slice A2 m c2) := hb4'
      have hb5 : wr.cell? { block := (yb.add (i * 6)).block, off := (yb.add (i * 6)).off + 5 } = some (.slice B2 n d2) := hb5'
      clear ha0' ha1' ha2' ha3' ha4' ha5' hb0' hb1' hb2' hb3' hb4' hb5'
      have hi0 : (0 : Int) ≤ (i : Int) := by omega
      have hi1 : (i : Int) < (nl : Int) := by omega
      have hi1n : i + 1 ≤ nl := by omega
      go_upto_region 6 with fail
      have HR := Aside0.mk (Below.refl wr.heap.size wr)
      have US := Aside0.mk (show 0 < wr.drew.heap.size from Nat.lt_of_le_of_lt (Nat.zero_le _) (blk_lt BK2.out))
      have U6 := US
      have U7 := US
      have BK2o := BK2
      have BK3o := BK3
      clear BK2 BK3
      have BK2 := BK2s
      have BK3 := BK3s
      refine start_ (n := 14) (S := fun w' => True) (ds := []) #[false, false, false, false, false, false, false, false, false, false, false, false, false, false] (by kernel_rfl) rfl rfl trivial (fun hHeld => ?_)
      refine with_tabW sm6.tab6 sm6.bits6 (fun HT_ HW_ => ?_)
      refine inv_at [0, 1, 2, 3, 4, 5, 6, 7, 8, 9, 10, 11, 12, 13] (fun a0_ b a w' => ∃ (g6 : Nat) (g7 : Nat) (m10_ : Value) (m11_ : Value), a = putSel a0_ b [(0, 31, .pointer (some ⟨g2, 1, none⟩)), (1, 32, .slice (some ya) nl nc1), (2, 33, .int .i64 (i : Int)), (3, 34, .pointer (some (ya.add (i * 6)))), (4, 35, .agg #[.int .i64 pa, .int .i64 pr, .int .i64 ps, .int .i64 pw, .slice A1 m c1, .slice B1 n d1]), (5, 36, .pointer (some ⟨g3, 1, none⟩)), (6, 37, .slice (some yb) nl nc2), (7, 38, .int .i64 (i : Int)), (8, 39, .pointer (some (yb.add (i * 6)))), (9, 40, .agg #[.int .i64 pa, .int .i64 pr, .int .i64 ps, .int .i64 pw, .slice A2 m c2, .slice B2 n d2]), (10, 6, m10_), (11, 7, m11_)] ∧ (Below wr.heap.size wr w') ∧ (b 10 = true → b 12 = false → w'.heap[g6]? = some (.cells #[.int .i64 0, .int .i64 0, .int .i64 0, .int .i64 0, .slice none 0 0, .slice none 0 0] 40 (0, 0)) ∧ wr.heap.size ≤ g6) ∧ (b 11 = true → b 13 = false → w'.heap[g7]? = some (.cells #[.int .i64 0, .int .i64 0, .int .i64 0, .int .i64 0, .slice none 0 0, .slice none 0 0] 40 (0, 0)) ∧ wr.heap.size ≤ g7) ∧ (b 12 = true → w'.heap[g6]? = some (.cells #[.int .i64 pa, .int .i64 pr, .int .i64 ps, .int .i64 pw, .slice A1 m c1, .slice B1 n d1] 40 (0, 0)) ∧ wr.heap.size ≤ g6) ∧ (b 13 = true → w'.heap[g7]? = some (.cells #[.int .i64 pa, .int .i64 pr, .int .i64 ps, .int .i64 pw, .slice A2 m c2, .slice B2 n d2] 40 (0, 0)) ∧ wr.heap.size ≤ g7) ∧ (b 10 = true → b 11 = true → g6 ≠ g7) ∧ (g6 < w'.heap.size) ∧ (g7 < w'.heap.size) ∧ (b 10 = true → (m10_ : Value) = .pointer (some ⟨g6, 0, none⟩)) ∧ (b 11 = true → (m11_ : Value) = .pointer (some ⟨g7, 0, none⟩))) HT_.out HW_.out (by kernel_rfl) (by kernel_rfl) ?_ ?_ ?_
      · exact ⟨0, 0, .bool false, .bool false, by simp only [putSel, Bool.false_eq_true, if_false], below_drew1 HR.out, fun h_ => absurd h_ (by decide), fun h_ => absurd h_ (by decide), fun h_ => absurd h_ (by decide), fun h_ => absurd h_ (by decide), fun h_ => absurd h_ (by decide), US.out, US.out, fun h_ => absurd h_ (by decide), fun h_ => absurd h_ (by decide)⟩
      · skip
        clear HR U6 U7
        refine steps_cons ?_ ?_
        · rintro b a w' ⟨g6, g7, m10_, m11_, ha, Q_HR, Q_BA6, Q_BA7, Q_BX6, Q_BX7, Q_NE, Q_U6, Q_U7, Q_X10_, Q_X11_⟩ hb_ hon hoff
          refine ⟨_, rfl, fun K hK => ?_⟩
          have e2 : a.tmps[2]? = some (.pointer (some ⟨g2, 0, none⟩)) := by rw [ha]; exact (putSel_off rfl).trans rfl
          replace ha := Aside0.mk ha
          have HR := Aside0.mk Q_HR
          have U6 := Aside0.mk Q_U6
          have U7 := Aside0.mk Q_U7
          refine value_ (w1 := w') (v := .pointer (some ⟨g2, 1, none⟩)) (by rfl) rfl ?_ ?_
          · go_simp
            (try simp only [i64_w])
            try rfl
          refine hK.out _ _ ⟨g6, g7, m10_, m11_, (by rw [ha.out]; exact putSel_upk 0 hb_ rfl rfl rfl), Q_HR, Q_BA6, Q_BA7, fun h0_ => absurd ((hoff 12 (by kernel_rfl)).symm.trans h0_) (by decide), fun h0_ => absurd ((hoff 13 (by kernel_rfl)).symm.trans h0_) (by decide), Q_NE, Q_U6, Q_U7, Q_X10_, Q_X11_⟩
        refine steps_cons ?_ ?_
        · rintro b a w' ⟨g6, g7, m10_, m11_, ha, Q_HR, Q_BA6, Q_BA7, Q_BX6, Q_BX7, Q_NE, Q_U6, Q_U7, Q_X10_, Q_X11_⟩ hb_ hon hoff
          refine ⟨_, rfl, fun K hK => ?_⟩
          have e31 : a.tmps[31]? = some (.pointer (some ⟨g2, 1, none⟩)) := by rw [ha]; exact putSel_on (e := (0, 31, .pointer (some ⟨g2, 1, none⟩))) 0 rfl rfl (hon 0 (by kernel_rfl)) rfl
          replace ha := Aside0.mk ha
          have HR := Aside0.mk Q_HR
          have U6 := Aside0.mk Q_U6
          have U7 := Aside0.mk Q_U7
          have hl32_0 : w'.cell? ⟨g2, 1, none⟩ = some (.slice (some ya) nl nc1) := (blk_cell (blk_below BK2.out HR.out) 1).trans rfl
          refine value_ (w1 := w') (v := .slice (some ya) nl nc1) (by rfl) rfl ?_ ?_
          · go_simp
            (try simp only [i64_w])
            try rfl
          refine hK.out _ _ ⟨g6, g7, m10_, m11_, (by rw [ha.out]; exact putSel_upk 1 hb_ rfl rfl rfl), Q_HR, Q_BA6, Q_BA7, fun h0_ => absurd ((hoff 12 (by kernel_rfl)).symm.trans h0_) (by decide), fun h0_ => absurd ((hoff 13 (by kernel_rfl)).symm.trans h0_) (by decide), Q_NE, Q_U6, Q_U7, Q_X10_, Q_X11_⟩
        refine steps_cons ?_ ?_
        · rintro b a w' ⟨g6, g7, m10_, m11_, ha, Q_HR, Q_BA6, Q_BA7, Q_BX6, Q_BX7, Q_NE, Q_U6, Q_U7, Q_X10_, Q_X11_⟩ hb_ hon hoff
          refine ⟨_, rfl, fun K hK => ?_⟩
          have e5 : a.tmps[5]? = some (.int .i64 (i : Int)) := by rw [ha]; exact (putSel_off rfl).trans rfl
          replace ha := Aside0.mk ha
          have HR := Aside0.mk Q_HR
          have U6 := Aside0.mk Q_U6
          have U7 := Aside0.mk Q_U7
          refine value_ (w1 := w') (v := .int .i64 (i : Int)) (by rfl) rfl ?_ ?_
          · go_simp
            (try simp only [i64_w])
            try rfl
          refine hK.out _ _ ⟨g6, g7, m10_, m11_, (by rw [ha.out]; exact putSel_upk 2 hb_ rfl rfl rfl), Q_HR, Q_BA6, Q_BA7, fun h0_ => absurd ((hoff 12 (by kernel_rfl)).symm.trans h0_) (by decide), fun h0_ => absurd ((hoff 13 (by kernel_rfl)).symm.trans h0_) (by decide), Q_NE, Q_U6, Q_U7, Q_X10_, Q_X11_⟩
        refine steps_cons ?_ ?_
        · rintro b a w' ⟨g6, g7, m10_, m11_, ha, Q_HR, Q_BA6, Q_BA7, Q_BX6, Q_BX7, Q_NE, Q_U6, Q_U7, Q_X10_, Q_X11_⟩ hb_ hon hoff
          refine ⟨_, rfl, fun K hK => ?_⟩
          have e32 : a.tmps[32]? = some (.slice (some ya) nl nc1) := by rw [ha]; exact putSel_on (e := (1, 32, .slice (some ya) nl nc1)) 1 rfl rfl (hon 1 (by kernel_rfl)) rfl
          have e33 : a.tmps[33]? = some (.int .i64 (i : Int)) := by rw [ha]; exact putSel_on (e := (2, 33, .int .i64 (i : Int))) 2 rfl rfl (hon 2 (by kernel_rfl)) rfl
          replace ha := Aside0.mk ha
          have HR := Aside0.mk Q_HR
          have U6 := Aside0.mk Q_U6
          have U7 := Aside0.mk Q_U7
          refine value_ (w1 := w') (v := .pointer (some (ya.add (i * 6)))) (by rfl) rfl ?_ ?_
          · go_simp
            (try simp only [i64_w])
            try rfl
          refine hK.out _ _ ⟨g6, g7, m10_, m11_, (by rw [ha.out]; exact putSel_upk 3 hb_ rfl rfl rfl), Q_HR, Q_BA6, Q_BA7, fun h0_ => absurd ((hoff 12 (by kernel_rfl)).symm.trans h0_) (by decide), fun h0_ => absurd ((hoff 13 (by kernel_rfl)).symm.trans h0_) (by decide), Q_NE, Q_U6, Q_U7, Q_X10_, Q_X11_⟩
        refine steps_cons ?_ ?_
        · rintro b a w' ⟨g6, g7, m10_, m11_, ha, Q_HR, Q_BA6, Q_BA7, Q_BX6, Q_BX7, Q_NE, Q_U6, Q_U7, Q_X10_, Q_X11_⟩ hb_ hon hoff
          refine ⟨_, rfl, fun K hK => ?_⟩
          have e34 : a.tmps[34]? = some (.pointer (some (ya.add (i * 6)))) := by rw [ha]; exact putSel_on (e := (3, 34, .pointer (some (ya.add (i * 6))))) 3 rfl rfl (hon 3 (by kernel_rfl)) rfl
          replace ha := Aside0.mk ha
          have HR := Aside0.mk Q_HR
          have U6 := Aside0.mk Q_U6
          have U7 := Aside0.mk Q_U7
          have hz35_0 : w'.cell? (ya.add (i * 6)) = some (.int .i64 pa) := (HR.out.cell (p := (ya.add (i * 6))) (cell_lt ha0)).trans ha0
          have hz35_1 : w'.cell? { block := (ya.add (i * 6)).block, off := (ya.add (i * 6)).off + 1 } = some (.int .i64 pr) := (HR.out.cell (p := { block := (ya.add (i * 6)).block, off := (ya.add (i * 6)).off + 1 }) (cell_lt ha1)).trans ha1
          have hz35_2 : w'.cell? { block := (ya.add (i * 6)).block, off := (ya.add (i * 6)).off + 2 } = some (.int .i64 ps) := (HR.out.cell (p := { block := (ya.add (i * 6)).block, off := (ya.add (i * 6)).off + 2 }) (cell_lt ha2)).trans ha2
          have hz35_3 : w'.cell? { block := (ya.add (i * 6)).block, off := (ya.add (i * 6)).off + 3 } = some (.int .i64 pw) := (HR.out.cell (p := { block := (ya.add (i * 6)).block, off := (ya.add (i * 6)).off + 3 }) (cell_lt ha3)).trans ha3
          have hz35_4 : w'.cell? { block := (ya.add (i * 6)).block, off := (ya.add (i * 6)).off + 4 } = some (.slice A1 m c1) := (HR.out.cell (p := { block := (ya.add (i * 6)).block, off := (ya.add (i * 6)).off + 4 }) (cell_lt ha4)).trans ha4
          have hz35_5 : w'.cell? { block := (ya.add (i * 6)).block, off := (ya.add (i * 6)).off + 5 } = some (.slice B1 n d1) := (HR.out.cell (p := { block := (ya.add (i * 6)).block, off := (ya.add (i * 6)).off + 5 }) (cell_lt ha5)).trans ha5
          refine value_ (w1 := w') (v := .agg #[.int .i64 pa, .int .i64 pr, .int .i64 ps, .int .i64 pw, .slice A1 m c1, .slice B1 n d1]) (by rfl) rfl ?_ ?_
          · go_simp
            (try simp only [i64_w])
            try rfl
          refine hK.out _ _ ⟨g6, g7, m10_, m11_, (by rw [ha.out]; exact putSel_upk 4 hb_ rfl rfl rfl), Q_HR, Q_BA6, Q_BA7, fun h0_ => absurd ((hoff 12 (by kernel_rfl)).symm.trans h0_) (by decide), fun h0_ => absurd ((hoff 13 (by kernel_rfl)).symm.trans h0_) (by decide), Q_NE, Q_U6, Q_U7, Q_X10_, Q_X11_⟩
        refine steps_cons ?_ ?_
        · rintro b a w' ⟨g6, g7, m10_, m11_, ha, Q_HR, Q_BA6, Q_BA7, Q_BX6, Q_BX7, Q_NE, Q_U6, Q_U7, Q_X10_, Q_X11_⟩ hb_ hon hoff
          refine ⟨_, rfl, fun K hK => ?_⟩
          have e3 : a.tmps[3]? = some (.pointer (some ⟨g3, 0, none⟩)) := by rw [ha]; exact (putSel_off rfl).trans rfl
          replace ha := Aside0.mk ha
          have HR := Aside0.mk Q_HR
          have U6 := Aside0.mk Q_U6
          have U7 := Aside0.mk Q_U7
          refine value_ (w1 := w') (v := .pointer (some ⟨g3, 1, none⟩)) (by rfl) rfl ?_ ?_
          · go_simp
            (try simp only [i64_w])
            try rfl
          refine hK.out _ _ ⟨g6, g7, m10_, m11_, (by rw [ha.out]; exact putSel_upk 5 hb_ rfl rfl rfl), Q_HR, Q_BA6, Q_BA7, Q_BX6, fun h0_ => absurd ((hoff 13 (by kernel_rfl)).symm.trans h0_) (by decide), Q_NE, Q_U6, Q_U7, Q_X10_, Q_X11_⟩
        refine steps_cons ?_ ?_
        · rintro b a w' ⟨g6, g7, m10_, m11_, ha, Q_HR, Q_BA6, Q_BA7, Q_BX6, Q_BX7, Q_NE, Q_U6, Q_U7, Q_X10_, Q_X11_⟩ hb_ hon hoff
          refine ⟨_, rfl, fun K hK => ?_⟩
          have e36 : a.tmps[36]? = some (.pointer (some ⟨g3, 1, none⟩)) := by rw [ha]; exact putSel_on (e := (5, 36, .pointer (some ⟨g3, 1, none⟩))) 5 rfl rfl (hon 5 (by kernel_rfl)) rfl
          replace ha := Aside0.mk ha
          have HR := Aside0.mk Q_HR
          have U6 := Aside0.mk Q_U6
          have U7 := Aside0.mk Q_U7
          have hl37_0 : w'.cell? ⟨g3, 1, none⟩ = some (.slice (some yb) nl nc2) := (blk_cell (blk_below BK3.out HR.out) 1).trans rfl
          refine value_ (w1 := w') (v := .slice (some yb) nl nc2) (by rfl) rfl ?_ ?_
          · go_simp
            (try simp only [i64_w])
            try rfl
          refine hK.out _ _ ⟨g6, g7, m10_, m11_, (by rw [ha.out]; exact putSel_upk 6 hb_ rfl rfl rfl), Q_HR, Q_BA6, Q_BA7, Q_BX6, fun h0_ => absurd ((hoff 13 (by kernel_rfl)).symm.trans h0_) (by decide), Q_NE, Q_U6, Q_U7, Q_X10_, Q_X11_⟩
        refine steps_cons ?_ ?_
        · rintro b a w' ⟨g6, g7, m10_, m11_, ha, Q_HR, Q_BA6, Q_BA7, Q_BX6, Q_BX7, Q_NE, Q_U6, Q_U7, Q_X10_, Q_X11_⟩ hb_ hon hoff
          refine ⟨_, rfl, fun K hK => ?_⟩
          have e5 : a.tmps[5]? = some (.int .i64 (i : Int)) := by rw [ha]; exact (putSel_off rfl).trans rfl
          replace ha := Aside0.mk ha
          have HR := Aside0.mk Q_HR
          have U6 := Aside0.mk Q_U6
          have U7 := Aside0.mk Q_U7
          refine value_ (w1 := w') (v := .int .i64 (i : Int)) (by rfl) rfl ?_ ?_
          · go_simp
            (try simp only [i64_w])
            try rfl
          refine hK.out _ _ ⟨g6, g7, m10_, m11_, (by rw [ha.out]; exact putSel_upk 7 hb_ rfl rfl rfl), Q_HR, Q_BA6, Q_BA7, Q_BX6, fun h0_ => absurd ((hoff 13 (by kernel_rfl)).symm.trans h0_) (by decide), Q_NE, Q_U6, Q_U7, Q_X10_, Q_X11_⟩
        refine steps_cons ?_ ?_
        · rintro b a w' ⟨g6, g7, m10_, m11_, ha, Q_HR, Q_BA6, Q_BA7, Q_BX6, Q_BX7, Q_NE, Q_U6, Q_U7, Q_X10_, Q_X11_⟩ hb_ hon hoff
          refine ⟨_, rfl, fun K hK => ?_⟩
          have e37 : a.tmps[37]? = some (.slice (some yb) nl nc2) := by rw [ha]; exact putSel_on (e := (6, 37, .slice (some yb) nl nc2)) 6 rfl rfl (hon 6 (by kernel_rfl)) rfl
          have e38 : a.tmps[38]? = some (.int .i64 (i : Int)) := by rw [ha]; exact putSel_on (e := (7, 38, .int .i64 (i : Int))) 7 rfl rfl (hon 7 (by kernel_rfl)) rfl
          replace ha := Aside0.mk ha
          have HR := Aside0.mk Q_HR
          have U6 := Aside0.mk Q_U6
          have U7 := Aside0.mk Q_U7
          refine value_ (w1 := w') (v := .pointer (some (yb.add (i * 6)))) (by rfl) rfl ?_ ?_
          · go_simp
            (try simp only [i64_w])
            try rfl
          refine hK.out _ _ ⟨g6, g7, m10_, m11_, (by rw [ha.out]; exact putSel_upk 8 hb_ rfl rfl rfl), Q_HR, Q_BA6, Q_BA7, Q_BX6, fun h0_ => absurd ((hoff 13 (by kernel_rfl)).symm.trans h0_) (by decide), Q_NE, Q_U6, Q_U7, Q_X10_, Q_X11_⟩
        refine steps_cons ?_ ?_
        · rintro b a w' ⟨g6, g7, m10_, m11_, ha, Q_HR, Q_BA6, Q_BA7, Q_BX6, Q_BX7, Q_NE, Q_U6, Q_U7, Q_X10_, Q_X11_⟩ hb_ hon hoff
          refine ⟨_, rfl, fun K hK => ?_⟩
          have e39 : a.tmps[39]? = some (.pointer (some (yb.add (i * 6)))) := by rw [ha]; exact putSel_on (e := (8, 39, .pointer (some (yb.add (i * 6))))) 8 rfl rfl (hon 8 (by kernel_rfl)) rfl
          replace ha := Aside0.mk ha
          have HR := Aside0.mk Q_HR
          have U6 := Aside0.mk Q_U6
          have U7 := Aside0.mk Q_U7
          have hz40_0 : w'.cell? (yb.add (i * 6)) = some (.int .i64 pa) := (HR.out.cell (p := (yb.add (i * 6))) (cell_lt hb0)).trans hb0
          have hz40_1 : w'.cell? { block := (yb.add (i * 6)).block, off := (yb.add (i * 6)).off + 1 } = some (.int .i64 pr) := (HR.out.cell (p := { block := (yb.add (i * 6)).block, off := (yb.add (i * 6)).off + 1 }) (cell_lt hb1)).trans hb1
          have hz40_2 : w'.cell? { block := (yb.add (i * 6)).block, off := (yb.add (i * 6)).off + 2 } = some (.int .i64 ps) := (HR.out.cell (p := { block := (yb.add (i * 6)).block, off := (yb.add (i * 6)).off + 2 }) (cell_lt hb2)).trans hb2
          have hz40_3 : w'.cell? { block := (yb.add (i * 6)).block, off := (yb.add (i * 6)).off + 3 } = some (.int .i64 pw) := (HR.out.cell (p := { block := (yb.add (i * 6)).block, off := (yb.add (i * 6)).off + 3 }) (cell_lt hb3)).trans hb3
          have hz40_4 : w'.cell? { block := (yb.add (i * 6)).block, off := (yb.add (i * 6)).off + 4 } = some (.slice A2 m c2) := (HR.out.cell (p := { block := (yb.add (i * 6)).block, off := (yb.add (i * 6)).off + 4 }) (cell_lt hb4)).trans hb4
          have hz40_5 : w'.cell? { block := (yb.add (i * 6)).block, off := (yb.add (i * 6)).off + 5 } = some (.slice B2 n d2) := (HR.out.cell (p := { block := (yb.add (i * 6)).block, off := (yb.add (i * 6)).off + 5 }) (cell_lt hb5)).trans hb5
          refine value_ (w1 := w') (v := .agg #[.int .i64 pa, .int .i64 pr, .int .i64 ps, .int .i64 pw, .slice A2 m c2, .slice B2 n d2]) (by rfl) rfl ?_ ?_
          · go_simp
            (try simp only [i64_w])
            try rfl
          refine hK.out _ _ ⟨g6, g7, m10_, m11_, (by rw [ha.out]; exact putSel_upk 9 hb_ rfl rfl rfl), Q_HR, Q_BA6, Q_BA7, Q_BX6, fun h0_ => absurd ((hoff 13 (by kernel_rfl)).symm.trans h0_) (by decide), Q_NE, Q_U6, Q_U7, Q_X10_, Q_X11_⟩
        refine steps_cons ?_ ?_
        · rintro b a w' ⟨g6, g7, m10_, m11_, ha, Q_HR, Q_BA6, Q_BA7, Q_BX6, Q_BX7, Q_NE, Q_U6, Q_U7, Q_X10_, Q_X11_⟩ hb_ hon hoff
          refine ⟨_, rfl, fun K hK => ?_⟩
          replace ha := Aside0.mk ha
          have HR := Aside0.mk Q_HR
          have U6 := Aside0.mk Q_U6
          have U7 := Aside0.mk Q_U7
          refine value_ (w1 := ?_) (v := ?_) (by rfl) rfl ?_ ?_
          rotate_left 2
          · go_simp
            constructor
            · rfl
            · rfl
          have hb := below_alloc (Below.refl w'.heap.size w') (.cells #[.int .i64 0, .int .i64 0, .int .i64 0, .int .i64 0, .slice none 0 0, .slice none 0 0] 40)
          refine hK.out _ _ ⟨w'.heap.size, g7, (.pointer (some ⟨w'.heap.size, 0, none⟩)), m11_, (by rw [ha.out]; exact putSel_upk 10 hb_ rfl rfl rfl), (below_step HR.out hb), fun _ _ => ⟨blk_new w' (.cells #[.int .i64 0, .int .i64 0, .int .i64 0, .int .i64 0, .slice none 0 0, .slice none 0 0] 40), below_size HR.out⟩, fun h0_ h1_ => ⟨blk_below (Q_BA7 h0_ h1_).1 hb, (Q_BA7 h0_ h1_).2⟩, fun h0_ => absurd ((hoff 12 (by kernel_rfl)).symm.trans h0_) (by decide), fun h0_ => absurd ((hoff 13 (by kernel_rfl)).symm.trans h0_) (by decide), fun _ _ => (Nat.ne_of_gt U7.out), (by rw [World.size_alloc]; exact Nat.lt_succ_self _), (Nat.lt_of_lt_of_le U7.out hb.size), fun _ => rfl, Q_X11_⟩
        refine steps_cons ?_ ?_
        · rintro b a w' ⟨g6, g7, m10_, m11_, ha, Q_HR, Q_BA6, Q_BA7, Q_BX6, Q_BX7, Q_NE, Q_U6, Q_U7, Q_X10_, Q_X11_⟩ hb_ hon hoff
          refine ⟨_, rfl, fun K hK => ?_⟩
          replace ha := Aside0.mk ha
          have HR := Aside0.mk Q_HR
          have U6 := Aside0.mk Q_U6
          have U7 := Aside0.mk Q_U7
          refine value_ (w1 := ?_) (v := ?_) (by rfl) rfl ?_ ?_
          rotate_left 2
          · go_simp
            constructor
            · rfl
            · rfl
          have hb := below_alloc (Below.refl w'.heap.size w') (.cells #[.int .i64 0, .int .i64 0, .int .i64 0, .int .i64 0, .slice none 0 0, .slice none 0 0] 40)
          refine hK.out _ _ ⟨g6, w'.heap.size, m10_, (.pointer (some ⟨w'.heap.size, 0, none⟩)), (by rw [ha.out]; exact putSel_upk 11 hb_ rfl rfl rfl), (below_step HR.out hb), fun h0_ h1_ => ⟨blk_below (Q_BA6 h0_ h1_).1 hb, (Q_BA6 h0_ h1_).2⟩, fun _ _ => ⟨blk_new w' (.cells #[.int .i64 0, .int .i64 0, .int .i64 0, .int .i64 0, .slice none 0 0, .slice none 0 0] 40), below_size HR.out⟩, fun h0_ => absurd ((hoff 12 (by kernel_rfl)).symm.trans h0_) (by decide), fun h0_ => absurd ((hoff 13 (by kernel_rfl)).symm.trans h0_) (by decide), fun _ _ => (Nat.ne_of_lt U6.out), (Nat.lt_of_lt_of_le U6.out hb.size), (by rw [World.size_alloc]; exact Nat.lt_succ_self _), Q_X10_, fun _ => rfl⟩
        refine steps_cons ?_ ?_
        · rintro b a w' ⟨g6, g7, m10_, m11_, ha, Q_HR, Q_BA6, Q_BA7, Q_BX6, Q_BX7, Q_NE, Q_U6, Q_U7, Q_X10_, Q_X11_⟩ hb_ hon hoff
          refine ⟨_, rfl, fun K hK => ?_⟩
          have e6 : a.tmps[6]? = some (m10_) := by rw [ha]; exact putSel_on (e := (10, 6, m10_)) 10 rfl rfl (hon 10 (by kernel_rfl)) rfl
          rw [Q_X10_ (hon 10 (by kernel_rfl))] at e6
          have e35 : a.tmps[35]? = some (.agg #[.int .i64 pa, .int .i64 pr, .int .i64 ps, .int .i64 pw, .slice A1 m c1, .slice B1 n d1]) := by rw [ha]; exact putSel_on (e := (4, 35, .agg #[.int .i64 pa, .int .i64 pr, .int .i64 ps, .int .i64 pw, .slice A1 m c1, .slice B1 n d1])) 4 rfl rfl (hon 4 (by kernel_rfl)) rfl
          replace ha := Aside0.mk ha
          have HR := Aside0.mk Q_HR
          have BA6 := Aside0.mk (Q_BA6 (hon 10 (by kernel_rfl)) hb_)
          have BA7 := Aside0.mk (Q_BA7 (hon 11 (by kernel_rfl)) (hoff 13 (by kernel_rfl)))
          have NE := Aside0.mk (Q_NE (hon 10 (by kernel_rfl)) (hon 11 (by kernel_rfl)))
          have U6 := Aside0.mk Q_U6
          have U7 := Aside0.mk Q_U7
          have hq6_0 : w'.cell? ⟨g6, 0, none⟩ = some (.int .i64 0) := (blk_cell BA6.out.1 0).trans rfl
          have hq6_1 : w'.cell? ⟨g6, 1, none⟩ = some (.int .i64 0) := (blk_cell BA6.out.1 1).trans rfl
          have hq6_2 : w'.cell? ⟨g6, 2, none⟩ = some (.int .i64 0) := (blk_cell BA6.out.1 2).trans rfl
          have hq6_3 : w'.cell? ⟨g6, 3, none⟩ = some (.int .i64 0) := (blk_cell BA6.out.1 3).trans rfl
          have hq6_4 : w'.cell? ⟨g6, 4, none⟩ = some (.slice none 0 0) := (blk_cell BA6.out.1 4).trans rfl
          have hq6_5 : w'.cell? ⟨g6, 5, none⟩ = some (.slice none 0 0) := (blk_cell BA6.out.1 5).trans rfl
          have hf6_0 := blk_frozen BA6.out.1 0
          have hf6_1 := blk_frozen BA6.out.1 1
          have hf6_2 := blk_frozen BA6.out.1 2
          have hf6_3 := blk_frozen BA6.out.1 3
          have hf6_4 := blk_frozen BA6.out.1 4
          have hf6_5 := blk_frozen BA6.out.1 5
          refine skip_ (w1 := ?_) (by rfl) rfl ?_ ?_
          rotate_left
          · go_simp
            rfl
          refine hK.out _ _ ⟨g6, g7, m10_, m11_, (by rw [ha.out]; exact putSel_none (v := undef) rfl), (by (repeat (refine below_set ?_ BA6.out.2)); exact HR.out), fun _ h1_ => absurd ((up_self b 12).symm.trans h1_) (by decide), fun _ _ => ⟨(by refine blk_far ?_ NE.out.symm _; refine blk_far ?_ NE.out.symm _; refine blk_far ?_ NE.out.symm _; refine blk_far ?_ NE.out.symm _; refine blk_far ?_ NE.out.symm _; refine blk_far ?_ NE.out.symm _; exact BA7.out.1), BA7.out.2⟩, fun _ => ⟨(by (with_reducible repeat (first | refine blk_drewN ?_ _ | refine blk_drew ?_ | refine blk_alloc ?_ _)); refine blk_put (cs := #[.int .i64 pa, .int .i64 pr, .int .i64 ps, .int .i64 pw, .slice A1 m c1, .slice none 0 0]) ?_ 5 _ rfl; (with_reducible repeat (first | refine blk_drewN ?_ _ | refine blk_drew ?_ | refine blk_alloc ?_ _)); refine blk_put (cs := #[.int .i64 pa, .int .i64 pr, .int .i64 ps, .int .i64 pw, .slice none 0 0, .slice none 0 0]) ?_ 4 _ rfl; (with_reducible repeat (first | refine blk_drewN ?_ _ | refine blk_drew ?_ | refine blk_alloc ?_ _)); refine blk_put (cs := #[.int .i64 pa, .int .i64 pr, .int .i64 ps, .int .i64 0, .slice none 0 0, .slice none 0 0]) ?_ 3 _ rfl; (with_reducible repeat (first | refine blk_drewN ?_ _ | refine blk_drew ?_ | refine blk_alloc ?_ _)); refine blk_put (cs := #[.int .i64 pa, .int .i64 pr, .int .i64 0, .int .i64 0, .slice none 0 0, .slice none 0 0]) ?_ 2 _ rfl; (with_reducible repeat (first | refine blk_drewN ?_ _ | refine blk_drew ?_ | refine blk_alloc ?_ _)); refine blk_put (cs := #[.int .i64 pa, .int .i64 0, .int .i64 0, .int .i64 0, .slice none 0 0, .slice none 0 0]) ?_ 1 _ rfl; (with_reducible repeat (first | refine blk_drewN ?_ _ | refine blk_drew ?_ | refine blk_alloc ?_ _)); refine blk_put (cs := #[.int .i64 0, .int .i64 0, .int .i64 0, .int .i64 0, .slice none 0 0, .slice none 0 0]) ?_ 0 _ rfl; (with_reducible repeat (first | refine blk_drewN ?_ _ | refine blk_drew ?_ | refine blk_alloc ?_ _)); exact BA6.out.1), BA6.out.2⟩, fun h0_ => absurd ((hoff 13 (by kernel_rfl)).symm.trans h0_) (by decide), fun _ _ => NE.out, (by simpa [World.setCell] using U6.out), (by simpa [World.setCell] using U7.out), Q_X10_, Q_X11_⟩
        refine steps_cons ?_ ?_
        · rintro b a w' ⟨g6, g7, m10_, m11_, ha, Q_HR, Q_BA6, Q_BA7, Q_BX6, Q_BX7, Q_NE, Q_U6, Q_U7, Q_X10_, Q_X11_⟩ hb_ hon hoff
          refine ⟨_, rfl, fun K hK => ?_⟩
          have e7 : a.tmps[7]? = some (m11_) := by rw [ha]; exact putSel_on (e := (11, 7, m11_)) 11 rfl rfl (hon 11 (by kernel_rfl)) rfl
          rw [Q_X11_ (hon 11 (by kernel_rfl))] at e7
          have e40 : a.tmps[40]? = some (.agg #[.int .i64 pa, .int .i64 pr, .int .i64 ps, .int .i64 pw, .slice A2 m c2, .slice B2 n d2]) := by rw [ha]; exact putSel_on (e := (9, 40, .agg #[.int .i64 pa, .int .i64 pr, .int .i64 ps, .int .i64 pw, .slice A2 m c2, .slice B2 n d2])) 9 rfl rfl (hon 9 (by kernel_rfl)) rfl
          replace ha := Aside0.mk ha
          have HR := Aside0.mk Q_HR
          have BA7 := Aside0.mk (Q_BA7 (hon 11 (by kernel_rfl)) hb_)
          have BX6 := Aside0.mk (Q_BX6 (hon 12 (by kernel_rfl)))
          have NE := Aside0.mk (Q_NE (hon 10 (by kernel_rfl)) (hon 11 (by kernel_rfl)))
          have U6 := Aside0.mk Q_U6
          have U7 := Aside0.mk Q_U7
          have hq7_0 : w'.cell? ⟨g7, 0, none⟩ = some (.int .i64 0) := (blk_cell BA7.out.1 0).trans rfl
          have hq7_1 : w'.cell? ⟨g7, 1, none⟩ = some (.int .i64 0) := (blk_cell BA7.out.1 1).trans rfl
          have hq7_2 : w'.cell? ⟨g7, 2, none⟩ = some (.int .i64 0) := (blk_cell BA7.out.1 2).trans rfl
          have hq7_3 : w'.cell? ⟨g7, 3, none⟩ = some (.int .i64 0) := (blk_cell BA7.out.1 3).trans rfl
          have hq7_4 : w'.cell? ⟨g7, 4, none⟩ = some (.slice none 0 0) := (blk_cell BA7.out.1 4).trans rfl
          have hq7_5 : w'.cell? ⟨g7, 5, none⟩ = some (.slice none 0 0) := (blk_cell BA7.out.1 5).trans rfl
          have hf7_0 := blk_frozen BA7.out.1 0
          have hf7_1 := blk_frozen BA7.out.1 1
          have hf7_2 := blk_frozen BA7.out.1 2
          have hf7_3 := blk_frozen BA7.out.1 3
          have hf7_4 := blk_frozen BA7.out.1 4
          have hf7_5 := blk_frozen BA7.out.1 5
          refine skip_ (w1 := ?_) (by rfl) rfl ?_ ?_
          rotate_left
          · go_simp
            rfl
          refine hK.out _ _ ⟨g6, g7, m10_, m11_, (by rw [ha.out]; exact putSel_none (v := undef) rfl), (by (repeat (refine below_set ?_ BA7.out.2)); exact HR.out), fun _ h1_ => absurd ((hon 12 (by kernel_rfl)).symm.trans h1_) (by decide), fun _ h1_ => absurd ((up_self b 13).symm.trans h1_) (by decide), fun _ => ⟨(by refine blk_far ?_ NE.out _; refine blk_far ?_ NE.out _; refine blk_far ?_ NE.out _; refine blk_far ?_ NE.out _; refine blk_far ?_ NE.out _; refine blk_far ?_ NE.out _; exact BX6.out.1), BX6.out.2⟩, fun _ => ⟨(by (with_reducible repeat (first | refine blk_drewN ?_ _ | refine blk_drew ?_ | refine blk_alloc ?_ _)); refine blk_put (cs := #[.int .i64 pa, .int .i64 pr, .int .i64 ps, .int .i64 pw, .slice A2 m c2, .slice none 0 0]) ?_ 5 _ rfl; (with_reducible repeat (first | refine blk_drewN ?_ _ | refine blk_drew ?_ | refine blk_alloc ?_ _)); refine blk_put (cs := #[.int .i64 pa, .int .i64 pr, .int .i64 ps, .int .i64 pw, .slice none 0 0, .slice none 0 0]) ?_ 4 _ rfl; (with_reducible repeat (first | refine blk_drewN ?_ _ | refine blk_drew ?_ | refine blk_alloc ?_ _)); refine blk_put (cs := #[.int .i64 pa, .int .i64 pr, .int .i64 ps, .int .i64 0, .slice none 0 0, .slice none 0 0]) ?_ 3 _ rfl; (with_reducible repeat (first | refine blk_drewN ?_ _ | refine blk_drew ?_ | refine blk_alloc ?_ _)); refine blk_put (cs := #[.int .i64 pa, .int .i64 pr, .int .i64 0, .int .i64 0, .slice none 0 0, .slice none 0 0]) ?_ 2 _ rfl; (with_reducible repeat (first | refine blk_drewN ?_ _ | refine blk_drew ?_ | refine blk_alloc ?_ _)); refine blk_put (cs := #[.int .i64 pa, .int .i64 0, .int .i64 0, .int .i64 0, .slice none 0 0, .slice none 0 0]) ?_ 1 _ rfl; (with_reducible repeat (first | refine blk_drewN ?_ _ | refine blk_drew ?_ | refine blk_alloc ?_ _)); refine blk_put (cs := #[.int .i64 0, .int .i64 0, .int .i64 0, .int .i64 0, .slice none 0 0, .slice none 0 0]) ?_ 0 _ rfl; (with_reducible repeat (first | refine blk_drewN ?_ _ | refine blk_drew ?_ | refine blk_alloc ?_ _)); exact BA7.out.1), BA7.out.2⟩, fun _ _ => NE.out, (by simpa [World.setCell] using U6.out), (by simpa [World.setCell] using U7.out), Q_X10_, Q_X11_⟩
        exact steps_nil
      rintro b a wx hall ⟨g6, g7, m10_, m11_, ha, Q_HR, Q_BA6, Q_BA7, Q_BX6, Q_BX7, Q_NE, Q_U6, Q_U7, Q_X10_, Q_X11_⟩
      clear HR U6 U7
      have hb0_ := hall 0 (by kernel_rfl)
      have hb1_ := hall 1 (by kernel_rfl)
      have hb2_ := hall 2 (by kernel_rfl)
      have hb3_ := hall 3 (by kernel_rfl)
      have hb4_ := hall 4 (by kernel_rfl)
      have hb5_ := hall 5 (by kernel_rfl)
      have hb6_ := hall 6 (by kernel_rfl)
      have hb7_ := hall 7 (by kernel_rfl)
      have hb8_ := hall 8 (by kernel_rfl)
      have hb9_ := hall 9 (by kernel_rfl)
      have hb10_ := hall 10 (by kernel_rfl)
      have hb11_ := hall 11 (by kernel_rfl)
      have hb12_ := hall 12 (by kernel_rfl)
      have hb13_ := hall 13 (by kernel_rfl)
      subst ha
      obtain rfl := Q_X10_ hb10_
      obtain rfl := Q_X11_ hb11_
      simp only [putSel, hb0_, hb1_, hb2_, hb3_, hb4_, hb5_, hb6_, hb7_, hb8_, hb9_, hb10_, hb11_, hb12_, hb13_, if_true, Act.put, List.setIfInBounds_toArray, List.set_cons_zero, List.set_cons_succ]
      have HR := Aside0.mk Q_HR
      clear Q_HR
      clear Q_BA6
      clear Q_BA7
      have BX6 := Aside0.mk (Q_BX6 hb12_)
      clear Q_BX6
      have BX7 := Aside0.mk (Q_BX7 hb13_)
      clear Q_BX7
      have NE := Aside0.mk (Q_NE hb10_ hb11_)
      clear Q_NE
      have U6 := Aside0.mk Q_U6
      clear Q_U6
      have U7 := Aside0.mk Q_U7
      clear Q_U7
      clear hall hb0_ hb1_ hb2_ hb3_ hb4_ hb5_ hb6_ hb7_ hb8_ hb9_ hb10_ hb11_ hb12_ hb13_
      have HBx := Aside0.mk (below_step HB.out HR.out)
      have BK2x := Aside0.mk (blk_below BK2o.out HR.out)
      have BK3x := Aside0.mk (blk_below BK3o.out HR.out)
      have hx6_0 : wx.cell? ⟨g6, 0, none⟩ = some (.int .i64 pa) := (blk_cell BX6.out.1 0).trans rfl
      have hx6_1 : wx.cell? ⟨g6, 1, none⟩ = some (.int .i64 pr) := (blk_cell BX6.out.1 1).trans rfl
      have hx6_2 : wx.cell? ⟨g6, 2, none⟩ = some (.int .i64 ps) := (blk_cell BX6.out.1 2).trans rfl
      have hx6_3 : wx.cell? ⟨g6, 3, none⟩ = some (.int .i64 pw) := (blk_cell BX6.out.1 3).trans rfl
      have hx6_4 : wx.cell? ⟨g6, 4, none⟩ = some (.slice A1 m c1) := (blk_cell BX6.out.1 4).trans rfl
      have hx6_5 : wx.cell? ⟨g6, 5, none⟩ = some (.slice B1 n d1) := (blk_cell BX6.out.1 5).trans rfl
      have hx7_0 : wx.cell? ⟨g7, 0, none⟩ = some (.int .i64 pa) := (blk_cell BX7.out.1 0).trans rfl
      have hx7_1 : wx.cell? ⟨g7, 1, none⟩ = some (.int .i64 pr) := (blk_cell BX7.out.1 1).trans rfl
      have hx7_2 : wx.cell? ⟨g7, 2, none⟩ = some (.int .i64 ps) := (blk_cell BX7.out.1 2).trans rfl
      have hx7_3 : wx.cell? ⟨g7, 3, none⟩ = some (.int .i64 pw) := (blk_cell BX7.out.1 3).trans rfl
      have hx7_4 : wx.cell? ⟨g7, 4, none⟩ = some (.slice A2 m c2) := (blk_cell BX7.out.1 4).trans rfl
      have hx7_5 : wx.cell? ⟨g7, 5, none⟩ = some (.slice B2 n d2) := (blk_cell BX7.out.1 5).trans rfl
      have hmm : ((m : Int) != (m : Int)) = false := by simp
      have hnn2 : ((n : Int) != (n : Int)) = false := by simp
      have hpa : (pa != pa) = false := by simp
      clear ha0 ha1 ha2 ha3 ha4 ha5 hb0 hb1 hb2 hb3 hb4 hb5 BK2s BK3s BK2 BK3
      go_upto_region 10 with (go_at_call 25; refine (ints_yes _ A1 A2 m c1 c2 Sl (Aside0.mk (HS1.out.to HBx.out)) (Aside0.mk (HS2.out.to HBx.out)) hm).mono ?_; rintro e w5 ⟨rfl, hb5⟩; have HB5 := Aside0.mk (below_step HBx.out hb5); have BX65 := Aside0.mk (blk_below BX6.out.1 hb5); have BX75 := Aside0.mk (blk_below BX7.out.1 hb5); have BK25 := Aside0.mk (blk_below BK2x.out hb5); have BK35 := Aside0.mk (blk_below BK3x.out hb5); clear hb5; have hy6 : w5.cell? ⟨g6, 5, none⟩ = some (.slice B1 n d1) := (blk_cell BX65.out 5).trans rfl; have hy7 : w5.cell? ⟨g7, 5, none⟩ = some (.slice B2 n d2) := (blk_cell BX75.out 5).trans rfl)
      obtain ⟨wA, hwA⟩ : ∃ x, x = wr := ⟨_, rfl⟩
      subst hwA
      go_loopw [8] (fun v wr => ∃ k : Nat, k ≤ n ∧ v = .int .i64 (k : Int) ∧ Aside0 (Below W.heap.size W wr) ∧ Aside0 (wr.heap[g2]? = some (.cells #[.slice r1 rl rc1, .slice n1 nl nc1] 25 (0, 0))) ∧ Aside0 (wr.heap[g3]? = some (.cells #[.slice r2 rl rc2, .slice n2 nl nc2] 25 (0, 0))) ∧ Aside0 (wr.heap[g6]? = some (.cells #[.int .i64 pa, .int .i64 pr, .int .i64 ps, .int .i64 pw, .slice A1 m c1, .slice B1 n d1] 40 (0, 0))) ∧ Aside0 (wr.heap[g7]? = some (.cells #[.int .i64 pa, .int .i64 pr, .int .i64 ps, .int .i64 pw, .slice A2 m c2, .slice B2 n d2] 40 (0, 0)))) (fun v _ => n - (intOf v).toNat)
      case atStart => exact ⟨0, by omega, rfl, HB5, BK25, BK35, BX65, BX75⟩
      case round =>
        clear HB5 BK25 BK35 BX65 BX75 hy6 hy7
        obtain ⟨k, hk_, rfl, HBk, BK2k, BK3k, BXr6, BXr7⟩ := hrel
        have hy6 : wr.cell? ⟨g6, 5, none⟩ = some (.slice B1 n d1) := (blk_cell BXr6.out 5).trans rfl
        by_cases hgk : k < n
        · have hdk : decide ((k : Int) < (n : Int)) = true := decide_eq_true (by omega)
          obtain ⟨ye, ee, _, hye⟩ := (HT1.out.kept fun k hk => HBk.out.block k hk).2 k hgk
          obtain ⟨yf, ef, _, hyf⟩ := (HT2.out.kept fun k hk => HBk.out.block k hk).2 k hgk
          have EE := Aside0.mk ee
          have EF := Aside0.mk ef
          clear ee ef
          obtain ⟨z, hz⟩ : ∃ z, z = Tl.getD k 0 := ⟨_, rfl⟩
          rw [← hz] at hye hyf
          clear hz
          have hk0 : (0 : Int) ≤ (k : Int) := by omega
          have hk1 : (k : Int) < (n : Int) := by omega
          have hk1n : k + 1 ≤ n := by omega
          have hzz : (z != z) = false := by simp
          go_upto_region 12 with fail
          have HR := Aside0.mk (Below.refl wr.heap.size wr)
          have BXs6 := BXr6
          have BXs7 := BXr7
          clear BXr6 BXr7
          have BXr6 := Aside0.mk (show wr.heap[g6]? = some (.cells #[.int .i64 pa, .int .i64 pr, .int .i64 ps, .int .i64 pw, .slice A1 m c1, .slice (some ye) n d1] 40 (0, 0)) by rw [← EE.out]; exact BXs6.out)
          have BXr7 := Aside0.mk (show wr.heap[g7]? = some (.cells #[.int .i64 pa, .int .i64 pr, .int .i64 ps, .int .i64 pw, .slice A2 m c2, .slice (some yf) n d2] 40 (0, 0)) by rw [← EF.out]; exact BXs7.out)
          refine start_ (n := 11) (S := fun w' => True) (ds := []) #[false, false, false, false, false, false, false, false, false, false, false] (by kernel_rfl) rfl rfl trivial (fun hHeld => ?_)
          refine with_tabW sm12.tab12 sm12.bits12 (fun HT_ HW_ => ?_)
          refine inv_at [0, 1, 2, 3, 4, 5, 6, 7, 8, 9, 10] (fun a0_ b a w' => a = putSel a0_ b [(0, 77, .pointer (some ⟨g6, 5, none⟩)), (1, 78, .slice (some ye) n d1), (2, 79, .int .i64 (k : Int)), (3, 80, .pointer (some (ye.add k))), (4, 81, .int .u64 z), (5, 82, .pointer (some ⟨g7, 5, none⟩)), (6, 83, .slice (some yf) n d2), (7, 84, .int .i64 (k : Int)), (8, 85, .pointer (some (yf.add k))), (9, 86, .int .u64 z), (10, 87, .bool false)] ∧ (Below wr.heap.size wr w')) HT_.out HW_.out (by kernel_rfl) (by kernel_rfl) ?_ ?_ ?_
          · exact ⟨by simp only [putSel, Bool.false_eq_true, if_false], below_drew1 HR.out⟩
          · skip
            clear HR
            refine steps_cons ?_ ?_
            · rintro b a w' ⟨ha, Q_HR⟩ hb_ hon hoff
              refine ⟨_, rfl, fun K hK => ?_⟩
              have e6 : a.tmps[6]? = some (.pointer (some ⟨g6, 0, none⟩)) := by rw [ha]; exact (putSel_off rfl).trans rfl
              replace ha := Aside0.mk ha
              have HR := Aside0.mk Q_HR
              refine value_ (w1 := w') (v := .pointer (some ⟨g6, 5, none⟩)) (by rfl) rfl ?_ ?_
              · go_simp
                (try simp only [i64_w])
                try rfl
              refine hK.out _ _ ⟨(by rw [ha.out]; exact putSel_upk 0 hb_ rfl rfl rfl), Q_HR⟩
            refine steps_cons ?_ ?_
            · rintro b a w' ⟨ha, Q_HR⟩ hb_ hon hoff
              refine ⟨_, rfl, fun K hK => ?_⟩
              have e77 : a.tmps[77]? = some (.pointer (some ⟨g6, 5, none⟩)) := by rw [ha]; exact putSel_on (e := (0, 77, .pointer (some ⟨g6, 5, none⟩))) 0 rfl rfl (hon 0 (by kernel_rfl)) rfl
              replace ha := Aside0.mk ha
              have HR := Aside0.mk Q_HR
              have hl78_0 : w'.cell? ⟨g6, 5, none⟩ = some (.slice (some ye) n d1) := (blk_cell (blk_below BXr6.out HR.out) 5).trans rfl
              refine value_ (w1 := w') (v := .slice (some ye) n d1) (by rfl) rfl ?_ ?_
              · go_simp
                (try simp only [i64_w])
                try rfl
              refine hK.out _ _ ⟨(by rw [ha.out]; exact putSel_upk 1 hb_ rfl rfl rfl), Q_HR⟩
            refine steps_cons ?_ ?_
            · rintro b a w' ⟨ha, Q_HR⟩ hb_ hon hoff
              refine ⟨_, rfl, fun K hK => ?_⟩
              have e8 : a.tmps[8]? = some (.int .i64 (k : Int)) := by rw [ha]; exact (putSel_off rfl).trans rfl
              replace ha := Aside0.mk ha
              have HR := Aside0.mk Q_HR
              refine value_ (w1 := w') (v := .int .i64 (k : Int)) (by rfl) rfl ?_ ?_
              · go_simp
                (try simp only [i64_w])
                try rfl
              refine hK.out _ _ ⟨(by rw [ha.out]; exact putSel_upk 2 hb_ rfl rfl rfl), Q_HR⟩
            refine steps_cons ?_ ?_
            · rintro b a w' ⟨ha, Q_HR⟩ hb_ hon hoff
              refine ⟨_, rfl, fun K hK => ?_⟩
              have e78 : a.tmps[78]? = some (.slice (some ye) n d1) := by rw [ha]; exact putSel_on (e := (1, 78, .slice (some ye) n d1)) 1 rfl rfl (hon 1 (by kernel_rfl)) rfl
              have e79 : a.tmps[79]? = some (.int .i64 (k : Int)) := by rw [ha]; exact putSel_on (e := (2, 79, .int .i64 (k : Int))) 2 rfl rfl (hon 2 (by kernel_rfl)) rfl
              replace ha := Aside0.mk ha
              have HR := Aside0.mk Q_HR
              refine value_ (w1 := w') (v := .pointer (some (ye.add k))) (by rfl) rfl ?_ ?_
              · go_simp
                (try simp only [i64_w])
                try rfl
              refine hK.out _ _ ⟨(by rw [ha.out]; exact putSel_upk 3 hb_ rfl rfl rfl), Q_HR⟩
            refine steps_cons ?_ ?_
            · rintro b a w' ⟨ha, Q_HR⟩ hb_ hon hoff
              refine ⟨_, rfl, fun K hK => ?_⟩
              have e80 : a.tmps[80]? = some (.pointer (some (ye.add k))) := by rw [ha]; exact putSel_on (e := (3, 80, .pointer (some (ye.add k)))) 3 rfl rfl (hon 3 (by kernel_rfl)) rfl
              replace ha := Aside0.mk ha
              have HR := Aside0.mk Q_HR
              have hl81 : w'.cell? (ye.add k) = some (.int .u64 z) := (HR.out.cell (p := ye.add k) (cell_lt hye)).trans hye
              refine value_ (w1 := w') (v := .int .u64 z) (by rfl) rfl ?_ ?_
              · go_simp
                (try simp only [i64_w])
                try rfl
              refine hK.out _ _ ⟨(by rw [ha.out]; exact putSel_upk 4 hb_ rfl rfl rfl), Q_HR⟩
            refine steps_cons ?_ ?_
            · rintro b a w' ⟨ha, Q_HR⟩ hb_ hon hoff
              refine ⟨_, rfl, fun K hK => ?_⟩
              have e7 : a.tmps[7]? = some (.pointer (some ⟨g7, 0, none⟩)) := by rw [ha]; exact (putSel_off rfl).trans rfl
              replace ha := Aside0.mk ha
              have HR := Aside0.mk Q_HR
              refine value_ (w1 := w') (v := .pointer (some ⟨g7, 5, none⟩)) (by rfl) rfl ?_ ?_
              · go_simp
                (try simp only [i64_w])
                try rfl
              refine hK.out _ _ ⟨(by rw [ha.out]; exact putSel_upk 5 hb_ rfl rfl rfl), Q_HR⟩
            refine steps_cons ?_ ?_
            · rintro b a w' ⟨ha, Q_HR⟩ hb_ hon hoff
              refine ⟨_, rfl, fun K hK => ?_⟩
              have e82 : a.tmps[82]? = some (.pointer (some ⟨g7, 5, none⟩)) := by rw [ha]; exact putSel_on (e := (5, 82, .pointer (some ⟨g7, 5, none⟩))) 5 rfl rfl (hon 5 (by kernel_rfl)) rfl
              replace ha := Aside0.mk ha
              have HR := Aside0.mk Q_HR
              have hl83_0 : w'.cell? ⟨g7, 5, none⟩ = some (.slice (some yf) n d2) := (blk_cell (blk_below BXr7.out HR.out) 5).trans rfl
              refine value_ (w1 := w') (v := .slice (some yf) n d2) (by rfl) rfl ?_ ?_
              · go_simp
                (try simp only [i64_w])
                try rfl
              refine hK.out _ _ ⟨(by rw [ha.out]; exact putSel_upk 6 hb_ rfl rfl rfl), Q_HR⟩
            refine steps_cons ?_ ?_
            · rintro b a w' ⟨ha, Q_HR⟩ hb_ hon hoff
              refine ⟨_, rfl, fun K hK => ?_⟩
              have e8 : a.tmps[8]? = some (.int .i64 (k : Int)) := by rw [ha]; exact (putSel_off rfl).trans rfl
              replace ha := Aside0.mk ha
              have HR := Aside0.mk Q_HR
              refine value_ (w1 := w') (v := .int .i64 (k : Int)) (by rfl) rfl ?_ ?_
              · go_simp
                (try simp only [i64_w])
                try rfl
              refine hK.out _ _ ⟨(by rw [ha.out]; exact putSel_upk 7 hb_ rfl rfl rfl), Q_HR⟩
            refine steps_cons ?_ ?_
            · rintro b a w' ⟨ha, Q_HR⟩ hb_ hon hoff
              refine ⟨_, rfl, fun K hK => ?_⟩
              have e83 : a.tmps[83]? = some (.slice (some yf) n d2) := by rw [ha]; exact putSel_on (e := (6, 83, .slice (some yf) n d2)) 6 rfl rfl (hon 6 (by kernel_rfl)) rfl
              have e84 : a.tmps[84]? = some (.int .i64 (k : Int)) := by rw [ha]; exact putSel_on (e := (7, 84, .int .i64 (k : Int))) 7 rfl rfl (hon 7 (by kernel_rfl)) rfl
              replace ha := Aside0.mk ha
              have HR := Aside0.mk Q_HR
              refine value_ (w1 := w') (v := .pointer (some (yf.add k))) (by rfl) rfl ?_ ?_
              · go_simp
                (try simp only [i64_w])
                try rfl
              refine hK.out _ _ ⟨(by rw [ha.out]; exact putSel_upk 8 hb_ rfl rfl rfl), Q_HR⟩
            refine steps_cons ?_ ?_
            · rintro b a w' ⟨ha, Q_HR⟩ hb_ hon hoff
              refine ⟨_, rfl, fun K hK => ?_⟩
              have e85 : a.tmps[85]? = some (.pointer (some (yf.add k))) := by rw [ha]; exact putSel_on (e := (8, 85, .pointer (some (yf.add k)))) 8 rfl rfl (hon 8 (by kernel_rfl)) rfl
              replace ha := Aside0.mk ha
              have HR := Aside0.mk Q_HR
              have hl86 : w'.cell? (yf.add k) = some (.int .u64 z) := (HR.out.cell (p := yf.add k) (cell_lt hyf)).trans hyf
              refine value_ (w1 := w') (v := .int .u64 z) (by rfl) rfl ?_ ?_
              · go_simp
                (try simp only [i64_w])
                try rfl
              refine hK.out _ _ ⟨(by rw [ha.out]; exact putSel_upk 9 hb_ rfl rfl rfl), Q_HR⟩
            refine steps_cons ?_ ?_
            · rintro b a w' ⟨ha, Q_HR⟩ hb_ hon hoff
              refine ⟨_, rfl, fun K hK => ?_⟩
              have e81 : a.tmps[81]? = some (.int .u64 z) := by rw [ha]; exact putSel_on (e := (4, 81, .int .u64 z)) 4 rfl rfl (hon 4 (by kernel_rfl)) rfl
              have e86 : a.tmps[86]? = some (.int .u64 z) := by rw [ha]; exact putSel_on (e := (9, 86, .int .u64 z)) 9 rfl rfl (hon 9 (by kernel_rfl)) rfl
              replace ha := Aside0.mk ha
              have HR := Aside0.mk Q_HR
              refine value_ (w1 := w') (v := .bool false) (by rfl) rfl ?_ ?_
              · go_simp
                (try simp only [i64_w])
                try rfl
              refine hK.out _ _ ⟨(by rw [ha.out]; exact putSel_upk 10 hb_ rfl rfl rfl), Q_HR⟩
            exact steps_nil
          rintro b a wz hall ⟨ha, Q_HR⟩
          clear HR
          have hb0_ := hall 0 (by kernel_rfl)
          have hb1_ := hall 1 (by kernel_rfl)
          have hb2_ := hall 2 (by kernel_rfl)
          have hb3_ := hall 3 (by kernel_rfl)
          have hb4_ := hall 4 (by kernel_rfl)
          have hb5_ := hall 5 (by kernel_rfl)
          have hb6_ := hall 6 (by kernel_rfl)
          have hb7_ := hall 7 (by kernel_rfl)
          have hb8_ := hall 8 (by kernel_rfl)
          have hb9_ := hall 9 (by kernel_rfl)
          have hb10_ := hall 10 (by kernel_rfl)
          subst ha
          simp only [putSel, hb0_, hb1_, hb2_, hb3_, hb4_, hb5_, hb6_, hb7_, hb8_, hb9_, hb10_, if_true, Act.put, List.setIfInBounds_toArray, List.set_cons_zero, List.set_cons_succ]
          have HR := Aside0.mk Q_HR
          clear Q_HR
          clear hall hb0_ hb1_ hb2_ hb3_ hb4_ hb5_ hb6_ hb7_ hb8_ hb9_ hb10_
          have HBz := Aside0.mk (below_step HBk.out HR.out)
          have K2z := Aside0.mk (blk_below BK2k.out HR.out)
          have K3z := Aside0.mk (blk_below BK3k.out HR.out)
          have K6z := Aside0.mk (blk_below BXs6.out HR.out)
          have K7z := Aside0.mk (blk_below BXs7.out HR.out)
          clear BXr6 BXr7
          go_wp2
          go_roundw
          case measure => exact meas_i hgk (by push_cast; rfl)
          case rel => exact ⟨k + 1, hk1n, by push_cast; rfl, HBz, K2z, K3z, K6z, K7z⟩
        · obtain rfl : k = n := by omega
          have hdk : decide ((k : Int) < (k : Int)) = false := decide_eq_false (by omega)
          go_wp2
          go_roundw
          case measure => exact meas_i hgo (by push_cast; rfl)
          case rel => exact ⟨i + 1, hi1n, by push_cast; rfl, HBk, BK2k, BK3k⟩
    · obtain rfl : i = nl := by omega
      have hd : decide ((i : Int) < (i : Int)) = false := decide_eq_false (by omega)
      go_wp2
      go_ret
      exact ⟨rfl, HB.out⟩
end Go.Proofs.Ytekggbmajemmhaa.Gr
/- Diff: Quiet and Count. Condition: the list lies in memory. -/
namespace Go.Proofs.Ytekggbmajemmhaa.Di
open Go.RowKit Go.Shelf Go.Maps Go.ChangeMaps Go.MapKept Go.Proofs.YtekggbmajemmhaaW.PrintWords Go.Proofs.YtekggbmajemmhaaW.PrintLast Go.Proofs.YtekggbmajemmhaaW.PrintMore
set_option linter.unusedSimpArgs false
set_option linter.unusedVariables false
theorem add_block (ad : Addr) (k : Nat) : (ad.add k).block = ad.block := by unfold Addr.add; split <;> rfl
theorem add_zero (ad : Addr) : ad.add 0 = ad := by simp [Addr.add]
/-- A change. -/
structure ChV where
  (k a i was is : Int)
instance : Inhabited ChV := ⟨⟨0, 0, 0, 0, 0⟩⟩
/-- A list of changes that lies in memory ahead of block B. -/
def CL (W : World) (B : Nat) (a : Option Addr) (len : Nat) (F : Nat → ChV) : Prop := ∀ i, i < len → ∃ y, a = some y ∧ y.block < B ∧ W.cell? ((y.add (i * 5)).add 0) = some (.int .i64 (F i).k) ∧ W.cell? ((y.add (i * 5)).add 1) = some (.int .i64 (F i).a) ∧ W.cell? ((y.add (i * 5)).add 2) = some (.int .i64 (F i).i) ∧ W.cell? ((y.add (i * 5)).add 3) = some (.int .u64 (F i).was) ∧ W.cell? ((y.add (i * 5)).add 4) = some (.int .u64 (F i).is)
theorem CL.kept {W W' : World} {B : Nat} {a : Option Addr} {len : Nat} {F : Nat → ChV} (h : CL W B a len F) (hb : ∀ k, k < B → W'.heap[k]? = W.heap[k]?) : CL W' B a len F := fun i hi => by
  obtain ⟨y, h1, h2, h3, h4, h5, h6, h7⟩ := h i hi
  have hk : ∀ j, W'.cell? ((y.add (i * 5)).add j) = W.cell? ((y.add (i * 5)).add j) := fun j => World.cell?_of_block (hb _ (by rw [add_block, add_block]; exact h2))
  exact ⟨y, h1, h2, (hk 0).trans h3, (hk 1).trans h4, (hk 2).trans h5, (hk 3).trans h6, (hk 4).trans h7⟩
theorem CL.mono {W : World} {B B' : Nat} {a : Option Addr} {len : Nat} {F : Nat → ChV} (h : CL W B a len F) (hb : B ≤ B') : CL W B' a len F := fun i hi => by
  obtain ⟨y, h1, h2, h3⟩ := h i hi
  exact ⟨y, h1, Nat.lt_of_lt_of_le h2 hb, h3⟩
/-- How many of each kind. -/
structure C6 where
  (c0 c1 c2 c3 c4 c5 : Int)
abbrev C6.cells (c : C6) : Array Value := #[.int .i64 c.c0, .int .i64 c.c1, .int .i64 c.c2, .int .i64 c.c3, .int .i64 c.c4, .int .i64 c.c5]
end Go.Proofs.Ytekggbmajemmhaa.Di
/- DiffCounts' walk. No condition beyond what the row gives. -/
namespace Go.Proofs.Ytekggbmajemmhaa.Di
open Go.RowKit Go.Shelf Go.Maps Go.ChangeMaps Go.MapKept Go.Proofs.YtekggbmajemmhaaW.PrintWords Go.Proofs.YtekggbmajemmhaaW.PrintLast Go.Proofs.YtekggbmajemmhaaW.PrintMore
set_option linter.unusedSimpArgs false
set_option linter.unusedVariables false
theorem eq34 (c0 c1 c2 c3 c4 c5 : Int) (w : World) : (Op.equalIn 10000 34 (.agg #[.int .i64 c0, .int .i64 c1, .int .i64 c2, .int .i64 c3, .int .i64 c4, .int .i64 c5]) (.agg #[.int .i64 c0, .int .i64 c1, .int .i64 c2, .int .i64 c3, .int .i64 c4, .int .i64 c5])).run Try.prog w = .ok true w := by
  have u3 := Try.underlying3
  have a3 := Try.isAgg3
  have z3 := Try.sizeOf3
  rw [show (10000 : Nat) = 9999 + 1 from rfl, Op.equalIn]
  simp only [Sem.run_bind, run_underlying Try.underlying34, Result.andThen_ok]
  simp only [Std.Legacy.Range.forIn_eq_forIn_range', Std.Legacy.Range.size, Nat.sub_zero, Nat.add_sub_cancel, Nat.div_one, List.range'_succ, List.range'_zero, List.forIn_cons, List.forIn_nil]
  go_simp
attribute [local go_sem] eq34
end Go.Proofs.Ytekggbmajemmhaa.Di
/- DiffCounts: a slice of changes, read out of the arguments. No condition beyond the reading. -/
namespace Go.Proofs.Ytekggbmajemmhaa.Di
open Go.ChangeShapes Go.WideShapes Go.ChangeAt Go.RowKit Go.Deep Go.Joins
set_option linter.unusedSimpArgs false
set_option linter.unusedVariables false
theorem cell_lt {w : World} {a : Addr} {v : Value} (h : w.cell? a = some v) : a.block < w.heap.size := by
  rcases Nat.lt_or_ge a.block w.heap.size with h0 | h0
  · exact h0
  · have h3 : w.heap[a.block]? = none := Array.getElem?_eq_none h0
    simp [World.cell?, h3] at h
theorem trod_struct5 {H : Type} {enc : TypeId × Value → H} {P : Program} {w : World} {base : Nat} {spare : Nat → Bool} {held : Bool} {t : TypeId} {f0 f1 f2 f3 f4 : Field} {fuel : Nat} {cs : List Value} {x : DataW H × List MemPlace} (ht : P.underlying t = some (.struct #[f0, f1, f2, f3, f4])) (h : DataW.trod enc P w base spare held fuel t cs = some x) :
    ∃ y0 y1 y2 y3 y4 n, DataW.trod enc P w base spare held n f0.type ((cs.drop f0.offset).take (P.cellsOf f0.type)) = some y0 ∧
      DataW.trod enc P w base spare held n f1.type ((cs.drop f1.offset).take (P.cellsOf f1.type)) = some y1 ∧ DataW.trod enc P w base spare held n f2.type ((cs.drop f2.offset).take (P.cellsOf f2.type)) = some y2 ∧
      DataW.trod enc P w base spare held n f3.type ((cs.drop f3.offset).take (P.cellsOf f3.type)) = some y3 ∧ DataW.trod enc P w base spare held n f4.type ((cs.drop f4.offset).take (P.cellsOf f4.type)) = some y4 := by
  obtain ⟨xs, n, _, rfl, hl, hlen, hf⟩ := DataW.trod_struct ht h
  match xs, hlen with
  | [y0, y1, y2, y3, y4], _ => exact ⟨y0, y1, y2, y3, y4, n, by simpa using hf 0 f0 rfl, by simpa using hf 1 f1 rfl, by simpa using hf 2 f2 rfl, by simpa using hf 3 f3 rfl, by simpa using hf 4 f4 rfl⟩
end Go.Proofs.Ytekggbmajemmhaa.Di
