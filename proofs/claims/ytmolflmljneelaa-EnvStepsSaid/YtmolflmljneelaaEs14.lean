/- Parts of one proof, set together: En25, En27, En28. What each says stands at its head; no condition beyond theirs. -/
import Derived.Test.YtmolflmljneelaaEs13
/- alive answers true. -/
namespace Go.Proofs.Ytmolflmljneelaa.En
open Go.RowKit Go.Proofs.YtmolflmljneelaaW.PrintWords Go.Proofs.YtmolflmljneelaaW.PrintLast Go.Proofs.YtmolflmljneelaaW.PrintMore
open Pm (Fr Rg Row thereB pendAt WFD) 
open Lk (Tbl takeR leaveR ownerV Only)
set_option linter.unusedSimpArgs false
set_option linter.unusedVariables false
theorem one0 {W w3 w4 w6 : World} {p gs gk bm cs ck tp tg : Nat} (hG : Rg w3 p gs gk bm 8 cs ck 0 Z8 Z8 (.map [])) (hT : Tbl w3 tp tg [-1])
    (hx : W.heap.size ≤ p ∧ W.heap.size ≤ gs ∧ W.heap.size ≤ gk ∧ W.heap.size ≤ bm ∧ W.heap.size ≤ tp ∧ W.heap.size ≤ tg) (hb : Below W.heap.size W w3)
    (hw4 : w4 = (w3.alloc (.cells #[.int .u8 0, .int .i64 3, .int .u64 7, .int .u8 1, .int .i64 3, .int .u64 0] 51)).alloc (.cells #[.int .i64 0] 36)) (h46 : Below w4.heap.size w4 w6) {w5 : World} (h45 : Below w4.heap.size w4 w5) (h56 : Below w5.heap.size w5 w6)
    (dl : w5.heap[w4.heap.size]? = some (.cells #[.slice (some ⟨w3.heap.size, 0, none⟩) 2 2] 39 (0, 0))) (dc : w5.heap[w4.heap.size + 1]? = some (.cells #[.pointer (some ⟨w3.heap.size + 1, 0, none⟩)] 34 (0, 0)))
    (he : w6.heap[w5.heap.size]? = some (.cells #[.pointer (some ⟨p, 0, none⟩), .pointer (some ⟨tp, 0, none⟩), .int .i64 0, .slice none 0 0, .int .i64 0, .int .i64 0] 73 (0, 0)))
    (hr : w6.heap[w5.heap.size + 1]? = some (.cells #[.pointer (some ⟨w5.heap.size, 0, none⟩), .func (.func 21) #[] #[.pointer (some ⟨w3.heap.size + 1 + 1, 0, none⟩), .pointer (some ⟨w3.heap.size + 1 + 1 + 1, 0, none⟩)], .bool false, .slice none 0 0] 75 (0, 0))) :
    One w6 W.heap.size ⟨p, gs, gk, bm, 8, cs, ck, tp, tg, w3.heap.size + 1⟩ w3.heap.size (w5.heap.size + 1) w5.heap.size w4.heap.size (w4.heap.size + 1) (.slice none 0 0) [] false (.slice none 0 0) [] sA := by
  have h42 : w3.heap.size + 1 + 1 = w4.heap.size := by rw [hw4]; simp
  rw [h42] at hr
  have B34 : Below w3.heap.size w3 w4 := by
    rw [hw4]
    exact ((Below.refl _ _).alloc (Nat.le_refl _) _).alloc (by simp) _
  have s34 := B34.size
  have s45 := h45.size
  have s56 := h56.size
  have B36 := B34.trans (h46.mono s34)
  have a1 := blk_alloc (blk_new w3 (.cells #[.int .u8 0, .int .i64 3, .int .u64 7, .int .u8 1, .int .i64 3, .int .u64 0] 51)) (.cells #[.int .i64 0] 36)
  have a2 : ((w3.alloc (.cells #[.int .u8 0, .int .i64 3, .int .u64 7, .int .u8 1, .int .i64 3, .int .u64 0] 51)).alloc (.cells #[.int .i64 0] 36)).heap[w3.heap.size + 1]? = some (.cells #[.int .i64 0] 36 (0, 0)) := by
    simpa using blk_new (w3.alloc (.cells #[.int .u8 0, .int .i64 3, .int .u64 7, .int .u8 1, .int .i64 3, .int .u64 0] 51)) (.cells #[.int .i64 0] 36)
  rw [← hw4] at a1 a2
  have hs := hb.size
  have hSh : Sh w6 ⟨p, gs, gk, bm, 8, cs, ck, tp, tg, w3.heap.size + 1⟩ sA :=
    ⟨⟨.map [], hG.below B36, Pm.wfd_nil _, fun j _ => Pm.pend_nil j⟩, hT.below B36, blk_below a2 h46, by simp⟩
  refine ⟨⟨⟨hr, blk_below dl h56, blk_below dc h56, ⟨0, 0, ⟨he, Wds.nil _ _, (fun g hg => by cases hg), ⟨hSh.size _ (.inr (.inl rfl)), hSh.size _ (.inr (.inr (.inl rfl)))⟩⟩⟩, Wds.nil _ _⟩, Nat.zero_le _, (fun e => by cases e), fun _ => ⟨rfl, rfl⟩, fun g hg => by cases hg⟩, hSh, blk_below a1 h46, ⟨fun b hb => ?_, by omega, by omega, by omega⟩, rfl⟩
  rcases hb with e | e | e | e | e | e | e
  all_goals ((try dsimp only at e); omega)
set_option maxHeartbeats 8000000 in
set_option maxRecDepth 100000 in
theorem alive_calls (W : World) : Calls Try.prog 4 #[] W fun e w' => e = .returned (.bool true) ∧ Below W.heap.size W w' := by
  go_enter Try.func4, Try.ntmps4
  go_upto_region 3 with (first
    | (go_at_call 5; refine (Pm.new_calls W 8 (.inl rfl)).mono ?_; rintro e w2 ⟨p, gs, gk, bm, cs, ck, rfl, hG, hb, l1, l2, l3, l4⟩; have HG := Aside0.mk hG; have HB2 := Aside0.mk hb; have HL2 := Aside0.mk (And.intro l1 (And.intro l2 (And.intro l3 l4))); clear hG hb l1 l2 l3 l4)
    | (go_at_call 6; refine (Lk.new_calls 1 (by omega) _).mono ?_; rintro e w3 ⟨tp, tg, rfl, l5, l6, hT, hb⟩; have HT := Aside0.mk hT; have HB3 := Aside0.mk (HB2.out.trans (hb.mono HB2.out.size)); have HL3 := Aside0.mk (And.intro (Nat.le_trans HB2.out.size l5) (Nat.le_trans HB2.out.size l6)); have HG3 := Aside0.mk (HG.out.below hb); clear hT hb l5 l6)
    | (go_at_call 10; refine (deed_made _ (some ⟨w3.heap.size, 0, none⟩) 2 2 (w3.heap.size + 1)).mono ?_; rintro e w5 ⟨rfl, hgl, hgc, hb⟩; have HGL := Aside0.mk hgl; have HGC := Aside0.mk hgc; have HB5 := Aside0.mk hb; clear hgl hgc hb)
    | (go_at_call 9; refine (env_made w5 p tp _ _ 0).mono ?_; rintro e w6 ⟨rfl, hev, hrn, hb⟩; have HEV := Aside0.mk hev; have HRN := Aside0.mk hrn; have HB6 := Aside0.mk hb; clear hev hrn hb))
  have H0 := Aside0.mk (one0 HG3.out HT.out ⟨HL2.out.2.2.2, HL2.out.1, HL2.out.2.1, HL2.out.2.2.1, HL3.out.1, HL3.out.2⟩ HB3.out rfl (HB5.out.trans (HB6.out.mono HB5.out.size)) HB5.out HB6.out HGL.out HGC.out HEV.out HRN.out)
  have BX := Aside0.mk (HB3.out.trans ((((Below.refl w3.heap.size w3).alloc (Nat.le_refl _) (.cells #[.int .u8 0, .int .i64 3, .int .u64 7, .int .u8 1, .int .i64 3, .int .u64 0] 51)).alloc (by simp) (.cells #[.int .i64 0] 36)).mono HB3.out.size |>.trans ((HB5.out.trans (HB6.out.mono HB5.out.size)).mono (by have := HB3.out.size; simp; omega))))
  clear HG HT HL2 HL3 HG3 HGL HGC HEV HRN HB2 HB3 HB5 HB6
  go_upto_region 4 with (go_at_call 11; first
    | (refine (one1 H0.out).mono ?_; rintro e w7 ⟨rfl, ⟨v1, y1, h1⟩, hb⟩; have H1 := Aside0.mk h1; have HB7 := Aside0.mk (BX.out.trans hb); clear h1 hb)
    | (refine (one2 H1.out).mono ?_; rintro e w8 ⟨rfl, ⟨v2, av2, h2⟩, hb⟩; have H2 := Aside0.mk h2; have HB8 := Aside0.mk (HB7.out.trans hb); clear h2 hb)
    | (refine (one3 H2.out).mono ?_; rintro e w9 ⟨rfl, ⟨v3, av3, h3⟩, hb⟩; have H3 := Aside0.mk h3; have HB9 := Aside0.mk (HB8.out.trans hb); clear h3 hb))
  go_upto_region 5 with (go_at_call 17; refine (one4 H3.out).mono ?_; rintro e w10 ⟨g, c, rfl, hw, hc7⟩; obtain rfl := hw.symm; clear hw)
  go_wp2_with fail
  go_ret
  exact ⟨rfl, HB9.out⟩
end Go.Proofs.Ytmolflmljneelaa.En
/- The law where there are no deeds, or too many. -/
namespace Go.Proofs.Ytmolflmljneelaa.En
open Go.RowKit Go.Proofs.YtmolflmljneelaaW.PrintWords Go.Proofs.YtmolflmljneelaaW.PrintLast Go.Proofs.YtmolflmljneelaaW.PrintMore
set_option linter.unusedSimpArgs false
set_option linter.unusedVariables false
set_option maxRecDepth 100000 in
theorem law_few (W : World) (a0 a1 : Option Addr) (len0 cap0 len1 cap1 : Nat) (h : len0 < 1) :
    Calls Try.prog 3 #[.slice a0 len0 cap0, .slice a1 len1 cap1] W fun e w' => e = .returned (.bool true) ∧ Below W.heap.size W w' := by
  have hd1 : decide ((len0 : Int) < 1) = true := decide_eq_true (by omega)
  have hd2 : (len0 : Int) < 1 := by omega
  go_enter Try.func3, Try.ntmps3
  go_wp2_with (go_at_call 4; refine (alive_calls _).mono ?_; rintro e w1 ⟨rfl, hb⟩; have HB1 := Aside0.mk hb; clear hb)
  go_ret
  exact ⟨rfl, HB1.out⟩
set_option maxRecDepth 100000 in
theorem law_many (W : World) (a0 a1 : Option Addr) (len0 cap0 len1 cap1 : Nat) (h : 4 < len0) :
    Calls Try.prog 3 #[.slice a0 len0 cap0, .slice a1 len1 cap1] W fun e w' => e = .returned (.bool true) ∧ Below W.heap.size W w' := by
  have hd1 : decide ((len0 : Int) < 1) = false := decide_eq_false (by omega)
  have hd4 : decide ((len0 : Int) > 4) = true := decide_eq_true (by omega)
  go_enter Try.func3, Try.ntmps3
  go_wp2_with (go_at_call 4; refine (alive_calls _).mono ?_; rintro e w1 ⟨rfl, hb⟩; have HB1 := Aside0.mk hb; clear hb)
  go_ret
  exact ⟨rfl, HB1.out⟩
end Go.Proofs.Ytmolflmljneelaa.En
/- The law, for every input. -/
namespace Go.Proofs.Ytmolflmljneelaa.En
open Go.RowKit Go.Proofs.YtmolflmljneelaaW.PrintWords Go.Proofs.YtmolflmljneelaaW.PrintLast Go.Proofs.YtmolflmljneelaaW.PrintMore
theorem law_row (a0 : Option Addr) (len0 cap0 : Nat) (E : Nat → Option Addr × Nat × Nat) (AA : Nat → Nat → AskN) (a1 : Option Addr) (len1 cap1 : Nat) (W : World) (hD : DeedsM W a0 len0 E AA) (h0 : a0 = none → len0 = 0) (hPK : PicksM W a1 len1) :
    Calls Try.prog 3 #[.slice a0 len0 cap0, .slice a1 len1 cap1] W fun e w' => e = .returned (.bool true) ∧ Below W.heap.size W w' := by
  by_cases h1 : len0 < 1
  · exact law_few W a0 a1 len0 cap0 len1 cap1 h1
  · by_cases h4 : 4 < len0
    · exact law_many W a0 a1 len0 cap0 len1 cap1 h4
    · cases a0 with
      | none => exact absurd (h0 rfl) (by omega)
      | some y => exact law_at W y len0 cap0 len1 cap1 a1 E AA hD (by omega) (by omega) hPK alive_calls
end Go.Proofs.Ytmolflmljneelaa.En
