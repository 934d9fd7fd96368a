/- Pmem: Crash. -/
import Derived.Test.YtpefbnhicfflpaaPm14
namespace Go.Proofs.Ytpefbnhicfflpaa.Pm
open Go.RowKit Go.Maps Go.ChangeMaps Go.MapKept Go.Proofs.YtpefbnhicfflpaaW.PrintWords Go.Proofs.YtpefbnhicfflpaaW.PrintLast Go.Proofs.YtpefbnhicfflpaaW.PrintMore
set_option linter.unusedSimpArgs false
set_option linter.unusedVariables false
set_option maxHeartbeats 8000000 in
set_option maxRecDepth 100000 in
theorem crash_calls (W : World) {p gs gk bm N cs ck n : Nat} {SS KK : List Int} {D : DataW Unit} (h : Rg W p gs gk bm N cs ck n SS KK D) (hN : N ≤ 64) (hN0 : 0 < N) (hN8 : N % 8 = 0) {B bc bl m c : Nat} {A : Option Addr} (hP : Pk W B bc bl A m c 0) (hbc : bc ≠ p ∧ bc ≠ gs ∧ bc ≠ gk ∧ bc ≠ bm) (hbl : bl ≠ p ∧ bl ≠ gs ∧ bl ≠ gk ∧ bl ≠ bm) (hB : B ≤ p ∧ B ≤ gs ∧ B ≤ gk ∧ B ≤ bm) :
    Calls Try.prog 17 #[.pointer (some ⟨p, 0, none⟩), .func (.func 38) #[] #[.pointer (some ⟨bc, 0, none⟩), .pointer (some ⟨bl, 0, none⟩)]] W fun e w' => (∃ v, e = .returned v) ∧ (∃ K' g' c', Rg w' p g' gk bm N c' ck 0 K' K' (.map []) ∧ B ≤ g' ∧ (m = 0 → ∀ j, K'.getD j 0 = KK.getD j 0) ∧ ∀ j, j < N → (waysL SS KK D j).length = 1 → K'.getD j 0 = KK.getD j 0) ∧ Below B W w' := by
  obtain ⟨st, hp⟩ := h.tp
  have hu := Try.underlying68
  have h1 : W.cell? ⟨p, 1, none⟩ = some (.slice (some ⟨gk, 0, none⟩) N ck) := (blk_cell hp 1).trans rfl
  have RG0 := Aside0.mk h
  have PK0 := Aside0.mk hP
  have hsz := blk_lt hP.cnt
  have hBW : B ≤ W.heap.size := by have := hP.ne.2.1; omega
  have hbcl := hP.ne
  have hlt := h.lt
  have hbn := h.ne
  clear h hP hp
  go_enter Try.func17, Try.ntmps17
  go_wp2
  go_loopw [14] (fun v wr => ∃ (j k : Nat) (K' : List Int), j ≤ N ∧ v = .int .i64 (j : Int) ∧ k ≤ j ∧ Aside0 (Rg wr p gs gk bm N cs ck n SS K' D) ∧ Aside0 (Pk wr B bc bl A m c k) ∧ Aside0 (Done m N SS KK K' D j) ∧ Aside0 (Below B W wr)) (fun v _ => N - (intOf v).toNat)
  case atStart => exact ⟨0, 0, KK, by omega, rfl, by omega, RG0, PK0, Aside0.mk ⟨fun _ _ => rfl, fun _ _ _ => rfl, fun _ _ => rfl⟩, Aside0.mk (Below.refl B W)⟩
  case round =>
    obtain ⟨j, k, K', hj, rfl, hk, RG, PK, DN, HB⟩ := hrel
    by_cases hlt2 : j < N
    · have hjj : (0 : Int) ≤ (j : Int) := by omega
      have hjn : (j : Int) < (N : Int) := by omega
      have hwl := waysL_len SS K' D j
      have hwe := waysL_eq (S := SS) (D := D) (DN.out.rest j (Nat.le_refl _))
      have hszr := HB.out.size
      by_cases hl1 : (waysL SS K' D j).length = 1
      · obtain ⟨l, hl⟩ : ∃ l, l = waysL SS K' D j := ⟨_, rfl⟩
        have HW := Aside0.mk (ways_calls wr RG.out j hlt2 hN hN8)
        rw [← hl] at HW hwl hl1
        have hd1 : ((l.length : Int) == 1) = true := by rw [hl1]; rfl
        clear hl hwe
        go_wp2_with (go_at_call 36; refine HW.out.mono ?_; rintro e w1 ⟨v, rfl, hR, hb⟩; have hown := Kd.own_of_R hR; obtain ⟨bb, cap, rfl, hbb, hRow⟩ := Row.ofOwn hown rfl (by omega); have HR := Aside0.mk hRow; have HB1 := Aside0.mk hb; clear hR hb hown hRow HW)
        refine ⟨⟨j + 1, k, K', by omega, by push_cast; rfl, by omega, Aside0.mk (RG.out.below HB1.out), Aside0.mk (PK.out.below HB1.out), Aside0.mk DN.out.skip, Aside0.mk (HB.out.trans (HB1.out.mono (by omega)))⟩, ?_⟩
        show N - ((j : Int) + 1).toNat < N - (j : Int).toNat
        omega
      · obtain ⟨l, hl⟩ : ∃ l, l = waysL SS K' D j := ⟨_, rfl⟩
        have HW := Aside0.mk (ways_calls wr RG.out j hlt2 hN hN8)
        have HNE : Aside0 (¬ (waysL SS KK D j).length = 1) := Aside0.mk (by rw [← hwe]; exact hl1)
        rw [← hl] at HW hwl hl1
        have hd1 : ((l.length : Int) == 1) = false := by simp; omega
        clear hl hwe
        go_upto_region 7 with (first
          | (go_at_call 36; refine HW.out.mono ?_; rintro e w1 ⟨v, rfl, hR, hb⟩; have hown := Kd.own_of_R hR; obtain ⟨bb, cap, rfl, hbb, hRow⟩ := Row.ofOwn hown rfl (by omega); have HR := Aside0.mk hRow; have HB1 := Aside0.mk hb; clear hR hb hown hRow HW)
          | (go_at_call 38; refine (pick_calls w1 (PK.out.below HB1.out) (by omega) _).mono ?_; rintro e w2 ⟨⟨r, rfl, hm0⟩, hw⟩; have HM0 := Aside0.mk hm0; clear hm0; (have hl2 := blk_lt (PK.out.cnt)); (have RG2 : Aside0 (Rg w2 p gs gk bm N cs ck n SS K' D) := Aside0.mk (by rw [hw]; exact (RG.out.below HB1.out).farCell ⟨fun e => hbc.1 e.symm, fun e => hbc.2.1 e.symm, fun e => hbc.2.2.1 e.symm, fun e => hbc.2.2.2 e.symm⟩ _)); (have PK2 : Aside0 (Pk w2 B bc bl A m c (k + 1)) := Aside0.mk (by rw [hw]; exact (PK.out.below HB1.out).next)); (have HR2 : Aside0 (Row w2 bb l.length cap l) := Aside0.mk (by rw [hw]; exact HR.out.far (p := ⟨bc, 0, none⟩) (by show bb ≠ bc; omega) _)); (have HB2 : Aside0 (Below B W w2) := Aside0.mk (by rw [hw]; exact (HB.out.trans (HB1.out.mono (by omega))).setCell (p := ⟨bc, 0, none⟩) hbcl.2.1 _)); (clear hw RG PK HR HB HB1)))
        by_cases hr0 : r > 0
        · have hd2 : decide (r > 0) = true := decide_eq_true hr0
          by_cases hr1 : r < (l.length : Int)
          · have hd3 : decide (r < (l.length : Int)) = true := decide_eq_true hr1
            have hrr : 0 ≤ r := by omega
            obtain ⟨st2, hp2⟩ := RG2.out.tp
            have hk2 : w2.cell? ⟨p, 1, none⟩ = some (.slice (some ⟨gk, 0, none⟩) N ck) := (blk_cell hp2 1).trans rfl
            have hcl := HR2.out.cell r.toNat (by omega)
            have hck := RG2.out.rk.cell j hlt2
            have hfk := RG2.out.rk.frozen j
            have hKl := RG2.out.rk.len
            generalize l.getD r.toNat 0 = x at hcl
            generalize K'.getD j 0 = x' at hck
            clear hp2
            go_upto_region 8 with fail
            go_region
            go_wp2
            refine ⟨⟨j + 1, k + 1, K'.set j x, by omega, by push_cast; rfl, by omega, Aside0.mk ((RG2.out.keep1 j hlt2 x).drewN 1), Aside0.mk ((PK2.out.far (q := ⟨gk, j, none⟩) hbc.2.2.1 hbl.2.2.1 hB.2.2.1 _).drewN 1), Aside0.mk (DN.out.set (fun e => by have := HM0.out e; omega) hKl hlt2 HNE.out x), Aside0.mk (below_drew1 (HB2.out.setCell (p := ⟨gk, j, none⟩) hB.2.2.1 _))⟩, ?_⟩
            show N - ((j : Int) + 1).toNat < N - (j : Int).toNat
            omega
          · have hd3 : decide (r < (l.length : Int)) = false := decide_eq_false hr1
            go_wp2
            refine ⟨⟨j + 1, k + 1, K', by omega, by push_cast; rfl, by omega, RG2, PK2, Aside0.mk DN.out.skip, HB2⟩, ?_⟩
            show N - ((j : Int) + 1).toNat < N - (j : Int).toNat
            omega
        · have hd2 : decide (r > 0) = false := decide_eq_false hr0
          go_wp2
          refine ⟨⟨j + 1, k + 1, K', by omega, by push_cast; rfl, by omega, RG2, PK2, Aside0.mk DN.out.skip, HB2⟩, ?_⟩
          show N - ((j : Int) + 1).toNat < N - (j : Int).toNat
          omega
    · obtain rfl : j = N := by omega
      have hd4 : decide ((j : Int) < (j : Int)) = false := by simp
      obtain ⟨st2, hp2⟩ := RG.out.tp
      have hk2 : wr.cell? ⟨p, 1, none⟩ = some (.slice (some ⟨gk, 0, none⟩) j ck) := (blk_cell hp2 1).trans rfl
      clear hp2
      go_wp2_with (go_at_call 37; refine (clone_calls _ RG.out.rk hN0 hN).mono ?_; rintro e w2 ⟨g', c', rfl, hg', hrow, hb⟩; have HR := Aside0.mk hrow; have HB2 := Aside0.mk (HB.out.trans (hb.mono (by have := HB.out.size; omega))); have hlt3 := RG.out.lt; have RG2 := Aside0.mk (RG.out.below hb); have RG3 := Aside0.mk (RG2.out.seen hrow ⟨by omega, by omega, by omega⟩); clear hrow hb; obtain ⟨st3, hp3⟩ := RG2.out.tp; have hc3 : w2.cell? ⟨p, 0, none⟩ = some (.slice (some ⟨gs, 0, none⟩) j cs) := (blk_cell hp3 0).trans rfl; have hf3 := blk_frozen hp3 0; have hm3 := RG3.out.mapcell; obtain ⟨w9, hrun9, hown9, hgr9⟩ := owns_clear (ty := 0) RG3.out.mp Try.underlying66; clear hp3)
      go_end0
      exact ⟨⟨_, rfl⟩, ⟨K', g', c', RG3.out.upd hgr9 hown9, by have := HB.out.size; omega, DN.out.nil, fun i hi h1 => DN.out.one i hi h1⟩, (HB2.out.setCell (p := ⟨p, 0, none⟩) hB.1 _).grown hgr9 (by have := HB2.out.size; simp; omega) (fun q e => by cases e; exact hB.2.2.2)⟩
end Go.Proofs.Ytpefbnhicfflpaa.Pm
