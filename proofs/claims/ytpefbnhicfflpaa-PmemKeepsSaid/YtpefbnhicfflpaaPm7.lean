/- Pmem: Fence's closure. Conditions: the region lies as 'Rg' says; the notes' keys are lines. -/
import Derived.Test.YtpefbnhicfflpaaPm6
namespace Go.Proofs.Ytpefbnhicfflpaa.Pm
open Go.RowKit Go.Maps Go.ChangeMaps Go.MapKept Go.Proofs.YtpefbnhicfflpaaW.PrintWords Go.Proofs.YtpefbnhicfflpaaW.PrintLast Go.Proofs.YtpefbnhicfflpaaW.PrintMore
set_option linter.unusedSimpArgs false
set_option linter.unusedVariables false
/-- What the kept words are while the notes are laid down: those of lines that are still left are as they were. -/
def Laid (N : Nat) (K K' : List Int) (D : DataW Unit) (left : Lit → Bool) : Prop := ∀ j, j < N → K'.getD j 0 = if left (key (j - j % 8)) = true then K.getD j 0 else (pendAt D j).getD (K.getD j 0)
theorem laid_start (N : Nat) (K : List Int) (D : DataW Unit) : Laid N K K D (has D) := fun j _ => by
  by_cases h : has D (key (j - j % 8)) = true
  · rw [if_pos h]
  · rw [if_neg h]
    unfold pendAt
    rw [if_neg h]
    rfl
theorem laid_step {N : Nat} {K K' : List Int} {D : DataW Unit} {left : Lit → Bool} (h : Laid N K K' D left) (hl : K'.length = N) (i : Nat) (h8 : i % 8 = 0) (hi : i + 8 ≤ N) (hd : has D (key i) = true) (c : Note8) (y : DataW Unit × List MemPlace) (hy : noteR c.val = some y) (hat : ∀ zd, D.atKey (key i) zd = y.1) :
    Laid N K (putL K' i c.list) D (fun z => left z && !z.sameKey (key i)) := fun j hj => by
  have hcl : c.list.length = 8 := rfl
  rw [putL_at c.list K' i j (by omega), hcl]
  show _ = if (left (key (j - j % 8)) && !(key (j - j % 8)).sameKey (key i)) = true then _ else _
  rw [key_same]
  by_cases e : j - j % 8 = i
  · have hp : pendAt D j = some (c.list.getD (j - i) 0) := by
      unfold pendAt
      rw [e, if_pos hd, hat, note_word c y hy (j % 8) (by omega), show j % 8 = j - i by omega]
    rw [if_pos (by omega), decide_eq_true e, if_neg (by simp), hp]
    rfl
  · rw [if_neg (by omega), decide_eq_false e, h j hj]
    simp
theorem laid_end {N : Nat} {K K' : List Int} {D : DataW Unit} {left : Lit → Bool} (h : Laid N K K' D left) (he : ∀ kl, left kl = false) (j : Nat) (hj : j < N) : K'.getD j 0 = (pendAt D j).getD (K.getD j 0) := by
  rw [h j hj, he, if_neg (by decide)]
theorem Rg.grow {W W' : World} {p gs gk bm N cs ck n : Nat} {S K : List Int} {D : DataW Unit} {row : Option Nat} (h : Rg W p gs gk bm N cs ck n S K D) (hg : W.grownBy W' row) (r1 : some p ≠ row) (r2 : some gs ≠ row) (r3 : some gk ≠ row) (ho : W'.ownsMap Try.prog 3 noteR bm n D) : Rg W' p gs gk bm N cs ck n S K D := by
  obtain ⟨l1, l2, l3, l4⟩ := h.lt
  refine ⟨let ⟨st, h1⟩ := h.tp; ⟨st, (hg.block p l1 r1).trans h1⟩, ⟨h.rs.len, ?_⟩, ⟨h.rk.len, ?_⟩, ho, h.ne⟩
  · obtain ⟨c, h1, h2⟩ := h.rs.cur
    exact ⟨c, (hg.block gs l2 r2).trans h1, h2⟩
  · obtain ⟨c, h1, h2⟩ := h.rk.cur
    exact ⟨c, (hg.block gk l3 r3).trans h1, h2⟩
theorem noteR_val (c : Note8) : ∃ y, noteR c.val = some y := ⟨_, rfl⟩
set_option maxHeartbeats 8000000 in
set_option maxRecDepth 100000 in
theorem fence1 (W : World) {p gs gk bm N cs ck n : Nat} {S K : List Int} {D : DataW Unit} (h : Rg W p gs gk bm N cs ck n S K D) (hD : WFD N D) (hN : N ≤ 64) (br : Nat) (hr : W.heap[br]? = some (.cells #[.pointer (some ⟨p, 0, none⟩)] 37 (0, 0))) (hne : br ≠ p ∧ br ≠ gs ∧ br ≠ gk ∧ br ≠ bm) (B : Nat) (hB : B ≤ W.heap.size) (hBk : B ≤ gk) (hBm : B ≤ bm) :
    Calls Try.prog 34 #[.pointer (some ⟨br, 0, none⟩)] W fun e w' => (∃ v, e = .returned v) ∧ (∃ K', Rg w' p gs gk bm N cs ck 0 S K' (.map []) ∧ ∀ j, j < N → K'.getD j 0 = (pendAt D j).getD (K.getD j 0)) ∧ Below B W w' := by
  have hu := Try.underlying68
  have hc0 : W.cell? ⟨br, 0, none⟩ = some (.pointer (some ⟨p, 0, none⟩)) := (blk_cell hr 0).trans rfl
  have hcm := h.mapcell
  have hown := h.mp
  have hlt := h.lt
  have hbr := blk_lt hr
  go_enter Try.func34, Try.ntmps34
  go_wp2_with (first
    | (at_range; refine wpList_range_own _ rfl _ 66 rfl 3 70 keyed3 Try.underlying66 noteR bm n D rfl hown ?_; intro w0 hrg0 hg0 hs0))
  go_frame
  go_loopw [1] (fun _ wr => ∃ (left : Lit → Bool) (cnt : Nat) (K' : List Int), wr.ranges Try.prog 3 noteR bm W.heap.size n D left cnt ∧ Aside0 (Rg wr p gs gk bm N cs ck n S K' D) ∧ Aside0 (Below B W wr) ∧ Aside0 (wr.heap[br]? = some (.cells #[.pointer (some ⟨p, 0, none⟩)] 37 (0, 0))) ∧ Aside0 (Laid N K K' D left) ∧ Aside0 (∀ kl, left kl = true → has D kl = true)) (fun _ wr => wr.rangeLeft bm W.heap.size)
  case atStart => exact ⟨_, _, K, hrg0, Aside0.mk (h.grow hg0 (by simp) (by simp) (by simp) hrg0.owns), Aside0.mk ((Below.refl B W).grown hg0 hB (fun k e => by cases e)), Aside0.mk ((hg0.block br hbr (by simp)).trans hr), Aside0.mk (laid_start N K D), Aside0.mk (fun kl hk => hk)⟩
  case round =>
    obtain ⟨left, cnt, K', hrg, RG, HBB, CR, HLD, HLH⟩ := hrel
    go_wp2_with (at_next; refine wpList_next_ranges _ rfl _ rfl 3 keyed3 noteR (Value.int .i64) Note8.val (fun ky kl hk => by obtain ⟨x, rfl, _⟩ := Maps.keyOf_int_inv Try.underlying3 hk; exact ⟨x, rfl⟩) note_inv bm W.heap.size n D left cnt rfl hrg ?_ ?_)
    · intro _ hl0
      have hc : wr.cell? ⟨br, 0, none⟩ = some (.pointer (some ⟨p, 0, none⟩)) := (blk_cell CR.out 0).trans rfl
      have hm := RG.out.mapcell
      obtain ⟨w9, hrun9, hown9, hgr9⟩ := owns_clear (ty := 0) RG.out.mp Try.underlying66
      go_wp2
      go_end0
      exact ⟨⟨_, rfl⟩, ⟨K', RG.out.upd hgr9 hown9, fun j hj => laid_end HLD.out hl0 j hj⟩, HBB.out.grown hgr9 (Nat.le_trans hB HBB.out.size) (fun k e => by cases e; exact hBm)⟩
    · intro x c kl y ps w1 cnt1 hkey hlk hyc hat hrg1 hlt1 hg1 hs1 hen
      obtain ⟨i, rfl, h8, hi⟩ := hD.keys kl (HLH.out kl hlk)
      obtain ⟨x', hx1, hx2, _⟩ := Maps.keyOf_int_inv Try.underlying3 hkey
      obtain rfl : x = (i : Int) := by
        injection hx1 with _ h1
        injection hx2 with _ h2
        rw [h1, ← h2]
      have hsz := HBB.out.size
      have HSZ : W.heap.size ≤ w1.heap.size := by omega
      have RG1 := Aside0.mk (RG.out.grow hg1 (by simp; omega) (by simp; omega) (by simp; omega) hrg1.owns)
      have HB1 := Aside0.mk (HBB.out.grown hg1 (by omega) (fun k e => by cases e; exact hB))
      have CR1 := Aside0.mk ((hg1.block br (by omega) (by simp; omega)).trans CR.out)
      have HRG := Aside0.mk hrg1
      have HEQ := Aside0.mk hrg.left_eq
      have HAT := Aside0.mk hat
      have HYC := Aside0.mk hyc
      have HLK := Aside0.mk hlk
      have HI := Aside0.mk (And.intro h8 hi)
      have HB := Aside0.mk (Below.refl w1.heap.size w1)
      clear RG CR HBB hkey hx1 hx2 hat hyc hlk hrg hsz h8 hi hg1 hs1
      have hcv : c.val = .agg #[.int .u64 c.y0, .int .u64 c.y1, .int .u64 c.y2, .int .u64 c.y3, .int .u64 c.y4, .int .u64 c.y5, .int .u64 c.y6, .int .u64 c.y7] := rfl
      rw [hcv] at hen
      clear hcv
      go_upto_region 3 with (first | ((with_reducible refine gate_dst (N := 2) rfl ?_); refine box_event ?hg (N := 2) ?hd (cs := #[.int .u64 0, .int .u64 0, .int .u64 0, .int .u64 0, .int .u64 0, .int .u64 0, .int .u64 0, .int .u64 0]) (t := 70) ?hr ?_; (case hd => rfl); (case hg => rfl); (case hr => first | (go_simp; done) | (go_simp; rfl)); intro g2 hg w1_ hbox hb; have n0_ := Aside0.mk (below_step (by repeat (first | (with_reducible first | exact HB.out | apply below_alloc | apply pw_below_drewN | apply below_drew1) | exact HB.out)) hb); have n1_ := Aside0.mk hbox; have n2_ := Aside0.mk ((by rw [hg]; exact (below_size (by repeat (first | (with_reducible first | exact HB.out | apply below_alloc | apply pw_below_drewN | apply below_drew1) | exact HB.out)))) : w1.heap.size ≤ g2); clear HB; have HB := n0_; have BK2 := n1_; have GE2 := n2_; clear n0_ n1_ n2_; clear hb hbox hg; have hc2_0 : w1_.cell? ⟨g2, 0, none⟩ = some (.int .u64 0) := (blk_cell BK2.out 0).trans rfl; have hf2_0 := blk_frozen BK2.out 0; have hc2_1 : w1_.cell? ⟨g2, 1, none⟩ = some (.int .u64 0) := (blk_cell BK2.out 1).trans rfl; have hf2_1 := blk_frozen BK2.out 1; have hc2_2 : w1_.cell? ⟨g2, 2, none⟩ = some (.int .u64 0) := (blk_cell BK2.out 2).trans rfl; have hf2_2 := blk_frozen BK2.out 2; have hc2_3 : w1_.cell? ⟨g2, 3, none⟩ = some (.int .u64 0) := (blk_cell BK2.out 3).trans rfl; have hf2_3 := blk_frozen BK2.out 3; have hc2_4 : w1_.cell? ⟨g2, 4, none⟩ = some (.int .u64 0) := (blk_cell BK2.out 4).trans rfl; have hf2_4 := blk_frozen BK2.out 4; have hc2_5 : w1_.cell? ⟨g2, 5, none⟩ = some (.int .u64 0) := (blk_cell BK2.out 5).trans rfl; have hf2_5 := blk_frozen BK2.out 5; have hc2_6 : w1_.cell? ⟨g2, 6, none⟩ = some (.int .u64 0) := (blk_cell BK2.out 6).trans rfl; have hf2_6 := blk_frozen BK2.out 6; have hc2_7 : w1_.cell? ⟨g2, 7, none⟩ = some (.int .u64 0) := (blk_cell BK2.out 7).trans rfl; have hf2_7 := blk_frozen BK2.out 7))
      generalize hw_ : ((((((((w1_.setCell ⟨g2, 0, none⟩ (.int .u64 c.y0)).setCell ⟨g2, 1, none⟩ (.int .u64 c.y1)).setCell ⟨g2, 2, none⟩ (.int .u64 c.y2)).setCell ⟨g2, 3, none⟩ (.int .u64 c.y3)).setCell ⟨g2, 4, none⟩ (.int .u64 c.y4)).setCell ⟨g2, 5, none⟩ (.int .u64 c.y5)).setCell ⟨g2, 6, none⟩ (.int .u64 c.y6)).setCell ⟨g2, 7, none⟩ (.int .u64 c.y7)) = w2_
      have n0_ := Aside0.mk (show Below w1.heap.size w1 w2_ from by rw [← hw_]; exact (by repeat (first | (with_reducible first | exact HB.out | apply below_alloc | apply pw_below_drewN | apply below_drew1 | refine below_set ?_ GE2.out) | exact HB.out)))
      have n1_ := Aside0.mk (show w2_.heap[g2]? = some (.cells #[.int .u64 c.y0, .int .u64 c.y1, .int .u64 c.y2, .int .u64 c.y3, .int .u64 c.y4, .int .u64 c.y5, .int .u64 c.y6, .int .u64 c.y7] 70 (0, 0)) from by rw [← hw_]; exact (by (with_reducible repeat (first | refine blk_drewN ?_ _ | refine blk_drew ?_ | refine blk_alloc ?_ _)); refine blk_put (cs := #[.int .u64 c.y0, .int .u64 c.y1, .int .u64 c.y2, .int .u64 c.y3, .int .u64 c.y4, .int .u64 c.y5, .int .u64 c.y6, .int .u64 0]) ?_ 7 _ rfl; (with_reducible repeat (first | refine blk_drewN ?_ _ | refine blk_drew ?_ | refine blk_alloc ?_ _)); refine blk_put (cs := #[.int .u64 c.y0, .int .u64 c.y1, .int .u64 c.y2, .int .u64 c.y3, .int .u64 c.y4, .int .u64 c.y5, .int .u64 0, .int .u64 0]) ?_ 6 _ rfl; (with_reducible repeat (first | refine blk_drewN ?_ _ | refine blk_drew ?_ | refine blk_alloc ?_ _)); refine blk_put (cs := #[.int .u64 c.y0, .int .u64 c.y1, .int .u64 c.y2, .int .u64 c.y3, .int .u64 c.y4, .int .u64 0, .int .u64 0, .int .u64 0]) ?_ 5 _ rfl; (with_reducible repeat (first | refine blk_drewN ?_ _ | refine blk_drew ?_ | refine blk_alloc ?_ _)); refine blk_put (cs := #[.int .u64 c.y0, .int .u64 c.y1, .int .u64 c.y2, .int .u64 c.y3, .int .u64 0, .int .u64 0, .int .u64 0, .int .u64 0]) ?_ 4 _ rfl; (with_reducible repeat (first | refine blk_drewN ?_ _ | refine blk_drew ?_ | refine blk_alloc ?_ _)); refine blk_put (cs := #[.int .u64 c.y0, .int .u64 c.y1, .int .u64 c.y2, .int .u64 0, .int .u64 0, .int .u64 0, .int .u64 0, .int .u64 0]) ?_ 3 _ rfl; (with_reducible repeat (first | refine blk_drewN ?_ _ | refine blk_drew ?_ | refine blk_alloc ?_ _)); refine blk_put (cs := #[.int .u64 c.y0, .int .u64 c.y1, .int .u64 0, .int .u64 0, .int .u64 0, .int .u64 0, .int .u64 0, .int .u64 0]) ?_ 2 _ rfl; (with_reducible repeat (first | refine blk_drewN ?_ _ | refine blk_drew ?_ | refine blk_alloc ?_ _)); refine blk_put (cs := #[.int .u64 c.y0, .int .u64 0, .int .u64 0, .int .u64 0, .int .u64 0, .int .u64 0, .int .u64 0, .int .u64 0]) ?_ 1 _ rfl; (with_reducible repeat (first | refine blk_drewN ?_ _ | refine blk_drew ?_ | refine blk_alloc ?_ _)); refine blk_put (cs := #[.int .u64 0, .int .u64 0, .int .u64 0, .int .u64 0, .int .u64 0, .int .u64 0, .int .u64 0, .int .u64 0]) ?_ 0 _ rfl; (with_reducible repeat (first | refine blk_drewN ?_ _ | refine blk_drew ?_ | refine blk_alloc ?_ _)); exact BK2.out))
      clear HB
      clear BK2
      have HB := n0_
      have BK2 := n1_
      clear n0_ n1_
      clear hw_
      have hc2_0 : w2_.cell? ⟨g2, 0, none⟩ = some (.int .u64 c.y0) := (blk_cell BK2.out 0).trans rfl
      have hf2_0 := blk_frozen BK2.out 0
      have hc2_1 : w2_.cell? ⟨g2, 1, none⟩ = some (.int .u64 c.y1) := (blk_cell BK2.out 1).trans rfl
      have hf2_1 := blk_frozen BK2.out 1
      have hc2_2 : w2_.cell? ⟨g2, 2, none⟩ = some (.int .u64 c.y2) := (blk_cell BK2.out 2).trans rfl
      have hf2_2 := blk_frozen BK2.out 2
      have hc2_3 : w2_.cell? ⟨g2, 3, none⟩ = some (.int .u64 c.y3) := (blk_cell BK2.out 3).trans rfl
      have hf2_3 := blk_frozen BK2.out 3
      have hc2_4 : w2_.cell? ⟨g2, 4, none⟩ = some (.int .u64 c.y4) := (blk_cell BK2.out 4).trans rfl
      have hf2_4 := blk_frozen BK2.out 4
      have hc2_5 : w2_.cell? ⟨g2, 5, none⟩ = some (.int .u64 c.y5) := (blk_cell BK2.out 5).trans rfl
      have hf2_5 := blk_frozen BK2.out 5
      have hc2_6 : w2_.cell? ⟨g2, 6, none⟩ = some (.int .u64 c.y6) := (blk_cell BK2.out 6).trans rfl
      have hf2_6 := blk_frozen BK2.out 6
      have hc2_7 : w2_.cell? ⟨g2, 7, none⟩ = some (.int .u64 c.y7) := (blk_cell BK2.out 7).trans rfl
      have hf2_7 := blk_frozen BK2.out 7
      have hc : w2_.cell? ⟨br, 0, none⟩ = some (.pointer (some ⟨p, 0, none⟩)) := (blk_cell (blk_below CR1.out HB.out) 0).trans rfl
      have RG3 := Aside0.mk (RG1.out.below HB.out)
      have HRG3 := Aside0.mk (HRG.out.kept (show w1.grownBy w2_ none from ⟨HB.out.os, HB.out.tape, HB.out.output, HB.out.size, fun k hk _ => HB.out.block k hk⟩) (by simp) (by simp))
      have CR3 := Aside0.mk (blk_below CR1.out HB.out)
      have HB3 := Aside0.mk (HB1.out.trans (HB.out.mono (by omega)))
      go_wp2_with (go_at_call 35; refine (keep_calls w2_ RG3.out i HI.out.2 hN c.y0 c.y1 c.y2 c.y3 c.y4 c.y5 c.y6 c.y7).mono ?_; rintro e w5 ⟨⟨v, rfl⟩, hR5, hg5⟩)
      have hbk : ¬ bm = gk := h.ne.2.2.2.2.2
      have hgl := hlt.2.2.1
      have hR := HRG3.out.kept hg5 (by simp; exact hbk) (by simp; omega)
      have hlen := RG1.out.rk.len
      refine ⟨⟨_, cnt1, putL K' i c.list, hR, Aside0.mk hR5, Aside0.mk (HB3.out.grown hg5 (Nat.le_trans hB HB3.out.size) (fun k e => by cases e; exact hBk)), Aside0.mk ((hg5.block br (blk_lt CR3.out) (by simp; exact hne.2.2.1)).trans CR3.out), Aside0.mk (laid_step HLD.out hlen i HI.out.1 HI.out.2 (HLH.out _ HLK.out) c _ HYC.out HAT.out), Aside0.mk (fun kl hk => ?_)⟩, ?_⟩
      · rw [Bool.and_eq_true] at hk
        exact HLH.out kl hk.1
      · rw [hR.left_eq, HEQ.out]
        exact hlt1
end Go.Proofs.Ytpefbnhicfflpaa.Pm
