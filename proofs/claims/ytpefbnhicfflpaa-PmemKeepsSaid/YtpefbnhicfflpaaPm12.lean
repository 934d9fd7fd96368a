/- Pmem: the ways in which a word may be kept. Conditions: the region lies as 'Rg' says. -/
import Derived.Test.YtpefbnhicfflpaaPm11
namespace Go.Proofs.Ytpefbnhicfflpaa.Pm
open Go.RowKit Go.Maps Go.ChangeMaps Go.MapKept Go.Proofs.YtpefbnhicfflpaaW.PrintWords Go.Proofs.YtpefbnhicfflpaaW.PrintLast Go.Proofs.YtpefbnhicfflpaaW.PrintMore
set_option linter.unusedSimpArgs false
set_option linter.unusedVariables false
theorem zeros8 (q : Nat) (h : q < 8) : (#[.int .u64 0, .int .u64 0, .int .u64 0, .int .u64 0, .int .u64 0, .int .u64 0, .int .u64 0, .int .u64 0] : Array Value)[q]? = some (.int .u64 0) := by
  rcases q with _ | _ | _ | _ | _ | _ | _ | _ | q <;> first | rfl | omega
theorem Lst.below {W0 W W' : World} {bv : Nat} {l : List Int} (h : Lst W0 W bv l) (hb : Below W.heap.size W W') : Lst W0 W' bv l :=
  ⟨below_step h.hb hb, h.bv0, h.pos, let ⟨v, h1, h2⟩ := h.row; ⟨v, blk_below h1 hb, Kd.R_below h2 hb⟩⟩
theorem Lst.lt {W0 W : World} {bv : Nat} {l : List Int} (h : Lst W0 W bv l) : bv < W.heap.size := let ⟨_, h1, _⟩ := h.row; blk_lt h1
theorem below8 {A W : World} {B g : Nat} (h : Below B A W) (hg : B ≤ g) (v0 v1 v2 v3 v4 v5 v6 v7 : Int) : Below B A ((((((((W.setCell ⟨g, 0, none⟩ (.int .u64 v0)).setCell ⟨g, 1, none⟩ (.int .u64 v1)).setCell ⟨g, 2, none⟩ (.int .u64 v2)).setCell ⟨g, 3, none⟩ (.int .u64 v3)).setCell ⟨g, 4, none⟩ (.int .u64 v4)).setCell ⟨g, 5, none⟩ (.int .u64 v5)).setCell ⟨g, 6, none⟩ (.int .u64 v6)).setCell ⟨g, 7, none⟩ (.int .u64 v7)) :=
  (((((((h.setCell (p := ⟨g, 0, none⟩) hg _).setCell (p := ⟨g, 1, none⟩) hg _).setCell (p := ⟨g, 2, none⟩) hg _).setCell (p := ⟨g, 3, none⟩) hg _).setCell (p := ⟨g, 4, none⟩) hg _).setCell (p := ⟨g, 5, none⟩) hg _).setCell (p := ⟨g, 6, none⟩) hg _).setCell (p := ⟨g, 7, none⟩) hg _
def rowBelow (w : World) (bv g : Nat) : Prop := ∀ v, w.heap[bv]? = some (.cells #[v] 64 (0, 0)) → ∀ k, v.ownBlock = some k → k < g
theorem rowBelow_new {W0 W : World} {bv : Nat} {l : List Int} (h : Lst W0 W bv l) (o : Obj) : bv < W.heap.size ∧ rowBelow (W.alloc o) bv W.heap.size := by
  refine ⟨h.lt, fun v hv k hk => ?_⟩
  obtain ⟨v2, h1, h2⟩ := h.row
  rw [Below.heap_alloc W o bv h.lt, h1] at hv
  simp at hv
  subst hv
  exact ((Kd.own_of_R h2).lt k hk).2
theorem rowBelow_below {W W' : World} {bv g : Nat} (h : rowBelow W bv g) (hlt : bv < W.heap.size) (hb : Below W.heap.size W W') : rowBelow W' bv g := fun v hv => h v ((hb.block bv hlt).symm.trans hv)
theorem grown8 (W : World) (g : Nat) (v0 v1 v2 v3 v4 v5 v6 v7 : Int) : W.grownBy ((((((((W.setCell ⟨g, 0, none⟩ (.int .u64 v0)).setCell ⟨g, 1, none⟩ (.int .u64 v1)).setCell ⟨g, 2, none⟩ (.int .u64 v2)).setCell ⟨g, 3, none⟩ (.int .u64 v3)).setCell ⟨g, 4, none⟩ (.int .u64 v4)).setCell ⟨g, 5, none⟩ (.int .u64 v5)).setCell ⟨g, 6, none⟩ (.int .u64 v6)).setCell ⟨g, 7, none⟩ (.int .u64 v7)) (some g) := grown_setCells g [.int .u64 v0, .int .u64 v1, .int .u64 v2, .int .u64 v3, .int .u64 v4, .int .u64 v5, .int .u64 v6, .int .u64 v7] 0 W (Below.refl _ W)
theorem rowBelow_set8 {W : World} {bv g : Nat} (h : rowBelow W bv g) (hlt : bv < g) (v0 v1 v2 v3 v4 v5 v6 v7 : Int) : rowBelow ((((((((W.setCell ⟨g, 0, none⟩ (.int .u64 v0)).setCell ⟨g, 1, none⟩ (.int .u64 v1)).setCell ⟨g, 2, none⟩ (.int .u64 v2)).setCell ⟨g, 3, none⟩ (.int .u64 v3)).setCell ⟨g, 4, none⟩ (.int .u64 v4)).setCell ⟨g, 5, none⟩ (.int .u64 v5)).setCell ⟨g, 6, none⟩ (.int .u64 v6)).setCell ⟨g, 7, none⟩ (.int .u64 v7)) bv g := fun v hv => h v ((heap_setCells g [.int .u64 v0, .int .u64 v1, .int .u64 v2, .int .u64 v3, .int .u64 v4, .int .u64 v5, .int .u64 v6, .int .u64 v7] 0 W bv (by omega)).symm.trans hv)
theorem Lst.set8 {W0 W : World} {bv g : Nat} {l : List Int} (h : Lst W0 W bv l) (hg : bv < g) (hr : rowBelow W bv g) (v0 v1 v2 v3 v4 v5 v6 v7 : Int) : Lst W0 ((((((((W.setCell ⟨g, 0, none⟩ (.int .u64 v0)).setCell ⟨g, 1, none⟩ (.int .u64 v1)).setCell ⟨g, 2, none⟩ (.int .u64 v2)).setCell ⟨g, 3, none⟩ (.int .u64 v3)).setCell ⟨g, 4, none⟩ (.int .u64 v4)).setCell ⟨g, 5, none⟩ (.int .u64 v5)).setCell ⟨g, 6, none⟩ (.int .u64 v6)).setCell ⟨g, 7, none⟩ (.int .u64 v7)) bv l := by
  obtain ⟨v, h1, h2⟩ := h.row
  have hG := grown8 W g v0 v1 v2 v3 v4 v5 v6 v7
  have hv1 := (hG.block bv h.lt (by simp; omega)).trans h1
  refine ⟨below8 h.hb (Nat.le_trans h.bv0 (Nat.le_of_lt hg)) _ _ _ _ _ _ _ _, h.bv0, h.pos, v, hv1, Kd.R_of_own ((Kd.own_of_R h2).kept hG ?_) h2.1⟩
  cases ho : v.ownBlock with
  | none => exact Or.inl rfl
  | some k => exact Or.inr (by have := hr v h1 k ho; simp; omega)
theorem Rg.set8 {W : World} {p gs gk bm N cs ck n g : Nat} {S K : List Int} {D : DataW Unit} (h : Rg W p gs gk bm N cs ck n S K D) (hg : p < g ∧ gs < g ∧ gk < g ∧ bm < g) (v0 v1 v2 v3 v4 v5 v6 v7 : Int) : Rg ((((((((W.setCell ⟨g, 0, none⟩ (.int .u64 v0)).setCell ⟨g, 1, none⟩ (.int .u64 v1)).setCell ⟨g, 2, none⟩ (.int .u64 v2)).setCell ⟨g, 3, none⟩ (.int .u64 v3)).setCell ⟨g, 4, none⟩ (.int .u64 v4)).setCell ⟨g, 5, none⟩ (.int .u64 v5)).setCell ⟨g, 6, none⟩ (.int .u64 v6)).setCell ⟨g, 7, none⟩ (.int .u64 v7)) p gs gk bm N cs ck n S K D := by
  have hG := grown8 W g v0 v1 v2 v3 v4 v5 v6 v7
  exact h.grow hG (by simp; omega) (by simp; omega) (by simp; omega) (h.mp.kept hG (by simp; omega))
theorem addW_len (l : List Int) (x : Int) : (addW l x).length ≤ l.length + 1 := by unfold addW; split <;> simp
def waysL (S K : List Int) (D : DataW Unit) (j : Nat) : List Int := match pendAt D j with
  | some x => addW (addW [K.getD j 0] x) (S.getD j 0)
  | none => addW [K.getD j 0] (S.getD j 0)
theorem note_cell (c : Note8) (q : Nat) (h : q < 8) : (#[.int .u64 c.y0, .int .u64 c.y1, .int .u64 c.y2, .int .u64 c.y3, .int .u64 c.y4, .int .u64 c.y5, .int .u64 c.y6, .int .u64 c.y7] : Array Value)[q]? = some (.int .u64 (c.list.getD q 0)) := by
  rcases q with _ | _ | _ | _ | _ | _ | _ | _ | q <;> first | rfl | omega
theorem lst_start (W : World) (kv : Int) : Lst W ((W.alloc (.cells #[.int .u64 kv] 36)).alloc (.cells #[.slice (some ⟨W.heap.size, 0, none⟩) 1 1] 64)) (W.heap.size + 1) [kv] := by
  have hb1 := (Below.refl W.heap.size W).alloc (Nat.le_refl _) (.cells #[.int .u64 kv] 36)
  have hb2 := hb1.alloc (by simp) (.cells #[.slice (some ⟨W.heap.size, 0, none⟩) 1 1] 64)
  have hc := blk_new (W.alloc (.cells #[.int .u64 kv] 36)) (.cells #[.slice (some ⟨W.heap.size, 0, none⟩) 1 1] 64)
  have hs : (W.alloc (.cells #[.int .u64 kv] 36)).heap.size = W.heap.size + 1 := by simp
  rw [hs] at hc
  refine ⟨hb2, Nat.le_succ _, by simp, _, hc, Kd.R_of_own ⟨rfl, Or.inr ⟨W.heap.size, 1, _, rfl, Nat.le_refl _, (Below.heap_alloc _ _ _ (by rw [hs]; exact Nat.lt_succ_self _)).trans (blk_new W _), Nat.le_refl _, by decide, rfl, rfl⟩⟩ (fun k hk => ?_)⟩
  have : W.heap.size = k := by simpa [Value.ownBlock] using hk
  omega
theorem below_start (W : World) (kv : Int) : Below W.heap.size W ((W.alloc (.cells #[.int .u64 kv] 36)).alloc (.cells #[.slice (some ⟨W.heap.size, 0, none⟩) 1 1] 64)) := ((Below.refl W.heap.size W).alloc (Nat.le_refl _) (.cells #[.int .u64 kv] 36)).alloc (by simp) _
def wt.T3 : Bool × List (List Nat × List Nat) := (true, [([], []), ([0], [0]), ([1], [1]), ([2], [2]), ([], []), ([4], [4]), ([3, 5], [3, 5]), ([6], [6]), ([7], [7]), ([7], [7]), ([], []), ([10, 8, 5, 0, 1, 2, 3, 4, 5, 6, 7, 8, 10], [8, 10]), ([9, 11, 0, 1, 2, 3, 4, 5, 6, 7, 8, 9, 10, 11], [9])])
def wt.B3 : List Nat := [0, 1, 3, 7, 0, 16, 63, 127, 255, 255, 0, 1535, 4095]
theorem wt.tab3 : rtab .any (opsOf Try.f36 3) = wt.T3 := by kernel_rfl
theorem wt.bits3 : waitsOk wt.T3.2 wt.B3 = true := by kernel_rfl
def wf.T3 : Bool × List (List Nat × List Nat) := (true, [([], []), ([0], [0]), ([1], [1]), ([2], [2]), ([], []), ([4], [4]), ([3, 5], [3, 5]), ([6], [6]), ([7], [7]), ([7], [7]), ([], []), ([10, 8, 5, 0, 1, 2, 3, 4, 5, 6, 7, 8, 10], [8, 10]), ([9, 11, 0, 1, 2, 3, 4, 5, 6, 7, 8, 9, 10, 11], [9])])
def wf.B3 : List Nat := [0, 1, 3, 7, 0, 16, 63, 127, 255, 255, 0, 1535, 4095]
theorem wf.tab3 : rtab .any (opsOf Try.f36 3) = wf.T3 := by kernel_rfl
theorem wf.bits3 : waitsOk wf.T3.2 wf.B3 = true := by kernel_rfl
set_option maxHeartbeats 8000000 in
set_option maxRecDepth 100000 in
theorem ways_t (W : World) {p gs gk bm N cs ck n : Nat} {SS KK : List Int} {D : DataW Unit} (h : Rg W p gs gk bm N cs ck n SS KK D) (j i : Nat) (hj : j < N) (hN : N ≤ 64) (HLN : Aside0 ((j : Int) - (j : Int) % 8 = i)) (hi : i + 8 ≤ N) (hD : has D (key i) = true) (kv sv : Int) (hk : Aside0 (KK.getD j 0 = kv)) (hs : Aside0 (SS.getD j 0 = sv)) (pv : Int) (PV : Aside0 (pendAt D j = some pv)) :
    Calls Try.prog 36 #[.pointer (some ⟨p, 0, none⟩), .int .i64 (j : Int)] W fun e w' => ∃ v, e = .returned v ∧ Kd.R (Kd.int .u64) 36 w' W.heap.size (fun _ => True) v (addW (addW [kv] pv) sv) ∧ Below W.heap.size W w' := by
  obtain ⟨st, hp⟩ := h.tp
  have hu := Try.underlying68
  have hu7 := Try.underlying70
  have hj64 : 0 ≤ (j : Int) ∧ (j : Int) < 64 := by omega
  obtain ⟨hlp, hls, hlk, hlb⟩ := h.lt
  have h1 : W.cell? ⟨p, 1, none⟩ = some (.slice (some ⟨gk, 0, none⟩) N ck) := (blk_cell hp 1).trans rfl
  have hck : W.cell? ⟨gk, j, none⟩ = some (.int .u64 kv) := (h.rk.cell j hj).trans (by rw [hk.out])
  have hi0 : (0 : Int) ≤ (j : Int) := by omega
  have hi1 : (j : Int) < (N : Int) := by omega
  have RG0 := Aside0.mk h
  have HD := Aside0.mk hD
  clear h hp hD
  go_enter Try.func36, Try.ntmps36
  go_upto_region 3 with fail
  obtain ⟨bv, hbv⟩ : ∃ bv, bv = W.heap.size + 1 := ⟨_, rfl⟩
  have HLS := Aside0.mk (lst_start W kv)
  have HBS := Aside0.mk (below_start W kv)
  rw [← hbv] at HLS ⊢
  obtain ⟨wx, hwx⟩ : ∃ wx, wx = ((W.alloc (.cells #[.int .u64 kv] 36)).alloc (.cells #[.slice (some ⟨W.heap.size, 0, none⟩) 1 1] 64)) := ⟨_, rfl⟩
  rw [← hwx] at HLS HBS ⊢
  have HL := HLS
  have RG := Aside0.mk (RG0.out.below HBS.out)
  have h0x : W.heap.size ≤ bv := by omega
  obtain ⟨hlp, hls, hlk, hlb⟩ := RG0.out.lt
  have HLT : Aside0 (p < bv ∧ gs < bv ∧ gk < bv ∧ bm < bv) := Aside0.mk (by omega)
  clear HLS HBS hwx hck h1
  refine start_ (n := 13) (S := fun w' => True) (ds := []) #[false, false, false, false, false, false, false, false, false, false, false, false, false] (by kernel_rfl) rfl rfl trivial (fun hHeld => ?_)
  refine with_tabW wt.tab3 wt.bits3 (fun HT_ HW_ => ?_)
  refine inv_at [0, 1, 2, 3, 4, 5, 6, 7, 8, 9, 10, 11, 12] (fun a0_ b a w' => ∃ (c : Note8) (g7 : Nat) (m6_ : Value) (m7_ : Value) (m8_ : Value) (m10_ : Value), a = putSel a0_ b [(0, 19, .pointer (some ⟨p, 0, none⟩)), (1, 20, .pointer (some ⟨p, 0, none⟩)), (2, 21, .pointer (some ⟨p, 2, none⟩)), (3, 22, .map (some bm)), (4, 23, .int .i64 (j : Int)), (5, 24, .int .i64 (i : Int)), (6, 25, m6_), (7, 18, m7_), (8, 26, m8_), (9, 27, .bool true), (10, 7, m10_), (12, 8, .bool true)] ∧ (Lst W w' bv [kv]) ∧ (Rg w' p gs gk bm N cs ck n SS KK D) ∧ (b 10 = true → b 11 = false → w'.heap[g7]? = some (.cells #[.int .u64 0, .int .u64 0, .int .u64 0, .int .u64 0, .int .u64 0, .int .u64 0, .int .u64 0, .int .u64 0] 70 (0, 0))) ∧ (b 11 = true → w'.heap[g7]? = some (.cells #[.int .u64 c.y0, .int .u64 c.y1, .int .u64 c.y2, .int .u64 c.y3, .int .u64 c.y4, .int .u64 c.y5, .int .u64 c.y6, .int .u64 c.y7] 70 (0, 0))) ∧ (b 6 = true → (has D (key i) = true → ∃ y, noteR c.val = some y ∧ ∀ zd, D.atKey (key i) zd = y.1)) ∧ (b 10 = true → bv < g7 ∧ rowBelow w' bv g7) ∧ (b 6 = true → (m6_ : Value) = .tuple #[.agg #[.int .u64 c.y0, .int .u64 c.y1, .int .u64 c.y2, .int .u64 c.y3, .int .u64 c.y4, .int .u64 c.y5, .int .u64 c.y6, .int .u64 c.y7], .bool true]) ∧ (b 7 = true → (m7_ : Value) = .tuple #[.agg #[.int .u64 c.y0, .int .u64 c.y1, .int .u64 c.y2, .int .u64 c.y3, .int .u64 c.y4, .int .u64 c.y5, .int .u64 c.y6, .int .u64 c.y7], .bool true]) ∧ (b 8 = true → (m8_ : Value) = .agg #[.int .u64 c.y0, .int .u64 c.y1, .int .u64 c.y2, .int .u64 c.y3, .int .u64 c.y4, .int .u64 c.y5, .int .u64 c.y6, .int .u64 c.y7]) ∧ (b 10 = true → (m10_ : Value) = .pointer (some ⟨g7, 0, none⟩))) HT_.out HW_.out (by kernel_rfl) (by kernel_rfl) ?_ ?_ ?_
  · exact ⟨⟨0, 0, 0, 0, 0, 0, 0, 0⟩, 0, .bool false, .bool false, .bool false, .bool false, by simp only [putSel, Bool.false_eq_true, if_false], (HL.out.drewN 1), (RG.out.drewN 1), fun h_ => absurd h_ (by decide), fun h_ => absurd h_ (by decide), fun h_ => absurd h_ (by decide), fun h_ => absurd h_ (by decide), fun h_ => absurd h_ (by decide), fun h_ => absurd h_ (by decide), fun h_ => absurd h_ (by decide), fun h_ => absurd h_ (by decide)⟩
  · skip
    clear HL RG
    refine steps_cons ?_ ?_
    · rintro b a w' ⟨c, g7, m6_, m7_, m8_, m10_, ha, Q_HL, Q_RG, Q_BA, Q_BB, Q_CF, Q_GE, Q_X6_, Q_X7_, Q_X8_, Q_X10_⟩ hb_ hon hoff
      refine ⟨_, rfl, fun K hK => ?_⟩
      have e0 : a.tmps[0]? = some (.pointer (some ⟨p, 0, none⟩)) := by rw [ha]; exact (putSel_off rfl).trans rfl
      replace ha := Aside0.mk ha
      have HL := Aside0.mk Q_HL
      have RG := Aside0.mk Q_RG
      refine value_ (w1 := w') (v := .pointer (some ⟨p, 0, none⟩)) (by rfl) rfl ?_ ?_
      · go_simp
        (try simp only [i64_w])
        try rfl
      refine hK.out _ _ ⟨c, g7, m6_, m7_, m8_, m10_, (by rw [ha.out]; exact putSel_upk 0 hb_ rfl rfl rfl), Q_HL, Q_RG, Q_BA, fun h0_ => absurd ((hoff 11 (by kernel_rfl)).symm.trans h0_) (by decide), fun h0_ => absurd ((hoff 6 (by kernel_rfl)).symm.trans h0_) (by decide), Q_GE, fun h0_ => absurd ((hoff 6 (by kernel_rfl)).symm.trans h0_) (by decide), fun h0_ => absurd ((hoff 7 (by kernel_rfl)).symm.trans h0_) (by decide), fun h0_ => absurd ((hoff 8 (by kernel_rfl)).symm.trans h0_) (by decide), Q_X10_⟩
    refine steps_cons ?_ ?_
    · rintro b a w' ⟨c, g7, m6_, m7_, m8_, m10_, ha, Q_HL, Q_RG, Q_BA, Q_BB, Q_CF, Q_GE, Q_X6_, Q_X7_, Q_X8_, Q_X10_⟩ hb_ hon hoff
      refine ⟨_, rfl, fun K hK => ?_⟩
      have e19 : a.tmps[19]? = some (.pointer (some ⟨p, 0, none⟩)) := by rw [ha]; exact putSel_on (e := (0, 19, .pointer (some ⟨p, 0, none⟩))) 0 rfl rfl (hon 0 (by kernel_rfl)) rfl
      replace ha := Aside0.mk ha
      have HL := Aside0.mk Q_HL
      have RG := Aside0.mk Q_RG
      refine value_ (w1 := w') (v := .pointer (some ⟨p, 0, none⟩)) (by rfl) rfl ?_ ?_
      · go_simp
        (try simp only [i64_w])
        try rfl
      refine hK.out _ _ ⟨c, g7, m6_, m7_, m8_, m10_, (by rw [ha.out]; exact putSel_upk 1 hb_ rfl rfl rfl), Q_HL, Q_RG, Q_BA, fun h0_ => absurd ((hoff 11 (by kernel_rfl)).symm.trans h0_) (by decide), fun h0_ => absurd ((hoff 6 (by kernel_rfl)).symm.trans h0_) (by decide), Q_GE, fun h0_ => absurd ((hoff 6 (by kernel_rfl)).symm.trans h0_) (by decide), fun h0_ => absurd ((hoff 7 (by kernel_rfl)).symm.trans h0_) (by decide), fun h0_ => absurd ((hoff 8 (by kernel_rfl)).symm.trans h0_) (by decide), Q_X10_⟩
    refine steps_cons ?_ ?_
    · rintro b a w' ⟨c, g7, m6_, m7_, m8_, m10_, ha, Q_HL, Q_RG, Q_BA, Q_BB, Q_CF, Q_GE, Q_X6_, Q_X7_, Q_X8_, Q_X10_⟩ hb_ hon hoff
      refine ⟨_, rfl, fun K hK => ?_⟩
      have e20 : a.tmps[20]? = some (.pointer (some ⟨p, 0, none⟩)) := by rw [ha]; exact putSel_on (e := (1, 20, .pointer (some ⟨p, 0, none⟩))) 1 rfl rfl (hon 1 (by kernel_rfl)) rfl
      replace ha := Aside0.mk ha
      have HL := Aside0.mk Q_HL
      have RG := Aside0.mk Q_RG
      refine value_ (w1 := w') (v := .pointer (some ⟨p, 2, none⟩)) (by rfl) rfl ?_ ?_
      · go_simp
        (try simp only [i64_w])
        try rfl
      refine hK.out _ _ ⟨c, g7, m6_, m7_, m8_, m10_, (by rw [ha.out]; exact putSel_upk 2 hb_ rfl rfl rfl), Q_HL, Q_RG, Q_BA, fun h0_ => absurd ((hoff 11 (by kernel_rfl)).symm.trans h0_) (by decide), fun h0_ => absurd ((hoff 6 (by kernel_rfl)).symm.trans h0_) (by decide), Q_GE, fun h0_ => absurd ((hoff 6 (by kernel_rfl)).symm.trans h0_) (by decide), fun h0_ => absurd ((hoff 7 (by kernel_rfl)).symm.trans h0_) (by decide), fun h0_ => absurd ((hoff 8 (by kernel_rfl)).symm.trans h0_) (by decide), Q_X10_⟩
    refine steps_cons ?_ ?_
    · rintro b a w' ⟨c, g7, m6_, m7_, m8_, m10_, ha, Q_HL, Q_RG, Q_BA, Q_BB, Q_CF, Q_GE, Q_X6_, Q_X7_, Q_X8_, Q_X10_⟩ hb_ hon hoff
      refine ⟨_, rfl, fun K hK => ?_⟩
      have e21 : a.tmps[21]? = some (.pointer (some ⟨p, 2, none⟩)) := by rw [ha]; exact putSel_on (e := (2, 21, .pointer (some ⟨p, 2, none⟩))) 2 rfl rfl (hon 2 (by kernel_rfl)) rfl
      replace ha := Aside0.mk ha
      have HL := Aside0.mk Q_HL
      have RG := Aside0.mk Q_RG
      have hcm : w'.cell? ⟨p, 2, none⟩ = some (.map (some bm)) := RG.out.mapcell
      refine value_ (w1 := w') (v := .map (some bm)) (by rfl) rfl ?_ ?_
      · go_simp
        (try simp only [i64_w])
        try rfl
      refine hK.out _ _ ⟨c, g7, m6_, m7_, m8_, m10_, (by rw [ha.out]; exact putSel_upk 3 hb_ rfl rfl rfl), Q_HL, Q_RG, Q_BA, fun h0_ => absurd ((hoff 11 (by kernel_rfl)).symm.trans h0_) (by decide), fun h0_ => absurd ((hoff 6 (by kernel_rfl)).symm.trans h0_) (by decide), Q_GE, fun h0_ => absurd ((hoff 6 (by kernel_rfl)).symm.trans h0_) (by decide), fun h0_ => absurd ((hoff 7 (by kernel_rfl)).symm.trans h0_) (by decide), fun h0_ => absurd ((hoff 8 (by kernel_rfl)).symm.trans h0_) (by decide), Q_X10_⟩
    refine steps_cons ?_ ?_
    · rintro b a w' ⟨c, g7, m6_, m7_, m8_, m10_, ha, Q_HL, Q_RG, Q_BA, Q_BB, Q_CF, Q_GE, Q_X6_, Q_X7_, Q_X8_, Q_X10_⟩ hb_ hon hoff
      refine ⟨_, rfl, fun K hK => ?_⟩
      have e1 : a.tmps[1]? = some (.int .i64 (j : Int)) := by rw [ha]; exact (putSel_off rfl).trans rfl
      replace ha := Aside0.mk ha
      have HL := Aside0.mk Q_HL
      have RG := Aside0.mk Q_RG
      refine value_ (w1 := w') (v := .int .i64 (j : Int)) (by rfl) rfl ?_ ?_
      · go_simp
        (try simp only [i64_w])
        try rfl
      refine hK.out _ _ ⟨c, g7, m6_, m7_, m8_, m10_, (by rw [ha.out]; exact putSel_upk 4 hb_ rfl rfl rfl), Q_HL, Q_RG, Q_BA, fun h0_ => absurd ((hoff 11 (by kernel_rfl)).symm.trans h0_) (by decide), fun h0_ => absurd ((hoff 6 (by kernel_rfl)).symm.trans h0_) (by decide), Q_GE, fun h0_ => absurd ((hoff 6 (by kernel_rfl)).symm.trans h0_) (by decide), fun h0_ => absurd ((hoff 7 (by kernel_rfl)).symm.trans h0_) (by decide), fun h0_ => absurd ((hoff 8 (by kernel_rfl)).symm.trans h0_) (by decide), Q_X10_⟩
    refine steps_cons ?_ ?_
    · rintro b a w' ⟨c, g7, m6_, m7_, m8_, m10_, ha, Q_HL, Q_RG, Q_BA, Q_BB, Q_CF, Q_GE, Q_X6_, Q_X7_, Q_X8_, Q_X10_⟩ hb_ hon hoff
      refine ⟨_, rfl, fun K hK => ?_⟩
      have e23 : a.tmps[23]? = some (.int .i64 (j : Int)) := by rw [ha]; exact putSel_on (e := (4, 23, .int .i64 (j : Int))) 4 rfl rfl (hon 4 (by kernel_rfl)) rfl
      replace ha := Aside0.mk ha
      have HL := Aside0.mk Q_HL
      have RG := Aside0.mk Q_RG
      refine goes_ Try.func33 (by kernel_rfl) rfl #[.int .i64 (j : Int)] (by rfl) rfl rfl (by first | (simp only [List.map_toArray, List.map_cons, List.map_nil, Act.eval, Array.getD_eq_getD_getElem?, Option.getD_some, e23]; done) | (simp only [List.map_toArray, List.map_cons, List.map_nil, Act.eval, Array.getD_eq_getD_getElem?, Option.getD_some, e23]; rfl)) ?_
      with_reducible refine (line_at (j : Int) i HLN.out hj64 _).mono ?_
      rintro e w3 ⟨rfl, hb⟩
      refine ⟨_, rfl, ?_⟩
      refine hK.out _ _ ⟨c, g7, m6_, m7_, m8_, m10_, (by rw [ha.out]; exact putSel_upk 5 hb_ rfl rfl rfl), (HL.out.below hb), (RG.out.below hb), fun h0_ h1_ => (blk_below (Q_BA h0_ h1_) hb), fun h0_ => absurd ((hoff 11 (by kernel_rfl)).symm.trans h0_) (by decide), fun h0_ => absurd ((hoff 6 (by kernel_rfl)).symm.trans h0_) (by decide), fun h0_ => ⟨(Q_GE h0_).1, rowBelow_below (Q_GE h0_).2 HL.out.lt hb⟩, fun h0_ => absurd ((hoff 6 (by kernel_rfl)).symm.trans h0_) (by decide), fun h0_ => absurd ((hoff 7 (by kernel_rfl)).symm.trans h0_) (by decide), fun h0_ => absurd ((hoff 8 (by kernel_rfl)).symm.trans h0_) (by decide), Q_X10_⟩
    refine steps_cons ?_ ?_
    · rintro b a w' ⟨c, g7, m6_, m7_, m8_, m10_, ha, Q_HL, Q_RG, Q_BA, Q_BB, Q_CF, Q_GE, Q_X6_, Q_X7_, Q_X8_, Q_X10_⟩ hb_ hon hoff
      refine ⟨_, rfl, fun K hK => ?_⟩
      have e22 : a.tmps[22]? = some (.map (some bm)) := by rw [ha]; exact putSel_on (e := (3, 22, .map (some bm))) 3 rfl rfl (hon 3 (by kernel_rfl)) rfl
      have e24 : a.tmps[24]? = some (.int .i64 (i : Int)) := by rw [ha]; exact putSel_on (e := (5, 24, .int .i64 (i : Int))) 5 rfl rfl (hon 5 (by kernel_rfl)) rfl
      replace ha := Aside0.mk ha
      have HL := Aside0.mk Q_HL
      have RG := Aside0.mk Q_RG
      obtain ⟨c9, hrun9, hc9⟩ := look_note RG.out.mp i (by omega)
      rw [HD.out] at hrun9
      have hcv9 : c9.val = .agg #[.int .u64 c9.y0, .int .u64 c9.y1, .int .u64 c9.y2, .int .u64 c9.y3, .int .u64 c9.y4, .int .u64 c9.y5, .int .u64 c9.y6, .int .u64 c9.y7] := rfl
      rw [hcv9] at hrun9
      clear hcv9
      refine value_ (w1 := w') (v := .tuple #[.agg #[.int .u64 c9.y0, .int .u64 c9.y1, .int .u64 c9.y2, .int .u64 c9.y3, .int .u64 c9.y4, .int .u64 c9.y5, .int .u64 c9.y6, .int .u64 c9.y7], .bool true]) (by rfl) rfl ?_ ?_
      · simp [execOp, Act.eval, hrun9, Result.andThen, e22, e24]
      refine hK.out _ _ ⟨c9, g7, (.tuple #[.agg #[.int .u64 c9.y0, .int .u64 c9.y1, .int .u64 c9.y2, .int .u64 c9.y3, .int .u64 c9.y4, .int .u64 c9.y5, .int .u64 c9.y6, .int .u64 c9.y7], .bool true]), m7_, m8_, m10_, (by rw [ha.out]; exact putSel_upk 6 hb_ rfl rfl rfl), HL.out, RG.out, fun h0_ h1_ => (Q_BA h0_ h1_), fun h0_ => absurd ((hoff 11 (by kernel_rfl)).symm.trans h0_) (by decide), fun _ => hc9, fun h0_ => (Q_GE h0_), fun _ => rfl, fun h0_ => absurd ((hoff 7 (by kernel_rfl)).symm.trans h0_) (by decide), fun h0_ => absurd ((hoff 8 (by kernel_rfl)).symm.trans h0_) (by decide), Q_X10_⟩
    refine steps_cons ?_ ?_
    · rintro b a w' ⟨c, g7, m6_, m7_, m8_, m10_, ha, Q_HL, Q_RG, Q_BA, Q_BB, Q_CF, Q_GE, Q_X6_, Q_X7_, Q_X8_, Q_X10_⟩ hb_ hon hoff
      refine ⟨_, rfl, fun K hK => ?_⟩
      have e25 : a.tmps[25]? = some (m6_) := by rw [ha]; exact putSel_on (e := (6, 25, m6_)) 6 rfl rfl (hon 6 (by kernel_rfl)) rfl
      rw [Q_X6_ (hon 6 (by kernel_rfl))] at e25
      replace ha := Aside0.mk ha
      have HL := Aside0.mk Q_HL
      have RG := Aside0.mk Q_RG
      have CF := Aside0.mk (Q_CF (hon 6 (by kernel_rfl)))
      refine value_ (w1 := w') (v := .tuple #[.agg #[.int .u64 c.y0, .int .u64 c.y1, .int .u64 c.y2, .int .u64 c.y3, .int .u64 c.y4, .int .u64 c.y5, .int .u64 c.y6, .int .u64 c.y7], .bool true]) (by rfl) rfl ?_ ?_
      · go_simp
        (try simp only [i64_w])
        try rfl
      refine hK.out _ _ ⟨c, g7, m6_, (.tuple #[.agg #[.int .u64 c.y0, .int .u64 c.y1, .int .u64 c.y2, .int .u64 c.y3, .int .u64 c.y4, .int .u64 c.y5, .int .u64 c.y6, .int .u64 c.y7], .bool true]), m8_, m10_, (by rw [ha.out]; exact putSel_upk 7 hb_ rfl rfl rfl), Q_HL, Q_RG, Q_BA, fun h0_ => absurd ((hoff 11 (by kernel_rfl)).symm.trans h0_) (by decide), Q_CF, Q_GE, Q_X6_, fun _ => rfl, fun h0_ => absurd ((hoff 8 (by kernel_rfl)).symm.trans h0_) (by decide), Q_X10_⟩
    refine steps_cons ?_ ?_
    · rintro b a w' ⟨c, g7, m6_, m7_, m8_, m10_, ha, Q_HL, Q_RG, Q_BA, Q_BB, Q_CF, Q_GE, Q_X6_, Q_X7_, Q_X8_, Q_X10_⟩ hb_ hon hoff
      refine ⟨_, rfl, fun K hK => ?_⟩
      have e18 : a.tmps[18]? = some (m7_) := by rw [ha]; exact putSel_on (e := (7, 18, m7_)) 7 rfl rfl (hon 7 (by kernel_rfl)) rfl
      rw [Q_X7_ (hon 7 (by kernel_rfl))] at e18
      replace ha := Aside0.mk ha
      have HL := Aside0.mk Q_HL
      have RG := Aside0.mk Q_RG
      have CF := Aside0.mk (Q_CF (hon 6 (by kernel_rfl)))
      refine value_ (w1 := w') (v := .agg #[.int .u64 c.y0, .int .u64 c.y1, .int .u64 c.y2, .int .u64 c.y3, .int .u64 c.y4, .int .u64 c.y5, .int .u64 c.y6, .int .u64 c.y7]) (by rfl) rfl ?_ ?_
      · go_simp
        (try simp only [i64_w])
        try rfl
      refine hK.out _ _ ⟨c, g7, m6_, m7_, (.agg #[.int .u64 c.y0, .int .u64 c.y1, .int .u64 c.y2, .int .u64 c.y3, .int .u64 c.y4, .int .u64 c.y5, .int .u64 c.y6, .int .u64 c.y7]), m10_, (by rw [ha.out]; exact putSel_upk 8 hb_ rfl rfl rfl), Q_HL, Q_RG, Q_BA, fun h0_ => absurd ((hoff 11 (by kernel_rfl)).symm.trans h0_) (by decide), Q_CF, Q_GE, Q_X6_, Q_X7_, fun _ => rfl, Q_X10_⟩
    refine steps_cons ?_ ?_
    · rintro b a w' ⟨c, g7, m6_, m7_, m8_, m10_, ha, Q_HL, Q_RG, Q_BA, Q_BB, Q_CF, Q_GE, Q_X6_, Q_X7_, Q_X8_, Q_X10_⟩ hb_ hon hoff
      refine ⟨_, rfl, fun K hK => ?_⟩
      have e18 : a.tmps[18]? = some (m7_) := by rw [ha]; exact putSel_on (e := (7, 18, m7_)) 7 rfl rfl (hon 7 (by kernel_rfl)) rfl
      rw [Q_X7_ (hon 7 (by kernel_rfl))] at e18
      replace ha := Aside0.mk ha
      have HL := Aside0.mk Q_HL
      have RG := Aside0.mk Q_RG
      have CF := Aside0.mk (Q_CF (hon 6 (by kernel_rfl)))
      refine value_ (w1 := w') (v := .bool true) (by rfl) rfl ?_ ?_
      · go_simp
        (try simp only [i64_w])
        try rfl
      refine hK.out _ _ ⟨c, g7, m6_, m7_, m8_, m10_, (by rw [ha.out]; exact putSel_upk 9 hb_ rfl rfl rfl), Q_HL, Q_RG, Q_BA, Q_BB, Q_CF, Q_GE, Q_X6_, Q_X7_, Q_X8_, Q_X10_⟩
    refine steps_cons ?_ ?_
    · rintro b a w' ⟨c, g7, m6_, m7_, m8_, m10_, ha, Q_HL, Q_RG, Q_BA, Q_BB, Q_CF, Q_GE, Q_X6_, Q_X7_, Q_X8_, Q_X10_⟩ hb_ hon hoff
      refine ⟨_, rfl, fun K hK => ?_⟩
      replace ha := Aside0.mk ha
      have HL := Aside0.mk Q_HL
      have RG := Aside0.mk Q_RG
      refine value_ (w1 := ?_) (v := ?_) (by rfl) rfl ?_ ?_
      rotate_left 2
      · go_simp
        constructor
        · rfl
        · rfl
      have hb := below_alloc (Below.refl w'.heap.size w') (.cells #[.int .u64 0, .int .u64 0, .int .u64 0, .int .u64 0, .int .u64 0, .int .u64 0, .int .u64 0, .int .u64 0] 70)
      refine hK.out _ _ ⟨c, w'.heap.size, m6_, m7_, m8_, (.pointer (some ⟨w'.heap.size, 0, none⟩)), (by rw [ha.out]; exact putSel_upk 10 hb_ rfl rfl rfl), (HL.out.below hb), (RG.out.below hb), fun _ _ => (blk_new w' _), fun h0_ => absurd ((hoff 11 (by kernel_rfl)).symm.trans h0_) (by decide), fun h0_ => (Q_CF h0_), fun _ => (rowBelow_new HL.out _), Q_X6_, Q_X7_, Q_X8_, fun _ => rfl⟩
    refine steps_cons ?_ ?_
    · rintro b a w' ⟨c, g7, m6_, m7_, m8_, m10_, ha, Q_HL, Q_RG, Q_BA, Q_BB, Q_CF, Q_GE, Q_X6_, Q_X7_, Q_X8_, Q_X10_⟩ hb_ hon hoff
      refine ⟨_, rfl, fun K hK => ?_⟩
      have e7 : a.tmps[7]? = some (m10_) := by rw [ha]; exact putSel_on (e := (10, 7, m10_)) 10 rfl rfl (hon 10 (by kernel_rfl)) rfl
      rw [Q_X10_ (hon 10 (by kernel_rfl))] at e7
      have e26 : a.tmps[26]? = some (m8_) := by rw [ha]; exact putSel_on (e := (8, 26, m8_)) 8 rfl rfl (hon 8 (by kernel_rfl)) rfl
      rw [Q_X8_ (hon 8 (by kernel_rfl))] at e26
      replace ha := Aside0.mk ha
      have HL := Aside0.mk Q_HL
      have RG := Aside0.mk Q_RG
      have BA := Aside0.mk (Q_BA (hon 10 (by kernel_rfl)) hb_)
      have CF := Aside0.mk (Q_CF (hon 6 (by kernel_rfl)))
      have GE := Aside0.mk (Q_GE (hon 10 (by kernel_rfl)))
      have hq7 : ∀ q, q < 8 → w'.cell? ⟨g7, q, none⟩ = some (.int .u64 0) := fun q hq => (blk_cell BA.out q).trans (zeros8 q hq)
      have hf7 : ∀ q, w'.frozen? ⟨g7, q, none⟩ = false := fun q => blk_frozen BA.out q
      have hq7_0 := hq7 0 (by decide)
      have hq7_1 := hq7 1 (by decide)
      have hq7_2 := hq7 2 (by decide)
      have hq7_3 := hq7 3 (by decide)
      have hq7_4 := hq7 4 (by decide)
      have hq7_5 := hq7 5 (by decide)
      have hq7_6 := hq7 6 (by decide)
      have hq7_7 := hq7 7 (by decide)
      have hf7_0 := hf7 0
      have hf7_1 := hf7 1
      have hf7_2 := hf7 2
      have hf7_3 := hf7 3
      have hf7_4 := hf7 4
      have hf7_5 := hf7 5
      have hf7_6 := hf7 6
      have hf7_7 := hf7 7
      clear hq7 hf7
      refine skip_ (w1 := ?_) (by rfl) rfl ?_ ?_
      rotate_left
      · go_simp
        rfl
      refine hK.out _ _ ⟨c, g7, m6_, m7_, m8_, m10_, (by rw [ha.out]; exact putSel_none (v := undef) rfl), (HL.out.set8 GE.out.1 GE.out.2 _ _ _ _ _ _ _ _), (RG.out.set8 ⟨by have := HL.out.bv0; have := GE.out.1; omega, by have := HL.out.bv0; have := GE.out.1; omega, by have := HL.out.bv0; have := GE.out.1; omega, by have := HL.out.bv0; have := GE.out.1; omega⟩ _ _ _ _ _ _ _ _), fun _ h1_ => absurd ((up_self b 11).symm.trans h1_) (by decide), fun _ => (by (with_reducible repeat (first | refine blk_drewN ?_ _ | refine blk_drew ?_ | refine blk_alloc ?_ _)); refine blk_put (cs := #[.int .u64 c.y0, .int .u64 c.y1, .int .u64 c.y2, .int .u64 c.y3, .int .u64 c.y4, .int .u64 c.y5, .int .u64 c.y6, .int .u64 0]) ?_ 7 _ rfl; (with_reducible repeat (first | refine blk_drewN ?_ _ | refine blk_drew ?_ | refine blk_alloc ?_ _)); refine blk_put (cs := #[.int .u64 c.y0, .int .u64 c.y1, .int .u64 c.y2, .int .u64 c.y3, .int .u64 c.y4, .int .u64 c.y5, .int .u64 0, .int .u64 0]) ?_ 6 _ rfl; (with_reducible repeat (first | refine blk_drewN ?_ _ | refine blk_drew ?_ | refine blk_alloc ?_ _)); refine blk_put (cs := #[.int .u64 c.y0, .int .u64 c.y1, .int .u64 c.y2, .int .u64 c.y3, .int .u64 c.y4, .int .u64 0, .int .u64 0, .int .u64 0]) ?_ 5 _ rfl; (with_reducible repeat (first | refine blk_drewN ?_ _ | refine blk_drew ?_ | refine blk_alloc ?_ _)); refine blk_put (cs := #[.int .u64 c.y0, .int .u64 c.y1, .int .u64 c.y2, .int .u64 c.y3, .int .u64 0, .int .u64 0, .int .u64 0, .int .u64 0]) ?_ 4 _ rfl; (with_reducible repeat (first | refine blk_drewN ?_ _ | refine blk_drew ?_ | refine blk_alloc ?_ _)); refine blk_put (cs := #[.int .u64 c.y0, .int .u64 c.y1, .int .u64 c.y2, .int .u64 0, .int .u64 0, .int .u64 0, .int .u64 0, .int .u64 0]) ?_ 3 _ rfl; (with_reducible repeat (first | refine blk_drewN ?_ _ | refine blk_drew ?_ | refine blk_alloc ?_ _)); refine blk_put (cs := #[.int .u64 c.y0, .int .u64 c.y1, .int .u64 0, .int .u64 0, .int .u64 0, .int .u64 0, .int .u64 0, .int .u64 0]) ?_ 2 _ rfl; (with_reducible repeat (first | refine blk_drewN ?_ _ | refine blk_drew ?_ | refine blk_alloc ?_ _)); refine blk_put (cs := #[.int .u64 c.y0, .int .u64 0, .int .u64 0, .int .u64 0, .int .u64 0, .int .u64 0, .int .u64 0, .int .u64 0]) ?_ 1 _ rfl; (with_reducible repeat (first | refine blk_drewN ?_ _ | refine blk_drew ?_ | refine blk_alloc ?_ _)); refine blk_put (cs := #[.int .u64 0, .int .u64 0, .int .u64 0, .int .u64 0, .int .u64 0, .int .u64 0, .int .u64 0, .int .u64 0]) ?_ 0 _ rfl; (with_reducible repeat (first | refine blk_drewN ?_ _ | refine blk_drew ?_ | refine blk_alloc ?_ _)); exact BA.out), fun _ => CF.out, fun _ => ⟨GE.out.1, rowBelow_set8 GE.out.2 GE.out.1 _ _ _ _ _ _ _ _⟩, Q_X6_, Q_X7_, Q_X8_, Q_X10_⟩
    refine steps_cons ?_ ?_
    · rintro b a w' ⟨c, g7, m6_, m7_, m8_, m10_, ha, Q_HL, Q_RG, Q_BA, Q_BB, Q_CF, Q_GE, Q_X6_, Q_X7_, Q_X8_, Q_X10_⟩ hb_ hon hoff
      refine ⟨_, rfl, fun K hK => ?_⟩
      have e27 : a.tmps[27]? = some (.bool true) := by rw [ha]; exact putSel_on (e := (9, 27, .bool true)) 9 rfl rfl (hon 9 (by kernel_rfl)) rfl
      replace ha := Aside0.mk ha
      have HL := Aside0.mk Q_HL
      have RG := Aside0.mk Q_RG
      have BB := Aside0.mk (Q_BB (hon 11 (by kernel_rfl)))
      have CF := Aside0.mk (Q_CF (hon 6 (by kernel_rfl)))
      have GE := Aside0.mk (Q_GE (hon 10 (by kernel_rfl)))
      refine value_ (w1 := w') (v := .bool true) (by rfl) rfl ?_ ?_
      · go_simp
        (try simp only [i64_w])
        try rfl
      refine hK.out _ _ ⟨c, g7, m6_, m7_, m8_, m10_, (by rw [ha.out]; exact putSel_upk 11 hb_ rfl rfl rfl), Q_HL, Q_RG, fun _ h1_ => absurd ((hon 11 (by kernel_rfl)).symm.trans h1_) (by decide), Q_BB, Q_CF, Q_GE, Q_X6_, Q_X7_, Q_X8_, Q_X10_⟩
    exact steps_nil
  rintro b a wz hall ⟨c, g7, m6_, m7_, m8_, m10_, ha, Q_HL, Q_RG, Q_BA, Q_BB, Q_CF, Q_GE, Q_X6_, Q_X7_, Q_X8_, Q_X10_⟩
  clear HL RG
  have hb0_ := hall 0 (by kernel_rfl)
  have hb1_ := hall 1 (by kernel_rfl)
  have hb2_ := hall 2 (by kernel_rfl)
  have hb3_ := hall 3 (by kernel_rfl)
  have hb4_ := hall 4 (by kernel_rfl)
  have hb5_ := hall 5 (by kernel_rfl)
  have hb6_ := hall 6 (by kernel_rfl)
  have hb7_ := hall 7 (by kernel_rfl)
  have hb8_ := hall 8 (by kernel_rfl)
  have hb9_ := hall 9 (by kernel_rfl)
  have hb10_ := hall 10 (by kernel_rfl)
  have hb11_ := hall 11 (by kernel_rfl)
  have hb12_ := hall 12 (by kernel_rfl)
  subst ha
  obtain rfl := Q_X6_ hb6_
  obtain rfl := Q_X7_ hb7_
  obtain rfl := Q_X8_ hb8_
  obtain rfl := Q_X10_ hb10_
  simp only [putSel, hb0_, hb1_, hb2_, hb3_, hb4_, hb5_, hb6_, hb7_, hb8_, hb9_, hb10_, hb11_, hb12_, if_true, Act.put, List.setIfInBounds_toArray, List.set_cons_zero, List.set_cons_succ]
  have HL := Aside0.mk Q_HL
  clear Q_HL
  have RG := Aside0.mk Q_RG
  clear Q_RG
  clear Q_BA
  have BB := Aside0.mk (Q_BB hb11_)
  clear Q_BB
  have CF := Aside0.mk (Q_CF hb6_)
  clear Q_CF
  have GE := Aside0.mk (Q_GE hb10_)
  clear Q_GE
  clear hall hb0_ hb1_ hb2_ hb3_ hb4_ hb5_ hb6_ hb7_ hb8_ hb9_ hb10_ hb11_ hb12_
  obtain ⟨y, hy, hat⟩ := CF.out HD.out
  have hjm : j % 8 < 8 := Nat.mod_lt _ (by decide)
  have hpv : c.list.getD (j % 8) 0 = pv := by
    have h1 := note_word c y hy (j % 8) hjm
    have hji : j - j % 8 = i := by have := HLN.out; omega
    have h2 := PV.out
    unfold pendAt at h2
    rw [hji, if_pos HD.out, hat] at h2
    rw [← h1]
    exact Option.some.inj h2
  have hcy : wz.cell? ⟨g7, j % 8, none⟩ = some (.int .u64 pv) := (blk_cell BB.out (j % 8)).trans (by rw [note_cell c _ hjm, hpv])
  have hm0 : (0 : Int) ≤ (j : Int) % 8 := by omega
  have hm1 : (j : Int) % 8 < 8 := by omega
  have hmt : ((j : Int) % 8).toNat = j % 8 := by omega
  clear hy hat hpv CF BB GE
  subst hbv
  go_wp2_with (first | (go_at_call 43; refine (add_calls W _ (W.heap.size + 1) (addW [kv] pv) HL2.out (by have := addW_len [kv] pv; simp at this; omega) sv).mono ?_; rintro e w' ⟨⟨v, rfl⟩, hL⟩; obtain ⟨vr, hvr, hR⟩ := hL.row; have hcr := (blk_cell hvr 0); rw [show (#[vr])[0]? = some vr from rfl] at hcr) | (go_at_call 43; refine (add_calls W _ (W.heap.size + 1) [kv] HL.out (by simp) pv).mono ?_; rintro e w' ⟨⟨v, rfl⟩, hL⟩; have RGn := RG0.out.below hL.hb; obtain ⟨sn, hpn⟩ := RGn.tp; have hrs := (RGn.rs.cell j hj).trans (by rw [hs.out]); have hsc := (blk_cell hpn 0); rw [show (#[Value.slice (some ⟨gs, 0, none⟩) N cs, Value.slice (some ⟨gk, 0, none⟩) N ck, Value.map (some bm), Value.int .i64 sn])[0]? = some (.slice (some ⟨gs, 0, none⟩) N cs) from rfl] at hsc; have HL2 := Aside0.mk hL; clear hL RGn hpn))
  go_ret
  exact ⟨vr, rfl, ⟨fun _ _ => trivial, hR.2⟩, hL.hb⟩
set_option maxHeartbeats 8000000 in
set_option maxRecDepth 100000 in
theorem ways_f (W : World) {p gs gk bm N cs ck n : Nat} {SS KK : List Int} {D : DataW Unit} (h : Rg W p gs gk bm N cs ck n SS KK D) (j i : Nat) (hj : j < N) (hN : N ≤ 64) (HLN : Aside0 ((j : Int) - (j : Int) % 8 = i)) (hi : i + 8 ≤ N) (hD : has D (key i) = false) (kv sv : Int) (hk : Aside0 (KK.getD j 0 = kv)) (hs : Aside0 (SS.getD j 0 = sv)) :
    Calls Try.prog 36 #[.pointer (some ⟨p, 0, none⟩), .int .i64 (j : Int)] W fun e w' => ∃ v, e = .returned v ∧ Kd.R (Kd.int .u64) 36 w' W.heap.size (fun _ => True) v (addW [kv] sv) ∧ Below W.heap.size W w' := by
  obtain ⟨st, hp⟩ := h.tp
  have hu := Try.underlying68
  have hu7 := Try.underlying70
  have hj64 : 0 ≤ (j : Int) ∧ (j : Int) < 64 := by omega
  obtain ⟨hlp, hls, hlk, hlb⟩ := h.lt
  have h1 : W.cell? ⟨p, 1, none⟩ = some (.slice (some ⟨gk, 0, none⟩) N ck) := (blk_cell hp 1).trans rfl
  have hck : W.cell? ⟨gk, j, none⟩ = some (.int .u64 kv) := (h.rk.cell j hj).trans (by rw [hk.out])
  have hi0 : (0 : Int) ≤ (j : Int) := by omega
  have hi1 : (j : Int) < (N : Int) := by omega
  have RG0 := Aside0.mk h
  have HD := Aside0.mk hD
  clear h hp hD
  go_enter Try.func36, Try.ntmps36
  go_upto_region 3 with fail
  obtain ⟨bv, hbv⟩ : ∃ bv, bv = W.heap.size + 1 := ⟨_, rfl⟩
  have HLS := Aside0.mk (lst_start W kv)
  have HBS := Aside0.mk (below_start W kv)
  rw [← hbv] at HLS ⊢
  obtain ⟨wx, hwx⟩ : ∃ wx, wx = ((W.alloc (.cells #[.int .u64 kv] 36)).alloc (.cells #[.slice (some ⟨W.heap.size, 0, none⟩) 1 1] 64)) := ⟨_, rfl⟩
  rw [← hwx] at HLS HBS ⊢
  have HL := HLS
  have RG := Aside0.mk (RG0.out.below HBS.out)
  have h0x : W.heap.size ≤ bv := by omega
  obtain ⟨hlp, hls, hlk, hlb⟩ := RG0.out.lt
  have HLT : Aside0 (p < bv ∧ gs < bv ∧ gk < bv ∧ bm < bv) := Aside0.mk (by omega)
  clear HLS HBS hwx hck h1
  refine start_ (n := 13) (S := fun w' => True) (ds := []) #[false, false, false, false, false, false, false, false, false, false, false, false, false] (by kernel_rfl) rfl rfl trivial (fun hHeld => ?_)
  refine with_tabW wf.tab3 wf.bits3 (fun HT_ HW_ => ?_)
  refine inv_at [0, 1, 2, 3, 4, 5, 6, 7, 8, 9, 10, 11, 12] (fun a0_ b a w' => ∃ (c : Note8) (g7 : Nat) (m6_ : Value) (m7_ : Value) (m8_ : Value) (m10_ : Value), a = putSel a0_ b [(0, 19, .pointer (some ⟨p, 0, none⟩)), (1, 20, .pointer (some ⟨p, 0, none⟩)), (2, 21, .pointer (some ⟨p, 2, none⟩)), (3, 22, .map (some bm)), (4, 23, .int .i64 (j : Int)), (5, 24, .int .i64 (i : Int)), (6, 25, m6_), (7, 18, m7_), (8, 26, m8_), (9, 27, .bool false), (10, 7, m10_), (12, 8, .bool false)] ∧ (Lst W w' bv [kv]) ∧ (Rg w' p gs gk bm N cs ck n SS KK D) ∧ (b 10 = true → b 11 = false → w'.heap[g7]? = some (.cells #[.int .u64 0, .int .u64 0, .int .u64 0, .int .u64 0, .int .u64 0, .int .u64 0, .int .u64 0, .int .u64 0] 70 (0, 0))) ∧ (b 11 = true → w'.heap[g7]? = some (.cells #[.int .u64 c.y0, .int .u64 c.y1, .int .u64 c.y2, .int .u64 c.y3, .int .u64 c.y4, .int .u64 c.y5, .int .u64 c.y6, .int .u64 c.y7] 70 (0, 0))) ∧ (b 6 = true → (has D (key i) = true → ∃ y, noteR c.val = some y ∧ ∀ zd, D.atKey (key i) zd = y.1)) ∧ (b 10 = true → bv < g7 ∧ rowBelow w' bv g7) ∧ (b 6 = true → (m6_ : Value) = .tuple #[.agg #[.int .u64 c.y0, .int .u64 c.y1, .int .u64 c.y2, .int .u64 c.y3, .int .u64 c.y4, .int .u64 c.y5, .int .u64 c.y6, .int .u64 c.y7], .bool false]) ∧ (b 7 = true → (m7_ : Value) = .tuple #[.agg #[.int .u64 c.y0, .int .u64 c.y1, .int .u64 c.y2, .int .u64 c.y3, .int .u64 c.y4, .int .u64 c.y5, .int .u64 c.y6, .int .u64 c.y7], .bool false]) ∧ (b 8 = true → (m8_ : Value) = .agg #[.int .u64 c.y0, .int .u64 c.y1, .int .u64 c.y2, .int .u64 c.y3, .int .u64 c.y4, .int .u64 c.y5, .int .u64 c.y6, .int .u64 c.y7]) ∧ (b 10 = true → (m10_ : Value) = .pointer (some ⟨g7, 0, none⟩))) HT_.out HW_.out (by kernel_rfl) (by kernel_rfl) ?_ ?_ ?_
  · exact ⟨⟨0, 0, 0, 0, 0, 0, 0, 0⟩, 0, .bool false, .bool false, .bool false, .bool false, by simp only [putSel, Bool.false_eq_true, if_false], (HL.out.drewN 1), (RG.out.drewN 1), fun h_ => absurd h_ (by decide), fun h_ => absurd h_ (by decide), fun h_ => absurd h_ (by decide), fun h_ => absurd h_ (by decide), fun h_ => absurd h_ (by decide), fun h_ => absurd h_ (by decide), fun h_ => absurd h_ (by decide), fun h_ => absurd h_ (by decide)⟩
  · skip
    clear HL RG
    refine steps_cons ?_ ?_
    · rintro b a w' ⟨c, g7, m6_, m7_, m8_, m10_, ha, Q_HL, Q_RG, Q_BA, Q_BB, Q_CF, Q_GE, Q_X6_, Q_X7_, Q_X8_, Q_X10_⟩ hb_ hon hoff
      refine ⟨_, rfl, fun K hK => ?_⟩
      have e0 : a.tmps[0]? = some (.pointer (some ⟨p, 0, none⟩)) := by rw [ha]; exact (putSel_off rfl).trans rfl
      replace ha := Aside0.mk ha
      have HL := Aside0.mk Q_HL
      have RG := Aside0.mk Q_RG
      refine value_ (w1 := w') (v := .pointer (some ⟨p, 0, none⟩)) (by rfl) rfl ?_ ?_
      · go_simp
        (try simp only [i64_w])
        try rfl
      refine hK.out _ _ ⟨c, g7, m6_, m7_, m8_, m10_, (by rw [ha.out]; exact putSel_upk 0 hb_ rfl rfl rfl), Q_HL, Q_RG, Q_BA, fun h0_ => absurd ((hoff 11 (by kernel_rfl)).symm.trans h0_) (by decide), fun h0_ => absurd ((hoff 6 (by kernel_rfl)).symm.trans h0_) (by decide), Q_GE, fun h0_ => absurd ((hoff 6 (by kernel_rfl)).symm.trans h0_) (by decide), fun h0_ => absurd ((hoff 7 (by kernel_rfl)).symm.trans h0_) (by decide), fun h0_ => absurd ((hoff 8 (by kernel_rfl)).symm.trans h0_) (by decide), Q_X10_⟩
    refine steps_cons ?_ ?_
    · rintro b a w' ⟨c, g7, m6_, m7_, m8_, m10_, ha, Q_HL, Q_RG, Q_BA, Q_BB, Q_CF, Q_GE, Q_X6_, Q_X7_, Q_X8_, Q_X10_⟩ hb_ hon hoff
      refine ⟨_, rfl, fun K hK => ?_⟩
      have e19 : a.tmps[19]? = some (.pointer (some ⟨p, 0, none⟩)) := by rw [ha]; exact putSel_on (e := (0, 19, .pointer (some ⟨p, 0, none⟩))) 0 rfl rfl (hon 0 (by kernel_rfl)) rfl
      replace ha := Aside0.mk ha
      have HL := Aside0.mk Q_HL
      have RG := Aside0.mk Q_RG
      refine value_ (w1 := w') (v := .pointer (some ⟨p, 0, none⟩)) (by rfl) rfl ?_ ?_
      · go_simp
        (try simp only [i64_w])
        try rfl
      refine hK.out _ _ ⟨c, g7, m6_, m7_, m8_, m10_, (by rw [ha.out]; exact putSel_upk 1 hb_ rfl rfl rfl), Q_HL, Q_RG, Q_BA, fun h0_ => absurd ((hoff 11 (by kernel_rfl)).symm.trans h0_) (by decide), fun h0_ => absurd ((hoff 6 (by kernel_rfl)).symm.trans h0_) (by decide), Q_GE, fun h0_ => absurd ((hoff 6 (by kernel_rfl)).symm.trans h0_) (by decide), fun h0_ => absurd ((hoff 7 (by kernel_rfl)).symm.trans h0_) (by decide), fun h0_ => absurd ((hoff 8 (by kernel_rfl)).symm.trans h0_) (by decide), Q_X10_⟩
    refine steps_cons ?_ ?_
    · rintro b a w' ⟨c, g7, m6_, m7_, m8_, m10_, ha, Q_HL, Q_RG, Q_BA, Q_BB, Q_CF, Q_GE, Q_X6_, Q_X7_, Q_X8_, Q_X10_⟩ hb_ hon hoff
      refine ⟨_, rfl, fun K hK => ?_⟩
      have e20 : a.tmps[20]? = some (.pointer (some ⟨p, 0, none⟩)) := by rw [ha]; exact putSel_on (e := (1, 20, .pointer (some ⟨p, 0, none⟩))) 1 rfl rfl (hon 1 (by kernel_rfl)) rfl
      replace ha := Aside0.mk ha
      have HL := Aside0.mk Q_HL
      have RG := Aside0.mk Q_RG
      refine value_ (w1 := w') (v := .pointer (some ⟨p, 2, none⟩)) (by rfl) rfl ?_ ?_
      · go_simp
        (try simp only [i64_w])
        try rfl
      refine hK.out _ _ ⟨c, g7, m6_, m7_, m8_, m10_, (by rw [ha.out]; exact putSel_upk 2 hb_ rfl rfl rfl), Q_HL, Q_RG, Q_BA, fun h0_ => absurd ((hoff 11 (by kernel_rfl)).symm.trans h0_) (by decide), fun h0_ => absurd ((hoff 6 (by kernel_rfl)).symm.trans h0_) (by decide), Q_GE, fun h0_ => absurd ((hoff 6 (by kernel_rfl)).symm.trans h0_) (by decide), fun h0_ => absurd ((hoff 7 (by kernel_rfl)).symm.trans h0_) (by decide), fun h0_ => absurd ((hoff 8 (by kernel_rfl)).symm.trans h0_) (by decide), Q_X10_⟩
    refine steps_cons ?_ ?_
    · rintro b a w' ⟨c, g7, m6_, m7_, m8_, m10_, ha, Q_HL, Q_RG, Q_BA, Q_BB, Q_CF, Q_GE, Q_X6_, Q_X7_, Q_X8_, Q_X10_⟩ hb_ hon hoff
      refine ⟨_, rfl, fun K hK => ?_⟩
      have e21 : a.tmps[21]? = some (.pointer (some ⟨p, 2, none⟩)) := by rw [ha]; exact putSel_on (e := (2, 21, .pointer (some ⟨p, 2, none⟩))) 2 rfl rfl (hon 2 (by kernel_rfl)) rfl
      replace ha := Aside0.mk ha
      have HL := Aside0.mk Q_HL
      have RG := Aside0.mk Q_RG
      have hcm : w'.cell? ⟨p, 2, none⟩ = some (.map (some bm)) := RG.out.mapcell
      refine value_ (w1 := w') (v := .map (some bm)) (by rfl) rfl ?_ ?_
      · go_simp
        (try simp only [i64_w])
        try rfl
      refine hK.out _ _ ⟨c, g7, m6_, m7_, m8_, m10_, (by rw [ha.out]; exact putSel_upk 3 hb_ rfl rfl rfl), Q_HL, Q_RG, Q_BA, fun h0_ => absurd ((hoff 11 (by kernel_rfl)).symm.trans h0_) (by decide), fun h0_ => absurd ((hoff 6 (by kernel_rfl)).symm.trans h0_) (by decide), Q_GE, fun h0_ => absurd ((hoff 6 (by kernel_rfl)).symm.trans h0_) (by decide), fun h0_ => absurd ((hoff 7 (by kernel_rfl)).symm.trans h0_) (by decide), fun h0_ => absurd ((hoff 8 (by kernel_rfl)).symm.trans h0_) (by decide), Q_X10_⟩
    refine steps_cons ?_ ?_
    · rintro b a w' ⟨c, g7, m6_, m7_, m8_, m10_, ha, Q_HL, Q_RG, Q_BA, Q_BB, Q_CF, Q_GE, Q_X6_, Q_X7_, Q_X8_, Q_X10_⟩ hb_ hon hoff
      refine ⟨_, rfl, fun K hK => ?_⟩
      have e1 : a.tmps[1]? = some (.int .i64 (j : Int)) := by rw [ha]; exact (putSel_off rfl).trans rfl
      replace ha := Aside0.mk ha
      have HL := Aside0.mk Q_HL
      have RG := Aside0.mk Q_RG
      refine value_ (w1 := w') (v := .int .i64 (j : Int)) (by rfl) rfl ?_ ?_
      · go_simp
        (try simp only [i64_w])
        try rfl
      refine hK.out _ _ ⟨c, g7, m6_, m7_, m8_, m10_, (by rw [ha.out]; exact putSel_upk 4 hb_ rfl rfl rfl), Q_HL, Q_RG, Q_BA, fun h0_ => absurd ((hoff 11 (by kernel_rfl)).symm.trans h0_) (by decide), fun h0_ => absurd ((hoff 6 (by kernel_rfl)).symm.trans h0_) (by decide), Q_GE, fun h0_ => absurd ((hoff 6 (by kernel_rfl)).symm.trans h0_) (by decide), fun h0_ => absurd ((hoff 7 (by kernel_rfl)).symm.trans h0_) (by decide), fun h0_ => absurd ((hoff 8 (by kernel_rfl)).symm.trans h0_) (by decide), Q_X10_⟩
    refine steps_cons ?_ ?_
    · rintro b a w' ⟨c, g7, m6_, m7_, m8_, m10_, ha, Q_HL, Q_RG, Q_BA, Q_BB, Q_CF, Q_GE, Q_X6_, Q_X7_, Q_X8_, Q_X10_⟩ hb_ hon hoff
      refine ⟨_, rfl, fun K hK => ?_⟩
      have e23 : a.tmps[23]? = some (.int .i64 (j : Int)) := by rw [ha]; exact putSel_on (e := (4, 23, .int .i64 (j : Int))) 4 rfl rfl (hon 4 (by kernel_rfl)) rfl
      replace ha := Aside0.mk ha
      have HL := Aside0.mk Q_HL
      have RG := Aside0.mk Q_RG
      refine goes_ Try.func33 (by kernel_rfl) rfl #[.int .i64 (j : Int)] (by rfl) rfl rfl (by first | (simp only [List.map_toArray, List.map_cons, List.map_nil, Act.eval, Array.getD_eq_getD_getElem?, Option.getD_some, e23]; done) | (simp only [List.map_toArray, List.map_cons, List.map_nil, Act.eval, Array.getD_eq_getD_getElem?, Option.getD_some, e23]; rfl)) ?_
      with_reducible refine (line_at (j : Int) i HLN.out hj64 _).mono ?_
      rintro e w3 ⟨rfl, hb⟩
      refine ⟨_, rfl, ?_⟩
      refine hK.out _ _ ⟨c, g7, m6_, m7_, m8_, m10_, (by rw [ha.out]; exact putSel_upk 5 hb_ rfl rfl rfl), (HL.out.below hb), (RG.out.below hb), fun h0_ h1_ => (blk_below (Q_BA h0_ h1_) hb), fun h0_ => absurd ((hoff 11 (by kernel_rfl)).symm.trans h0_) (by decide), fun h0_ => absurd ((hoff 6 (by kernel_rfl)).symm.trans h0_) (by decide), fun h0_ => ⟨(Q_GE h0_).1, rowBelow_below (Q_GE h0_).2 HL.out.lt hb⟩, fun h0_ => absurd ((hoff 6 (by kernel_rfl)).symm.trans h0_) (by decide), fun h0_ => absurd ((hoff 7 (by kernel_rfl)).symm.trans h0_) (by decide), fun h0_ => absurd ((hoff 8 (by kernel_rfl)).symm.trans h0_) (by decide), Q_X10_⟩
    refine steps_cons ?_ ?_
    · rintro b a w' ⟨c, g7, m6_, m7_, m8_, m10_, ha, Q_HL, Q_RG, Q_BA, Q_BB, Q_CF, Q_GE, Q_X6_, Q_X7_, Q_X8_, Q_X10_⟩ hb_ hon hoff
      refine ⟨_, rfl, fun K hK => ?_⟩
      have e22 : a.tmps[22]? = some (.map (some bm)) := by rw [ha]; exact putSel_on (e := (3, 22, .map (some bm))) 3 rfl rfl (hon 3 (by kernel_rfl)) rfl
      have e24 : a.tmps[24]? = some (.int .i64 (i : Int)) := by rw [ha]; exact putSel_on (e := (5, 24, .int .i64 (i : Int))) 5 rfl rfl (hon 5 (by kernel_rfl)) rfl
      replace ha := Aside0.mk ha
      have HL := Aside0.mk Q_HL
      have RG := Aside0.mk Q_RG
      obtain ⟨c9, hrun9, hc9⟩ := look_note RG.out.mp i (by omega)
      rw [HD.out] at hrun9
      have hcv9 : c9.val = .agg #[.int .u64 c9.y0, .int .u64 c9.y1, .int .u64 c9.y2, .int .u64 c9.y3, .int .u64 c9.y4, .int .u64 c9.y5, .int .u64 c9.y6, .int .u64 c9.y7] := rfl
      rw [hcv9] at hrun9
      clear hcv9
      refine value_ (w1 := w') (v := .tuple #[.agg #[.int .u64 c9.y0, .int .u64 c9.y1, .int .u64 c9.y2, .int .u64 c9.y3, .int .u64 c9.y4, .int .u64 c9.y5, .int .u64 c9.y6, .int .u64 c9.y7], .bool false]) (by rfl) rfl ?_ ?_
      · simp [execOp, Act.eval, hrun9, Result.andThen, e22, e24]
      refine hK.out _ _ ⟨c9, g7, (.tuple #[.agg #[.int .u64 c9.y0, .int .u64 c9.y1, .int .u64 c9.y2, .int .u64 c9.y3, .int .u64 c9.y4, .int .u64 c9.y5, .int .u64 c9.y6, .int .u64 c9.y7], .bool false]), m7_, m8_, m10_, (by rw [ha.out]; exact putSel_upk 6 hb_ rfl rfl rfl), HL.out, RG.out, fun h0_ h1_ => (Q_BA h0_ h1_), fun h0_ => absurd ((hoff 11 (by kernel_rfl)).symm.trans h0_) (by decide), fun _ => hc9, fun h0_ => (Q_GE h0_), fun _ => rfl, fun h0_ => absurd ((hoff 7 (by kernel_rfl)).symm.trans h0_) (by decide), fun h0_ => absurd ((hoff 8 (by kernel_rfl)).symm.trans h0_) (by decide), Q_X10_⟩
    refine steps_cons ?_ ?_
    · rintro b a w' ⟨c, g7, m6_, m7_, m8_, m10_, ha, Q_HL, Q_RG, Q_BA, Q_BB, Q_CF, Q_GE, Q_X6_, Q_X7_, Q_X8_, Q_X10_⟩ hb_ hon hoff
      refine ⟨_, rfl, fun K hK => ?_⟩
      have e25 : a.tmps[25]? = some (m6_) := by rw [ha]; exact putSel_on (e := (6, 25, m6_)) 6 rfl rfl (hon 6 (by kernel_rfl)) rfl
      rw [Q_X6_ (hon 6 (by kernel_rfl))] at e25
      replace ha := Aside0.mk ha
      have HL := Aside0.mk Q_HL
      have RG := Aside0.mk Q_RG
      have CF := Aside0.mk (Q_CF (hon 6 (by kernel_rfl)))
      refine value_ (w1 := w') (v := .tuple #[.agg #[.int .u64 c.y0, .int .u64 c.y1, .int .u64 c.y2, .int .u64 c.y3, .int .u64 c.y4, .int .u64 c.y5, .int .u64 c.y6, .int .u64 c.y7], .bool false]) (by rfl) rfl ?_ ?_
      · go_simp
        (try simp only [i64_w])
        try rfl
      refine hK.out _ _ ⟨c, g7, m6_, (.tuple #[.agg #[.int .u64 c.y0, .int .u64 c.y1, .int .u64 c.y2, .int .u64 c.y3, .int .u64 c.y4, .int .u64 c.y5, .int .u64 c.y6, .int .u64 c.y7], .bool false]), m8_, m10_, (by rw [ha.out]; exact putSel_upk 7 hb_ rfl rfl rfl), Q_HL, Q_RG, Q_BA, fun h0_ => absurd ((hoff 11 (by kernel_rfl)).symm.trans h0_) (by decide), Q_CF, Q_GE, Q_X6_, fun _ => rfl, fun h0_ => absurd ((hoff 8 (by kernel_rfl)).symm.trans h0_) (by decide), Q_X10_⟩
    refine steps_cons ?_ ?_
    · rintro b a w' ⟨c, g7, m6_, m7_, m8_, m10_, ha, Q_HL, Q_RG, Q_BA, Q_BB, Q_CF, Q_GE, Q_X6_, Q_X7_, Q_X8_, Q_X10_⟩ hb_ hon hoff
      refine ⟨_, rfl, fun K hK => ?_⟩
      have e18 : a.tmps[18]? = some (m7_) := by rw [ha]; exact putSel_on (e := (7, 18, m7_)) 7 rfl rfl (hon 7 (by kernel_rfl)) rfl
      rw [Q_X7_ (hon 7 (by kernel_rfl))] at e18
      replace ha := Aside0.mk ha
      have HL := Aside0.mk Q_HL
      have RG := Aside0.mk Q_RG
      have CF := Aside0.mk (Q_CF (hon 6 (by kernel_rfl)))
      refine value_ (w1 := w') (v := .agg #[.int .u64 c.y0, .int .u64 c.y1, .int .u64 c.y2, .int .u64 c.y3, .int .u64 c.y4, .int .u64 c.y5, .int .u64 c.y6, .int .u64 c.y7]) (by rfl) rfl ?_ ?_
      · go_simp
        (try simp only [i64_w])
        try rfl
      refine hK.out _ _ ⟨c, g7, m6_, m7_, (.agg #[.int .u64 c.y0, .int .u64 c.y1, .int .u64 c.y2, .int .u64 c.y3, .int .u64 c.y4, .int .u64 c.y5, .int .u64 c.y6, .int .u64 c.y7]), m10_, (by rw [ha.out]; exact putSel_upk 8 hb_ rfl rfl rfl), Q_HL, Q_RG, Q_BA, fun h0_ => absurd ((hoff 11 (by kernel_rfl)).symm.trans h0_) (by decide), Q_CF, Q_GE, Q_X6_, Q_X7_, fun _ => rfl, Q_X10_⟩
    refine steps_cons ?_ ?_
    · rintro b a w' ⟨c, g7, m6_, m7_, m8_, m10_, ha, Q_HL, Q_RG, Q_BA, Q_BB, Q_CF, Q_GE, Q_X6_, Q_X7_, Q_X8_, Q_X10_⟩ hb_ hon hoff
      refine ⟨_, rfl, fun K hK => ?_⟩
      have e18 : a.tmps[18]? = some (m7_) := by rw [ha]; exact putSel_on (e := (7, 18, m7_)) 7 rfl rfl (hon 7 (by kernel_rfl)) rfl
      rw [Q_X7_ (hon 7 (by kernel_rfl))] at e18
      replace ha := Aside0.mk ha
      have HL := Aside0.mk Q_HL
      have RG := Aside0.mk Q_RG
      have CF := Aside0.mk (Q_CF (hon 6 (by kernel_rfl)))
      refine value_ (w1 := w') (v := .bool false) (by rfl) rfl ?_ ?_
      · go_simp
        (try simp only [i64_w])
        try rfl
      refine hK.out _ _ ⟨c, g7, m6_, m7_, m8_, m10_, (by rw [ha.out]; exact putSel_upk 9 hb_ rfl rfl rfl), Q_HL, Q_RG, Q_BA, Q_BB, Q_CF, Q_GE, Q_X6_, Q_X7_, Q_X8_, Q_X10_⟩
    refine steps_cons ?_ ?_
    · rintro b a w' ⟨c, g7, m6_, m7_, m8_, m10_, ha, Q_HL, Q_RG, Q_BA, Q_BB, Q_CF, Q_GE, Q_X6_, Q_X7_, Q_X8_, Q_X10_⟩ hb_ hon hoff
      refine ⟨_, rfl, fun K hK => ?_⟩
      replace ha := Aside0.mk ha
      have HL := Aside0.mk Q_HL
      have RG := Aside0.mk Q_RG
      refine value_ (w1 := ?_) (v := ?_) (by rfl) rfl ?_ ?_
      rotate_left 2
      · go_simp
        constructor
        · rfl
        · rfl
      have hb := below_alloc (Below.refl w'.heap.size w') (.cells #[.int .u64 0, .int .u64 0, .int .u64 0, .int .u64 0, .int .u64 0, .int .u64 0, .int .u64 0, .int .u64 0] 70)
      refine hK.out _ _ ⟨c, w'.heap.size, m6_, m7_, m8_, (.pointer (some ⟨w'.heap.size, 0, none⟩)), (by rw [ha.out]; exact putSel_upk 10 hb_ rfl rfl rfl), (HL.out.below hb), (RG.out.below hb), fun _ _ => (blk_new w' _), fun h0_ => absurd ((hoff 11 (by kernel_rfl)).symm.trans h0_) (by decide), fun h0_ => (Q_CF h0_), fun _ => (rowBelow_new HL.out _), Q_X6_, Q_X7_, Q_X8_, fun _ => rfl⟩
    refine steps_cons ?_ ?_
    · rintro b a w' ⟨c, g7, m6_, m7_, m8_, m10_, ha, Q_HL, Q_RG, Q_BA, Q_BB, Q_CF, Q_GE, Q_X6_, Q_X7_, Q_X8_, Q_X10_⟩ hb_ hon hoff
      refine ⟨_, rfl, fun K hK => ?_⟩
      have e7 : a.tmps[7]? = some (m10_) := by rw [ha]; exact putSel_on (e := (10, 7, m10_)) 10 rfl rfl (hon 10 (by kernel_rfl)) rfl
      rw [Q_X10_ (hon 10 (by kernel_rfl))] at e7
      have e26 : a.tmps[26]? = some (m8_) := by rw [ha]; exact putSel_on (e := (8, 26, m8_)) 8 rfl rfl (hon 8 (by kernel_rfl)) rfl
      rw [Q_X8_ (hon 8 (by kernel_rfl))] at e26
      replace ha := Aside0.mk ha
      have HL := Aside0.mk Q_HL
      have RG := Aside0.mk Q_RG
      have BA := Aside0.mk (Q_BA (hon 10 (by kernel_rfl)) hb_)
      have CF := Aside0.mk (Q_CF (hon 6 (by kernel_rfl)))
      have GE := Aside0.mk (Q_GE (hon 10 (by kernel_rfl)))
      have hq7 : ∀ q, q < 8 → w'.cell? ⟨g7, q, none⟩ = some (.int .u64 0) := fun q hq => (blk_cell BA.out q).trans (zeros8 q hq)
      have hf7 : ∀ q, w'.frozen? ⟨g7, q, none⟩ = false := fun q => blk_frozen BA.out q
      have hq7_0 := hq7 0 (by decide)
      have hq7_1 := hq7 1 (by decide)
      have hq7_2 := hq7 2 (by decide)
      have hq7_3 := hq7 3 (by decide)
      have hq7_4 := hq7 4 (by decide)
      have hq7_5 := hq7 5 (by decide)
      have hq7_6 := hq7 6 (by decide)
      have hq7_7 := hq7 7 (by decide)
      have hf7_0 := hf7 0
      have hf7_1 := hf7 1
      have hf7_2 := hf7 2
      have hf7_3 := hf7 3
      have hf7_4 := hf7 4
      have hf7_5 := hf7 5
      have hf7_6 := hf7 6
      have hf7_7 := hf7 7
      clear hq7 hf7
      refine skip_ (w1 := ?_) (by rfl) rfl ?_ ?_
      rotate_left
      · go_simp
        rfl
      refine hK.out _ _ ⟨c, g7, m6_, m7_, m8_, m10_, (by rw [ha.out]; exact putSel_none (v := undef) rfl), (HL.out.set8 GE.out.1 GE.out.2 _ _ _ _ _ _ _ _), (RG.out.set8 ⟨by have := HL.out.bv0; have := GE.out.1; omega, by have := HL.out.bv0; have := GE.out.1; omega, by have := HL.out.bv0; have := GE.out.1; omega, by have := HL.out.bv0; have := GE.out.1; omega⟩ _ _ _ _ _ _ _ _), fun _ h1_ => absurd ((up_self b 11).symm.trans h1_) (by decide), fun _ => (by (with_reducible repeat (first | refine blk_drewN ?_ _ | refine blk_drew ?_ | refine blk_alloc ?_ _)); refine blk_put (cs := #[.int .u64 c.y0, .int .u64 c.y1, .int .u64 c.y2, .int .u64 c.y3, .int .u64 c.y4, .int .u64 c.y5, .int .u64 c.y6, .int .u64 0]) ?_ 7 _ rfl; (with_reducible repeat (first | refine blk_drewN ?_ _ | refine blk_drew ?_ | refine blk_alloc ?_ _)); refine blk_put (cs := #[.int .u64 c.y0, .int .u64 c.y1, .int .u64 c.y2, .int .u64 c.y3, .int .u64 c.y4, .int .u64 c.y5, .int .u64 0, .int .u64 0]) ?_ 6 _ rfl; (with_reducible repeat (first | refine blk_drewN ?_ _ | refine blk_drew ?_ | refine blk_alloc ?_ _)); refine blk_put (cs := #[.int .u64 c.y0, .int .u64 c.y1, .int .u64 c.y2, .int .u64 c.y3, .int .u64 c.y4, .int .u64 0, .int .u64 0, .int .u64 0]) ?_ 5 _ rfl; (with_reducible repeat (first | refine blk_drewN ?_ _ | refine blk_drew ?_ | refine blk_alloc ?_ _)); refine blk_put (cs := #[.int .u64 c.y0, .int .u64 c.y1, .int .u64 c.y2, .int .u64 c.y3, .int .u64 0, .int .u64 0, .int .u64 0, .int .u64 0]) ?_ 4 _ rfl; (with_reducible repeat (first | refine blk_drewN ?_ _ | refine blk_drew ?_ | refine blk_alloc ?_ _)); refine blk_put (cs := #[.int .u64 c.y0, .int .u64 c.y1, .int .u64 c.y2, .int .u64 0, .int .u64 0, .int .u64 0, .int .u64 0, .int .u64 0]) ?_ 3 _ rfl; (with_reducible repeat (first | refine blk_drewN ?_ _ | refine blk_drew ?_ | refine blk_alloc ?_ _)); refine blk_put (cs := #[.int .u64 c.y0, .int .u64 c.y1, .int .u64 0, .int .u64 0, .int .u64 0, .int .u64 0, .int .u64 0, .int .u64 0]) ?_ 2 _ rfl; (with_reducible repeat (first | refine blk_drewN ?_ _ | refine blk_drew ?_ | refine blk_alloc ?_ _)); refine blk_put (cs := #[.int .u64 c.y0, .int .u64 0, .int .u64 0, .int .u64 0, .int .u64 0, .int .u64 0, .int .u64 0, .int .u64 0]) ?_ 1 _ rfl; (with_reducible repeat (first | refine blk_drewN ?_ _ | refine blk_drew ?_ | refine blk_alloc ?_ _)); refine blk_put (cs := #[.int .u64 0, .int .u64 0, .int .u64 0, .int .u64 0, .int .u64 0, .int .u64 0, .int .u64 0, .int .u64 0]) ?_ 0 _ rfl; (with_reducible repeat (first | refine blk_drewN ?_ _ | refine blk_drew ?_ | refine blk_alloc ?_ _)); exact BA.out), fun _ => CF.out, fun _ => ⟨GE.out.1, rowBelow_set8 GE.out.2 GE.out.1 _ _ _ _ _ _ _ _⟩, Q_X6_, Q_X7_, Q_X8_, Q_X10_⟩
    refine steps_cons ?_ ?_
    · rintro b a w' ⟨c, g7, m6_, m7_, m8_, m10_, ha, Q_HL, Q_RG, Q_BA, Q_BB, Q_CF, Q_GE, Q_X6_, Q_X7_, Q_X8_, Q_X10_⟩ hb_ hon hoff
      refine ⟨_, rfl, fun K hK => ?_⟩
      have e27 : a.tmps[27]? = some (.bool false) := by rw [ha]; exact putSel_on (e := (9, 27, .bool false)) 9 rfl rfl (hon 9 (by kernel_rfl)) rfl
      replace ha := Aside0.mk ha
      have HL := Aside0.mk Q_HL
      have RG := Aside0.mk Q_RG
      have BB := Aside0.mk (Q_BB (hon 11 (by kernel_rfl)))
      have CF := Aside0.mk (Q_CF (hon 6 (by kernel_rfl)))
      have GE := Aside0.mk (Q_GE (hon 10 (by kernel_rfl)))
      refine value_ (w1 := w') (v := .bool false) (by rfl) rfl ?_ ?_
      · go_simp
        (try simp only [i64_w])
        try rfl
      refine hK.out _ _ ⟨c, g7, m6_, m7_, m8_, m10_, (by rw [ha.out]; exact putSel_upk 11 hb_ rfl rfl rfl), Q_HL, Q_RG, fun _ h1_ => absurd ((hon 11 (by kernel_rfl)).symm.trans h1_) (by decide), Q_BB, Q_CF, Q_GE, Q_X6_, Q_X7_, Q_X8_, Q_X10_⟩
    exact steps_nil
  rintro b a wz hall ⟨c, g7, m6_, m7_, m8_, m10_, ha, Q_HL, Q_RG, Q_BA, Q_BB, Q_CF, Q_GE, Q_X6_, Q_X7_, Q_X8_, Q_X10_⟩
  clear HL RG
  have hb0_ := hall 0 (by kernel_rfl)
  have hb1_ := hall 1 (by kernel_rfl)
  have hb2_ := hall 2 (by kernel_rfl)
  have hb3_ := hall 3 (by kernel_rfl)
  have hb4_ := hall 4 (by kernel_rfl)
  have hb5_ := hall 5 (by kernel_rfl)
  have hb6_ := hall 6 (by kernel_rfl)
  have hb7_ := hall 7 (by kernel_rfl)
  have hb8_ := hall 8 (by kernel_rfl)
  have hb9_ := hall 9 (by kernel_rfl)
  have hb10_ := hall 10 (by kernel_rfl)
  have hb11_ := hall 11 (by kernel_rfl)
  have hb12_ := hall 12 (by kernel_rfl)
  subst ha
  obtain rfl := Q_X6_ hb6_
  obtain rfl := Q_X7_ hb7_
  obtain rfl := Q_X8_ hb8_
  obtain rfl := Q_X10_ hb10_
  simp only [putSel, hb0_, hb1_, hb2_, hb3_, hb4_, hb5_, hb6_, hb7_, hb8_, hb9_, hb10_, hb11_, hb12_, if_true, Act.put, List.setIfInBounds_toArray, List.set_cons_zero, List.set_cons_succ]
  have HL := Aside0.mk Q_HL
  clear Q_HL
  have RG := Aside0.mk Q_RG
  clear Q_RG
  clear Q_BA
  have BB := Aside0.mk (Q_BB hb11_)
  clear Q_BB
  have CF := Aside0.mk (Q_CF hb6_)
  clear Q_CF
  have GE := Aside0.mk (Q_GE hb10_)
  clear Q_GE
  clear hall hb0_ hb1_ hb2_ hb3_ hb4_ hb5_ hb6_ hb7_ hb8_ hb9_ hb10_ hb11_ hb12_
  obtain ⟨sn, hpn⟩ := RG.out.tp
  have hrs := (RG.out.rs.cell j hj).trans (by rw [hs.out])
  have hsc := (blk_cell hpn 0)
  rw [show (#[Value.slice (some ⟨gs, 0, none⟩) N cs, Value.slice (some ⟨gk, 0, none⟩) N ck, Value.map (some bm), Value.int .i64 sn])[0]? = some (.slice (some ⟨gs, 0, none⟩) N cs) from rfl] at hsc
  clear hpn
  clear CF BB GE
  subst hbv
  go_wp2_with (first | (go_at_call 43; refine (add_calls W _ (W.heap.size + 1) [kv] HL.out (by simp) sv).mono ?_; rintro e w' ⟨⟨v, rfl⟩, hL⟩; obtain ⟨vr, hvr, hR⟩ := hL.row; have hcr := (blk_cell hvr 0); rw [show (#[vr])[0]? = some vr from rfl] at hcr) | fail)
  go_ret
  exact ⟨vr, rfl, ⟨fun _ _ => trivial, hR.2⟩, hL.hb⟩
theorem ways_calls (W : World) {p gs gk bm N cs ck n : Nat} {SS KK : List Int} {D : DataW Unit} (h : Rg W p gs gk bm N cs ck n SS KK D) (j : Nat) (hj : j < N) (hN : N ≤ 64) (hN8 : N % 8 = 0) :
    Calls Try.prog 36 #[.pointer (some ⟨p, 0, none⟩), .int .i64 (j : Int)] W fun e w' => ∃ v, e = .returned v ∧ Kd.R (Kd.int .u64) 36 w' W.heap.size (fun _ => True) v (waysL SS KK D j) ∧ Below W.heap.size W w' := by
  have hL : (j : Int) - (j : Int) % 8 = ((j - j % 8 : Nat) : Int) := by omega
  by_cases hD : has D (key (j - j % 8)) = true
  · have hp : pendAt D j = some (wordN (D.atKey (key (j - j % 8)) .nil) (j % 8)) := if_pos hD
    have := ways_t W h j (j - j % 8) hj hN ⟨hL⟩ (by omega) hD _ _ ⟨rfl⟩ ⟨rfl⟩ _ ⟨hp⟩
    unfold waysL
    rw [hp]
    exact this
  · have hp : pendAt D j = none := if_neg hD
    have := ways_f W h j (j - j % 8) hj hN ⟨hL⟩ (by omega) (by simpa using hD) _ _ ⟨rfl⟩ ⟨rfl⟩
    unfold waysL
    rw [hp]
    exact this
end Go.Proofs.Ytpefbnhicfflpaa.Pm
