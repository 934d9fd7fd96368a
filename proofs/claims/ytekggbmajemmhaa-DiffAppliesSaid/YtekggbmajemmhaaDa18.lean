/- Parts of one proof, set together: Ap17, Ap18. What each says stands at its head; no condition beyond theirs. -/
import Derived.Test.YtekggbmajemmhaaDa17
/- The document's Apply: may a change be; its node. Conditions: the state lies in memory. -/
namespace Go.Proofs.Ytekggbmajemmhaa.Gr
open Go.RowKit Go.Shelf Go.Maps Go.ChangeMaps Go.MapKept Go.Proofs.YtekggbmajemmhaaW.PrintWords Go.Proofs.YtekggbmajemmhaaW.PrintLast Go.Proofs.YtekggbmajemmhaaW.PrintMore
set_option linter.unusedSimpArgs false
set_option linter.unusedVariables false
/-- What the piece leaves. -/
def P4Out (wb W : World) (g4 g9 i : Nat) (y vt vn : Value) (R : List Int) (M : List Nd) (at_ : Int) (bh : Nat) (ck ca ci cw cs : Int) (e : Exit) (a : Act) (w : World) : Prop :=
  (e = .normal ∧ w = W ∧ Fr a [(1, y), (4, .pointer (some ⟨g4, 0, none⟩)), (5, .bool false), (6, vt), (7, vn), (8, .int .i64 (i : Int)), (9, .pointer (some ⟨g9, 0, none⟩)), (10, .int .i64 at_), (11, .int .i64 (bh : Int))] ∧ (∃ ix : Nat, idx (adrs M) ca = some ix ∧ at_ = (ix : Int)) ∧ 1 ≤ ck ∧ ck ≤ 5) ∨ (e = .ret ∧ applyP (R, M.map Nd.pn) ⟨ck, ca, ci, cw, cs⟩ = none ∧ RetNo wb g4 a w)
theorem stepP_range {M : List Nd} {c : Ch} (h2 : c.k ≠ 2) (h : c.k < 1 ∨ 5 < c.k) : stepP (M.map Nd.pn) c = none := step_no (by omega) h2 (by omega) (by omega) (by omega)
set_option maxHeartbeats 16000000 in
set_option maxRecDepth 100000 in
theorem p4_wp (wb W : World) (g4 g9 i : Nat) (y vt vn : Value) (R : List Int) (M : List Nd) (at_ : Int) (bh : Nat) (ck ca ci cw cs : Int) (hat : at_ = lastAt (adrs M) ca M.length) (hk2 : ck ≠ 2) (hk4 : ¬ (ck = 4 ∧ ca = 0)) (HS : Aside0 (RS wb W g4 vt vn R M)) (BK9 : Aside0 (W.heap[g9]? = some (.cells #[.int .i64 ck, .int .i64 ca, .int .i64 ci, .int .u64 cw, .int .u64 cs] 44 (0, 0)))) (a : Act) (hf : Fr a [(1, y), (4, .pointer (some ⟨g4, 0, none⟩)), (5, .bool false), (6, vt), (7, vn), (8, .int .i64 (i : Int)), (9, .pointer (some ⟨g9, 0, none⟩)), (10, .int .i64 at_), (11, .int .i64 (bh : Int))]) : Code.wp Try.prog cP4 (P4Out wb W g4 g9 i y vt vn R M at_ bh ck ca ci cw cs) a W := by
  obtain ⟨hf1, hf4, hf5, hf6, hf7, hf8, hf9, hf10, hf11, hd_, hs_⟩ := hf
  obtain ⟨u, hu, ha_⟩ := frame_open a hd_ hs_
  have hv1 := (hu 1).symm.trans hf1
  have hv4 := (hu 4).symm.trans hf4
  have hv5 := (hu 5).symm.trans hf5
  have hv6 := (hu 6).symm.trans hf6
  have hv7 := (hu 7).symm.trans hf7
  have hv8 := (hu 8).symm.trans hf8
  have hv9 := (hu 9).symm.trans hf9
  have hv10 := (hu 10).symm.trans hf10
  have hv11 := (hu 11).symm.trans hf11
  clear hd_ hs_ hu hf1 hf4 hf5 hf6 hf7 hf8 hf9 hf10 hf11
  subst ha_
  simp only [hv1, hv4, hv5, hv6, hv7, hv8, hv9, hv10, hv11]
  clear hv1 hv4 hv5 hv6 hv7 hv8 hv9 hv10 hv11
  have hx9 : W.cell? ⟨g9, 0, none⟩ = some (.int .i64 ck) := (blk_cell BK9.out 0).trans rfl
  have hla := lastAt_is HS.out.rise ca
  rw [show (adrs M).length = M.length by simp [adrs], ← hat] at hla
  have HK2 := Aside0.mk hk2
  have hap := applyP_node (R := R) (M := M.map Nd.pn) (c := (⟨ck, ca, ci, cw, cs⟩ : Ch)) hk4
  cases hidx : idx (adrs M) ca with
  | none =>
    rw [hidx] at hla
    simp only at hla
    have hd : decide (at_ < 0) = true := decide_eq_true (by omega)
    have HNO := Aside0.mk (show applyP (R, M.map Nd.pn) (⟨ck, ca, ci, cw, cs⟩ : Ch) = none by rw [hap, step_none (M := M) hk2 hidx]; rfl)
    clear hla hat hidx hk2 hk4 hap
    have HRES := Aside0.mk HS.out.res
    have HRES4 := Aside0.mk HS.out.res4
    have HRB := Aside0.mk HS.out.hb
    have hx4_0 : W.cell? ⟨g4, 0, none⟩ = some (.slice none 0 0) := (blk_cell HRES.out 0).trans rfl
    have hx4_1 : W.cell? ⟨g4, 1, none⟩ = some (.slice none 0 0) := (blk_cell HRES.out 1).trans rfl
    have hy4_0 := blk_frozen HRES.out 0
    have hy4_1 := blk_frozen HRES.out 1
    conv => arg 2; whnf
    go_wp2
    exact .inr ⟨rfl, HNO.out, ⟨rfl, rfl, rfl, rfl⟩, blk_put (blk_put HRES.out 0 _ rfl) 1 _ rfl, below_set (below_set HRB.out HRES4.out) HRES4.out⟩
  | some ix =>
    rw [hidx] at hla
    simp only at hla
    have hd : decide (at_ < 0) = false := decide_eq_false (by omega)
    by_cases h1 : ck < 1
    · have hd1 : decide (ck < 1) = true := decide_eq_true h1
      have HNO := Aside0.mk (show applyP (R, M.map Nd.pn) (⟨ck, ca, ci, cw, cs⟩ : Ch) = none by rw [hap, stepP_range hk2 (Or.inl h1)]; rfl)
      clear hla hat hidx hk2 hk4 hap
      have HRES := Aside0.mk HS.out.res
      have HRES4 := Aside0.mk HS.out.res4
      have HRB := Aside0.mk HS.out.hb
      have hx4_0 : W.cell? ⟨g4, 0, none⟩ = some (.slice none 0 0) := (blk_cell HRES.out 0).trans rfl
      have hx4_1 : W.cell? ⟨g4, 1, none⟩ = some (.slice none 0 0) := (blk_cell HRES.out 1).trans rfl
      have hy4_0 := blk_frozen HRES.out 0
      have hy4_1 := blk_frozen HRES.out 1
      conv => arg 2; whnf
      go_wp2
      exact .inr ⟨rfl, HNO.out, ⟨rfl, rfl, rfl, rfl⟩, blk_put (blk_put HRES.out 0 _ rfl) 1 _ rfl, below_set (below_set HRB.out HRES4.out) HRES4.out⟩
    · have hd1 : decide (ck < 1) = false := decide_eq_false h1
      by_cases h5 : 5 < ck
      · have hd5 : decide (ck > 5) = true := decide_eq_true h5
        have hd5' : decide (5 < ck) = true := decide_eq_true h5
        have HNO := Aside0.mk (show applyP (R, M.map Nd.pn) (⟨ck, ca, ci, cw, cs⟩ : Ch) = none by rw [hap, stepP_range hk2 (Or.inr h5)]; rfl)
        clear hla hat hidx hk2 hk4 hap
        have HRES := Aside0.mk HS.out.res
        have HRES4 := Aside0.mk HS.out.res4
        have HRB := Aside0.mk HS.out.hb
        have hx4_0 : W.cell? ⟨g4, 0, none⟩ = some (.slice none 0 0) := (blk_cell HRES.out 0).trans rfl
        have hx4_1 : W.cell? ⟨g4, 1, none⟩ = some (.slice none 0 0) := (blk_cell HRES.out 1).trans rfl
        have hy4_0 := blk_frozen HRES.out 0
        have hy4_1 := blk_frozen HRES.out 1
        conv => arg 2; whnf
        go_wp2
        exact .inr ⟨rfl, HNO.out, ⟨rfl, rfl, rfl, rfl⟩, blk_put (blk_put HRES.out 0 _ rfl) 1 _ rfl, below_set (below_set HRB.out HRES4.out) HRES4.out⟩
      · have hd5 : decide (ck > 5) = false := decide_eq_false h5
        have hd5' : decide (5 < ck) = false := decide_eq_false h5
        have HIX := Aside0.mk hidx
        have HLA := Aside0.mk hla
        have H15 := Aside0.mk (show 1 ≤ ck ∧ ck ≤ 5 by omega)
        clear hla hat hidx hk2 hk4 hap
        conv => arg 2; whnf
        go_wp2
        exact .inl ⟨rfl, rfl, ⟨rfl, rfl, rfl, rfl, rfl, rfl, rfl, rfl, rfl, rfl, rfl⟩, ⟨ix, HIX.out, HLA.out⟩, H15.out.1, H15.out.2⟩
/-- What the node's box leaves. -/
def P26Out (W : World) (g4 g9 i : Nat) (y vt vn : Value) (ix : Nat) (bh : Nat) (q : Nd) (e : Exit) (a : Act) (w : World) : Prop := e = .normal ∧ ∃ g13, W.heap.size ≤ g13 ∧ w.heap[g13]? = some (.cells #[.int .i64 q.adr, .int .i64 q.refs, .int .i64 q.sl, .int .i64 q.words, .slice q.A q.m q.c, .slice q.B q.n q.d] 40 (0, 0)) ∧ Below W.heap.size W w ∧ Fr a [(1, y), (4, .pointer (some ⟨g4, 0, none⟩)), (5, .bool false), (6, vt), (7, vn), (8, .int .i64 (i : Int)), (9, .pointer (some ⟨g9, 0, none⟩)), (10, .int .i64 (ix : Int)), (11, .int .i64 (bh : Int)), (13, .pointer (some ⟨g13, 0, none⟩))]
set_option maxHeartbeats 16000000 in
set_option maxRecDepth 100000 in
theorem p26_wp (wb W : World) (g4 g9 i : Nat) (y vt vn : Value) (R : List Int) (M : List Nd) (ix : Nat) (bh : Nat) (q : Nd) (hq : M[ix]? = some q) (HS : Aside0 (RS wb W g4 vt vn R M)) (a : Act) (hf : Fr a [(1, y), (4, .pointer (some ⟨g4, 0, none⟩)), (5, .bool false), (6, vt), (7, vn), (8, .int .i64 (i : Int)), (9, .pointer (some ⟨g9, 0, none⟩)), (10, .int .i64 (ix : Int)), (11, .int .i64 (bh : Int))]) : Code.wp Try.prog (lft cT4) (P26Out W g4 g9 i y vt vn ix bh q) a W := by
  have hix : ix < M.length := (List.getElem?_eq_some_iff.1 hq).1
  have hrow := HS.out.rows
  rcases row40_form hrow with ⟨_, h0⟩ | ⟨gn, cap, e⟩
  · omega
  · subst e
    obtain ⟨n, hn⟩ : ∃ n, n = M.length := ⟨_, rfl⟩
    rw [← hn] at hix
    have h6 := row6g hrow (by rw [← hn]; exact hix)
    have hqd : M.getD ix default = q := by rw [List.getD_eq_getElem?_getD, hq]; rfl
    rw [hqd] at h6
    obtain ⟨h60, h61, h62, h63, h64, h65⟩ := h6
    have hi0 : (0 : Int) ≤ (ix : Int) := by omega
    have hi1 : (ix : Int) < (n : Int) := by omega
    rw [← hn] at hf
    obtain ⟨hf1, hf4, hf5, hf6, hf7, hf8, hf9, hf10, hf11, hd_, hs_⟩ := hf
    obtain ⟨u, hu, ha_⟩ := frame_open a hd_ hs_
    have hv1 := (hu 1).symm.trans hf1
    have hv4 := (hu 4).symm.trans hf4
    have hv5 := (hu 5).symm.trans hf5
    have hv6 := (hu 6).symm.trans hf6
    have hv7 := (hu 7).symm.trans hf7
    have hv8 := (hu 8).symm.trans hf8
    have hv9 := (hu 9).symm.trans hf9
    have hv10 := (hu 10).symm.trans hf10
    have hv11 := (hu 11).symm.trans hf11
    clear hd_ hs_ hu hf1 hf4 hf5 hf6 hf7 hf8 hf9 hf10 hf11
    subst ha_
    simp only [hv1, hv4, hv5, hv6, hv7, hv8, hv9, hv10, hv11]
    clear hv1 hv4 hv5 hv6 hv7 hv8 hv9 hv10 hv11
    have HN := Aside0.mk hn
    clear hn hq hqd hrow
    conv => arg 2; whnf
    go_wp2
    exact ⟨rfl, W.heap.size, Nat.le_refl _, blk_new _ _, below_alloc (Below.refl _ _) _, ⟨rfl, rfl, rfl, rfl, congrArg (fun n => Value.slice (some ⟨gn, 0, none⟩) n cap) HN.out, rfl, rfl, rfl, rfl, rfl, rfl, rfl⟩⟩
end Go.Proofs.Ytekggbmajemmhaa.Gr
/- The document's Apply: gone and turned nodes. Conditions: the state lies in memory. -/
namespace Go.Proofs.Ytekggbmajemmhaa.Gr
open Go.RowKit Go.Shelf Go.Maps Go.ChangeMaps Go.MapKept Go.Proofs.YtekggbmajemmhaaW.PrintWords Go.Proofs.YtekggbmajemmhaaW.PrintLast Go.Proofs.YtekggbmajemmhaaW.PrintMore
set_option linter.unusedSimpArgs false
set_option linter.unusedVariables false
/-- What the piece leaves. -/
def P6Out (wb W : World) (g4 g9 g13 i : Nat) (y vt vn : Value) (R : List Int) (M : List Nd) (ix bh : Nat) (ck ca ci cw cs : Int) (e : Exit) (a : Act) (w : World) : Prop :=
  ((ck ≠ 1 ∧ ck ≠ 3) ∧ e = .normal ∧ w = W ∧ Fr a [(1, y), (4, .pointer (some ⟨g4, 0, none⟩)), (5, .bool false), (6, vt), (7, vn), (8, .int .i64 (i : Int)), (9, .pointer (some ⟨g9, 0, none⟩)), (10, .int .i64 (ix : Int)), (11, .int .i64 (bh : Int)), (13, .pointer (some ⟨g13, 0, none⟩))]) ∨ ((ck = 1 ∨ ck = 3) ∧ BodyOut wb g4 i y R M ⟨ck, ca, ci, cw, cs⟩ e a w ∧ e ≠ .normal)
set_option maxHeartbeats 16000000 in
set_option maxRecDepth 100000 in
theorem p6_wp (wb W : World) (g4 g9 g13 i : Nat) (y vt vn : Value) (R : List Int) (M : List Nd) (ix bh : Nat) (q : Nd) (ck ca ci cw cs : Int) (hidx : idx (adrs M) ca = some ix) (hq : M[ix]? = some q) (HCS : Aside0 ((Lit.int .u64 cs).wf = true)) (hM : M.length ≤ 900) (HS : Aside0 (RS wb W g4 vt vn R M)) (BK9 : Aside0 (W.heap[g9]? = some (.cells #[.int .i64 ck, .int .i64 ca, .int .i64 ci, .int .u64 cw, .int .u64 cs] 44 (0, 0)))) (BK13 : Aside0 (W.heap[g13]? = some (.cells #[.int .i64 q.adr, .int .i64 q.refs, .int .i64 q.sl, .int .i64 q.words, .slice q.A q.m q.c, .slice q.B q.n q.d] 40 (0, 0)))) (a : Act) (hf : Fr a [(1, y), (4, .pointer (some ⟨g4, 0, none⟩)), (5, .bool false), (6, vt), (7, vn), (8, .int .i64 (i : Int)), (9, .pointer (some ⟨g9, 0, none⟩)), (10, .int .i64 (ix : Int)), (11, .int .i64 (bh : Int)), (13, .pointer (some ⟨g13, 0, none⟩))]) : Code.wp Try.prog cP6 (P6Out wb W g4 g9 g13 i y vt vn R M ix bh ck ca ci cw cs) a W := by
  obtain ⟨i0, hi, hz0, hz1, hz2⟩ := info_parts info40
  have hix : ix < M.length := (List.getElem?_eq_some_iff.1 hq).1
  obtain ⟨A0, c0, e0⟩ := row40_slice HS.out.rows
  subst e0
  have hnc0 : M.length ≤ c0 := by
    rcases HS.out.rows.2 with ⟨e, h0⟩ | ⟨_, cap, _, e, _, _, h1, _⟩
    · omega
    · cases e; exact h1
  have HNL := Aside0.mk (NL_of_row HS.out.rows)
  obtain ⟨n, hn⟩ : ∃ n, n = M.length := ⟨_, rfl⟩
  rw [← hn] at hix hnc0 hM HNL hf
  have hbn : ix ≤ n := by omega
  have hbn1 : ix + 1 ≤ n := by omega
  have hnc : n ≤ c0 := hnc0
  have hsl1 := slice_head A0 n c0 ix hbn hnc
  have hsl2 := slice_tail A0 n c0 (ix + 1) hbn1 hnc
  rw [show (((ix + 1 : Nat)) : Int) = (ix : Int) + 1 by omega] at hsl2
  obtain ⟨A2, hA2⟩ : ∃ A2, A2 = if c0 = ix + 1 then A0 else A0.map (·.add ((ix + 1) * 6)) := ⟨_, rfl⟩
  rw [← hA2] at hsl2
  have HA2 := Aside0.mk (fun (w' : World) (B : Nat) (L : List Nd) (h : NL w' B (if c0 = ix + 1 then A0 else A0.map (·.add ((ix + 1) * 6))) (n - (ix + 1)) L) => (hA2 ▸ h : NL w' B A2 (n - (ix + 1)) L))
  have HN := Aside0.mk hn
  have HIDX := Aside0.mk hidx
  have HQ := Aside0.mk hq
  have hi0 : (0 : Int) ≤ (ix : Int) := by omega
  have hi1 : (ix : Int) + 1 ≤ (n : Int) := by omega
  rw [← hn]
  clear hA2 hn hidx hq hnc0
  obtain ⟨hf1, hf4, hf5, hf6, hf7, hf8, hf9, hf10, hf11, hf13, hd_, hs_⟩ := hf
  obtain ⟨u, hu, ha_⟩ := frame_open a hd_ hs_
  have hv1 := (hu 1).symm.trans hf1
  have hv4 := (hu 4).symm.trans hf4
  have hv5 := (hu 5).symm.trans hf5
  have hv6 := (hu 6).symm.trans hf6
  have hv7 := (hu 7).symm.trans hf7
  have hv8 := (hu 8).symm.trans hf8
  have hv9 := (hu 9).symm.trans hf9
  have hv10 := (hu 10).symm.trans hf10
  have hv11 := (hu 11).symm.trans hf11
  have hv13 := (hu 13).symm.trans hf13
  clear hd_ hs_ hu hf1 hf4 hf5 hf6 hf7 hf8 hf9 hf10 hf11 hf13
  subst ha_
  simp only [hv1, hv4, hv5, hv6, hv7, hv8, hv9, hv10, hv11, hv13]
  clear hv1 hv4 hv5 hv6 hv7 hv8 hv9 hv10 hv11 hv13
  have hx9_0 : W.cell? ⟨g9, 0, none⟩ = some (.int .i64 ck) := (blk_cell BK9.out 0).trans rfl
  have hx9_1 : W.cell? ⟨g9, 1, none⟩ = some (.int .i64 ca) := (blk_cell BK9.out 1).trans rfl
  have hx9_2 : W.cell? ⟨g9, 2, none⟩ = some (.int .i64 ci) := (blk_cell BK9.out 2).trans rfl
  have hx9_3 : W.cell? ⟨g9, 3, none⟩ = some (.int .u64 cw) := (blk_cell BK9.out 3).trans rfl
  have hx9_4 : W.cell? ⟨g9, 4, none⟩ = some (.int .u64 cs) := (blk_cell BK9.out 4).trans rfl
  have hx13 : W.cell? ⟨g13, 3, none⟩ = some (.int .i64 q.words) := (blk_cell BK13.out 3).trans rfl
  by_cases h13 : ck = 1 ∨ ck = 3
  · have H13 := Aside0.mk h13
    have hk2 : ck ≠ 2 := by omega
    have hap := applyP_node (R := R) (M := M.map Nd.pn) (c := (⟨ck, ca, ci, cw, cs⟩ : Ch)) (fun h => by have := h.1; simp only at this; omega)
    have hst := step_some (M := M) (c := (⟨ck, ca, ci, cw, cs⟩ : Ch)) hk2 HIDX.out HQ.out
    obtain ⟨bb, hbb⟩ : ∃ b, (u64 q.words != cw) = b := ⟨_, rfl⟩
    have HBB := Aside0.mk hbb
    cases bb with
    | true =>
      have hne : ¬ (u64 q.words = cw) := by simpa using HBB.out
      have HNO := Aside0.mk (show applyP (R, M.map Nd.pn) (⟨ck, ca, ci, cw, cs⟩ : Ch) = none by
        rw [hap, hst]
        rcases h13 with h | h
        · subst h; rw [if_pos rfl, if_neg hne]; rfl
        · subst h; rw [if_neg (show ¬ ((3 : Int) = 1) by decide), if_pos rfl, if_neg hne]; rfl)
      clear hap hst hk2 hne
      rcases h13 with h | h
      · subst h
        have hk3 : decide ((1 : Int) = 3) = false := by decide
        have HRES := Aside0.mk HS.out.res
        have HRES4 := Aside0.mk HS.out.res4
        have HRB := Aside0.mk HS.out.hb
        have hx4_0 : W.cell? ⟨g4, 0, none⟩ = some (.slice none 0 0) := (blk_cell HRES.out 0).trans rfl
        have hx4_1 : W.cell? ⟨g4, 1, none⟩ = some (.slice none 0 0) := (blk_cell HRES.out 1).trans rfl
        have hy4_0 := blk_frozen HRES.out 0
        have hy4_1 := blk_frozen HRES.out 1
        conv => arg 2; whnf
        go_wp2
        exact .inr ⟨.inl rfl, .inl ⟨rfl, HNO.out, ⟨rfl, rfl, rfl, rfl⟩, blk_put (blk_put HRES.out 0 _ rfl) 1 _ rfl, below_set (below_set HRB.out HRES4.out) HRES4.out⟩, nofun⟩
      · subst h
        have hk1 : decide ((3 : Int) = 1) = false := by decide
        have HRES := Aside0.mk HS.out.res
        have HRES4 := Aside0.mk HS.out.res4
        have HRB := Aside0.mk HS.out.hb
        have hx4_0 : W.cell? ⟨g4, 0, none⟩ = some (.slice none 0 0) := (blk_cell HRES.out 0).trans rfl
        have hx4_1 : W.cell? ⟨g4, 1, none⟩ = some (.slice none 0 0) := (blk_cell HRES.out 1).trans rfl
        have hy4_0 := blk_frozen HRES.out 0
        have hy4_1 := blk_frozen HRES.out 1
        conv => arg 2; whnf
        go_wp2
        exact .inr ⟨.inr rfl, .inl ⟨rfl, HNO.out, ⟨rfl, rfl, rfl, rfl⟩, blk_put (blk_put HRES.out 0 _ rfl) 1 _ rfl, below_set (below_set HRB.out HRES4.out) HRES4.out⟩, nofun⟩
    | false =>
      have heq : u64 q.words = cw := by simpa using HBB.out
      rcases h13 with h | h
      · subst h
        rw [if_pos rfl, if_pos heq] at hst
        have HST := Aside0.mk (show applyP (R, M.map Nd.pn) (⟨1, ca, ci, cw, cs⟩ : Ch) = some (R, (M.take ix ++ M.drop (ix + 1)).map Nd.pn) by rw [hap, hst, List.eraseIdx_eq_take_drop_succ]; rfl)
        clear hap hst hk2 heq
        conv => arg 2; whnf
        go_upto_region 31 with (at_builtin; refine wpList_append_nl rfl (.tmp 148) (.tmp 151) 23 rfl _ W.heap.size 40 i0 (.agg #[.int .i64 0, .int .i64 0, .int .i64 0, .int .i64 0, .slice none 0 0, .slice none 0 0]) Try.underlying23 hi hz0 hz1 hz2 rfl (.slice (some ⟨W.heap.size, 0, none⟩) 0 0) 0 [] rfl (row_empty (blk_new W (.cells #[] 40)) (Nat.le_refl _)) A0 ix c0 (M.take ix) rfl ((HNL.out.kept fun k hk => Below.heap_alloc W _ k hk).take hbn) (by omega) (by rw [World.size_alloc]; omega) ?_; rw [Nat.zero_add, List.nil_append]; intro v1 w1 hown1 hgr1 _; have R1 := Aside0.mk hown1; have HB1 := Aside0.mk (own_below (below_alloc (Below.refl W.heap.size W) (.cells #[] 40)) (Nat.le_refl _) (row_empty (s := 6) (blk_new W (.cells #[] 40)) (Nat.le_refl _)) hgr1); clear hown1 hgr1)
        have BK91 := Aside0.mk (blk_below BK9.out HB1.out)
        have hz9_0 : w1.cell? ⟨g9, 0, none⟩ = some (.int .i64 1) := (blk_cell BK91.out 0).trans rfl
        have hz9_1 : w1.cell? ⟨g9, 1, none⟩ = some (.int .i64 ca) := (blk_cell BK91.out 1).trans rfl
        have hz9_2 : w1.cell? ⟨g9, 2, none⟩ = some (.int .i64 ci) := (blk_cell BK91.out 2).trans rfl
        have hz9_3 : w1.cell? ⟨g9, 3, none⟩ = some (.int .u64 cw) := (blk_cell BK91.out 3).trans rfl
        have hz9_4 : w1.cell? ⟨g9, 4, none⟩ = some (.int .u64 cs) := (blk_cell BK91.out 4).trans rfl
        go_wp2_with (at_builtin; refine wpList_append_nl rfl (.tmp 164) (.tmp 168) 23 rfl _ W.heap.size 40 i0 (.agg #[.int .i64 0, .int .i64 0, .int .i64 0, .int .i64 0, .slice none 0 0, .slice none 0 0]) Try.underlying23 hi hz0 hz1 hz2 rfl v1 ix (nds (M.take ix)) rfl R1.out A2 (n - (ix + 1)) (c0 - (ix + 1)) (M.drop (ix + 1)) rfl (HA2.out _ _ _ ((HNL.out.kept fun k hk => HB1.out.block k hk).drop hbn1 hnc)) (by omega) HB1.out.size ?_; rw [← nds_app]; intro v5 w5 hown5 hgr5 hat5; have R5 := Aside0.mk hown5; have HB5 := Aside0.mk (own_below HB1.out (Nat.le_refl _) R1.out hgr5); clear hown5 hgr5 hat5)
        have hlen : (M.take ix ++ M.drop (ix + 1)).length = ix + (n - (ix + 1)) := by
          have := HN.out
          rw [List.length_append, List.length_take, List.length_drop]; omega
        have hr5 := R5.out
        rw [← hlen] at hr5
        have hrise := rise_erase HS.out.rise ix
        rw [List.eraseIdx_eq_take_drop_succ] at hrise
        have HRS := Aside0.mk (HS.out.nodes HB5.out hr5 (by unfold adrs at hrise ⊢; rw [List.map_append, List.map_take, List.map_drop]; exact hrise) (fun m hm => by
          rcases List.mem_append.1 hm with h | h
          · exact Or.inl (List.mem_of_mem_take h)
          · exact Or.inl (List.mem_of_mem_drop h)))
        exact .inr ⟨.inl rfl, .inr ⟨.inl rfl, _, _, _, _, HST.out, ⟨rfl, rfl, rfl, rfl, rfl, rfl, rfl, rfl⟩, HRS.out, by rw [hlen, ← HN.out]; omega⟩, nofun⟩
      · subst h
        have hk1 : decide ((3 : Int) = 1) = false := by decide
        rw [if_neg (show ¬ ((3 : Int) = 1) by decide), if_pos rfl, if_pos heq] at hst
        have HST := Aside0.mk (hap.trans (congrArg _ hst))
        clear hap hst hk2 heq
        conv => arg 2; whnf
        go_upto_region 31 with (at_builtin; refine wpList_append_nl rfl (.tmp 148) (.tmp 151) 23 rfl _ W.heap.size 40 i0 (.agg #[.int .i64 0, .int .i64 0, .int .i64 0, .int .i64 0, .slice none 0 0, .slice none 0 0]) Try.underlying23 hi hz0 hz1 hz2 rfl (.slice (some ⟨W.heap.size, 0, none⟩) 0 0) 0 [] rfl (row_empty (blk_new W (.cells #[] 40)) (Nat.le_refl _)) A0 ix c0 (M.take ix) rfl ((HNL.out.kept fun k hk => Below.heap_alloc W _ k hk).take hbn) (by omega) (by rw [World.size_alloc]; omega) ?_; rw [Nat.zero_add, List.nil_append]; intro v1 w1 hown1 hgr1 _; have R1 := Aside0.mk hown1; have HB1 := Aside0.mk (own_below (below_alloc (Below.refl W.heap.size W) (.cells #[] 40)) (Nat.le_refl _) (row_empty (s := 6) (blk_new W (.cells #[] 40)) (Nat.le_refl _)) hgr1); clear hown1 hgr1)
        have BK91 := Aside0.mk (blk_below BK9.out HB1.out)
        have hz9_0 : w1.cell? ⟨g9, 0, none⟩ = some (.int .i64 3) := (blk_cell BK91.out 0).trans rfl
        have hz9_1 : w1.cell? ⟨g9, 1, none⟩ = some (.int .i64 ca) := (blk_cell BK91.out 1).trans rfl
        have hz9_2 : w1.cell? ⟨g9, 2, none⟩ = some (.int .i64 ci) := (blk_cell BK91.out 2).trans rfl
        have hz9_3 : w1.cell? ⟨g9, 3, none⟩ = some (.int .u64 cw) := (blk_cell BK91.out 3).trans rfl
        have hz9_4 : w1.cell? ⟨g9, 4, none⟩ = some (.int .u64 cs) := (blk_cell BK91.out 4).trans rfl
        go_upto_region 33 with (first | (go_at_call 24; refine (rbareX_calls _ ca cs HCS.out).mono ?_; rintro e w2 ⟨q2, rfl, hq2, hd2, hm2, hy2, hb2⟩; have HB2 := Aside0.mk (below_step HB1.out hb2); have R12 := Aside0.mk (Di.row_below R1.out hb2); have HQ2 := Aside0.mk hq2; have HM2 := Aside0.mk hm2; have HY2 := Aside0.mk (fun y e => Nat.le_trans HB1.out.size (hy2 y e) : ∀ y, q2.B = some y → W.heap.size ≤ y.block); have HD2 := Aside0.mk (DX_fresh hd2 hm2 hy2 (fun j hj => (R1.out.lt j (Option.mem_toList.1 hj)).2) : DX w2 v1.ownBlock.toList q2); clear hq2 hm2 hy2 hd2 hb2) | (at_builtin; refine wpList_append_nl rfl (.tmp 156) (.tmp 162) 23 rfl _ W.heap.size 40 i0 (.agg #[.int .i64 0, .int .i64 0, .int .i64 0, .int .i64 0, .slice none 0 0, .slice none 0 0]) Try.underlying23 hi hz0 hz1 hz2 rfl v1 ix (nds (M.take ix)) rfl (R12.out.alloc _) (some ⟨w2.heap.size, 0, none⟩) 1 1 [q2] rfl (NL_one (blk_new w2 _)) (by omega) (by rw [World.size_alloc]; have := HB2.out.size; omega) ?_; rw [← nds_app]; intro v3 w3 hown3 hgr3 hat3; have R3 := Aside0.mk hown3; have HB3 := Aside0.mk (own_below (below_alloc HB2.out (.cells #[.int .i64 q2.adr, .int .i64 q2.refs, .int .i64 q2.sl, .int .i64 q2.words, .slice q2.A q2.m q2.c, .slice q2.B q2.n q2.d] 40)) (Nat.le_refl _) (R12.out.alloc _) hgr3); have HD3 := Aside0.mk ((HD2.out.to (fun j hj _ => Below.heap_alloc w2 (.cells #[.int .i64 q2.adr, .int .i64 q2.refs, .int .i64 q2.sl, .int .i64 q2.words, .slice q2.A q2.m q2.c, .slice q2.B q2.n q2.d] 40) j hj) (by rw [World.size_alloc]; omega) (fun _ _ h => h)).own hgr3 hat3); clear hown3 hgr3 hat3))
        go_wp2_with (at_builtin; refine wpList_append_nl rfl (.tmp 164) (.tmp 168) 23 rfl _ W.heap.size 40 i0 (.agg #[.int .i64 0, .int .i64 0, .int .i64 0, .int .i64 0, .slice none 0 0, .slice none 0 0]) Try.underlying23 hi hz0 hz1 hz2 rfl v3 (ix + 1) (nds (M.take ix ++ [q2])) rfl R3.out A2 (n - (ix + 1)) (c0 - (ix + 1)) (M.drop (ix + 1)) rfl (HA2.out _ _ _ ((HNL.out.kept fun k hk => HB3.out.block k hk).drop hbn1 hnc)) (by omega) HB3.out.size ?_; rw [← nds_app]; intro v5 w5 hown5 hgr5 hat5; have R5 := Aside0.mk hown5; have HB5 := Aside0.mk (own_below HB3.out (Nat.le_refl _) R3.out hgr5); have HD5 := Aside0.mk (HD3.out.own hgr5 hat5); clear hown5 hgr5 hat5)
        have hqa : q2.adr = ca := congrArg Pn.adr HQ2.out
        have hqn : q2.n ≤ 255 := by
          have : q2.n = bareN cs := (HD5.out.2.1).symm.trans ((congrArg List.length (congrArg Pn.T HQ2.out)).trans List.length_replicate)
          rw [this]; exact bareN_le cs
        have hset : M.set ix q2 = M.take ix ++ [q2] ++ M.drop (ix + 1) := by
          have := HN.out
          rw [set_parted (by omega), List.append_assoc]; rfl
        have hlen : (M.set ix q2).length = n := by rw [List.length_set, HN.out]
        have hr5 := R5.out
        rw [← hset, show ix + 1 + (n - (ix + 1)) = (M.set ix q2).length by rw [hlen]; omega] at hr5
        have hadr : q.adr = ca := by
          obtain ⟨nn, h1, _, h3⟩ := find_some_of HIDX.out
          rw [HQ.out] at h1
          cases h1
          exact h3
        have HRS := Aside0.mk (HS.out.nodes HB5.out hr5 (by rw [adrs_set HQ.out (hqa.trans hadr.symm)]; exact HS.out.rise) (fun m hm => by
          rcases (List.mem_or_eq_of_mem_set hm) with h | h
          · exact Or.inl h
          · subst h; exact Or.inr ⟨HD5.out, HM2.out, by omega, HY2.out⟩))
        have HST2 := HST.out
        rw [← HQ2.out, set_pn] at HST2
        exact .inr ⟨.inr rfl, .inr ⟨.inl rfl, _, _, _, _, HST2, ⟨rfl, rfl, rfl, rfl, rfl, rfl, rfl, rfl⟩, HRS.out, by rw [hlen, HN.out]; exact Nat.le_succ _⟩, nofun⟩
  · have hk1 : decide (ck = 1) = false := decide_eq_false (fun h => h13 (Or.inl h))
    have hk3 : decide (ck = 3) = false := decide_eq_false (fun h => h13 (Or.inr h))
    have HNP := Aside0.mk (show ck ≠ 1 ∧ ck ≠ 3 from ⟨fun h => h13 (Or.inl h), fun h => h13 (Or.inr h)⟩)
    have hn1 : ¬ ck = 1 := HNP.out.1
    have hn3 : ¬ ck = 3 := HNP.out.2
    have hb1 : (ck == 1) = false := by simp [hn1]
    have hb3 : (ck == 3) = false := by simp [hn3]
    clear h13 hsl1 hsl2
    conv => arg 2; whnf
    go_wp2
    exact .inl ⟨HNP.out, rfl, rfl, ⟨rfl, rfl, rfl, rfl, rfl, rfl, rfl, rfl, rfl, rfl, rfl, rfl⟩⟩
end Go.Proofs.Ytekggbmajemmhaa.Gr
