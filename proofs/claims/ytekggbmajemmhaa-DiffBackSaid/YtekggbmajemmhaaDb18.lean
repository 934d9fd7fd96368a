/- Parts of one proof, set together: Ap4, Ap5. What each says stands at its head; no condition beyond theirs. -/
import Derived.Test.YtekggbmajemmhaaDb17
import Derived.Laws.MakeOwn
/- Apply: the document's Walk and Nodes. Conditions: the graph lies in memory and is small. -/
namespace Go.Proofs.Ytekggbmajemmhaa.Gr
open Go.RowKit Go.Shelf Go.Maps Go.ChangeMaps Go.MapKept Go.Proofs.YtekggbmajemmhaaW.PrintWords Go.Proofs.YtekggbmajemmhaaW.PrintLast Go.Proofs.YtekggbmajemmhaaW.PrintMore
set_option linter.unusedSimpArgs false
set_option linter.unusedVariables false
theorem info40 : (Try.prog.info? 40).map (fun i => (i.zero, i.size, i.bytes)) = some (some (.agg #[.int .i64 0, .int .i64 0, .int .i64 0, .int .i64 0, .slice none 0 0, .slice none 0 0]), 6, 80) := by kernel_rfl
theorem nd_cells {W : World} {g : Nat} {t : TypeId} {q : Nd} (h : W.heap[g]? = some (.cells #[.int .i64 q.adr, .int .i64 q.refs, .int .i64 q.sl, .int .i64 q.words, .slice q.A q.m q.c, .slice q.B q.n q.d] t (0, 0))) : ∀ j u, q.cells[j]? = some u → W.cell? ((⟨g, 0, none⟩ : Addr).add j) = some u := by
  intro j u hj
  have ea : (⟨g, 0, none⟩ : Addr).add j = ⟨g, j, none⟩ := by unfold Addr.add; split <;> simp_all
  rw [ea, blk_cell h j, ← hj]
  simp
theorem pushed {wb wx w5 : World} {X gn n : Nat} {vo v' : Value} {xs ys : List Value} {obj o : Obj} (hb : Below X wb wx) (hXs : X ≤ wb.heap.size) (hrow : wx.ownsRow X 40 6 vo n xs) (hgn : wx.heap[gn]? = some o) (hne : ∀ k, vo.ownBlock = some k → k ≠ gn) (hown : w5.ownsRow X 40 6 v' (n + 1) ys) (hg : (wx.alloc obj).grownBy w5 vo.ownBlock) (hat : v'.ownBlock = vo.ownBlock ∨ v'.ownBlock = some (wx.alloc obj).heap.size) :
    ∃ gy c, v' = .slice (some ⟨gy, 0, none⟩) (n + 1) c ∧ w5.ownsRow X 40 6 (.slice (some ⟨gy, 0, none⟩) (n + 1) c) (n + 1) ys ∧ Below X wb w5 ∧ w5.heap[gn]? = some o ∧ gy ≠ gn := by
  have hl := blk_lt hgn
  have hsz := hb.size
  rcases row40_form hown with ⟨_, h0⟩ | ⟨g, cap, rfl⟩
  · omega
  · refine ⟨_, cap, rfl, hown, ⟨hg.os.trans hb.os, hg.tape.trans hb.tape, hg.output.trans hb.output, Nat.le_trans hsz (by have := hg.size; rw [World.size_alloc] at this; omega), fun k hk => ?_⟩, (hg.block gn (by rw [World.size_alloc]; omega) (fun e => hne gn e.symm rfl)).trans (blk_alloc hgn obj), ?_⟩
    · have h1 : k < wx.heap.size := by omega
      rw [hg.block k (by rw [World.size_alloc]; omega) (fun e => by have := (hrow.lt k e.symm).1; omega), Below.heap_alloc wx obj k h1]
      exact hb.block k hk
    · show g ≠ gn
      rcases hat with e | e
      · exact hne g (by rw [← e]; rfl)
      · have : g = (wx.alloc obj).heap.size := Option.some.inj e
        rw [World.size_alloc] at this
        omega
theorem set_hole {M L : List Nd} {p : Nat} (h : p ≤ M.length ∧ ∃ h, L = M.take p ++ h :: M.drop p) (q : Nd) : L.set p q = M.take p ++ q :: M.drop p := by
  obtain ⟨hp, h, rfl⟩ := h
  have e : (M.take p).length = p := by rw [List.length_take]; omega
  rw [List.set_append_right _ _ (by omega), show p - (M.take p).length = 0 by omega]
  rfl
theorem hole_step {M L : List Nd} {p : Nat} (h : p + 1 ≤ M.length ∧ ∃ h, L = M.take (p + 1) ++ h :: M.drop (p + 1)) : L.getD p default = M.getD p default ∧ (p ≤ M.length ∧ ∃ h, L.set (p + 1) (M.getD p default) = M.take p ++ h :: M.drop p) := by
  obtain ⟨hp, h, rfl⟩ := h
  have e : (M.take (p + 1)).length = p + 1 := by rw [List.length_take]; omega
  have hg : M[p]? = some (M.getD p default) := by rw [List.getD_eq_getElem?_getD, List.getElem?_eq_getElem (show p < M.length by omega)]; rfl
  refine ⟨?_, by omega, M.getD p default, ?_⟩
  · rw [List.getD_eq_getElem?_getD, List.getElem?_append_left (by omega), List.getElem?_take, if_pos (by omega), hg]
    rfl
  · rw [List.set_append_right _ _ (by omega), show p + 1 - (M.take (p + 1)).length = 0 by omega]
    have hpl : p < M.length := by omega
    have h1 : M.take (p + 1) = M.take p ++ [M.getD p default] := by rw [List.take_add_one, hg]; rfl
    have h2 : M.drop p = M.getD p default :: M.drop (p + 1) := by rw [List.drop_eq_getElem_cons hpl, List.getD_eq_getElem?_getD, List.getElem?_eq_getElem hpl]; rfl
    rw [h1, h2, List.append_assoc]
    rfl
theorem meas_z {p : Nat} {z : Int} (hz : z = ((p + 1 : Nat) : Int)) : (intOf (.int .i64 (p : Int))).toNat < (intOf (.int .i64 z)).toNat := by
  subst hz
  show (p : Int).toNat < ((p + 1 : Nat) : Int).toNat
  omega
theorem take_last {l : List Int} {i : Nat} (h : i < l.length) : l.take (i + 1) = l.take i ++ [l.getD i 0] := by
  rw [List.take_add_one, List.getD_eq_getElem?_getD, List.getElem?_eq_getElem h]
  rfl
theorem sorted_take {NS : List Nd} {wl : List Int} {i : Nat} {x : Int} {q : Nd} {M : List Nd} (hi : i < wl.length) (hM : M = sorted NS (wl.take i)) (hx : x = wl.getD i 0) (hq : find NS x = some q) : sorted NS (wl.take (i + 1)) = ins M q := by
  rw [take_last hi, sorted_snoc, ← hM, ← hx, hq]
  rfl
theorem walkR_len (NS : List Nd) (R : List Int) : (walkR NS R).length ≤ NS.length := by
  have h := visitR_cnt NS NS.length (NS.length + 1) [] R (by have := left_le NS []; simp; omega)
  unfold walkR
  omega
set_option maxHeartbeats 8000000 in
set_option maxRecDepth 100000 in
theorem rw_calls (W : World) (B : Nat) (hB : B ≤ W.heap.size) (g : Gd) (hsm : Small g) (HG : Aside0 (GM W B g)) : Calls Try.prog 29 #[.agg #[.slice g.rA g.rl g.rc, .slice g.nA g.nl g.nc]] W fun e W' => ∃ v, e = .returned v ∧ VL .i64 W' v (walkR g.NS g.R) ∧ Below W.heap.size W W' := by
  have HB := Aside0.mk (Below.refl W.heap.size W)
  have hr40 := hsm.r40
  have hn40 := hsm.n40
  have HF := Aside0.mk (show left g.NS [] < g.NS.length + 1 by have := left_le g.NS []; omega)
  have HC := Aside0.mk (show ([] : List Int).length + left g.NS [] ≤ g.NS.length by have := left_le g.NS []; simp; omega)
  go_enter Try.func29, Try.ntmps29
  go_upto_region 1 with ((with_reducible refine gate_dst (N := 1) rfl ?_); refine box_event ?hg (N := 1) ?hd (cs := #[.slice g.rA g.rl g.rc, .slice g.nA g.nl g.nc]) (t := 25) ?hr ?_; (case hd => rfl); (case hg => rfl); (case hr => first | (go_simp; done) | (go_simp; rfl)); intro g1 hg w1_ hbox hb; have n0_ := Aside0.mk (below_step (by repeat (first | (with_reducible first | exact HB.out | apply below_alloc | apply pw_below_drewN | apply below_drew1) | exact HB.out)) hb); have n1_ := Aside0.mk hbox; have n2_ := Aside0.mk ((by rw [hg]; exact (below_size (by repeat (first | (with_reducible first | exact HB.out | apply below_alloc | apply pw_below_drewN | apply below_drew1) | exact HB.out)))) : W.heap.size ≤ g1); clear HB; have HB := n0_; have BK1 := n1_; have GE1 := n2_; clear n0_ n1_ n2_; clear hb hbox hg)
  have hc1_0 : w1_.cell? ⟨g1, 0, none⟩ = some (.slice g.rA g.rl g.rc) := (blk_cell BK1.out 0).trans rfl
  have hc1_1 : w1_.cell? ⟨g1, 1, none⟩ = some (.slice g.nA g.nl g.nc) := (blk_cell BK1.out 1).trans rfl
  go_wp2_with (go_at_call 50; refine (rwalk_calls g hsm _ _ B [] g.R g.rA g.rl g.rc (.slice none 0 0) (Nat.le_trans hB HB.out.size) (Aside0.mk (HG.out.kept fun k hk => HB.out.block k (by omega))) (Aside0.mk ((HG.out.rts.kept fun k hk => HB.out.block k (by omega)).up (Nat.le_trans hB HB.out.size))) (by omega) (Aside0.mk (VL_nil _ _)) HF HC).mono ?_; rintro e w3 ⟨v3, rfl, hv3, hb⟩; have HV3 := Aside0.mk hv3; have HB3 := Aside0.mk (below_step HB.out hb); clear hv3 hb)
  go_ret
  exact ⟨_, rfl, HV3.out, HB3.out⟩
def nd6.T6 : Bool × List (List Nat × List Nat) := (true, [([], []), ([0], [0]), ([], []), ([], []), ([], []), ([3, 4], [3, 4]), ([5], [5]), ([2, 6], [2, 6]), ([1, 7], [1, 7]), ([8], [8]), ([], []), ([10, 9, 7, 0, 1, 2, 3, 4, 5, 6, 7, 8, 9, 10], [9, 10])])
def nd6.B6 : List Nat := [0, 1, 0, 0, 0, 24, 56, 124, 255, 511, 0, 2047]
theorem nd6.tab6 : rtab .any (opsOf Try.f14 6) = nd6.T6 := by kernel_rfl
theorem nd6.bits6 : waitsOk nd6.T6.2 nd6.B6 = true := by kernel_rfl
def nd9.T9 : Bool × List (List Nat × List Nat) := (true, [([], []), ([0], [0]), ([1], [1]), ([2], [2]), ([2], [2]), ([4, 2], [2, 4]), ([3, 5, 2], [2, 3, 5]), ([6, 2], [2, 6]), ([7, 2], [2, 7]), ([2], [2]), ([9, 2], [2, 9]), ([8, 10, 2], [2, 8, 10]), ([2, 11], [2, 11])])
def nd9.B9 : List Nat := [0, 1, 3, 7, 7, 23, 63, 127, 255, 7, 519, 2047, 4095]
theorem nd9.tab9 : rtab .any (opsOf Try.f14 9) = nd9.T9 := by kernel_rfl
theorem nd9.bits9 : waitsOk nd9.T9.2 nd9.B9 = true := by kernel_rfl
set_option maxHeartbeats 16000000 in
set_option maxRecDepth 100000 in
theorem rnodes_calls (W : World) (B : Nat) (hB : B ≤ W.heap.size) (g : Gd) (hsm : Small g) (HG : Aside0 (GM W B g)) : Calls Try.prog 14 #[.agg #[.slice g.rA g.rl g.rc, .slice g.nA g.nl g.nc]] W fun e W' => ∃ v, e = .returned v ∧ W'.ownsRow W.heap.size 40 6 v (sorted g.NS (walkR g.NS g.R)).length (nds (sorted g.NS (walkR g.NS g.R))) ∧ Below W.heap.size W W' := by
  have HB := Aside0.mk (Below.refl W.heap.size W)
  obtain ⟨i0, hi, hz0, hz1, hz2⟩ := info_parts info40
  have hns : g.NS.length ≤ 40 := by have := HG.out.nds.1; have := hsm.n40; omega
  have hnl : g.NS.length = g.nl := HG.out.nds.1
  go_enter Try.func14, Try.ntmps14
  go_upto_region 1 with ((with_reducible refine gate_dst (N := 1) rfl ?_); refine box_event ?hg (N := 1) ?hd (cs := #[.slice g.rA g.rl g.rc, .slice g.nA g.nl g.nc]) (t := 25) ?hr ?_; (case hd => rfl); (case hg => rfl); (case hr => first | (go_simp; done) | (go_simp; rfl)); intro g1 hg w1_ hbox hb; have n0_ := Aside0.mk (below_step (by repeat (first | (with_reducible first | exact HB.out | apply below_alloc | apply pw_below_drewN | apply below_drew1) | exact HB.out)) hb); have n1_ := Aside0.mk hbox; have n2_ := Aside0.mk ((by rw [hg]; exact (below_size (by repeat (first | (with_reducible first | exact HB.out | apply below_alloc | apply pw_below_drewN | apply below_drew1) | exact HB.out)))) : W.heap.size ≤ g1); clear HB; have HB := n0_; have BK1 := n1_; have GE1 := n2_; clear n0_ n1_ n2_; clear hb hbox hg)
  have hc1_0 : w1_.cell? ⟨g1, 0, none⟩ = some (.slice g.rA g.rl g.rc) := (blk_cell BK1.out 0).trans rfl
  have hc1_1 : w1_.cell? ⟨g1, 1, none⟩ = some (.slice g.nA g.nl g.nc) := (blk_cell BK1.out 1).trans rfl
  go_upto_region 2 with ((with_reducible refine gate_callee (f := 29) rfl ?_); refine goesL_ (some 9) rfl rfl Try.func29 (by kernel_rfl) rfl #[.agg #[.slice g.rA g.rl g.rc, .slice g.nA g.nl g.nc]] rfl (by (try simp only [List.map_toArray, List.map_cons, List.map_nil]); first | done | rfl | (simp only [List.length_drop, List.length_take]; rfl)) ?_; (with_reducible refine (rw_calls _ B (Nat.le_trans hB HB.out.size) g hsm (Aside0.mk (HG.out.kept fun k hk => HB.out.block k (by omega)))).mono ?_); rintro e w2_ ⟨v3, rfl, hv3, hb⟩; refine ⟨_, rfl, ?_⟩; have n0_ := Aside0.mk (below_step (by repeat (first | (with_reducible first | exact HB.out | apply below_alloc | apply pw_below_drewN | apply below_drew1 | refine below_set ?_ GE1.out) | exact HB.out)) hb); have n1_ := Aside0.mk (blk_below (g := g1) (o := .cells #[.slice g.rA g.rl g.rc, .slice g.nA g.nl g.nc] 25 (0, 0)) (by (with_reducible repeat (first | refine blk_drewN ?_ _ | refine blk_drew ?_ | refine blk_alloc ?_ _)); exact BK1.out) hb); clear HB; clear BK1; have HB := n0_; have BK1 := n1_; clear n0_ n1_; clear hb; have HV := Aside0.mk hv3; clear hv3; obtain ⟨wA, wm, wc, rfl, hwv⟩ := HV.out; have HWL := Aside0.mk hwv; clear hwv HV)
  obtain ⟨wl, hwl⟩ : ∃ l, l = walkR g.NS g.R := ⟨_, rfl⟩
  have HFA := Aside0.mk (show ∀ x ∈ wl, ∃ n, find g.NS x = some n from fun x hx => walkR_find (R := g.R) (hwl ▸ hx))
  have hml : wl.length = wm := by rw [hwl]; exact HWL.out.1
  have hm40 : wm ≤ 40 := by have := walkR_len g.NS g.R; rw [← hml, hwl]; omega
  have hwl2 := HWL.out
  rw [← hwl] at hwl2
  have HWL2 := Aside0.mk hwl2
  clear HWL hwl2
  have HWE := Aside0.mk hwl
  clear hwl hc1_0 hc1_1
  obtain ⟨wb, hwb⟩ : ∃ w, w = w2_ := ⟨_, rfl⟩
  subst hwb
  have HX := Aside0.mk (Below.refl wb.heap.size wb)
  go_upto_region 4 with fail
  go_loopw [4, 5] (fun vo v wr => ∃ (i : Nat) (M : List Nd), i ≤ wm ∧ v = .int .i64 (i : Int) ∧ Aside0 (M = sorted g.NS (wl.take i)) ∧ Aside0 (wr.ownsRow wb.heap.size 40 6 vo i (nds M)) ∧ Aside0 (Below wb.heap.size wb wr)) (fun _ v _ => wm - (intOf v).toNat)
  case atStart => exact ⟨0, [], by omega, rfl, Aside0.mk rfl, Aside0.mk (World.ownsRow_nil _ _ _ _), HX⟩
  case round =>
    clear HX
    obtain ⟨i, M, hi_, rfl, HM, ROW, HX⟩ := hrel
    by_cases hgo : i < wm
    · have hd : decide ((i : Int) < (wm : Int)) = true := decide_eq_true (by omega)
      have HMl := Aside0.mk (row40_len ROW.out)
      obtain ⟨va, vc, hvs⟩ := row40_slice ROW.out
      subst hvs
      obtain ⟨wo, hwo⟩ : ∃ w, w = wr := ⟨_, rfl⟩
      subst hwo
      obtain ⟨yl, e, hyb, hyc⟩ := (HWL2.out.kept (fun k hk => HX.out.block k hk)).2 i hgo
      subst e
      obtain ⟨x, hx_⟩ : ∃ x, x = wl.getD i 0 := ⟨_, rfl⟩
      rw [← hx_] at hyc
      obtain ⟨nq, hnq⟩ := HFA.out x (by rw [hx_, List.getD_eq_getElem?_getD, List.getElem?_eq_getElem (by omega)]; exact List.getElem_mem _)
      have HXL := Aside0.mk hx_
      clear hx_
      rcases pos_or (NS := g.NS) (x := x) rfl with ⟨_, hno⟩ | ⟨k, hp1, hkl, hfk⟩
      · rw [hnq] at hno; cases hno
      · have HP := Aside0.mk hp1.symm
        clear hnq hp1
        obtain ⟨yn, en, hyn, hq0, hq1, hq2, hq3, hq4, hq5⟩ := node_at (HG.out.kept fun k hk => (HB.out.trans (HX.out.mono HB.out.size)).block k (by omega)) hkl
        have EN := Aside0.mk en
        clear en
        obtain ⟨q, hq⟩ : ∃ q, q = g.NS.getD k default := ⟨_, rfl⟩
        rw [← hq] at hq0 hq1 hq2 hq3 hq4 hq5 hfk
        have HFQ := Aside0.mk hfk
        clear hq hfk
        have hi1n : i + 1 ≤ wm := by omega
        have hi0 : (0 : Int) ≤ (i : Int) := by omega
        have hi1 : (i : Int) < (wm : Int) := by omega
        have hk0 : (0 : Int) ≤ (k : Int) := by omega
        have hk1 : (k : Int) < (g.nl : Int) := by omega
        go_upto_region 6 with fail
        have HR := Aside0.mk (Below.refl wo.heap.size wo)
        have US := Aside0.mk (show 0 < wo.drew.heap.size from Nat.lt_of_le_of_lt (Nat.zero_le _) (cell_lt hyc))
        refine start_ (n := 12) (S := fun w' => True) (ds := []) #[false, false, false, false, false, false, false, false, false, false, false, false] (by kernel_rfl) rfl rfl trivial (fun hHeld => ?_)
        refine with_tabW nd6.tab6 nd6.bits6 (fun HT_ HW_ => ?_)
        refine inv_at [0, 1, 2, 3, 4, 5, 6, 7, 8, 9, 10, 11] (fun a0_ b a w' => ∃ (gn : Nat) (m10_ : Value), a = putSel a0_ b [(0, 16, .pointer (some ⟨g1, 1, none⟩)), (1, 17, .slice (some yn) g.nl g.nc), (2, 18, .agg #[.slice g.rA g.rl g.rc, .slice g.nA g.nl g.nc]), (3, 19, .slice (some yl) wm wc), (4, 20, .int .i64 (i : Int)), (5, 21, .pointer (some (yl.add i))), (6, 22, .int .i64 x), (7, 23, .int .i64 (k : Int)), (8, 24, .pointer (some (yn.add (k * 6)))), (9, 25, .agg #[.int .i64 q.adr, .int .i64 q.refs, .int .i64 q.sl, .int .i64 q.words, .slice q.A q.m q.c, .slice q.B q.n q.d]), (10, 6, m10_)] ∧ (Below wo.heap.size wo w') ∧ (b 10 = true → b 11 = false → w'.heap[gn]? = some (.cells #[.int .i64 0, .int .i64 0, .int .i64 0, .int .i64 0, .slice none 0 0, .slice none 0 0] 40 (0, 0)) ∧ wo.heap.size ≤ gn) ∧ (b 11 = true → w'.heap[gn]? = some (.cells #[.int .i64 q.adr, .int .i64 q.refs, .int .i64 q.sl, .int .i64 q.words, .slice q.A q.m q.c, .slice q.B q.n q.d] 40 (0, 0)) ∧ wo.heap.size ≤ gn) ∧ (b 10 = true → (m10_ : Value) = .pointer (some ⟨gn, 0, none⟩))) HT_.out HW_.out (by kernel_rfl) (by kernel_rfl) ?_ ?_ ?_
        · exact ⟨0, .bool false, by simp only [putSel, Bool.false_eq_true, if_false], below_drew1 HR.out, fun h_ => absurd h_ (by decide), fun h_ => absurd h_ (by decide), fun h_ => absurd h_ (by decide)⟩
        · skip
          clear HR
          refine steps_cons ?_ ?_
          · rintro b a w' ⟨gn, m10_, ha, Q_HR, Q_BA, Q_BX, Q_X10_⟩ hb_ hon hoff
            refine ⟨_, rfl, fun K hK => ?_⟩
            have e1 : a.tmps[1]? = some (.pointer (some ⟨g1, 0, none⟩)) := by rw [ha]; exact (putSel_off rfl).trans rfl
            replace ha := Aside0.mk ha
            have HR := Aside0.mk Q_HR
            refine value_ (w1 := w') (v := .pointer (some ⟨g1, 1, none⟩)) (by rfl) rfl ?_ ?_
            · go_simp
              (try simp only [i64_w])
              try rfl
            refine hK.out _ _ ⟨gn, m10_, (by rw [ha.out]; exact putSel_upk 0 hb_ rfl rfl rfl), Q_HR, Q_BA, fun h0_ => absurd ((hoff 11 (by kernel_rfl)).symm.trans h0_) (by decide), Q_X10_⟩
          refine steps_cons ?_ ?_
          · rintro b a w' ⟨gn, m10_, ha, Q_HR, Q_BA, Q_BX, Q_X10_⟩ hb_ hon hoff
            refine ⟨_, rfl, fun K hK => ?_⟩
            have e16 : a.tmps[16]? = some (.pointer (some ⟨g1, 1, none⟩)) := by rw [ha]; exact putSel_on (e := (0, 16, .pointer (some ⟨g1, 1, none⟩))) 0 rfl rfl (hon 0 (by kernel_rfl)) rfl
            replace ha := Aside0.mk ha
            have HR := Aside0.mk Q_HR
            have hl17n : w'.cell? ⟨g1, 1, none⟩ = some (.slice (some yn) g.nl g.nc) := by rw [← EN.out]; exact (blk_cell (blk_below (blk_below BK1.out HX.out) HR.out) 1).trans rfl
            refine value_ (w1 := w') (v := .slice (some yn) g.nl g.nc) (by rfl) rfl ?_ ?_
            · go_simp
              (try simp only [i64_w])
              try rfl
            refine hK.out _ _ ⟨gn, m10_, (by rw [ha.out]; exact putSel_upk 1 hb_ rfl rfl rfl), Q_HR, Q_BA, fun h0_ => absurd ((hoff 11 (by kernel_rfl)).symm.trans h0_) (by decide), Q_X10_⟩
          refine steps_cons ?_ ?_
          · rintro b a w' ⟨gn, m10_, ha, Q_HR, Q_BA, Q_BX, Q_X10_⟩ hb_ hon hoff
            refine ⟨_, rfl, fun K hK => ?_⟩
            have e1 : a.tmps[1]? = some (.pointer (some ⟨g1, 0, none⟩)) := by rw [ha]; exact (putSel_off rfl).trans rfl
            replace ha := Aside0.mk ha
            have HR := Aside0.mk Q_HR
            have hl18_0 : w'.cell? ⟨g1, 0, none⟩ = some (.slice g.rA g.rl g.rc) := (blk_cell (blk_below (blk_below BK1.out HX.out) HR.out) 0).trans rfl
            have hl18_1 : w'.cell? ⟨g1, 1, none⟩ = some (.slice g.nA g.nl g.nc) := (blk_cell (blk_below (blk_below BK1.out HX.out) HR.out) 1).trans rfl
            refine value_ (w1 := w') (v := .agg #[.slice g.rA g.rl g.rc, .slice g.nA g.nl g.nc]) (by rfl) rfl ?_ ?_
            · go_simp
              (try simp only [i64_w])
              try rfl
            refine hK.out _ _ ⟨gn, m10_, (by rw [ha.out]; exact putSel_upk 2 hb_ rfl rfl rfl), Q_HR, Q_BA, fun h0_ => absurd ((hoff 11 (by kernel_rfl)).symm.trans h0_) (by decide), Q_X10_⟩
          refine steps_cons ?_ ?_
          · rintro b a w' ⟨gn, m10_, ha, Q_HR, Q_BA, Q_BX, Q_X10_⟩ hb_ hon hoff
            refine ⟨_, rfl, fun K hK => ?_⟩
            have e3 : a.tmps[3]? = some (.slice (some yl) wm wc) := by rw [ha]; exact (putSel_off rfl).trans rfl
            replace ha := Aside0.mk ha
            have HR := Aside0.mk Q_HR
            refine value_ (w1 := w') (v := .slice (some yl) wm wc) (by rfl) rfl ?_ ?_
            · go_simp
              (try simp only [i64_w])
              try rfl
            refine hK.out _ _ ⟨gn, m10_, (by rw [ha.out]; exact putSel_upk 3 hb_ rfl rfl rfl), Q_HR, Q_BA, fun h0_ => absurd ((hoff 11 (by kernel_rfl)).symm.trans h0_) (by decide), Q_X10_⟩
          refine steps_cons ?_ ?_
          · rintro b a w' ⟨gn, m10_, ha, Q_HR, Q_BA, Q_BX, Q_X10_⟩ hb_ hon hoff
            refine ⟨_, rfl, fun K hK => ?_⟩
            have e5 : a.tmps[5]? = some (.int .i64 (i : Int)) := by rw [ha]; exact (putSel_off rfl).trans rfl
            replace ha := Aside0.mk ha
            have HR := Aside0.mk Q_HR
            refine value_ (w1 := w') (v := .int .i64 (i : Int)) (by rfl) rfl ?_ ?_
            · go_simp
              (try simp only [i64_w])
              try rfl
            refine hK.out _ _ ⟨gn, m10_, (by rw [ha.out]; exact putSel_upk 4 hb_ rfl rfl rfl), Q_HR, Q_BA, fun h0_ => absurd ((hoff 11 (by kernel_rfl)).symm.trans h0_) (by decide), Q_X10_⟩
          refine steps_cons ?_ ?_
          · rintro b a w' ⟨gn, m10_, ha, Q_HR, Q_BA, Q_BX, Q_X10_⟩ hb_ hon hoff
            refine ⟨_, rfl, fun K hK => ?_⟩
            have e19 : a.tmps[19]? = some (.slice (some yl) wm wc) := by rw [ha]; exact putSel_on (e := (3, 19, .slice (some yl) wm wc)) 3 rfl rfl (hon 3 (by kernel_rfl)) rfl
            have e20 : a.tmps[20]? = some (.int .i64 (i : Int)) := by rw [ha]; exact putSel_on (e := (4, 20, .int .i64 (i : Int))) 4 rfl rfl (hon 4 (by kernel_rfl)) rfl
            replace ha := Aside0.mk ha
            have HR := Aside0.mk Q_HR
            refine value_ (w1 := w') (v := .pointer (some (yl.add i))) (by rfl) rfl ?_ ?_
            · go_simp
              (try simp only [i64_w])
              try rfl
            refine hK.out _ _ ⟨gn, m10_, (by rw [ha.out]; exact putSel_upk 5 hb_ rfl rfl rfl), Q_HR, Q_BA, fun h0_ => absurd ((hoff 11 (by kernel_rfl)).symm.trans h0_) (by decide), Q_X10_⟩
          refine steps_cons ?_ ?_
          · rintro b a w' ⟨gn, m10_, ha, Q_HR, Q_BA, Q_BX, Q_X10_⟩ hb_ hon hoff
            refine ⟨_, rfl, fun K hK => ?_⟩
            have e21 : a.tmps[21]? = some (.pointer (some (yl.add i))) := by rw [ha]; exact putSel_on (e := (5, 21, .pointer (some (yl.add i)))) 5 rfl rfl (hon 5 (by kernel_rfl)) rfl
            replace ha := Aside0.mk ha
            have HR := Aside0.mk Q_HR
            have hl22 : w'.cell? (yl.add i) = some (.int .i64 x) := (HR.out.cell (p := yl.add i) (cell_lt hyc)).trans hyc
            refine value_ (w1 := w') (v := .int .i64 x) (by rfl) rfl ?_ ?_
            · go_simp
              (try simp only [i64_w])
              try rfl
            refine hK.out _ _ ⟨gn, m10_, (by rw [ha.out]; exact putSel_upk 6 hb_ rfl rfl rfl), Q_HR, Q_BA, fun h0_ => absurd ((hoff 11 (by kernel_rfl)).symm.trans h0_) (by decide), Q_X10_⟩
          refine steps_cons ?_ ?_
          · rintro b a w' ⟨gn, m10_, ha, Q_HR, Q_BA, Q_BX, Q_X10_⟩ hb_ hon hoff
            refine ⟨_, rfl, fun K hK => ?_⟩
            have e18 : a.tmps[18]? = some (.agg #[.slice g.rA g.rl g.rc, .slice g.nA g.nl g.nc]) := by rw [ha]; exact putSel_on (e := (2, 18, .agg #[.slice g.rA g.rl g.rc, .slice g.nA g.nl g.nc])) 2 rfl rfl (hon 2 (by kernel_rfl)) rfl
            have e22 : a.tmps[22]? = some (.int .i64 x) := by rw [ha]; exact putSel_on (e := (6, 22, .int .i64 x)) 6 rfl rfl (hon 6 (by kernel_rfl)) rfl
            replace ha := Aside0.mk ha
            have HR := Aside0.mk Q_HR
            refine goes_ Try.func30 (by kernel_rfl) rfl #[.agg #[.slice g.rA g.rl g.rc, .slice g.nA g.nl g.nc], .int .i64 x] (by rfl) rfl rfl (by first | (simp only [List.map_toArray, List.map_cons, List.map_nil, Act.eval, Array.getD_eq_getD_getElem?, Option.getD_some, e18, e22]; done) | (simp only [List.map_toArray, List.map_cons, List.map_nil, Act.eval, Array.getD_eq_getD_getElem?, Option.getD_some, e18, e22]; rfl)) ?_
            with_reducible refine (find_calls _ B (Nat.le_trans hB (Nat.le_trans HB.out.size (Nat.le_trans HX.out.size HR.out.size))) g (Aside0.mk (HG.out.kept fun k hk => ((HB.out.trans (HX.out.mono HB.out.size)).trans (HR.out.mono (Nat.le_trans HB.out.size HX.out.size))).block k (by omega))) hsm.n40 x (k : Int) HP).mono ?_
            rintro e w3 ⟨rfl, hb⟩
            refine ⟨_, rfl, ?_⟩
            refine hK.out _ _ ⟨gn, m10_, (by rw [ha.out]; exact putSel_upk 7 hb_ rfl rfl rfl), (below_step HR.out hb), fun h0_ h1_ => ⟨blk_below (Q_BA h0_ h1_).1 hb, (Q_BA h0_ h1_).2⟩, fun h0_ => absurd ((hoff 11 (by kernel_rfl)).symm.trans h0_) (by decide), Q_X10_⟩
          refine steps_cons ?_ ?_
          · rintro b a w' ⟨gn, m10_, ha, Q_HR, Q_BA, Q_BX, Q_X10_⟩ hb_ hon hoff
            refine ⟨_, rfl, fun K hK => ?_⟩
            have e17 : a.tmps[17]? = some (.slice (some yn) g.nl g.nc) := by rw [ha]; exact putSel_on (e := (1, 17, .slice (some yn) g.nl g.nc)) 1 rfl rfl (hon 1 (by kernel_rfl)) rfl
            have e23 : a.tmps[23]? = some (.int .i64 (k : Int)) := by rw [ha]; exact putSel_on (e := (7, 23, .int .i64 (k : Int))) 7 rfl rfl (hon 7 (by kernel_rfl)) rfl
            replace ha := Aside0.mk ha
            have HR := Aside0.mk Q_HR
            refine value_ (w1 := w') (v := .pointer (some (yn.add (k * 6)))) (by rfl) rfl ?_ ?_
            · go_simp
              (try simp only [i64_w])
              try rfl
            refine hK.out _ _ ⟨gn, m10_, (by rw [ha.out]; exact putSel_upk 8 hb_ rfl rfl rfl), Q_HR, Q_BA, fun h0_ => absurd ((hoff 11 (by kernel_rfl)).symm.trans h0_) (by decide), Q_X10_⟩
          refine steps_cons ?_ ?_
          · rintro b a w' ⟨gn, m10_, ha, Q_HR, Q_BA, Q_BX, Q_X10_⟩ hb_ hon hoff
            refine ⟨_, rfl, fun K hK => ?_⟩
            have e24 : a.tmps[24]? = some (.pointer (some (yn.add (k * 6)))) := by rw [ha]; exact putSel_on (e := (8, 24, .pointer (some (yn.add (k * 6))))) 8 rfl rfl (hon 8 (by kernel_rfl)) rfl
            replace ha := Aside0.mk ha
            have HR := Aside0.mk Q_HR
            have hz25_0 : w'.cell? (yn.add (k * 6)) = some (.int .i64 q.adr) := (HR.out.cell (p := (yn.add (k * 6))) (cell_lt hq0)).trans hq0
            have hz25_1 : w'.cell? { block := (yn.add (k * 6)).block, off := (yn.add (k * 6)).off + 1 } = some (.int .i64 q.refs) := (HR.out.cell (p := { block := (yn.add (k * 6)).block, off := (yn.add (k * 6)).off + 1 }) (cell_lt hq1)).trans hq1
            have hz25_2 : w'.cell? { block := (yn.add (k * 6)).block, off := (yn.add (k * 6)).off + 2 } = some (.int .i64 q.sl) := (HR.out.cell (p := { block := (yn.add (k * 6)).block, off := (yn.add (k * 6)).off + 2 }) (cell_lt hq2)).trans hq2
            have hz25_3 : w'.cell? { block := (yn.add (k * 6)).block, off := (yn.add (k * 6)).off + 3 } = some (.int .i64 q.words) := (HR.out.cell (p := { block := (yn.add (k * 6)).block, off := (yn.add (k * 6)).off + 3 }) (cell_lt hq3)).trans hq3
            have hz25_4 : w'.cell? { block := (yn.add (k * 6)).block, off := (yn.add (k * 6)).off + 4 } = some (.slice q.A q.m q.c) := (HR.out.cell (p := { block := (yn.add (k * 6)).block, off := (yn.add (k * 6)).off + 4 }) (cell_lt hq4)).trans hq4
            have hz25_5 : w'.cell? { block := (yn.add (k * 6)).block, off := (yn.add (k * 6)).off + 5 } = some (.slice q.B q.n q.d) := (HR.out.cell (p := { block := (yn.add (k * 6)).block, off := (yn.add (k * 6)).off + 5 }) (cell_lt hq5)).trans hq5
            refine value_ (w1 := w') (v := .agg #[.int .i64 q.adr, .int .i64 q.refs, .int .i64 q.sl, .int .i64 q.words, .slice q.A q.m q.c, .slice q.B q.n q.d]) (by rfl) rfl ?_ ?_
            · go_simp
              (try simp only [i64_w])
              try rfl
            refine hK.out _ _ ⟨gn, m10_, (by rw [ha.out]; exact putSel_upk 9 hb_ rfl rfl rfl), Q_HR, Q_BA, fun h0_ => absurd ((hoff 11 (by kernel_rfl)).symm.trans h0_) (by decide), Q_X10_⟩
          refine steps_cons ?_ ?_
          · rintro b a w' ⟨gn, m10_, ha, Q_HR, Q_BA, Q_BX, Q_X10_⟩ hb_ hon hoff
            refine ⟨_, rfl, fun K hK => ?_⟩
            replace ha := Aside0.mk ha
            have HR := Aside0.mk Q_HR
            refine value_ (w1 := ?_) (v := ?_) (by rfl) rfl ?_ ?_
            rotate_left 2
            · go_simp
              constructor
              · rfl
              · rfl
            have hb := below_alloc (Below.refl w'.heap.size w') (.cells #[.int .i64 0, .int .i64 0, .int .i64 0, .int .i64 0, .slice none 0 0, .slice none 0 0] 40)
            refine hK.out _ _ ⟨w'.heap.size, (.pointer (some ⟨w'.heap.size, 0, none⟩)), (by rw [ha.out]; exact putSel_upk 10 hb_ rfl rfl rfl), (below_step HR.out hb), fun _ _ => ⟨blk_new w' (.cells #[.int .i64 0, .int .i64 0, .int .i64 0, .int .i64 0, .slice none 0 0, .slice none 0 0] 40), below_size HR.out⟩, fun h0_ => absurd ((hoff 11 (by kernel_rfl)).symm.trans h0_) (by decide), fun _ => rfl⟩
          refine steps_cons ?_ ?_
          · rintro b a w' ⟨gn, m10_, ha, Q_HR, Q_BA, Q_BX, Q_X10_⟩ hb_ hon hoff
            refine ⟨_, rfl, fun K hK => ?_⟩
            have e6 : a.tmps[6]? = some (m10_) := by rw [ha]; exact putSel_on (e := (10, 6, m10_)) 10 rfl rfl (hon 10 (by kernel_rfl)) rfl
            rw [Q_X10_ (hon 10 (by kernel_rfl))] at e6
            have e25 : a.tmps[25]? = some (.agg #[.int .i64 q.adr, .int .i64 q.refs, .int .i64 q.sl, .int .i64 q.words, .slice q.A q.m q.c, .slice q.B q.n q.d]) := by rw [ha]; exact putSel_on (e := (9, 25, .agg #[.int .i64 q.adr, .int .i64 q.refs, .int .i64 q.sl, .int .i64 q.words, .slice q.A q.m q.c, .slice q.B q.n q.d])) 9 rfl rfl (hon 9 (by kernel_rfl)) rfl
            replace ha := Aside0.mk ha
            have HR := Aside0.mk Q_HR
            have BA := Aside0.mk (Q_BA (hon 10 (by kernel_rfl)) hb_)
            have hq_0 : w'.cell? ⟨gn, 0, none⟩ = some (.int .i64 0) := (blk_cell BA.out.1 0).trans rfl
            have hq_1 : w'.cell? ⟨gn, 1, none⟩ = some (.int .i64 0) := (blk_cell BA.out.1 1).trans rfl
            have hq_2 : w'.cell? ⟨gn, 2, none⟩ = some (.int .i64 0) := (blk_cell BA.out.1 2).trans rfl
            have hq_3 : w'.cell? ⟨gn, 3, none⟩ = some (.int .i64 0) := (blk_cell BA.out.1 3).trans rfl
            have hq_4 : w'.cell? ⟨gn, 4, none⟩ = some (.slice none 0 0) := (blk_cell BA.out.1 4).trans rfl
            have hq_5 : w'.cell? ⟨gn, 5, none⟩ = some (.slice none 0 0) := (blk_cell BA.out.1 5).trans rfl
            have hf_0 := blk_frozen BA.out.1 0
            have hf_1 := blk_frozen BA.out.1 1
            have hf_2 := blk_frozen BA.out.1 2
            have hf_3 := blk_frozen BA.out.1 3
            have hf_4 := blk_frozen BA.out.1 4
            have hf_5 := blk_frozen BA.out.1 5
            refine skip_ (w1 := ?_) (by rfl) rfl ?_ ?_
            rotate_left
            · go_simp
              rfl
            refine hK.out _ _ ⟨gn, m10_, (by rw [ha.out]; exact putSel_none (v := undef) rfl), (by (repeat (refine below_set ?_ BA.out.2)); exact HR.out), fun _ h1_ => absurd ((up_self b 11).symm.trans h1_) (by decide), fun _ => ⟨(by (with_reducible repeat (first | refine blk_drewN ?_ _ | refine blk_drew ?_ | refine blk_alloc ?_ _)); refine blk_put (cs := #[.int .i64 q.adr, .int .i64 q.refs, .int .i64 q.sl, .int .i64 q.words, .slice q.A q.m q.c, .slice none 0 0]) ?_ 5 _ rfl; (with_reducible repeat (first | refine blk_drewN ?_ _ | refine blk_drew ?_ | refine blk_alloc ?_ _)); refine blk_put (cs := #[.int .i64 q.adr, .int .i64 q.refs, .int .i64 q.sl, .int .i64 q.words, .slice none 0 0, .slice none 0 0]) ?_ 4 _ rfl; (with_reducible repeat (first | refine blk_drewN ?_ _ | refine blk_drew ?_ | refine blk_alloc ?_ _)); refine blk_put (cs := #[.int .i64 q.adr, .int .i64 q.refs, .int .i64 q.sl, .int .i64 0, .slice none 0 0, .slice none 0 0]) ?_ 3 _ rfl; (with_reducible repeat (first | refine blk_drewN ?_ _ | refine blk_drew ?_ | refine blk_alloc ?_ _)); refine blk_put (cs := #[.int .i64 q.adr, .int .i64 q.refs, .int .i64 0, .int .i64 0, .slice none 0 0, .slice none 0 0]) ?_ 2 _ rfl; (with_reducible repeat (first | refine blk_drewN ?_ _ | refine blk_drew ?_ | refine blk_alloc ?_ _)); refine blk_put (cs := #[.int .i64 q.adr, .int .i64 0, .int .i64 0, .int .i64 0, .slice none 0 0, .slice none 0 0]) ?_ 1 _ rfl; (with_reducible repeat (first | refine blk_drewN ?_ _ | refine blk_drew ?_ | refine blk_alloc ?_ _)); refine blk_put (cs := #[.int .i64 0, .int .i64 0, .int .i64 0, .int .i64 0, .slice none 0 0, .slice none 0 0]) ?_ 0 _ rfl; (with_reducible repeat (first | refine blk_drewN ?_ _ | refine blk_drew ?_ | refine blk_alloc ?_ _)); exact BA.out.1), BA.out.2⟩, Q_X10_⟩
          exact steps_nil
        rintro b a wx hall ⟨gn, m10_, ha, Q_HR, Q_BA, Q_BX, Q_X10_⟩
        clear HR
        have hb0_ := hall 0 (by kernel_rfl)
        have hb1_ := hall 1 (by kernel_rfl)
        have hb2_ := hall 2 (by kernel_rfl)
        have hb3_ := hall 3 (by kernel_rfl)
        have hb4_ := hall 4 (by kernel_rfl)
        have hb5_ := hall 5 (by kernel_rfl)
        have hb6_ := hall 6 (by kernel_rfl)
        have hb7_ := hall 7 (by kernel_rfl)
        have hb8_ := hall 8 (by kernel_rfl)
        have hb9_ := hall 9 (by kernel_rfl)
        have hb10_ := hall 10 (by kernel_rfl)
        have hb11_ := hall 11 (by kernel_rfl)
        subst ha
        obtain rfl := Q_X10_ hb10_
        simp only [putSel, hb0_, hb1_, hb2_, hb3_, hb4_, hb5_, hb6_, hb7_, hb8_, hb9_, hb10_, hb11_, if_true, Act.put, List.setIfInBounds_toArray, List.set_cons_zero, List.set_cons_succ]
        have HR := Aside0.mk Q_HR
        clear Q_HR
        clear Q_BA
        have BX := Aside0.mk (Q_BX hb11_)
        clear Q_BX
        clear hall hb0_ hb1_ hb2_ hb3_ hb4_ hb5_ hb6_ hb7_ hb8_ hb9_ hb10_ hb11_
        have HXX := Aside0.mk (below_step HX.out HR.out)
        have ROWX := Aside0.mk (Di.row_below ROW.out HR.out)
        have hx_0 : wx.cell? ⟨gn, 0, none⟩ = some (.int .i64 q.adr) := (blk_cell BX.out.1 0).trans rfl
        have hx_1 : wx.cell? ⟨gn, 1, none⟩ = some (.int .i64 q.refs) := (blk_cell BX.out.1 1).trans rfl
        have hx_2 : wx.cell? ⟨gn, 2, none⟩ = some (.int .i64 q.sl) := (blk_cell BX.out.1 2).trans rfl
        have hx_3 : wx.cell? ⟨gn, 3, none⟩ = some (.int .i64 q.words) := (blk_cell BX.out.1 3).trans rfl
        have hx_4 : wx.cell? ⟨gn, 4, none⟩ = some (.slice q.A q.m q.c) := (blk_cell BX.out.1 4).trans rfl
        have hx_5 : wx.cell? ⟨gn, 5, none⟩ = some (.slice q.B q.n q.d) := (blk_cell BX.out.1 5).trans rfl
        go_upto_region 9 with (at_builtin; refine wpList_append_own_at _ rfl (.tmp 28) (.tmp 30) 23 rfl wb.heap.size 40 i0 (.agg #[.int .i64 0, .int .i64 0, .int .i64 0, .int .i64 0, .slice none 0 0, .slice none 0 0]) 6 80 Try.underlying23 hi hz0 hz1 hz2 rfl (by decide) (.slice va i vc) i (nds M) rfl (ROWX.out.alloc _) ⟨wx.heap.size, 0, none⟩ 1 1 q.cells rfl rfl (nd_cells (blk_new wx _)) ?qo1 (by unfold maxLen; omega) (by omega) ?qb1 ?_; (case qo1 => intro u hu; simp at hu; rcases hu with rfl | rfl | rfl | rfl | rfl | rfl <;> rfl); (case qb1 => rw [World.size_alloc]; have := HXX.out.size; omega); intro v' w5 hown' hg1 _ hat; obtain ⟨gy, c5, rfl, hr5, hb5, hn5, hne5⟩ := pushed HXX.out (Nat.le_refl _) ROWX.out BX.out.1 (fun k e => Nat.ne_of_lt (Nat.lt_of_lt_of_le (ROW.out.lt k e).2 BX.out.2)) hown' hg1 hat; rw [← nds_snoc] at hr5; have ROW5 := Aside0.mk hr5; have HX5 := Aside0.mk hb5; have BN5 := Aside0.mk hn5; have NE5 := Aside0.mk hne5; clear hown' hg1 hat hr5 hb5 hn5 hne5)
        clear HX ROWX HXX HR
        have hbk := BN5
        go_loopw [7] (fun v wr => ∃ (p : Nat) (L : List Nd), p ≤ i ∧ v = .int .i64 (p : Int) ∧ Aside0 (p ≤ M.length ∧ ∃ h, L = M.take p ++ h :: M.drop p) ∧ Aside0 (wr.ownsRow wb.heap.size 40 6 (.slice (some ⟨gy, 0, none⟩) (i + 1) c5) (i + 1) (nds L)) ∧ Aside0 (Below wb.heap.size wb wr) ∧ Aside0 (wr.heap[gn]? = some (.cells #[.int .i64 q.adr, .int .i64 q.refs, .int .i64 q.sl, .int .i64 q.words, .slice q.A q.m q.c, .slice q.B q.n q.d] 40 (0, 0))) ∧ Aside0 (backR (adrs M) q.adr i = backR (adrs M) q.adr p)) (fun v _ => (intOf v).toNat)
        case atStart => exact ⟨i, M ++ [q], Nat.le_refl _, rfl, Aside0.mk ⟨by have := HMl.out; omega, q, by have e := HMl.out; rw [List.take_of_length_le (by omega), List.drop_eq_nil_of_le (by omega)]⟩, ROW5, HX5, BN5, Aside0.mk rfl⟩
        case round =>
          clear ROW HX5 BN5 ROW5 hbk BX
          obtain ⟨p, L, hp, rfl, HL, ROW, HX, BN, HBK⟩ := hrel
          obtain ⟨z, hz⟩ : ∃ z : Int, z = (p : Int) := ⟨_, rfl⟩
          rw [← hz]
          have HZ := Aside0.mk hz
          rcases p with _ | p
          · have hdp : decide (z > 0) = false := decide_eq_false (by omega)
            have hdp' : decide (0 < z) = false := decide_eq_false (by omega)
            have HEX := Aside0.mk (show backR (adrs M) q.adr 0 = 0 from rfl)
            have hj0 : (0 : Int) ≤ z := by omega
            have hj1 : z < (i : Int) + 1 := by omega
            have HZT := Aside0.mk (show z.toNat = 0 by omega)
            clear hz
            go_upto_region 9 with fail
            have HR := Aside0.mk (Below.refl wr.heap.size wr)
            refine start_ (n := 13) (S := fun w' => True) (ds := []) #[false, false, false, false, false, false, false, false, false, false, false, false, false] (by kernel_rfl) rfl rfl trivial (fun hHeld => ?_)
            refine with_tabW nd9.tab9 nd9.bits9 (fun HT_ HW_ => ?_)
            refine inv_at [0, 1, 2, 3, 4, 5, 6, 7, 8, 9, 10, 11, 12] (fun a0_ b a w' => a = putSel a0_ b [(0, 32, .int .i64 z), (1, 33, .bool false), (2, 34, .bool false), (3, 35, undef), (4, 36, undef), (5, 37, undef), (6, 38, undef), (7, 39, undef), (8, 40, undef), (9, 41, undef), (10, 42, undef), (11, 43, undef), (12, 44, .bool false)] ∧ (Below wr.heap.size wr w')) HT_.out HW_.out (by kernel_rfl) (by kernel_rfl) ?_ ?_ ?_
            · exact ⟨by simp only [putSel, Bool.false_eq_true, if_false], below_drew1 HR.out⟩
            · skip
              clear HR
              refine steps_cons ?_ ?_
              · rintro b a w' ⟨ha, Q_HR⟩ hb_ hon hoff
                refine ⟨_, rfl, fun K hK => ?_⟩
                have e7 : a.tmps[7]? = some (.int .i64 z) := by rw [ha]; exact (putSel_off rfl).trans rfl
                replace ha := Aside0.mk ha
                have HR := Aside0.mk Q_HR
                refine value_ (w1 := w') (v := .int .i64 z) (by rfl) rfl ?_ ?_
                · go_simp
                  (try simp only [i64_w])
                  try rfl
                refine hK.out _ _ ⟨(by rw [ha.out]; exact putSel_upk 0 hb_ rfl rfl rfl), Q_HR⟩
              refine steps_cons ?_ ?_
              · rintro b a w' ⟨ha, Q_HR⟩ hb_ hon hoff
                refine ⟨_, rfl, fun K hK => ?_⟩
                have e32 : a.tmps[32]? = some (.int .i64 z) := by rw [ha]; exact putSel_on (e := (0, 32, .int .i64 z)) 0 rfl rfl (hon 0 (by kernel_rfl)) rfl
                replace ha := Aside0.mk ha
                have HR := Aside0.mk Q_HR
                refine value_ (w1 := w') (v := .bool false) (by rfl) rfl ?_ ?_
                · go_simp
                  (try simp only [i64_w])
                  try rfl
                refine hK.out _ _ ⟨(by rw [ha.out]; exact putSel_upk 1 hb_ rfl rfl rfl), Q_HR⟩
              refine steps_cons ?_ ?_
              · rintro b a w' ⟨ha, Q_HR⟩ hb_ hon hoff
                refine ⟨_, rfl, fun K hK => ?_⟩
                have e33 : a.tmps[33]? = some (.bool false) := by rw [ha]; exact putSel_on (e := (1, 33, .bool false)) 1 rfl rfl (hon 1 (by kernel_rfl)) rfl
                replace ha := Aside0.mk ha
                have HR := Aside0.mk Q_HR
                refine value_ (w1 := w') (v := .bool false) (by rfl) rfl ?_ ?_
                · go_simp
                  (try simp only [i64_w])
                  try rfl
                refine hK.out _ _ ⟨(by rw [ha.out]; exact putSel_upk 2 hb_ rfl rfl rfl), Q_HR⟩
              refine steps_cons ?_ ?_
              · rintro b a w' ⟨ha, Q_HR⟩ hb_ hon hoff
                refine ⟨_, rfl, fun K hK => ?_⟩
                have e34 : a.tmps[34]? = some (.bool false) := by rw [ha]; exact putSel_on (e := (2, 34, .bool false)) 2 rfl rfl (hon 2 (by kernel_rfl)) rfl
                replace ha := Aside0.mk ha
                have HR := Aside0.mk Q_HR
                refine off_ (wanted_off rfl rfl rfl (e34.trans (by first | rfl | (simp [*]; done)))) ?_
                refine hK.out _ _ ⟨(by rw [ha.out]; exact putSel_upk 3 hb_ rfl rfl rfl), Q_HR⟩
              refine steps_cons ?_ ?_
              · rintro b a w' ⟨ha, Q_HR⟩ hb_ hon hoff
                refine ⟨_, rfl, fun K hK => ?_⟩
                have e34 : a.tmps[34]? = some (.bool false) := by rw [ha]; exact putSel_on (e := (2, 34, .bool false)) 2 rfl rfl (hon 2 (by kernel_rfl)) rfl
                replace ha := Aside0.mk ha
                have HR := Aside0.mk Q_HR
                refine off_ (wanted_off rfl rfl rfl (e34.trans (by first | rfl | (simp [*]; done)))) ?_
                refine hK.out _ _ ⟨(by rw [ha.out]; exact putSel_upk 4 hb_ rfl rfl rfl), Q_HR⟩
              refine steps_cons ?_ ?_
              · rintro b a w' ⟨ha, Q_HR⟩ hb_ hon hoff
                refine ⟨_, rfl, fun K hK => ?_⟩
                have e34 : a.tmps[34]? = some (.bool false) := by rw [ha]; exact putSel_on (e := (2, 34, .bool false)) 2 rfl rfl (hon 2 (by kernel_rfl)) rfl
                replace ha := Aside0.mk ha
                have HR := Aside0.mk Q_HR
                refine off_ (wanted_off rfl rfl rfl (e34.trans (by first | rfl | (simp [*]; done)))) ?_
                refine hK.out _ _ ⟨(by rw [ha.out]; exact putSel_upk 5 hb_ rfl rfl rfl), Q_HR⟩
              refine steps_cons ?_ ?_
              · rintro b a w' ⟨ha, Q_HR⟩ hb_ hon hoff
                refine ⟨_, rfl, fun K hK => ?_⟩
                have e34 : a.tmps[34]? = some (.bool false) := by rw [ha]; exact putSel_on (e := (2, 34, .bool false)) 2 rfl rfl (hon 2 (by kernel_rfl)) rfl
                replace ha := Aside0.mk ha
                have HR := Aside0.mk Q_HR
                refine off_ (wanted_off rfl rfl rfl (e34.trans (by first | rfl | (simp [*]; done)))) ?_
                refine hK.out _ _ ⟨(by rw [ha.out]; exact putSel_upk 6 hb_ rfl rfl rfl), Q_HR⟩
              refine steps_cons ?_ ?_
              · rintro b a w' ⟨ha, Q_HR⟩ hb_ hon hoff
                refine ⟨_, rfl, fun K hK => ?_⟩
                have e34 : a.tmps[34]? = some (.bool false) := by rw [ha]; exact putSel_on (e := (2, 34, .bool false)) 2 rfl rfl (hon 2 (by kernel_rfl)) rfl
                replace ha := Aside0.mk ha
                have HR := Aside0.mk Q_HR
                refine off_ (wanted_off rfl rfl rfl (e34.trans (by first | rfl | (simp [*]; done)))) ?_
                refine hK.out _ _ ⟨(by rw [ha.out]; exact putSel_upk 7 hb_ rfl rfl rfl), Q_HR⟩
              refine steps_cons ?_ ?_
              · rintro b a w' ⟨ha, Q_HR⟩ hb_ hon hoff
                refine ⟨_, rfl, fun K hK => ?_⟩
                have e34 : a.tmps[34]? = some (.bool false) := by rw [ha]; exact putSel_on (e := (2, 34, .bool false)) 2 rfl rfl (hon 2 (by kernel_rfl)) rfl
                replace ha := Aside0.mk ha
                have HR := Aside0.mk Q_HR
                refine off_ (wanted_off rfl rfl rfl (e34.trans (by first | rfl | (simp [*]; done)))) ?_
                refine hK.out _ _ ⟨(by rw [ha.out]; exact putSel_upk 8 hb_ rfl rfl rfl), Q_HR⟩
              refine steps_cons ?_ ?_
              · rintro b a w' ⟨ha, Q_HR⟩ hb_ hon hoff
                refine ⟨_, rfl, fun K hK => ?_⟩
                have e34 : a.tmps[34]? = some (.bool false) := by rw [ha]; exact putSel_on (e := (2, 34, .bool false)) 2 rfl rfl (hon 2 (by kernel_rfl)) rfl
                replace ha := Aside0.mk ha
                have HR := Aside0.mk Q_HR
                refine off_ (wanted_off rfl rfl rfl (e34.trans (by first | rfl | (simp [*]; done)))) ?_
                refine hK.out _ _ ⟨(by rw [ha.out]; exact putSel_upk 9 hb_ rfl rfl rfl), Q_HR⟩
              refine steps_cons ?_ ?_
              · rintro b a w' ⟨ha, Q_HR⟩ hb_ hon hoff
                refine ⟨_, rfl, fun K hK => ?_⟩
                have e34 : a.tmps[34]? = some (.bool false) := by rw [ha]; exact putSel_on (e := (2, 34, .bool false)) 2 rfl rfl (hon 2 (by kernel_rfl)) rfl
                replace ha := Aside0.mk ha
                have HR := Aside0.mk Q_HR
                refine off_ (wanted_off rfl rfl rfl (e34.trans (by first | rfl | (simp [*]; done)))) ?_
                refine hK.out _ _ ⟨(by rw [ha.out]; exact putSel_upk 10 hb_ rfl rfl rfl), Q_HR⟩
              refine steps_cons ?_ ?_
              · rintro b a w' ⟨ha, Q_HR⟩ hb_ hon hoff
                refine ⟨_, rfl, fun K hK => ?_⟩
                have e34 : a.tmps[34]? = some (.bool false) := by rw [ha]; exact putSel_on (e := (2, 34, .bool false)) 2 rfl rfl (hon 2 (by kernel_rfl)) rfl
                replace ha := Aside0.mk ha
                have HR := Aside0.mk Q_HR
                refine off_ (wanted_off rfl rfl rfl (e34.trans (by first | rfl | (simp [*]; done)))) ?_
                refine hK.out _ _ ⟨(by rw [ha.out]; exact putSel_upk 11 hb_ rfl rfl rfl), Q_HR⟩
              refine steps_cons ?_ ?_
              · rintro b a w' ⟨ha, Q_HR⟩ hb_ hon hoff
                refine ⟨_, rfl, fun K hK => ?_⟩
                have e34 : a.tmps[34]? = some (.bool false) := by rw [ha]; exact putSel_on (e := (2, 34, .bool false)) 2 rfl rfl (hon 2 (by kernel_rfl)) rfl
                have e43 : a.tmps[43]? = some (undef) := by rw [ha]; exact putSel_on (e := (11, 43, undef)) 11 rfl rfl (hon 11 (by kernel_rfl)) rfl
                replace ha := Aside0.mk ha
                have HR := Aside0.mk Q_HR
                refine value_ (w1 := w') (v := .bool false) (by rfl) rfl ?_ ?_
                · go_simp
                  (try simp only [i64_w])
                  try rfl
                refine hK.out _ _ ⟨(by rw [ha.out]; exact putSel_upk 12 hb_ rfl rfl rfl), Q_HR⟩
              exact steps_nil
            rintro b a wq hall ⟨ha, Q_HR⟩
            clear HR
            have hb0_ := hall 0 (by kernel_rfl)
            have hb1_ := hall 1 (by kernel_rfl)
            have hb2_ := hall 2 (by kernel_rfl)
            have hb3_ := hall 3 (by kernel_rfl)
            have hb4_ := hall 4 (by kernel_rfl)
            have hb5_ := hall 5 (by kernel_rfl)
            have hb6_ := hall 6 (by kernel_rfl)
            have hb7_ := hall 7 (by kernel_rfl)
            have hb8_ := hall 8 (by kernel_rfl)
            have hb9_ := hall 9 (by kernel_rfl)
            have hb10_ := hall 10 (by kernel_rfl)
            have hb11_ := hall 11 (by kernel_rfl)
            have hb12_ := hall 12 (by kernel_rfl)
            subst ha
            simp only [putSel, hb0_, hb1_, hb2_, hb3_, hb4_, hb5_, hb6_, hb7_, hb8_, hb9_, hb10_, hb11_, hb12_, if_true, Act.put, List.setIfInBounds_toArray, List.set_cons_zero, List.set_cons_succ]
            have HR := Aside0.mk Q_HR
            clear Q_HR
            clear hall hb0_ hb1_ hb2_ hb3_ hb4_ hb5_ hb6_ hb7_ hb8_ hb9_ hb10_ hb11_ hb12_
            have HXq := Aside0.mk (below_step HX.out HR.out)
            have ROWq := Aside0.mk (Di.row_below ROW.out HR.out)
            have BNq := Aside0.mk (blk_below BN.out HR.out)
            clear HX ROW BN HR
            have HX := HXq
            have ROW := ROWq
            have BN := BNq
            clear HXq ROWq BNq
            have hn_0 : wq.cell? ⟨gn, 0, none⟩ = some (.int .i64 q.adr) := (blk_cell BN.out 0).trans rfl
            have hn_1 : wq.cell? ⟨gn, 1, none⟩ = some (.int .i64 q.refs) := (blk_cell BN.out 1).trans rfl
            have hn_2 : wq.cell? ⟨gn, 2, none⟩ = some (.int .i64 q.sl) := (blk_cell BN.out 2).trans rfl
            have hn_3 : wq.cell? ⟨gn, 3, none⟩ = some (.int .i64 q.words) := (blk_cell BN.out 3).trans rfl
            have hn_4 : wq.cell? ⟨gn, 4, none⟩ = some (.slice q.A q.m q.c) := (blk_cell BN.out 4).trans rfl
            have hn_5 : wq.cell? ⟨gn, 5, none⟩ = some (.slice q.B q.n q.d) := (blk_cell BN.out 5).trans rfl
            obtain ⟨hf0, hf1, hf2, hf3, hf4, hf5⟩ := thaw6g ROW.out z.toNat
            obtain ⟨hs0, hs1, hs2, hs3, hs4, hs5⟩ := row6g ROW.out (i := z.toNat) (by have := HZT.out; omega)
            have hput := putg ROW.out (i := z.toNat) (by have := HZT.out; omega) q
            have e_ : L.set z.toNat q = M.take 0 ++ q :: M.drop 0 := by rw [HZT.out]; exact set_hole HL.out q
            rw [e_] at hput
            have RPUT := Aside0.mk hput.1
            have HPUT := Aside0.mk (Below.trans HX.out hput.2.2)
            have HINS := Aside0.mk (show M.take 0 ++ q :: M.drop 0 = sorted g.NS (wl.take (i + 1)) by rw [sorted_take (by omega) HM.out HXL.out HFQ.out]; unfold ins; rw [show backR (adrs M) q.adr M.length = 0 by rw [HMl.out, HBK.out]; exact HEX.out])
            clear hput e_
            go_wp2
            go_roundw
            case measure => exact meas_i hgo (by push_cast; rfl)
            case rel => exact ⟨i + 1, _, hi1n, by push_cast; rfl, HINS, RPUT, HPUT⟩
          · have hdp : decide (z > 0) = true := decide_eq_true (by omega)
            have hdp' : decide (0 < z) = true := decide_eq_true (by omega)
            obtain ⟨hgp, hstep⟩ := hole_step HL.out
            obtain ⟨hp0, hp1, hp2, hp3, hp4, hp5⟩ := row6g ROW.out (i := p) (by omega)
            rw [hgp] at hp0 hp1 hp2 hp3 hp4 hp5
            have hpk := adrs_getD M p
            obtain ⟨m, hm⟩ : ∃ m, m = M.getD p default := ⟨_, rfl⟩
            rw [← hm] at hp0 hp1 hp2 hp3 hp4 hp5 hstep hpk hgp
            have HST := Aside0.mk hstep
            have HPK := Aside0.mk hpk
            have HGP := Aside0.mk hgp
            clear hm hgp hstep hpk hp1 hp2 hp3 hp4 hp5
            have hj0 : (0 : Int) ≤ (p : Int) := by omega
            have hj1 : (p : Int) < (i : Int) + 1 := by omega
            have hj2 : (0 : Int) ≤ z := by omega
            have hj3 : z < (i : Int) + 1 := by omega
            have HZT := Aside0.mk (show z.toNat = p + 1 by omega)
            have hj2i : z.toNat < i + 1 := by omega
            obtain ⟨bb, hbb⟩ : ∃ b, decide (m.adr > q.adr) = b := ⟨_, rfl⟩
            have hbb' : decide (q.adr < m.adr) = bb := hbb
            have hwi : IntKind.i64.wrap (z - 1) = (p : Int) := by rw [i64_w, hz]; unfold wrap64; omega
            clear hz
            go_upto_region 9 with fail
            have HR := Aside0.mk (Below.refl wr.heap.size wr)
            refine start_ (n := 13) (S := fun w' => True) (ds := []) #[false, false, false, false, false, false, false, false, false, false, false, false, false] (by kernel_rfl) rfl rfl trivial (fun hHeld => ?_)
            refine with_tabW nd9.tab9 nd9.bits9 (fun HT_ HW_ => ?_)
            refine inv_at [0, 1, 2, 3, 4, 5, 6, 7, 8, 9, 10, 11, 12] (fun a0_ b a w' => a = putSel a0_ b [(0, 32, .int .i64 z), (1, 33, .bool true), (2, 34, .bool true), (3, 35, .slice (some ⟨gy, 0, none⟩) (i + 1) c5), (4, 36, .int .i64 z), (5, 37, .int .i64 (p : Int)), (6, 38, .pointer (some ⟨gy, p * 6, none⟩)), (7, 39, .pointer (some ⟨gy, p * 6, none⟩)), (8, 40, .int .i64 m.adr), (9, 41, .pointer (some ⟨gn, 0, none⟩)), (10, 42, .int .i64 q.adr), (11, 43, .bool bb), (12, 44, .bool bb)] ∧ (Below wr.heap.size wr w')) HT_.out HW_.out (by kernel_rfl) (by kernel_rfl) ?_ ?_ ?_
            · exact ⟨by simp only [putSel, Bool.false_eq_true, if_false], below_drew1 HR.out⟩
            · skip
              clear HR
              refine steps_cons ?_ ?_
              · rintro b a w' ⟨ha, Q_HR⟩ hb_ hon hoff
                refine ⟨_, rfl, fun K hK => ?_⟩
                have e7 : a.tmps[7]? = some (.int .i64 z) := by rw [ha]; exact (putSel_off rfl).trans rfl
                replace ha := Aside0.mk ha
                have HR := Aside0.mk Q_HR
                refine value_ (w1 := w') (v := .int .i64 z) (by rfl) rfl ?_ ?_
                · go_simp
                  (try simp only [i64_w])
                  try rfl
                refine hK.out _ _ ⟨(by rw [ha.out]; exact putSel_upk 0 hb_ rfl rfl rfl), Q_HR⟩
              refine steps_cons ?_ ?_
              · rintro b a w' ⟨ha, Q_HR⟩ hb_ hon hoff
                refine ⟨_, rfl, fun K hK => ?_⟩
                have e32 : a.tmps[32]? = some (.int .i64 z) := by rw [ha]; exact putSel_on (e := (0, 32, .int .i64 z)) 0 rfl rfl (hon 0 (by kernel_rfl)) rfl
                replace ha := Aside0.mk ha
                have HR := Aside0.mk Q_HR
                refine value_ (w1 := w') (v := .bool true) (by rfl) rfl ?_ ?_
                · go_simp
                  (try simp only [i64_w])
                  try rfl
                refine hK.out _ _ ⟨(by rw [ha.out]; exact putSel_upk 1 hb_ rfl rfl rfl), Q_HR⟩
              refine steps_cons ?_ ?_
              · rintro b a w' ⟨ha, Q_HR⟩ hb_ hon hoff
                refine ⟨_, rfl, fun K hK => ?_⟩
                have e33 : a.tmps[33]? = some (.bool true) := by rw [ha]; exact putSel_on (e := (1, 33, .bool true)) 1 rfl rfl (hon 1 (by kernel_rfl)) rfl
                replace ha := Aside0.mk ha
                have HR := Aside0.mk Q_HR
                refine value_ (w1 := w') (v := .bool true) (by rfl) rfl ?_ ?_
                · go_simp
                  (try simp only [i64_w])
                  try rfl
                refine hK.out _ _ ⟨(by rw [ha.out]; exact putSel_upk 2 hb_ rfl rfl rfl), Q_HR⟩
              refine steps_cons ?_ ?_
              · rintro b a w' ⟨ha, Q_HR⟩ hb_ hon hoff
                refine ⟨_, rfl, fun K hK => ?_⟩
                have e4 : a.tmps[4]? = some (.slice (some ⟨gy, 0, none⟩) (i + 1) c5) := by rw [ha]; exact (putSel_off rfl).trans rfl
                have e34 : a.tmps[34]? = some (.bool true) := by rw [ha]; exact putSel_on (e := (2, 34, .bool true)) 2 rfl rfl (hon 2 (by kernel_rfl)) rfl
                replace ha := Aside0.mk ha
                have HR := Aside0.mk Q_HR
                refine value_ (w1 := w') (v := .slice (some ⟨gy, 0, none⟩) (i + 1) c5) (wanted_on rfl rfl rfl (e34.trans (by first | rfl | (simp [*]; done)))) rfl ?_ ?_
                · go_simp
                  (try simp only [i64_w])
                  try rfl
                refine hK.out _ _ ⟨(by rw [ha.out]; exact putSel_upk 3 hb_ rfl rfl rfl), Q_HR⟩
              refine steps_cons ?_ ?_
              · rintro b a w' ⟨ha, Q_HR⟩ hb_ hon hoff
                refine ⟨_, rfl, fun K hK => ?_⟩
                have e7 : a.tmps[7]? = some (.int .i64 z) := by rw [ha]; exact (putSel_off rfl).trans rfl
                have e34 : a.tmps[34]? = some (.bool true) := by rw [ha]; exact putSel_on (e := (2, 34, .bool true)) 2 rfl rfl (hon 2 (by kernel_rfl)) rfl
                replace ha := Aside0.mk ha
                have HR := Aside0.mk Q_HR
                refine value_ (w1 := w') (v := .int .i64 z) (wanted_on rfl rfl rfl (e34.trans (by first | rfl | (simp [*]; done)))) rfl ?_ ?_
                · go_simp
                  (try simp only [i64_w])
                  try rfl
                refine hK.out _ _ ⟨(by rw [ha.out]; exact putSel_upk 4 hb_ rfl rfl rfl), Q_HR⟩
              refine steps_cons ?_ ?_
              · rintro b a w' ⟨ha, Q_HR⟩ hb_ hon hoff
                refine ⟨_, rfl, fun K hK => ?_⟩
                have e36 : a.tmps[36]? = some (.int .i64 z) := by rw [ha]; exact putSel_on (e := (4, 36, .int .i64 z)) 4 rfl rfl (hon 4 (by kernel_rfl)) rfl
                have e34 : a.tmps[34]? = some (.bool true) := by rw [ha]; exact putSel_on (e := (2, 34, .bool true)) 2 rfl rfl (hon 2 (by kernel_rfl)) rfl
                replace ha := Aside0.mk ha
                have HR := Aside0.mk Q_HR
                refine value_ (w1 := w') (v := .int .i64 (p : Int)) (wanted_on rfl rfl rfl (e34.trans (by first | rfl | (simp [*]; done)))) rfl ?_ ?_
                · go_simp
                  (try simp only [i64_w])
                  try rfl
                refine hK.out _ _ ⟨(by rw [ha.out]; exact putSel_upk 5 hb_ rfl rfl rfl), Q_HR⟩
              refine steps_cons ?_ ?_
              · rintro b a w' ⟨ha, Q_HR⟩ hb_ hon hoff
                refine ⟨_, rfl, fun K hK => ?_⟩
                have e35 : a.tmps[35]? = some (.slice (some ⟨gy, 0, none⟩) (i + 1) c5) := by rw [ha]; exact putSel_on (e := (3, 35, .slice (some ⟨gy, 0, none⟩) (i + 1) c5)) 3 rfl rfl (hon 3 (by kernel_rfl)) rfl
                have e37 : a.tmps[37]? = some (.int .i64 (p : Int)) := by rw [ha]; exact putSel_on (e := (5, 37, .int .i64 (p : Int))) 5 rfl rfl (hon 5 (by kernel_rfl)) rfl
                have e34 : a.tmps[34]? = some (.bool true) := by rw [ha]; exact putSel_on (e := (2, 34, .bool true)) 2 rfl rfl (hon 2 (by kernel_rfl)) rfl
                replace ha := Aside0.mk ha
                have HR := Aside0.mk Q_HR
                refine value_ (w1 := w') (v := .pointer (some ⟨gy, p * 6, none⟩)) (wanted_on rfl rfl rfl (e34.trans (by first | rfl | (simp [*]; done)))) rfl ?_ ?_
                · go_simp
                  (try simp only [i64_w])
                  try rfl
                refine hK.out _ _ ⟨(by rw [ha.out]; exact putSel_upk 6 hb_ rfl rfl rfl), Q_HR⟩
              refine steps_cons ?_ ?_
              · rintro b a w' ⟨ha, Q_HR⟩ hb_ hon hoff
                refine ⟨_, rfl, fun K hK => ?_⟩
                have e38 : a.tmps[38]? = some (.pointer (some ⟨gy, p * 6, none⟩)) := by rw [ha]; exact putSel_on (e := (6, 38, .pointer (some ⟨gy, p * 6, none⟩))) 6 rfl rfl (hon 6 (by kernel_rfl)) rfl
                have e34 : a.tmps[34]? = some (.bool true) := by rw [ha]; exact putSel_on (e := (2, 34, .bool true)) 2 rfl rfl (hon 2 (by kernel_rfl)) rfl
                replace ha := Aside0.mk ha
                have HR := Aside0.mk Q_HR
                refine value_ (w1 := w') (v := .pointer (some ⟨gy, p * 6, none⟩)) (wanted_on rfl rfl rfl (e34.trans (by first | rfl | (simp [*]; done)))) rfl ?_ ?_
                · go_simp
                  (try simp only [i64_w])
                  try rfl
                refine hK.out _ _ ⟨(by rw [ha.out]; exact putSel_upk 7 hb_ rfl rfl rfl), Q_HR⟩
              refine steps_cons ?_ ?_
              · rintro b a w' ⟨ha, Q_HR⟩ hb_ hon hoff
                refine ⟨_, rfl, fun K hK => ?_⟩
                have e39 : a.tmps[39]? = some (.pointer (some ⟨gy, p * 6, none⟩)) := by rw [ha]; exact putSel_on (e := (7, 39, .pointer (some ⟨gy, p * 6, none⟩))) 7 rfl rfl (hon 7 (by kernel_rfl)) rfl
                have e34 : a.tmps[34]? = some (.bool true) := by rw [ha]; exact putSel_on (e := (2, 34, .bool true)) 2 rfl rfl (hon 2 (by kernel_rfl)) rfl
                replace ha := Aside0.mk ha
                have HR := Aside0.mk Q_HR
                have hl40 : w'.cell? ⟨gy, p * 6, none⟩ = some (.int .i64 m.adr) := (HR.out.cell (p := ⟨gy, p * 6, none⟩) (cell_lt hp0)).trans hp0
                refine value_ (w1 := w') (v := .int .i64 m.adr) (wanted_on rfl rfl rfl (e34.trans (by first | rfl | (simp [*]; done)))) rfl ?_ ?_
                · go_simp
                  (try simp only [i64_w])
                  try rfl
                refine hK.out _ _ ⟨(by rw [ha.out]; exact putSel_upk 8 hb_ rfl rfl rfl), Q_HR⟩
              refine steps_cons ?_ ?_
              · rintro b a w' ⟨ha, Q_HR⟩ hb_ hon hoff
                refine ⟨_, rfl, fun K hK => ?_⟩
                have e6 : a.tmps[6]? = some (.pointer (some ⟨gn, 0, none⟩)) := by rw [ha]; exact (putSel_off rfl).trans rfl
                have e34 : a.tmps[34]? = some (.bool true) := by rw [ha]; exact putSel_on (e := (2, 34, .bool true)) 2 rfl rfl (hon 2 (by kernel_rfl)) rfl
                replace ha := Aside0.mk ha
                have HR := Aside0.mk Q_HR
                refine value_ (w1 := w') (v := .pointer (some ⟨gn, 0, none⟩)) (wanted_on rfl rfl rfl (e34.trans (by first | rfl | (simp [*]; done)))) rfl ?_ ?_
                · go_simp
                  (try simp only [i64_w])
                  try rfl
                refine hK.out _ _ ⟨(by rw [ha.out]; exact putSel_upk 9 hb_ rfl rfl rfl), Q_HR⟩
              refine steps_cons ?_ ?_
              · rintro b a w' ⟨ha, Q_HR⟩ hb_ hon hoff
                refine ⟨_, rfl, fun K hK => ?_⟩
                have e41 : a.tmps[41]? = some (.pointer (some ⟨gn, 0, none⟩)) := by rw [ha]; exact putSel_on (e := (9, 41, .pointer (some ⟨gn, 0, none⟩))) 9 rfl rfl (hon 9 (by kernel_rfl)) rfl
                have e34 : a.tmps[34]? = some (.bool true) := by rw [ha]; exact putSel_on (e := (2, 34, .bool true)) 2 rfl rfl (hon 2 (by kernel_rfl)) rfl
                replace ha := Aside0.mk ha
                have HR := Aside0.mk Q_HR
                have hl42 : w'.cell? ⟨gn, 0, none⟩ = some (.int .i64 q.adr) := (blk_cell (blk_below BN.out HR.out) 0).trans rfl
                refine value_ (w1 := w') (v := .int .i64 q.adr) (wanted_on rfl rfl rfl (e34.trans (by first | rfl | (simp [*]; done)))) rfl ?_ ?_
                · go_simp
                  (try simp only [i64_w])
                  try rfl
                refine hK.out _ _ ⟨(by rw [ha.out]; exact putSel_upk 10 hb_ rfl rfl rfl), Q_HR⟩
              refine steps_cons ?_ ?_
              · rintro b a w' ⟨ha, Q_HR⟩ hb_ hon hoff
                refine ⟨_, rfl, fun K hK => ?_⟩
                have e40 : a.tmps[40]? = some (.int .i64 m.adr) := by rw [ha]; exact putSel_on (e := (8, 40, .int .i64 m.adr)) 8 rfl rfl (hon 8 (by kernel_rfl)) rfl
                have e42 : a.tmps[42]? = some (.int .i64 q.adr) := by rw [ha]; exact putSel_on (e := (10, 42, .int .i64 q.adr)) 10 rfl rfl (hon 10 (by kernel_rfl)) rfl
                have e34 : a.tmps[34]? = some (.bool true) := by rw [ha]; exact putSel_on (e := (2, 34, .bool true)) 2 rfl rfl (hon 2 (by kernel_rfl)) rfl
                replace ha := Aside0.mk ha
                have HR := Aside0.mk Q_HR
                refine value_ (w1 := w') (v := .bool bb) (wanted_on rfl rfl rfl (e34.trans (by first | rfl | (simp [*]; done)))) rfl ?_ ?_
                · go_simp
                  (try simp only [i64_w])
                  try rfl
                refine hK.out _ _ ⟨(by rw [ha.out]; exact putSel_upk 11 hb_ rfl rfl rfl), Q_HR⟩
              refine steps_cons ?_ ?_
              · rintro b a w' ⟨ha, Q_HR⟩ hb_ hon hoff
                refine ⟨_, rfl, fun K hK => ?_⟩
                have e34 : a.tmps[34]? = some (.bool true) := by rw [ha]; exact putSel_on (e := (2, 34, .bool true)) 2 rfl rfl (hon 2 (by kernel_rfl)) rfl
                have e43 : a.tmps[43]? = some (.bool bb) := by rw [ha]; exact putSel_on (e := (11, 43, .bool bb)) 11 rfl rfl (hon 11 (by kernel_rfl)) rfl
                replace ha := Aside0.mk ha
                have HR := Aside0.mk Q_HR
                refine value_ (w1 := w') (v := .bool bb) (by rfl) rfl ?_ ?_
                · go_simp
                  (try simp only [i64_w])
                  try rfl
                refine hK.out _ _ ⟨(by rw [ha.out]; exact putSel_upk 12 hb_ rfl rfl rfl), Q_HR⟩
              exact steps_nil
            rintro b a wq hall ⟨ha, Q_HR⟩
            clear HR
            have hb0_ := hall 0 (by kernel_rfl)
            have hb1_ := hall 1 (by kernel_rfl)
            have hb2_ := hall 2 (by kernel_rfl)
            have hb3_ := hall 3 (by kernel_rfl)
            have hb4_ := hall 4 (by kernel_rfl)
            have hb5_ := hall 5 (by kernel_rfl)
            have hb6_ := hall 6 (by kernel_rfl)
            have hb7_ := hall 7 (by kernel_rfl)
            have hb8_ := hall 8 (by kernel_rfl)
            have hb9_ := hall 9 (by kernel_rfl)
            have hb10_ := hall 10 (by kernel_rfl)
            have hb11_ := hall 11 (by kernel_rfl)
            have hb12_ := hall 12 (by kernel_rfl)
            subst ha
            simp only [putSel, hb0_, hb1_, hb2_, hb3_, hb4_, hb5_, hb6_, hb7_, hb8_, hb9_, hb10_, hb11_, hb12_, if_true, Act.put, List.setIfInBounds_toArray, List.set_cons_zero, List.set_cons_succ]
            have HR := Aside0.mk Q_HR
            clear Q_HR
            clear hall hb0_ hb1_ hb2_ hb3_ hb4_ hb5_ hb6_ hb7_ hb8_ hb9_ hb10_ hb11_ hb12_
            clear hp0 hwi
            have hz1 : z - 1 = (p : Int) := by have := HZ.out; omega
            have hz2 : z.toNat - 1 = p := by have := HZ.out; omega
            have HXq := Aside0.mk (below_step HX.out HR.out)
            have ROWq := Aside0.mk (Di.row_below ROW.out HR.out)
            have BNq := Aside0.mk (blk_below BN.out HR.out)
            clear HX ROW BN HR
            have HX := HXq
            have ROW := ROWq
            have BN := BNq
            clear HXq ROWq BNq
            obtain ⟨hp0, hp1, hp2, hp3, hp4, hp5⟩ := row6g ROW.out (i := p) (by omega)
            rw [HGP.out] at hp0 hp1 hp2 hp3 hp4 hp5
            have hn_0 : wq.cell? ⟨gn, 0, none⟩ = some (.int .i64 q.adr) := (blk_cell BN.out 0).trans rfl
            have hn_1 : wq.cell? ⟨gn, 1, none⟩ = some (.int .i64 q.refs) := (blk_cell BN.out 1).trans rfl
            have hn_2 : wq.cell? ⟨gn, 2, none⟩ = some (.int .i64 q.sl) := (blk_cell BN.out 2).trans rfl
            have hn_3 : wq.cell? ⟨gn, 3, none⟩ = some (.int .i64 q.words) := (blk_cell BN.out 3).trans rfl
            have hn_4 : wq.cell? ⟨gn, 4, none⟩ = some (.slice q.A q.m q.c) := (blk_cell BN.out 4).trans rfl
            have hn_5 : wq.cell? ⟨gn, 5, none⟩ = some (.slice q.B q.n q.d) := (blk_cell BN.out 5).trans rfl
            by_cases hcmp : q.adr < m.adr
            · obtain rfl : true = bb := by rw [← hbb]; exact (decide_eq_true hcmp).symm
              clear hbb hbb'
              obtain ⟨hf0, hf1, hf2, hf3, hf4, hf5⟩ := thaw6g ROW.out z.toNat
              obtain ⟨hs0, hs1, hs2, hs3, hs4, hs5⟩ := row6g ROW.out (i := z.toNat) (by have := HZT.out; omega)
              have hput := putg ROW.out (i := z.toNat) (by have := HZT.out; omega) m
              have hst2 := HST.out
              rw [← HZT.out] at hst2
              have HST2 := Aside0.mk hst2
              clear hst2
              have RPUT := Aside0.mk hput.1
              have HPUT := Aside0.mk (Below.trans HX.out hput.2.2)
              have BPUT := Aside0.mk ((hput.2.1.block gn (blk_lt BN.out) (fun e => NE5.out (Option.some.inj e).symm)).trans BN.out)
              have HBK2 := Aside0.mk (show backR (adrs M) q.adr i = backR (adrs M) q.adr p by rw [HBK.out, show backR (adrs M) q.adr (p + 1) = if (adrs M).getD p 0 > q.adr then backR (adrs M) q.adr p else p + 1 from rfl, HPK.out, if_pos hcmp])
              have hpi : p ≤ i := by omega
              clear hput
              go_wp2
              go_roundw
              case measure => exact meas_z HZ.out
              case rel => exact ⟨p, _, hpi, rfl, HST2, RPUT, HPUT, BPUT, HBK2⟩
            · obtain rfl : false = bb := by rw [← hbb]; exact (decide_eq_false hcmp).symm
              clear hbb hbb'
              have HEX := Aside0.mk (show backR (adrs M) q.adr (p + 1) = p + 1 by rw [show backR (adrs M) q.adr (p + 1) = if (adrs M).getD p 0 > q.adr then backR (adrs M) q.adr p else p + 1 from rfl, HPK.out, if_neg hcmp])
              obtain ⟨hf0, hf1, hf2, hf3, hf4, hf5⟩ := thaw6g ROW.out z.toNat
              obtain ⟨hs0, hs1, hs2, hs3, hs4, hs5⟩ := row6g ROW.out (i := z.toNat) (by have := HZT.out; omega)
              have hput := putg ROW.out (i := z.toNat) (by have := HZT.out; omega) q
              have e_ : L.set z.toNat q = M.take (p + 1) ++ q :: M.drop (p + 1) := by rw [HZT.out]; exact set_hole HL.out q
              rw [e_] at hput
              have RPUT := Aside0.mk hput.1
              have HPUT := Aside0.mk (Below.trans HX.out hput.2.2)
              have HINS := Aside0.mk (show M.take (p + 1) ++ q :: M.drop (p + 1) = sorted g.NS (wl.take (i + 1)) by rw [sorted_take (by omega) HM.out HXL.out HFQ.out]; unfold ins; rw [show backR (adrs M) q.adr M.length = (p + 1) by rw [HMl.out, HBK.out]; exact HEX.out])
              clear hput e_
              go_wp2
              go_roundw
              case measure => exact meas_i hgo (by push_cast; rfl)
              case rel => exact ⟨i + 1, _, hi1n, by push_cast; rfl, HINS, RPUT, HPUT⟩
    · have hd : decide ((i : Int) < (wm : Int)) = false := decide_eq_false (by omega)
      obtain rfl : i = wm := by omega
      have hme : M = sorted g.NS wl := by rw [HM.out, List.take_of_length_le (by omega)]
      have hl := row40_len ROW.out
      have ROWZ := Aside0.mk (show wr.ownsRow W.heap.size 40 6 u4 (sorted g.NS wl).length (nds (sorted g.NS wl)) by rw [← hme, hl]; exact Di.row_mono ROW.out HB.out.size)
      have HZ := Aside0.mk (below_step HB.out HX.out)
      clear hl hme
      go_wp2
      go_ret
      refine ⟨_, rfl, ?_, HZ.out⟩
      rw [← HWE.out]
      exact ROWZ.out
end Go.Proofs.Ytekggbmajemmhaa.Gr
/- Apply: bare nodes, both ways. No condition. -/
namespace Go.Proofs.Ytekggbmajemmhaa.Gr
open Go.RowKit Go.Shelf Go.Maps Go.ChangeMaps Go.MapKept Go.Proofs.YtekggbmajemmhaaW.PrintWords Go.Proofs.YtekggbmajemmhaaW.PrintLast Go.Proofs.YtekggbmajemmhaaW.PrintMore
set_option linter.unusedSimpArgs false
set_option linter.unusedVariables false
theorem madeCells_rep (v : Value) (n : Nat) : madeCells #[v] n = Array.replicate n v := by
  apply Array.ext_getElem?
  intro i
  by_cases h : i < n
  · simp [madeCells, h, Nat.mod_one]
  · simp [madeCells, h]
theorem made38 (k : IntKind) (n : Nat) (hn : n ≤ 255) (w : World) : (Instr.makeSlice 38 (.int k (n : Int)) (.int k (n : Int))).run Try.prog w = .ok (.slice (some ⟨w.heap.size, 0, none⟩) n n) (w.alloc (.cells (Array.replicate n (.int .u64 0)) 42)) := by
  obtain ⟨i, hi, hz, hs, hb⟩ := info_parts info42
  have h := run_make (P := Try.prog) w 38 42 i (.int .u64 0) Try.underlying38 hi hz k k (n : Int) (n : Int) (by omega) (Int.le_refl _) (by rw [hb]; omega) (by omega)
  rw [h, hs, Nat.mul_one, Int.toNat_natCast]
  rw [show (Value.int .u64 0).cells = #[.int .u64 0] from rfl, madeCells_rep]
theorem made_list {W' : World} {g n B : Nat} (h : W'.heap[g]? = some (.cells (Array.replicate n (.int .u64 0)) 42 (0, 0))) (hB : g < B) : IL .u64 W' B (some ⟨g, 0, none⟩) n (List.replicate n 0) := by
  refine ⟨List.length_replicate, fun i hi => ⟨_, rfl, hB, ?_⟩⟩
  have ea : (⟨g, 0, none⟩ : Addr).add i = ⟨g, i, none⟩ := by unfold Addr.add; split <;> simp_all
  rw [ea, blk_cell h i]
  simp [hi]
theorem bareN_le (x : Int) : bareN x ≤ 255 := by unfold bareN; omega
set_option maxHeartbeats 4000000 in
set_option maxRecDepth 100000 in
theorem dbare_calls (w : World) (a x : Int) (hx : (Lit.int .u64 x).wf = true) : Calls Try.prog 36 #[.int .i64 a, .int .u64 x] w fun e W' => ∃ q : Nd, e = .returned q.val ∧ q.pn = bareP a x ∧ DL W' W'.heap.size q ∧ Below w.heap.size w W' := by
  obtain ⟨hx0, hx1⟩ : 0 ≤ x ∧ x ≤ 18446744073709551615 := by simpa [Lit.wf, IntKind.min, IntKind.max, IntKind.signed, IntKind.bits] using hx
  obtain ⟨n, hn⟩ : ∃ n, n = bareN x := ⟨_, rfl⟩
  have hn255 : n ≤ 255 := by rw [hn]; exact bareN_le x
  have HN := Aside0.mk hn
  have hmk := made38 .i64 n hn255
  have hmin : min x 255 = (n : Int) := by rw [hn]; unfold bareN; omega
  clear hn hx
  go_enter Try.func36, Try.ntmps36
  go_wp2
  have hb1 := blk_new (w.alloc (.cells #[.int .i64 a, .int .i64 0, .int .i64 0, .int .i64 (n : Int), .slice none 0 0, .slice (some ⟨w.heap.size + 1, 0, none⟩) n n] 40)) (.cells (Array.replicate n (.int .u64 0)) 42)
  rw [World.size_alloc] at hb1
  have hb0 := blk_alloc (blk_new w (.cells #[.int .i64 a, .int .i64 0, .int .i64 0, .int .i64 (n : Int), .slice none 0 0, .slice (some ⟨w.heap.size + 1, 0, none⟩) n n] 40)) (.cells (Array.replicate n (.int .u64 0)) 42)
  refine bodyPost_ret (results_cell_row rfl _ _ w.heap.size 40 #[.int .i64 a, .int .i64 0, .int .i64 0, .int .i64 (n : Int), .slice none 0 0, .slice (some ⟨w.heap.size + 1, 0, none⟩) n n] (0, 0) _ rfl hb0 Try.underlying40 rfl (by kernel_rfl)) rfl ?_
  refine ⟨⟨a, 0, 0, (n : Int), none, 0, 0, some ⟨w.heap.size + 1, 0, none⟩, n, n, [], List.replicate n 0⟩, rfl, ?_, ⟨⟨rfl, fun i hi => absurd hi (Nat.not_lt_zero i)⟩, made_list hb1 (by rw [World.size_alloc, World.size_alloc]; omega)⟩, below_alloc (below_alloc (Below.refl _ _) _) _⟩
  all_goals (try unfold bareP)
  all_goals (try rw [← HN.out])
  all_goals (try rfl)
end Go.Proofs.Ytekggbmajemmhaa.Gr
