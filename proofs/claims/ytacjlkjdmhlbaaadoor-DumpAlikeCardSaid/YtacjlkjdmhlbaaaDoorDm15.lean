/- Parts of one proof, set together: DoorDk13, DoorDk14, DoorDk15, DoorDp1, DoorDp2, DoorDk16, DoorDk17. What each says stands at its head; no condition beyond theirs. -/
import Derived.Test.YtacjlkjdmhlbaaaDoorDm14
/- Dump: Shape's closure (point). Conditions: the list, the map and the words so far lie in memory. -/
namespace Go.Proofs.YtacjlkjdmhlbaaaDoor.Gr
open Go.RowKit Go.Shelf Go.Maps Go.ChangeMaps Go.MapKept Go.Proofs.YtacjlkjdmhlbaaaDoorW.PrintWords Go.Proofs.YtacjlkjdmhlbaaaDoorW.PrintLast Go.Proofs.YtacjlkjdmhlbaaaDoorW.PrintMore
set_option linter.unusedSimpArgs false
set_option linter.unusedVariables false
theorem info32 : (Tryd.prog.info? 32).map (fun i => (i.zero, i.size, i.bytes)) = some (some (.int .u64 0), 1, 8) := by kernel_rfl
def u64s (l : List Int) : List Value := l.map (Value.int .u64)
theorem u64s_app (a b : List Int) : u64s (a ++ b) = u64s a ++ u64s b := by simp [u64s]
theorem u64s_len (a : List Int) : (u64s a).length = a.length := by simp [u64s]
/-- What stays: all blocks but one, and but rows of words. -/
def Kp (W W' : World) (g : Nat) : Prop := ∀ (j : Nat) (cs : Array Value) (t : TypeId), W.heap[j]? = some (.cells cs t (0, 0)) → t ≠ 32 → j ≠ g → W'.heap[j]? = some (.cells cs t (0, 0))
theorem Kp.refl (W : World) (g : Nat) : Kp W W g := fun _ _ _ h _ _ => h
theorem Kp.trans {a b c : World} {g : Nat} (h1 : Kp a b g) (h2 : Kp b c g) : Kp a c g := fun j cs t h ht hj => h2 j cs t (h1 j cs t h ht hj) ht hj
theorem Kp.below {a b : World} {g : Nat} (h : Below a.heap.size a b) : Kp a b g := fun j cs t hj _ _ => (h.block j (blk_lt hj)).trans hj
theorem Kp.grown {a b : World} {g X s n : Nat} {v : Value} {xs : List Value} (ho : a.ownsRow X 32 s v n xs) (hg : a.grownBy b v.ownBlock) : Kp a b g := fun j cs t hj ht _ => own_keeps ho hg hj ht
theorem Kp.set (a : World) (g i : Nat) (v : Value) : Kp a (a.setCell ⟨g, i, none⟩ v) g := fun j cs t hj _ hne => blk_far hj hne _
theorem PMap.at_ {k : IntKind} {W8 W : World} {b : Nat} {p : Int → Int} {s : List Int} (h : PMap k W8 b p s) (hb : Below W8.heap.size W8 W) : PMap k W b p s := h.below hb
set_option maxHeartbeats 8000000 in
set_option maxRecDepth 100000 in
theorem point_calls (W8 W : World) (HB : Aside0 (Below W8.heap.size W8 W)) (g4 g8 mb : Nat) (ws : List Int) (BK4 : Aside0 (W8.heap[g4]? = some (.cells #[.map (some mb)] 58 (0, 0)))) (HM : Aside0 (PMap .u64 W8 mb (fun y => (pl ws y : Int)) ws)) (A : Option Addr) (m c : Nat) (l : List Int) (HI : Aside0 (IL .i64 W8 W8.heap.size A m l)) (HW : Aside0 (∀ x ∈ l, (Lit.int .i64 x).wf = true)) (aO : Option Addr) (n cO : Nat) (O : List Int) (BK8 : Aside0 (W.heap[g8]? = some (.cells #[.slice aO n cO] 33 (0, 0)))) (GE8 : Aside0 (W8.heap.size ≤ g8)) (ROW : Aside0 (W.ownsRow W8.heap.size 32 1 (.slice aO n cO) n (u64s O))) (hn : n ≤ 100000) (hm : m ≤ 300) :
    Calls Tryd.prog 22 #[.slice A m c, .pointer (some ⟨g8, 0, none⟩), .pointer (some ⟨g4, 0, none⟩)] W fun e W' => ∃ a1 c1, e = .returned (.tuple #[]) ∧ W'.heap[g8]? = some (.cells #[.slice a1 (n + m) c1] 33 (0, 0)) ∧ W'.ownsRow W8.heap.size 32 1 (.slice a1 (n + m) c1) (n + m) (u64s (O ++ l.map fun x => (pl ws x : Int))) ∧ Below W8.heap.size W8 W' ∧ Kp W W' g8 := by
  obtain ⟨i0, hi, hz0, hz1, hz2⟩ := info_parts info32
  have hll : l.length = m := HI.out.1
  go_enter Tryd.func22, Tryd.ntmps22
  go_wp2
  go_loopw [8] (fun v wr => ∃ (i : Nat) (a1 : Option Addr) (c1 : Nat), i ≤ m ∧ v = .int .i64 (i : Int) ∧ Aside0 (wr.heap[g8]? = some (.cells #[.slice a1 (n + i) c1] 33 (0, 0))) ∧ Aside0 (wr.ownsRow W8.heap.size 32 1 (.slice a1 (n + i) c1) (n + i) (u64s (O ++ (l.take i).map fun x => (pl ws x : Int)))) ∧ Aside0 (Below W8.heap.size W8 wr) ∧ Aside0 (Kp W wr g8)) (fun v _ => m - (intOf v).toNat)
  case atStart => exact ⟨0, aO, cO, by omega, rfl, BK8, Aside0.mk (by simpa using ROW.out), HB, Aside0.mk (Kp.refl _ _)⟩
  case round =>
    clear BK8 ROW HB
    obtain ⟨i, a1, c1, hi_, rfl, BK8, ROW, HB, HK⟩ := hrel
    by_cases hgo : i < m
    · have hd : decide ((i : Int) < (m : Int)) = true := decide_eq_true (by omega)
      obtain ⟨y, e, _, hy⟩ := (HI.out.kept fun k hk => HB.out.block k hk).2 i hgo
      subst e
      obtain ⟨x, hx⟩ : ∃ x, x = l.getD i 0 := ⟨_, rfl⟩
      rw [← hx] at hy
      have hli : l[i]? = some x := by rw [hx, List.getD_eq_getElem?_getD, List.getElem?_eq_getElem (show i < l.length by omega)]; rfl
      have HXW := Aside0.mk (HW.out x (List.mem_of_getElem? hli))
      have HTK := Aside0.mk (show u64s (O ++ (l.take (i + 1)).map fun x => (pl ws x : Int)) = u64s (O ++ (l.take i).map fun x => (pl ws x : Int)) ++ [.int .u64 (pl ws x : Int)] by
        rw [List.take_add_one, hli, List.map_append, ← List.append_assoc, u64s_app]
        rfl)
      have hlk : (Instr.lookup 58 (.map (some mb)) (.int .i64 x) false).run Tryd.prog wr = .ok (.int .u64 (pl ws x : Int)) wr := by
        have h := look58 (HM.out.at_ HB.out) HXW.out
        rw [pl_if] at h
        exact h
      clear hx hli
      obtain ⟨p, hp⟩ : ∃ p : Int, p = (pl ws x : Int) := ⟨_, rfl⟩
      rw [← hp] at HTK hlk
      clear hp
      obtain ⟨xs, hxs⟩ : ∃ xs, xs = u64s (O ++ (l.take i).map fun x => (pl ws x : Int)) := ⟨_, rfl⟩
      rw [← hxs] at ROW HTK
      clear hxs
      have hi0 : (0 : Int) ≤ (i : Int) := by omega
      have hi1 : (i : Int) < (m : Int) := by omega
      have hi1n : i + 1 ≤ m := by omega
      have hc8 : wr.cell? ⟨g8, 0, none⟩ = some (.slice a1 (n + i) c1) := (blk_cell BK8.out 0).trans rfl
      have hc4 : wr.cell? ⟨g4, 0, none⟩ = some (.map (some mb)) := (blk_cell (blk_below BK4.out HB.out) 0).trans rfl
      go_wp2_with (at_builtin; refine wpList_append_own _ rfl (.tmp 12) (.tmp 16) 33 rfl W8.heap.size 32 i0 (.int .u64 0) 1 8 Tryd.underlying33 hi hz0 hz1 hz2 rfl (by decide) (.slice a1 (n + i) c1) (n + i) xs rfl (ROW.out.alloc _) ⟨wr.heap.size, 0, none⟩ 1 1 [.int .u64 p] rfl rfl (one_new _ _ _) (by simp [Value.oneCell']) (by unfold maxLen; omega) (by omega) (by rw [World.size_alloc]; have := HB.out.size; omega) ?_; intro v' w5 hown' hgrow _; obtain ⟨g', cap', rfl⟩ := ownsRow_succ hown'; have OWN5 := Aside0.mk hown'; have HB5 := Aside0.mk (own_below (below_alloc HB.out _) (Nat.le_refl _) (ROW.out.alloc _) hgrow); have BK85 := Aside0.mk (own_keeps (ROW.out.alloc _) hgrow (blk_alloc BK8.out _) (by decide)); have HK5 := Aside0.mk ((HK.out.trans (Kp.below (below_alloc (Below.refl _ _) _))).trans (Kp.grown (ROW.out.alloc _) hgrow)); have hc85 := (blk_cell BK85.out 0).trans rfl; have hf85 := blk_frozen BK85.out 0; clear hown' hgrow)
      refine ⟨⟨i + 1, some ⟨g', 0, none⟩, cap', hi1n, by push_cast; rfl, Aside0.mk (blk_put BK85.out 0 _ rfl), Aside0.mk (by rw [HTK.out]; exact row_set (t := 33) OWN5.out BK85.out (by decide) _), Aside0.mk (below_set HB5.out GE8.out), Aside0.mk (HK5.out.trans (Kp.set _ _ _ _))⟩, ?_⟩
      show m - ((i : Int) + 1).toNat < m - (i : Int).toNat
      omega
    · obtain rfl : i = m := by omega
      have hd : decide ((i : Int) < (i : Int)) = false := decide_eq_false (by omega)
      go_wp2
      go_end0
      have hR := ROW.out
      rw [List.take_of_length_le (by omega)] at hR
      exact ⟨a1, c1, rfl, BK8.out, hR, HB.out, HK.out⟩
end Go.Proofs.YtacjlkjdmhlbaaaDoor.Gr
/- Dump: Shape. Conditions: the graph lies in memory and is small. -/
namespace Go.Proofs.YtacjlkjdmhlbaaaDoor.Gr
open Go.RowKit Go.Shelf Go.Maps Go.ChangeMaps Go.MapKept Go.Proofs.YtacjlkjdmhlbaaaDoorW.PrintWords Go.Proofs.YtacjlkjdmhlbaaaDoorW.PrintLast Go.Proofs.YtacjlkjdmhlbaaaDoorW.PrintMore
set_option linter.unusedSimpArgs false
set_option linter.unusedVariables false
def plL (ws l : List Int) : List Int := l.map fun x => (pl ws x : Int)
def shapeN (ws : List Int) (n : Nd) : List Int := [IntKind.u64.wrap n.refs, IntKind.u64.wrap n.words, (n.m : Int)] ++ plL ws n.S ++ [(n.n : Int)] ++ n.T
def shapesN (ws : List Int) (M : List Nd) (k : Nat) : List Int := (List.range k).flatMap fun i => shapeN ws (M.getD i default)
theorem shapesN_succ (ws : List Int) (M : List Nd) (k : Nat) : shapesN ws M (k + 1) = shapesN ws M k ++ shapeN ws (M.getD k default) := by
  unfold shapesN
  rw [List.range_succ, List.flatMap_append]
  simp
def shapeR (NS : List Nd) (R : List Int) (rl : Nat) : List Int := [(rl : Int)] ++ plL (walkR NS R) R ++ [((walkR NS R).length : Int)] ++ shapesN (walkR NS R) ((walkR NS R).map (nodeOf NS)) (walkR NS R).length
/-- Words just built. -/
theorem new_words (w : World) (vs : Array Value) (t : TypeId) : ∀ (j : Nat) u, vs.toList[j]? = some u → (w.alloc (.cells vs t)).cell? ((⟨w.heap.size, 0, none⟩ : Addr).add j) = some u := by
  intro j u h
  have e : (⟨w.heap.size, 0, none⟩ : Addr).add j = ⟨w.heap.size, j, none⟩ := by unfold Addr.add; split <;> simp_all
  rw [e, World.cell?_alloc_new]
  simpa using h
theorem app_words {w0 w : World} {ops : Array Oper} {rest : List Oper} {o : Oper} {a : Act} {Q : Exit → Act → World → Prop} (hgd : o.guard = none) (s x : Operand) (ho : o.op = .call { callee := .builtin .append, args := #[s, x], argTypes := #[33, 33] })
    (a1 : Option Addr) (c1 k : Nat) (O : List Int) (hs : a.eval s = .slice a1 k c1) (hown : w.ownsRow w0.heap.size 32 1 (.slice a1 k c1) k (u64s O)) (A : Option Addr) (n c : Nat) (l : List Int) (hx : a.eval x = .slice A n c) (hr : IL .u64 w w.heap.size A n l) (hA : A = none → c = 0) (hk : k ≤ 100000) (hn : n ≤ 1000) (hb : Below w0.heap.size w0 w)
    (h : ∀ a1 c1 w', w'.ownsRow w0.heap.size 32 1 (.slice a1 (k + n) c1) (k + n) (u64s (O ++ l)) → Below w0.heap.size w0 w' → (∀ g, Kp w w' g) → wpList Tryd.prog ops Q rest (a.put o.dst (.slice a1 (k + n) c1)) w') : wpList Tryd.prog ops Q (o :: rest) a w := by
  obtain ⟨i0, hi, hz0, hz1, hz2⟩ := info_parts info32
  cases A with
  | none =>
    have hn0 : n = 0 := by
      rcases Nat.eq_zero_or_pos n with h0 | h0
      · exact h0
      · obtain ⟨y, e, _⟩ := hr.2 0 h0
        cases e
    have hc0 := hA rfl
    subst hn0
    subst hc0
    have hl0 : l = [] := List.length_eq_zero_iff.1 hr.1
    subst hl0
    refine wpList_append_own_none hgd s x 33 ho w0.heap.size 32 i0 1 Tryd.underlying33 hi _ k (u64s O) hs hown hx ?_
    exact h a1 c1 w (by simpa using hown) hb (fun g => Kp.refl _ _)
  | some y =>
    refine wpList_append_own _ hgd s x 33 ho w0.heap.size 32 i0 (.int .u64 0) 1 8 Tryd.underlying33 hi hz0 hz1 hz2 rfl (by decide) (.slice a1 k c1) k (u64s O) hs hown y n c (u64s l) hx (by rw [u64s_len, hr.1, Nat.mul_one]) (fun j u hj => ?_) (by intro u hu; obtain ⟨t, _, rfl⟩ := List.mem_map.1 hu; rfl) (by unfold maxLen; omega) (by omega) hb.size ?_
    · unfold u64s at hj
      rw [List.getElem?_map] at hj
      cases hlj : l[j]? with
      | none => rw [hlj] at hj; cases hj
      | some z =>
        rw [hlj] at hj
        simp only [Option.map_some, Option.some.injEq] at hj
        have hjl := (List.getElem?_eq_some_iff.1 hlj).1
        obtain ⟨y', e, _, hc⟩ := hr.2 j (by rw [← hr.1]; exact hjl)
        cases e
        rw [hc, ← hj, List.getD_eq_getElem?_getD, hlj]
        rfl
    · intro v' w' hown' hgrow _
      obtain ⟨a2, c2, rfl⟩ := ownsRow_as hown'
      exact h a2 c2 w' (by rw [u64s_app]; exact hown') (own_below hb (Nat.le_refl _) hown hgrow) (fun g => Kp.grown hown hgrow)
set_option maxHeartbeats 16000000 in
set_option maxRecDepth 100000 in
theorem shape_calls (W : World) (B : Nat) (hB : B ≤ W.heap.size) (g : Gd) (hsm : Small g) (HG : Aside0 (GM W B g)) (HE : Aside0 (∀ n ∈ g.NS, n.B = none → n.d = 0)) : Calls Tryd.prog 10 #[.agg #[.slice g.rA g.rl g.rc, .slice g.nA g.nl g.nc]] W fun e W' => ∃ a n c, e = .returned (.slice a n c) ∧ n ≤ 100000 ∧ IL .u64 W' W'.heap.size a n (shapeR g.NS g.R g.rl) ∧ Below W.heap.size W W' := by
  obtain ⟨rA, rl, rc, R, nA, nl, nc, NS⟩ := g
  obtain ⟨i0, hi, hz0, hz1, hz2⟩ := info_parts info32
  have HB := Aside0.mk (Below.refl W.heap.size W)
  go_enter Tryd.func10, Tryd.ntmps10
  go_upto_region 1 with ((with_reducible refine gate_dst (N := 1) rfl ?_); refine box_event ?hg (N := 1) ?hd (cs := #[.slice rA rl rc, .slice nA nl nc]) (t := 25) ?hr ?_; (case hd => rfl); (case hg => rfl); (case hr => first | (go_simp; done) | (go_simp; rfl)); intro g1 hg w1_ hbox hb; have n0_ := Aside0.mk (below_step (by repeat (first | (with_reducible first | exact HB.out | apply below_alloc | apply pw_below_drewN | apply below_drew1) | exact HB.out)) hb); have n1_ := Aside0.mk hbox; have n2_ := Aside0.mk ((by rw [hg]; exact (below_size (by repeat (first | (with_reducible first | exact HB.out | apply below_alloc | apply pw_below_drewN | apply below_drew1) | exact HB.out)))) : W.heap.size ≤ g1); clear HB; have HB := n0_; have BK1 := n1_; have GE1 := n2_; clear n0_ n1_ n2_; clear hb hbox hg)
  have hl1_0 : w1_.cell? ⟨g1, 0, none⟩ = some (.slice rA rl rc) := (blk_cell BK1.out 0).trans rfl
  have hl1_1 : w1_.cell? ⟨g1, 1, none⟩ = some (.slice nA nl nc) := (blk_cell BK1.out 1).trans rfl
  go_upto_region 2 with (go_at_call 20; refine (walk_calls _ ⟨rA, rl, rc, R, nA, nl, nc, NS⟩ B (Nat.le_trans hB HB.out.size) (Aside0.mk (HG.out.kept fun k hk => HB.out.block k (by omega))) hsm).mono ?_; rintro e w10 ⟨v10, rfl, hr, hb⟩; have HB10 := Aside0.mk (below_step HB.out hb); have BK110 := Aside0.mk (blk_below BK1.out hb); obtain ⟨a10, c10, rfl, hll⟩ := row_form hr; have HV := Aside0.mk (row9_mono hr HB.out.size); clear hr hb)
  (try dsimp only at HV)
  obtain ⟨L, hL⟩ : ∃ L, L = walkR NS R := ⟨_, rfl⟩
  have hL40 : L.length ≤ 40 := by rw [hL]; exact Nat.le_trans (walkR_len _ _) (by have h1 : NS.length = nl := HG.out.nds.1; have h2 : nl ≤ 40 := hsm.n40; omega)
  have HND := Aside0.mk (show L.Nodup by rw [hL]; exact walkR_nodup _ _)
  have HFI := Aside0.mk (show ∀ x ∈ L, ∃ k, find NS x = some k from fun x hx => walkR_find (by rw [← hL]; exact hx))
  (try dsimp only)
  rw [← hL] at HV ⊢
  have HLW := Aside0.mk hL
  clear hL hll HB BK1 hl1_0 hl1_1
  go_wp2
  rw [run_makeMap]
  obtain ⟨wm, hwm⟩ : ∃ x, x = w10.alloc (.map #[] 0) := ⟨_, rfl⟩
  obtain ⟨mb, hmb⟩ : ∃ x, x = w10.heap.size := ⟨_, rfl⟩
  rw [← hwm, ← hmb]
  have hbm : Below w10.heap.size w10 wm := by rw [hwm]; exact below_alloc (Below.refl _ _) _
  have MP0 := Aside0.mk (show wm.ownsMap Tryd.prog 3 nR mb 0 (.map []) by rw [hwm, hmb]; exact World.ownsMap_made _ _ _ _)
  have HBm := Aside0.mk (below_step HB10.out hbm)
  have BK1m := Aside0.mk (blk_below BK110.out hbm)
  have HVm := Aside0.mk (row9_below HV.out hbm)
  have GMB := Aside0.mk (show W.heap.size ≤ mb by rw [hmb]; exact HB10.out.size)
  clear hbm hwm hmb HB10 BK110 HV
  go_upto_region 3 with fail
  obtain ⟨w3, hw3⟩ : ∃ x, x = wm.alloc (.cells #[.map (some mb)] 58) := ⟨_, rfl⟩
  obtain ⟨g4, hg4⟩ : ∃ x, x = wm.heap.size := ⟨_, rfl⟩
  rw [← hw3, ← hg4]
  have hb3 : Below wm.heap.size wm w3 := by rw [hw3]; exact below_alloc (Below.refl _ _) _
  have BK4 := Aside0.mk (show w3.heap[g4]? = some (.cells #[.map (some mb)] 58 (0, 0)) by rw [hw3, hg4]; exact blk_new _ _)
  have HB := Aside0.mk (below_step HBm.out hb3)
  have BK1 := Aside0.mk (blk_below BK1m.out hb3)
  have HV := Aside0.mk (row9_below HVm.out hb3)
  have MP := Aside0.mk (owns_below MP0.out hb3)
  clear hb3 hw3 hg4 HBm BK1m HVm MP0
  go_wp2
  go_loopw [18] (fun v wr => ∃ (j : Nat) (DD : DataW Value), j ≤ L.length ∧ v = .int .i64 (j : Int) ∧ Aside0 (∀ y z, DD.atKey (key y) z = if y ∈ L.take j then .held (.int .u64 (pl L y : Int)) else z) ∧ Aside0 (IsMap DD) ∧ Aside0 (wr.ownsMap Tryd.prog 3 nR mb j DD) ∧ Aside0 (wr.ownsRow W.heap.size 3 1 (.slice a10 L.length c10) L.length (L.map (Value.int .i64))) ∧ Aside0 (Below W.heap.size W wr) ∧ Aside0 (wr.heap[g1]? = some (.cells #[.slice rA rl rc, .slice nA nl nc] 25 (0, 0))) ∧ Aside0 (wr.heap[g4]? = some (.cells #[.map (some mb)] 58 (0, 0)))) (fun v _ => L.length - (intOf v).toNat)
  case atStart => exact ⟨0, .map [], by omega, rfl, Aside0.mk (fun y z => by rw [if_neg (by simp)]; rfl), Aside0.mk ⟨[], rfl⟩, MP, HV, HB, BK1, BK4⟩
  case round =>
    clear HB BK1 BK4 MP HV
    obtain ⟨j, DD, hj, rfl, HAT, HIM, MP, HV, HB, BK1, BK4⟩ := hrel
    by_cases hgo : j < L.length
    · have hd : decide ((j : Int) < (L.length : Int)) = true := decide_eq_true (by omega)
      obtain ⟨y, e, hyc⟩ := row_cell HV.out j hgo
      subst e
      obtain ⟨x, hx⟩ : ∃ x, x = L.getD j 0 := ⟨_, rfl⟩
      rw [← hx] at hyc
      have hLj : L[j]? = some x := by rw [hx, List.getD_eq_getElem?_getD, List.getElem?_eq_getElem hgo]; rfl
      obtain ⟨k, hk⟩ := HFI.out x (List.mem_of_getElem? hLj)
      have HWF := Aside0.mk (show (Lit.int .i64 x).wf = true by rw [← find_adr hk]; exact HG.out.ok k (find_mem hk))
      have HPL := Aside0.mk (pl_at HND.out hLj)
      have HTK := Aside0.mk (show L.take (j + 1) = L.take j ++ [x] by rw [List.take_add_one, hLj]; rfl)
      clear hx hLj hk
      have hj0 : (0 : Int) ≤ (j : Int) := by omega
      have hj1 : (j : Int) < (L.length : Int) := by omega
      have hmx : j < maxLen := by unfold maxLen; omega
      have hj1n : j + 1 ≤ L.length := by omega
      have hwr : IntKind.u64.wrap ((j : Int) + 1) = (j : Int) + 1 := by rw [IntKind.wrap_u64]; omega
      have hc4 : wr.cell? ⟨g4, 0, none⟩ = some (.map (some mb)) := (blk_cell BK4.out 0).trans rfl
      go_wp2_with (at_mapUpdate; refine wpList_mapUpdate_own _ rfl _ _ _ 58 rfl 3 32 Di.keyed3 Tryd.underlying58 nR mb j _ rfl MP.out hmx _ _ _ rfl rfl (keyOf3 HWF.out) (.held (.int .u64 ((j : Int) + 1))) [] rfl ?_; intro w9 hown9 hg9; have MP9 := Aside0.mk hown9; have HG9 := Aside0.mk hg9; clear hown9 hg9)
      have NB1 := map_ne_cells MP.out BK1.out
      have NB4 := map_ne_cells MP.out BK4.out
      have HAT2 := Aside0.mk (show ∀ y z, (DD.put (key x) (.held (.int .u64 ((j : Int) + 1)))).atKey (key y) z = if y ∈ L.take (j + 1) then .held (.int .u64 (pl L y : Int)) else z by
        rw [HTK.out]
        have h := PMap.put_ (k := .u64) (p := fun y => (pl L y : Int)) HIM.out HAT.out x
        rw [HPL.out] at h
        exact h)
      refine ⟨⟨j + 1, _, hj1n, by push_cast; rfl, HAT2, Aside0.mk (put_isMap HIM.out _ _), MP9, Aside0.mk (row_mapg HV.out MP.out HG9.out), Aside0.mk (HB.out.grown HG9.out HB.out.size (fun k e => by cases e; exact GMB.out)), Aside0.mk ((HG9.out.block g1 (blk_lt BK1.out) (by simpa using NB1)).trans BK1.out), Aside0.mk ((HG9.out.block g4 (blk_lt BK4.out) (by simpa using NB4)).trans BK4.out)⟩, ?_⟩
      show L.length - ((j : Int) + 1).toNat < L.length - (j : Int).toNat
      omega
    · obtain rfl : j = L.length := by omega
      have hd : decide ((L.length : Int) < (L.length : Int)) = false := decide_eq_false (by omega)
      have hA := HAT.out
      rw [List.take_of_length_le (Nat.le_refl _)] at hA
      have hx1_0 : wr.cell? ⟨g1, 0, none⟩ = some (.slice rA rl rc) := (blk_cell BK1.out 0).trans rfl
      have hx1_1 : wr.cell? ⟨g1, 1, none⟩ = some (.slice nA nl nc) := (blk_cell BK1.out 1).trans rfl
      go_upto_region 9 with (go_at_call 21; refine (gnodes_calls _ ⟨rA, rl, rc, R, nA, nl, nc, NS⟩ B (Nat.le_trans hB HB.out.size) (Aside0.mk (HG.out.kept fun k hk => HB.out.block k (by omega))) hsm.n40).mono ?_; rintro e W8 ⟨mN, rfl, hmN, _, hb⟩; have HB8 := Aside0.mk (below_step HB.out hb); have BK18 := Aside0.mk (blk_below BK1.out hb); have BK48 := Aside0.mk (blk_below BK4.out hb); have HM := Aside0.mk (PMap.below (w := wr) ⟨DD, MP.out, HIM.out, hA⟩ hb); have HV8 := Aside0.mk (row9_below HV.out hb); have HMN := Aside0.mk hmN; clear hmN hb)
      clear hA hx1_0 hx1_1 HB BK1 BK4 MP HV HAT HIM
      have hy1_0 : W8.cell? ⟨g1, 0, none⟩ = some (.slice rA rl rc) := (blk_cell BK18.out 0).trans rfl
      go_upto_region 10 with fail
      obtain ⟨u0, hu0⟩ : ∃ u, u = IntKind.u64.wrap (rl : Int) := ⟨_, rfl⟩
      rw [← hu0]
      obtain ⟨wa, hwa⟩ : ∃ x, x = W8.alloc (.cells #[.int .u64 u0] 32) := ⟨_, rfl⟩
      obtain ⟨gr, hgr⟩ : ∃ x, x = W8.heap.size := ⟨_, rfl⟩
      obtain ⟨g8, hg8⟩ : ∃ x, x = W8.heap.size + 1 := ⟨_, rfl⟩
      have hg8a : g8 = wa.heap.size := by rw [hg8, hwa, World.size_alloc]
      obtain ⟨wb, hwb⟩ : ∃ x, x = wa.alloc (.cells #[.slice (some ⟨gr, 0, none⟩) 1 1] 33) := ⟨_, rfl⟩
      rw [← hwa, ← hg8, ← hgr, ← hwb]
      have hba : Below W8.heap.size W8 wa := by rw [hwa]; exact below_alloc (Below.refl _ _) _
      have hbb : Below W8.heap.size W8 wb := by rw [hwb]; exact below_alloc hba _
      have BK8 := Aside0.mk (show wb.heap[g8]? = some (.cells #[.slice (some ⟨gr, 0, none⟩) 1 1] 33 (0, 0)) by rw [hwb, hg8a]; exact blk_new _ _)
      have GE8 := Aside0.mk (show W8.heap.size ≤ g8 by omega)
      have ROW := Aside0.mk (show wb.ownsRow W8.heap.size 32 1 (.slice (some ⟨gr, 0, none⟩) 1 1) 1 (u64s [u0]) by
        rw [hwb, hgr, hwa]
        exact (row_first (v := .int .u64 u0) (t := 32) (w := W8) (W := W8) (Nat.le_refl _)).alloc _)
      have HBb := Aside0.mk hbb
      have HU0 := Aside0.mk hu0
      clear hba hbb hwa hwb hg8 hg8a hgr hu0 hy1_0
      have HIR := Aside0.mk (show IL .i64 W8 W8.heap.size rA rl R from (HG.out.rts.kept fun k hk => HB8.out.block k (by omega)).up (Nat.le_trans hB HB8.out.size))
      have HWR := Aside0.mk (show ∀ x ∈ R, (Lit.int .i64 x).wf = true from HG.out.rok)
      have hr40 : rl ≤ 40 := hsm.r40
      have hz1_0 : wb.cell? ⟨g1, 0, none⟩ = some (.slice rA rl rc) := (blk_cell (blk_below BK18.out HBb.out) 0).trans rfl
      go_upto_region 12 with (go_at_call 22; refine (point_calls W8 _ HBb g4 g8 mb L BK48 HM rA rl rc R HIR HWR _ (1) _ ([u0]) BK8 GE8 ROW (by omega) (by omega)).mono ?_; rintro e w12 ⟨aPa, cPa, rfl, hb8, hr8, hbb, hkp⟩; have BK8a := Aside0.mk hb8; have ROWa := Aside0.mk hr8; have HBa := Aside0.mk hbb; have KPa := Aside0.mk hkp; clear hb8 hr8 hbb hkp)
      clear hz1_0 BK8 ROW HBb KPa
      have hc8 : w12.cell? ⟨g8, 0, none⟩ = some (.slice aPa (1 + rl) cPa) := (blk_cell BK8a.out 0).trans rfl
      obtain ⟨O1, hO1⟩ : ∃ O, O = [u0] ++ R.map fun x => (pl L x : Int) := ⟨_, rfl⟩
      rw [← hO1] at ROWa
      have HO1 := Aside0.mk hO1
      clear hO1
      have BK8 := BK8a
      go_upto_region 13 with (at_builtin; refine wpList_append_own _ rfl (.tmp 41) (.tmp 45) 33 rfl W8.heap.size 32 i0 (.int .u64 0) 1 8 Tryd.underlying33 hi hz0 hz1 hz2 rfl (by decide) (.slice aPa (1 + rl) cPa) (1 + rl) (u64s O1) rfl (ROWa.out.alloc _) ⟨w12.heap.size, 0, none⟩ 1 1 [.int .u64 ((L.length : Int))] rfl rfl (new_words _ #[.int .u64 ((L.length : Int))] _) (by intro v hv; simp at hv; subst hv; rfl) (by unfold maxLen; omega) (by omega) (by rw [World.size_alloc]; have := HBa.out.size; omega) ?_; intro v' w5 hown' hgrow _; obtain ⟨g', cap', rfl⟩ := ownsRow_succ hown'; have OWN5 := Aside0.mk hown'; have HB5 := Aside0.mk (own_below (below_alloc HBa.out _) (Nat.le_refl _) (ROWa.out.alloc _) hgrow); have BK85 := Aside0.mk (own_keeps (ROWa.out.alloc _) hgrow (blk_alloc BK8.out _) (by decide)); have HK5 := Aside0.mk ((Kp.below (below_alloc (Below.refl _ _) _)).trans (Kp.grown (ROWa.out.alloc _) hgrow) : Kp w12 w5 g8); have hc85 := (blk_cell BK85.out 0).trans rfl; have hf85 := blk_frozen BK85.out 0; clear hown' hgrow)
      obtain ⟨w13, hw_⟩ : ∃ x, x = w5.setCell ⟨g8, 0, none⟩ (.slice (some ⟨g', 0, none⟩) (1 + rl + 1) cap') := ⟨_, rfl⟩
      rw [← hw_]
      have BK8b := Aside0.mk (show w13.heap[g8]? = some (.cells #[.slice (some ⟨g', 0, none⟩) (1 + rl + 1) cap'] 33 (0, 0)) by rw [hw_]; exact blk_put BK85.out 0 _ rfl)
      have ROWb := Aside0.mk (show w13.ownsRow W8.heap.size 32 1 (.slice (some ⟨g', 0, none⟩) (1 + rl + 1) cap') (1 + rl + 1) (u64s (O1 ++ [(L.length : Int)])) by rw [hw_, u64s_app]; exact row_set (t := 33) OWN5.out BK85.out (by decide) _)
      have HBb := Aside0.mk (show Below W8.heap.size W8 w13 by rw [hw_]; exact below_set HB5.out GE8.out)
      have KPb := Aside0.mk (show Kp _ w13 g8 by rw [hw_]; exact HK5.out.trans (Kp.set _ _ _ _))
      clear hw_ BK85 OWN5 HB5 HK5 hc85 hf85
      clear BK8 hc8 BK8a ROWa HBa KPb
      have hV8 : True := trivial
      go_wp2
      obtain ⟨wA, hwA⟩ : ∃ x, x = wr := ⟨_, rfl⟩
      subst hwA
      obtain ⟨M, hM⟩ : ∃ M, M = L.map (nodeOf NS) := ⟨_, rfl⟩
      have HMM := Aside0.mk hM
      clear hM hd
      obtain ⟨O2, hO2⟩ : ∃ O, O = O1 ++ [(L.length : Int)] := ⟨_, rfl⟩
      rw [← hO2] at ROWb
      have HO2 := Aside0.mk hO2
      clear hO2
      go_loopw [49] (fun v wr => ∃ (j n : Nat) (aO : Option Addr) (cO : Nat), j ≤ L.length ∧ v = .int .i64 (j : Int) ∧ n ≤ 100 + j * 700 ∧ Aside0 (wr.heap[g8]? = some (.cells #[.slice aO n cO] 33 (0, 0))) ∧ Aside0 (wr.ownsRow W8.heap.size 32 1 (.slice aO n cO) n (u64s (O2 ++ shapesN L M j))) ∧ Aside0 (Below W8.heap.size W8 wr)) (fun v _ => L.length - (intOf v).toNat)
      case atStart => exact ⟨0, 1 + rl + 1, _, _, by omega, rfl, by omega, BK8b, Aside0.mk (by simpa [shapesN] using ROWb.out), HBb⟩
      case round =>
        clear BK8b ROWb HBb
        obtain ⟨j, n, aO, cO, hj, rfl, hn, BK8, ROW, HB⟩ := hrel
        by_cases hgo : j < L.length
        · have hd : decide ((j : Int) < (L.length : Int)) = true := decide_eq_true (by omega)
          obtain ⟨y, e, hyc⟩ := row_cell (row9_below HV8.out HB.out) j hgo
          have hj0 : (0 : Int) ≤ (j : Int) := by omega
          have hj1 : (j : Int) < (L.length : Int) := by omega
          have hj1n : j + 1 ≤ L.length := by omega
          have hix : ∀ w, (Instr.indexAt 22 (.slice a10 L.length c10) (.int .i64 (j : Int))).run Tryd.prog w = .ok (.pointer (some (y.add j))) w := fun w => by
            rw [e]
            go_simp
          clear e
          obtain ⟨x, hx⟩ : ∃ x, x = L.getD j 0 := ⟨_, rfl⟩
          rw [← hx] at hyc
          have hLj : L[j]? = some x := by rw [hx, List.getD_eq_getElem?_getD, List.getElem?_eq_getElem hgo]; rfl
          obtain ⟨k, hk⟩ := HFI.out x (List.mem_of_getElem? hLj)
          have hkM := find_mem hk
          have hwf : (Lit.int .i64 x).wf = true := by rw [← find_adr hk]; exact HG.out.ok k hkM
          have hlk := look_val (owns_below HMN.out HB.out) hwf hk
          have hMj : M.getD j default = k := by
            rw [HMM.out, List.getD_eq_getElem?_getD, List.getElem?_map, hLj]
            unfold nodeOf
            simp [hk]
          have HST := Aside0.mk (show shapesN L M (j + 1) = shapesN L M j ++ shapeN L k by rw [shapesN_succ, hMj])
          have hsub : DL W B k := HG.out.sub k hkM
          have hsub2 : DL W8 W8.heap.size k := by
            have h := hsub.kept fun q hq => HB8.out.block q (Nat.lt_of_lt_of_le hq hB)
            exact ⟨h.1.up (Nat.le_trans hB HB8.out.size), h.2.up (Nat.le_trans hB HB8.out.size)⟩
          have hsok : ∀ x ∈ k.S, (Lit.int .i64 x).wf = true := HG.out.sok k hkM
          have hksz : k.m ≤ 300 ∧ k.n ≤ 300 := hsm.sz k hkM
          have hnone : k.B = none → k.d = 0 := HE.out k hkM
          clear hx hLj hk hkM hwf hMj hsub
          obtain ⟨ka, kr, ks, kw, kA, km, kc, kB, kn, kd, kS, kT⟩ := k
          dsimp only at hlk hsub2 hsok hksz hnone
          have HSW := Aside0.mk hsok
          have HLS : Aside0 (IL .i64 W8 W8.heap.size kA km kS) := Aside0.mk hsub2.1
          have HLD : Aside0 (IL .u64 W8 W8.heap.size kB kn kT) := Aside0.mk hsub2.2
          have hkm : km ≤ 300 := hksz.1
          have hkn : kn ≤ 300 := hksz.2
          have HNO := Aside0.mk hnone
          clear hsub2 hsok hksz hnone
          go_upto_region 17 with fail
          obtain ⟨g12, hg12⟩ : ∃ x, x = wr.heap.size := ⟨_, rfl⟩
          obtain ⟨wc, hwc⟩ : ∃ z, z = wr.alloc (.cells #[.int .i64 ka, .int .i64 kr, .int .i64 ks, .int .i64 kw, .slice kA km kc, .slice kB kn kd] 35) := ⟨_, rfl⟩
          rw [← hg12, ← hwc]
          have hbc : Below wr.heap.size wr wc := by rw [hwc]; exact below_alloc (Below.refl _ _) _
          have BK12 := Aside0.mk (show wc.heap[g12]? = some (.cells #[.int .i64 ka, .int .i64 kr, .int .i64 ks, .int .i64 kw, .slice kA km kc, .slice kB kn kd] 35 (0, 0)) by rw [hwc, hg12]; exact blk_new _ _)
          have NE12 := Aside0.mk (show g12 ≠ g8 by rw [hg12]; exact (Nat.ne_of_lt (blk_lt BK8.out)).symm)
          have HBc := Aside0.mk (below_step HB.out hbc)
          have BK8c := Aside0.mk (blk_below BK8.out hbc)
          have ROWc := Aside0.mk (row9_below ROW.out hbc)
          clear hbc hwc hg12 hix hyc hlk HB BK8 ROW
          have BK8 := BK8c
          have hc8 : wc.cell? ⟨g8, 0, none⟩ = some (.slice aO n cO) := (blk_cell BK8.out 0).trans rfl
          have hq1 : wc.cell? ⟨g12, 1, none⟩ = some (.int .i64 kr) := (blk_cell BK12.out 1).trans rfl
          have hq3 : wc.cell? ⟨g12, 3, none⟩ = some (.int .i64 kw) := (blk_cell BK12.out 3).trans rfl
          have hq4 : wc.cell? ⟨g12, 4, none⟩ = some (.slice kA km kc) := (blk_cell BK12.out 4).trans rfl
          have hn2 : n ≤ 30000 := by omega
          obtain ⟨Oj, hOj⟩ : ∃ O, O = O2 ++ shapesN L M j := ⟨_, rfl⟩
          rw [← hOj] at ROWc
          have HOJ := Aside0.mk hOj
          clear hOj
          go_upto_region 18 with (at_builtin; refine wpList_append_own _ rfl (.tmp 56) (.tmp 69) 33 rfl W8.heap.size 32 i0 (.int .u64 0) 1 8 Tryd.underlying33 hi hz0 hz1 hz2 rfl (by decide) (.slice aO (n) cO) (n) (u64s Oj) rfl (ROWc.out.alloc _) ⟨wc.heap.size, 0, none⟩ 3 3 [.int .u64 (IntKind.u64.wrap kr), .int .u64 (IntKind.u64.wrap kw), .int .u64 ((km : Int))] rfl rfl (new_words _ #[.int .u64 (IntKind.u64.wrap kr), .int .u64 (IntKind.u64.wrap kw), .int .u64 ((km : Int))] _) (by intro v hv; simp at hv; rcases hv with rfl | rfl | rfl <;> rfl) (by unfold maxLen; omega) (by omega) (by rw [World.size_alloc]; have := HBc.out.size; omega) ?_; intro v' w5 hown' hgrow _; obtain ⟨g', cap', rfl⟩ := ownsRow_succ hown'; have OWN5 := Aside0.mk hown'; have HB5 := Aside0.mk (own_below (below_alloc HBc.out _) (Nat.le_refl _) (ROWc.out.alloc _) hgrow); have BK85 := Aside0.mk (own_keeps (ROWc.out.alloc _) hgrow (blk_alloc BK8.out _) (by decide)); have HK5 := Aside0.mk ((Kp.below (below_alloc (Below.refl _ _) _)).trans (Kp.grown (ROWc.out.alloc _) hgrow) : Kp wc w5 g8); have hc85 := (blk_cell BK85.out 0).trans rfl; have hf85 := blk_frozen BK85.out 0; clear hown' hgrow)
          obtain ⟨wd, hw_⟩ : ∃ x, x = w5.setCell ⟨g8, 0, none⟩ (.slice (some ⟨g', 0, none⟩) (n + 3) cap') := ⟨_, rfl⟩
          rw [← hw_]
          have BK8d := Aside0.mk (show wd.heap[g8]? = some (.cells #[.slice (some ⟨g', 0, none⟩) (n + 3) cap'] 33 (0, 0)) by rw [hw_]; exact blk_put BK85.out 0 _ rfl)
          have ROWd := Aside0.mk (show wd.ownsRow W8.heap.size 32 1 (.slice (some ⟨g', 0, none⟩) (n + 3) cap') (n + 3) (u64s (Oj ++ [IntKind.u64.wrap kr, IntKind.u64.wrap kw, (km : Int)])) by rw [hw_, u64s_app]; exact row_set (t := 33) OWN5.out BK85.out (by decide) _)
          have HBd := Aside0.mk (show Below W8.heap.size W8 wd by rw [hw_]; exact below_set HB5.out GE8.out)
          have KPd := Aside0.mk (show Kp _ wd g8 by rw [hw_]; exact HK5.out.trans (Kp.set _ _ _ _))
          clear hw_ BK85 OWN5 HB5 HK5 hc85 hf85
          have BK12d := Aside0.mk (KPd.out g12 _ _ BK12.out (by decide) NE12.out)
          clear BK8 BK8c ROWc HBc KPd hc8 hq1 hq3 hq4 BK12
          have hq4 : wd.cell? ⟨g12, 4, none⟩ = some (.slice kA km kc) := (blk_cell BK12d.out 4).trans rfl
          go_upto_region 19 with (go_at_call 22; refine (point_calls W8 _ HBd g4 g8 mb L BK48 HM kA km kc kS HLS HSW _ (n + 3) _ (Oj ++ [IntKind.u64.wrap kr, IntKind.u64.wrap kw, (km : Int)]) BK8d GE8 ROWd (by omega) (by omega)).mono ?_; rintro e we ⟨aPe, cPe, rfl, hb8, hr8, hbb, hkp⟩; have BK8e := Aside0.mk hb8; have ROWe := Aside0.mk hr8; have HBe := Aside0.mk hbb; have KPe := Aside0.mk hkp; clear hb8 hr8 hbb hkp)
          have BK12e := Aside0.mk (KPe.out g12 _ _ BK12d.out (by decide) NE12.out)
          clear BK8d ROWd HBd KPe hq4 BK12d
          have hq5 : we.cell? ⟨g12, 5, none⟩ = some (.slice kB kn kd) := (blk_cell BK12e.out 5).trans rfl
          have hc8 : we.cell? ⟨g8, 0, none⟩ = some (.slice aPe (n + 3 + km) cPe) := (blk_cell BK8e.out 0).trans rfl
          have BK8 := BK8e
          go_upto_region 20 with (at_builtin; refine wpList_append_own _ rfl (.tmp 75) (.tmp 80) 33 rfl W8.heap.size 32 i0 (.int .u64 0) 1 8 Tryd.underlying33 hi hz0 hz1 hz2 rfl (by decide) (.slice aPe (n + 3 + km) cPe) (n + 3 + km) (u64s _) rfl (ROWe.out.alloc _) ⟨we.heap.size, 0, none⟩ 1 1 [.int .u64 ((kn : Int))] rfl rfl (new_words _ #[.int .u64 ((kn : Int))] _) (by intro v hv; simp at hv; subst hv; rfl) (by unfold maxLen; omega) (by omega) (by rw [World.size_alloc]; have := HBe.out.size; omega) ?_; intro v' w5 hown' hgrow _; obtain ⟨g', cap', rfl⟩ := ownsRow_succ hown'; have OWN5 := Aside0.mk hown'; have HB5 := Aside0.mk (own_below (below_alloc HBe.out _) (Nat.le_refl _) (ROWe.out.alloc _) hgrow); have BK85 := Aside0.mk (own_keeps (ROWe.out.alloc _) hgrow (blk_alloc BK8.out _) (by decide)); have HK5 := Aside0.mk ((Kp.below (below_alloc (Below.refl _ _) _)).trans (Kp.grown (ROWe.out.alloc _) hgrow) : Kp we w5 g8); have hc85 := (blk_cell BK85.out 0).trans rfl; have hf85 := blk_frozen BK85.out 0; clear hown' hgrow)
          obtain ⟨wf, hw_⟩ : ∃ x, x = w5.setCell ⟨g8, 0, none⟩ (.slice (some ⟨g', 0, none⟩) (n + 3 + km + 1) cap') := ⟨_, rfl⟩
          rw [← hw_]
          have BK8f := Aside0.mk (show wf.heap[g8]? = some (.cells #[.slice (some ⟨g', 0, none⟩) (n + 3 + km + 1) cap'] 33 (0, 0)) by rw [hw_]; exact blk_put BK85.out 0 _ rfl)
          have ROWf := Aside0.mk (show wf.ownsRow W8.heap.size 32 1 (.slice (some ⟨g', 0, none⟩) (n + 3 + km + 1) cap') (n + 3 + km + 1) (u64s (Oj ++ [IntKind.u64.wrap kr, IntKind.u64.wrap kw, (km : Int)] ++ (kS.map fun x => (pl L x : Int)) ++ [(kn : Int)])) by rw [hw_, u64s_app]; exact row_set (t := 33) OWN5.out BK85.out (by decide) _)
          have HBf := Aside0.mk (show Below W8.heap.size W8 wf by rw [hw_]; exact below_set HB5.out GE8.out)
          have KPf := Aside0.mk (show Kp _ wf g8 by rw [hw_]; exact HK5.out.trans (Kp.set _ _ _ _))
          clear hw_ BK85 OWN5 HB5 HK5 hc85 hf85
          have BK12f := Aside0.mk (KPf.out g12 _ _ BK12e.out (by decide) NE12.out)
          clear BK8 BK8e ROWe HBe KPf hc8 hq5 BK12e
          have hq5 : wf.cell? ⟨g12, 5, none⟩ = some (.slice kB kn kd) := (blk_cell BK12f.out 5).trans rfl
          have hc8 : wf.cell? ⟨g8, 0, none⟩ = some (.slice (some ⟨g', 0, none⟩) (n + 3 + km + 1) cap') := (blk_cell BK8f.out 0).trans rfl
          go_wp2_with (at_builtin; refine app_words (w0 := W8) rfl (.tmp 82) (.tmp 84) rfl (some ⟨g', 0, none⟩) cap' (n + 3 + km + 1) _ rfl ROWf.out kB kn kd kT rfl (HLD.out.to HBf.out) HNO.out (by omega) (by omega) HBf.out ?_; intro a9 c9 w9 hr9 hb9 hk9; have ROW9 := Aside0.mk hr9; have HB9 := Aside0.mk hb9; have BK89 := Aside0.mk (hk9 (g8 + 1) g8 _ _ BK8f.out (by decide) (by omega)); have hc89 := (blk_cell BK89.out 0).trans rfl; have hf89 := blk_frozen BK89.out 0; clear hr9 hb9 hk9)
          refine ⟨⟨j + 1, n + 3 + km + 1 + kn, a9, c9, hj1n, by push_cast; rfl, by omega, Aside0.mk (blk_put BK89.out 0 _ rfl), Aside0.mk (by
            have h := row_set (t := 33) (g := g8) (i := 0) ROW9.out BK89.out (by decide) (.slice a9 (n + 3 + km + 1 + kn) c9)
            rw [HST.out, ← List.append_assoc, ← HOJ.out]
            simpa [shapeN, plL, List.append_assoc] using h), Aside0.mk (below_set HB9.out GE8.out)⟩, ?_⟩
          show L.length - ((j : Int) + 1).toNat < L.length - (j : Int).toNat
          omega
        · obtain rfl : j = L.length := by omega
          have hd : decide ((L.length : Int) < (L.length : Int)) = false := decide_eq_false (by omega)
          have hc8 : wr.cell? ⟨g8, 0, none⟩ = some (.slice aO n cO) := (blk_cell BK8.out 0).trans rfl
          go_wp2
          go_ret
          have hIL : IL .u64 wr wr.heap.size aO n (O2 ++ shapesN L M L.length) := by
            refine ⟨by have h := ROW.out.1; rw [u64s_len] at h; omega, fun i hi => ?_⟩
            rcases ROW.out.2 with ⟨_, h0⟩ | ⟨gq, cap, cur, e, _, hg, _⟩
            · omega
            · cases e
              have hl : (O2 ++ shapesN L M L.length).length = n := by have h := ROW.out.1; rw [u64s_len] at h; omega
              refine ⟨_, rfl, blk_lt hg, (ROW.out.cells (g := gq) rfl i (.int .u64 ((O2 ++ shapesN L M L.length).getD i 0)) ?_)⟩
              unfold u64s
              rw [List.getElem?_map, List.getD_eq_getElem?_getD, List.getElem?_eq_getElem (by omega)]
              rfl
          have e0 : shapeR NS R rl = O2 ++ shapesN L M L.length := by unfold shapeR; rw [← HLW.out, HO2.out, HO1.out, HMM.out, show (rl : Int) = u0 by rw [HU0.out, IntKind.wrap_u64]; omega]; rfl
          exact ⟨aO, n, cO, rfl, by omega, by rw [e0]; exact hIL, below_step HB8.out HB.out⟩
end Go.Proofs.YtacjlkjdmhlbaaaDoor.Gr
/- Dump: Alike. Conditions: both graphs lie in memory and are small. -/
namespace Go.Proofs.YtacjlkjdmhlbaaaDoor.Gr
open Go.RowKit Go.Shelf Go.Maps Go.ChangeMaps Go.MapKept Go.Proofs.YtacjlkjdmhlbaaaDoorW.PrintWords Go.Proofs.YtacjlkjdmhlbaaaDoorW.PrintLast Go.Proofs.YtacjlkjdmhlbaaaDoorW.PrintMore
set_option linter.unusedSimpArgs false
set_option linter.unusedVariables false
def al1.T1 : Bool × List (List Nat × List Nat) := (true, [([], []), ([0], [0]), ([], []), ([2, 1], [2]), ([1, 3, 3], [1, 3]), ([4, 4, 0, 1, 2, 3, 4], [4])])
def al1.B1 : List Nat := [0, 1, 0, 7, 15, 31]
theorem al1.tab1 : rtab .any (opsOf Tryd.f7 1) = al1.T1 := by kernel_rfl
theorem al1.bits1 : waitsOk al1.T1.2 al1.B1 = true := by kernel_rfl
set_option maxHeartbeats 16000000 in
set_option maxRecDepth 100000 in
theorem alike_calls (W : World) (B : Nat) (hB : B ≤ W.heap.size) (ga gb : Gd) (hsa : Small ga) (hsb : Small gb) (HG : Aside0 (GM W B ga)) (HH : Aside0 (GM W B gb)) (HE : Aside0 (∀ n ∈ ga.NS, n.B = none → n.d = 0)) (HF : Aside0 (∀ n ∈ gb.NS, n.B = none → n.d = 0)) : Calls Tryd.prog 7 #[.agg #[.slice ga.rA ga.rl ga.rc, .slice ga.nA ga.nl ga.nc], .agg #[.slice gb.rA gb.rl gb.rc, .slice gb.nA gb.nl gb.nc]] W fun e W' => ∃ b : Bool, e = .returned (.bool b) ∧ (b = true ↔ shapeR ga.NS ga.R ga.rl = shapeR gb.NS gb.R gb.rl) ∧ Below W.heap.size W W' := by
  have HB := Aside0.mk (Below.refl W.heap.size W)
  go_enter Tryd.func7, Tryd.ntmps7
  go_upto_region 1 with (first | ((with_reducible refine gate_dst (N := 2) rfl ?_); refine box_event ?hg (N := 2) ?hd (cs := #[.slice ga.rA ga.rl ga.rc, .slice ga.nA ga.nl ga.nc]) (t := 25) ?hr ?_; (case hd => rfl); (case hg => rfl); (case hr => first | (go_simp; done) | (go_simp; rfl)); intro g2 hg w1_ hbox hb; have n0_ := Aside0.mk (below_step (by repeat (first | (with_reducible first | exact HB.out | apply below_alloc | apply pw_below_drewN | apply below_drew1) | exact HB.out)) hb); have n1_ := Aside0.mk hbox; have n2_ := Aside0.mk ((by rw [hg]; exact (below_size (by repeat (first | (with_reducible first | exact HB.out | apply below_alloc | apply pw_below_drewN | apply below_drew1) | exact HB.out)))) : W.heap.size ≤ g2); clear HB; have HB := n0_; have BK2 := n1_; have GE2 := n2_; clear n0_ n1_ n2_; clear hb hbox hg) | ((with_reducible refine gate_dst (N := 3) rfl ?_); refine box_event ?hg (N := 3) ?hd (cs := #[.slice gb.rA gb.rl gb.rc, .slice gb.nA gb.nl gb.nc]) (t := 25) ?hr ?_; (case hd => rfl); (case hg => rfl); (case hr => first | (go_simp; done) | (go_simp; rfl)); intro g3 hg w2_ hbox hb; have n0_ := Aside0.mk (below_step (by repeat (first | (with_reducible first | exact HB.out | apply below_alloc | apply pw_below_drewN | apply below_drew1 | refine below_set ?_ GE2.out) | exact HB.out)) hb); have n1_ := Aside0.mk (blk_below (g := g2) (o := .cells #[.slice ga.rA ga.rl ga.rc, .slice ga.nA ga.nl ga.nc] 25 (0, 0)) (by (with_reducible repeat (first | refine blk_drewN ?_ _ | refine blk_drew ?_ | refine blk_alloc ?_ _)); exact BK2.out) hb); have n2_ := Aside0.mk hbox; have n3_ := Aside0.mk ((by rw [hg]; exact (below_size (by repeat (first | (with_reducible first | exact HB.out | apply below_alloc | apply pw_below_drewN | apply below_drew1 | refine below_set ?_ GE2.out) | exact HB.out)))) : W.heap.size ≤ g3); have n4_ := Aside0.mk ((by rw [hg]; exact Nat.ne_of_lt (blk_lt (g := g2) (o := .cells #[.slice ga.rA ga.rl ga.rc, .slice ga.nA ga.nl ga.nc] 25 (0, 0)) (by (with_reducible repeat (first | refine blk_drewN ?_ _ | refine blk_drew ?_ | refine blk_alloc ?_ _)); exact BK2.out))) : g2 ≠ g3); clear HB; clear BK2; have HB := n0_; have BK2 := n1_; have BK3 := n2_; have GE3 := n3_; have NE2_3 := n4_; clear n0_ n1_ n2_ n3_ n4_; clear hb hbox hg))
  refine start_ (n := 6) (S := fun w' => True) (ds := []) #[false, false, false, false, false, false] (by kernel_rfl) rfl rfl trivial (fun hHeld => ?_)
  refine with_tabW al1.tab1 al1.bits1 (fun HT_ HW_ => ?_)
  refine inv_at [0, 1, 2, 3, 4, 5] (fun a0_ b a w' => ∃ (a6 : Option Addr) (n6 : Nat) (c6 : Nat) (a8 : Option Addr) (n8 : Nat) (c8 : Nat) (bq : Bool) (m1_ : Value) (m3_ : Value) (m4_ : Value) (m5_ : Value), a = putSel a0_ b [(0, 5, .agg #[.slice ga.rA ga.rl ga.rc, .slice ga.nA ga.nl ga.nc]), (1, 6, m1_), (2, 7, .agg #[.slice gb.rA gb.rl gb.rc, .slice gb.nA gb.nl gb.nc]), (3, 8, m3_), (4, 9, m4_), (5, 4, m5_)] ∧ (Below W.heap.size W w') ∧ (w'.heap[g2]? = some (.cells #[.slice ga.rA ga.rl ga.rc, .slice ga.nA ga.nl ga.nc] 25 (0, 0))) ∧ (w'.heap[g3]? = some (.cells #[.slice gb.rA gb.rl gb.rc, .slice gb.nA gb.nl gb.nc] 25 (0, 0))) ∧ (b 1 = true → n6 ≤ 100000 ∧ IL .u64 w' w'.heap.size a6 n6 (shapeR ga.NS ga.R ga.rl)) ∧ (b 3 = true → n8 ≤ 100000 ∧ IL .u64 w' w'.heap.size a8 n8 (shapeR gb.NS gb.R gb.rl)) ∧ (b 4 = true → (bq = true ↔ (shapeR ga.NS ga.R ga.rl) = (shapeR gb.NS gb.R gb.rl))) ∧ (b 1 = true → (m1_ : Value) = .slice a6 n6 c6) ∧ (b 3 = true → (m3_ : Value) = .slice a8 n8 c8) ∧ (b 4 = true → (m4_ : Value) = .bool bq) ∧ (b 5 = true → (m5_ : Value) = .bool bq)) HT_.out HW_.out (by kernel_rfl) (by kernel_rfl) ?_ ?_ ?_
  · exact ⟨none, 0, 0, none, 0, 0, false, .bool false, .bool false, .bool false, .bool false, by simp only [putSel, Bool.false_eq_true, if_false], below_drew1 HB.out, BK2.out, BK3.out, fun h_ => absurd h_ (by decide), fun h_ => absurd h_ (by decide), fun h_ => absurd h_ (by decide), fun h_ => absurd h_ (by decide), fun h_ => absurd h_ (by decide), fun h_ => absurd h_ (by decide), fun h_ => absurd h_ (by decide)⟩
  · skip
    clear BK2 BK3 HB
    refine steps_cons ?_ ?_
    · rintro b a w' ⟨a6, n6, c6, a8, n8, c8, bq, m1_, m3_, m4_, m5_, ha, Q_HB, Q_BK2, Q_BK3, Q_SA, Q_SB, Q_SE, Q_X1_, Q_X3_, Q_X4_, Q_X5_⟩ hb_ hon hoff
      refine ⟨_, rfl, fun K hK => ?_⟩
      have e2 : a.tmps[2]? = some (.pointer (some ⟨g2, 0, none⟩)) := by rw [ha]; exact (putSel_off rfl).trans rfl
      replace ha := Aside0.mk ha
      have HB := Aside0.mk Q_HB
      have BK2 := Aside0.mk Q_BK2
      have BK3 := Aside0.mk Q_BK3
      have hl5_0 : w'.cell? ⟨g2, 0, none⟩ = some (.slice ga.rA ga.rl ga.rc) := (blk_cell BK2.out 0).trans rfl
      have hl5_1 : w'.cell? ⟨g2, 1, none⟩ = some (.slice ga.nA ga.nl ga.nc) := (blk_cell BK2.out 1).trans rfl
      refine value_ (w1 := w') (v := .agg #[.slice ga.rA ga.rl ga.rc, .slice ga.nA ga.nl ga.nc]) (by rfl) rfl ?_ ?_
      · go_simp
        (try simp only [i64_w])
        try rfl
      refine hK.out _ _ ⟨a6, n6, c6, a8, n8, c8, bq, m1_, m3_, m4_, m5_, (by rw [ha.out]; exact putSel_upk 0 hb_ rfl rfl rfl), Q_HB, Q_BK2, Q_BK3, fun h0_ => absurd ((hoff 1 (by kernel_rfl)).symm.trans h0_) (by decide), fun h0_ => absurd ((hoff 3 (by kernel_rfl)).symm.trans h0_) (by decide), fun h0_ => absurd ((hoff 4 (by kernel_rfl)).symm.trans h0_) (by decide), fun h0_ => absurd ((hoff 1 (by kernel_rfl)).symm.trans h0_) (by decide), fun h0_ => absurd ((hoff 3 (by kernel_rfl)).symm.trans h0_) (by decide), fun h0_ => absurd ((hoff 4 (by kernel_rfl)).symm.trans h0_) (by decide), fun h0_ => absurd ((hoff 5 (by kernel_rfl)).symm.trans h0_) (by decide)⟩
    refine steps_cons ?_ ?_
    · rintro b a w' ⟨a6, n6, c6, a8, n8, c8, bq, m1_, m3_, m4_, m5_, ha, Q_HB, Q_BK2, Q_BK3, Q_SA, Q_SB, Q_SE, Q_X1_, Q_X3_, Q_X4_, Q_X5_⟩ hb_ hon hoff
      refine ⟨_, rfl, fun K hK => ?_⟩
      have e5 : a.tmps[5]? = some (.agg #[.slice ga.rA ga.rl ga.rc, .slice ga.nA ga.nl ga.nc]) := by rw [ha]; exact putSel_on (e := (0, 5, .agg #[.slice ga.rA ga.rl ga.rc, .slice ga.nA ga.nl ga.nc])) 0 rfl rfl (hon 0 (by kernel_rfl)) rfl
      replace ha := Aside0.mk ha
      have HB := Aside0.mk Q_HB
      have BK2 := Aside0.mk Q_BK2
      have BK3 := Aside0.mk Q_BK3
      refine goes_ Tryd.func10 (by kernel_rfl) rfl #[.agg #[.slice ga.rA ga.rl ga.rc, .slice ga.nA ga.nl ga.nc]] (by rfl) rfl rfl (by first | (simp only [List.map_toArray, List.map_cons, List.map_nil, Act.eval, Array.getD_eq_getD_getElem?, Option.getD_some, e5]; done) | (simp only [List.map_toArray, List.map_cons, List.map_nil, Act.eval, Array.getD_eq_getD_getElem?, Option.getD_some, e5]; rfl)) ?_
      with_reducible refine (shape_calls _ B (Nat.le_trans hB HB.out.size) ga hsa (Aside0.mk (HG.out.kept fun k hk => HB.out.block k (by omega))) HE).mono ?_
      rintro e w3 ⟨a5_, n5_, c5_, rfl, hn_, hi_, hb⟩
      refine ⟨_, rfl, ?_⟩
      refine hK.out _ _ ⟨a5_, n5_, c5_, a8, n8, c8, bq, (.slice a5_ n5_ c5_), m3_, m4_, m5_, (by rw [ha.out]; exact putSel_upk 1 hb_ rfl rfl rfl), (below_step HB.out hb), (blk_below BK2.out hb), (blk_below BK3.out hb), fun _ => ⟨hn_, hi_⟩, fun h0_ => absurd ((hoff 3 (by kernel_rfl)).symm.trans h0_) (by decide), fun h0_ => absurd ((hoff 4 (by kernel_rfl)).symm.trans h0_) (by decide), fun _ => rfl, fun h0_ => absurd ((hoff 3 (by kernel_rfl)).symm.trans h0_) (by decide), fun h0_ => absurd ((hoff 4 (by kernel_rfl)).symm.trans h0_) (by decide), fun h0_ => absurd ((hoff 5 (by kernel_rfl)).symm.trans h0_) (by decide)⟩
    refine steps_cons ?_ ?_
    · rintro b a w' ⟨a6, n6, c6, a8, n8, c8, bq, m1_, m3_, m4_, m5_, ha, Q_HB, Q_BK2, Q_BK3, Q_SA, Q_SB, Q_SE, Q_X1_, Q_X3_, Q_X4_, Q_X5_⟩ hb_ hon hoff
      refine ⟨_, rfl, fun K hK => ?_⟩
      have e3 : a.tmps[3]? = some (.pointer (some ⟨g3, 0, none⟩)) := by rw [ha]; exact (putSel_off rfl).trans rfl
      replace ha := Aside0.mk ha
      have HB := Aside0.mk Q_HB
      have BK2 := Aside0.mk Q_BK2
      have BK3 := Aside0.mk Q_BK3
      have hl7_0 : w'.cell? ⟨g3, 0, none⟩ = some (.slice gb.rA gb.rl gb.rc) := (blk_cell BK3.out 0).trans rfl
      have hl7_1 : w'.cell? ⟨g3, 1, none⟩ = some (.slice gb.nA gb.nl gb.nc) := (blk_cell BK3.out 1).trans rfl
      refine value_ (w1 := w') (v := .agg #[.slice gb.rA gb.rl gb.rc, .slice gb.nA gb.nl gb.nc]) (by rfl) rfl ?_ ?_
      · go_simp
        (try simp only [i64_w])
        try rfl
      refine hK.out _ _ ⟨a6, n6, c6, a8, n8, c8, bq, m1_, m3_, m4_, m5_, (by rw [ha.out]; exact putSel_upk 2 hb_ rfl rfl rfl), Q_HB, Q_BK2, Q_BK3, Q_SA, fun h0_ => absurd ((hoff 3 (by kernel_rfl)).symm.trans h0_) (by decide), fun h0_ => absurd ((hoff 4 (by kernel_rfl)).symm.trans h0_) (by decide), Q_X1_, fun h0_ => absurd ((hoff 3 (by kernel_rfl)).symm.trans h0_) (by decide), fun h0_ => absurd ((hoff 4 (by kernel_rfl)).symm.trans h0_) (by decide), fun h0_ => absurd ((hoff 5 (by kernel_rfl)).symm.trans h0_) (by decide)⟩
    refine steps_cons ?_ ?_
    · rintro b a w' ⟨a6, n6, c6, a8, n8, c8, bq, m1_, m3_, m4_, m5_, ha, Q_HB, Q_BK2, Q_BK3, Q_SA, Q_SB, Q_SE, Q_X1_, Q_X3_, Q_X4_, Q_X5_⟩ hb_ hon hoff
      refine ⟨_, rfl, fun K hK => ?_⟩
      have e7 : a.tmps[7]? = some (.agg #[.slice gb.rA gb.rl gb.rc, .slice gb.nA gb.nl gb.nc]) := by rw [ha]; exact putSel_on (e := (2, 7, .agg #[.slice gb.rA gb.rl gb.rc, .slice gb.nA gb.nl gb.nc])) 2 rfl rfl (hon 2 (by kernel_rfl)) rfl
      replace ha := Aside0.mk ha
      have HB := Aside0.mk Q_HB
      have BK2 := Aside0.mk Q_BK2
      have BK3 := Aside0.mk Q_BK3
      have SA := Aside0.mk (Q_SA (hon 1 (by kernel_rfl)))
      refine goes_ Tryd.func10 (by kernel_rfl) rfl #[.agg #[.slice gb.rA gb.rl gb.rc, .slice gb.nA gb.nl gb.nc]] (by rfl) rfl rfl (by first | (simp only [List.map_toArray, List.map_cons, List.map_nil, Act.eval, Array.getD_eq_getD_getElem?, Option.getD_some, e7]; done) | (simp only [List.map_toArray, List.map_cons, List.map_nil, Act.eval, Array.getD_eq_getD_getElem?, Option.getD_some, e7]; rfl)) ?_
      with_reducible refine (shape_calls _ B (Nat.le_trans hB HB.out.size) gb hsb (Aside0.mk (HH.out.kept fun k hk => HB.out.block k (by omega))) HF).mono ?_
      rintro e w3 ⟨a5_, n5_, c5_, rfl, hn_, hi_, hb⟩
      refine ⟨_, rfl, ?_⟩
      refine hK.out _ _ ⟨a6, n6, c6, a5_, n5_, c5_, bq, m1_, (.slice a5_ n5_ c5_), m4_, m5_, (by rw [ha.out]; exact putSel_upk 3 hb_ rfl rfl rfl), (below_step HB.out hb), (blk_below BK2.out hb), (blk_below BK3.out hb), fun _ => ⟨SA.out.1, SA.out.2.to hb⟩, fun _ => ⟨hn_, hi_⟩, fun h0_ => absurd ((hoff 4 (by kernel_rfl)).symm.trans h0_) (by decide), Q_X1_, fun _ => rfl, fun h0_ => absurd ((hoff 4 (by kernel_rfl)).symm.trans h0_) (by decide), fun h0_ => absurd ((hoff 5 (by kernel_rfl)).symm.trans h0_) (by decide)⟩
    refine steps_cons ?_ ?_
    · rintro b a w' ⟨a6, n6, c6, a8, n8, c8, bq, m1_, m3_, m4_, m5_, ha, Q_HB, Q_BK2, Q_BK3, Q_SA, Q_SB, Q_SE, Q_X1_, Q_X3_, Q_X4_, Q_X5_⟩ hb_ hon hoff
      refine ⟨_, rfl, fun K hK => ?_⟩
      have e6 : a.tmps[6]? = some (m1_) := by rw [ha]; exact putSel_on (e := (1, 6, m1_)) 1 rfl rfl (hon 1 (by kernel_rfl)) rfl
      rw [Q_X1_ (hon 1 (by kernel_rfl))] at e6
      have e8 : a.tmps[8]? = some (m3_) := by rw [ha]; exact putSel_on (e := (3, 8, m3_)) 3 rfl rfl (hon 3 (by kernel_rfl)) rfl
      rw [Q_X3_ (hon 3 (by kernel_rfl))] at e8
      replace ha := Aside0.mk ha
      have HB := Aside0.mk Q_HB
      have BK2 := Aside0.mk Q_BK2
      have BK3 := Aside0.mk Q_BK3
      have SA := Aside0.mk (Q_SA (hon 1 (by kernel_rfl)))
      have SB := Aside0.mk (Q_SB (hon 3 (by kernel_rfl)))
      refine goes_ Tryd.func9 (by kernel_rfl) rfl #[.slice a6 n6 c6, .slice a8 n8 c8] (by rfl) rfl rfl (by first | (simp only [List.map_toArray, List.map_cons, List.map_nil, Act.eval, Array.getD_eq_getD_getElem?, Option.getD_some, e6, e8]; done) | (simp only [List.map_toArray, List.map_cons, List.map_nil, Act.eval, Array.getD_eq_getD_getElem?, Option.getD_some, e6, e8]; rfl)) ?_
      with_reducible refine (equal_calls _ a6 a8 n6 c6 n8 c8 _ _ (Aside0.mk SA.out.2) (Aside0.mk SB.out.2) (by have := SA.out.1; omega)).mono ?_
      rintro e w3 ⟨b5_, rfl, hq_, hb⟩
      refine ⟨_, rfl, ?_⟩
      refine hK.out _ _ ⟨a6, n6, c6, a8, n8, c8, b5_, m1_, m3_, (.bool b5_), m5_, (by rw [ha.out]; exact putSel_upk 4 hb_ rfl rfl rfl), (below_step HB.out hb), (blk_below BK2.out hb), (blk_below BK3.out hb), fun _ => ⟨SA.out.1, SA.out.2.to hb⟩, fun _ => ⟨SB.out.1, SB.out.2.to hb⟩, fun _ => hq_, Q_X1_, Q_X3_, fun _ => rfl, fun h0_ => absurd ((hoff 5 (by kernel_rfl)).symm.trans h0_) (by decide)⟩
    refine steps_cons ?_ ?_
    · rintro b a w' ⟨a6, n6, c6, a8, n8, c8, bq, m1_, m3_, m4_, m5_, ha, Q_HB, Q_BK2, Q_BK3, Q_SA, Q_SB, Q_SE, Q_X1_, Q_X3_, Q_X4_, Q_X5_⟩ hb_ hon hoff
      refine ⟨_, rfl, fun K hK => ?_⟩
      have e9 : a.tmps[9]? = some (m4_) := by rw [ha]; exact putSel_on (e := (4, 9, m4_)) 4 rfl rfl (hon 4 (by kernel_rfl)) rfl
      rw [Q_X4_ (hon 4 (by kernel_rfl))] at e9
      replace ha := Aside0.mk ha
      have HB := Aside0.mk Q_HB
      have BK2 := Aside0.mk Q_BK2
      have BK3 := Aside0.mk Q_BK3
      have SA := Aside0.mk (Q_SA (hon 1 (by kernel_rfl)))
      have SB := Aside0.mk (Q_SB (hon 3 (by kernel_rfl)))
      have SE := Aside0.mk (Q_SE (hon 4 (by kernel_rfl)))
      refine value_ (w1 := w') (v := .bool bq) (by rfl) rfl ?_ ?_
      · go_simp
        (try simp only [i64_w])
        try rfl
      refine hK.out _ _ ⟨a6, n6, c6, a8, n8, c8, bq, m1_, m3_, m4_, (.bool bq), (by rw [ha.out]; exact putSel_upk 5 hb_ rfl rfl rfl), Q_HB, Q_BK2, Q_BK3, Q_SA, Q_SB, Q_SE, Q_X1_, Q_X3_, Q_X4_, fun _ => rfl⟩
    exact steps_nil
  rintro b a wx hall ⟨a6, n6, c6, a8, n8, c8, bq, m1_, m3_, m4_, m5_, ha, Q_HB, Q_BK2, Q_BK3, Q_SA, Q_SB, Q_SE, Q_X1_, Q_X3_, Q_X4_, Q_X5_⟩
  clear BK2 BK3 HB
  have hb0_ := hall 0 (by kernel_rfl)
  have hb1_ := hall 1 (by kernel_rfl)
  have hb2_ := hall 2 (by kernel_rfl)
  have hb3_ := hall 3 (by kernel_rfl)
  have hb4_ := hall 4 (by kernel_rfl)
  have hb5_ := hall 5 (by kernel_rfl)
  subst ha
  obtain rfl := Q_X1_ hb1_
  obtain rfl := Q_X3_ hb3_
  obtain rfl := Q_X4_ hb4_
  obtain rfl := Q_X5_ hb5_
  simp only [putSel, hb0_, hb1_, hb2_, hb3_, hb4_, hb5_, if_true, Act.put, List.setIfInBounds_toArray, List.set_cons_zero, List.set_cons_succ]
  have HB := Aside0.mk Q_HB
  clear Q_HB
  have BK2 := Aside0.mk Q_BK2
  clear Q_BK2
  have BK3 := Aside0.mk Q_BK3
  clear Q_BK3
  have SA := Aside0.mk (Q_SA hb1_)
  clear Q_SA
  have SB := Aside0.mk (Q_SB hb3_)
  clear Q_SB
  have SE := Aside0.mk (Q_SE hb4_)
  clear Q_SE
  clear hall hb0_ hb1_ hb2_ hb3_ hb4_ hb5_
  go_wp2
  go_ret
  have SE' := SE.out
  clear SE
  cases bq
  · exact .inl ⟨rfl, (fun h => by have h2 := SE'.2 h; cases h2), HB.out⟩
  · exact .inr ⟨rfl, SE'.1 rfl, HB.out⟩
end Go.Proofs.YtacjlkjdmhlbaaaDoor.Gr
/- Dump, in plain words: a walk is closed; graphs of one shape have one text. No program is walked here. -/
namespace Go.Proofs.YtacjlkjdmhlbaaaDoor.Gr
open Go.RowKit
set_option linter.unusedSimpArgs false
set_option linter.unusedVariables false
/-- What is new has all it points to. -/
def Grows (NS : List Nd) (s t : List Int) : Prop := (∀ x ∈ s, x ∈ t) ∧ ∀ y ∈ t, y ∉ s → ∀ n, find NS y = some n → ∀ x ∈ n.S, ∀ q, find NS x = some q → x ∈ t
theorem Grows.refl (NS : List Nd) (s : List Int) : Grows NS s s := ⟨fun _ h => h, fun y hy hn => absurd hy hn⟩
theorem Grows.trans {NS : List Nd} {s t u : List Int} (h1 : Grows NS s t) (h2 : Grows NS t u) : Grows NS s u := by
  refine ⟨fun x hx => h2.1 x (h1.1 x hx), fun y hy hn n hf x hx q hq => ?_⟩
  by_cases ht : y ∈ t
  · exact h2.1 x (h1.2 y ht hn n hf x hx q hq)
  · exact h2.2 y hy ht n hf x hx q hq
theorem visitR_closed (NS : List Nd) : ∀ (f : Nat) (s l : List Int), left NS s < f → Grows NS s (visitR NS f s l) ∧ ∀ x ∈ l, ∀ q, find NS x = some q → x ∈ visitR NS f s l
  | 0, s, l, h => absurd h (Nat.not_lt_zero _)
  | f + 1, s, l, h => by
    rw [visitR_eq]
    induction l generalizing s with
    | nil => exact ⟨Grows.refl _ _, fun x hx => by cases hx⟩
    | cons x l ih =>
      rw [List.foldl_cons]
      have hstep : Grows NS s (stepR NS f s x) ∧ ∀ q, find NS x = some q → x ∈ stepR NS f s x := by
        unfold stepR
        cases hf : find NS x with
        | none => exact ⟨Grows.refl _ _, fun q hq => by cases hq⟩
        | some n =>
          by_cases hx : x ∈ s
          · simp only [hx, if_true]
            exact ⟨Grows.refl _ _, fun _ _ => trivial⟩
          · simp only [hx, if_false]
            have hl := left_lt hf hx
            obtain ⟨k1, k2⟩ := visitR_closed NS f (s ++ [x]) n.S (by omega)
            refine ⟨⟨fun z hz => k1.1 z (List.mem_append_left _ hz), fun y hy hn m hm z hz q hq => ?_⟩, fun _ _ => k1.1 x (by simp)⟩
            by_cases e : y = x
            · subst e
              rw [hf] at hm
              cases hm
              exact k2 z hz q hq
            · exact k1.2 y hy (by simp [hn, e]) m hm z hz q hq
      obtain ⟨g1, g2⟩ := hstep
      obtain ⟨i1, i2⟩ := ih (stepR NS f s x) (Nat.lt_of_le_of_lt (left_sub g1.1) h)
      refine ⟨g1.trans i1, fun z hz q hq => ?_⟩
      rcases List.mem_cons.1 hz with rfl | hz
      · exact i1.1 _ (g2 q hq)
      · exact i2 z hz q hq
theorem walk_roots {NS : List Nd} {R : List Int} {x : Int} (hx : x ∈ R) {q : Nd} (hq : find NS x = some q) : x ∈ walkR NS R :=
  (visitR_closed NS (NS.length + 1) [] R (Nat.lt_succ_of_le (left_le NS []))).2 x hx q hq
theorem walk_slots {NS : List Nd} {R : List Int} {y x : Int} (hy : y ∈ walkR NS R) {n : Nd} (hn : find NS y = some n) (hx : x ∈ n.S) {q : Nd} (hq : find NS x = some q) : x ∈ walkR NS R :=
  (visitR_closed NS (NS.length + 1) [] R (Nat.lt_succ_of_le (left_le NS []))).1.2 y hy (by simp) n hn x hx q hq
/-- All roots, and slots, point to nodes, or are 0; no node is at 0. -/
def Cl (NS : List Nd) (R : List Int) : Prop := (∀ x ∈ R, x = 0 ∨ ∃ q, find NS x = some q) ∧ ∀ n ∈ NS, n.adr ≠ 0 ∧ ∀ x ∈ n.S, x = 0 ∨ ∃ q, find NS x = some q
theorem pl_nil {NS : List Nd} {R : List Int} (h : Cl NS R) : pl (walkR NS R) 0 = 0 := (pl_zero 0 _).2 fun hm => by
  obtain ⟨n, hn⟩ := walkR_find hm
  exact (h.2 n (find_mem hn)).1 (find_adr hn)
theorem pl_root {NS : List Nd} {R : List Int} (h : Cl NS R) {x : Int} (hx : x ∈ R) : pl (walkR NS R) x = 0 ↔ x = 0 := by
  constructor
  · intro h0
    rcases h.1 x hx with e | ⟨q, hq⟩
    · exact e
    · exact absurd (walk_roots hx hq) ((pl_zero x _).1 h0)
  · rintro rfl; exact pl_nil h
theorem pl_slot {NS : List Nd} {R : List Int} (h : Cl NS R) {y x : Int} (hy : y ∈ walkR NS R) {n : Nd} (hn : find NS y = some n) (hx : x ∈ n.S) : pl (walkR NS R) x = 0 ↔ x = 0 := by
  constructor
  · intro h0
    rcases (h.2 n (find_mem hn)).2 x hx with e | ⟨q, hq⟩
    · exact e
    · exact absurd (walk_slots hy hn hx hq) ((pl_zero x _).1 h0)
  · rintro rfl; exact pl_nil h
/-! ### One shape, one text -/
/-- Words of slots, out of their places. -/
def slotsQ (P : List Int) : List (List UInt8) := if P.length = 0 then [] else [45, 62] :: P.map fun p => if p = 0 then [45] else objR p.toNat
theorem slotsR_is {ws S : List Int} (h : ∀ x ∈ S, pl ws x = 0 ↔ x = 0) : slotsR ws S = slotsQ (plL ws S) := by
  unfold slotsR slotsQ slotsP plL
  rw [List.length_map]
  by_cases h0 : S.length = 0
  · rw [if_pos h0, if_pos h0]
  · rw [if_neg h0, if_neg h0, List.map_map]
    refine congrArg _ (List.map_congr_left fun x hx => ?_)
    show slotW ws x = if ((pl ws x : Nat) : Int) = 0 then [45] else objR ((pl ws x : Nat) : Int).toNat
    unfold slotW
    have := h x hx
    by_cases hx0 : x = 0
    · rw [if_pos hx0, if_pos (by rw [this.2 hx0]; rfl)]
    · have hp : pl ws x ≠ 0 := fun e => hx0 (this.1 e)
      rw [if_neg hx0, if_neg (by omega), Int.toNat_natCast]
/-- A root's line, out of its place. -/
def rootQ (P : List Int) (i : Nat) : List UInt8 := if P.getD i 0 = 0 then [] else lineR [[114, 111, 111, 116], Lib.itoa (i : Int), objR (P.getD i 0).toNat]
theorem rootT_is {ws R : List Int} (h : ∀ x ∈ R, pl ws x = 0 ↔ x = 0) {i : Nat} (hi : i < R.length) : rootT ws R i = rootQ (plL ws R) i := by
  unfold rootT rootQ plL
  have e : (R.map fun x => (pl ws x : Int)).getD i 0 = (pl ws (R.getD i 0) : Int) := by
    rw [List.getD_eq_getElem?_getD, List.getElem?_map, List.getD_eq_getElem?_getD, List.getElem?_eq_getElem hi]; rfl
  have hm : R.getD i 0 ∈ R := by rw [List.getD_eq_getElem?_getD, List.getElem?_eq_getElem hi]; exact List.getElem_mem _
  have := h _ hm
  rw [e]
  by_cases hx0 : R.getD i 0 = 0
  · rw [if_pos hx0, if_pos (by rw [this.2 hx0]; rfl)]
  · have hp : pl ws (R.getD i 0) ≠ 0 := fun e => hx0 (this.1 e)
    rw [if_neg hx0, if_neg (by omega), Int.toNat_natCast]
theorem wrap_inj {x y : Int} (hx : (Lit.int .i64 x).wf = true) (hy : (Lit.int .i64 y).wf = true) (h : IntKind.u64.wrap x = IntKind.u64.wrap y) : x = y := by
  have h1 := i64_bounds hx
  have h2 := i64_bounds hy
  rw [IntKind.wrap_u64, IntKind.wrap_u64] at h
  omega
theorem shapeN_app {w1 w2 : List Int} {n1 n2 : Nd} {r1 r2 : List Int} (s1 : n1.S.length = n1.m) (t1 : n1.T.length = n1.n) (s2 : n2.S.length = n2.m) (t2 : n2.T.length = n2.n) (h : shapeN w1 n1 ++ r1 = shapeN w2 n2 ++ r2) :
    IntKind.u64.wrap n1.words = IntKind.u64.wrap n2.words ∧ plL w1 n1.S = plL w2 n2.S ∧ n1.T = n2.T ∧ r1 = r2 := by
  unfold shapeN at h
  simp only [List.append_assoc, List.cons_append, List.nil_append, List.cons.injEq] at h
  obtain ⟨_, hw, hm, h⟩ := h
  have hl : (plL w1 n1.S).length = (plL w2 n2.S).length := by unfold plL; rw [List.length_map, List.length_map]; omega
  obtain ⟨h1, h2⟩ := List.append_inj h hl
  simp only [List.cons.injEq] at h2
  obtain ⟨hn, h2⟩ := h2
  obtain ⟨h3, h4⟩ := List.append_inj h2 (by omega)
  exact ⟨hw, h1, h3, h4⟩
theorem range_flat {α : Type} (M : List Nd) (f : Nd → List α) : (List.range M.length).flatMap (fun i => f (M.getD i default)) = M.flatMap f := by
  induction M with
  | nil => rfl
  | cons x M ih =>
    rw [List.length_cons, List.range_succ_eq_map, List.flatMap_cons, List.flatMap_map, List.flatMap_cons, ← ih]
    rfl
end Go.Proofs.YtacjlkjdmhlbaaaDoor.Gr
/- Dump, in plain words: graphs of one shape have one text. No program is walked here. -/
namespace Go.Proofs.YtacjlkjdmhlbaaaDoor.Gr
open Go.RowKit
set_option linter.unusedSimpArgs false
set_option linter.unusedVariables false
/-- A node is whole: its rows are as long as told, its words fit, its slots stand in the walk or are 0. -/
def Whole (ws : List Int) (n : Nd) : Prop := n.S.length = n.m ∧ n.T.length = n.n ∧ (Lit.int .i64 n.words).wf = true ∧ ∀ x ∈ n.S, pl ws x = 0 ↔ x = 0
theorem node_one {w1 w2 : List Int} {n1 n2 : Nd} (p : pl w1 n1.adr = pl w2 n2.adr) (o1 : Whole w1 n1) (o2 : Whole w2 n2) (hw : IntKind.u64.wrap n1.words = IntKind.u64.wrap n2.words) (hS : plL w1 n1.S = plL w2 n2.S) (hT : n1.T = n2.T) : nodeT w1 n1 = nodeT w2 n2 := by
  unfold nodeT
  rw [p, wrap_inj o1.2.2.1 o2.2.2.1 hw, slotsR_is o1.2.2.2, slotsR_is o2.2.2.2, hS, hT]
theorem nodes_one (w1 w2 : List Int) : ∀ (L1 L2 : List Nd) (k : Nat), L1.length = L2.length → (∀ (j : Nat) n, L1[j]? = some n → pl w1 n.adr = k + j + 1) → (∀ (j : Nat) n, L2[j]? = some n → pl w2 n.adr = k + j + 1) → (∀ n ∈ L1, Whole w1 n) → (∀ n ∈ L2, Whole w2 n) → L1.flatMap (shapeN w1) = L2.flatMap (shapeN w2) → L1.flatMap (nodeT w1) = L2.flatMap (nodeT w2)
  | [], [], _, _, _, _, _, _, _ => rfl
  | [], _ :: _, _, h, _, _, _, _, _ => by simp at h
  | _ :: _, [], _, h, _, _, _, _, _ => by simp at h
  | n1 :: L1, n2 :: L2, k, h, p1, p2, o1, o2, hs => by
    rw [List.flatMap_cons, List.flatMap_cons] at hs
    have a1 := o1 n1 (by simp)
    have a2 := o2 n2 (by simp)
    obtain ⟨hw, hS, hT, hr⟩ := shapeN_app a1.1 a1.2.1 a2.1 a2.2.1 hs
    have e1 := p1 0 n1 rfl
    have e2 := p2 0 n2 rfl
    rw [List.flatMap_cons, List.flatMap_cons, node_one (by omega) a1 a2 hw hS hT,
      nodes_one w1 w2 L1 L2 (k + 1) (by simpa using h) (fun j n hj => by have := p1 (j + 1) n (by simpa using hj); omega) (fun j n hj => by have := p2 (j + 1) n (by simpa using hj); omega) (fun n hn => o1 n (by simp [hn])) (fun n hn => o2 n (by simp [hn])) hr]
theorem nodes_at {NS : List Nd} {R : List Int} (j : Nat) (n : Nd) (h : ((walkR NS R).map (nodeOf NS))[j]? = some n) : pl (walkR NS R) n.adr = 0 + j + 1 := by
  rw [List.getElem?_map] at h
  cases hx : (walkR NS R)[j]? with
  | none => rw [hx] at h; cases h
  | some x =>
    rw [hx] at h
    cases h
    obtain ⟨q, hq⟩ := walkR_find (List.mem_of_getElem? hx)
    have e : (nodeOf NS x).adr = x := by unfold nodeOf; rw [hq]; exact find_adr hq
    show pl _ (nodeOf NS x).adr = _
    rw [e, pl_at (walkR_nodup NS R) hx]
    omega
theorem nodes_whole {NS : List Nd} {R : List Int} (hc : Cl NS R) (hw : ∀ n ∈ NS, n.S.length = n.m ∧ n.T.length = n.n ∧ (Lit.int .i64 n.words).wf = true) : ∀ n ∈ (walkR NS R).map (nodeOf NS), Whole (walkR NS R) n := by
  intro n hn
  obtain ⟨x, hx, rfl⟩ := List.mem_map.1 hn
  obtain ⟨q, hq⟩ := walkR_find hx
  have e : nodeOf NS x = q := by unfold nodeOf; rw [hq]; rfl
  rw [e]
  have := hw q (find_mem hq)
  exact ⟨this.1, this.2.1, this.2.2, fun y hy => pl_slot hc hx hq hy⟩
theorem rootsT_is {ws R : List Int} (h : ∀ x ∈ R, pl ws x = 0 ↔ x = 0) : rootsT ws R R.length = (List.range R.length).flatMap (rootQ (plL ws R)) := by
  unfold rootsT
  rw [List.flatMap_def, List.flatMap_def]
  exact congrArg _ (List.map_congr_left fun i hi => rootT_is h (List.mem_range.1 hi))
/-- Graphs of one shape, all of whose pointers lead somewhere, have one text. -/
theorem shape_text {NS1 NS2 : List Nd} {R1 R2 : List Int} (c1 : Cl NS1 R1) (c2 : Cl NS2 R2) (h1 : ∀ n ∈ NS1, n.S.length = n.m ∧ n.T.length = n.n ∧ (Lit.int .i64 n.words).wf = true) (h2 : ∀ n ∈ NS2, n.S.length = n.m ∧ n.T.length = n.n ∧ (Lit.int .i64 n.words).wf = true) {r1 r2 : Nat} (hr1 : R1.length = r1) (hr2 : R2.length = r2) (h : shapeR NS1 R1 r1 = shapeR NS2 R2 r2) : graphT NS1 R1 = graphT NS2 R2 := by
  unfold shapeR shapesN at h
  simp only [List.append_assoc, List.cons_append, List.nil_append, List.cons.injEq] at h
  obtain ⟨hr, h⟩ := h
  have hrl : R1.length = R2.length := by omega
  have hl : (plL (walkR NS1 R1) R1).length = (plL (walkR NS2 R2) R2).length := by unfold plL; rw [List.length_map, List.length_map]; exact hrl
  obtain ⟨hR, h⟩ := List.append_inj h hl
  simp only [List.cons.injEq] at h
  obtain ⟨hn, h⟩ := h
  have hn : (walkR NS1 R1).length = (walkR NS2 R2).length := by omega
  have f1 := range_flat ((walkR NS1 R1).map (nodeOf NS1)) (shapeN (walkR NS1 R1))
  have f2 := range_flat ((walkR NS2 R2).map (nodeOf NS2)) (shapeN (walkR NS2 R2))
  have g1 := range_flat ((walkR NS1 R1).map (nodeOf NS1)) (nodeT (walkR NS1 R1))
  have g2 := range_flat ((walkR NS2 R2).map (nodeOf NS2)) (nodeT (walkR NS2 R2))
  rw [List.length_map] at f1 f2 g1 g2
  have hM := nodes_one (walkR NS1 R1) (walkR NS2 R2) _ _ 0 (by rw [List.length_map, List.length_map]; exact hn) nodes_at nodes_at (nodes_whole c1 h1) (nodes_whole c2 h2) (f1.symm.trans (h.trans f2))
  unfold graphT
  rw [rootsT_is fun x hx => pl_root c1 hx, rootsT_is fun x hx => pl_root c2 hx, hR, hrl]
  refine congrArg _ ?_
  unfold nodesT
  exact g1.trans (hM.trans g2.symm)
end Go.Proofs.YtacjlkjdmhlbaaaDoor.Gr
/- Dump: closed, over the print's own walk of it: it answers, and where it says yes all pointers lead to nodes. -/
namespace Go.Proofs.YtacjlkjdmhlbaaaDoor.Gr
open Go.RowKit Go.Proofs.YtacjlkjdmhlbaaaDoorW.PrintWords Go.Proofs.YtacjlkjdmhlbaaaDoorW.PrintLast Go.Proofs.YtacjlkjdmhlbaaaDoorW.PrintMore Go.Proofs.YtacjlkjdmhlbaaaDoor.PDumpAlike
set_option linter.unusedSimpArgs false
set_option linter.unusedVariables false
/-- What a node's caps and words say besides. -/
def NX (n : Nd) : Prop := n.m ≤ n.c ∧ n.n ≤ n.d ∧ (n.B = none → n.d = 0) ∧ (∀ x ∈ n.T, (Lit.int .u64 x).wf = true) ∧ (Lit.int .i64 n.words).wf = true
def toS (n : Nd) : S35 := ⟨n.adr, ⟨n.refs, n.sl, n.words⟩, n.S, n.T⟩
theorem il_C {k : IntKind} {W : World} {B n : Nat} {a : Option Addr} {l : List Int} (h : IL k W B a n l) (hn : n ≤ 9223372036854775807) : (Kd.int k).C W a l.length l := by
  refine ⟨rfl, by rw [h.1]; exact hn, fun h0 => ?_⟩
  rw [h.1] at h0
  obtain ⟨y, e, _, _⟩ := h.2 0 h0
  refine ⟨y, e, fun j p hj => ⟨[.int k p], rfl, rfl, fun i u hu => ?_⟩⟩
  have hjl := (List.getElem?_eq_some_iff.1 hj).1
  obtain ⟨y', e', _, hc⟩ := h.2 j (by rw [← h.1]; exact hjl)
  rw [e] at e'
  cases e'
  have hi : i = 0 := by
    have := (List.getElem?_eq_some_iff.1 hu).1
    simpa using this
  subst hi
  simp only [List.getElem?_cons_zero, Option.some.injEq] at hu
  show W.cell? (y.add (j * 1 + 0)) = some u
  rw [Nat.mul_one, Nat.add_zero, hc, ← hu, List.getD_eq_getElem?_getD, hj]
  rfl
theorem nl_C {W : World} {B n : Nat} {a : Option Addr} {NS : List Nd} (h : NL W B a n NS) (hn : n ≤ 9223372036854775807) (hd : ∀ q ∈ NS, DL W B q ∧ q.m ≤ 9223372036854775807 ∧ q.n ≤ 9223372036854775807 ∧ q.m ≤ q.c ∧ q.n ≤ q.d) : k35.C W a (NS.map toS).length (NS.map toS) := by
  have hl : (NS.map toS).length = n := by rw [List.length_map, h.1]
  refine ⟨rfl, by rw [hl]; exact hn, fun h0 => ?_⟩
  rw [hl] at h0
  obtain ⟨y, e, _⟩ := h.2 0 h0
  refine ⟨y, e, fun j p hj => ?_⟩
  rw [List.getElem?_map] at hj
  cases hq : NS[j]? with
  | none => rw [hq] at hj; cases hj
  | some q =>
    rw [hq] at hj
    cases hj
    have hjl := (List.getElem?_eq_some_iff.1 hq).1
    obtain ⟨y', e', _, h1, h2, h3, h4, h5, h6⟩ := h.2 j (by rw [← h.1]; exact hjl)
    rw [e] at e'
    cases e'
    have eq : NS.getD j default = q := by rw [List.getD_eq_getElem?_getD, hq]; rfl
    rw [eq] at h1 h2 h3 h4 h5 h6
    obtain ⟨hD, hm, hn2, hmc, hnd⟩ := hd q (List.mem_of_getElem? hq)
    have l4 : (toS q).f2.length ≤ q.c := by show q.S.length ≤ q.c; rw [hD.1.1]; exact hmc
    have l5 : (toS q).f3.length ≤ q.d := by show q.T.length ≤ q.d; rw [hD.2.1]; exact hnd
    have hk := k35_mk W (toS q) (A4 := q.A) (c4 := q.c) l4 (il_C hD.1 hm) (A5 := q.B) (c5 := q.d) l5 (il_C hD.2 hn2)
    have e2 : (toS q).f2.length = q.m := hD.1.1
    have e3 : (toS q).f3.length = q.n := hD.2.1
    rw [e2, e3] at hk
    refine ⟨_, rfl, hk, fun i u hu => ?_⟩
    have ha : y.add (j * 6 + i) = (y.add (j * 6)).add i := by
      unfold Addr.add
      by_cases hi0 : i = 0
      · subst hi0
        simp
      · by_cases hj0 : j * 6 = 0
        · simp [hi0, hj0]
        · have hne : ¬ (j * 6 + i = 0) := by omega
          simp [hi0, hj0, hne, Nat.add_assoc]
    show W.cell? (y.add (j * 6 + i)) = some u
    rw [ha]
    have hi := (List.getElem?_eq_some_iff.1 hu).1
    have hi6 : i < 6 := hi
    match i, hi6 with
    | 0, _ => cases hu; exact h1
    | 1, _ => cases hu; exact h2
    | 2, _ => cases hu; exact h3
    | 3, _ => cases hu; exact h4
    | 4, _ => cases hu; exact h5
    | 5, _ => cases hu; exact h6
/-! ### It ends -/
def Fnd (L : List S35) (x : Int) : Prop := x = 0 ∨ ∃ m ∈ L, m.f0 = x
theorem rd_mem {L : List S35} {j : Nat} (h : j < L.length) : rd_T35 L (j : Int) ∈ L := by
  unfold rd_T35
  rw [Int.toNat_natCast, List.getD_eq_getElem?_getD, List.getElem?_eq_getElem h]
  exact List.getElem_mem _
theorem closed2 (x3 R : List Int) (L : List S35) (x5 : Nat) (hx5 : x5 < x3.length) (Q : Prop) (hl : L.length ≤ 100000) (ih : ∃ k r, trencherlaw34_closed.l1 k x3 (wrap64 ((x5 : Int) + 1)) R L = some r ∧ (r = true → Q)) :
    ∀ (n j : Nat) (b : Bool), n + j = L.length → (b = true → Fnd L (rd x3 (x5 : Int))) → ∃ k r, trencherlaw34_closed.l2 k x3 (x5 : Int) b (j : Int) R L = some r ∧ (r = true → Q ∧ Fnd L (rd x3 (x5 : Int)))
  | 0, j, b, hj, hb => by
    obtain ⟨k, r, hk, hr⟩ := ih
    cases b with
    | true =>
      refine ⟨k + 1, r, ?_, fun h => ⟨hr h, hb rfl⟩⟩
      unfold trencherlaw34_closed.l2
      rw [if_neg (by omega), if_pos rfl, hk]
    | false =>
      refine ⟨1, false, ?_, fun h => by cases h⟩
      unfold trencherlaw34_closed.l2
      rw [if_neg (by omega), if_neg (by decide)]
  | n + 1, j, b, hj, hb => by
    have hjl : j < L.length := by omega
    have hw : wrap64 ((j : Int) + 1) = ((j + 1 : Nat) : Int) := by unfold wrap64; omega
    cases b with
    | true =>
      obtain ⟨k, r, hk, hr⟩ := closed2 x3 R L x5 hx5 Q hl ih n (j + 1) true (by omega) hb
      refine ⟨k + 1, r, ?_, hr⟩
      unfold trencherlaw34_closed.l2
      rw [if_pos (by omega), if_pos rfl, hw, hk]
    | false =>
      obtain ⟨k, r, hk, hr⟩ := closed2 x3 R L x5 hx5 Q hl ih n (j + 1) ((rd_T35 L (j : Int)).f0 == rd x3 (x5 : Int)) (by omega) (fun h => .inr ⟨_, rd_mem hjl, by simpa using h⟩)
      refine ⟨k + 1, r, ?_, hr⟩
      unfold trencherlaw34_closed.l2
      rw [if_pos (by omega), if_neg (by decide), if_pos (by omega), if_pos (by omega), if_pos (by omega), hw, hk]
theorem closed1 (x3 R : List Int) (L : List S35) (hl : L.length ≤ 100000) (h3 : x3.length ≤ 1000000000) :
    ∀ (n i : Nat), n + i = x3.length → ∃ k r, trencherlaw34_closed.l1 k x3 (i : Int) R L = some r ∧ (r = true → ∀ q, i ≤ q → q < x3.length → Fnd L (rd x3 (q : Int)))
  | 0, i, hi => ⟨1, true, by unfold trencherlaw34_closed.l1; rw [if_neg (by omega)], fun _ q h1 h2 => by omega⟩
  | n + 1, i, hi => by
    have hil : i < x3.length := by omega
    have hw : wrap64 ((i : Int) + 1) = ((i + 1 : Nat) : Int) := by unfold wrap64; omega
    obtain ⟨k, r, hk, hr⟩ := closed1 x3 R L hl h3 n (i + 1) (by omega)
    obtain ⟨k2, r2, hk2, hr2⟩ := closed2 x3 R L i hil (∀ q, i + 1 ≤ q → q < x3.length → Fnd L (rd x3 (q : Int))) hl ⟨k, r, by rw [hw]; exact hk, hr⟩ L.length 0 (rd x3 (i : Int) == 0) (by omega) (fun h => .inl (by simpa using h))
    refine ⟨k2 + 1, r2, ?_, fun h q h1 h2 => ?_⟩
    · unfold trencherlaw34_closed.l1
      rw [if_pos (by omega), if_pos (by omega)]
      exact hk2
    · obtain ⟨hQ, hF⟩ := hr2 h
      by_cases e : q = i
      · rw [e]; exact hF
      · exact hQ q (by omega) h2
theorem closed0 (R : List Int) (L : List S35) (hl : L.length ≤ 1000) (hs : ∀ m ∈ L, m.f2.length ≤ 300) :
    ∀ (n i : Nat) (x3 : List Int), n + i = L.length → x3.length ≤ 1000 + 300 * i → ∃ k r, trencherlaw34_closed.l0 k x3 (i : Int) R L = some r ∧ (r = true → (∀ x ∈ x3, Fnd L x) ∧ ∀ q, i ≤ q → q < L.length → (rd_T35 L (q : Int)).f0 ≠ 0 ∧ ∀ x ∈ (rd_T35 L (q : Int)).f2, Fnd L x)
  | 0, i, x3, hi, h3 => by
    obtain ⟨k, r, hk, hr⟩ := closed1 x3 R L (by omega) (by omega) x3.length 0 (by omega)
    refine ⟨k + 1, r, ?_, fun h => ⟨fun x hx => ?_, fun q h1 h2 => by omega⟩⟩
    · unfold trencherlaw34_closed.l0
      rw [if_neg (by omega)]
      exact hk
    · obtain ⟨q, hq, e⟩ := List.getElem_of_mem hx
      have := hr h q (Nat.zero_le _) hq
      unfold rd at this
      rw [Int.toNat_natCast, List.getD_eq_getElem?_getD, List.getElem?_eq_getElem hq] at this
      rw [← e]; exact this
  | n + 1, i, x3, hi, h3 => by
    have hil : i < L.length := by omega
    have hw : wrap64 ((i : Int) + 1) = ((i + 1 : Nat) : Int) := by unfold wrap64; omega
    have hsz := hs _ (rd_mem hil)
    by_cases h0 : (rd_T35 L (i : Int)).f0 = 0
    · refine ⟨1, false, ?_, fun h => by cases h⟩
      unfold trencherlaw34_closed.l0
      rw [if_pos (by omega), if_pos (by omega), if_pos (by omega), if_pos h0]
    · obtain ⟨k, r, hk, hr⟩ := closed0 R L hl hs n (i + 1) (x3 ++ (rd_T35 L (i : Int)).f2) (by omega) (by rw [List.length_append]; omega)
      refine ⟨k + 1, r, ?_, fun h => ?_⟩
      · unfold trencherlaw34_closed.l0
        rw [if_pos (by omega), if_pos (by omega), if_pos (by omega), if_neg h0, hw]
        exact hk
      · obtain ⟨hx, hq⟩ := hr h
        refine ⟨fun x hm => hx x (List.mem_append_left _ hm), fun q h1 h2 => ?_⟩
        by_cases e : q = i
        · subst e
          exact ⟨h0, fun x hm => hx x (List.mem_append_right _ hm)⟩
        · exact hq q (by omega) h2
theorem fnd_find {NS : List Nd} {x : Int} (h : Fnd (NS.map toS) x) : x = 0 ∨ ∃ q, find NS x = some q := by
  rcases h with h | ⟨m, hm, e⟩
  · exact .inl h
  · obtain ⟨n, hn, rfl⟩ := List.mem_map.1 hm
    have : n.adr = x := e
    refine .inr (Option.isSome_iff_exists.1 ?_)
    unfold find
    rw [List.find?_isSome]
    exact ⟨n, hn, by simpa using this⟩
theorem closed_f (NS : List Nd) (R : List Int) (hn : NS.length ≤ 40) (hr : R.length ≤ 40) (hs : ∀ n ∈ NS, n.S.length ≤ 300) : ∃ k r, trencherlaw34_closed.f k R (NS.map toS) = some r ∧ (r = true → Cl NS R) := by
  obtain ⟨k, r, hk, h⟩ := closed0 R (NS.map toS) (by rw [List.length_map]; omega) (fun m hm => by obtain ⟨n, hn', rfl⟩ := List.mem_map.1 hm; exact hs n hn') (NS.map toS).length 0 R (by omega) (by omega)
  refine ⟨k, r, ?_, fun e => ?_⟩
  · unfold trencherlaw34_closed.f
    rw [Option.bind_some, if_pos (by simp; omega)]
    exact hk
  · obtain ⟨h1, h2⟩ := h e
    refine ⟨fun x hx => fnd_find (h1 x hx), fun n hn' => ?_⟩
    obtain ⟨q, hq, e⟩ := List.getElem_of_mem hn'
    have hq2 := h2 q (Nat.zero_le _) (by rw [List.length_map]; exact hq)
    have e2 : rd_T35 (NS.map toS) (q : Int) = toS n := by
      unfold rd_T35
      rw [Int.toNat_natCast, List.getD_eq_getElem?_getD, List.getElem?_map, List.getElem?_eq_getElem hq, e]
      rfl
    rw [e2] at hq2
    exact ⟨hq2.1, fun x hx => fnd_find (hq2.2 x hx)⟩
theorem closed_calls (W0 : World) (B0 : Nat) (g : Gd) (hsm : Small g) (HG0 : Aside0 (GM W0 B0 g)) (HX : Aside0 (∀ n ∈ g.NS, NX n)) (hrc : g.rl ≤ g.rc) (hnc : g.nl ≤ g.nc) : ∃ b : Bool, (b = true → Cl g.NS g.R) ∧ ∀ (W : World) (B : Nat) (HG : Aside0 (GM W B g)), Calls Tryd.prog 6 #[.agg #[.slice g.rA g.rl g.rc, .slice g.nA g.nl g.nc]] W fun e W' => e = .returned (.bool b) ∧ Below W.heap.size W W' := by
  have hR : g.R.length = g.rl := HG0.out.rts.1
  have hN : g.NS.length = g.nl := HG0.out.nds.1
  obtain ⟨k, r, hk, hr⟩ := closed_f g.NS g.R (by rw [hN]; exact hsm.n40) (by rw [hR]; exact hsm.r40) (fun n hn => by rw [(HG0.out.sub n hn).1.1]; exact (hsm.sz n hn).1)
  have hM : (g.NS.map toS).length = g.nl := by rw [List.length_map, hN]
  have h40 := hsm.n40
  have r40 := hsm.r40
  refine ⟨r, hr, fun W B HG => ?_⟩
  have h := trencherlaw34_closed.calls k g.rA g.rc g.R g.nA g.nc (g.NS.map toS) r W (il_C HG.out.rts (by omega)) (by rw [hR]; exact hrc) (nl_C HG.out.nds (by omega) (fun q hq => ⟨HG.out.sub q hq, by have := (hsm.sz q hq).1; omega, by have := (hsm.sz q hq).2; omega, (HX.out q hq).1, (HX.out q hq).2.1⟩)) (by rw [hM]; exact hnc) hk
  rw [hR, hM] at h
  exact h
end Go.Proofs.YtacjlkjdmhlbaaaDoor.Gr
/- Dump: the document's example holds. Condition: the table of powers is laid. -/
namespace Go.Proofs.YtacjlkjdmhlbaaaDoor.Gr
open Go.RowKit Go.Shelf Go.Maps Go.ChangeMaps Go.MapKept Go.Proofs.YtacjlkjdmhlbaaaDoorW.PrintWords Go.Proofs.YtacjlkjdmhlbaaaDoorW.PrintLast Go.Proofs.YtacjlkjdmhlbaaaDoorW.PrintMore
set_option linter.unusedSimpArgs false
set_option linter.unusedVariables false
def aliveN (g1 g2 : Nat) : Nd := ⟨9, 0, 1, 4, some ⟨g1, 0, none⟩, 1, 1, some ⟨g2, 0, none⟩, 3, 3, [0], [7, 7, 7]⟩
theorem alive_text (g1 g2 : Nat) : graphT [aliveN g1 g2] [9] = [114, 111, 111, 116, 32, 48, 32, 35, 49, 10, 35, 49, 58, 32, 52, 32, 119, 111, 114, 100, 115, 32, 45, 62, 32, 45, 32, 124, 32, 55, 120, 51, 10] := by
  kernel_rfl
theorem il_of_blk {k : IntKind} {W : World} {x : Nat} {l : List Int} {t : TypeId} (h : W.heap[x]? = some (.cells (l.map (Value.int k)).toArray t (0, 0))) : IL k W W.heap.size (some ⟨x, 0, none⟩) l.length l := by
  refine ⟨rfl, fun i hi => ⟨⟨x, 0, none⟩, rfl, blk_lt h, ?_⟩⟩
  have e : (⟨x, 0, none⟩ : Addr).add i = ⟨x, i, none⟩ := by unfold Addr.add; split <;> simp_all
  rw [e, blk_cell h i]
  simp [List.getD_eq_getElem?_getD, hi]
def aliveG (x0 x1 x2 x3 : Nat) : Gd := ⟨some ⟨x0, 0, none⟩, 1, 1, [9], some ⟨x3, 0, none⟩, 1, 1, [aliveN x1 x2]⟩
theorem alive_GM {W : World} {x0 x1 x2 x3 : Nat} (h0 : W.heap[x0]? = some (.cells #[.int .i64 9] 3 (0, 0))) (h1 : W.heap[x1]? = some (.cells #[.int .i64 0] 3 (0, 0))) (h2 : W.heap[x2]? = some (.cells #[.int .u64 7, .int .u64 7, .int .u64 7] 32 (0, 0))) (h3 : W.heap[x3]? = some (.cells #[.int .i64 9, .int .i64 0, .int .i64 1, .int .i64 4, .slice (some ⟨x1, 0, none⟩) 1 1, .slice (some ⟨x2, 0, none⟩) 3 3] 35 (0, 0))) : GM W W.heap.size (aliveG x0 x1 x2 x3) := by
  refine ⟨il_of_blk (l := [9]) h0, ⟨rfl, fun i hi => ?_⟩, fun n hn => ?_, fun n hn => ?_, fun x hx => ?_, fun n hn x hx => ?_⟩
  · obtain rfl : i = 0 := by
      have : i < 1 := hi
      omega
    refine ⟨⟨x3, 0, none⟩, rfl, blk_lt h3, ?_⟩
    have hc := fun j => blk_cell h3 j
    exact ⟨(hc 0).trans rfl, (hc 1).trans rfl, (hc 2).trans rfl, (hc 3).trans rfl, (hc 4).trans rfl, (hc 5).trans rfl⟩
  · rw [List.mem_singleton.1 hn]
    exact ⟨il_of_blk (l := [0]) h1, il_of_blk (l := [7, 7, 7]) h2⟩
  · rw [List.mem_singleton.1 hn]
    rfl
  · rw [List.mem_singleton.1 hx]
    rfl
  · rw [List.mem_singleton.1 hn] at hx
    rw [List.mem_singleton.1 hx]
    rfl
theorem alive_small (x0 x1 x2 x3 : Nat) : Small (aliveG x0 x1 x2 x3) := ⟨by show 1 ≤ 40; decide, by show 1 ≤ 40; decide, fun n hn => by rw [List.mem_singleton.1 hn]; exact ⟨by show 1 ≤ 300; decide, by show 3 ≤ 300; decide⟩⟩
theorem alive_Ex (x0 x1 x2 x3 : Nat) : Ex (aliveG x0 x1 x2 x3).NS := fun n hn => by
  rw [List.mem_singleton.1 hn]
  exact ⟨Nat.le_refl 3, fun x hx => by
    have hx' : x ∈ [(7 : Int), 7, 7] := hx
    simp at hx'
    subst hx'
    rfl, rfl⟩
set_option maxHeartbeats 16000000 in
set_option maxRecDepth 100000 in
theorem alive_calls (W : World) (HT : Aside0 (Tb W)) : Calls Tryd.prog 4 #[] W fun e W' => e = .returned (.bool true) ∧ Below W.heap.size W W' := by
  go_enter Tryd.func4, Tryd.ntmps4
  go_upto_region 2 with fail
  obtain ⟨x0, hx0⟩ : ∃ x, x = W.heap.size := ⟨_, rfl⟩
  obtain ⟨x1, hx1⟩ : ∃ x, x = W.heap.size + 1 := ⟨_, rfl⟩
  obtain ⟨x2, hx2⟩ : ∃ x, x = W.heap.size + 1 + 1 := ⟨_, rfl⟩
  obtain ⟨x3, hx3⟩ : ∃ x, x = W.heap.size + 1 + 1 + 1 := ⟨_, rfl⟩
  obtain ⟨x4, hx4⟩ : ∃ x, x = W.heap.size + 1 + 1 + 1 + 1 := ⟨_, rfl⟩
  rw [← hx4, ← hx3, ← hx2, ← hx1, ← hx0]
  obtain ⟨w0, hw0⟩ : ∃ x, x = W.alloc (.cells #[.int .i64 9] 3) := ⟨_, rfl⟩
  have hy0 : W.heap.size = x0 := by rw [hx0]
  have hb0 : Below W.heap.size W w0 := by rw [hw0]; exact below_alloc (Below.refl _ _) _
  have b0_0 : w0.heap[x0]? = some (.cells #[.int .i64 9] 3 (0, 0)) := by rw [hw0, ← hy0]; exact blk_new _ _
  obtain ⟨w1, hw1⟩ : ∃ x, x = w0.alloc (.cells #[.int .i64 0] 3) := ⟨_, rfl⟩
  have hy1 : w0.heap.size = x1 := by rw [hw0, World.size_alloc]; omega
  have hb1 : Below w0.heap.size w0 w1 := by rw [hw1]; exact below_alloc (Below.refl _ _) _
  have b1_1 : w1.heap[x1]? = some (.cells #[.int .i64 0] 3 (0, 0)) := by rw [hw1, ← hy1]; exact blk_new _ _
  have b0_1 := blk_below b0_0 hb1
  obtain ⟨w2, hw2⟩ : ∃ x, x = w1.alloc (.cells #[.int .u64 7, .int .u64 7, .int .u64 7] 32) := ⟨_, rfl⟩
  have hy2 : w1.heap.size = x2 := by rw [hw1, World.size_alloc]; omega
  have hb2 : Below w1.heap.size w1 w2 := by rw [hw2]; exact below_alloc (Below.refl _ _) _
  have b2_2 : w2.heap[x2]? = some (.cells #[.int .u64 7, .int .u64 7, .int .u64 7] 32 (0, 0)) := by rw [hw2, ← hy2]; exact blk_new _ _
  have b0_2 := blk_below b0_1 hb2
  have b1_2 := blk_below b1_1 hb2
  obtain ⟨w3, hw3⟩ : ∃ x, x = w2.alloc (.cells #[.int .i64 9, .int .i64 0, .int .i64 1, .int .i64 4, .slice (some ⟨x1, 0, none⟩) 1 1, .slice (some ⟨x2, 0, none⟩) 3 3] 35) := ⟨_, rfl⟩
  have hy3 : w2.heap.size = x3 := by rw [hw2, World.size_alloc]; omega
  have hb3 : Below w2.heap.size w2 w3 := by rw [hw3]; exact below_alloc (Below.refl _ _) _
  have b3_3 : w3.heap[x3]? = some (.cells #[.int .i64 9, .int .i64 0, .int .i64 1, .int .i64 4, .slice (some ⟨x1, 0, none⟩) 1 1, .slice (some ⟨x2, 0, none⟩) 3 3] 35 (0, 0)) := by rw [hw3, ← hy3]; exact blk_new _ _
  have b0_3 := blk_below b0_2 hb3
  have b1_3 := blk_below b1_2 hb3
  have b2_3 := blk_below b2_2 hb3
  obtain ⟨w4, hw4⟩ : ∃ x, x = w3.alloc (.cells #[.slice (some ⟨x0, 0, none⟩) 1 1, .slice (some ⟨x3, 0, none⟩) 1 1] 25) := ⟨_, rfl⟩
  have hy4 : w3.heap.size = x4 := by rw [hw3, World.size_alloc]; omega
  have hb4 : Below w3.heap.size w3 w4 := by rw [hw4]; exact below_alloc (Below.refl _ _) _
  have b4_4 : w4.heap[x4]? = some (.cells #[.slice (some ⟨x0, 0, none⟩) 1 1, .slice (some ⟨x3, 0, none⟩) 1 1] 25 (0, 0)) := by rw [hw4, ← hy4]; exact blk_new _ _
  have b0_4 := blk_below b0_3 hb4
  have b1_4 := blk_below b1_3 hb4
  have b2_4 := blk_below b2_3 hb4
  have b3_4 := blk_below b3_3 hb4
  rw [← hw0, ← hw1, ← hw2, ← hw3, ← hw4]
  have HB := Aside0.mk (below_step (below_step (below_step (below_step hb0 hb1) hb2) hb3) hb4)
  have HT4 := Aside0.mk (HT.out.to HB.out)
  have HG := Aside0.mk (alive_GM b0_4 b1_4 b2_4 b3_4)
  have hc4_0 : w4.cell? ⟨x4, 0, none⟩ = some (.slice (some ⟨x0, 0, none⟩) 1 1) := (blk_cell b4_4 0).trans rfl
  have hc4_1 : w4.cell? ⟨x4, 1, none⟩ = some (.slice (some ⟨x3, 0, none⟩) 1 1) := (blk_cell b4_4 1).trans rfl
  clear hx0 hy0 hw0 hb0 hx1 hy1 hw1 hb1 hx2 hy2 hw2 hb2 hx3 hy3 hw3 hb3 hx4 hy4 hw4 hb4 b0_0 b0_1 b1_1 b0_2 b1_2 b2_2 b0_3 b1_3 b2_3 b3_3 b0_4 b1_4 b2_4 b3_4 b4_4
  go_wp2_with (go_at_call 8; refine (graph_calls _ w4.heap.size (Nat.le_refl _) (aliveG x0 x1 x2 x3) (alive_small _ _ _ _) HG (Aside0.mk (alive_Ex _ _ _ _)) HT4).mono ?_; rintro e w5 ⟨rfl, hb5⟩; have HB5 := Aside0.mk (below_step HB.out hb5); clear hb5; rw [show graphT (aliveG x0 x1 x2 x3).NS (aliveG x0 x1 x2 x3).R = [114, 111, 111, 116, 32, 48, 32, 35, 49, 10, 35, 49, 58, 32, 52, 32, 119, 111, 114, 100, 115, 32, 45, 62, 32, 45, 32, 124, 32, 55, 120, 51, 10] from alive_text x1 x2])
  go_ret
  exact ⟨rfl, HB5.out⟩
end Go.Proofs.YtacjlkjdmhlbaaaDoor.Gr
