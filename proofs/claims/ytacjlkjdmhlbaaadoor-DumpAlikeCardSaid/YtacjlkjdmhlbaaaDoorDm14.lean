/- Parts of one proof, set together: DoorDk11, DoorDk12. What each says stands at its head; no condition beyond theirs. -/
import Derived.Test.YtacjlkjdmhlbaaaDoorDm13
import Derived.Lib.AppendIntMem
/- Dump: Graph. Conditions: the graph lies in memory and is small; the table of powers is laid. -/
namespace Go.Proofs.YtacjlkjdmhlbaaaDoor.Gr
open Go.RowKit Go.Shelf Go.Maps Go.ChangeMaps Go.MapKept Go.Proofs.YtacjlkjdmhlbaaaDoorW.PrintWords Go.Proofs.YtacjlkjdmhlbaaaDoorW.PrintLast Go.Proofs.YtacjlkjdmhlbaaaDoorW.PrintMore
set_option linter.unusedSimpArgs false
set_option linter.unusedVariables false
/-! ### The text -/
def rootT (ws R : List Int) (i : Nat) : List UInt8 := if R.getD i 0 = 0 then [] else lineR [[114, 111, 111, 116], Lib.itoa (i : Int), objR (pl ws (R.getD i 0))]
def rootsT (ws R : List Int) (n : Nat) : List UInt8 := (List.range n).flatMap (rootT ws R)
theorem rootsT_succ (ws R : List Int) (n : Nat) : rootsT ws R (n + 1) = rootsT ws R n ++ rootT ws R n := by
  unfold rootsT
  rw [List.range_succ, List.flatMap_append]
  simp
def nodeT (ws : List Int) (n : Nd) : List UInt8 := lineR ([objR (pl ws n.adr) ++ [58], Lib.itoa n.words, [119, 111, 114, 100, 115]] ++ slotsR ws n.S ++ dataR n.T)
def nodesT (ws : List Int) (M : List Nd) (n : Nat) : List UInt8 := (List.range n).flatMap fun i => nodeT ws (M.getD i default)
theorem nodesT_succ (ws : List Int) (M : List Nd) (n : Nat) : nodesT ws M (n + 1) = nodesT ws M n ++ nodeT ws (M.getD n default) := by
  unfold nodesT
  rw [List.range_succ, List.flatMap_append]
  simp
def graphT (NS : List Nd) (R : List Int) : List UInt8 := rootsT (walkR NS R) R R.length ++ nodesT (walkR NS R) ((walkR NS R).map (nodeOf NS)) (walkR NS R).length
/-! ### The builder -/
def Bld (B b : Nat) (txt : List UInt8) (w : World) : Prop := Lib.IsBuilder 45 5 B b (Lib.byteCells txt) w
theorem Bld.drew_ {B b : Nat} {txt : List UInt8} {w : World} (h : Bld B b txt w) : Bld B b txt w.drew := h
theorem Bld.below {B b : Nat} {txt : List UInt8} {w w' : World} (h : Bld B b txt w) (hb : Below w.heap.size w w') : Bld B b txt w' := by
  have hat : ∀ p, Lib.BuilderAt 45 5 B b p (Lib.byteCells txt) w → Lib.BuilderAt 45 5 B b p (Lib.byteCells txt) w' := fun p ⟨h1, v, h2, h3, h4⟩ => ⟨h1, v, (hb.block b (blk_lt h2)).trans h2, row9_below h3 hb, h4⟩
  rcases h with h | h
  · exact .inl (hat _ h)
  · exact .inr (hat _ h)
theorem Bld.new (w : World) : Bld w.heap.size w.heap.size [] (w.alloc (.cells #[.pointer none, .slice none 0 0] 45)) := .inl ⟨Nat.le_refl _, .slice none 0 0, blk_new _ _, World.ownsRow_nil _ _ _ _, by simp [Value.ownBlock]⟩
theorem byteCells_app (a b : List UInt8) : Lib.byteCells (a ++ b) = Lib.byteCells a ++ Lib.byteCells b := by simp [Lib.byteCells]
theorem wbld_calls (B b : Nat) (txt s : List UInt8) (w : World) (h : Bld B b txt w) (hlen : txt.length + s.length ≤ 140737488355328) (hBw : B ≤ w.heap.size) : Calls Tryd.prog 12 #[.pointer (some ⟨b, 0, none⟩), .string ⟨s.toArray⟩] w fun e w' => e = .returned (.tuple #[.int .i64 ((⟨s.toArray⟩ : ByteArray).size : Int), .nilIface]) ∧ Bld B b (txt ++ s) w' ∧ Below B w w' := by
  refine (wstr_calls B b (Lib.byteCells txt) ⟨s.toArray⟩ w h (by simpa [Lib.byteCells, ByteArray.size] using hlen) hBw).mono ?_
  rintro e w' ⟨rfl, h1, h2⟩
  refine ⟨rfl, ?_, h2⟩
  unfold Bld
  rw [byteCells_app]
  exact .inr h1
theorem RW3 {W : World} {g : Nat} {a b c : List UInt8} (h : W.heap[g]? = some (.cells #[.string ⟨a.toArray⟩, .string ⟨b.toArray⟩, .string ⟨c.toArray⟩] 9 (0, 0))) : RW W (some ⟨g, 0, none⟩) 3 3 [a, b, c] :=
  ⟨rfl, 0, rfl, .inr ⟨g, 3, _, rfl, Nat.zero_le _, h, Nat.le_refl _, by unfold maxLen; omega, rfl, rfl⟩⟩
theorem IL.to_ {k : IntKind} {W W' : World} {a : Option Addr} {len : Nat} {l : List Int} (h : IL k W W.heap.size a len l) (hb : Below W.heap.size W W') : IL k W' W'.heap.size a len l := h.to hb
/-! ### How long words are -/
theorem objR_le (p : Nat) (h : p ≤ 1000) : (objR p).length ≤ 22 := by
  have := itoa_len (p : Int) (by omega) (by omega)
  unfold objR
  split
  · rw [List.length_cons]; omega
  · simp
theorem slots_words (ws S : List Int) (h : ws.length ≤ 40) : ∀ s ∈ slotsR ws S, s.length ≤ 50 := by
  intro s hs
  unfold slotsR at hs
  split at hs
  · cases hs
  · unfold slotsP at hs
    rcases List.mem_cons.1 hs with rfl | hs
    · simp
    · obtain ⟨x, _, rfl⟩ := List.mem_map.1 hs
      unfold slotW
      split
      · simp
      · have := objR_le (pl ws x) (by have := pl_le x ws; omega)
        omega
theorem slotsR_len (ws S : List Int) : (slotsR ws S).length ≤ S.length + 1 := by
  unfold slotsR
  split
  · simp
  · rw [slotsP_len]; omega
theorem wordsOf_le (u n : Nat) (hu : u < 18446744073709551616) (hn : n ≤ 1000) : ∀ s ∈ wordsOf u n, s.length ≤ 50 := by
  intro s hs
  have h1 := dec_len u hu
  have h2 := itoa_len (n : Int) (by omega) (by omega)
  unfold wordsOf at hs
  split at hs
  · rw [List.mem_singleton.1 hs, List.length_append, List.length_cons]
    omega
  · rw [(List.mem_replicate.1 hs).2]; omega
theorem dataF_words : ∀ (f : Nat) (l : List Int), l.length ≤ 1000 → (∀ x ∈ l, (Lit.int .u64 x).wf = true) → (∀ s ∈ dataF f l, s.length ≤ 50) ∧ (dataF f l).length ≤ l.length
  | 0, l, _, _ => ⟨fun s hs => (by cases hs), Nat.zero_le _⟩
  | f + 1, [], _, _ => ⟨fun s hs => (by cases hs), Nat.zero_le _⟩
  | f + 1, x :: l, h, hw => by
    have h1 := runs_pos x l
    have h2 := runs_le x (x :: l)
    have hx := hw x (by simp)
    have hu : x.toNat < 18446744073709551616 := by have := (Lit.wf_int_iff .u64 _).1 hx; simp [IntKind.min, IntKind.max, IntKind.signed, IntKind.bits] at this; omega
    obtain ⟨k1, k2⟩ := dataF_words f ((x :: l).drop (runs x (x :: l))) (by rw [List.length_drop]; omega) (fun z hz => hw z (List.mem_of_mem_drop hz))
    have k3 := words_len x.toNat (runs x (x :: l)) h1
    constructor
    · intro s hs
      rcases List.mem_append.1 hs with hs | hs
      · exact wordsOf_le _ _ hu (by omega) s hs
      · exact k1 s hs
    · show (wordsOf _ _ ++ dataF f _).length ≤ _
      rw [List.length_append]
      rw [List.length_drop] at k2
      omega
theorem data_words (l : List Int) (h : l.length ≤ 1000) (hw : ∀ x ∈ l, (Lit.int .u64 x).wf = true) : (∀ s ∈ dataR l, s.length ≤ 50) ∧ (dataR l).length ≤ l.length + 1 := by
  obtain ⟨k1, k2⟩ := dataF_words l.length l h hw
  unfold dataR
  split
  · exact ⟨fun s hs => (by cases hs), Nat.zero_le _⟩
  · refine ⟨fun s hs => ?_, by rw [List.length_cons]; exact Nat.succ_le_succ k2⟩
    rcases List.mem_cons.1 hs with rfl | hs
    · simp
    · exact k1 s hs
/-- What a graph's nodes must be besides. -/
def Ex (NS : List Nd) : Prop := ∀ n ∈ NS, n.n ≤ n.d ∧ (∀ x ∈ n.T, (Lit.int .u64 x).wf = true) ∧ (Lit.int .i64 n.words).wf = true
theorem i64_bounds {x : Int} (h : (Lit.int .i64 x).wf = true) : -9223372036854775808 ≤ x ∧ x ≤ 9223372036854775807 := by
  have := (Lit.wf_int_iff .i64 _).1 h
  simp [IntKind.min, IntKind.max, IntKind.signed, IntKind.bits] at this
  omega
def gr7.T7 : Bool × List (List Nat × List Nat) := (true, [([], []), ([0], [0]), ([], []), ([], []), ([2, 3, 1], [2, 3]), ([1, 4], [1, 4]), ([5, 4], [5]), ([6, 6], [6])])
def gr7.B7 : List Nat := [0, 1, 0, 0, 15, 31, 63, 127]
theorem gr7.tab7 : rtab .any (opsOf Tryd.f8 7) = gr7.T7 := by kernel_rfl
theorem gr7.bits7 : waitsOk gr7.T7.2 gr7.B7 = true := by kernel_rfl
def gr12.T12 : Bool × List (List Nat × List Nat) := (true, [([], []), ([], []), ([1], [1]), ([0, 2], [0, 2]), ([3], [3]), ([], []), ([5], [5]), ([6], [6]), ([7, 3], [7]), ([4, 8], [4, 8]), ([9, 8, 0, 1, 2, 3, 4, 5, 6, 7, 8, 9], [9])])
def gr12.B12 : List Nat := [0, 0, 2, 7, 15, 0, 32, 96, 239, 511, 1023]
theorem gr12.tab12 : rtab .any (opsOf Tryd.f8 12) = gr12.T12 := by kernel_rfl
theorem gr12.bits12 : waitsOk gr12.T12.2 gr12.B12 = true := by kernel_rfl
def gr13.T13 : Bool × List (List Nat × List Nat) := (true, [([], []), ([], []), ([], []), ([2], [2]), ([1, 3], [1, 3]), ([], []), ([5], [5]), ([6, 4], [6]), ([0, 4, 7], [0, 4, 7]), ([8, 7], [8]), ([9, 9], [9]), ([10, 10], [10])])
def gr13.B13 : List Nat := [0, 0, 0, 4, 14, 0, 32, 126, 255, 511, 1023, 2047]
theorem gr13.tab13 : rtab .any (opsOf Tryd.f8 13) = gr13.T13 := by kernel_rfl
theorem gr13.bits13 : waitsOk gr13.T13.2 gr13.B13 = true := by kernel_rfl
set_option maxHeartbeats 16000000 in
set_option maxRecDepth 100000 in
theorem graph_calls (W : World) (B : Nat) (hB : B ≤ W.heap.size) (g : Gd) (hsm : Small g) (HG : Aside0 (GM W B g)) (HE : Aside0 (Ex g.NS)) (HT : Aside0 (Tb W)) : Calls Tryd.prog 8 #[.agg #[.slice g.rA g.rl g.rc, .slice g.nA g.nl g.nc]] W fun e W' => e = .returned (.string ⟨(graphT g.NS g.R).toArray⟩) ∧ Below W.heap.size W W' := by
  obtain ⟨rA, rl, rc, R, nA, nl, nc, NS⟩ := g
  (try dsimp only)
  have HB := Aside0.mk (Below.refl W.heap.size W)
  go_enter Tryd.func8, Tryd.ntmps8
  go_upto_region 1 with ((with_reducible refine gate_dst (N := 1) rfl ?_); refine box_event ?hg (N := 1) ?hd (cs := #[.slice rA rl rc, .slice nA nl nc]) (t := 25) ?hr ?_; (case hd => rfl); (case hg => rfl); (case hr => first | (go_simp; done) | (go_simp; rfl)); intro g1 hg w1_ hbox hb; have n0_ := Aside0.mk (below_step (by repeat (first | (with_reducible first | exact HB.out | apply below_alloc | apply pw_below_drewN | apply below_drew1) | exact HB.out)) hb); have n1_ := Aside0.mk hbox; have n2_ := Aside0.mk ((by rw [hg]; exact (below_size (by repeat (first | (with_reducible first | exact HB.out | apply below_alloc | apply pw_below_drewN | apply below_drew1) | exact HB.out)))) : W.heap.size ≤ g1); clear HB; have HB := n0_; have BK1 := n1_; have GE1 := n2_; clear n0_ n1_ n2_; clear hb hbox hg)
  have hl1_0 : w1_.cell? ⟨g1, 0, none⟩ = some (.slice rA rl rc) := (blk_cell BK1.out 0).trans rfl
  have hl1_1 : w1_.cell? ⟨g1, 1, none⟩ = some (.slice nA nl nc) := (blk_cell BK1.out 1).trans rfl
  go_upto_region 2 with (go_at_call 11; refine (walked_calls _ B (Nat.le_trans hB HB.out.size) ⟨rA, rl, rc, R, nA, nl, nc, NS⟩ hsm (Aside0.mk (HG.out.kept fun k hk => HB.out.block k (by omega)))).mono ?_; rintro e w10 ⟨mb, aN, cN, rfl, hm, hr, hb⟩; have HB10 := Aside0.mk (below_step HB.out hb); have BK110 := Aside0.mk (blk_below BK1.out hb); have HM10 := Aside0.mk hm; have OWN10 := Aside0.mk hr; clear hm hr hb)
  (try dsimp only at HM10 OWN10)
  obtain ⟨ws, hws_⟩ : ∃ ws, ws = walkR NS R := ⟨_, rfl⟩
  (try dsimp only)
  rw [← hws_] at HM10 OWN10 ⊢
  have HWS := Aside0.mk hws_
  have hws : ws.length ≤ 40 := by rw [hws_]; exact Nat.le_trans (walkR_len _ _) (by have h1 : NS.length = nl := HG.out.nds.1; have h2 : nl ≤ 40 := hsm.n40; omega)
  have HFI := Aside0.mk (show ∀ x ∈ ws, ∃ k, find NS x = some k from fun x hx => walkR_find (by rw [← hws_]; exact hx))
  clear hws_
  obtain ⟨nw, hnw⟩ : ∃ n, n = ws.length := ⟨_, rfl⟩
  rw [← hnw] at OWN10 hws ⊢
  have HNW0 := Aside0.mk hnw
  clear hnw
  obtain ⟨W2, hW2⟩ : ∃ x, x = w10.alloc (.cells #[.map (some mb), .slice aN nw cN] 40) := ⟨_, rfl⟩
  obtain ⟨g3, hg3⟩ : ∃ x, x = w10.heap.size := ⟨_, rfl⟩
  rw [← hW2, ← hg3]
  have hb2 : Below w10.heap.size w10 W2 := by rw [hW2]; exact below_alloc (Below.refl _ _) _
  have BK3 := Aside0.mk (show W2.heap[g3]? = some (.cells #[.map (some mb), .slice aN nw cN] 40 (0, 0)) by rw [hW2, hg3]; exact blk_new _ _)
  have HBW2 := Aside0.mk (below_step HB10.out hb2)
  have BK1w := Aside0.mk (blk_below BK110.out hb2)
  have HM := Aside0.mk (HM10.out.below hb2)
  have OWN := Aside0.mk (row9_below OWN10.out hb2)
  clear hb2 hW2 hg3 HB BK1 HB10 BK110 HM10 OWN10 hl1_0 hl1_1
  have HNW := Aside0.mk (Below.refl W2.heap.size W2)
  go_upto_region 3 with fail
  obtain ⟨bb, hb_⟩ : ∃ x, x = W2.heap.size := ⟨_, rfl⟩
  obtain ⟨w4, hw4⟩ : ∃ x, x = W2.alloc (.cells #[.pointer none, .slice none 0 0] 45) := ⟨_, rfl⟩
  have BLD := Aside0.mk (show Bld W2.heap.size bb [] w4 by rw [hw4, hb_]; exact Bld.new W2)
  have HB := Aside0.mk (show Below W2.heap.size W2 w4 by rw [hw4]; exact below_alloc (Below.refl _ _) _)
  rw [← hw4, ← hb_]
  have HBB := Aside0.mk hb_
  clear hw4 hb_
  have hc1 : w4.cell? ⟨g1, 0, none⟩ = some (.slice rA rl rc) := (blk_cell (blk_below BK1w.out HB.out) 0).trans rfl
  have hr40 : rl ≤ 40 := hsm.r40
  have hRl : R.length = rl := HG.out.rts.1
  have HLWR := Aside0.mk (show ∀ (i : Nat) (x : Int), i ≤ 40 → ∀ s ∈ [[114, 111, 111, 116], Lib.itoa (i : Int), objR (pl ws x)], s.length ≤ 50 from fun i x hi s hs => by
    have h1 := itoa_len (i : Int) (by omega) (by omega)
    have h2 := objR_le (pl ws x) (by have := pl_le x ws; have := HNW0.out; omega)
    simp only [List.mem_cons, List.not_mem_nil, or_false] at hs
    rcases hs with rfl | rfl | rfl
    · simp
    · omega
    · omega)
  go_wp2
  go_loopw [15] (fun v wr => ∃ i : Nat, i ≤ rl ∧ v = .int .i64 (i : Int) ∧ Aside0 (Below W2.heap.size W2 wr) ∧ Aside0 (Bld W2.heap.size bb (rootsT ws R i) wr) ∧ Aside0 ((rootsT ws R i).length ≤ i * 200)) (fun v _ => rl - (intOf v).toNat)
  case atStart => exact ⟨0, by omega, rfl, HB, BLD, Aside0.mk (Nat.zero_le _)⟩
  case round =>
    clear HB BLD hc1
    obtain ⟨i, hi_, rfl, HB, BLD, HTL⟩ := hrel
    by_cases hgo : i < rl
    · have hd : decide ((i : Int) < (rl : Int)) = true := decide_eq_true (by omega)
      obtain ⟨y, e, _, hy⟩ := (HG.out.rts.kept fun k hk => (below_step HBW2.out HB.out).block k (by omega)).2 i hgo
      replace e : rA = some y := e
      replace hy : wr.cell? (y.add i) = some (.int .i64 (R.getD i 0)) := hy
      subst e
      obtain ⟨x, hx⟩ : ∃ x, x = R.getD i 0 := ⟨_, rfl⟩
      rw [← hx] at hy
      have HXW := Aside0.mk (show (Lit.int .i64 x).wf = true by rw [hx, List.getD_eq_getElem?_getD, List.getElem?_eq_getElem (show i < R.length by omega)]; exact HG.out.rok _ (List.getElem_mem _))
      have HX := Aside0.mk hx
      clear hx
      have hi0 : (0 : Int) ≤ (i : Int) := by omega
      have hi1 : (i : Int) < (rl : Int) := by omega
      have hi1n : i + 1 ≤ rl := by omega
      obtain ⟨txt, htxt⟩ : ∃ t, t = rootsT ws R i := ⟨_, rfl⟩
      rw [← htxt] at BLD HTL
      have HTX := Aside0.mk htxt
      clear htxt
      by_cases h0 : x = 0
      · have hx0 : (x != 0) = false := by simp [h0]
        have HST := Aside0.mk (show rootsT ws R (i + 1) = txt by rw [rootsT_succ, ← HTX.out]; unfold rootT; rw [if_pos (by rw [← HX.out]; exact h0), List.append_nil])
        clear h0
        go_wp2
        refine ⟨⟨i + 1, hi1n, by push_cast; rfl, HB, Aside0.mk (by rw [HST.out]; exact BLD.out), Aside0.mk (by rw [HST.out]; have := HTL.out; omega)⟩, ?_⟩
        show rl - ((i : Int) + 1).toNat < rl - (i : Int).toNat
        omega
      · have hx0 : (x != 0) = true := by simp [h0]
        have HST := Aside0.mk (show rootsT ws R (i + 1) = txt ++ lineR [[114, 111, 111, 116], Lib.itoa (i : Int), objR (pl ws x)] by rw [rootsT_succ, ← HTX.out]; unfold rootT; rw [← HX.out, if_neg h0])
        clear h0
        have HLW := Aside0.mk (HLWR.out i x (by omega))
        have HLE := Aside0.mk (lineR_le [[114, 111, 111, 116], Lib.itoa (i : Int), objR (pl ws x)] HLW.out)
        have HLL := Aside0.mk (show txt.length + (lineR [[114, 111, 111, 116], Lib.itoa (i : Int), objR (pl ws x)]).length ≤ 140737488355328 by have h1 := HTL.out; have h2 := HLE.out; simp only [List.length_cons, List.length_nil] at h2; omega)
        have HWE := HNW0.out
        have hws' : ws.length ≤ 40 := by omega
        have hwsn := hws
        clear hws HWE
        have hws := hws'
        clear hws'
        go_upto_region 7 with fail
        refine start_ (n := 8) (S := fun w' => True) (ds := []) #[false, false, false, false, false, false, false, false] (by kernel_rfl) rfl rfl trivial (fun hHeld => ?_)
        refine with_tabW gr7.tab7 gr7.bits7 (fun HT_ HW_ => ?_)
        refine inv_at [0, 1, 2, 3, 4, 5, 6, 7] (fun a0_ b a w' => ∃ (gz : Nat) (m5_ : Value), a = putSel a0_ b [(0, 22, .int .i64 (i : Int)), (1, 23, .string ⟨(Lib.itoa (i : Int)).toArray⟩), (2, 24, .agg #[.map (some mb), .slice aN nw cN]), (3, 25, .int .i64 x), (4, 26, .string ⟨(objR (pl ws x)).toArray⟩), (5, 27, m5_), (6, 28, .string ⟨(lineR [[114, 111, 111, 116], Lib.itoa (i : Int), objR (pl ws x)]).toArray⟩), (7, 29, .tuple #[.int .i64 ((⟨(lineR [[114, 111, 111, 116], Lib.itoa (i : Int), objR (pl ws x)]).toArray⟩ : ByteArray).size : Int), .nilIface])] ∧ (Below W2.heap.size W2 w') ∧ (b 5 = true → b 7 = false → w'.heap[gz]? = some (.cells #[.string ⟨#[114, 111, 111, 116]⟩, .string ⟨(Lib.itoa (i : Int)).toArray⟩, .string ⟨(objR (pl ws x)).toArray⟩] 9 (0, 0))) ∧ (b 7 = false → Bld W2.heap.size bb txt w') ∧ (b 7 = true → Bld W2.heap.size bb (txt ++ lineR [[114, 111, 111, 116], Lib.itoa (i : Int), objR (pl ws x)]) w') ∧ (b 5 = true → (m5_ : Value) = .slice (some ⟨gz, 0, none⟩) 3 3)) HT_.out HW_.out (by kernel_rfl) (by kernel_rfl) ?_ ?_ ?_
        · exact ⟨0, .bool false, by simp only [putSel, Bool.false_eq_true, if_false], below_drew1 HB.out, fun h_ => absurd h_ (by decide), fun _ => BLD.out.drew_, fun h_ => absurd h_ (by decide), fun h_ => absurd h_ (by decide)⟩
        · skip
          clear BLD HB
          refine steps_cons ?_ ?_
          · rintro b a w' ⟨gz, m5_, ha, Q_HB, Q_BZ, Q_BLD, Q_BLD2, Q_X5_⟩ hb_ hon hoff
            refine ⟨_, rfl, fun K hK => ?_⟩
            have e5 : a.tmps[5]? = some (.int .i64 (i : Int)) := by rw [ha]; exact (putSel_off rfl).trans rfl
            replace ha := Aside0.mk ha
            have HB := Aside0.mk Q_HB
            have BLD := Aside0.mk (Q_BLD (hoff 7 (by kernel_rfl)))
            refine value_ (w1 := w') (v := .int .i64 (i : Int)) (by rfl) rfl ?_ ?_
            · go_simp
              (try simp only [i64_w])
              try rfl
            refine hK.out _ _ ⟨gz, m5_, (by rw [ha.out]; exact putSel_upk 0 hb_ rfl rfl rfl), Q_HB, fun h0_ _ => absurd ((hoff 5 (by kernel_rfl)).symm.trans h0_) (by decide), Q_BLD, fun h0_ => absurd ((hoff 7 (by kernel_rfl)).symm.trans h0_) (by decide), fun h0_ => absurd ((hoff 5 (by kernel_rfl)).symm.trans h0_) (by decide)⟩
          refine steps_cons ?_ ?_
          · rintro b a w' ⟨gz, m5_, ha, Q_HB, Q_BZ, Q_BLD, Q_BLD2, Q_X5_⟩ hb_ hon hoff
            refine ⟨_, rfl, fun K hK => ?_⟩
            have e22 : a.tmps[22]? = some (.int .i64 (i : Int)) := by rw [ha]; exact putSel_on (e := (0, 22, .int .i64 (i : Int))) 0 rfl rfl (hon 0 (by kernel_rfl)) rfl
            replace ha := Aside0.mk ha
            have HB := Aside0.mk Q_HB
            have BLD := Aside0.mk (Q_BLD (hoff 7 (by kernel_rfl)))
            refine goes_ Tryd.func14 (by kernel_rfl) rfl #[.int .i64 (i : Int)] (by rfl) rfl rfl (by first | (simp only [List.map_toArray, List.map_cons, List.map_nil, Act.eval, Array.getD_eq_getD_getElem?, Option.getD_some, e22]; done) | (simp only [List.map_toArray, List.map_cons, List.map_nil, Act.eval, Array.getD_eq_getD_getElem?, Option.getD_some, e22]; rfl)) ?_
            with_reducible refine (itoa_calls (i : Int) (by omega) (by omega) _ (Aside0.mk (HT.out.to (below_step HBW2.out HB.out)))).mono ?_
            rintro e w3 ⟨rfl, hb⟩
            refine ⟨_, rfl, ?_⟩
            refine hK.out _ _ ⟨gz, m5_, (by rw [ha.out]; exact putSel_upk 1 hb_ rfl rfl rfl), (below_step HB.out hb), fun h0_ _ => absurd ((hoff 5 (by kernel_rfl)).symm.trans h0_) (by decide), fun _ => (BLD.out.below hb), fun h0_ => absurd ((hoff 7 (by kernel_rfl)).symm.trans h0_) (by decide), fun h0_ => absurd ((hoff 5 (by kernel_rfl)).symm.trans h0_) (by decide)⟩
          refine steps_cons ?_ ?_
          · rintro b a w' ⟨gz, m5_, ha, Q_HB, Q_BZ, Q_BLD, Q_BLD2, Q_X5_⟩ hb_ hon hoff
            refine ⟨_, rfl, fun K hK => ?_⟩
            have e3 : a.tmps[3]? = some (.pointer (some ⟨g3, 0, none⟩)) := by rw [ha]; exact (putSel_off rfl).trans rfl
            replace ha := Aside0.mk ha
            have HB := Aside0.mk Q_HB
            have BLD := Aside0.mk (Q_BLD (hoff 7 (by kernel_rfl)))
            have hl24_0 : w'.cell? ⟨g3, 0, none⟩ = some (.map (some mb)) := (blk_cell (blk_below BK3.out HB.out) 0).trans rfl
            have hl24_1 : w'.cell? ⟨g3, 1, none⟩ = some (.slice aN nw cN) := (blk_cell (blk_below BK3.out HB.out) 1).trans rfl
            refine value_ (w1 := w') (v := .agg #[.map (some mb), .slice aN nw cN]) (by rfl) rfl ?_ ?_
            · go_simp
              (try simp only [i64_w])
              try rfl
            refine hK.out _ _ ⟨gz, m5_, (by rw [ha.out]; exact putSel_upk 2 hb_ rfl rfl rfl), Q_HB, fun h0_ _ => absurd ((hoff 5 (by kernel_rfl)).symm.trans h0_) (by decide), Q_BLD, fun h0_ => absurd ((hoff 7 (by kernel_rfl)).symm.trans h0_) (by decide), fun h0_ => absurd ((hoff 5 (by kernel_rfl)).symm.trans h0_) (by decide)⟩
          refine steps_cons ?_ ?_
          · rintro b a w' ⟨gz, m5_, ha, Q_HB, Q_BZ, Q_BLD, Q_BLD2, Q_X5_⟩ hb_ hon hoff
            refine ⟨_, rfl, fun K hK => ?_⟩
            have e6 : a.tmps[6]? = some (.int .i64 x) := by rw [ha]; exact (putSel_off rfl).trans rfl
            replace ha := Aside0.mk ha
            have HB := Aside0.mk Q_HB
            have BLD := Aside0.mk (Q_BLD (hoff 7 (by kernel_rfl)))
            refine value_ (w1 := w') (v := .int .i64 x) (by rfl) rfl ?_ ?_
            · go_simp
              (try simp only [i64_w])
              try rfl
            refine hK.out _ _ ⟨gz, m5_, (by rw [ha.out]; exact putSel_upk 3 hb_ rfl rfl rfl), Q_HB, fun h0_ _ => absurd ((hoff 5 (by kernel_rfl)).symm.trans h0_) (by decide), Q_BLD, fun h0_ => absurd ((hoff 7 (by kernel_rfl)).symm.trans h0_) (by decide), fun h0_ => absurd ((hoff 5 (by kernel_rfl)).symm.trans h0_) (by decide)⟩
          refine steps_cons ?_ ?_
          · rintro b a w' ⟨gz, m5_, ha, Q_HB, Q_BZ, Q_BLD, Q_BLD2, Q_X5_⟩ hb_ hon hoff
            refine ⟨_, rfl, fun K hK => ?_⟩
            have e24 : a.tmps[24]? = some (.agg #[.map (some mb), .slice aN nw cN]) := by rw [ha]; exact putSel_on (e := (2, 24, .agg #[.map (some mb), .slice aN nw cN])) 2 rfl rfl (hon 2 (by kernel_rfl)) rfl
            have e25 : a.tmps[25]? = some (.int .i64 x) := by rw [ha]; exact putSel_on (e := (3, 25, .int .i64 x)) 3 rfl rfl (hon 3 (by kernel_rfl)) rfl
            replace ha := Aside0.mk ha
            have HB := Aside0.mk Q_HB
            have BLD := Aside0.mk (Q_BLD (hoff 7 (by kernel_rfl)))
            refine goes_ Tryd.func15 (by kernel_rfl) rfl #[.agg #[.map (some mb), .slice aN nw cN], .int .i64 x] (by rfl) rfl rfl (by first | (simp only [List.map_toArray, List.map_cons, List.map_nil, Act.eval, Array.getD_eq_getD_getElem?, Option.getD_some, e24, e25]; done) | (simp only [List.map_toArray, List.map_cons, List.map_nil, Act.eval, Array.getD_eq_getD_getElem?, Option.getD_some, e24, e25]; rfl)) ?_
            with_reducible refine (object_calls _ mb aN nw cN ws (Aside0.mk (HM.out.below HB.out)) x HXW.out hws (Aside0.mk (HT.out.to (below_step HBW2.out HB.out)))).mono ?_
            rintro e w3 ⟨rfl, hb⟩
            refine ⟨_, rfl, ?_⟩
            refine hK.out _ _ ⟨gz, m5_, (by rw [ha.out]; exact putSel_upk 4 hb_ rfl rfl rfl), (below_step HB.out hb), fun h0_ _ => absurd ((hoff 5 (by kernel_rfl)).symm.trans h0_) (by decide), fun _ => (BLD.out.below hb), fun h0_ => absurd ((hoff 7 (by kernel_rfl)).symm.trans h0_) (by decide), fun h0_ => absurd ((hoff 5 (by kernel_rfl)).symm.trans h0_) (by decide)⟩
          refine steps_cons ?_ ?_
          · rintro b a w' ⟨gz, m5_, ha, Q_HB, Q_BZ, Q_BLD, Q_BLD2, Q_X5_⟩ hb_ hon hoff
            refine ⟨_, rfl, fun K hK => ?_⟩
            have e23 : a.tmps[23]? = some (.string ⟨(Lib.itoa (i : Int)).toArray⟩) := by rw [ha]; exact putSel_on (e := (1, 23, .string ⟨(Lib.itoa (i : Int)).toArray⟩)) 1 rfl rfl (hon 1 (by kernel_rfl)) rfl
            have e26 : a.tmps[26]? = some (.string ⟨(objR (pl ws x)).toArray⟩) := by rw [ha]; exact putSel_on (e := (4, 26, .string ⟨(objR (pl ws x)).toArray⟩)) 4 rfl rfl (hon 4 (by kernel_rfl)) rfl
            replace ha := Aside0.mk ha
            have HB := Aside0.mk Q_HB
            have BLD := Aside0.mk (Q_BLD (hoff 7 (by kernel_rfl)))
            refine value_ (w1 := ?_) (v := ?_) (by rfl) rfl ?_ ?_
            rotate_left 2
            · go_simp
              constructor
              · rfl
              · rfl
            have hb := below_alloc (Below.refl w'.heap.size w') (.cells #[.string ⟨#[114, 111, 111, 116]⟩, .string ⟨(Lib.itoa (i : Int)).toArray⟩, .string ⟨(objR (pl ws x)).toArray⟩] 9)
            refine hK.out _ _ ⟨w'.heap.size, (.slice (some ⟨w'.heap.size, 0, none⟩) 3 3), (by rw [ha.out]; exact putSel_upk 5 hb_ rfl rfl rfl), (below_step HB.out hb), fun _ _ => (blk_new w' (.cells #[.string ⟨#[114, 111, 111, 116]⟩, .string ⟨(Lib.itoa (i : Int)).toArray⟩, .string ⟨(objR (pl ws x)).toArray⟩] 9)), fun _ => (BLD.out.below hb), fun h0_ => absurd ((hoff 7 (by kernel_rfl)).symm.trans h0_) (by decide), fun _ => rfl⟩
          refine steps_cons ?_ ?_
          · rintro b a w' ⟨gz, m5_, ha, Q_HB, Q_BZ, Q_BLD, Q_BLD2, Q_X5_⟩ hb_ hon hoff
            refine ⟨_, rfl, fun K hK => ?_⟩
            have e27 : a.tmps[27]? = some (m5_) := by rw [ha]; exact putSel_on (e := (5, 27, m5_)) 5 rfl rfl (hon 5 (by kernel_rfl)) rfl
            rw [Q_X5_ (hon 5 (by kernel_rfl))] at e27
            replace ha := Aside0.mk ha
            have HB := Aside0.mk Q_HB
            have BZ := Aside0.mk (Q_BZ (hon 5 (by kernel_rfl)) (hoff 7 (by kernel_rfl)))
            have BLD := Aside0.mk (Q_BLD (hoff 7 (by kernel_rfl)))
            refine goes_ Tryd.func13 (by kernel_rfl) rfl #[.slice (some ⟨gz, 0, none⟩) 3 3] (by rfl) rfl rfl (by first | (simp only [List.map_toArray, List.map_cons, List.map_nil, Act.eval, Array.getD_eq_getD_getElem?, Option.getD_some, e27]; done) | (simp only [List.map_toArray, List.map_cons, List.map_nil, Act.eval, Array.getD_eq_getD_getElem?, Option.getD_some, e27]; rfl)) ?_
            with_reducible refine (line_calls _ _ 3 3 [[114, 111, 111, 116], Lib.itoa (i : Int), objR (pl ws x)] (Aside0.mk (RW3 BZ.out)) (by omega) (by omega) HLW).mono ?_
            rintro e w3 ⟨rfl, hb⟩
            refine ⟨_, rfl, ?_⟩
            refine hK.out _ _ ⟨gz, m5_, (by rw [ha.out]; exact putSel_upk 6 hb_ rfl rfl rfl), (below_step HB.out hb), fun _ _ => (blk_below BZ.out hb), fun _ => (BLD.out.below hb), fun h0_ => absurd ((hoff 7 (by kernel_rfl)).symm.trans h0_) (by decide), Q_X5_⟩
          refine steps_cons ?_ ?_
          · rintro b a w' ⟨gz, m5_, ha, Q_HB, Q_BZ, Q_BLD, Q_BLD2, Q_X5_⟩ hb_ hon hoff
            refine ⟨_, rfl, fun K hK => ?_⟩
            have e4 : a.tmps[4]? = some (.pointer (some ⟨bb, 0, none⟩)) := by rw [ha]; exact (putSel_off rfl).trans rfl
            have e28 : a.tmps[28]? = some (.string ⟨(lineR [[114, 111, 111, 116], Lib.itoa (i : Int), objR (pl ws x)]).toArray⟩) := by rw [ha]; exact putSel_on (e := (6, 28, .string ⟨(lineR [[114, 111, 111, 116], Lib.itoa (i : Int), objR (pl ws x)]).toArray⟩)) 6 rfl rfl (hon 6 (by kernel_rfl)) rfl
            replace ha := Aside0.mk ha
            have HB := Aside0.mk Q_HB
            have BZ := Aside0.mk (Q_BZ (hon 5 (by kernel_rfl)) hb_)
            have BLD := Aside0.mk (Q_BLD hb_)
            refine goes_ Tryd.func12 (by kernel_rfl) rfl #[.pointer (some ⟨bb, 0, none⟩), .string ⟨(lineR [[114, 111, 111, 116], Lib.itoa (i : Int), objR (pl ws x)]).toArray⟩] (by rfl) rfl rfl (by first | (simp only [List.map_toArray, List.map_cons, List.map_nil, Act.eval, Array.getD_eq_getD_getElem?, Option.getD_some, e4, e28]; done) | (simp only [List.map_toArray, List.map_cons, List.map_nil, Act.eval, Array.getD_eq_getD_getElem?, Option.getD_some, e4, e28]; rfl)) ?_
            with_reducible refine (wbld_calls _ bb txt (lineR [[114, 111, 111, 116], Lib.itoa (i : Int), objR (pl ws x)]) _ BLD.out HLL.out HB.out.size).mono ?_
            rintro e w3 ⟨rfl, hbl, hb⟩
            refine ⟨_, rfl, ?_⟩
            refine hK.out _ _ ⟨gz, m5_, (by rw [ha.out]; exact putSel_upk 7 hb_ rfl rfl rfl), (HB.out.trans hb), fun _ h1_ => absurd ((up_self b 7).symm.trans h1_) (by decide), fun h0_ => absurd ((up_self b 7).symm.trans h0_) (by decide), fun _ => hbl, Q_X5_⟩
          exact steps_nil
        rintro b a wx hall ⟨gz, m5_, ha, Q_HB, Q_BZ, Q_BLD, Q_BLD2, Q_X5_⟩
        clear BLD HB
        have hb0_ := hall 0 (by kernel_rfl)
        have hb1_ := hall 1 (by kernel_rfl)
        have hb2_ := hall 2 (by kernel_rfl)
        have hb3_ := hall 3 (by kernel_rfl)
        have hb4_ := hall 4 (by kernel_rfl)
        have hb5_ := hall 5 (by kernel_rfl)
        have hb6_ := hall 6 (by kernel_rfl)
        have hb7_ := hall 7 (by kernel_rfl)
        subst ha
        obtain rfl := Q_X5_ hb5_
        simp only [putSel, hb0_, hb1_, hb2_, hb3_, hb4_, hb5_, hb6_, hb7_, if_true, Act.put, List.setIfInBounds_toArray, List.set_cons_zero, List.set_cons_succ]
        have HB := Aside0.mk Q_HB
        clear Q_HB
        clear Q_BZ
        clear Q_BLD
        have BLD2 := Aside0.mk (Q_BLD2 hb7_)
        clear Q_BLD2
        clear hall hb0_ hb1_ hb2_ hb3_ hb4_ hb5_ hb6_ hb7_
        go_wp2
        refine ⟨⟨i + 1, hi1n, by push_cast; rfl, HB, Aside0.mk (by rw [HST.out]; exact BLD2.out), Aside0.mk (by rw [HST.out, List.length_append]; have h1 := HTL.out; have h2 := HLE.out; simp only [List.length_cons, List.length_nil] at h2; omega)⟩, ?_⟩
        show rl - ((i : Int) + 1).toNat < rl - (i : Int).toNat
        omega
    · obtain rfl : i = rl := by omega
      have hd : decide ((i : Int) < (i : Int)) = false := decide_eq_false (by omega)
      have hc3 : wr.cell? ⟨g3, 1, none⟩ = some (.slice aN nw cN) := (blk_cell (blk_below BK3.out HB.out) 1).trans rfl
      obtain ⟨T1, hT1⟩ : ∃ t, t = rootsT ws R i := ⟨_, rfl⟩
      rw [← hT1] at BLD HTL
      have HT1 := Aside0.mk hT1
      clear hT1
      go_wp2
      clear hc3
      obtain ⟨wA, hwA⟩ : ∃ x, x = wr := ⟨_, rfl⟩
      subst hwA
      obtain ⟨M, hM⟩ : ∃ M, M = ws.map (nodeOf NS) := ⟨_, rfl⟩
      rw [← hM] at OWN
      have HMM := Aside0.mk hM
      have HML := Aside0.mk (show M.length = nw by rw [hM, List.length_map]; exact HNW0.out.symm)
      clear hM
      go_loopw [34] (fun v wr => ∃ j : Nat, j ≤ nw ∧ v = .int .i64 (j : Int) ∧ Aside0 (Below W2.heap.size W2 wr) ∧ Aside0 (Bld W2.heap.size bb (T1 ++ nodesT ws M j) wr) ∧ Aside0 ((T1 ++ nodesT ws M j).length ≤ 8000 + j * 40000)) (fun v _ => nw - (intOf v).toNat)
      case atStart => exact ⟨0, by omega, rfl, HB, Aside0.mk (by simpa [nodesT] using BLD.out), Aside0.mk (by have := HTL.out; simp only [nodesT, List.range_zero, List.flatMap_nil, List.append_nil]; omega)⟩
      case round =>
        clear HB BLD HTL
        obtain ⟨j, hj_, rfl, HB, BLD, HTL⟩ := hrel
        by_cases hgo : j < nw
        · have hd : decide ((j : Int) < (nw : Int)) = true := decide_eq_true (by omega)
          obtain ⟨y, e, _, hk0, hk1, hk2, hk3, hk4, hk5⟩ := row35_six (row9_below OWN.out HB.out) hgo
          have hj0 : (0 : Int) ≤ (j : Int) := by omega
          have hj1 : (j : Int) < (nw : Int) := by omega
          have hj1n : j + 1 ≤ nw := by omega
          have hix : ∀ w, (Instr.indexAt 23 (.slice aN nw cN) (.int .i64 (j : Int))).run Tryd.prog w = .ok (.pointer (some (y.add (j * 6)))) w := fun w => by
            rw [e]
            go_simp
          clear e
          obtain ⟨k, hk⟩ : ∃ k, k = M.getD j default := ⟨_, rfl⟩
          rw [← hk] at hk0 hk1 hk2 hk3 hk4 hk5
          have hkM : k ∈ NS ∧ k = M.getD j default := by
            refine ⟨?_, hk⟩
            have hj2 : j < ws.length := by rw [← HNW0.out]; exact hgo
            have e1 : M.getD j default = nodeOf NS (ws.getD j 0) := by
              rw [HMM.out, List.getD_eq_getElem?_getD, List.getElem?_map, List.getElem?_eq_getElem hj2, List.getD_eq_getElem?_getD, List.getElem?_eq_getElem hj2]
              rfl
            obtain ⟨q, hq⟩ := HFI.out (ws.getD j 0) (by rw [List.getD_eq_getElem?_getD, List.getElem?_eq_getElem hj2]; exact List.getElem_mem _)
            rw [hk, e1]
            unfold nodeOf
            rw [hq]
            exact find_mem hq
          have hex := HE.out k hkM.1
          have hsub : DL W B k := HG.out.sub k hkM.1
          have hsub2 : DL W2 W2.heap.size k := by
            have h := hsub.kept fun q hq => HBW2.out.block q (Nat.lt_of_lt_of_le hq hB)
            exact ⟨h.1.up (Nat.le_trans hB HBW2.out.size), h.2.up (Nat.le_trans hB HBW2.out.size)⟩
          have hadr : (Lit.int .i64 k.adr).wf = true := HG.out.ok k hkM.1
          have hsok : ∀ x ∈ k.S, (Lit.int .i64 x).wf = true := HG.out.sok k hkM.1
          have hksz : k.m ≤ 300 ∧ k.n ≤ 300 := hsm.sz k hkM.1
          have HST := Aside0.mk (show nodesT ws M (j + 1) = nodesT ws M j ++ nodeT ws k by rw [nodesT_succ, ← hk])
          clear hk hkM hsub
          obtain ⟨ka, kr, ks, kw, kA, km, kc, kB, kn, kd, kS, kT⟩ := k
          dsimp only at hk0 hk1 hk2 hk3 hk4 hk5 hex hsub2 hadr hsok hksz
          have HKA := Aside0.mk hadr
          have HKW := Aside0.mk (i64_bounds hex.2.2)
          have HSW := Aside0.mk hsok
          have HDW := Aside0.mk hex.2.1
          have hcap : kn ≤ kd := hex.1
          have hkm : km ≤ 300 := hksz.1
          have hkn : kn ≤ 300 := hksz.2
          have HLS : Aside0 (IL .i64 W2 W2.heap.size kA km kS) := Aside0.mk hsub2.1
          have HLD : Aside0 (IL .u64 W2 W2.heap.size kB kn kT) := Aside0.mk hsub2.2
          have hwl : ws.length ≤ 40 := by have := HNW0.out; omega
          have hol := objR_le (pl ws ka) (by have := pl_le ka ws; omega)
          obtain ⟨q58, hq58⟩ : ∃ q, q = objR (pl ws ka) ++ [58] := ⟨_, rfl⟩
          have hqol : q58.length ≤ 23 := by rw [hq58, List.length_append]; simp; omega
          have hil := itoa_len kw HKW.out.1 HKW.out.2
          have hsl1 := slotsR_len ws kS
          have hdl1 := data_words kT (by rw [HLD.out.1]; omega) HDW.out
          have hSl : kS.length = km := HLS.out.1
          have hTl : kT.length = kn := HLD.out.1
          have HLW := Aside0.mk (show ∀ s ∈ ([q58, Lib.itoa kw, [119, 111, 114, 100, 115]] ++ slotsR ws kS ++ dataR kT), s.length ≤ 50 from fun s hs => by
            rcases List.mem_append.1 hs with hs | hs
            · rcases List.mem_append.1 hs with hs | hs
              · simp only [List.mem_cons, List.not_mem_nil, or_false] at hs
                rcases hs with rfl | rfl | rfl
                · omega
                · omega
                · simp
              · exact slots_words ws kS hwl s hs
            · exact hdl1.1 s hs)
          have HCL := Aside0.mk (show (([q58, Lib.itoa kw, [119, 111, 114, 100, 115]] ++ slotsR ws kS ++ dataR kT)).length = (3 + (slotsR ws kS).length + (dataR kT).length) by rw [List.length_append, List.length_append]; rfl)
          have HN1 := Aside0.mk (show (slotsR ws kS).length ≤ 301 by omega)
          have HN2 := Aside0.mk (show (dataR kT).length ≤ 301 by have := hdl1.2; omega)
          have HN3 := Aside0.mk (show (3 + (slotsR ws kS).length + (dataR kT).length) ≤ 1000 by have := HN1.out; have := HN2.out; omega)
          have HLE := Aside0.mk (show (lineR ([q58, Lib.itoa kw, [119, 111, 114, 100, 115]] ++ slotsR ws kS ++ dataR kT)).length ≤ 40000 by have h := lineR_le _ HLW.out; rw [HCL.out] at h; have h1 := HN1.out; have h2 := HN2.out; omega)
          obtain ⟨txt, htxt⟩ : ∃ t, t = T1 ++ nodesT ws M j := ⟨_, rfl⟩
          rw [← htxt] at BLD HTL
          have HTX := Aside0.mk (show T1 ++ nodesT ws M (j + 1) = txt ++ lineR ([q58, Lib.itoa kw, [119, 111, 114, 100, 115]] ++ slotsR ws kS ++ dataR kT) by rw [HST.out, htxt, List.append_assoc, hq58]; rfl)
          clear htxt
          have HLL := Aside0.mk (show txt.length + (lineR ([q58, Lib.itoa kw, [119, 111, 114, 100, 115]] ++ slotsR ws kS ++ dataR kT)).length ≤ 140737488355328 by have h1 := HTL.out; have h2 := HLE.out; omega)
          have HCAT := Aside0.mk (fun (w : World) => (by
            rw [run_string_add_sum w _ _ (by simp [ByteArray.size]; omega), hq58]; exact congrArg (fun b => Result.ok (Value.string b) w) (ByteArray.mk_append_mk _ [58]) : (Op.stringOp .add ⟨(objR (pl ws ka)).toArray⟩ ⟨#[58]⟩).run Tryd.prog w = .ok (.string ⟨q58.toArray⟩) w))
          have HQ58 := Aside0.mk hq58
          clear hq58 hqol
          clear hex hsub2 hadr hsok hksz hol hil hsl1 hdl1 hSl hTl
          clear hws
          have hws := hwl
          clear hwl
          have hwsn : nw ≤ 40 := by have := HNW0.out; omega
          go_upto_region 12 with fail
          obtain ⟨g8, hg8⟩ : ∃ x, x = wr.heap.size := ⟨_, rfl⟩
          obtain ⟨wc, hwc⟩ : ∃ z, z = wr.alloc (.cells #[.int .i64 ka, .int .i64 kr, .int .i64 ks, .int .i64 kw, .slice kA km kc, .slice kB kn kd] 35) := ⟨_, rfl⟩
          rw [← hg8, ← hwc]
          have hbc : Below wr.heap.size wr wc := by rw [hwc]; exact below_alloc (Below.refl _ _) _
          have BK8 := Aside0.mk (show wc.heap[g8]? = some (.cells #[.int .i64 ka, .int .i64 kr, .int .i64 ks, .int .i64 kw, .slice kA km kc, .slice kB kn kd] 35 (0, 0)) by rw [hwc, hg8]; exact blk_new _ _)
          have HBc := Aside0.mk (below_step HB.out hbc)
          have BLDc := Aside0.mk (BLD.out.below hbc)
          clear hbc hwc hg8 hk0 hk1 hk2 hk3 hk4 hk5 hix HB BLD
          have HB := HBc
          have BLD := BLDc
          clear HBc BLDc
          refine start_ (n := 11) (S := fun w' => True) (ds := []) #[false, false, false, false, false, false, false, false, false, false, false] (by kernel_rfl) rfl rfl trivial (fun hHeld => ?_)
          refine with_tabW gr12.tab12 gr12.bits12 (fun HT_ HW_ => ?_)
          refine inv_at [0, 1, 2, 3, 4, 5, 6, 7, 8, 9, 10] (fun a0_ b a w' => ∃ (gz : Nat) (m9_ : Value) (m10_ : Value), a = putSel a0_ b [(0, 38, .agg #[.map (some mb), .slice aN nw cN]), (1, 39, .pointer (some ⟨g8, 0, none⟩)), (2, 40, .int .i64 ka), (3, 41, .string ⟨(objR (pl ws ka)).toArray⟩), (4, 42, .string ⟨q58.toArray⟩), (5, 43, .pointer (some ⟨g8, 1, none⟩)), (6, 44, .pointer (some ⟨g8, 3, none⟩)), (7, 45, .int .i64 kw), (8, 46, .string ⟨(Lib.itoa kw).toArray⟩), (9, 47, m9_), (10, 9, m10_)] ∧ (Below W2.heap.size W2 w') ∧ (w'.heap[g8]? = some (.cells #[.int .i64 ka, .int .i64 kr, .int .i64 ks, .int .i64 kw, .slice kA km kc, .slice kB kn kd] 35 (0, 0))) ∧ (Bld W2.heap.size bb txt w') ∧ (b 9 = true → w'.heap[gz]? = some (.cells #[.string ⟨q58.toArray⟩, .string ⟨(Lib.itoa kw).toArray⟩, .string ⟨#[119, 111, 114, 100, 115]⟩] 9 (0, 0))) ∧ (b 9 = true → (m9_ : Value) = .slice (some ⟨gz, 0, none⟩) 3 3) ∧ (b 10 = true → (m10_ : Value) = .slice (some ⟨gz, 0, none⟩) 3 3)) HT_.out HW_.out (by kernel_rfl) (by kernel_rfl) ?_ ?_ ?_
          · exact ⟨0, .bool false, .bool false, by simp only [putSel, Bool.false_eq_true, if_false], below_drew1 HB.out, BK8.out, BLD.out.drew_, fun h_ => absurd h_ (by decide), fun h_ => absurd h_ (by decide), fun h_ => absurd h_ (by decide)⟩
          · skip
            clear BK8 BLD HB
            refine steps_cons ?_ ?_
            · rintro b a w' ⟨gz, m9_, m10_, ha, Q_HB, Q_BK8, Q_BLD, Q_BZ, Q_X9_, Q_X10_⟩ hb_ hon hoff
              refine ⟨_, rfl, fun K hK => ?_⟩
              have e3 : a.tmps[3]? = some (.pointer (some ⟨g3, 0, none⟩)) := by rw [ha]; exact (putSel_off rfl).trans rfl
              replace ha := Aside0.mk ha
              have HB := Aside0.mk Q_HB
              have BK8 := Aside0.mk Q_BK8
              have BLD := Aside0.mk Q_BLD
              have hl38_0 : w'.cell? ⟨g3, 0, none⟩ = some (.map (some mb)) := (blk_cell (blk_below BK3.out HB.out) 0).trans rfl
              have hl38_1 : w'.cell? ⟨g3, 1, none⟩ = some (.slice aN nw cN) := (blk_cell (blk_below BK3.out HB.out) 1).trans rfl
              refine value_ (w1 := w') (v := .agg #[.map (some mb), .slice aN nw cN]) (by rfl) rfl ?_ ?_
              · go_simp
                (try simp only [i64_w])
                try rfl
              refine hK.out _ _ ⟨gz, m9_, m10_, (by rw [ha.out]; exact putSel_upk 0 hb_ rfl rfl rfl), Q_HB, Q_BK8, Q_BLD, fun h0_ => absurd ((hoff 9 (by kernel_rfl)).symm.trans h0_) (by decide), fun h0_ => absurd ((hoff 9 (by kernel_rfl)).symm.trans h0_) (by decide), fun h0_ => absurd ((hoff 10 (by kernel_rfl)).symm.trans h0_) (by decide)⟩
            refine steps_cons ?_ ?_
            · rintro b a w' ⟨gz, m9_, m10_, ha, Q_HB, Q_BK8, Q_BLD, Q_BZ, Q_X9_, Q_X10_⟩ hb_ hon hoff
              refine ⟨_, rfl, fun K hK => ?_⟩
              have e8 : a.tmps[8]? = some (.pointer (some ⟨g8, 0, none⟩)) := by rw [ha]; exact (putSel_off rfl).trans rfl
              replace ha := Aside0.mk ha
              have HB := Aside0.mk Q_HB
              have BK8 := Aside0.mk Q_BK8
              have BLD := Aside0.mk Q_BLD
              refine value_ (w1 := w') (v := .pointer (some ⟨g8, 0, none⟩)) (by rfl) rfl ?_ ?_
              · go_simp
                (try simp only [i64_w])
                try rfl
              refine hK.out _ _ ⟨gz, m9_, m10_, (by rw [ha.out]; exact putSel_upk 1 hb_ rfl rfl rfl), Q_HB, Q_BK8, Q_BLD, fun h0_ => absurd ((hoff 9 (by kernel_rfl)).symm.trans h0_) (by decide), fun h0_ => absurd ((hoff 9 (by kernel_rfl)).symm.trans h0_) (by decide), fun h0_ => absurd ((hoff 10 (by kernel_rfl)).symm.trans h0_) (by decide)⟩
            refine steps_cons ?_ ?_
            · rintro b a w' ⟨gz, m9_, m10_, ha, Q_HB, Q_BK8, Q_BLD, Q_BZ, Q_X9_, Q_X10_⟩ hb_ hon hoff
              refine ⟨_, rfl, fun K hK => ?_⟩
              have e39 : a.tmps[39]? = some (.pointer (some ⟨g8, 0, none⟩)) := by rw [ha]; exact putSel_on (e := (1, 39, .pointer (some ⟨g8, 0, none⟩))) 1 rfl rfl (hon 1 (by kernel_rfl)) rfl
              replace ha := Aside0.mk ha
              have HB := Aside0.mk Q_HB
              have BK8 := Aside0.mk Q_BK8
              have BLD := Aside0.mk Q_BLD
              have hl40 : w'.cell? ⟨g8, 0, none⟩ = some (.int .i64 ka) := (blk_cell BK8.out 0).trans rfl
              refine value_ (w1 := w') (v := .int .i64 ka) (by rfl) rfl ?_ ?_
              · go_simp
                (try simp only [i64_w])
                try rfl
              refine hK.out _ _ ⟨gz, m9_, m10_, (by rw [ha.out]; exact putSel_upk 2 hb_ rfl rfl rfl), Q_HB, Q_BK8, Q_BLD, fun h0_ => absurd ((hoff 9 (by kernel_rfl)).symm.trans h0_) (by decide), fun h0_ => absurd ((hoff 9 (by kernel_rfl)).symm.trans h0_) (by decide), fun h0_ => absurd ((hoff 10 (by kernel_rfl)).symm.trans h0_) (by decide)⟩
            refine steps_cons ?_ ?_
            · rintro b a w' ⟨gz, m9_, m10_, ha, Q_HB, Q_BK8, Q_BLD, Q_BZ, Q_X9_, Q_X10_⟩ hb_ hon hoff
              refine ⟨_, rfl, fun K hK => ?_⟩
              have e38 : a.tmps[38]? = some (.agg #[.map (some mb), .slice aN nw cN]) := by rw [ha]; exact putSel_on (e := (0, 38, .agg #[.map (some mb), .slice aN nw cN])) 0 rfl rfl (hon 0 (by kernel_rfl)) rfl
              have e40 : a.tmps[40]? = some (.int .i64 ka) := by rw [ha]; exact putSel_on (e := (2, 40, .int .i64 ka)) 2 rfl rfl (hon 2 (by kernel_rfl)) rfl
              replace ha := Aside0.mk ha
              have HB := Aside0.mk Q_HB
              have BK8 := Aside0.mk Q_BK8
              have BLD := Aside0.mk Q_BLD
              refine goes_ Tryd.func15 (by kernel_rfl) rfl #[.agg #[.map (some mb), .slice aN nw cN], .int .i64 ka] (by rfl) rfl rfl (by first | (simp only [List.map_toArray, List.map_cons, List.map_nil, Act.eval, Array.getD_eq_getD_getElem?, Option.getD_some, e38, e40]; done) | (simp only [List.map_toArray, List.map_cons, List.map_nil, Act.eval, Array.getD_eq_getD_getElem?, Option.getD_some, e38, e40]; rfl)) ?_
              with_reducible refine (object_calls _ mb aN nw cN ws (Aside0.mk (HM.out.below HB.out)) ka HKA.out hws (Aside0.mk (HT.out.to (below_step HBW2.out HB.out)))).mono ?_
              rintro e w3 ⟨rfl, hb⟩
              refine ⟨_, rfl, ?_⟩
              refine hK.out _ _ ⟨gz, m9_, m10_, (by rw [ha.out]; exact putSel_upk 3 hb_ rfl rfl rfl), (below_step HB.out hb), (blk_below BK8.out hb), (BLD.out.below hb), fun h0_ => absurd ((hoff 9 (by kernel_rfl)).symm.trans h0_) (by decide), fun h0_ => absurd ((hoff 9 (by kernel_rfl)).symm.trans h0_) (by decide), fun h0_ => absurd ((hoff 10 (by kernel_rfl)).symm.trans h0_) (by decide)⟩
            refine steps_cons ?_ ?_
            · rintro b a w' ⟨gz, m9_, m10_, ha, Q_HB, Q_BK8, Q_BLD, Q_BZ, Q_X9_, Q_X10_⟩ hb_ hon hoff
              refine ⟨_, rfl, fun K hK => ?_⟩
              have e41 : a.tmps[41]? = some (.string ⟨(objR (pl ws ka)).toArray⟩) := by rw [ha]; exact putSel_on (e := (3, 41, .string ⟨(objR (pl ws ka)).toArray⟩)) 3 rfl rfl (hon 3 (by kernel_rfl)) rfl
              replace ha := Aside0.mk ha
              have HB := Aside0.mk Q_HB
              have BK8 := Aside0.mk Q_BK8
              have BLD := Aside0.mk Q_BLD
              have hcat := HCAT.out w'
              refine value_ (w1 := w') (v := .string ⟨q58.toArray⟩) (by rfl) rfl ?_ ?_
              · go_simp
                (try simp only [i64_w])
                try rfl
              refine hK.out _ _ ⟨gz, m9_, m10_, (by rw [ha.out]; exact putSel_upk 4 hb_ rfl rfl rfl), Q_HB, Q_BK8, Q_BLD, fun h0_ => absurd ((hoff 9 (by kernel_rfl)).symm.trans h0_) (by decide), fun h0_ => absurd ((hoff 9 (by kernel_rfl)).symm.trans h0_) (by decide), fun h0_ => absurd ((hoff 10 (by kernel_rfl)).symm.trans h0_) (by decide)⟩
            refine steps_cons ?_ ?_
            · rintro b a w' ⟨gz, m9_, m10_, ha, Q_HB, Q_BK8, Q_BLD, Q_BZ, Q_X9_, Q_X10_⟩ hb_ hon hoff
              refine ⟨_, rfl, fun K hK => ?_⟩
              have e8 : a.tmps[8]? = some (.pointer (some ⟨g8, 0, none⟩)) := by rw [ha]; exact (putSel_off rfl).trans rfl
              replace ha := Aside0.mk ha
              have HB := Aside0.mk Q_HB
              have BK8 := Aside0.mk Q_BK8
              have BLD := Aside0.mk Q_BLD
              refine value_ (w1 := w') (v := .pointer (some ⟨g8, 1, none⟩)) (by rfl) rfl ?_ ?_
              · go_simp
                (try simp only [i64_w])
                try rfl
              refine hK.out _ _ ⟨gz, m9_, m10_, (by rw [ha.out]; exact putSel_upk 5 hb_ rfl rfl rfl), Q_HB, Q_BK8, Q_BLD, fun h0_ => absurd ((hoff 9 (by kernel_rfl)).symm.trans h0_) (by decide), fun h0_ => absurd ((hoff 9 (by kernel_rfl)).symm.trans h0_) (by decide), fun h0_ => absurd ((hoff 10 (by kernel_rfl)).symm.trans h0_) (by decide)⟩
            refine steps_cons ?_ ?_
            · rintro b a w' ⟨gz, m9_, m10_, ha, Q_HB, Q_BK8, Q_BLD, Q_BZ, Q_X9_, Q_X10_⟩ hb_ hon hoff
              refine ⟨_, rfl, fun K hK => ?_⟩
              have e43 : a.tmps[43]? = some (.pointer (some ⟨g8, 1, none⟩)) := by rw [ha]; exact putSel_on (e := (5, 43, .pointer (some ⟨g8, 1, none⟩))) 5 rfl rfl (hon 5 (by kernel_rfl)) rfl
              replace ha := Aside0.mk ha
              have HB := Aside0.mk Q_HB
              have BK8 := Aside0.mk Q_BK8
              have BLD := Aside0.mk Q_BLD
              refine value_ (w1 := w') (v := .pointer (some ⟨g8, 3, none⟩)) (by rfl) rfl ?_ ?_
              · go_simp
                (try simp only [i64_w])
                try rfl
              refine hK.out _ _ ⟨gz, m9_, m10_, (by rw [ha.out]; exact putSel_upk 6 hb_ rfl rfl rfl), Q_HB, Q_BK8, Q_BLD, fun h0_ => absurd ((hoff 9 (by kernel_rfl)).symm.trans h0_) (by decide), fun h0_ => absurd ((hoff 9 (by kernel_rfl)).symm.trans h0_) (by decide), fun h0_ => absurd ((hoff 10 (by kernel_rfl)).symm.trans h0_) (by decide)⟩
            refine steps_cons ?_ ?_
            · rintro b a w' ⟨gz, m9_, m10_, ha, Q_HB, Q_BK8, Q_BLD, Q_BZ, Q_X9_, Q_X10_⟩ hb_ hon hoff
              refine ⟨_, rfl, fun K hK => ?_⟩
              have e44 : a.tmps[44]? = some (.pointer (some ⟨g8, 3, none⟩)) := by rw [ha]; exact putSel_on (e := (6, 44, .pointer (some ⟨g8, 3, none⟩))) 6 rfl rfl (hon 6 (by kernel_rfl)) rfl
              replace ha := Aside0.mk ha
              have HB := Aside0.mk Q_HB
              have BK8 := Aside0.mk Q_BK8
              have BLD := Aside0.mk Q_BLD
              have hl45 : w'.cell? ⟨g8, 3, none⟩ = some (.int .i64 kw) := (blk_cell BK8.out 3).trans rfl
              refine value_ (w1 := w') (v := .int .i64 kw) (by rfl) rfl ?_ ?_
              · go_simp
                (try simp only [i64_w])
                try rfl
              refine hK.out _ _ ⟨gz, m9_, m10_, (by rw [ha.out]; exact putSel_upk 7 hb_ rfl rfl rfl), Q_HB, Q_BK8, Q_BLD, fun h0_ => absurd ((hoff 9 (by kernel_rfl)).symm.trans h0_) (by decide), fun h0_ => absurd ((hoff 9 (by kernel_rfl)).symm.trans h0_) (by decide), fun h0_ => absurd ((hoff 10 (by kernel_rfl)).symm.trans h0_) (by decide)⟩
            refine steps_cons ?_ ?_
            · rintro b a w' ⟨gz, m9_, m10_, ha, Q_HB, Q_BK8, Q_BLD, Q_BZ, Q_X9_, Q_X10_⟩ hb_ hon hoff
              refine ⟨_, rfl, fun K hK => ?_⟩
              have e45 : a.tmps[45]? = some (.int .i64 kw) := by rw [ha]; exact putSel_on (e := (7, 45, .int .i64 kw)) 7 rfl rfl (hon 7 (by kernel_rfl)) rfl
              replace ha := Aside0.mk ha
              have HB := Aside0.mk Q_HB
              have BK8 := Aside0.mk Q_BK8
              have BLD := Aside0.mk Q_BLD
              refine goes_ Tryd.func14 (by kernel_rfl) rfl #[.int .i64 kw] (by rfl) rfl rfl (by first | (simp only [List.map_toArray, List.map_cons, List.map_nil, Act.eval, Array.getD_eq_getD_getElem?, Option.getD_some, e45]; done) | (simp only [List.map_toArray, List.map_cons, List.map_nil, Act.eval, Array.getD_eq_getD_getElem?, Option.getD_some, e45]; rfl)) ?_
              with_reducible refine (itoa_calls kw HKW.out.1 HKW.out.2 _ (Aside0.mk (HT.out.to (below_step HBW2.out HB.out)))).mono ?_
              rintro e w3 ⟨rfl, hb⟩
              refine ⟨_, rfl, ?_⟩
              refine hK.out _ _ ⟨gz, m9_, m10_, (by rw [ha.out]; exact putSel_upk 8 hb_ rfl rfl rfl), (below_step HB.out hb), (blk_below BK8.out hb), (BLD.out.below hb), fun h0_ => absurd ((hoff 9 (by kernel_rfl)).symm.trans h0_) (by decide), fun h0_ => absurd ((hoff 9 (by kernel_rfl)).symm.trans h0_) (by decide), fun h0_ => absurd ((hoff 10 (by kernel_rfl)).symm.trans h0_) (by decide)⟩
            refine steps_cons ?_ ?_
            · rintro b a w' ⟨gz, m9_, m10_, ha, Q_HB, Q_BK8, Q_BLD, Q_BZ, Q_X9_, Q_X10_⟩ hb_ hon hoff
              refine ⟨_, rfl, fun K hK => ?_⟩
              have e42 : a.tmps[42]? = some (.string ⟨q58.toArray⟩) := by rw [ha]; exact putSel_on (e := (4, 42, .string ⟨q58.toArray⟩)) 4 rfl rfl (hon 4 (by kernel_rfl)) rfl
              have e46 : a.tmps[46]? = some (.string ⟨(Lib.itoa kw).toArray⟩) := by rw [ha]; exact putSel_on (e := (8, 46, .string ⟨(Lib.itoa kw).toArray⟩)) 8 rfl rfl (hon 8 (by kernel_rfl)) rfl
              replace ha := Aside0.mk ha
              have HB := Aside0.mk Q_HB
              have BK8 := Aside0.mk Q_BK8
              have BLD := Aside0.mk Q_BLD
              refine value_ (w1 := ?_) (v := ?_) (by rfl) rfl ?_ ?_
              rotate_left 2
              · go_simp
                constructor
                · rfl
                · rfl
              have hb := below_alloc (Below.refl w'.heap.size w') (.cells #[.string ⟨q58.toArray⟩, .string ⟨(Lib.itoa kw).toArray⟩, .string ⟨#[119, 111, 114, 100, 115]⟩] 9)
              refine hK.out _ _ ⟨w'.heap.size, (.slice (some ⟨w'.heap.size, 0, none⟩) 3 3), m10_, (by rw [ha.out]; exact putSel_upk 9 hb_ rfl rfl rfl), (below_step HB.out hb), (blk_below BK8.out hb), (BLD.out.below hb), fun _ => (blk_new w' (.cells #[.string ⟨q58.toArray⟩, .string ⟨(Lib.itoa kw).toArray⟩, .string ⟨#[119, 111, 114, 100, 115]⟩] 9)), fun _ => rfl, fun h0_ => absurd ((hoff 10 (by kernel_rfl)).symm.trans h0_) (by decide)⟩
            refine steps_cons ?_ ?_
            · rintro b a w' ⟨gz, m9_, m10_, ha, Q_HB, Q_BK8, Q_BLD, Q_BZ, Q_X9_, Q_X10_⟩ hb_ hon hoff
              refine ⟨_, rfl, fun K hK => ?_⟩
              have e47 : a.tmps[47]? = some (m9_) := by rw [ha]; exact putSel_on (e := (9, 47, m9_)) 9 rfl rfl (hon 9 (by kernel_rfl)) rfl
              rw [Q_X9_ (hon 9 (by kernel_rfl))] at e47
              replace ha := Aside0.mk ha
              have HB := Aside0.mk Q_HB
              have BK8 := Aside0.mk Q_BK8
              have BLD := Aside0.mk Q_BLD
              have BZ := Aside0.mk (Q_BZ (hon 9 (by kernel_rfl)))
              refine value_ (w1 := w') (v := .slice (some ⟨gz, 0, none⟩) 3 3) (by rfl) rfl ?_ ?_
              · go_simp
                (try simp only [i64_w])
                try rfl
              refine hK.out _ _ ⟨gz, m9_, (.slice (some ⟨gz, 0, none⟩) 3 3), (by rw [ha.out]; exact putSel_upk 10 hb_ rfl rfl rfl), Q_HB, Q_BK8, Q_BLD, Q_BZ, Q_X9_, fun _ => rfl⟩
            exact steps_nil
          rintro b a wy hall ⟨gz, m9_, m10_, ha, Q_HB, Q_BK8, Q_BLD, Q_BZ, Q_X9_, Q_X10_⟩
          clear BK8 BLD HB
          have hb0_ := hall 0 (by kernel_rfl)
          have hb1_ := hall 1 (by kernel_rfl)
          have hb2_ := hall 2 (by kernel_rfl)
          have hb3_ := hall 3 (by kernel_rfl)
          have hb4_ := hall 4 (by kernel_rfl)
          have hb5_ := hall 5 (by kernel_rfl)
          have hb6_ := hall 6 (by kernel_rfl)
          have hb7_ := hall 7 (by kernel_rfl)
          have hb8_ := hall 8 (by kernel_rfl)
          have hb9_ := hall 9 (by kernel_rfl)
          have hb10_ := hall 10 (by kernel_rfl)
          subst ha
          obtain rfl := Q_X9_ hb9_
          obtain rfl := Q_X10_ hb10_
          simp only [putSel, hb0_, hb1_, hb2_, hb3_, hb4_, hb5_, hb6_, hb7_, hb8_, hb9_, hb10_, if_true, Act.put, List.setIfInBounds_toArray, List.set_cons_zero, List.set_cons_succ]
          have HB := Aside0.mk Q_HB
          clear Q_HB
          have BK8 := Aside0.mk Q_BK8
          clear Q_BK8
          have BLD := Aside0.mk Q_BLD
          clear Q_BLD
          have BZ := Aside0.mk (Q_BZ hb9_)
          clear Q_BZ
          clear hall hb0_ hb1_ hb2_ hb3_ hb4_ hb5_ hb6_ hb7_ hb8_ hb9_ hb10_
          go_upto_region 13 with fail
          refine start_ (n := 12) (S := fun w' => True) (ds := []) #[false, false, false, false, false, false, false, false, false, false, false, false] (by kernel_rfl) rfl rfl trivial (fun hHeld => ?_)
          refine with_tabW gr13.tab13 gr13.bits13 (fun HT_ HW_ => ?_)
          refine inv_at [0, 1, 2, 3, 4, 5, 6, 7, 8, 9, 10, 11] (fun a0_ b a w' => ∃ (gy : Nat) (a52 : Option Addr) (c52 : Nat) (a55 : Option Addr) (c55 : Nat) (a57 : Option Addr) (c57 : Nat) (m4_ : Value) (m7_ : Value) (m8_ : Value) (m9_ : Value), a = putSel a0_ b [(0, 48, .slice (some ⟨gz, 0, none⟩) 3 3), (1, 49, .agg #[.map (some mb), .slice aN nw cN]), (2, 50, .pointer (some ⟨g8, 4, none⟩)), (3, 51, .slice kA km kc), (4, 52, m4_), (5, 53, .pointer (some ⟨g8, 5, none⟩)), (6, 54, .slice kB kn kd), (7, 55, m7_), (8, 56, m8_), (9, 57, m9_), (10, 58, .string ⟨(lineR ([q58, Lib.itoa kw, [119, 111, 114, 100, 115]] ++ slotsR ws kS ++ dataR kT)).toArray⟩), (11, 59, .tuple #[.int .i64 ((⟨(lineR ([q58, Lib.itoa kw, [119, 111, 114, 100, 115]] ++ slotsR ws kS ++ dataR kT)).toArray⟩ : ByteArray).size : Int), .nilIface])] ∧ (Below W2.heap.size W2 w') ∧ (b 11 = false → w'.heap[g8]? = some (.cells #[.int .i64 ka, .int .i64 kr, .int .i64 ks, .int .i64 kw, .slice kA km kc, .slice kB kn kd] 35 (0, 0))) ∧ (b 11 = false → w'.heap[gz]? = some (.cells #[.string ⟨q58.toArray⟩, .string ⟨(Lib.itoa kw).toArray⟩, .string ⟨#[119, 111, 114, 100, 115]⟩] 9 (0, 0))) ∧ (b 11 = false → Bld W2.heap.size bb txt w') ∧ (b 4 = true → b 11 = false → RW w' a52 (slotsR ws kS).length c52 (slotsR ws kS)) ∧ (b 7 = true → b 11 = false → RW w' a55 (dataR kT).length c55 (dataR kT)) ∧ (b 8 = true → b 11 = false → w'.heap[gy]? = some (.cells #[.slice (some ⟨gz, 0, none⟩) 3 3, .slice a52 (slotsR ws kS).length c52, .slice a55 (dataR kT).length c55] 52 (0, 0))) ∧ (b 9 = true → b 11 = false → RW w' a57 (3 + (slotsR ws kS).length + (dataR kT).length) c57 ([q58, Lib.itoa kw, [119, 111, 114, 100, 115]] ++ slotsR ws kS ++ dataR kT)) ∧ (b 11 = true → Bld W2.heap.size bb (txt ++ lineR ([q58, Lib.itoa kw, [119, 111, 114, 100, 115]] ++ slotsR ws kS ++ dataR kT)) w') ∧ (b 4 = true → (m4_ : Value) = .slice a52 (slotsR ws kS).length c52) ∧ (b 7 = true → (m7_ : Value) = .slice a55 (dataR kT).length c55) ∧ (b 8 = true → (m8_ : Value) = .slice (some ⟨gy, 0, none⟩) 3 3) ∧ (b 9 = true → (m9_ : Value) = .slice a57 (3 + (slotsR ws kS).length + (dataR kT).length) c57)) HT_.out HW_.out (by kernel_rfl) (by kernel_rfl) ?_ ?_ ?_
          · exact ⟨0, none, 0, none, 0, none, 0, .bool false, .bool false, .bool false, .bool false, by simp only [putSel, Bool.false_eq_true, if_false], below_drew1 HB.out, fun _ => BK8.out, fun _ => BZ.out, fun _ => BLD.out.drew_, fun h_ => absurd h_ (by decide), fun h_ => absurd h_ (by decide), fun h_ => absurd h_ (by decide), fun h_ => absurd h_ (by decide), fun h_ => absurd h_ (by decide), fun h_ => absurd h_ (by decide), fun h_ => absurd h_ (by decide), fun h_ => absurd h_ (by decide), fun h_ => absurd h_ (by decide)⟩
          · skip
            clear BK8 BLD BZ HB
            refine steps_cons ?_ ?_
            · rintro b a w' ⟨gy, a52, c52, a55, c55, a57, c57, m4_, m7_, m8_, m9_, ha, Q_HB, Q_BK8, Q_BZ, Q_BLD, Q_RS, Q_RD, Q_BY, Q_RC, Q_BLD2, Q_X4_, Q_X7_, Q_X8_, Q_X9_⟩ hb_ hon hoff
              refine ⟨_, rfl, fun K hK => ?_⟩
              have e9 : a.tmps[9]? = some (.slice (some ⟨gz, 0, none⟩) 3 3) := by rw [ha]; exact (putSel_off rfl).trans rfl
              replace ha := Aside0.mk ha
              have HB := Aside0.mk Q_HB
              have BK8 := Aside0.mk (Q_BK8 (hoff 11 (by kernel_rfl)))
              have BZ := Aside0.mk (Q_BZ (hoff 11 (by kernel_rfl)))
              have BLD := Aside0.mk (Q_BLD (hoff 11 (by kernel_rfl)))
              refine value_ (w1 := w') (v := .slice (some ⟨gz, 0, none⟩) 3 3) (by rfl) rfl ?_ ?_
              · go_simp
                (try simp only [i64_w])
                try rfl
              refine hK.out _ _ ⟨gy, a52, c52, a55, c55, a57, c57, m4_, m7_, m8_, m9_, (by rw [ha.out]; exact putSel_upk 0 hb_ rfl rfl rfl), Q_HB, Q_BK8, Q_BZ, Q_BLD, Q_RS, Q_RD, fun h0_ _ => absurd ((hoff 8 (by kernel_rfl)).symm.trans h0_) (by decide), fun h0_ _ => absurd ((hoff 9 (by kernel_rfl)).symm.trans h0_) (by decide), fun h0_ => absurd ((hoff 11 (by kernel_rfl)).symm.trans h0_) (by decide), Q_X4_, Q_X7_, fun h0_ => absurd ((hoff 8 (by kernel_rfl)).symm.trans h0_) (by decide), fun h0_ => absurd ((hoff 9 (by kernel_rfl)).symm.trans h0_) (by decide)⟩
            refine steps_cons ?_ ?_
            · rintro b a w' ⟨gy, a52, c52, a55, c55, a57, c57, m4_, m7_, m8_, m9_, ha, Q_HB, Q_BK8, Q_BZ, Q_BLD, Q_RS, Q_RD, Q_BY, Q_RC, Q_BLD2, Q_X4_, Q_X7_, Q_X8_, Q_X9_⟩ hb_ hon hoff
              refine ⟨_, rfl, fun K hK => ?_⟩
              have e3 : a.tmps[3]? = some (.pointer (some ⟨g3, 0, none⟩)) := by rw [ha]; exact (putSel_off rfl).trans rfl
              replace ha := Aside0.mk ha
              have HB := Aside0.mk Q_HB
              have BK8 := Aside0.mk (Q_BK8 (hoff 11 (by kernel_rfl)))
              have BZ := Aside0.mk (Q_BZ (hoff 11 (by kernel_rfl)))
              have BLD := Aside0.mk (Q_BLD (hoff 11 (by kernel_rfl)))
              have hl49_0 : w'.cell? ⟨g3, 0, none⟩ = some (.map (some mb)) := (blk_cell (blk_below BK3.out HB.out) 0).trans rfl
              have hl49_1 : w'.cell? ⟨g3, 1, none⟩ = some (.slice aN nw cN) := (blk_cell (blk_below BK3.out HB.out) 1).trans rfl
              refine value_ (w1 := w') (v := .agg #[.map (some mb), .slice aN nw cN]) (by rfl) rfl ?_ ?_
              · go_simp
                (try simp only [i64_w])
                try rfl
              refine hK.out _ _ ⟨gy, a52, c52, a55, c55, a57, c57, m4_, m7_, m8_, m9_, (by rw [ha.out]; exact putSel_upk 1 hb_ rfl rfl rfl), Q_HB, Q_BK8, Q_BZ, Q_BLD, fun h0_ _ => absurd ((hoff 4 (by kernel_rfl)).symm.trans h0_) (by decide), fun h0_ _ => absurd ((hoff 7 (by kernel_rfl)).symm.trans h0_) (by decide), fun h0_ _ => absurd ((hoff 8 (by kernel_rfl)).symm.trans h0_) (by decide), fun h0_ _ => absurd ((hoff 9 (by kernel_rfl)).symm.trans h0_) (by decide), fun h0_ => absurd ((hoff 11 (by kernel_rfl)).symm.trans h0_) (by decide), fun h0_ => absurd ((hoff 4 (by kernel_rfl)).symm.trans h0_) (by decide), fun h0_ => absurd ((hoff 7 (by kernel_rfl)).symm.trans h0_) (by decide), fun h0_ => absurd ((hoff 8 (by kernel_rfl)).symm.trans h0_) (by decide), fun h0_ => absurd ((hoff 9 (by kernel_rfl)).symm.trans h0_) (by decide)⟩
            refine steps_cons ?_ ?_
            · rintro b a w' ⟨gy, a52, c52, a55, c55, a57, c57, m4_, m7_, m8_, m9_, ha, Q_HB, Q_BK8, Q_BZ, Q_BLD, Q_RS, Q_RD, Q_BY, Q_RC, Q_BLD2, Q_X4_, Q_X7_, Q_X8_, Q_X9_⟩ hb_ hon hoff
              refine ⟨_, rfl, fun K hK => ?_⟩
              have e8 : a.tmps[8]? = some (.pointer (some ⟨g8, 0, none⟩)) := by rw [ha]; exact (putSel_off rfl).trans rfl
              replace ha := Aside0.mk ha
              have HB := Aside0.mk Q_HB
              have BK8 := Aside0.mk (Q_BK8 (hoff 11 (by kernel_rfl)))
              have BZ := Aside0.mk (Q_BZ (hoff 11 (by kernel_rfl)))
              have BLD := Aside0.mk (Q_BLD (hoff 11 (by kernel_rfl)))
              refine value_ (w1 := w') (v := .pointer (some ⟨g8, 4, none⟩)) (by rfl) rfl ?_ ?_
              · go_simp
                (try simp only [i64_w])
                try rfl
              refine hK.out _ _ ⟨gy, a52, c52, a55, c55, a57, c57, m4_, m7_, m8_, m9_, (by rw [ha.out]; exact putSel_upk 2 hb_ rfl rfl rfl), Q_HB, Q_BK8, Q_BZ, Q_BLD, fun h0_ _ => absurd ((hoff 4 (by kernel_rfl)).symm.trans h0_) (by decide), fun h0_ _ => absurd ((hoff 7 (by kernel_rfl)).symm.trans h0_) (by decide), fun h0_ _ => absurd ((hoff 8 (by kernel_rfl)).symm.trans h0_) (by decide), fun h0_ _ => absurd ((hoff 9 (by kernel_rfl)).symm.trans h0_) (by decide), fun h0_ => absurd ((hoff 11 (by kernel_rfl)).symm.trans h0_) (by decide), fun h0_ => absurd ((hoff 4 (by kernel_rfl)).symm.trans h0_) (by decide), fun h0_ => absurd ((hoff 7 (by kernel_rfl)).symm.trans h0_) (by decide), fun h0_ => absurd ((hoff 8 (by kernel_rfl)).symm.trans h0_) (by decide), fun h0_ => absurd ((hoff 9 (by kernel_rfl)).symm.trans h0_) (by decide)⟩
            refine steps_cons ?_ ?_
            · rintro b a w' ⟨gy, a52, c52, a55, c55, a57, c57, m4_, m7_, m8_, m9_, ha, Q_HB, Q_BK8, Q_BZ, Q_BLD, Q_RS, Q_RD, Q_BY, Q_RC, Q_BLD2, Q_X4_, Q_X7_, Q_X8_, Q_X9_⟩ hb_ hon hoff
              refine ⟨_, rfl, fun K hK => ?_⟩
              have e50 : a.tmps[50]? = some (.pointer (some ⟨g8, 4, none⟩)) := by rw [ha]; exact putSel_on (e := (2, 50, .pointer (some ⟨g8, 4, none⟩))) 2 rfl rfl (hon 2 (by kernel_rfl)) rfl
              replace ha := Aside0.mk ha
              have HB := Aside0.mk Q_HB
              have BK8 := Aside0.mk (Q_BK8 (hoff 11 (by kernel_rfl)))
              have BZ := Aside0.mk (Q_BZ (hoff 11 (by kernel_rfl)))
              have BLD := Aside0.mk (Q_BLD (hoff 11 (by kernel_rfl)))
              have hl51 : w'.cell? ⟨g8, 4, none⟩ = some (.slice kA km kc) := (blk_cell BK8.out 4).trans rfl
              refine value_ (w1 := w') (v := .slice kA km kc) (by rfl) rfl ?_ ?_
              · go_simp
                (try simp only [i64_w])
                try rfl
              refine hK.out _ _ ⟨gy, a52, c52, a55, c55, a57, c57, m4_, m7_, m8_, m9_, (by rw [ha.out]; exact putSel_upk 3 hb_ rfl rfl rfl), Q_HB, Q_BK8, Q_BZ, Q_BLD, fun h0_ _ => absurd ((hoff 4 (by kernel_rfl)).symm.trans h0_) (by decide), fun h0_ _ => absurd ((hoff 7 (by kernel_rfl)).symm.trans h0_) (by decide), fun h0_ _ => absurd ((hoff 8 (by kernel_rfl)).symm.trans h0_) (by decide), fun h0_ _ => absurd ((hoff 9 (by kernel_rfl)).symm.trans h0_) (by decide), fun h0_ => absurd ((hoff 11 (by kernel_rfl)).symm.trans h0_) (by decide), fun h0_ => absurd ((hoff 4 (by kernel_rfl)).symm.trans h0_) (by decide), fun h0_ => absurd ((hoff 7 (by kernel_rfl)).symm.trans h0_) (by decide), fun h0_ => absurd ((hoff 8 (by kernel_rfl)).symm.trans h0_) (by decide), fun h0_ => absurd ((hoff 9 (by kernel_rfl)).symm.trans h0_) (by decide)⟩
            refine steps_cons ?_ ?_
            · rintro b a w' ⟨gy, a52, c52, a55, c55, a57, c57, m4_, m7_, m8_, m9_, ha, Q_HB, Q_BK8, Q_BZ, Q_BLD, Q_RS, Q_RD, Q_BY, Q_RC, Q_BLD2, Q_X4_, Q_X7_, Q_X8_, Q_X9_⟩ hb_ hon hoff
              refine ⟨_, rfl, fun K hK => ?_⟩
              have e49 : a.tmps[49]? = some (.agg #[.map (some mb), .slice aN nw cN]) := by rw [ha]; exact putSel_on (e := (1, 49, .agg #[.map (some mb), .slice aN nw cN])) 1 rfl rfl (hon 1 (by kernel_rfl)) rfl
              have e51 : a.tmps[51]? = some (.slice kA km kc) := by rw [ha]; exact putSel_on (e := (3, 51, .slice kA km kc)) 3 rfl rfl (hon 3 (by kernel_rfl)) rfl
              replace ha := Aside0.mk ha
              have HB := Aside0.mk Q_HB
              have BK8 := Aside0.mk (Q_BK8 (hoff 11 (by kernel_rfl)))
              have BZ := Aside0.mk (Q_BZ (hoff 11 (by kernel_rfl)))
              have BLD := Aside0.mk (Q_BLD (hoff 11 (by kernel_rfl)))
              refine goes_ Tryd.func17 (by kernel_rfl) rfl #[.agg #[.map (some mb), .slice aN nw cN], .slice kA km kc] (by rfl) rfl rfl (by first | (simp only [List.map_toArray, List.map_cons, List.map_nil, Act.eval, Array.getD_eq_getD_getElem?, Option.getD_some, e49, e51]; done) | (simp only [List.map_toArray, List.map_cons, List.map_nil, Act.eval, Array.getD_eq_getD_getElem?, Option.getD_some, e49, e51]; rfl)) ?_
              with_reducible refine (slots_calls _ mb aN nw cN ws (Aside0.mk (HM.out.below HB.out)) hws (Aside0.mk (HT.out.to (below_step HBW2.out HB.out))) kA km kc kS (Aside0.mk (HLS.out.to_ HB.out)) HSW hkm).mono ?_
              rintro e w3 ⟨v3, rfl, hr, hb⟩; obtain ⟨a5_, c5_, e5_⟩ := ownsRow_as hr; subst e5_; have hrw : RW w3 a5_ (slotsR ws kS).length c5_ (slotsR ws kS) := ⟨rfl, _, hr⟩
              refine ⟨_, rfl, ?_⟩
              refine hK.out _ _ ⟨gy, a5_, c5_, a55, c55, a57, c57, (.slice a5_ (slotsR ws kS).length c5_), m7_, m8_, m9_, (by rw [ha.out]; exact putSel_upk 4 hb_ rfl rfl rfl), (below_step HB.out hb), fun _ => (blk_below BK8.out hb), fun _ => (blk_below BZ.out hb), fun _ => (BLD.out.below hb), fun _ _ => hrw, fun h0_ _ => absurd ((hoff 7 (by kernel_rfl)).symm.trans h0_) (by decide), fun h0_ _ => absurd ((hoff 8 (by kernel_rfl)).symm.trans h0_) (by decide), fun h0_ _ => absurd ((hoff 9 (by kernel_rfl)).symm.trans h0_) (by decide), fun h0_ => absurd ((hoff 11 (by kernel_rfl)).symm.trans h0_) (by decide), fun _ => rfl, fun h0_ => absurd ((hoff 7 (by kernel_rfl)).symm.trans h0_) (by decide), fun h0_ => absurd ((hoff 8 (by kernel_rfl)).symm.trans h0_) (by decide), fun h0_ => absurd ((hoff 9 (by kernel_rfl)).symm.trans h0_) (by decide)⟩
            refine steps_cons ?_ ?_
            · rintro b a w' ⟨gy, a52, c52, a55, c55, a57, c57, m4_, m7_, m8_, m9_, ha, Q_HB, Q_BK8, Q_BZ, Q_BLD, Q_RS, Q_RD, Q_BY, Q_RC, Q_BLD2, Q_X4_, Q_X7_, Q_X8_, Q_X9_⟩ hb_ hon hoff
              refine ⟨_, rfl, fun K hK => ?_⟩
              have e8 : a.tmps[8]? = some (.pointer (some ⟨g8, 0, none⟩)) := by rw [ha]; exact (putSel_off rfl).trans rfl
              replace ha := Aside0.mk ha
              have HB := Aside0.mk Q_HB
              have BK8 := Aside0.mk (Q_BK8 (hoff 11 (by kernel_rfl)))
              have BZ := Aside0.mk (Q_BZ (hoff 11 (by kernel_rfl)))
              have BLD := Aside0.mk (Q_BLD (hoff 11 (by kernel_rfl)))
              refine value_ (w1 := w') (v := .pointer (some ⟨g8, 5, none⟩)) (by rfl) rfl ?_ ?_
              · go_simp
                (try simp only [i64_w])
                try rfl
              refine hK.out _ _ ⟨gy, a52, c52, a55, c55, a57, c57, m4_, m7_, m8_, m9_, (by rw [ha.out]; exact putSel_upk 5 hb_ rfl rfl rfl), Q_HB, Q_BK8, Q_BZ, Q_BLD, Q_RS, fun h0_ _ => absurd ((hoff 7 (by kernel_rfl)).symm.trans h0_) (by decide), fun h0_ _ => absurd ((hoff 8 (by kernel_rfl)).symm.trans h0_) (by decide), fun h0_ _ => absurd ((hoff 9 (by kernel_rfl)).symm.trans h0_) (by decide), fun h0_ => absurd ((hoff 11 (by kernel_rfl)).symm.trans h0_) (by decide), Q_X4_, fun h0_ => absurd ((hoff 7 (by kernel_rfl)).symm.trans h0_) (by decide), fun h0_ => absurd ((hoff 8 (by kernel_rfl)).symm.trans h0_) (by decide), fun h0_ => absurd ((hoff 9 (by kernel_rfl)).symm.trans h0_) (by decide)⟩
            refine steps_cons ?_ ?_
            · rintro b a w' ⟨gy, a52, c52, a55, c55, a57, c57, m4_, m7_, m8_, m9_, ha, Q_HB, Q_BK8, Q_BZ, Q_BLD, Q_RS, Q_RD, Q_BY, Q_RC, Q_BLD2, Q_X4_, Q_X7_, Q_X8_, Q_X9_⟩ hb_ hon hoff
              refine ⟨_, rfl, fun K hK => ?_⟩
              have e53 : a.tmps[53]? = some (.pointer (some ⟨g8, 5, none⟩)) := by rw [ha]; exact putSel_on (e := (5, 53, .pointer (some ⟨g8, 5, none⟩))) 5 rfl rfl (hon 5 (by kernel_rfl)) rfl
              replace ha := Aside0.mk ha
              have HB := Aside0.mk Q_HB
              have BK8 := Aside0.mk (Q_BK8 (hoff 11 (by kernel_rfl)))
              have BZ := Aside0.mk (Q_BZ (hoff 11 (by kernel_rfl)))
              have BLD := Aside0.mk (Q_BLD (hoff 11 (by kernel_rfl)))
              have hl54 : w'.cell? ⟨g8, 5, none⟩ = some (.slice kB kn kd) := (blk_cell BK8.out 5).trans rfl
              refine value_ (w1 := w') (v := .slice kB kn kd) (by rfl) rfl ?_ ?_
              · go_simp
                (try simp only [i64_w])
                try rfl
              refine hK.out _ _ ⟨gy, a52, c52, a55, c55, a57, c57, m4_, m7_, m8_, m9_, (by rw [ha.out]; exact putSel_upk 6 hb_ rfl rfl rfl), Q_HB, Q_BK8, Q_BZ, Q_BLD, Q_RS, fun h0_ _ => absurd ((hoff 7 (by kernel_rfl)).symm.trans h0_) (by decide), fun h0_ _ => absurd ((hoff 8 (by kernel_rfl)).symm.trans h0_) (by decide), fun h0_ _ => absurd ((hoff 9 (by kernel_rfl)).symm.trans h0_) (by decide), fun h0_ => absurd ((hoff 11 (by kernel_rfl)).symm.trans h0_) (by decide), Q_X4_, fun h0_ => absurd ((hoff 7 (by kernel_rfl)).symm.trans h0_) (by decide), fun h0_ => absurd ((hoff 8 (by kernel_rfl)).symm.trans h0_) (by decide), fun h0_ => absurd ((hoff 9 (by kernel_rfl)).symm.trans h0_) (by decide)⟩
            refine steps_cons ?_ ?_
            · rintro b a w' ⟨gy, a52, c52, a55, c55, a57, c57, m4_, m7_, m8_, m9_, ha, Q_HB, Q_BK8, Q_BZ, Q_BLD, Q_RS, Q_RD, Q_BY, Q_RC, Q_BLD2, Q_X4_, Q_X7_, Q_X8_, Q_X9_⟩ hb_ hon hoff
              refine ⟨_, rfl, fun K hK => ?_⟩
              have e54 : a.tmps[54]? = some (.slice kB kn kd) := by rw [ha]; exact putSel_on (e := (6, 54, .slice kB kn kd)) 6 rfl rfl (hon 6 (by kernel_rfl)) rfl
              replace ha := Aside0.mk ha
              have HB := Aside0.mk Q_HB
              have BK8 := Aside0.mk (Q_BK8 (hoff 11 (by kernel_rfl)))
              have BZ := Aside0.mk (Q_BZ (hoff 11 (by kernel_rfl)))
              have BLD := Aside0.mk (Q_BLD (hoff 11 (by kernel_rfl)))
              have RS := Aside0.mk (Q_RS (hon 4 (by kernel_rfl)) (hoff 11 (by kernel_rfl)))
              refine goes_ Tryd.func18 (by kernel_rfl) rfl #[.slice kB kn kd] (by rfl) rfl rfl (by first | (simp only [List.map_toArray, List.map_cons, List.map_nil, Act.eval, Array.getD_eq_getD_getElem?, Option.getD_some, e54]; done) | (simp only [List.map_toArray, List.map_cons, List.map_nil, Act.eval, Array.getD_eq_getD_getElem?, Option.getD_some, e54]; rfl)) ?_
              with_reducible refine (data_calls _ (Aside0.mk (HT.out.to (below_step HBW2.out HB.out))) kB kn kd kT (Aside0.mk (HLD.out.to_ HB.out)) hcap HDW hkn).mono ?_
              rintro e w3 ⟨v3, rfl, hr, hb⟩; obtain ⟨a5_, c5_, e5_⟩ := ownsRow_as hr; subst e5_; have hrw : RW w3 a5_ (dataR kT).length c5_ (dataR kT) := ⟨rfl, _, hr⟩
              refine ⟨_, rfl, ?_⟩
              refine hK.out _ _ ⟨gy, a52, c52, a5_, c5_, a57, c57, m4_, (.slice a5_ (dataR kT).length c5_), m8_, m9_, (by rw [ha.out]; exact putSel_upk 7 hb_ rfl rfl rfl), (below_step HB.out hb), fun _ => (blk_below BK8.out hb), fun _ => (blk_below BZ.out hb), fun _ => (BLD.out.below hb), fun _ _ => (RS.out.below hb), fun _ _ => hrw, fun h0_ _ => absurd ((hoff 8 (by kernel_rfl)).symm.trans h0_) (by decide), fun h0_ _ => absurd ((hoff 9 (by kernel_rfl)).symm.trans h0_) (by decide), fun h0_ => absurd ((hoff 11 (by kernel_rfl)).symm.trans h0_) (by decide), Q_X4_, fun _ => rfl, fun h0_ => absurd ((hoff 8 (by kernel_rfl)).symm.trans h0_) (by decide), fun h0_ => absurd ((hoff 9 (by kernel_rfl)).symm.trans h0_) (by decide)⟩
            refine steps_cons ?_ ?_
            · rintro b a w' ⟨gy, a52, c52, a55, c55, a57, c57, m4_, m7_, m8_, m9_, ha, Q_HB, Q_BK8, Q_BZ, Q_BLD, Q_RS, Q_RD, Q_BY, Q_RC, Q_BLD2, Q_X4_, Q_X7_, Q_X8_, Q_X9_⟩ hb_ hon hoff
              refine ⟨_, rfl, fun K hK => ?_⟩
              have e48 : a.tmps[48]? = some (.slice (some ⟨gz, 0, none⟩) 3 3) := by rw [ha]; exact putSel_on (e := (0, 48, .slice (some ⟨gz, 0, none⟩) 3 3)) 0 rfl rfl (hon 0 (by kernel_rfl)) rfl
              have e52 : a.tmps[52]? = some (m4_) := by rw [ha]; exact putSel_on (e := (4, 52, m4_)) 4 rfl rfl (hon 4 (by kernel_rfl)) rfl
              rw [Q_X4_ (hon 4 (by kernel_rfl))] at e52
              have e55 : a.tmps[55]? = some (m7_) := by rw [ha]; exact putSel_on (e := (7, 55, m7_)) 7 rfl rfl (hon 7 (by kernel_rfl)) rfl
              rw [Q_X7_ (hon 7 (by kernel_rfl))] at e55
              replace ha := Aside0.mk ha
              have HB := Aside0.mk Q_HB
              have BK8 := Aside0.mk (Q_BK8 (hoff 11 (by kernel_rfl)))
              have BZ := Aside0.mk (Q_BZ (hoff 11 (by kernel_rfl)))
              have BLD := Aside0.mk (Q_BLD (hoff 11 (by kernel_rfl)))
              have RS := Aside0.mk (Q_RS (hon 4 (by kernel_rfl)) (hoff 11 (by kernel_rfl)))
              have RD := Aside0.mk (Q_RD (hon 7 (by kernel_rfl)) (hoff 11 (by kernel_rfl)))
              refine value_ (w1 := ?_) (v := ?_) (by rfl) rfl ?_ ?_
              rotate_left 2
              · go_simp
                constructor
                · rfl
                · rfl
              have hb := below_alloc (Below.refl w'.heap.size w') (.cells #[.slice (some ⟨gz, 0, none⟩) 3 3, .slice a52 (slotsR ws kS).length c52, .slice a55 (dataR kT).length c55] 52)
              refine hK.out _ _ ⟨w'.heap.size, a52, c52, a55, c55, a57, c57, m4_, m7_, (.slice (some ⟨w'.heap.size, 0, none⟩) 3 3), m9_, (by rw [ha.out]; exact putSel_upk 8 hb_ rfl rfl rfl), (below_step HB.out hb), fun _ => (blk_below BK8.out hb), fun _ => (blk_below BZ.out hb), fun _ => (BLD.out.below hb), fun _ _ => (RS.out.below hb), fun _ _ => (RD.out.below hb), fun _ _ => (blk_new w' (.cells #[.slice (some ⟨gz, 0, none⟩) 3 3, .slice a52 (slotsR ws kS).length c52, .slice a55 (dataR kT).length c55] 52)), fun h0_ _ => absurd ((hoff 9 (by kernel_rfl)).symm.trans h0_) (by decide), fun h0_ => absurd ((hoff 11 (by kernel_rfl)).symm.trans h0_) (by decide), Q_X4_, Q_X7_, fun _ => rfl, fun h0_ => absurd ((hoff 9 (by kernel_rfl)).symm.trans h0_) (by decide)⟩
            refine steps_cons ?_ ?_
            · rintro b a w' ⟨gy, a52, c52, a55, c55, a57, c57, m4_, m7_, m8_, m9_, ha, Q_HB, Q_BK8, Q_BZ, Q_BLD, Q_RS, Q_RD, Q_BY, Q_RC, Q_BLD2, Q_X4_, Q_X7_, Q_X8_, Q_X9_⟩ hb_ hon hoff
              refine ⟨_, rfl, fun K hK => ?_⟩
              have e56 : a.tmps[56]? = some (m8_) := by rw [ha]; exact putSel_on (e := (8, 56, m8_)) 8 rfl rfl (hon 8 (by kernel_rfl)) rfl
              rw [Q_X8_ (hon 8 (by kernel_rfl))] at e56
              replace ha := Aside0.mk ha
              have HB := Aside0.mk Q_HB
              have BK8 := Aside0.mk (Q_BK8 (hoff 11 (by kernel_rfl)))
              have BZ := Aside0.mk (Q_BZ (hoff 11 (by kernel_rfl)))
              have BLD := Aside0.mk (Q_BLD (hoff 11 (by kernel_rfl)))
              have RS := Aside0.mk (Q_RS (hon 4 (by kernel_rfl)) (hoff 11 (by kernel_rfl)))
              have RD := Aside0.mk (Q_RD (hon 7 (by kernel_rfl)) (hoff 11 (by kernel_rfl)))
              have BY := Aside0.mk (Q_BY (hon 8 (by kernel_rfl)) (hoff 11 (by kernel_rfl)))
              refine goes_ Tryd.func16 (by kernel_rfl) rfl #[.slice (some ⟨gy, 0, none⟩) 3 3] (by rfl) rfl rfl (by first | (simp only [List.map_toArray, List.map_cons, List.map_nil, Act.eval, Array.getD_eq_getD_getElem?, Option.getD_some, e56]; done) | (simp only [List.map_toArray, List.map_cons, List.map_nil, Act.eval, Array.getD_eq_getD_getElem?, Option.getD_some, e56]; rfl)) ?_
              with_reducible refine (concat_calls _ gy _ _ _ 3 3 _ c52 _ c55 [q58, Lib.itoa kw, [119, 111, 114, 100, 115]] (slotsR ws kS) (dataR kT) (Aside0.mk BY.out) (Aside0.mk (RW3 BZ.out)) (Aside0.mk RS.out) (Aside0.mk RD.out) (by omega) (by omega) HN1.out HN2.out).mono ?_
              rintro e w3 ⟨a5_, c5_, rfl, hr, hb⟩; have hrw : RW w3 a5_ (3 + (slotsR ws kS).length + (dataR kT).length) c5_ ([q58, Lib.itoa kw, [119, 111, 114, 100, 115]] ++ slotsR ws kS ++ dataR kT) := ⟨HCL.out, _, hr⟩
              refine ⟨_, rfl, ?_⟩
              refine hK.out _ _ ⟨gy, a52, c52, a55, c55, a5_, c5_, m4_, m7_, m8_, (.slice a5_ (3 + (slotsR ws kS).length + (dataR kT).length) c5_), (by rw [ha.out]; exact putSel_upk 9 hb_ rfl rfl rfl), (below_step HB.out hb), fun _ => (blk_below BK8.out hb), fun _ => (blk_below BZ.out hb), fun _ => (BLD.out.below hb), fun _ _ => (RS.out.below hb), fun _ _ => (RD.out.below hb), fun _ _ => (blk_below BY.out hb), fun _ _ => hrw, fun h0_ => absurd ((hoff 11 (by kernel_rfl)).symm.trans h0_) (by decide), Q_X4_, Q_X7_, Q_X8_, fun _ => rfl⟩
            refine steps_cons ?_ ?_
            · rintro b a w' ⟨gy, a52, c52, a55, c55, a57, c57, m4_, m7_, m8_, m9_, ha, Q_HB, Q_BK8, Q_BZ, Q_BLD, Q_RS, Q_RD, Q_BY, Q_RC, Q_BLD2, Q_X4_, Q_X7_, Q_X8_, Q_X9_⟩ hb_ hon hoff
              refine ⟨_, rfl, fun K hK => ?_⟩
              have e57 : a.tmps[57]? = some (m9_) := by rw [ha]; exact putSel_on (e := (9, 57, m9_)) 9 rfl rfl (hon 9 (by kernel_rfl)) rfl
              rw [Q_X9_ (hon 9 (by kernel_rfl))] at e57
              replace ha := Aside0.mk ha
              have HB := Aside0.mk Q_HB
              have BK8 := Aside0.mk (Q_BK8 (hoff 11 (by kernel_rfl)))
              have BZ := Aside0.mk (Q_BZ (hoff 11 (by kernel_rfl)))
              have BLD := Aside0.mk (Q_BLD (hoff 11 (by kernel_rfl)))
              have RS := Aside0.mk (Q_RS (hon 4 (by kernel_rfl)) (hoff 11 (by kernel_rfl)))
              have RD := Aside0.mk (Q_RD (hon 7 (by kernel_rfl)) (hoff 11 (by kernel_rfl)))
              have BY := Aside0.mk (Q_BY (hon 8 (by kernel_rfl)) (hoff 11 (by kernel_rfl)))
              have RC := Aside0.mk (Q_RC (hon 9 (by kernel_rfl)) (hoff 11 (by kernel_rfl)))
              refine goes_ Tryd.func13 (by kernel_rfl) rfl #[.slice a57 (3 + (slotsR ws kS).length + (dataR kT).length) c57] (by rfl) rfl rfl (by first | (simp only [List.map_toArray, List.map_cons, List.map_nil, Act.eval, Array.getD_eq_getD_getElem?, Option.getD_some, e57]; done) | (simp only [List.map_toArray, List.map_cons, List.map_nil, Act.eval, Array.getD_eq_getD_getElem?, Option.getD_some, e57]; rfl)) ?_
              with_reducible refine (line_calls _ a57 _ c57 ([q58, Lib.itoa kw, [119, 111, 114, 100, 115]] ++ slotsR ws kS ++ dataR kT) (Aside0.mk RC.out) (by omega) HN3.out HLW).mono ?_
              rintro e w3 ⟨rfl, hb⟩
              refine ⟨_, rfl, ?_⟩
              refine hK.out _ _ ⟨gy, a52, c52, a55, c55, a57, c57, m4_, m7_, m8_, m9_, (by rw [ha.out]; exact putSel_upk 10 hb_ rfl rfl rfl), (below_step HB.out hb), fun _ => (blk_below BK8.out hb), fun _ => (blk_below BZ.out hb), fun _ => (BLD.out.below hb), fun _ _ => (RS.out.below hb), fun _ _ => (RD.out.below hb), fun _ _ => (blk_below BY.out hb), fun _ _ => (RC.out.below hb), fun h0_ => absurd ((hoff 11 (by kernel_rfl)).symm.trans h0_) (by decide), Q_X4_, Q_X7_, Q_X8_, Q_X9_⟩
            refine steps_cons ?_ ?_
            · rintro b a w' ⟨gy, a52, c52, a55, c55, a57, c57, m4_, m7_, m8_, m9_, ha, Q_HB, Q_BK8, Q_BZ, Q_BLD, Q_RS, Q_RD, Q_BY, Q_RC, Q_BLD2, Q_X4_, Q_X7_, Q_X8_, Q_X9_⟩ hb_ hon hoff
              refine ⟨_, rfl, fun K hK => ?_⟩
              have e4 : a.tmps[4]? = some (.pointer (some ⟨bb, 0, none⟩)) := by rw [ha]; exact (putSel_off rfl).trans rfl
              have e58 : a.tmps[58]? = some (.string ⟨(lineR ([q58, Lib.itoa kw, [119, 111, 114, 100, 115]] ++ slotsR ws kS ++ dataR kT)).toArray⟩) := by rw [ha]; exact putSel_on (e := (10, 58, .string ⟨(lineR ([q58, Lib.itoa kw, [119, 111, 114, 100, 115]] ++ slotsR ws kS ++ dataR kT)).toArray⟩)) 10 rfl rfl (hon 10 (by kernel_rfl)) rfl
              replace ha := Aside0.mk ha
              have HB := Aside0.mk Q_HB
              have BK8 := Aside0.mk (Q_BK8 hb_)
              have BZ := Aside0.mk (Q_BZ hb_)
              have BLD := Aside0.mk (Q_BLD hb_)
              have RS := Aside0.mk (Q_RS (hon 4 (by kernel_rfl)) hb_)
              have RD := Aside0.mk (Q_RD (hon 7 (by kernel_rfl)) hb_)
              have BY := Aside0.mk (Q_BY (hon 8 (by kernel_rfl)) hb_)
              have RC := Aside0.mk (Q_RC (hon 9 (by kernel_rfl)) hb_)
              refine goes_ Tryd.func12 (by kernel_rfl) rfl #[.pointer (some ⟨bb, 0, none⟩), .string ⟨(lineR ([q58, Lib.itoa kw, [119, 111, 114, 100, 115]] ++ slotsR ws kS ++ dataR kT)).toArray⟩] (by rfl) rfl rfl (by first | (simp only [List.map_toArray, List.map_cons, List.map_nil, Act.eval, Array.getD_eq_getD_getElem?, Option.getD_some, e4, e58]; done) | (simp only [List.map_toArray, List.map_cons, List.map_nil, Act.eval, Array.getD_eq_getD_getElem?, Option.getD_some, e4, e58]; rfl)) ?_
              with_reducible refine (wbld_calls _ bb txt (lineR ([q58, Lib.itoa kw, [119, 111, 114, 100, 115]] ++ slotsR ws kS ++ dataR kT)) _ BLD.out HLL.out HB.out.size).mono ?_
              rintro e w3 ⟨rfl, hbl, hb⟩
              refine ⟨_, rfl, ?_⟩
              refine hK.out _ _ ⟨gy, a52, c52, a55, c55, a57, c57, m4_, m7_, m8_, m9_, (by rw [ha.out]; exact putSel_upk 11 hb_ rfl rfl rfl), (HB.out.trans hb), fun h0_ => absurd ((up_self b 11).symm.trans h0_) (by decide), fun h0_ => absurd ((up_self b 11).symm.trans h0_) (by decide), fun h0_ => absurd ((up_self b 11).symm.trans h0_) (by decide), fun _ h1_ => absurd ((up_self b 11).symm.trans h1_) (by decide), fun _ h1_ => absurd ((up_self b 11).symm.trans h1_) (by decide), fun _ h1_ => absurd ((up_self b 11).symm.trans h1_) (by decide), fun _ h1_ => absurd ((up_self b 11).symm.trans h1_) (by decide), fun _ => hbl, Q_X4_, Q_X7_, Q_X8_, Q_X9_⟩
            exact steps_nil
          rintro b a wz hall ⟨gy, a52, c52, a55, c55, a57, c57, m4_, m7_, m8_, m9_, ha, Q_HB, Q_BK8, Q_BZ, Q_BLD, Q_RS, Q_RD, Q_BY, Q_RC, Q_BLD2, Q_X4_, Q_X7_, Q_X8_, Q_X9_⟩
          clear BK8 BLD BZ HB
          have hb0_ := hall 0 (by kernel_rfl)
          have hb1_ := hall 1 (by kernel_rfl)
          have hb2_ := hall 2 (by kernel_rfl)
          have hb3_ := hall 3 (by kernel_rfl)
          have hb4_ := hall 4 (by kernel_rfl)
          have hb5_ := hall 5 (by kernel_rfl)
          have hb6_ := hall 6 (by kernel_rfl)
          have hb7_ := hall 7 (by kernel_rfl)
          have hb8_ := hall 8 (by kernel_rfl)
          have hb9_ := hall 9 (by kernel_rfl)
          have hb10_ := hall 10 (by kernel_rfl)
          have hb11_ := hall 11 (by kernel_rfl)
          subst ha
          obtain rfl := Q_X4_ hb4_
          obtain rfl := Q_X7_ hb7_
          obtain rfl := Q_X8_ hb8_
          obtain rfl := Q_X9_ hb9_
          simp only [putSel, hb0_, hb1_, hb2_, hb3_, hb4_, hb5_, hb6_, hb7_, hb8_, hb9_, hb10_, hb11_, if_true, Act.put, List.setIfInBounds_toArray, List.set_cons_zero, List.set_cons_succ]
          have HB := Aside0.mk Q_HB
          clear Q_HB
          clear Q_BK8
          clear Q_BZ
          clear Q_BLD
          clear Q_RS
          clear Q_RD
          clear Q_BY
          clear Q_RC
          have BLD2 := Aside0.mk (Q_BLD2 hb11_)
          clear Q_BLD2
          clear hall hb0_ hb1_ hb2_ hb3_ hb4_ hb5_ hb6_ hb7_ hb8_ hb9_ hb10_ hb11_
          go_wp2
          refine ⟨⟨j + 1, hj1n, by push_cast; rfl, HB, Aside0.mk (by rw [HTX.out]; exact BLD2.out), Aside0.mk (by rw [HTX.out, List.length_append]; have h1 := HTL.out; have h2 := HLE.out; omega)⟩, ?_⟩
          show nw - ((j : Int) + 1).toNat < nw - (j : Int).toNat
          omega
        · obtain rfl : j = nw := by omega
          have hd : decide ((j : Int) < (j : Int)) = false := decide_eq_false (by omega)
          go_wp2_with (go_at_call 19; refine (Sh.Builder_String_any W2.heap.size bb (T1 ++ nodesT ws M j) _ BLD.out HB.out.size).mono ?_; rintro e w9 ⟨rfl, hb9⟩; have HB9 := Aside0.mk (HB.out.trans hb9); clear hb9)
          go_ret
          have e0 : graphT NS R = T1 ++ nodesT ws M j := by unfold graphT; rw [← HWS.out, HT1.out, hRl, ← HMM.out, ← HNW0.out]
          exact ⟨by rw [e0]; rfl, below_step HBW2.out HB9.out⟩
end Go.Proofs.YtacjlkjdmhlbaaaDoor.Gr
/- Dump: slices.Equal over words. Conditions: both lie in memory. -/
namespace Go.Proofs.YtacjlkjdmhlbaaaDoor.Gr
open Go.RowKit Go.Shelf Go.Maps Go.ChangeMaps Go.MapKept Go.Proofs.YtacjlkjdmhlbaaaDoorW.PrintWords Go.Proofs.YtacjlkjdmhlbaaaDoorW.PrintLast Go.Proofs.YtacjlkjdmhlbaaaDoorW.PrintMore
set_option linter.unusedSimpArgs false
set_option linter.unusedVariables false
theorem nat_ne {a b : Nat} (h : a ≠ b) : ((a : Int) != (b : Int)) = true := by simp; omega
def eq6.T6 : Bool × List (List Nat × List Nat) := (true, [([], []), ([], []), ([0, 1], [0, 1]), ([2], [2]), ([], []), ([], []), ([4, 5], [4, 5]), ([6], [6]), ([3, 7], [3, 7])])
def eq6.B6 : List Nat := [0, 0, 3, 7, 0, 0, 48, 112, 255]
theorem eq6.tab6 : rtab .any (opsOf Tryd.f9 6) = eq6.T6 := by kernel_rfl
theorem eq6.bits6 : waitsOk eq6.T6.2 eq6.B6 = true := by kernel_rfl
set_option maxHeartbeats 8000000 in
set_option maxRecDepth 100000 in
theorem equal_calls (W : World) (A1 A2 : Option Addr) (n c n2 d : Nat) (l1 l2 : List Int) (H1 : Aside0 (IL .u64 W W.heap.size A1 n l1)) (H2 : Aside0 (IL .u64 W W.heap.size A2 n2 l2)) (hn : n ≤ 1000000) : Calls Tryd.prog 9 #[.slice A1 n c, .slice A2 n2 d] W fun e W' => ∃ b : Bool, e = .returned (.bool b) ∧ (b = true ↔ l1 = l2) ∧ Below W.heap.size W W' := by
  have HB := Aside0.mk (Below.refl W.heap.size W)
  by_cases hnn : n = n2
  · subst hnn
    have hne : ((n : Int) != (n : Int)) = false := by simp
    go_enter Tryd.func9, Tryd.ntmps9
    go_wp2
    go_loopw [13] (fun v wr => ∃ i : Nat, i ≤ n ∧ v = .int .i64 (i : Int) ∧ Aside0 (∀ j, j < i → l1.getD j 0 = l2.getD j 0) ∧ Aside0 (Below W.heap.size W wr)) (fun v _ => n - (intOf v).toNat)
    case atStart => exact ⟨0, by omega, rfl, Aside0.mk (fun j hj => absurd hj (Nat.not_lt_zero j)), HB⟩
    case round =>
      clear HB
      obtain ⟨i, hi_, rfl, HE, HB⟩ := hrel
      by_cases hgo : i < n
      · have hd : decide ((i : Int) < (n : Int)) = true := decide_eq_true (by omega)
        obtain ⟨ya, ea, _, hya⟩ := (H1.out.kept fun k hk => HB.out.block k hk).2 i hgo
        obtain ⟨yb, eb, _, hyb⟩ := (H2.out.kept fun k hk => HB.out.block k hk).2 i hgo
        subst ea
        subst eb
        obtain ⟨x, hx⟩ : ∃ x, x = l1.getD i 0 := ⟨_, rfl⟩
        obtain ⟨z, hz⟩ : ∃ x, x = l2.getD i 0 := ⟨_, rfl⟩
        rw [← hx] at hya
        rw [← hz] at hyb
        have hi0 : (0 : Int) ≤ (i : Int) := by omega
        have hi1 : (i : Int) < (n : Int) := by omega
        have hi1n : i + 1 ≤ n := by omega
        by_cases hxz : x = z
        · have hne2 : (x != z) = false := by rw [hxz]; simp
          have HE2 := Aside0.mk (show ∀ j, j < i + 1 → l1.getD j 0 = l2.getD j 0 from fun j hj => by
            rcases Nat.lt_or_ge j i with h | h
            · exact HE.out j h
            · obtain rfl : j = i := by omega
              rw [← hx, ← hz, hxz])
          clear hx hz hxz
          go_upto_region 6 with fail
          have HR := Aside0.mk (Below.refl wr.heap.size wr)
          refine start_ (n := 9) (S := fun w' => True) (ds := []) #[false, false, false, false, false, false, false, false, false] (by kernel_rfl) rfl rfl trivial (fun hHeld => ?_)
          refine with_tabW eq6.tab6 eq6.bits6 (fun HT_ HW_ => ?_)
          refine inv_at [0, 1, 2, 3, 4, 5, 6, 7, 8] (fun a0_ b a w' => a = putSel a0_ b [(0, 16, .slice (some ya) n c), (1, 17, .int .i64 (i : Int)), (2, 18, .pointer (some (ya.add i))), (3, 19, .int .u64 x), (4, 20, .slice (some yb) n d), (5, 21, .int .i64 (i : Int)), (6, 22, .pointer (some (yb.add i))), (7, 23, .int .u64 z), (8, 24, .bool (x != z))] ∧ (Below wr.heap.size wr w')) HT_.out HW_.out (by kernel_rfl) (by kernel_rfl) ?_ ?_ ?_
          · exact ⟨by simp only [putSel, Bool.false_eq_true, if_false], below_drew1 HR.out⟩
          · skip
            clear HR
            refine steps_cons ?_ ?_
            · rintro b a w' ⟨ha, Q_HR⟩ hb_ hon hoff
              refine ⟨_, rfl, fun K hK => ?_⟩
              have e0 : a.tmps[0]? = some (.slice (some ya) n c) := by rw [ha]; exact (putSel_off rfl).trans rfl
              replace ha := Aside0.mk ha
              have HR := Aside0.mk Q_HR
              refine value_ (w1 := w') (v := .slice (some ya) n c) (by rfl) rfl ?_ ?_
              · go_simp
                (try simp only [i64_w])
                try rfl
              refine hK.out _ _ ⟨(by rw [ha.out]; exact putSel_upk 0 hb_ rfl rfl rfl), Q_HR⟩
            refine steps_cons ?_ ?_
            · rintro b a w' ⟨ha, Q_HR⟩ hb_ hon hoff
              refine ⟨_, rfl, fun K hK => ?_⟩
              have e5 : a.tmps[5]? = some (.int .i64 (i : Int)) := by rw [ha]; exact (putSel_off rfl).trans rfl
              replace ha := Aside0.mk ha
              have HR := Aside0.mk Q_HR
              refine value_ (w1 := w') (v := .int .i64 (i : Int)) (by rfl) rfl ?_ ?_
              · go_simp
                (try simp only [i64_w])
                try rfl
              refine hK.out _ _ ⟨(by rw [ha.out]; exact putSel_upk 1 hb_ rfl rfl rfl), Q_HR⟩
            refine steps_cons ?_ ?_
            · rintro b a w' ⟨ha, Q_HR⟩ hb_ hon hoff
              refine ⟨_, rfl, fun K hK => ?_⟩
              have e16 : a.tmps[16]? = some (.slice (some ya) n c) := by rw [ha]; exact putSel_on (e := (0, 16, .slice (some ya) n c)) 0 rfl rfl (hon 0 (by kernel_rfl)) rfl
              have e17 : a.tmps[17]? = some (.int .i64 (i : Int)) := by rw [ha]; exact putSel_on (e := (1, 17, .int .i64 (i : Int))) 1 rfl rfl (hon 1 (by kernel_rfl)) rfl
              replace ha := Aside0.mk ha
              have HR := Aside0.mk Q_HR
              refine value_ (w1 := w') (v := .pointer (some (ya.add i))) (by rfl) rfl ?_ ?_
              · go_simp
                (try simp only [i64_w])
                try rfl
              refine hK.out _ _ ⟨(by rw [ha.out]; exact putSel_upk 2 hb_ rfl rfl rfl), Q_HR⟩
            refine steps_cons ?_ ?_
            · rintro b a w' ⟨ha, Q_HR⟩ hb_ hon hoff
              refine ⟨_, rfl, fun K hK => ?_⟩
              have e18 : a.tmps[18]? = some (.pointer (some (ya.add i))) := by rw [ha]; exact putSel_on (e := (2, 18, .pointer (some (ya.add i)))) 2 rfl rfl (hon 2 (by kernel_rfl)) rfl
              replace ha := Aside0.mk ha
              have HR := Aside0.mk Q_HR
              have hl19 : w'.cell? (ya.add i) = some (.int .u64 x) := (HR.out.cell (p := ya.add i) (cell_lt hya)).trans hya
              refine value_ (w1 := w') (v := .int .u64 x) (by rfl) rfl ?_ ?_
              · go_simp
                (try simp only [i64_w])
                try rfl
              refine hK.out _ _ ⟨(by rw [ha.out]; exact putSel_upk 3 hb_ rfl rfl rfl), Q_HR⟩
            refine steps_cons ?_ ?_
            · rintro b a w' ⟨ha, Q_HR⟩ hb_ hon hoff
              refine ⟨_, rfl, fun K hK => ?_⟩
              have e1 : a.tmps[1]? = some (.slice (some yb) n d) := by rw [ha]; exact (putSel_off rfl).trans rfl
              replace ha := Aside0.mk ha
              have HR := Aside0.mk Q_HR
              refine value_ (w1 := w') (v := .slice (some yb) n d) (by rfl) rfl ?_ ?_
              · go_simp
                (try simp only [i64_w])
                try rfl
              refine hK.out _ _ ⟨(by rw [ha.out]; exact putSel_upk 4 hb_ rfl rfl rfl), Q_HR⟩
            refine steps_cons ?_ ?_
            · rintro b a w' ⟨ha, Q_HR⟩ hb_ hon hoff
              refine ⟨_, rfl, fun K hK => ?_⟩
              have e5 : a.tmps[5]? = some (.int .i64 (i : Int)) := by rw [ha]; exact (putSel_off rfl).trans rfl
              replace ha := Aside0.mk ha
              have HR := Aside0.mk Q_HR
              refine value_ (w1 := w') (v := .int .i64 (i : Int)) (by rfl) rfl ?_ ?_
              · go_simp
                (try simp only [i64_w])
                try rfl
              refine hK.out _ _ ⟨(by rw [ha.out]; exact putSel_upk 5 hb_ rfl rfl rfl), Q_HR⟩
            refine steps_cons ?_ ?_
            · rintro b a w' ⟨ha, Q_HR⟩ hb_ hon hoff
              refine ⟨_, rfl, fun K hK => ?_⟩
              have e20 : a.tmps[20]? = some (.slice (some yb) n d) := by rw [ha]; exact putSel_on (e := (4, 20, .slice (some yb) n d)) 4 rfl rfl (hon 4 (by kernel_rfl)) rfl
              have e21 : a.tmps[21]? = some (.int .i64 (i : Int)) := by rw [ha]; exact putSel_on (e := (5, 21, .int .i64 (i : Int))) 5 rfl rfl (hon 5 (by kernel_rfl)) rfl
              replace ha := Aside0.mk ha
              have HR := Aside0.mk Q_HR
              refine value_ (w1 := w') (v := .pointer (some (yb.add i))) (by rfl) rfl ?_ ?_
              · go_simp
                (try simp only [i64_w])
                try rfl
              refine hK.out _ _ ⟨(by rw [ha.out]; exact putSel_upk 6 hb_ rfl rfl rfl), Q_HR⟩
            refine steps_cons ?_ ?_
            · rintro b a w' ⟨ha, Q_HR⟩ hb_ hon hoff
              refine ⟨_, rfl, fun K hK => ?_⟩
              have e22 : a.tmps[22]? = some (.pointer (some (yb.add i))) := by rw [ha]; exact putSel_on (e := (6, 22, .pointer (some (yb.add i)))) 6 rfl rfl (hon 6 (by kernel_rfl)) rfl
              replace ha := Aside0.mk ha
              have HR := Aside0.mk Q_HR
              have hl23 : w'.cell? (yb.add i) = some (.int .u64 z) := (HR.out.cell (p := yb.add i) (cell_lt hyb)).trans hyb
              refine value_ (w1 := w') (v := .int .u64 z) (by rfl) rfl ?_ ?_
              · go_simp
                (try simp only [i64_w])
                try rfl
              refine hK.out _ _ ⟨(by rw [ha.out]; exact putSel_upk 7 hb_ rfl rfl rfl), Q_HR⟩
            refine steps_cons ?_ ?_
            · rintro b a w' ⟨ha, Q_HR⟩ hb_ hon hoff
              refine ⟨_, rfl, fun K hK => ?_⟩
              have e19 : a.tmps[19]? = some (.int .u64 x) := by rw [ha]; exact putSel_on (e := (3, 19, .int .u64 x)) 3 rfl rfl (hon 3 (by kernel_rfl)) rfl
              have e23 : a.tmps[23]? = some (.int .u64 z) := by rw [ha]; exact putSel_on (e := (7, 23, .int .u64 z)) 7 rfl rfl (hon 7 (by kernel_rfl)) rfl
              replace ha := Aside0.mk ha
              have HR := Aside0.mk Q_HR
              refine value_ (w1 := w') (v := .bool (x != z)) (by rfl) rfl ?_ ?_
              · go_simp
                (try simp only [i64_w])
                try rfl
              refine hK.out _ _ ⟨(by rw [ha.out]; exact putSel_upk 8 hb_ rfl rfl rfl), Q_HR⟩
            exact steps_nil
          rintro b a wq hall ⟨ha, Q_HR⟩
          clear HR
          have hb0_ := hall 0 (by kernel_rfl)
          have hb1_ := hall 1 (by kernel_rfl)
          have hb2_ := hall 2 (by kernel_rfl)
          have hb3_ := hall 3 (by kernel_rfl)
          have hb4_ := hall 4 (by kernel_rfl)
          have hb5_ := hall 5 (by kernel_rfl)
          have hb6_ := hall 6 (by kernel_rfl)
          have hb7_ := hall 7 (by kernel_rfl)
          have hb8_ := hall 8 (by kernel_rfl)
          subst ha
          simp only [putSel, hb0_, hb1_, hb2_, hb3_, hb4_, hb5_, hb6_, hb7_, hb8_, if_true, Act.put, List.setIfInBounds_toArray, List.set_cons_zero, List.set_cons_succ]
          have HR := Aside0.mk Q_HR
          clear Q_HR
          clear hall hb0_ hb1_ hb2_ hb3_ hb4_ hb5_ hb6_ hb7_ hb8_
          have HB2 := Aside0.mk (below_step HB.out HR.out)
          go_wp2
          refine ⟨⟨i + 1, hi1n, by push_cast; rfl, HE2, HB2⟩, ?_⟩
          show n - ((i : Int) + 1).toNat < n - (i : Int).toNat
          omega
        · have hne2 : (x != z) = true := by simp [hxz]
          have HNE := Aside0.mk (show ¬ l1 = l2 from fun h => hxz (by rw [hx, hz, h]))
          clear hx hz hxz
          go_upto_region 6 with fail
          have HR := Aside0.mk (Below.refl wr.heap.size wr)
          refine start_ (n := 9) (S := fun w' => True) (ds := []) #[false, false, false, false, false, false, false, false, false] (by kernel_rfl) rfl rfl trivial (fun hHeld => ?_)
          refine with_tabW eq6.tab6 eq6.bits6 (fun HT_ HW_ => ?_)
          refine inv_at [0, 1, 2, 3, 4, 5, 6, 7, 8] (fun a0_ b a w' => a = putSel a0_ b [(0, 16, .slice (some ya) n c), (1, 17, .int .i64 (i : Int)), (2, 18, .pointer (some (ya.add i))), (3, 19, .int .u64 x), (4, 20, .slice (some yb) n d), (5, 21, .int .i64 (i : Int)), (6, 22, .pointer (some (yb.add i))), (7, 23, .int .u64 z), (8, 24, .bool (x != z))] ∧ (Below wr.heap.size wr w')) HT_.out HW_.out (by kernel_rfl) (by kernel_rfl) ?_ ?_ ?_
          · exact ⟨by simp only [putSel, Bool.false_eq_true, if_false], below_drew1 HR.out⟩
          · skip
            clear HR
            refine steps_cons ?_ ?_
            · rintro b a w' ⟨ha, Q_HR⟩ hb_ hon hoff
              refine ⟨_, rfl, fun K hK => ?_⟩
              have e0 : a.tmps[0]? = some (.slice (some ya) n c) := by rw [ha]; exact (putSel_off rfl).trans rfl
              replace ha := Aside0.mk ha
              have HR := Aside0.mk Q_HR
              refine value_ (w1 := w') (v := .slice (some ya) n c) (by rfl) rfl ?_ ?_
              · go_simp
                (try simp only [i64_w])
                try rfl
              refine hK.out _ _ ⟨(by rw [ha.out]; exact putSel_upk 0 hb_ rfl rfl rfl), Q_HR⟩
            refine steps_cons ?_ ?_
            · rintro b a w' ⟨ha, Q_HR⟩ hb_ hon hoff
              refine ⟨_, rfl, fun K hK => ?_⟩
              have e5 : a.tmps[5]? = some (.int .i64 (i : Int)) := by rw [ha]; exact (putSel_off rfl).trans rfl
              replace ha := Aside0.mk ha
              have HR := Aside0.mk Q_HR
              refine value_ (w1 := w') (v := .int .i64 (i : Int)) (by rfl) rfl ?_ ?_
              · go_simp
                (try simp only [i64_w])
                try rfl
              refine hK.out _ _ ⟨(by rw [ha.out]; exact putSel_upk 1 hb_ rfl rfl rfl), Q_HR⟩
            refine steps_cons ?_ ?_
            · rintro b a w' ⟨ha, Q_HR⟩ hb_ hon hoff
              refine ⟨_, rfl, fun K hK => ?_⟩
              have e16 : a.tmps[16]? = some (.slice (some ya) n c) := by rw [ha]; exact putSel_on (e := (0, 16, .slice (some ya) n c)) 0 rfl rfl (hon 0 (by kernel_rfl)) rfl
              have e17 : a.tmps[17]? = some (.int .i64 (i : Int)) := by rw [ha]; exact putSel_on (e := (1, 17, .int .i64 (i : Int))) 1 rfl rfl (hon 1 (by kernel_rfl)) rfl
              replace ha := Aside0.mk ha
              have HR := Aside0.mk Q_HR
              refine value_ (w1 := w') (v := .pointer (some (ya.add i))) (by rfl) rfl ?_ ?_
              · go_simp
                (try simp only [i64_w])
                try rfl
              refine hK.out _ _ ⟨(by rw [ha.out]; exact putSel_upk 2 hb_ rfl rfl rfl), Q_HR⟩
            refine steps_cons ?_ ?_
            · rintro b a w' ⟨ha, Q_HR⟩ hb_ hon hoff
              refine ⟨_, rfl, fun K hK => ?_⟩
              have e18 : a.tmps[18]? = some (.pointer (some (ya.add i))) := by rw [ha]; exact putSel_on (e := (2, 18, .pointer (some (ya.add i)))) 2 rfl rfl (hon 2 (by kernel_rfl)) rfl
              replace ha := Aside0.mk ha
              have HR := Aside0.mk Q_HR
              have hl19 : w'.cell? (ya.add i) = some (.int .u64 x) := (HR.out.cell (p := ya.add i) (cell_lt hya)).trans hya
              refine value_ (w1 := w') (v := .int .u64 x) (by rfl) rfl ?_ ?_
              · go_simp
                (try simp only [i64_w])
                try rfl
              refine hK.out _ _ ⟨(by rw [ha.out]; exact putSel_upk 3 hb_ rfl rfl rfl), Q_HR⟩
            refine steps_cons ?_ ?_
            · rintro b a w' ⟨ha, Q_HR⟩ hb_ hon hoff
              refine ⟨_, rfl, fun K hK => ?_⟩
              have e1 : a.tmps[1]? = some (.slice (some yb) n d) := by rw [ha]; exact (putSel_off rfl).trans rfl
              replace ha := Aside0.mk ha
              have HR := Aside0.mk Q_HR
              refine value_ (w1 := w') (v := .slice (some yb) n d) (by rfl) rfl ?_ ?_
              · go_simp
                (try simp only [i64_w])
                try rfl
              refine hK.out _ _ ⟨(by rw [ha.out]; exact putSel_upk 4 hb_ rfl rfl rfl), Q_HR⟩
            refine steps_cons ?_ ?_
            · rintro b a w' ⟨ha, Q_HR⟩ hb_ hon hoff
              refine ⟨_, rfl, fun K hK => ?_⟩
              have e5 : a.tmps[5]? = some (.int .i64 (i : Int)) := by rw [ha]; exact (putSel_off rfl).trans rfl
              replace ha := Aside0.mk ha
              have HR := Aside0.mk Q_HR
              refine value_ (w1 := w') (v := .int .i64 (i : Int)) (by rfl) rfl ?_ ?_
              · go_simp
                (try simp only [i64_w])
                try rfl
              refine hK.out _ _ ⟨(by rw [ha.out]; exact putSel_upk 5 hb_ rfl rfl rfl), Q_HR⟩
            refine steps_cons ?_ ?_
            · rintro b a w' ⟨ha, Q_HR⟩ hb_ hon hoff
              refine ⟨_, rfl, fun K hK => ?_⟩
              have e20 : a.tmps[20]? = some (.slice (some yb) n d) := by rw [ha]; exact putSel_on (e := (4, 20, .slice (some yb) n d)) 4 rfl rfl (hon 4 (by kernel_rfl)) rfl
              have e21 : a.tmps[21]? = some (.int .i64 (i : Int)) := by rw [ha]; exact putSel_on (e := (5, 21, .int .i64 (i : Int))) 5 rfl rfl (hon 5 (by kernel_rfl)) rfl
              replace ha := Aside0.mk ha
              have HR := Aside0.mk Q_HR
              refine value_ (w1 := w') (v := .pointer (some (yb.add i))) (by rfl) rfl ?_ ?_
              · go_simp
                (try simp only [i64_w])
                try rfl
              refine hK.out _ _ ⟨(by rw [ha.out]; exact putSel_upk 6 hb_ rfl rfl rfl), Q_HR⟩
            refine steps_cons ?_ ?_
            · rintro b a w' ⟨ha, Q_HR⟩ hb_ hon hoff
              refine ⟨_, rfl, fun K hK => ?_⟩
              have e22 : a.tmps[22]? = some (.pointer (some (yb.add i))) := by rw [ha]; exact putSel_on (e := (6, 22, .pointer (some (yb.add i)))) 6 rfl rfl (hon 6 (by kernel_rfl)) rfl
              replace ha := Aside0.mk ha
              have HR := Aside0.mk Q_HR
              have hl23 : w'.cell? (yb.add i) = some (.int .u64 z) := (HR.out.cell (p := yb.add i) (cell_lt hyb)).trans hyb
              refine value_ (w1 := w') (v := .int .u64 z) (by rfl) rfl ?_ ?_
              · go_simp
                (try simp only [i64_w])
                try rfl
              refine hK.out _ _ ⟨(by rw [ha.out]; exact putSel_upk 7 hb_ rfl rfl rfl), Q_HR⟩
            refine steps_cons ?_ ?_
            · rintro b a w' ⟨ha, Q_HR⟩ hb_ hon hoff
              refine ⟨_, rfl, fun K hK => ?_⟩
              have e19 : a.tmps[19]? = some (.int .u64 x) := by rw [ha]; exact putSel_on (e := (3, 19, .int .u64 x)) 3 rfl rfl (hon 3 (by kernel_rfl)) rfl
              have e23 : a.tmps[23]? = some (.int .u64 z) := by rw [ha]; exact putSel_on (e := (7, 23, .int .u64 z)) 7 rfl rfl (hon 7 (by kernel_rfl)) rfl
              replace ha := Aside0.mk ha
              have HR := Aside0.mk Q_HR
              refine value_ (w1 := w') (v := .bool (x != z)) (by rfl) rfl ?_ ?_
              · go_simp
                (try simp only [i64_w])
                try rfl
              refine hK.out _ _ ⟨(by rw [ha.out]; exact putSel_upk 8 hb_ rfl rfl rfl), Q_HR⟩
            exact steps_nil
          rintro b a wq hall ⟨ha, Q_HR⟩
          clear HR
          have hb0_ := hall 0 (by kernel_rfl)
          have hb1_ := hall 1 (by kernel_rfl)
          have hb2_ := hall 2 (by kernel_rfl)
          have hb3_ := hall 3 (by kernel_rfl)
          have hb4_ := hall 4 (by kernel_rfl)
          have hb5_ := hall 5 (by kernel_rfl)
          have hb6_ := hall 6 (by kernel_rfl)
          have hb7_ := hall 7 (by kernel_rfl)
          have hb8_ := hall 8 (by kernel_rfl)
          subst ha
          simp only [putSel, hb0_, hb1_, hb2_, hb3_, hb4_, hb5_, hb6_, hb7_, hb8_, if_true, Act.put, List.setIfInBounds_toArray, List.set_cons_zero, List.set_cons_succ]
          have HR := Aside0.mk Q_HR
          clear Q_HR
          clear hall hb0_ hb1_ hb2_ hb3_ hb4_ hb5_ hb6_ hb7_ hb8_
          have HB2 := Aside0.mk (below_step HB.out HR.out)
          go_wp2
          go_ret
          exact ⟨false, rfl, ⟨(fun h => by cases h), fun h => absurd h HNE.out⟩, HB2.out⟩
      · obtain rfl : i = n := by omega
        have hd : decide ((i : Int) < (i : Int)) = false := decide_eq_false (by omega)
        go_wp2
        go_ret
        refine ⟨true, rfl, ⟨fun _ => ?_, fun _ => rfl⟩, HB.out⟩
        refine List.ext_getElem (by rw [H1.out.1, H2.out.1]) fun j h1 h2 => ?_
        have h := HE.out j (by rw [← H1.out.1]; exact h1)
        rw [List.getD_eq_getElem?_getD, List.getD_eq_getElem?_getD, List.getElem?_eq_getElem h1, List.getElem?_eq_getElem h2] at h
        exact h
  · have hne : ((n : Int) != (n2 : Int)) = true := nat_ne hnn
    have HNL := Aside0.mk (show ¬ l1 = l2 from fun h => hnn (by rw [← H1.out.1, ← H2.out.1, h]))
    clear hnn
    go_enter Tryd.func9, Tryd.ntmps9
    go_wp2
    go_ret
    exact ⟨false, rfl, ⟨(fun h => by cases h), fun h => absurd h HNL.out⟩, HB.out⟩
end Go.Proofs.YtacjlkjdmhlbaaaDoor.Gr
