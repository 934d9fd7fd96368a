/- Parts of one proof, set together: Sh3, Ap9, Ap10, Ap11, Di6, Bk4, Ap12, Ap13, Ap14, Ap15, Ap16, Ap17, Ap18, Ap19, Ap20, Ap21. What each says stands at its head; no condition beyond theirs. -/
import Derived.Test.YtekggbmajemmhaaDb20
import Derived.Ground.SlsfProg
import Derived.Shelf.SlGeneric
import Derived.Shelf.SlIterI.Stops
import Derived.Shelf.SlSortCmp.NoneTotal
import Derived.Shelf.SlSortCmp.WholeK
import Derived.Test.YtekggbmajemmhaaProg
/- A contract of Go's library at this program, laid by the kit's shelf tools in plain words: slices.SortFunc over nodes. Conditions: what the contract asks. -/
namespace Go.Proofs.Ytekggbmajemmhaa.Sh
open Go.Shelf
set_option linter.unusedVariables false
def sortN_ren : Go.Shelf.Ren := ⟨fun | 6 => 39 | 15 => 58 | 14 => 57 | 28 => 70 | 29 => 71 | 20 => 62 | 21 => 63 | 22 => 64 | 23 => 65 | 24 => 66 | 25 => 67 | 26 => 68 | 27 => 69 | 46 => 81 | 47 => 82 | 48 => 83 | 49 => 84 | 50 => 85 | 57 => 89 | n => n, fun | 22 => 23 | 24 => 40 | 25 => 57 | 3 => 3 | 39 => 95 | 0 => 0 | 53 => 106 | 55 => 42 | 4 => 4 | 46 => 99 | 45 => 98 | 50 => 103 | 5 => 5 | 9 => 9 | 66 => 114 | 70 => 118 | 76 => 122 | 77 => 123 | n => n, fun | n => n⟩
theorem sortN : Go.Proofs.SlLaysF0.n6 Try.prog sortN_ren := {
  mixed := by kernel_rfl
  f6 := ⟨Try.f39.name, by decide, Try.func39.trans (congrArg some (by kernel_rfl))⟩
  f14 := ⟨Try.f57.name, by decide, Try.func57.trans (congrArg some (by kernel_rfl))⟩
  f15 := Try.func58.trans (congrArg some (by kernel_rfl))
  f20 := ⟨Try.f62.name, by decide, Try.func62.trans (congrArg some (by kernel_rfl))⟩
  f21 := ⟨Try.f63.name, by decide, Try.func63.trans (congrArg some (by kernel_rfl))⟩
  f22 := ⟨Try.f64.name, by decide, Try.func64.trans (congrArg some (by kernel_rfl))⟩
  f23 := ⟨Try.f65.name, by decide, Try.func65.trans (congrArg some (by kernel_rfl))⟩
  f24 := ⟨Try.f66.name, by decide, Try.func66.trans (congrArg some (by kernel_rfl))⟩
  f25 := ⟨Try.f67.name, by decide, Try.func67.trans (congrArg some (by kernel_rfl))⟩
  f26 := ⟨Try.f68.name, by decide, Try.func68.trans (congrArg some (by kernel_rfl))⟩
  f27 := ⟨Try.f69.name, by decide, Try.func69.trans (congrArg some (by kernel_rfl))⟩
  f28 := Try.func70.trans (congrArg some (by kernel_rfl))
  f29 := Try.func71.trans (congrArg some (by kernel_rfl))
  f46 := ⟨Try.f81.name, by decide, Try.func81.trans (congrArg some (by kernel_rfl))⟩
  f47 := Try.func82.trans (congrArg some (by kernel_rfl))
  f48 := Try.func83.trans (congrArg some (by kernel_rfl))
  f49 := ⟨Try.f84.name, by decide, Try.func84.trans (congrArg some (by kernel_rfl))⟩
  f50 := ⟨Try.f85.name, by decide, Try.func85.trans (congrArg some (by kernel_rfl))⟩
  f57 := ⟨Try.f89.name, by decide, Try.func89.trans (congrArg some (by kernel_rfl))⟩
  t0 := Try.underlying0
  a0 := Try.isAgg0
  z0 := Try.sizeOf0
  v0 := Try.zeroValue0
  t3 := Try.underlying3
  a3 := Try.isAgg3
  z3 := Try.sizeOf3
  v3 := Try.zeroValue3
  t4 := Try.underlying4
  a4 := Try.isAgg4
  z4 := Try.sizeOf4
  v4 := Try.zeroValue4
  t5 := Try.underlying5
  a5 := Try.isAgg5
  z5 := Try.sizeOf5
  v5 := Try.zeroValue5
  t9 := Try.underlying9
  a9 := Try.isAgg9
  z9 := Try.sizeOf9
  v9 := Try.zeroValue9
  t22 := Try.underlying23
  a22 := Try.isAgg23
  z22 := Try.sizeOf23
  v22 := Try.zeroValue23
  t25 := Try.underlying57
  a25 := Try.isAgg57
  z25 := Try.sizeOf57
  v25 := Try.zeroValue57
  t39 := Try.underlying95
  a39 := Try.isAgg95
  z39 := Try.sizeOf95
  v39 := Try.zeroValue95
  t45 := Try.underlying98
  a45 := Try.isAgg98
  z45 := Try.sizeOf98
  v45 := Try.zeroValue98
  t46 := Try.underlying99
  a46 := Try.isAgg99
  z46 := Try.sizeOf99
  v46 := Try.zeroValue99
  t50 := Try.underlying103
  a50 := Try.isAgg103
  z50 := Try.sizeOf103
  v50 := Try.zeroValue103
  t53 := Try.underlying106
  a53 := Try.isAgg106
  z53 := Try.sizeOf106
  v53 := Try.zeroValue106
  t55 := Try.underlying42
  a55 := Try.isAgg42
  z55 := Try.sizeOf42
  v55 := Try.zeroValue42
  t66 := Try.underlying114
  a66 := Try.isAgg114
  z66 := Try.sizeOf114
  v66 := Try.zeroValue114
  t70 := Try.underlying118
  a70 := Try.isAgg118
  z70 := Try.sizeOf118
  v70 := Try.zeroValue118
  t76 := Try.underlying122
  a76 := Try.isAgg122
  z76 := Try.sizeOf122
  v76 := Try.zeroValue122
  t77 := Try.underlying123
  a77 := Try.isAgg123
  z77 := Try.sizeOf123
  v77 := Try.zeroValue123 }
end Go.Proofs.Ytekggbmajemmhaa.Sh
/- Apply: nodes sorted by their addresses (slices.SortFunc with Apply's comparison). Conditions: a slice of the call's own; at most 1000000. -/
namespace Go.Proofs.Ytekggbmajemmhaa.Gr
open Go.RowKit Go.Shelf Go.Maps Go.ChangeMaps Go.MapKept Go.Sort Go.Proofs.YtekggbmajemmhaaW.PrintWords Go.Proofs.YtekggbmajemmhaaW.PrintLast Go.Proofs.YtekggbmajemmhaaW.PrintMore
set_option linter.unusedSimpArgs false
set_option linter.unusedVariables false
theorem isnan_calls (x : Int) (w : World) : Calls Try.prog 41 #[.int .i64 x] w fun e w' => e = .returned (.bool false) ∧ w' = w := by
  go_enter Try.func41, Try.ntmps41
  go_wp2
  go_ret
  exact ⟨by simp, rfl⟩
theorem compare_calls (x y : Int) (w : World) : Calls Try.prog 23 #[.int .i64 x, .int .i64 y] w fun e w' => e = .returned (.int .i64 (Lib.compareInt x y)) ∧ w' = w := by
  go_enter Try.func23, Try.ntmps23
  go_wp2_with (go_at_call 41; refine (isnan_calls _ _).mono ?_; rintro e w' ⟨rfl, hw⟩; rw [hw])
  all_goals (go_ret; refine ⟨?_, rfl⟩; unfold Lib.compareInt; (repeat' split) <;> first | rfl | (exfalso; omega))
theorem closure_calls (x y : Nd) (W : World) : Calls Try.prog 22 #[.agg x.cells.toArray, .agg y.cells.toArray] W fun e w' => e = .returned (.int .i64 (Lib.compareInt x.adr y.adr)) ∧ ∃ q os', w' = grow (W.drewN q) os' := by
  have hcon := fun W' => compare_calls x.adr y.adr W'
  generalize Lib.compareInt x.adr y.adr = r at hcon ⊢
  show Calls Try.prog 22 #[.agg #[.int .i64 x.adr, .int .i64 x.refs, .int .i64 x.sl, .int .i64 x.words, .slice x.A x.m x.c, .slice x.B x.n x.d], .agg #[.int .i64 y.adr, .int .i64 y.refs, .int .i64 y.sl, .int .i64 y.words, .slice y.A y.m y.c, .slice y.B y.n y.d]] W _
  go_enter Try.func22, Try.ntmps22
  go_wp2_with (go_at_call 23; refine (hcon _).mono ?_; rintro e w' ⟨rfl, rfl⟩)
  go_ret
  exact ⟨rfl, 0, _, by rw [alloc_eq_grow, alloc_eq_grow, grow_grow]; rfl⟩
def cfN (x y : Nd) : Int := Lib.compareInt x.adr y.adr
theorem ltN (x y : Nd) : ltOf cfN x y = decide (x.adr < y.adr) := by
  unfold ltOf cfN Lib.compareInt
  by_cases h1 : x.adr < y.adr
  · simp [h1]
  · by_cases h2 : y.adr < x.adr <;> simp [h1, h2]
theorem swoN : SWO (ltOf cfN) where
  irrefl x := by rw [ltN]; simp
  trans x y z h1 h2 := by rw [ltN] at *; simp at *; omega
  ntrans x y z h1 h2 := by rw [ltN] at *; simp at *; omega
theorem flat_nds (L : List Nd) : (flatK Nd.cells 6 L.toArray).toList = nds L := by
  apply List.ext_getElem?
  intro t
  rw [Array.getElem?_toList]
  by_cases h : t < L.length * 6
  · have h0 : t < (flatK Nd.cells 6 L.toArray).size := by simpa using h
    rw [Array.getElem?_eq_getElem h0, ← getElem!_pos _ t h0, get_flatK _ _ _ _ (by simpa using h)]
    have hi : t / 6 < L.length := by omega
    have h2 := nds_at (L := L) hi (t % 6) (by omega)
    rw [show t / 6 * 6 + t % 6 = t by omega] at h2
    rw [h2]
    have e1 : L.toArray[t / 6]! = L.getD (t / 6) default := by
      rw [getElem!_pos L.toArray (t / 6) (by simpa using hi), List.getD_eq_getElem?_getD, List.getElem?_eq_getElem hi]
      simp
    rw [e1]
    have h6 : t % 6 < (L.getD (t / 6) default).cells.length := by show t % 6 < 6; omega
    rw [List.getElem?_eq_getElem h6, getElem!_pos (L.getD (t / 6) default).cells (t % 6) h6]
  · rw [Array.getElem?_eq_none (by simpa using Nat.le_of_not_lt h), List.getElem?_eq_none (by rw [nds_len]; omega)]
theorem heap_sortedF {w : World} {g n : Nat} {os : Array Obj} {cur : Array Value} {e : TypeId} {fr : Nat × Nat} (d : Array Value) (hb : w.heap[g]? = some (.cells cur e fr)) :
    (grow (putRow id (Sort.ahead w n) g 0 d) os).heap[g]? = some (.cells (putCells id 0 d cur) e fr) := by
  have hg : g < w.heap.size := (Array.getElem?_eq_some_iff.1 hb).1
  rw [heap_grow_old _ _ (by simpa using hg)]
  simp [putRow, mapBlock, Sort.ahead, Array.getElem?_modify, hb, onCells]
theorem grownBy_sortedF {w : World} {g n : Nat} {os : Array Obj} (d : Array Value) : w.grownBy (grow (putRow id (Sort.ahead w n) g 0 d) os) (some g) := by
  refine ⟨rfl, rfl, rfl, by simp, fun k hk hne => ?_⟩
  rw [heap_grow_old _ _ (by simpa using hk)]
  have : g ≠ k := fun e => hne (by rw [e])
  simp [putRow, mapBlock, Sort.ahead, Array.getElem?_modify, this]
theorem take_putCellsF (cur : Array Value) (ts : Array Value) (h : ts.size ≤ cur.size) : (putCells id 0 ts cur).toList.take ts.size = ts.toList := by
  apply List.ext_getElem?
  intro j
  by_cases hj : j < ts.size
  · rw [List.getElem?_take_of_lt hj, Array.getElem?_toList]
    simp [putCells, hj, show j < cur.size by omega]
  · rw [List.getElem?_take_eq_none (by omega), List.getElem?_eq_none (by simp; omega)]
/-- slices.SortFunc over nodes. -/
theorem sortN_calls (w : World) (X : Nat) (hX : X ≤ w.heap.size) (a : Option Addr) (n c : Nat) (L : List Nd) (h : w.ownsRow X 40 6 (.slice a n c) n (nds L)) (hn : n ≤ 1000000) :
    Calls Try.prog 39 #[.slice a n c, .func (.func 22) #[] #[]] w fun e W' => (∃ v, e = .returned v) ∧ ∃ L', L'.Perm L ∧ (L'.map Nd.adr).Pairwise (· ≤ ·) ∧ W'.ownsRow X 40 6 (.slice a n c) n (nds L') ∧ Below X w W' ∧ w.grownBy W' (Value.slice a n c).ownBlock := by
  have hl := row40_len h
  rcases h.2 with ⟨e, h0⟩ | ⟨g, cap, cur, e, hb, hg, h1, h2, h3, h4⟩
  · cases e
    obtain rfl : L = [] := List.length_eq_zero_iff.1 hl
    refine (AnyF.slices_SortFunc_none Sh.sortN none 0 (.func (.func 22) #[] #[]) w).mono ?_
    rintro e w' ⟨rfl, rfl⟩
    exact ⟨⟨_, rfl⟩, [], List.Perm.refl _, List.Pairwise.nil, World.ownsRow_nil _ _ _ _, Below.refl _ _, grown_refl _ _⟩
  · cases e
    subst hl
    have hgl := (Array.getElem?_eq_some_iff.1 hg).1
    have hH : HoldsK Nd.cells 6 w g 0 L.toArray := fun t ht => by
      have ht' : t < L.length * 6 := by simpa using ht
      refine ⟨?_, by simp [World.frozen?, hg]⟩
      have e1 : (cur.toList.take (L.length * 6))[t]? = (nds L)[t]? := by rw [h4]
      rw [List.getElem?_take_of_lt ht', Array.getElem?_toList, ← flat_nds L, Array.getElem?_toList] at e1
      rw [Nat.zero_add, blk_cell hg t, e1, Array.getElem?_eq_getElem ht, getElem!_pos _ t ht]
      rfl
    have eg : ∀ args w, (callFunc 22 args).run Try.prog w = .ok (.enter 22 args) w := enters_of Try.func22 (by kernel_rfl) rfl
    have hcon := AnyQ.slices_SortFunc Sh.sortN 6 Try.isAgg40 Try.sizeOf40 Nd.cells (fun _ => rfl) (fun x v hv => by simp at hv; rcases hv with rfl | rfl | rfl | rfl | rfl | rfl <;> rfl) cfN swoN 22 #[] g 0 c L.toArray w eg (fun _ _ _ _ x y => closure_calls x y _) hH hgl (by simp; omega)
    change Calls Try.prog 39 _ _ _ at hcon
    rw [List.size_toArray] at hcon
    refine hcon.mono ?_
    rintro e w' ⟨rfl, d', q, os, hp, hs, rfl⟩
    obtain ⟨hp1, _, hp2⟩ := hp
    have hsz : d'.size = L.length := by rw [hp1]; simp
    have hperm : d'.toList.Perm L := by
      have e1 : d'.extract 0 L.toArray.size = d' := by rw [← hp1]; simp
      have e2 : L.toArray.extract 0 L.toArray.size = L.toArray := by simp
      rw [List.size_toArray] at e1
      rw [e1] at hp2
      simpa using hp2
    have hgr := grownBy_sortedF (w := w) (g := g) (n := q) (os := os) (flatK Nd.cells 6 d')
    refine ⟨⟨_, rfl⟩, d'.toList, hperm, ?_, ?_, (Below.refl X w).grown hgr hX (fun k e => by cases e; exact hb), hgr⟩
    · rw [List.pairwise_map, List.pairwise_iff_getElem]
      intro i j hi hj hij
      have := hs i j (Nat.zero_le _) hij (by rw [← hsz]; simpa using hj)
      rw [ltN] at this
      rw [getElem!_pos d' j (by simpa using hj), getElem!_pos d' i (by simpa using hi)] at this
      simp at this
      simpa using this
    · refine ⟨by rw [nds_len]; simp [hsz], .inr ⟨g, c, _, rfl, hb, heap_sortedF _ hg, h1, h2, by simp [putCells, h3], ?_⟩⟩
      have hf := flat_nds d'.toList
      rw [Array.toArray_toList] at hf
      rw [← hf, ← hsz, ← size_flatK Nd.cells 6 d']
      exact take_putCellsF cur _ (by rw [size_flatK, hsz, h3]; exact Nat.mul_le_mul_right 6 h1)
end Go.Proofs.Ytekggbmajemmhaa.Gr
/- Apply: maps.Values, slices.AppendSeq, Collect, SortedFunc over nodes. Conditions: the map lies in memory; at most 1000000 entries. (The iterator's walk after the library's own, Derived.Shelf.SlIterI.Stops.) -/
namespace Go.Proofs.Ytekggbmajemmhaa.Gr
open Go.RowKit Go.Shelf Go.Maps Go.Sort Go.ChangeMaps Go.MapKept Go.Proofs.YtekggbmajemmhaaW.PrintWords Go.Proofs.YtekggbmajemmhaaW.PrintLast Go.Proofs.YtekggbmajemmhaaW.PrintMore
set_option linter.unusedSimpArgs false
set_option linter.unusedVariables false
attribute [local go_sem] Oper.semAt_some
theorem held_of {D : DataW Value} {M : List Nd} (hM : MA D M) {x : Int} {c : Value} (h : ∀ zd, D.atKey (key x) zd = .held c) : ∃ n, find M x = some n ∧ c = n.val := by
  cases hf : find M x with
  | none =>
    have h1 := h (.lit (.bool true))
    rw [hM.2, hf] at h1
    cases h1
  | some n =>
    have h1 := h (.lit (.bool true))
    rw [hM.2, hf] at h1
    exact ⟨n, rfl, (held_inj h1).symm⟩
set_option maxRecDepth 100000 in
set_option maxHeartbeats 2000000 in
theorem vals1_in (n : Nat) (hn : 1 ≤ n) (l Bm b nn : Nat) (D0 : DataW Value) (M : List Nd) (hMA : MA D0 M) (J Jx : List Nd → World → Prop)
    (hY : ∀ pre x W, J pre W → pre.length < Maps.size D0 → YieldAt Fence.wide (n - 1) Try.prog l #[x.val] W fun e W' =>
      (e = .returned (.bool true) ∧ J (pre ++ [x]) W' ∧ KeepsWalks W W') ∨ (e = .returned (.bool false) ∧ Jx (pre ++ [x]) W'))
    (W : World) (hJ : AbidesFrom W.heap.size J) (hm : W.cell? ⟨Bm, 0, none⟩ = some (.map (some b))) (hown : W.ownsMap Try.prog 3 nR b nn D0) (h0 : J [] W) :
    CallsIn Fence.wide n Try.prog 40 #[.func (.yield l) #[] #[], .pointer (some ⟨Bm, 0, none⟩)] W fun e W' => (∃ v, e = .returned v) ∧
      ((∃ ns : List Nd, ((∀ x, x ∈ ns.map Nd.adr ↔ (find M x).isSome = true) ∧ (∀ n ∈ ns, find M n.adr = some n) ∧ (ns.map Nd.adr).Nodup ∧ ns.length ≤ Maps.size D0) ∧ J ns W') ∨ (∃ pre : List Nd, True ∧ Jx pre W')) := by
  have HMA := Aside0.mk hMA
  clear hMA
  refine callsIn_of_wp Try.func40 rfl trivial ?_ rfl
  simp only [Try.ntmps40, List.size_toArray, List.length_cons, List.length_nil, Nat.reduceAdd, Nat.reduceSub, Array.replicate_succ, Array.replicate_zero, List.push_toArray, List.append_toArray, List.nil_append, List.cons_append]
  gi_wp2_with (first
    | (gi_at_range; refine wpListIn_range_own _ rfl _ 46 rfl 3 40 Di.keyed3 Try.underlying46 _ b nn _ rfl hown ?_; intro w0 hrg0 hg0 hs0)
    | gi_in)
  go_frame
  gi_loopw [4] (fun _ wr => ∃ (left : Lit → Bool) (cnt : Nat) (ns : List Nd), wr.ranges Try.prog 3 nR b W.heap.size nn D0 left cnt ∧ ns.length + cnt ≤ Maps.size D0 ∧ CollectedI D0 left (ns.map Nd.adr) ∧ Aside0 (∀ n ∈ ns, find M n.adr = some n) ∧ W.heap.size ≤ wr.heap.size ∧ J ns wr)
    (fun _ wr => wr.rangeLeft b W.heap.size)
  case atStart =>
    exact ⟨_, _, [], hrg0, by simp, CollectedI.start D0, Aside0.mk (fun n hn => by cases hn), hg0.size, hJ [] W w0 none h0 hg0 (fun r e => by cases e)⟩
  case round =>
    obtain ⟨left, cnt, ns, hrg, hcs, hC, HF, hsw, hJs⟩ := hrel
    gi_wp2_with (first
      | (gi_at_next; refine wpListIn_next_ranges _ rfl _ rfl 3 Di.keyed3 nR encZ id (fun key kl hk => by obtain ⟨x, hx, _⟩ := Maps.keyOf_i64 Try.underlying3 hk; exact ⟨x, hx⟩) (fun v _ _ => ⟨v, rfl⟩) b W.heap.size nn _ _ _ rfl hrg ?_ ?_)
      | gi_in)
    · intro hc0 hl0
      gi_wp2
      go_end0
      exact ⟨⟨_, rfl⟩, .inl ⟨ns, ⟨fun x => by rw [hC.2 x, hl0]; simp [← HMA.out.has x, key], HF.out, hC.1, by omega⟩, hJs⟩⟩
    · intro x c kl yd yp w2 cnt2 hkey hlk hv hat hrg2 hlt hg2 hs2 hen
      obtain ⟨x', ex, rfl, _⟩ := Maps.keyOf_i64 Try.underlying3 hkey
      obtain rfl : x = x' := encZ_inj ex
      have hyd : yd = .held c := by
        have h9 : nR (id c) = some (yd, yp) := hv
        unfold nR at h9
        have h10 := Option.some.inj h9
        exact (congrArg Prod.fst h10).symm
      obtain ⟨q, hq, rfl⟩ := held_of HMA.out (fun zd => (hat zd).trans hyd)
      have HQA := Aside0.mk (find_adr hq)
      have hJ2 : J ns w2 := hJ ns wr w2 (some W.heap.size) hJs hg2 (fun r e => by cases e; exact ⟨Nat.le_refl _, hrg.iter_walk⟩)
      have hJ3 : J ns (w2.alloc (.cells #[.int .i64 q.adr, .int .i64 q.refs, .int .i64 q.sl, .int .i64 q.words, .slice q.A q.m q.c, .slice q.B q.n q.d] 40)) := hJ ns w2 _ none hJ2 (World.grownBy_alloc _ _ _) (fun r e => by cases e)
      obtain ⟨fn, tmps, assign, body, hy, hR⟩ := hY ns q (w2.alloc (.cells #[.int .i64 q.adr, .int .i64 q.refs, .int .i64 q.sl, .int .i64 q.words, .slice q.A q.m q.c, .slice q.B q.n q.d] 40)) hJ3 (by omega)
      have hbb : w2.heap.size ≤ (w2.alloc (.cells #[.int .i64 q.adr, .int .i64 q.refs, .int .i64 q.sl, .int .i64 q.words, .slice q.A q.m q.c, .slice q.B q.n q.d] 40)).heap.size := by rw [World.size_alloc]; omega
      clear hs2
      dsimp only [Nd.val] at hy
      gi_wp2
      refine hR.mono ?_
      have hC2 := hC.step hlk hat
      have hsz2 := hg2.size
      have hrg3' := hrg2.of_walks (KeepsWalks.alloc w2 (.cells #[.int .i64 q.adr, .int .i64 q.refs, .int .i64 q.sl, .int .i64 q.words, .slice q.A q.m q.c, .slice q.B q.n q.d] 40))
      rintro e W3 (⟨rfl, hJ3, hk3⟩ | ⟨rfl, hJx3⟩)
      · gi_wp2
        have hrg3 := hrg3'.of_walks hk3
        go_roundw
        case rel => exact ⟨_, cnt2, ns ++ [q], hrg3, by simp; omega, by rw [List.map_append, List.map_cons, List.map_nil, HQA.out]; exact hC2, Aside0.mk (fun n hn => by
          rcases List.mem_append.1 hn with h | h
          · exact HF.out n h
          · rw [List.mem_singleton.1 h, HQA.out]; exact hq), by have := hk3.size; omega, hJ3⟩
        case measure => rw [hrg3.left_eq, hrg.left_eq]; exact hlt
      · gi_wp2
        refine bodyPost_ret (results_none rfl _ _ _) rfl ?_
        exact ⟨⟨_, rfl⟩, .inr ⟨_, trivial, hJx3⟩⟩
theorem vals_stops (n : Nat) (hn : 1 ≤ n) (Bm b nn : Nat) (D0 : DataW Value) (M : List Nd) (hMA : MA D0 M) (w : World) (hBm : w.heap[Bm]? = some (.cells #[.map (some b)] 46 (0, 0))) (hown : w.ownsMap Try.prog 3 nR b nn D0) :
    SeqStopsK Fence.wide n Try.prog 40 #[.pointer (some ⟨Bm, 0, none⟩)] (fun x : Nd => #[x.val]) KeepsWalks (fun ns => (∀ x, x ∈ ns.map Nd.adr ↔ (find M x).isSome = true) ∧ (∀ n ∈ ns, find M n.adr = some n) ∧ (ns.map Nd.adr).Nodup ∧ ns.length ≤ Maps.size D0) (fun _ => True) (Maps.size D0) w := fun l J Jx W hW hJ _ hY h0 =>
  vals1_in n hn l Bm b nn D0 M hMA J Jx hY W hJ ((blk_cell (blk_below hBm hW) 0).trans rfl) (owns_below hown hW) h0
theorem vals_calls (W : World) (b : Option Nat) : Calls Try.prog 21 #[.map b] W fun e W' => ∃ g, e = .returned (.func (.func 40) #[] #[.pointer (some ⟨g, 0, none⟩)]) ∧ W'.heap[g]? = some (.cells #[.map b] 46 (0, 0)) ∧ W.heap.size ≤ g ∧ Below W.heap.size W W' := by
  go_enter Try.func21, Try.ntmps21
  go_wp2
  go_ret
  exact ⟨_, rfl, blk_new W _, Nat.le_refl _, below_alloc (Below.refl _ _) _⟩
set_option maxRecDepth 100000 in
set_option maxHeartbeats 8000000 in
/-- slices.AppendSeq over a map's values, onto nothing. -/
theorem appvals_calls (w : World) (g9 mb nn : Nat) (D0 : DataW Value) (M : List Nd) (hMA : MA D0 M) (hg : w.heap[g9]? = some (.cells #[.map (some mb)] 46 (0, 0))) (hm : w.ownsMap Try.prog 3 nR mb nn D0) (hsz : Maps.size D0 ≤ 1000000) :
    Calls Try.prog 56 #[.slice none 0 0, .func (.func 40) #[] #[.pointer (some ⟨g9, 0, none⟩)]] w fun e W' => ∃ (v : Value) (ns : List Nd), e = .returned v ∧ ((∀ x, x ∈ ns.map Nd.adr ↔ (find M x).isSome = true) ∧ (∀ n ∈ ns, find M n.adr = some n) ∧ (ns.map Nd.adr).Nodup ∧ ns.length ≤ Maps.size D0) ∧ W'.ownsRow w.heap.size 40 6 v ns.length (nds ns) ∧ Below w.heap.size w W' := by
  obtain ⟨i0, hi, hz0, hz1, hz2⟩ := info_parts info40
  refine (callsIn_wide (n := 20)).1 ?_
  refine callsIn_of_wp_marks Try.func56 rfl trivial ?_ rfl
  simp only [Try.ntmps56, List.size_toArray, List.length_cons, List.length_nil, Nat.reduceAdd, Nat.reduceSub, Array.replicate_succ, Array.replicate_zero, List.push_toArray, List.append_toArray, List.nil_append, List.cons_append]
  gi_wp2
  have bO := Boxed.new w 23 (.slice none 0 0)
  have hB0 : Below w.heap.size w (w.alloc (.cells #[.slice none 0 0] 23)) := below_alloc (Below.refl _ w) _
  refine wpIn_rangeFunc_ownH rfl (by decide) (gf := 40) (lb := #[.pointer (some ⟨g9, 0, none⟩)]) rfl trivial (enters_of Try.func40 (by kernel_rfl) rfl)
    (vals_stops 19 (by decide) g9 mb nn D0 M hMA _ (blk_alloc hg _) (hm.alloc _)) walksK_t (walksK_b (w := w.alloc (.cells #[.slice none 0 0] 23))) (Below.refl _ _) (fun _ => rfl)
    (fun pre W => (∃ v, Boxed W w.heap.size 23 v ∧ W.ownsRow w.heap.size 40 6 v pre.length (nds pre) ∧ True) ∧ Below w.heap.size w W)
    (fun _ _ _ => False)
    (OwnFrom.and (Own.from (holdsRow_own w.heap.size w.heap.size 23 40 6 (fun pre : List Nd => pre.length) (fun pre => nds pre) (fun pre v => True)) _) (ownFrom_below (Nat.le_refl _) (by simp)))
    (fun _ _ _ _ _ hs _ _ => hs.elim)
    ⟨⟨_, bO, (World.ownsRow_nil w _ _ _).alloc _, trivial⟩, hB0⟩
    (fun x a' W => ∃ Bx, (w.alloc (.cells #[.slice none 0 0] 23)).heap.size ≤ Bx ∧ W.heap[Bx]? = some (.cells #[.int .i64 x.adr, .int .i64 x.refs, .int .i64 x.sl, .int .i64 x.words, .slice x.A x.m x.c, .slice x.B x.n x.d] 40 (0, 0)) ∧ a' = { tmps := #[.slice none 0 0, .func (.func 40) #[] #[.pointer (some ⟨g9, 0, none⟩)], .pointer (some ⟨w.heap.size, 0, none⟩), undef, .slice none 0 0, .pointer (some ⟨Bx, 0, none⟩), .func (.func 40) #[] #[.pointer (some ⟨g9, 0, none⟩)], .agg #[.int .i64 x.adr, .int .i64 x.refs, .int .i64 x.sl, .int .i64 x.words, .slice x.A x.m x.c, .slice x.B x.n x.d], undef, undef, undef, undef, undef], defers := [] }) ?hAx ?assign ?body ?done ?stop
  case hAx =>
    rintro x a' s W W' row ⟨Bx, h1, h2, h3⟩ hg hr
    refine ⟨Bx, h1, (hg.block _ (blk_lt h2) (fun e => ?_)).trans h2, h3⟩
    obtain ⟨_, o, ho, hc⟩ := hr Bx e.symm
    rw [h2] at ho
    cases ho
    cases hc
  case assign =>
    rintro l pre x W K ⟨⟨v, hv, hrow, _⟩, hB⟩ hK
    have hs := hB.size
    have hbl : w.heap.size < W.heap.size := blk_lt hv
    gi_wp2
    exact hK _ _ ((KeepsOthers.alloc _ _).from _) (KeepsWalks.alloc _ _) ⟨⟨v, hv.alloc _, hrow.alloc _, trivial⟩, hB.alloc (by omega) _⟩ ⟨W.heap.size, by simp; omega, blk_new W _, rfl⟩
  case body =>
    rintro l pre x a' W hl ⟨r, hr⟩ ⟨⟨v, hv, hrow, _⟩, hB⟩ ⟨Bx, hB1, hB2, rfl⟩ hlt
    have hc := hv.cell
    have hs := hB.size
    have hz0 : W.cell? ⟨Bx, 0, none⟩ = some ((.int .i64 x.adr)) := (blk_cell hB2 0).trans rfl
    have hz1 : W.cell? ⟨Bx, 1, none⟩ = some ((.int .i64 x.refs)) := (blk_cell hB2 1).trans rfl
    have hz2 : W.cell? ⟨Bx, 2, none⟩ = some ((.int .i64 x.sl)) := (blk_cell hB2 2).trans rfl
    have hz3 : W.cell? ⟨Bx, 3, none⟩ = some ((.int .i64 x.words)) := (blk_cell hB2 3).trans rfl
    have hz4 : W.cell? ⟨Bx, 4, none⟩ = some ((.slice x.A x.m x.c)) := (blk_cell hB2 4).trans rfl
    have hz5 : W.cell? ⟨Bx, 5, none⟩ = some ((.slice x.B x.n x.d)) := (blk_cell hB2 5).trans rfl
    have hln : pre.length ≤ 1000000 := by omega
    obtain ⟨q, hq⟩ : ∃ q, q = pre.length := ⟨_, rfl⟩
    rw [← hq] at hrow hln
    have HQ := Aside0.mk hq
    clear hq
    gi_wp2_with (gi_at_builtin; refine wpListIn_append_own_at _ rfl _ _ 23 rfl w.heap.size 40 i0 (.agg #[.int .i64 0, .int .i64 0, .int .i64 0, .int .i64 0, .slice none 0 0, .slice none 0 0]) 6 80 Try.underlying23 hi (by assumption) (by assumption) (by assumption) rfl (by decide) _ _ _ rfl (hrow.alloc _) ⟨W.heap.size, 0, none⟩ 1 1 x.cells rfl rfl (nd_cells (blk_new W _)) (by intro u hu; simp at hu; rcases hu with rfl | rfl | rfl | rfl | rfl | rfl <;> rfl) (by unfold maxLen; omega) (by omega) (by simp; omega) ?_; intro v' w1 hown' hgrow _ hat; obtain ⟨g', cap', rfl⟩ := ownsRow_succ hown'; obtain ⟨hv1, hv2, hr2, hk2, hb2⟩ := hv.appended (by decide) hrow (by omega) (Nat.le_refl _) hown' hgrow; have hc1 := hv1.cell; have hf1 := hv1.frozen)
    exact ⟨hk2.from _, walks_of hk2, ⟨_, hv2, by rw [List.length_append, nds_snoc, ← HQ.out]; exact hr2, trivial⟩, hB.trans hb2⟩
  case done =>
    rintro D ys W hD hS ⟨⟨v, hv, hrow, _⟩, hB⟩ hK
    have hc := hv.cell
    have HS := Aside0.mk hS
    have HROW := Aside0.mk hrow
    have HBB := Aside0.mk hB
    clear hS hrow hB
    gi_wp2
    refine ⟨by simp, .inl ⟨_, _, rfl, run_takeDeferred hK, ?_⟩⟩
    exact ⟨_, results_tmp rfl _ _ _, v, ys, rfl, HS.out, ownsRow_putObj HROW.out _ hK rfl, HBB.out.trans (belowK_b (w := w) (Nat.le_refl _) W D _ _ (by simp at hD; omega) hK rfl rfl)⟩
  case stop =>
    rintro D c pre W _ _ h _
    exact h.elim
theorem collectN_calls (w : World) (g9 mb nn : Nat) (D0 : DataW Value) (M : List Nd) (hMA : MA D0 M) (hg : w.heap[g9]? = some (.cells #[.map (some mb)] 46 (0, 0))) (hm : w.ownsMap Try.prog 3 nR mb nn D0) (hsz : Maps.size D0 ≤ 1000000) :
    Calls Try.prog 38 #[.func (.func 40) #[] #[.pointer (some ⟨g9, 0, none⟩)]] w fun e W' => ∃ (v : Value) (ns : List Nd), e = .returned v ∧ ((∀ x, x ∈ ns.map Nd.adr ↔ (find M x).isSome = true) ∧ (∀ n ∈ ns, find M n.adr = some n) ∧ (ns.map Nd.adr).Nodup ∧ ns.length ≤ Maps.size D0) ∧ W'.ownsRow w.heap.size 40 6 v ns.length (nds ns) ∧ Below w.heap.size w W' := by
  go_enter Try.func38, Try.ntmps38
  go_wp2_with (go_at_call 56; refine (appvals_calls _ g9 mb nn D0 M hMA hg hm hsz).mono ?_; rintro e w' ⟨v, ns, rfl, h1, h2, h3⟩; have H1 := Aside0.mk h1; have H2 := Aside0.mk h2; have H3 := Aside0.mk h3; clear h1 h2 h3)
  go_ret
  exact ⟨v, ns, rfl, H1.out, H2.out, H3.out⟩
theorem nodes_same {M ns L : List Nd} (hR : Rise (adrs M)) (hS : (∀ x, x ∈ ns.map Nd.adr ↔ (find M x).isSome = true) ∧ (∀ n ∈ ns, find M n.adr = some n) ∧ (ns.map Nd.adr).Nodup) (hp : L.Perm ns) (hs : (L.map Nd.adr).Pairwise (· ≤ ·)) : L = M := by
  have hmem : ∀ n, n ∈ L ↔ n ∈ M := fun n => by
    rw [hp.mem_iff]
    constructor
    · intro h
      exact find_mem (hS.2.1 n h)
    · intro h
      obtain ⟨i, hi⟩ := List.mem_iff_getElem?.1 h
      have hK : (adrs M)[i]? = some n.adr := by rw [List.getElem?_map, hi]; rfl
      have hf : find M n.adr = some n := by rw [find_idx, idx_rise hR hK]; exact hi
      have h1 := (hS.1 n.adr).2 (by rw [hf]; rfl)
      obtain ⟨m, hm, e⟩ := List.mem_map.1 h1
      have := hS.2.1 m hm
      rw [e, hf] at this
      cases this
      exact hm
  have hnd : (L.map Nd.adr).Nodup := (hp.map Nd.adr).nodup_iff.2 hS.2.2
  have hrise : Rise (adrs L) := by
    unfold Rise adrs
    exact (hs.and hnd).imp fun h => by have h1 := h.1; have h2 := h.2; omega
  exact rise_same hR hrise hmem
/-- slices.SortedFunc over a map's nodes: they are the map's, rising. -/
theorem sortedN_calls (w : World) (b nn : Nat) (hnn : nn ≤ 1000000) (M : List Nd) (HM : Aside0 (DM w b nn M)) (g9 : Nat) (hg : w.heap[g9]? = some (.cells #[.map (some b)] 46 (0, 0))) :
    Calls Try.prog 20 #[.func (.func 40) #[] #[.pointer (some ⟨g9, 0, none⟩)], .func (.func 22) #[] #[]] w fun e W' => ∃ a c, e = .returned (.slice a M.length c) ∧ W'.ownsRow w.heap.size 40 6 (.slice a M.length c) M.length (nds M) ∧ Below w.heap.size w W' := by
  obtain ⟨D, hown, hMA⟩ := HM.out.own
  have hMA' := hMA
  have hR := HM.out.rise
  have HR := Aside0.mk hR
  have hsz : Maps.size D ≤ 1000000 := Nat.le_trans hown.size_le hnn
  have HOWN := Aside0.mk hown
  have HMA := Aside0.mk hMA
  clear hown hMA hMA' hR
  go_enter Try.func20, Try.ntmps20
  go_upto_region 2 with (go_at_call 38; refine (collectN_calls _ g9 b nn D M HMA.out hg HOWN.out hsz).mono ?_; rintro e w3 ⟨v, ns, rfl, h1, h2, h3⟩; obtain ⟨a0, c0, rfl⟩ := row40_slice h2; have H1 := Aside0.mk h1; have H2 := Aside0.mk h2; have H3 := Aside0.mk h3; clear h1 h2 h3)
  have hns : ns.length ≤ 1000000 := Nat.le_trans H1.out.2.2.2 hsz
  have hsz3 := H3.out.size
  go_wp2_with (go_at_call 39; refine (sortN_calls _ w.heap.size hsz3 a0 ns.length c0 ns H2.out hns).mono ?_; rintro e w4 ⟨⟨v4, rfl⟩, L, hp, hs, ho, hb, _⟩; have H4 := Aside0.mk (nodes_same HR.out ⟨H1.out.1, H1.out.2.1, H1.out.2.2.1⟩ hp hs); have H5 := Aside0.mk ho; have H6 := Aside0.mk (H3.out.trans hb); have H7 := Aside0.mk hp.length_eq; clear hp hs ho hb)
  go_ret
  obtain rfl := H4.out
  have hl := H7.out
  have h5 := H5.out
  rw [← hl] at h5
  refine ⟨a0, c0, ?_, h5, H6.out⟩
  rw [hl]
  rfl
end Go.Proofs.Ytekggbmajemmhaa.Gr
/- Apply. Conditions: the graph and the changes lie in memory and are small. -/
namespace Go.Proofs.Ytekggbmajemmhaa.Gr
open Go.RowKit Go.Shelf Go.Maps Go.ChangeMaps Go.MapKept Go.Proofs.YtekggbmajemmhaaW.PrintWords Go.Proofs.YtekggbmajemmhaaW.PrintLast Go.Proofs.YtekggbmajemmhaaW.PrintMore
set_option linter.unusedSimpArgs false
set_option linter.unusedVariables false
/-- A list of changes that lies in memory ahead of block B. -/
def CM (W : World) (B : Nat) (a : Option Addr) (len : Nat) (l : List Ch) : Prop := l.length = len ∧ ∀ i, i < len → ∃ y, a = some y ∧ y.block < B ∧
  W.cell? ((y.add (i * 5)).add 0) = some (.int .i64 (l.getD i default).k) ∧ W.cell? ((y.add (i * 5)).add 1) = some (.int .i64 (l.getD i default).a) ∧ W.cell? ((y.add (i * 5)).add 2) = some (.int .i64 (l.getD i default).i) ∧ W.cell? ((y.add (i * 5)).add 3) = some (.int .u64 (l.getD i default).was) ∧ W.cell? ((y.add (i * 5)).add 4) = some (.int .u64 (l.getD i default).is)
theorem CM.kept {W W' : World} {B : Nat} {a : Option Addr} {len : Nat} {l : List Ch} (h : CM W B a len l) (hb : ∀ k, k < B → W'.heap[k]? = W.heap[k]?) : CM W' B a len l := ⟨h.1, fun i hi => by
  obtain ⟨y, h1, h2, h3, h4, h5, h6, h7⟩ := h.2 i hi
  have hk : ∀ j, W'.cell? ((y.add (i * 5)).add j) = W.cell? ((y.add (i * 5)).add j) := fun j => World.cell?_of_block (hb _ (by rw [add_block, add_block]; exact h2))
  exact ⟨y, h1, h2, (hk 0).trans h3, (hk 1).trans h4, (hk 2).trans h5, (hk 3).trans h6, (hk 4).trans h7⟩⟩
/-- Their numbers are numbers of their kinds. -/
def CW (l : List Ch) : Prop := ∀ c ∈ l, (Lit.int .i64 c.a).wf = true ∧ (Lit.int .u64 c.is).wf = true
/-- A graph, or none. -/
def ApOut (r : Option (List Int × List Pn)) (W : World) (e : Ending) (W' : World) : Prop := ∃ (rA : Option Addr) (rl rc : Nat) (nA : Option Addr) (nl nc : Nat) (R : List Int) (M : List Nd) (ok : Bool), e = .returned (.tuple #[.agg #[.slice rA rl rc, .slice nA nl nc], .bool ok]) ∧
  ((r = none ∧ ok = false ∧ R = [] ∧ M = []) ∨ (r = some (R, M.map Nd.pn) ∧ ok = true)) ∧ IL .i64 W' W'.heap.size rA rl R ∧ NL W' W'.heap.size nA nl M ∧ (∀ n ∈ M, DL W' W'.heap.size n) ∧ Below W.heap.size W W'
theorem IL_nil (k : IntKind) (W : World) : IL k W W.heap.size none 0 [] := ⟨rfl, fun i hi => absurd hi (Nat.not_lt_zero i)⟩
theorem NL_nil (W : World) (B : Nat) : NL W B none 0 [] := ⟨rfl, fun i hi => absurd hi (Nat.not_lt_zero i)⟩
theorem NL_of_row {W : World} {X n c : Nat} {a : Option Addr} {M : List Nd} (h : W.ownsRow X 40 6 (.slice a n c) n (nds M)) : NL W W.heap.size a n M := by
  refine ⟨row40_len h, fun i hi => ?_⟩
  obtain ⟨y, e, _, h0, h1, h2, h3, h4, h5⟩ := row40_six h hi
  have hlt : (y.add (i * 6)).block < W.heap.size := cell_lt h0
  rw [add_block] at hlt
  have e0 : ((y.add (i * 6)).add 0) = y.add (i * 6) := add_zero _
  exact ⟨y, e, hlt, by rw [e0]; exact h0, h1, h2, h3, h4, h5⟩
theorem ch_take {l : List Ch} {i : Nat} (h : i < l.length) : l.take (i + 1) = l.take i ++ [l.getD i default] := by
  rw [List.take_add_one, List.getD_eq_getElem?_getD, List.getElem?_eq_getElem h]
  rfl
theorem applyAll_app (l m : List Ch) : ∀ s, applyAll s (l ++ m) = (applyAll s l).bind fun s => applyAll s m := by
  induction l with
  | nil => intro s; rfl
  | cons c l ih =>
    intro s
    simp only [List.cons_append, applyAll]
    cases applyP s c with
    | none => rfl
    | some t => exact ih t
theorem applyAll_dead {s : List Int × List Pn} {l : List Ch} {i : Nat} (h : applyAll s (l.take i) = none) : applyAll s l = none := by
  have e : l = l.take i ++ l.drop i := (List.take_append_drop i l).symm
  rw [e, applyAll_app, h]
  rfl
theorem below_but {w w1 w2 : World} {b : Nat} (h : Below w.heap.size w w1) (g : w1.grownBy w2 (some b)) (hb : w.heap.size ≤ b) : Below w.heap.size w w2 := ⟨g.os.trans h.os, g.tape.trans h.tape, g.output.trans h.output, Nat.le_trans h.size g.size, fun k hk => (g.block k (Nat.lt_of_lt_of_le hk h.size) (fun e => by have h7 : k = b := Option.some.inj e; omega)).trans (h.block k hk)⟩
theorem DM_block {W : World} {b nn : Nat} {M : List Nd} (h : DM W b nn M) : ∃ es cl, W.heap[b]? = some (.map es cl) := by
  obtain ⟨D, ⟨es, cl, hb, _⟩, _⟩ := h.own
  exact ⟨es, cl, hb⟩
theorem IL_not {k : IntKind} {W : World} {g : Nat} {a : Option Addr} {n : Nat} {l : List Int} {a1 a2 : Option Addr} {n1 c1 n2 c2 : Nat} {t : TypeId} (h : IL k W W.heap.size a n l) (hb : W.heap[g]? = some (.cells #[.slice a1 n1 c1, .slice a2 n2 c2] t (0, 0))) : ∀ i, i < n → ∀ y, a = some y → y.block ≠ g := by
  intro i hi y e e2
  obtain ⟨y', e', _, hc⟩ := h.2 i hi
  rw [e] at e'
  cases e'
  have hblk : (y.add i).block = g := by rw [add_block]; exact e2
  unfold World.cell? at hc
  rw [hblk, hb] at hc
  simp only at hc
  split at hc
  · cases hc
  · generalize (y.add i).off = o at hc
    rcases o with _ | _ | o
    · cases hc
    · cases hc
    · simp at hc
theorem IL_far0 {k : IntKind} {W : World} {g j : Nat} {u : Value} {a : Option Addr} {n : Nat} {l : List Int} (h : IL k W W.heap.size a n l) (hg : ∀ i, i < n → ∀ y, a = some y → y.block ≠ g) : IL k (W.setCell ⟨g, j, none⟩ u) (W.setCell ⟨g, j, none⟩ u).heap.size a n l := by
  refine ⟨h.1, fun i hi => ?_⟩
  obtain ⟨y, e, hy, hc⟩ := h.2 i hi
  have hne := hg i hi y e
  exact ⟨y, e, by simpa [World.setCell] using hy, (World.cell?_of_block (Below.heap_setCell W ⟨g, j, none⟩ u _ (by rw [add_block]; exact hne))).trans hc⟩
theorem IL_fin {k : IntKind} {W : World} {g : Nat} {a : Option Addr} {n : Nat} {l : List Int} {a1 a2 : Option Addr} {n1 c1 n2 c2 : Nat} (h : IL k W W.heap.size a n l) (hb : W.heap[g]? = some (.cells #[.slice none 0 0, .slice none 0 0] 25 (0, 0))) : IL k ((W.setCell ⟨g, 0, none⟩ (.slice a1 n1 c1)).setCell ⟨g, 1, none⟩ (.slice a2 n2 c2)) ((W.setCell ⟨g, 0, none⟩ (.slice a1 n1 c1)).setCell ⟨g, 1, none⟩ (.slice a2 n2 c2)).heap.size a n l := by
  have h1 := IL_far0 (j := 0) (u := .slice a1 n1 c1) h (IL_not h hb)
  exact IL_far0 h1 (IL_not h1 (blk_put (cs' := #[.slice a1 n1 c1, .slice none 0 0]) hb 0 _ rfl))
theorem applyP_root {R : List Int} {M : List Pn} {ci cw cs : Int} : applyP (R, M) (⟨4, 0, ci, cw, cs⟩ : Ch) = (chgS R ⟨4, 0, ci, cw, cs⟩).map fun R => (R, M) := if_pos ⟨rfl, rfl⟩
theorem applyP_node {R : List Int} {M : List Pn} {c : Ch} (h : ¬ (c.k = 4 ∧ c.a = 0)) : applyP (R, M) c = (stepP M c).map fun M => (R, M) := if_neg h
set_option maxHeartbeats 16000000 in
set_option maxRecDepth 100000 in
theorem dapplyB_calls (W : World) (B : Nat) (hB : B ≤ W.heap.size) (g : Gd) (hsm : Small g) (HG : Aside0 (GM W B g)) (a : Option Addr) (len c : Nat) (l : List Ch) (HC : Aside0 (CM W B a len l)) (HW : Aside0 (CW l)) (hlen : len ≤ 100000) : Calls Try.prog 9 #[.agg #[.slice g.rA g.rl g.rc, .slice g.nA g.nl g.nc], .slice a len c] W fun e W' => ApOut (applyAll (g.R, (sorted g.NS (walkR g.NS g.R)).map Nd.pn) l) W e W' := by
  have HB := Aside0.mk (Below.refl W.heap.size W)
  have hr40 := hsm.r40
  have hll : l.length = len := HC.out.1
  go_enter Try.func9, Try.ntmps9
  go_upto_region 1 with (first | ((with_reducible refine gate_dst (N := 2) rfl ?_); refine box_event ?hg (N := 2) ?hd (cs := #[.slice g.rA g.rl g.rc, .slice g.nA g.nl g.nc]) (t := 25) ?hr ?_; (case hd => rfl); (case hg => rfl); (case hr => first | (go_simp; done) | (go_simp; rfl)); intro g2 hg w1_ hbox hb; have n0_ := Aside0.mk (below_step (by repeat (first | (with_reducible first | exact HB.out | apply below_alloc | apply pw_below_drewN | apply below_drew1) | exact HB.out)) hb); have n1_ := Aside0.mk hbox; have n2_ := Aside0.mk ((by rw [hg]; exact (below_size (by repeat (first | (with_reducible first | exact HB.out | apply below_alloc | apply pw_below_drewN | apply below_drew1) | exact HB.out)))) : W.heap.size ≤ g2); clear HB; have HB := n0_; have BK2 := n1_; have GE2 := n2_; clear n0_ n1_ n2_; clear hb hbox hg) | ((with_reducible refine gate_dst (N := 4) rfl ?_); refine box_event ?hg (N := 4) ?hd (cs := #[.slice none 0 0, .slice none 0 0]) (t := 25) ?hr ?_; (case hd => rfl); (case hg => rfl); (case hr => first | (go_simp; done) | (go_simp; rfl)); intro g4 hg w2_ hbox hb; have n0_ := Aside0.mk (below_step (by repeat (first | (with_reducible first | exact HB.out | apply below_alloc | apply pw_below_drewN | apply below_drew1 | refine below_set ?_ GE2.out) | exact HB.out)) hb); have n1_ := Aside0.mk (blk_below (g := g2) (o := .cells #[.slice g.rA g.rl g.rc, .slice g.nA g.nl g.nc] 25 (0, 0)) (by (with_reducible repeat (first | refine blk_drewN ?_ _ | refine blk_drew ?_ | refine blk_alloc ?_ _)); exact BK2.out) hb); have n2_ := Aside0.mk hbox; have n3_ := Aside0.mk ((by rw [hg]; exact (below_size (by repeat (first | (with_reducible first | exact HB.out | apply below_alloc | apply pw_below_drewN | apply below_drew1 | refine below_set ?_ GE2.out) | exact HB.out)))) : W.heap.size ≤ g4); have n4_ := Aside0.mk ((by rw [hg]; exact Nat.ne_of_lt (blk_lt (g := g2) (o := .cells #[.slice g.rA g.rl g.rc, .slice g.nA g.nl g.nc] 25 (0, 0)) (by (with_reducible repeat (first | refine blk_drewN ?_ _ | refine blk_drew ?_ | refine blk_alloc ?_ _)); exact BK2.out))) : g2 ≠ g4); clear HB; clear BK2; have HB := n0_; have BK2 := n1_; have BK4 := n2_; have GE4 := n3_; have NE2_4 := n4_; clear n0_ n1_ n2_ n3_ n4_; clear hb hbox hg))
  have hc2_0 : w2_.cell? ⟨g2, 0, none⟩ = some (.slice g.rA g.rl g.rc) := (blk_cell BK2.out 0).trans rfl
  have hc2_1 : w2_.cell? ⟨g2, 1, none⟩ = some (.slice g.nA g.nl g.nc) := (blk_cell BK2.out 1).trans rfl
  go_upto_region 2 with (go_at_call 16; refine (dnodes_calls _ g B (Nat.le_trans hB HB.out.size) (Aside0.mk (HG.out.kept fun k hk => HB.out.block k (by omega))) hsm).mono ?_; rintro e w3 ⟨mb, rfl, hmo, hmb, hb3⟩; have HMO := Aside0.mk hmo; have HB3 := Aside0.mk (below_step HB.out hb3); have HMB := Aside0.mk (Nat.le_trans HB.out.size hmb); have BK23 := Aside0.mk (blk_below BK2.out hb3); have BK43 := Aside0.mk (blk_below BK4.out hb3); clear hmo hmb hb3; have hd2_0 : w3.cell? ⟨g2, 0, none⟩ = some (.slice g.rA g.rl g.rc) := (blk_cell BK23.out 0).trans rfl)
  clear hc2_0 hc2_1
  go_upto_region 3 with (go_at_call 17; refine (clone17_calls _ g.rA g.rl g.rc g.R (Aside0.mk ((HG.out.rts.kept fun k hk => HB3.out.block k (by omega)).up (Nat.le_trans hB HB3.out.size))) (by omega)).mono ?_; rintro e w4 ⟨v4, rfl, hr4, hb4⟩; obtain ⟨a4, c4, rfl, hil4⟩ := IL_of_row hr4; have HT4 := Aside0.mk hil4; have HB4 := Aside0.mk (below_step HB3.out hb4); have HMO4 := Aside0.mk (owns_below HMO.out hb4); have BK44 := Aside0.mk (blk_below BK43.out hb4); clear hr4 hil4 hb4)
  have HD := Aside0.mk (show DM w4 mb (40 + 0) (sorted g.NS (walkR g.NS g.R)) from ⟨⟨_, HMO4.out, MA_sorted⟩, fun n hn => by
    have h1 := HG.out.sub n ((sorted_walk g.NS g.R).mem n hn)
    have h2 := h1.kept (fun k hk => HB4.out.block k (by omega))
    exact ⟨h2.1.up (Nat.le_trans hB HB4.out.size), h2.2.up (Nat.le_trans hB HB4.out.size)⟩, fun n hn => HG.out.ok n ((sorted_walk g.NS g.R).mem n hn), (sorted_walk g.NS g.R).rise, fun n hn => hsm.sz n ((sorted_walk g.NS g.R).mem n hn)⟩)
  have NEM := Aside0.mk (show g4 ≠ mb from fun e => by
    obtain ⟨es, cl, hb⟩ := DM_block HD.out
    rw [← e, BK44.out] at hb
    cases hb)
  clear HB BK2 BK4 HMO HB3 BK23 BK43 HMO4 hd2_0
  have HB := HB4
  have BK4 := BK44
  have HT := HT4
  clear HB4 BK44 HT4
  go_upto_region 4 with fail
  go_loopw [7, 19] (fun vt v wr => ∃ (i : Nat) (ta : Option Addr) (tn tc : Nat) (R : List Int) (M : List Nd), i ≤ len ∧ v = .int .i64 (i : Int) ∧ vt = .slice ta tn tc ∧ Aside0 (IL .i64 wr wr.heap.size ta tn R) ∧ tn ≤ 40 ∧ Aside0 (DM wr mb (40 + i) M) ∧ Aside0 (applyAll (g.R, (sorted g.NS (walkR g.NS g.R)).map Nd.pn) (l.take i) = some (R, M.map Nd.pn)) ∧ Aside0 (Below W.heap.size W wr) ∧ Aside0 (wr.heap[g4]? = some (.cells #[.slice none 0 0, .slice none 0 0] 25 (0, 0)))) (fun _ v _ => len - (intOf v).toNat)
  case atStart => exact ⟨0, a4, g.rl, c4, g.R, _, by omega, rfl, rfl, HT, hr40, HD, Aside0.mk rfl, HB, BK4⟩
  case round =>
    clear HB BK4 HT HD
    obtain ⟨i, ta, tn, tc, R, M, hi_, rfl, rfl, HT, htn, HD, HAP, HB, BK4⟩ := hrel
    by_cases hgo : i < len
    · have hd : decide ((i : Int) < (len : Int)) = true := decide_eq_true (by omega)
      obtain ⟨y, ey, hyb, hz0, hz1, hz2, hz3, hz4⟩ := (HC.out.kept fun k hk => HB.out.block k (by omega)).2 i hgo
      subst ey
      obtain ⟨ch, hch⟩ : ∃ x, x = l.getD i default := ⟨_, rfl⟩
      rw [← hch] at hz0 hz1 hz2 hz3 hz4
      have hcm : ch ∈ l := by rw [hch, List.getD_eq_getElem?_getD, List.getElem?_eq_getElem (show i < l.length by omega)]; exact List.getElem_mem _
      have HNX := Aside0.mk (show applyAll (g.R, (sorted g.NS (walkR g.NS g.R)).map Nd.pn) (l.take (i + 1)) = applyP (R, M.map Nd.pn) ch by rw [ch_take (show i < l.length by omega), applyAll_snoc, HAP.out, hch]; rfl)
      have HFA := Aside0.mk (fun (h : applyP (R, M.map Nd.pn) ch = none) => applyAll_dead (i := i + 1) (by rw [HNX.out]; exact h))
      obtain ⟨hwa, hws⟩ := HW.out ch hcm
      clear hch hcm
      obtain ⟨ck, ca, ci, cw, cs⟩ := ch
      dsimp only at hz0 hz1 hz2 hz3 hz4 hwa hws
      have HWA := Aside0.mk hwa
      have HWS := Aside0.mk hws
      clear hwa hws
      have hzz1 : wr.cell? { block := (y.add (i * 5)).block, off := (y.add (i * 5)).off + 1 } = some (.int .i64 ca) := hz1
      have hzz2 : wr.cell? { block := (y.add (i * 5)).block, off := (y.add (i * 5)).off + 2 } = some (.int .i64 ci) := hz2
      have hzz3 : wr.cell? { block := (y.add (i * 5)).block, off := (y.add (i * 5)).off + 3 } = some (.int .u64 cw) := hz3
      have hzz4 : wr.cell? { block := (y.add (i * 5)).block, off := (y.add (i * 5)).off + 4 } = some (.int .u64 cs) := hz4
      have hzz0 : wr.cell? (y.add (i * 5)) = some (.int .i64 ck) := (congrArg _ (add_zero _).symm).trans hz0
      clear hz0 hz1 hz2 hz3 hz4
      have hi0 : (0 : Int) ≤ (i : Int) := by omega
      have hi1 : (i : Int) < (len : Int) := by omega
      have hi1n : i + 1 ≤ len := by omega
      go_upto_region 6 with fail
      obtain ⟨g9, hg9⟩ : ∃ x, x = wr.heap.size := ⟨_, rfl⟩
      obtain ⟨wc, hwc⟩ : ∃ x, x = wr.alloc (.cells #[.int .i64 ck, .int .i64 ca, .int .i64 ci, .int .u64 cw, .int .u64 cs] 44) := ⟨_, rfl⟩
      rw [← hg9, ← hwc]
      have hbc : Below wr.heap.size wr wc := by rw [hwc]; exact below_alloc (Below.refl _ _) _
      have BK9 := Aside0.mk (show wc.heap[g9]? = some (.cells #[.int .i64 ck, .int .i64 ca, .int .i64 ci, .int .u64 cw, .int .u64 cs] 44 (0, 0)) by rw [hwc, hg9]; exact blk_new _ _)
      have HBc := Aside0.mk (below_step HB.out hbc)
      have HTc := Aside0.mk (HT.out.to hbc)
      have HDc := Aside0.mk (HD.out.to hbc)
      have BK4c := Aside0.mk (blk_below BK4.out hbc)
      clear hbc hwc hg9 hzz0 hzz1 hzz2 hzz3 hzz4
      have hx0 : wc.cell? ⟨g9, 0, none⟩ = some (.int .i64 ck) := (blk_cell BK9.out 0).trans rfl
      have hx1 : wc.cell? ⟨g9, 1, none⟩ = some (.int .i64 ca) := (blk_cell BK9.out 1).trans rfl
      have hx2 : wc.cell? ⟨g9, 2, none⟩ = some (.int .i64 ci) := (blk_cell BK9.out 2).trans rfl
      have hx3 : wc.cell? ⟨g9, 3, none⟩ = some (.int .u64 cw) := (blk_cell BK9.out 3).trans rfl
      have hx4 : wc.cell? ⟨g9, 4, none⟩ = some (.int .u64 cs) := (blk_cell BK9.out 4).trans rfl
      by_cases hk4 : ck = 4
      · subst hk4
        by_cases ha0 : ca = 0
        · subst ha0
          go_upto_region 10 with (go_at_call 18; refine (pointed_calls _ ta tn tc R HTc (by omega) 4 0 ci cw cs HWS.out).mono ?_; rintro e w5 ⟨a5, n5, c5, bo, rfl, hout, hb5⟩; have HOUT := Aside0.mk hout; have HB5 := Aside0.mk (below_step HBc.out hb5); have HD5 := Aside0.mk (HDc.out.to hb5); have BK45 := Aside0.mk (blk_below BK4c.out hb5); clear hout hb5)
          rcases HOUT.out with ⟨hno, hbo⟩ | ⟨l', hyes, hbo, hil, _⟩
          · subst hbo
            have HNO := Aside0.mk (HFA.out (by rw [applyP_root, hno]; rfl))
            have BKx := BK45
            have HBx := HB5
            have hx4_0 : w5.cell? ⟨g4, 0, none⟩ = some (.slice none 0 0) := (blk_cell BKx.out 0).trans rfl
            have hx4_1 : w5.cell? ⟨g4, 1, none⟩ = some (.slice none 0 0) := (blk_cell BKx.out 1).trans rfl
            have hy4_0 := blk_frozen BKx.out 0
            have hy4_1 := blk_frozen BKx.out 1
            go_wp2
            refine bodyPost_ret (results_ct rfl _ _ g4 25 #[.slice none 0 0, .slice none 0 0] (0, 0) _ rfl ?bk Try.underlying25 rfl (by kernel_rfl)) rfl ?_
            case bk => exact blk_put (blk_put BKx.out 0 _ rfl) 1 _ rfl
            exact ⟨none, 0, 0, none, 0, 0, [], [], false, rfl, .inl ⟨by rw [HNO.out], rfl, rfl, rfl⟩, IL_nil _ _, NL_nil _ _, (fun n hn => by cases hn), (by (repeat (refine below_set ?_ GE4.out)); exact HBx.out)⟩
          · subst hbo
            have HAP2 := Aside0.mk (show applyAll (g.R, (sorted g.NS (walkR g.NS g.R)).map Nd.pn) (l.take (i + 1)) = some (l', M.map Nd.pn) by rw [HNX.out, applyP_root, hyes]; rfl)
            have HT2 := Aside0.mk hil
            have hn5 : n5 ≤ 40 := by have e1 := hil.1; have e2 := chgS_len hyes; have e3 := HTc.out.1; omega
            have HD2 := Aside0.mk (show DM w5 mb (40 + (i + 1)) M from DM_mono HD5.out)
            clear hyes hil
            go_wp2
            go_roundw
            case measure => exact meas_i hgo (by push_cast; rfl)
            case rel => exact ⟨i + 1, a5, n5, c5, l', M, hi1n, by push_cast; rfl, rfl, HT2, hn5, HD2, HAP2, HB5, BK45⟩
        · have hda : decide (ca = 0) = false := decide_eq_false ha0
          have HNP := Aside0.mk (applyP_node (R := R) (M := M.map Nd.pn) (c := (⟨4, ca, ci, cw, cs⟩ : Ch)) fun h => ha0 h.2)
          go_upto_region 10 with (go_at_call 19; refine (do_calls _ mb (40 + i) (by omega) M HDc 4 ca ci cw cs HWA.out HWS.out).mono ?_; rintro e w5 ⟨bo, rfl, hout, hg5⟩; have HOUT := Aside0.mk hout; have HB5 := Aside0.mk (below_but HBc.out hg5 HMB.out); have BK45 := Aside0.mk ((hg5.block g4 (blk_lt BK4c.out) (fun e => NEM.out (Option.some.inj e))).trans BK4c.out); obtain ⟨es5, cl5, hmb5⟩ := DM_block HDc.out; have HT5 := Aside0.mk (HTc.out.grown hg5 hmb5); clear hout hg5 hmb5)
          rcases HOUT.out with ⟨hno, hbo⟩ | ⟨M', hyes, hbo, hdm⟩
          · subst hbo
            have HNO := Aside0.mk (HFA.out (by rw [HNP.out, hno]; rfl))
            have BKx := BK45
            have HBx := HB5
            have hx4_0 : w5.cell? ⟨g4, 0, none⟩ = some (.slice none 0 0) := (blk_cell BKx.out 0).trans rfl
            have hx4_1 : w5.cell? ⟨g4, 1, none⟩ = some (.slice none 0 0) := (blk_cell BKx.out 1).trans rfl
            have hy4_0 := blk_frozen BKx.out 0
            have hy4_1 := blk_frozen BKx.out 1
            go_wp2
            refine bodyPost_ret (results_ct rfl _ _ g4 25 #[.slice none 0 0, .slice none 0 0] (0, 0) _ rfl ?bk Try.underlying25 rfl (by kernel_rfl)) rfl ?_
            case bk => exact blk_put (blk_put BKx.out 0 _ rfl) 1 _ rfl
            exact ⟨none, 0, 0, none, 0, 0, [], [], false, rfl, .inl ⟨by rw [HNO.out], rfl, rfl, rfl⟩, IL_nil _ _, NL_nil _ _, (fun n hn => by cases hn), (by (repeat (refine below_set ?_ GE4.out)); exact HBx.out)⟩
          · subst hbo
            have HAP2 := Aside0.mk (show applyAll (g.R, (sorted g.NS (walkR g.NS g.R)).map Nd.pn) (l.take (i + 1)) = some (R, M'.map Nd.pn) by rw [HNX.out, HNP.out, hyes]; rfl)
            have HD2 := Aside0.mk (show DM w5 mb (40 + (i + 1)) M' from hdm)
            clear hyes hdm
            go_wp2
            go_roundw
            case measure => exact meas_i hgo (by push_cast; rfl)
            case rel => exact ⟨i + 1, ta, tn, tc, R, M', hi1n, by push_cast; rfl, rfl, HT5, htn, HD2, HAP2, HB5, BK45⟩
      · have hdk : decide (ck = 4) = false := decide_eq_false hk4
        have HNP := Aside0.mk (applyP_node (R := R) (M := M.map Nd.pn) (c := (⟨ck, ca, ci, cw, cs⟩ : Ch)) fun h => hk4 h.1)
        go_upto_region 10 with (go_at_call 19; refine (do_calls _ mb (40 + i) (by omega) M HDc ck ca ci cw cs HWA.out HWS.out).mono ?_; rintro e w5 ⟨bo, rfl, hout, hg5⟩; have HOUT := Aside0.mk hout; have HB5 := Aside0.mk (below_but HBc.out hg5 HMB.out); have BK45 := Aside0.mk ((hg5.block g4 (blk_lt BK4c.out) (fun e => NEM.out (Option.some.inj e))).trans BK4c.out); obtain ⟨es5, cl5, hmb5⟩ := DM_block HDc.out; have HT5 := Aside0.mk (HTc.out.grown hg5 hmb5); clear hout hg5 hmb5)
        rcases HOUT.out with ⟨hno, hbo⟩ | ⟨M', hyes, hbo, hdm⟩
        · subst hbo
          have HNO := Aside0.mk (HFA.out (by rw [HNP.out, hno]; rfl))
          have BKx := BK45
          have HBx := HB5
          have hx4_0 : w5.cell? ⟨g4, 0, none⟩ = some (.slice none 0 0) := (blk_cell BKx.out 0).trans rfl
          have hx4_1 : w5.cell? ⟨g4, 1, none⟩ = some (.slice none 0 0) := (blk_cell BKx.out 1).trans rfl
          have hy4_0 := blk_frozen BKx.out 0
          have hy4_1 := blk_frozen BKx.out 1
          go_wp2
          refine bodyPost_ret (results_ct rfl _ _ g4 25 #[.slice none 0 0, .slice none 0 0] (0, 0) _ rfl ?bk Try.underlying25 rfl (by kernel_rfl)) rfl ?_
          case bk => exact blk_put (blk_put BKx.out 0 _ rfl) 1 _ rfl
          exact ⟨none, 0, 0, none, 0, 0, [], [], false, rfl, .inl ⟨by rw [HNO.out], rfl, rfl, rfl⟩, IL_nil _ _, NL_nil _ _, (fun n hn => by cases hn), (by (repeat (refine below_set ?_ GE4.out)); exact HBx.out)⟩
        · subst hbo
          have HAP2 := Aside0.mk (show applyAll (g.R, (sorted g.NS (walkR g.NS g.R)).map Nd.pn) (l.take (i + 1)) = some (R, M'.map Nd.pn) by rw [HNX.out, HNP.out, hyes]; rfl)
          have HD2 := Aside0.mk (show DM w5 mb (40 + (i + 1)) M' from hdm)
          clear hyes hdm
          go_wp2
          go_roundw
          case measure => exact meas_i hgo (by push_cast; rfl)
          case rel => exact ⟨i + 1, ta, tn, tc, R, M', hi1n, by push_cast; rfl, rfl, HT5, htn, HD2, HAP2, HB5, BK45⟩
    · have hd : decide ((i : Int) < (len : Int)) = false := decide_eq_false (by omega)
      obtain rfl : i = len := by omega
      have hfin := HAP.out
      rw [List.take_of_length_le (by omega)] at hfin
      have HFIN := Aside0.mk hfin
      clear hfin HAP
      have hx4_0 : wr.cell? ⟨g4, 0, none⟩ = some (.slice none 0 0) := (blk_cell BK4.out 0).trans rfl
      go_upto_region 14 with (first | (go_at_call 21; refine (vals_calls _ (some mb)).mono ?_; rintro e w5 ⟨g8, rfl, hg8, _, hb5⟩; have BK8 := Aside0.mk hg8; have HB5 := Aside0.mk (below_step HB.out hb5); have HD5 := Aside0.mk (HD.out.to hb5); have HT5 := Aside0.mk (HT.out.to hb5); have BK45 := Aside0.mk (blk_below BK4.out hb5); clear hg8 hb5) | (go_at_call 20; refine (sortedN_calls _ mb (40 + i) (by omega) M HD5 g8 BK8.out).mono ?_; rintro e w6 ⟨a6, c6, rfl, hr6, hb6⟩; have HR6 := Aside0.mk hr6; have HB6 := Aside0.mk (below_step HB5.out hb6); have HD6 := Aside0.mk (HD5.out.to hb6); have HT6 := Aside0.mk (HT5.out.to hb6); have BK46 := Aside0.mk (blk_below BK45.out hb6); clear hr6 hb6))
      have hv4_0 : w6.cell? ⟨g4, 0, none⟩ = some (.slice none 0 0) := (blk_cell BK46.out 0).trans rfl
      have hv4_1 : w6.cell? ⟨g4, 1, none⟩ = some (.slice none 0 0) := (blk_cell BK46.out 1).trans rfl
      have hy4_0 := blk_frozen BK46.out 0
      have hy4_1 := blk_frozen BK46.out 1
      go_wp2
      refine bodyPost_ret (results_ct rfl _ _ g4 25 #[.slice ta tn tc, .slice a6 M.length c6] (0, 0) _ rfl ?bk Try.underlying25 rfl (by kernel_rfl)) rfl ?_
      case bk => exact blk_put (cs := #[.slice ta tn tc, .slice none 0 0]) (blk_put (cs := #[.slice none 0 0, .slice none 0 0]) BK46.out 0 _ rfl) 1 _ rfl
      refine ⟨ta, tn, tc, a6, M.length, c6, R, M, true, rfl, .inr ⟨HFIN.out, rfl⟩, ?_, ?_, ?_, (by (repeat (refine below_set ?_ GE4.out)); exact HB6.out)⟩
      · exact IL_fin HT6.out BK46.out
      · exact NL_of_row (ownsRow_setCell_below (ownsRow_setCell_below HR6.out (blk_lt BK45.out) _) (blk_lt BK45.out) _)
      · exact fun n hn => ⟨IL_fin (HD6.out.lists n hn).1 BK46.out, IL_fin (HD6.out.lists n hn).2 BK46.out⟩
end Go.Proofs.Ytekggbmajemmhaa.Gr
/- Diff: Quiet and Count. Condition: the list lies in memory. -/
namespace Go.Proofs.Ytekggbmajemmhaa.Di
open Go.RowKit Go.Shelf Go.Maps Go.ChangeMaps Go.MapKept Go.Proofs.YtekggbmajemmhaaW.PrintWords Go.Proofs.YtekggbmajemmhaaW.PrintLast Go.Proofs.YtekggbmajemmhaaW.PrintMore
set_option linter.unusedSimpArgs false
set_option linter.unusedVariables false
theorem add_block (ad : Addr) (k : Nat) : (ad.add k).block = ad.block := by unfold Addr.add; split <;> rfl
theorem add_zero (ad : Addr) : ad.add 0 = ad := by simp [Addr.add]
/-- A change. -/
structure ChV where
  (k a i was is : Int)
instance : Inhabited ChV := ⟨⟨0, 0, 0, 0, 0⟩⟩
/-- A list of changes that lies in memory ahead of block B. -/
def CL (W : World) (B : Nat) (a : Option Addr) (len : Nat) (F : Nat → ChV) : Prop := ∀ i, i < len → ∃ y, a = some y ∧ y.block < B ∧ W.cell? ((y.add (i * 5)).add 0) = some (.int .i64 (F i).k) ∧ W.cell? ((y.add (i * 5)).add 1) = some (.int .i64 (F i).a) ∧ W.cell? ((y.add (i * 5)).add 2) = some (.int .i64 (F i).i) ∧ W.cell? ((y.add (i * 5)).add 3) = some (.int .u64 (F i).was) ∧ W.cell? ((y.add (i * 5)).add 4) = some (.int .u64 (F i).is)
theorem CL.kept {W W' : World} {B : Nat} {a : Option Addr} {len : Nat} {F : Nat → ChV} (h : CL W B a len F) (hb : ∀ k, k < B → W'.heap[k]? = W.heap[k]?) : CL W' B a len F := fun i hi => by
  obtain ⟨y, h1, h2, h3, h4, h5, h6, h7⟩ := h i hi
  have hk : ∀ j, W'.cell? ((y.add (i * 5)).add j) = W.cell? ((y.add (i * 5)).add j) := fun j => World.cell?_of_block (hb _ (by rw [add_block, add_block]; exact h2))
  exact ⟨y, h1, h2, (hk 0).trans h3, (hk 1).trans h4, (hk 2).trans h5, (hk 3).trans h6, (hk 4).trans h7⟩
theorem CL.mono {W : World} {B B' : Nat} {a : Option Addr} {len : Nat} {F : Nat → ChV} (h : CL W B a len F) (hb : B ≤ B') : CL W B' a len F := fun i hi => by
  obtain ⟨y, h1, h2, h3⟩ := h i hi
  exact ⟨y, h1, Nat.lt_of_lt_of_le h2 hb, h3⟩
/-- How many of each kind. -/
structure C6 where
  (c0 c1 c2 c3 c4 c5 : Int)
def C6.bump (c : C6) (k : Int) : C6 :=
  if k = 1 then { c with c1 := wrap64 (c.c1 + 1) } else if k = 2 then { c with c2 := wrap64 (c.c2 + 1) } else if k = 3 then { c with c3 := wrap64 (c.c3 + 1) } else if k = 4 then { c with c4 := wrap64 (c.c4 + 1) } else if k = 5 then { c with c5 := wrap64 (c.c5 + 1) } else { c with c0 := wrap64 (c.c0 + 1) }
def cntF (F : Nat → ChV) : Nat → C6
  | 0 => ⟨0, 0, 0, 0, 0, 0⟩
  | n + 1 => (cntF F n).bump (F n).k
abbrev C6.cells (c : C6) : Array Value := #[.int .i64 c.c0, .int .i64 c.c1, .int .i64 c.c2, .int .i64 c.c3, .int .i64 c.c4, .int .i64 c.c5]
theorem bump_out (c : C6) {k : Int} (h : k < 0 ∨ k ≥ 6) : c.bump k = { c with c0 := wrap64 (c.c0 + 1) } := by
  unfold C6.bump
  rw [if_neg (by omega), if_neg (by omega), if_neg (by omega), if_neg (by omega), if_neg (by omega)]
set_option maxHeartbeats 8000000 in
set_option maxRecDepth 100000 in
theorem count_calls (W : World) (a : Option Addr) (len cap : Nat) (F : Nat → ChV) (HC : Aside0 (CL W W.heap.size a len F)) (hlen : len ≤ 9223372036854775807) : Calls Try.prog 13 #[.slice a len cap] W fun e W' => e = .returned (.agg (cntF F len).cells) ∧ Below W.heap.size W W' := by
  have HB := Aside0.mk (Below.refl W.heap.size W)
  go_enter Try.func13, Try.ntmps13
  go_upto_region 2 with (first | ((with_reducible refine gate_dst (N := 2) rfl ?_); refine box_event ?hg (N := 2) ?hd (cs := #[.int .i64 0, .int .i64 0, .int .i64 0, .int .i64 0, .int .i64 0, .int .i64 0]) (t := 34) ?hr ?_; (case hd => rfl); (case hg => rfl); (case hr => first | (go_simp; done) | (go_simp; rfl)); intro g2 hg w1_ hbox hb; have n0_ := Aside0.mk (below_step (by repeat (first | (with_reducible first | exact HB.out | apply below_alloc | apply pw_below_drewN | apply below_drew1) | exact HB.out)) hb); have n1_ := Aside0.mk hbox; have n2_ := Aside0.mk ((by rw [hg]; exact (below_size (by repeat (first | (with_reducible first | exact HB.out | apply below_alloc | apply pw_below_drewN | apply below_drew1) | exact HB.out)))) : W.heap.size ≤ g2); clear HB; have HB := n0_; have BK2 := n1_; have GE2 := n2_; clear n0_ n1_ n2_; clear hb hbox hg) | ((with_reducible refine gate_dst (N := 3) rfl ?_); refine box_event ?hg (N := 3) ?hd (cs := #[.int .i64 0, .int .i64 0, .int .i64 0, .int .i64 0, .int .i64 0, .int .i64 0]) (t := 34) ?hr ?_; (case hd => rfl); (case hg => rfl); (case hr => first | (go_simp; done) | (go_simp; rfl)); intro g3 hg w2_ hbox hb; have n0_ := Aside0.mk (below_step (by repeat (first | (with_reducible first | exact HB.out | apply below_alloc | apply pw_below_drewN | apply below_drew1 | refine below_set ?_ GE2.out) | exact HB.out)) hb); have n1_ := Aside0.mk (blk_below (g := g2) (o := .cells #[.int .i64 0, .int .i64 0, .int .i64 0, .int .i64 0, .int .i64 0, .int .i64 0] 34 (0, 0)) (by (with_reducible repeat (first | refine blk_drewN ?_ _ | refine blk_drew ?_ | refine blk_alloc ?_ _)); exact BK2.out) hb); have n2_ := Aside0.mk hbox; have n3_ := Aside0.mk ((by rw [hg]; exact (below_size (by repeat (first | (with_reducible first | exact HB.out | apply below_alloc | apply pw_below_drewN | apply below_drew1 | refine below_set ?_ GE2.out) | exact HB.out)))) : W.heap.size ≤ g3); have n4_ := Aside0.mk ((by rw [hg]; exact Nat.ne_of_lt (blk_lt (g := g2) (o := .cells #[.int .i64 0, .int .i64 0, .int .i64 0, .int .i64 0, .int .i64 0, .int .i64 0] 34 (0, 0)) (by (with_reducible repeat (first | refine blk_drewN ?_ _ | refine blk_drew ?_ | refine blk_alloc ?_ _)); exact BK2.out))) : g2 ≠ g3); clear HB; clear BK2; have HB := n0_; have BK2 := n1_; have BK3 := n2_; have GE3 := n3_; have NE2_3 := n4_; clear n0_ n1_ n2_ n3_ n4_; clear hb hbox hg))
  go_wp2
  go_loopw [8] (fun v wr => ∃ i : Nat, i ≤ len ∧ v = .int .i64 (i : Int) ∧ Aside0 (Below W.heap.size W wr) ∧ Aside0 (wr.heap[g3]? = some (.cells (cntF F i).cells 34 (0, 0))) ∧ Aside0 (wr.heap[g2]? = some (.cells #[.int .i64 0, .int .i64 0, .int .i64 0, .int .i64 0, .int .i64 0, .int .i64 0] 34 (0, 0)))) (fun v _ => len - (intOf v).toNat)
  case atStart => exact ⟨0, by omega, rfl, HB, BK3, BK2⟩
  case round =>
    clear HB BK2 BK3
    obtain ⟨i, hi, rfl, HBB, BK3, BK2⟩ := hrel
    by_cases hgo : i < len
    · have hd : decide ((i : Int) < (len : Int)) = true := decide_eq_true (by omega)
      obtain ⟨y, e, hyb, hy0, hy1, hy2, hy3, hy4⟩ := (HC.out.kept (fun k hk => HBB.out.block k hk)) i hgo
      subst e
      obtain ⟨kd, hkd_⟩ : ∃ k, k = (F i).k := ⟨_, rfl⟩
      obtain ⟨ca, hca_⟩ : ∃ k, k = (F i).a := ⟨_, rfl⟩
      obtain ⟨ci, hci_⟩ : ∃ k, k = (F i).i := ⟨_, rfl⟩
      obtain ⟨cw, hcw_⟩ : ∃ k, k = (F i).was := ⟨_, rfl⟩
      obtain ⟨cs, hcs_⟩ : ∃ k, k = (F i).is := ⟨_, rfl⟩
      rw [add_zero, ← hkd_] at hy0
      rw [← hca_] at hy1
      rw [← hci_] at hy2
      rw [← hcw_] at hy3
      rw [← hcs_] at hy4
      have hz1 : wr.cell? { block := (y.add (i * 5)).block, off := (y.add (i * 5)).off + 1 } = some (.int .i64 ca) := hy1
      have hz2 : wr.cell? { block := (y.add (i * 5)).block, off := (y.add (i * 5)).off + 2 } = some (.int .i64 ci) := hy2
      have hz3 : wr.cell? { block := (y.add (i * 5)).block, off := (y.add (i * 5)).off + 3 } = some (.int .u64 cw) := hy3
      have hz4 : wr.cell? { block := (y.add (i * 5)).block, off := (y.add (i * 5)).off + 4 } = some (.int .u64 cs) := hy4
      clear hy1 hy2 hy3 hy4 hca_ hci_ hcw_ hcs_
      have HKD := Aside0.mk hkd_
      clear hkd_
      have hi0 : (0 : Int) ≤ (i : Int) := by omega
      have hi1 : (i : Int) < (len : Int) := by omega
      obtain ⟨C, hC⟩ : ∃ C, C = cntF F i := ⟨_, rfl⟩
      rw [← hC] at BK3
      have HN := Aside0.mk (show cntF F (i + 1) = C.bump kd by rw [hC, HKD.out]; rfl)
      clear hC
      obtain ⟨c0, c1, c2, c3, c4, c5⟩ := C
      have HB := Aside0.mk (Below.refl wr.heap.size wr)
      go_upto_region 5 with ((with_reducible refine gate_dst (N := 5) rfl ?_); refine box_event ?hg (N := 5) ?hd (cs := #[.int .i64 0, .int .i64 0, .int .i64 0, .int .u64 0, .int .u64 0]) (t := 44) ?hr ?_; (case hd => rfl); (case hg => rfl); (case hr => first | (go_simp; done) | (go_simp; rfl)); intro g5 hg w1_ hbox hb; have n0_ := Aside0.mk (below_step (by repeat (first | (with_reducible first | exact HB.out | apply below_alloc | apply pw_below_drewN | apply below_drew1) | exact HB.out)) hb); have n1_ := Aside0.mk hbox; have n2_ := Aside0.mk ((by rw [hg]; exact (below_size (by repeat (first | (with_reducible first | exact HB.out | apply below_alloc | apply pw_below_drewN | apply below_drew1) | exact HB.out)))) : wr.heap.size ≤ g5); clear HB; have HB := n0_; have BK5 := n1_; have GE5 := n2_; clear n0_ n1_ n2_; clear hb hbox hg; have hc5_0 : w1_.cell? ⟨g5, 0, none⟩ = some (.int .i64 0) := (blk_cell BK5.out 0).trans rfl; have hf5_0 := blk_frozen BK5.out 0; have hc5_1 : w1_.cell? ⟨g5, 1, none⟩ = some (.int .i64 0) := (blk_cell BK5.out 1).trans rfl; have hf5_1 := blk_frozen BK5.out 1; have hc5_2 : w1_.cell? ⟨g5, 2, none⟩ = some (.int .i64 0) := (blk_cell BK5.out 2).trans rfl; have hf5_2 := blk_frozen BK5.out 2; have hc5_3 : w1_.cell? ⟨g5, 3, none⟩ = some (.int .u64 0) := (blk_cell BK5.out 3).trans rfl; have hf5_3 := blk_frozen BK5.out 3; have hc5_4 : w1_.cell? ⟨g5, 4, none⟩ = some (.int .u64 0) := (blk_cell BK5.out 4).trans rfl; have hf5_4 := blk_frozen BK5.out 4)
      generalize hw_ : (((((w1_.setCell ⟨g5, 0, none⟩ (.int .i64 kd)).setCell ⟨g5, 1, none⟩ (.int .i64 ca)).setCell ⟨g5, 2, none⟩ (.int .i64 ci)).setCell ⟨g5, 3, none⟩ (.int .u64 cw)).setCell ⟨g5, 4, none⟩ (.int .u64 cs)) = w2_
      have n0_ := Aside0.mk (show Below wr.heap.size wr w2_ from by rw [← hw_]; exact (by repeat (first | (with_reducible first | exact HB.out | apply below_alloc | apply pw_below_drewN | apply below_drew1 | refine below_set ?_ GE5.out) | exact HB.out)))
      have n1_ := Aside0.mk (show w2_.heap[g5]? = some (.cells #[.int .i64 kd, .int .i64 ca, .int .i64 ci, .int .u64 cw, .int .u64 cs] 44 (0, 0)) from by rw [← hw_]; exact (by (with_reducible repeat (first | refine blk_drewN ?_ _ | refine blk_drew ?_ | refine blk_alloc ?_ _)); refine blk_put (cs := #[.int .i64 kd, .int .i64 ca, .int .i64 ci, .int .u64 cw, .int .u64 0]) ?_ 4 _ rfl; (with_reducible repeat (first | refine blk_drewN ?_ _ | refine blk_drew ?_ | refine blk_alloc ?_ _)); refine blk_put (cs := #[.int .i64 kd, .int .i64 ca, .int .i64 ci, .int .u64 0, .int .u64 0]) ?_ 3 _ rfl; (with_reducible repeat (first | refine blk_drewN ?_ _ | refine blk_drew ?_ | refine blk_alloc ?_ _)); refine blk_put (cs := #[.int .i64 kd, .int .i64 ca, .int .i64 0, .int .u64 0, .int .u64 0]) ?_ 2 _ rfl; (with_reducible repeat (first | refine blk_drewN ?_ _ | refine blk_drew ?_ | refine blk_alloc ?_ _)); refine blk_put (cs := #[.int .i64 kd, .int .i64 0, .int .i64 0, .int .u64 0, .int .u64 0]) ?_ 1 _ rfl; (with_reducible repeat (first | refine blk_drewN ?_ _ | refine blk_drew ?_ | refine blk_alloc ?_ _)); refine blk_put (cs := #[.int .i64 0, .int .i64 0, .int .i64 0, .int .u64 0, .int .u64 0]) ?_ 0 _ rfl; (with_reducible repeat (first | refine blk_drewN ?_ _ | refine blk_drew ?_ | refine blk_alloc ?_ _)); exact BK5.out))
      clear HB
      clear BK5
      have HB := n0_
      have BK5 := n1_
      clear n0_ n1_
      clear hw_
      have hc5_0 : w2_.cell? ⟨g5, 0, none⟩ = some (.int .i64 kd) := (blk_cell BK5.out 0).trans rfl
      have hf5_0 := blk_frozen BK5.out 0
      have hc5_1 : w2_.cell? ⟨g5, 1, none⟩ = some (.int .i64 ca) := (blk_cell BK5.out 1).trans rfl
      have hf5_1 := blk_frozen BK5.out 1
      have hc5_2 : w2_.cell? ⟨g5, 2, none⟩ = some (.int .i64 ci) := (blk_cell BK5.out 2).trans rfl
      have hf5_2 := blk_frozen BK5.out 2
      have hc5_3 : w2_.cell? ⟨g5, 3, none⟩ = some (.int .u64 cw) := (blk_cell BK5.out 3).trans rfl
      have hf5_3 := blk_frozen BK5.out 3
      have hc5_4 : w2_.cell? ⟨g5, 4, none⟩ = some (.int .u64 cs) := (blk_cell BK5.out 4).trans rfl
      have hf5_4 := blk_frozen BK5.out 4
      have BKw := blk_below BK3.out HB.out
      have BK2w := blk_below BK2.out HB.out
      have hc3_0 : w2_.cell? ⟨g3, 0, none⟩ = some (.int .i64 c0) := (blk_cell BKw 0).trans rfl
      have hf3_0 := blk_frozen BKw 0
      have hc3_1 : w2_.cell? ⟨g3, 1, none⟩ = some (.int .i64 c1) := (blk_cell BKw 1).trans rfl
      have hf3_1 := blk_frozen BKw 1
      have hc3_2 : w2_.cell? ⟨g3, 2, none⟩ = some (.int .i64 c2) := (blk_cell BKw 2).trans rfl
      have hf3_2 := blk_frozen BKw 2
      have hc3_3 : w2_.cell? ⟨g3, 3, none⟩ = some (.int .i64 c3) := (blk_cell BKw 3).trans rfl
      have hf3_3 := blk_frozen BKw 3
      have hc3_4 : w2_.cell? ⟨g3, 4, none⟩ = some (.int .i64 c4) := (blk_cell BKw 4).trans rfl
      have hf3_4 := blk_frozen BKw 4
      have hc3_5 : w2_.cell? ⟨g3, 5, none⟩ = some (.int .i64 c5) := (blk_cell BKw 5).trans rfl
      have hf3_5 := blk_frozen BKw 5
      have HBW := Aside0.mk (HBB.out.trans (HB.out.mono HBB.out.size))
      have HKW := Aside0.mk BKw
      have HKV := Aside0.mk BK2w
      clear BKw BK2w HB BK3 BK2 HBB
      rcases (by omega : kd < 0 ∨ kd ≥ 6 ∨ kd = 0 ∨ kd = 1 ∨ kd = 2 ∨ kd = 3 ∨ kd = 4 ∨ kd = 5) with hk | hk | rfl | rfl | rfl | rfl | rfl | rfl
      · have hd1 : decide (kd < 0) = true := decide_eq_true hk
        rw [bump_out _ (Or.inl hk)] at HN
        clear hk
        go_wp2
        refine ⟨⟨i + 1, by omega, by push_cast; rfl, Aside0.mk (HBW.out.setCell (p := ⟨g3, 0, none⟩) GE3.out _), Aside0.mk (by rw [HN.out]; exact blk_put (cs := #[.int .i64 c0, .int .i64 c1, .int .i64 c2, .int .i64 c3, .int .i64 c4, .int .i64 c5]) HKW.out 0 _ rfl), Aside0.mk (blk_far HKV.out NE2_3.out _)⟩, ?_⟩
        show len - ((i : Int) + 1).toNat < len - (i : Int).toNat
        omega
      · have hd1 : decide (kd < 0) = false := decide_eq_false (by omega)
        have hd2 : decide (kd ≥ 6) = true := decide_eq_true hk
        rw [bump_out _ (Or.inr hk)] at HN
        clear hk
        go_wp2
        refine ⟨⟨i + 1, by omega, by push_cast; rfl, Aside0.mk (HBW.out.setCell (p := ⟨g3, 0, none⟩) GE3.out _), Aside0.mk (by rw [HN.out]; exact blk_put (cs := #[.int .i64 c0, .int .i64 c1, .int .i64 c2, .int .i64 c3, .int .i64 c4, .int .i64 c5]) HKW.out 0 _ rfl), Aside0.mk (blk_far HKV.out NE2_3.out _)⟩, ?_⟩
        show len - ((i : Int) + 1).toNat < len - (i : Int).toNat
        omega
      · go_wp2
        refine ⟨⟨i + 1, by omega, by push_cast; rfl, Aside0.mk (HBW.out.setCell (p := ⟨g3, 0, none⟩) GE3.out _), Aside0.mk (by rw [HN.out]; exact blk_put (cs := #[.int .i64 c0, .int .i64 c1, .int .i64 c2, .int .i64 c3, .int .i64 c4, .int .i64 c5]) HKW.out 0 _ rfl), Aside0.mk (blk_far HKV.out NE2_3.out _)⟩, ?_⟩
        show len - ((i : Int) + 1).toNat < len - (i : Int).toNat
        omega
      · go_wp2
        refine ⟨⟨i + 1, by omega, by push_cast; rfl, Aside0.mk (HBW.out.setCell (p := ⟨g3, 1, none⟩) GE3.out _), Aside0.mk (by rw [HN.out]; exact blk_put (cs := #[.int .i64 c0, .int .i64 c1, .int .i64 c2, .int .i64 c3, .int .i64 c4, .int .i64 c5]) HKW.out 1 _ rfl), Aside0.mk (blk_far HKV.out NE2_3.out _)⟩, ?_⟩
        show len - ((i : Int) + 1).toNat < len - (i : Int).toNat
        omega
      · go_wp2
        refine ⟨⟨i + 1, by omega, by push_cast; rfl, Aside0.mk (HBW.out.setCell (p := ⟨g3, 2, none⟩) GE3.out _), Aside0.mk (by rw [HN.out]; exact blk_put (cs := #[.int .i64 c0, .int .i64 c1, .int .i64 c2, .int .i64 c3, .int .i64 c4, .int .i64 c5]) HKW.out 2 _ rfl), Aside0.mk (blk_far HKV.out NE2_3.out _)⟩, ?_⟩
        show len - ((i : Int) + 1).toNat < len - (i : Int).toNat
        omega
      · go_wp2
        refine ⟨⟨i + 1, by omega, by push_cast; rfl, Aside0.mk (HBW.out.setCell (p := ⟨g3, 3, none⟩) GE3.out _), Aside0.mk (by rw [HN.out]; exact blk_put (cs := #[.int .i64 c0, .int .i64 c1, .int .i64 c2, .int .i64 c3, .int .i64 c4, .int .i64 c5]) HKW.out 3 _ rfl), Aside0.mk (blk_far HKV.out NE2_3.out _)⟩, ?_⟩
        show len - ((i : Int) + 1).toNat < len - (i : Int).toNat
        omega
      · go_wp2
        refine ⟨⟨i + 1, by omega, by push_cast; rfl, Aside0.mk (HBW.out.setCell (p := ⟨g3, 4, none⟩) GE3.out _), Aside0.mk (by rw [HN.out]; exact blk_put (cs := #[.int .i64 c0, .int .i64 c1, .int .i64 c2, .int .i64 c3, .int .i64 c4, .int .i64 c5]) HKW.out 4 _ rfl), Aside0.mk (blk_far HKV.out NE2_3.out _)⟩, ?_⟩
        show len - ((i : Int) + 1).toNat < len - (i : Int).toNat
        omega
      · go_wp2
        refine ⟨⟨i + 1, by omega, by push_cast; rfl, Aside0.mk (HBW.out.setCell (p := ⟨g3, 5, none⟩) GE3.out _), Aside0.mk (by rw [HN.out]; exact blk_put (cs := #[.int .i64 c0, .int .i64 c1, .int .i64 c2, .int .i64 c3, .int .i64 c4, .int .i64 c5]) HKW.out 5 _ rfl), Aside0.mk (blk_far HKV.out NE2_3.out _)⟩, ?_⟩
        show len - ((i : Int) + 1).toNat < len - (i : Int).toNat
        omega
    · obtain rfl : i = len := by omega
      have hd : decide ((i : Int) < (i : Int)) = false := decide_eq_false (by omega)
      obtain ⟨C, hC⟩ : ∃ C, C = cntF F i := ⟨_, rfl⟩
      rw [← hC] at BK3
      have HN := Aside0.mk hC
      clear hC
      obtain ⟨c0, c1, c2, c3, c4, c5⟩ := C
      have HB := HBB
      have hc2_0 : wr.cell? ⟨g2, 0, none⟩ = some (.int .i64 0) := (blk_cell BK2.out 0).trans rfl
      have hf2_0 := blk_frozen BK2.out 0
      have hc2_1 : wr.cell? ⟨g2, 1, none⟩ = some (.int .i64 0) := (blk_cell BK2.out 1).trans rfl
      have hf2_1 := blk_frozen BK2.out 1
      have hc2_2 : wr.cell? ⟨g2, 2, none⟩ = some (.int .i64 0) := (blk_cell BK2.out 2).trans rfl
      have hf2_2 := blk_frozen BK2.out 2
      have hc2_3 : wr.cell? ⟨g2, 3, none⟩ = some (.int .i64 0) := (blk_cell BK2.out 3).trans rfl
      have hf2_3 := blk_frozen BK2.out 3
      have hc2_4 : wr.cell? ⟨g2, 4, none⟩ = some (.int .i64 0) := (blk_cell BK2.out 4).trans rfl
      have hf2_4 := blk_frozen BK2.out 4
      have hc2_5 : wr.cell? ⟨g2, 5, none⟩ = some (.int .i64 0) := (blk_cell BK2.out 5).trans rfl
      have hf2_5 := blk_frozen BK2.out 5
      have hc3_0 : wr.cell? ⟨g3, 0, none⟩ = some (.int .i64 c0) := (blk_cell BK3.out 0).trans rfl
      have hf3_0 := blk_frozen BK3.out 0
      have hc3_1 : wr.cell? ⟨g3, 1, none⟩ = some (.int .i64 c1) := (blk_cell BK3.out 1).trans rfl
      have hf3_1 := blk_frozen BK3.out 1
      have hc3_2 : wr.cell? ⟨g3, 2, none⟩ = some (.int .i64 c2) := (blk_cell BK3.out 2).trans rfl
      have hf3_2 := blk_frozen BK3.out 2
      have hc3_3 : wr.cell? ⟨g3, 3, none⟩ = some (.int .i64 c3) := (blk_cell BK3.out 3).trans rfl
      have hf3_3 := blk_frozen BK3.out 3
      have hc3_4 : wr.cell? ⟨g3, 4, none⟩ = some (.int .i64 c4) := (blk_cell BK3.out 4).trans rfl
      have hf3_4 := blk_frozen BK3.out 4
      have hc3_5 : wr.cell? ⟨g3, 5, none⟩ = some (.int .i64 c5) := (blk_cell BK3.out 5).trans rfl
      have hf3_5 := blk_frozen BK3.out 5
      go_wp2
      generalize hw_ : ((((((wr.setCell ⟨g2, 0, none⟩ (.int .i64 c0)).setCell ⟨g2, 1, none⟩ (.int .i64 c1)).setCell ⟨g2, 2, none⟩ (.int .i64 c2)).setCell ⟨g2, 3, none⟩ (.int .i64 c3)).setCell ⟨g2, 4, none⟩ (.int .i64 c4)).setCell ⟨g2, 5, none⟩ (.int .i64 c5)) = w1_
      have n0_ := Aside0.mk (show Below W.heap.size W w1_ from by rw [← hw_]; exact (by repeat (first | (with_reducible first | exact HB.out | apply below_alloc | apply pw_below_drewN | apply below_drew1 | refine below_set ?_ GE2.out | refine below_set ?_ GE3.out) | exact HB.out)))
      have n1_ := Aside0.mk (show w1_.heap[g2]? = some (.cells #[.int .i64 c0, .int .i64 c1, .int .i64 c2, .int .i64 c3, .int .i64 c4, .int .i64 c5] 34 (0, 0)) from by rw [← hw_]; exact (by (with_reducible repeat (first | refine blk_drewN ?_ _ | refine blk_drew ?_ | refine blk_alloc ?_ _)); refine blk_put (cs := #[.int .i64 c0, .int .i64 c1, .int .i64 c2, .int .i64 c3, .int .i64 c4, .int .i64 0]) ?_ 5 _ rfl; (with_reducible repeat (first | refine blk_drewN ?_ _ | refine blk_drew ?_ | refine blk_alloc ?_ _)); refine blk_put (cs := #[.int .i64 c0, .int .i64 c1, .int .i64 c2, .int .i64 c3, .int .i64 0, .int .i64 0]) ?_ 4 _ rfl; (with_reducible repeat (first | refine blk_drewN ?_ _ | refine blk_drew ?_ | refine blk_alloc ?_ _)); refine blk_put (cs := #[.int .i64 c0, .int .i64 c1, .int .i64 c2, .int .i64 0, .int .i64 0, .int .i64 0]) ?_ 3 _ rfl; (with_reducible repeat (first | refine blk_drewN ?_ _ | refine blk_drew ?_ | refine blk_alloc ?_ _)); refine blk_put (cs := #[.int .i64 c0, .int .i64 c1, .int .i64 0, .int .i64 0, .int .i64 0, .int .i64 0]) ?_ 2 _ rfl; (with_reducible repeat (first | refine blk_drewN ?_ _ | refine blk_drew ?_ | refine blk_alloc ?_ _)); refine blk_put (cs := #[.int .i64 c0, .int .i64 0, .int .i64 0, .int .i64 0, .int .i64 0, .int .i64 0]) ?_ 1 _ rfl; (with_reducible repeat (first | refine blk_drewN ?_ _ | refine blk_drew ?_ | refine blk_alloc ?_ _)); refine blk_put (cs := #[.int .i64 0, .int .i64 0, .int .i64 0, .int .i64 0, .int .i64 0, .int .i64 0]) ?_ 0 _ rfl; (with_reducible repeat (first | refine blk_drewN ?_ _ | refine blk_drew ?_ | refine blk_alloc ?_ _)); exact BK2.out))
      have n2_ := Aside0.mk (show w1_.heap[g3]? = some (.cells #[.int .i64 c0, .int .i64 c1, .int .i64 c2, .int .i64 c3, .int .i64 c4, .int .i64 c5] 34 (0, 0)) from by rw [← hw_]; refine blk_far ?_ NE2_3.out.symm _; refine blk_far ?_ NE2_3.out.symm _; refine blk_far ?_ NE2_3.out.symm _; refine blk_far ?_ NE2_3.out.symm _; refine blk_far ?_ NE2_3.out.symm _; refine blk_far ?_ NE2_3.out.symm _; exact BK3.out)
      clear HB
      clear BK2
      clear BK3
      have HB := n0_
      have BK2 := n1_
      have BK3 := n2_
      clear n0_ n1_ n2_
      clear hw_
      have hc2_0 : w1_.cell? ⟨g2, 0, none⟩ = some (.int .i64 c0) := (blk_cell BK2.out 0).trans rfl
      have hf2_0 := blk_frozen BK2.out 0
      have hc2_1 : w1_.cell? ⟨g2, 1, none⟩ = some (.int .i64 c1) := (blk_cell BK2.out 1).trans rfl
      have hf2_1 := blk_frozen BK2.out 1
      have hc2_2 : w1_.cell? ⟨g2, 2, none⟩ = some (.int .i64 c2) := (blk_cell BK2.out 2).trans rfl
      have hf2_2 := blk_frozen BK2.out 2
      have hc2_3 : w1_.cell? ⟨g2, 3, none⟩ = some (.int .i64 c3) := (blk_cell BK2.out 3).trans rfl
      have hf2_3 := blk_frozen BK2.out 3
      have hc2_4 : w1_.cell? ⟨g2, 4, none⟩ = some (.int .i64 c4) := (blk_cell BK2.out 4).trans rfl
      have hf2_4 := blk_frozen BK2.out 4
      have hc2_5 : w1_.cell? ⟨g2, 5, none⟩ = some (.int .i64 c5) := (blk_cell BK2.out 5).trans rfl
      have hf2_5 := blk_frozen BK2.out 5
      refine bodyPost_ret (results_cell_row rfl _ _ g2 34 #[.int .i64 c0, .int .i64 c1, .int .i64 c2, .int .i64 c3, .int .i64 c4, .int .i64 c5] (0, 0) _ rfl BK2.out Try.underlying34 rfl (by kernel_rfl)) rfl ?_
      exact ⟨by rw [← HN.out], HB.out⟩
end Go.Proofs.Ytekggbmajemmhaa.Di
/- DiffBack: what the count of changes tells; changes in memory; what Apply answers. No program is walked here. -/
namespace Go.Proofs.Ytekggbmajemmhaa.Gr
open Go.RowKit Go.Shelf Go.Maps Go.ChangeMaps Go.MapKept Go.Proofs.YtekggbmajemmhaaW.PrintWords Go.Proofs.YtekggbmajemmhaaW.PrintLast Go.Proofs.YtekggbmajemmhaaW.PrintMore
set_option linter.unusedSimpArgs false
set_option linter.unusedVariables false
def chF (l : List Ch) (i : Nat) : Di.ChV := ⟨(l.getD i default).k, (l.getD i default).a, (l.getD i default).i, (l.getD i default).was, (l.getD i default).is⟩
theorem wr1 {c : Int} {n : Nat} (h0 : 0 ≤ c) (h1 : c ≤ n) (h2 : n ≤ 1000000) : wrap64 (c + 1) = c + 1 := by unfold wrap64; omega
/-- Of one kind: so many, and none if none. -/
def Cn (F : Nat → Di.ChV) (n : Nat) (k c : Int) : Prop := 0 ≤ c ∧ c ≤ n ∧ (c = 0 → ∀ i, i < n → (F i).k ≠ k)
theorem Cn.more {F : Nat → Di.ChV} {n : Nat} {k c : Int} (h : Cn F n k c) (hk : (F n).k ≠ k) : Cn F (n + 1) k c := ⟨h.1, by have := h.2.1; omega, fun e i hi => by
  rcases Nat.lt_or_ge i n with h0 | h0
  · exact h.2.2 e i h0
  · obtain rfl : i = n := by omega
    exact hk⟩
theorem Cn.up {F : Nat → Di.ChV} {n : Nat} {k c : Int} (h : Cn F n k c) (hn : n ≤ 1000000) : Cn F (n + 1) k (wrap64 (c + 1)) := by
  rw [wr1 h.1 h.2.1 hn]
  have h0 := h.1
  have h1 := h.2.1
  exact ⟨by omega, by omega, fun e => by omega⟩
theorem cnt_is (F : Nat → Di.ChV) : ∀ n, n ≤ 1000000 → Cn F n 1 (Di.cntF F n).c1 ∧ Cn F n 2 (Di.cntF F n).c2 ∧ Cn F n 3 (Di.cntF F n).c3
  | 0, _ => ⟨⟨Int.le_refl _, Int.le_refl _, fun _ i hi => absurd hi (Nat.not_lt_zero i)⟩, ⟨Int.le_refl _, Int.le_refl _, fun _ i hi => absurd hi (Nat.not_lt_zero i)⟩, ⟨Int.le_refl _, Int.le_refl _, fun _ i hi => absurd hi (Nat.not_lt_zero i)⟩⟩
  | n + 1, hn => by
    obtain ⟨h1, h2, h3⟩ := cnt_is F n (by omega)
    unfold Di.cntF Di.C6.bump
    by_cases k1 : (F n).k = 1
    · rw [if_pos k1]
      exact ⟨h1.up (by omega), h2.more (by omega), h3.more (by omega)⟩
    · rw [if_neg k1]
      by_cases k2 : (F n).k = 2
      · rw [if_pos k2]
        exact ⟨h1.more k1, h2.up (by omega), h3.more (by omega)⟩
      · rw [if_neg k2]
        by_cases k3 : (F n).k = 3
        · rw [if_pos k3]
          exact ⟨h1.more k1, h2.more k2, h3.up (by omega)⟩
        · rw [if_neg k3]
          split
          · exact ⟨h1.more k1, h2.more k2, h3.more k3⟩
          · split
            · exact ⟨h1.more k1, h2.more k2, h3.more k3⟩
            · exact ⟨h1.more k1, h2.more k2, h3.more k3⟩
theorem sum3 {n : Nat} {a b c : Int} (hn : n ≤ 1000000) (ha : 0 ≤ a ∧ a ≤ n) (hb : 0 ≤ b ∧ b ≤ n) (hc : 0 ≤ c ∧ c ≤ n) : wrap64 (wrap64 (a + b) + c) = a + b + c := by
  have e : wrap64 (a + b) = a + b := by unfold wrap64; omega
  rw [e]
  unfold wrap64
  omega
/-- What the sum of the counts tells. -/
theorem cnt_sum (l : List Ch) (hn : l.length ≤ 100000) : ∃ s : Int, wrap64 (wrap64 ((Di.cntF (chF l) l.length).c1 + (Di.cntF (chF l) l.length).c2) + (Di.cntF (chF l) l.length).c3) = s ∧ (¬ s > 0 → ∀ c ∈ l, c.k ≠ 1 ∧ c.k ≠ 2 ∧ c.k ≠ 3) := by
  obtain ⟨h1, h2, h3⟩ := cnt_is (chF l) l.length (by omega)
  refine ⟨_, sum3 (n := l.length) (by omega) ⟨h1.1, h1.2.1⟩ ⟨h2.1, h2.2.1⟩ ⟨h3.1, h3.2.1⟩, fun hs c hc => ?_⟩
  obtain ⟨i, hi, e⟩ := List.getElem_of_mem hc
  have ek : (chF l i).k = c.k := by
    unfold chF
    rw [List.getD_eq_getElem?_getD, List.getElem?_eq_getElem hi, Option.getD_some, e]
  have a1 := h1.1
  have a2 := h2.1
  have a3 := h3.1
  rw [← ek]
  exact ⟨h1.2.2 (by omega) i hi, h2.2.2 (by omega) i hi, h3.2.2 (by omega) i hi⟩
theorem chs_mem {W : World} {X n c : Nat} {a : Option Addr} {l : List Ch} (h : W.ownsRow X 44 5 (.slice a n c) n (chs l)) (hl : l.length = n) : CM W W.heap.size a n l := by
  refine ⟨hl, fun i hi => ?_⟩
  have hc : l[i]? = some (l.getD i default) := by rw [List.getD_eq_getElem?_getD, List.getElem?_eq_getElem (show i < l.length by omega)]; rfl
  obtain ⟨y, e, h0, h1, h2, h3, h4⟩ := row44_five h hc hi
  have hlt := cell_lt h0
  rw [add_block] at hlt
  have e0 : ((y.add (i * 5)).add 0) = y.add (i * 5) := add_zero _
  exact ⟨y, e, hlt, by rw [e0]; exact h0, h1, h2, h3, h4⟩
theorem chs_list {W : World} {B n : Nat} {a : Option Addr} {l : List Ch} (h : CM W B a n l) : Di.CL W B a n (chF l) := h.2
/-- What Apply answers here. -/
theorem back_out {NA NB : List Nd} {RA RB K : List Int} (hK : Keys (walkR NA RA) (walkR NB RB) K) (hl : RA.length = RB.length) (hrb : ∀ x ∈ RB, (Lit.int .i64 x).wf = true)
    (hA : ∀ x ∈ NA, x.adr ≠ 0 ∧ Fit x) (hB : ∀ y ∈ NB, Fit y) (hk : ∀ c ∈ ofR NA RA NB RB K, c.k ≠ 1 ∧ c.k ≠ 2 ∧ c.k ≠ 3) {R : List Int} {M : List Nd} {ok : Bool}
    (h : (applyAll (RA, (sorted NA (walkR NA RA)).map Nd.pn) (ofR NA RA NB RB K) = none ∧ ok = false ∧ R = [] ∧ M = []) ∨ (applyAll (RA, (sorted NA (walkR NA RA)).map Nd.pn) (ofR NA RA NB RB K) = some (R, M.map Nd.pn) ∧ ok = true)) :
    ok = true ∧ R = RB ∧ M.length = (sorted NB (walkR NB RB)).length ∧ ∀ i, i < M.length → (M.getD i default).adr = ((sorted NB (walkR NB RB)).getD i default).adr ∧ (M.getD i default).S = ((sorted NB (walkR NB RB)).getD i default).S ∧ (M.getD i default).T = ((sorted NB (walkR NB RB)).getD i default).T := by
  obtain ⟨e1, e2, _⟩ := back_is hK hl hrb hA hB hk
  rcases h with ⟨h, _⟩ | ⟨h, ho⟩
  · rw [e2] at h; cases h
  · rw [e2] at h
    injection h with h
    injection h with hR hM
    have hlen : (sorted NA (walkR NA RA)).length = (sorted NB (walkR NB RB)).length := by
      have := congrArg List.length e1
      simpa [adrs] using this
    have hml : M.length = (sorted NB (walkR NB RB)).length := by
      have := congrArg List.length hM
      simp only [List.length_zipWith, List.length_map] at this
      omega
    refine ⟨ho, hR.symm, hml, fun i hi => ?_⟩
    have hb : i < (sorted NB (walkR NB RB)).length := by omega
    have ha : i < (sorted NA (walkR NA RA)).length := by omega
    have ei := congrArg (fun l : List Pn => l[i]?) hM
    simp only [List.getElem?_zipWith, List.getElem?_map, List.getElem?_eq_getElem hi, List.getElem?_eq_getElem ha, List.getElem?_eq_getElem hb, Option.map_some] at ei
    have ea := congrArg (fun l : List Int => l[i]?) e1
    simp only [adrs, List.getElem?_map, List.getElem?_eq_getElem ha, List.getElem?_eq_getElem hb, Option.map_some, Option.some.injEq] at ea
    injection ei with ei
    rw [List.getD_eq_getElem?_getD, List.getD_eq_getElem?_getD, List.getElem?_eq_getElem hi, List.getElem?_eq_getElem hb, Option.getD_some, Option.getD_some]
    unfold upd at ei
    injection ei with q1 q2 q3 q4 q5 q6
    exact ⟨q1.symm.trans ea, q5.symm, q6.symm⟩
end Go.Proofs.Ytekggbmajemmhaa.Gr
/- The document's Apply: frames, memory of a state. No program text is walked here. -/
namespace Go.Proofs.Ytekggbmajemmhaa.Gr
open Go.RowKit Go.Shelf Go.Maps Go.ChangeMaps Go.MapKept Go.Proofs.YtekggbmajemmhaaW.PrintWords Go.Proofs.YtekggbmajemmhaaW.PrintLast Go.Proofs.YtekggbmajemmhaaW.PrintMore
set_option linter.unusedSimpArgs false
set_option linter.unusedVariables false
/-- What a frame of 252 slots holds, as far as told. -/
def Fr (a : Act) : List (Nat × Value) → Prop
  | [] => a.defers = [] ∧ a.tmps.size = 252
  | (k, v) :: l => a.tmps.getD k undef = v ∧ Fr a l
/-! ### Memory -/
/-- A list in memory, in none of these blocks. -/
def IX (k : IntKind) (W : World) (S : List Nat) (a : Option Addr) (len : Nat) (l : List Int) : Prop := l.length = len ∧ ∀ i, i < len → ∃ y, a = some y ∧ y.block < W.heap.size ∧ y.block ∉ S ∧ W.cell? (y.add i) = some (.int k (l.getD i 0))
theorem IX.to {k : IntKind} {W W' : World} {S S' : List Nat} {a : Option Addr} {len : Nat} {l : List Int} (h : IX k W S a len l) (hb : ∀ j, j < W.heap.size → j ∉ S → W'.heap[j]? = W.heap[j]?) (hz : W.heap.size ≤ W'.heap.size) (hS : ∀ j, j < W.heap.size → j ∉ S → j ∉ S') : IX k W' S' a len l := ⟨h.1, fun i hi => by
  obtain ⟨y, e, h1, h2, h3⟩ := h.2 i hi
  exact ⟨y, e, by omega, hS _ h1 h2, (World.cell?_of_block (hb _ (by rw [add_block]; exact h1) (by rw [add_block]; exact h2))).trans h3⟩⟩
def DX (W : World) (S : List Nat) (n : Nd) : Prop := IX .i64 W S n.A n.m n.S ∧ IX .u64 W S n.B n.n n.T
theorem DX.to {W W' : World} {S S' : List Nat} {n : Nd} (h : DX W S n) (hb : ∀ j, j < W.heap.size → j ∉ S → W'.heap[j]? = W.heap[j]?) (hz : W.heap.size ≤ W'.heap.size) (hS : ∀ j, j < W.heap.size → j ∉ S → j ∉ S') : DX W' S' n := ⟨h.1.to hb hz hS, h.2.to hb hz hS⟩
/-- The blocks of tops, nodes. -/
def own2 (vt vn : Value) : List Nat := vt.ownBlock.toList ++ vn.ownBlock.toList
theorem own2_mem {vt vn : Value} {j : Nat} : j ∈ own2 vt vn ↔ vt.ownBlock = some j ∨ vn.ownBlock = some j := by
  unfold own2
  rw [List.mem_append, Option.mem_toList, Option.mem_toList]
/-- The state between two changes. -/
structure RS (wb W : World) (g4 : Nat) (vt vn : Value) (R : List Int) (M : List Nd) : Prop where
  hb : Below wb.heap.size wb W
  res : W.heap[g4]? = some (.cells #[.slice none 0 0, .slice none 0 0] 25 (0, 0))
  res4 : wb.heap.size ≤ g4
  tops : W.ownsRow wb.heap.size 3 1 vt R.length (R.map (Value.int .i64))
  rows : W.ownsRow wb.heap.size 40 6 vn M.length (nds M)
  lists : ∀ n ∈ M, DX W (own2 vt vn) n
  rise : Rise (adrs M)
  sz : ∀ n ∈ M, n.m ≤ 300 ∧ n.n ≤ 300
  len : R.length ≤ 40
theorem row_block {W : World} {X e s n : Nat} {v : Value} {xs : List Value} (h : W.ownsRow X e s v n xs) {k : Nat} (hk : v.ownBlock = some k) : ∃ cur, W.heap[k]? = some (.cells cur e (0, 0)) ∧ X ≤ k := by
  rcases h.2 with ⟨rfl, _⟩ | ⟨g, cap, cur, rfl, hX, hg, _⟩
  · cases hk
  · cases hk
    exact ⟨cur, hg, hX⟩
theorem RS.ne {wb W : World} {g4 : Nat} {vt vn : Value} {R : List Int} {M : List Nd} (h : RS wb W g4 vt vn R M) {k : Nat} (hk : vt.ownBlock = some k) : vn.ownBlock ≠ some k := fun e => by
  obtain ⟨c1, h1, _⟩ := row_block h.tops hk
  obtain ⟨c2, h2, _⟩ := row_block h.rows e
  rw [h1] at h2
  cases h2
theorem RS.ne4 {wb W : World} {g4 : Nat} {vt vn : Value} {R : List Int} {M : List Nd} (h : RS wb W g4 vt vn R M) : vt.ownBlock ≠ some g4 ∧ vn.ownBlock ≠ some g4 := by
  constructor
  · intro e
    obtain ⟨c1, h1, _⟩ := row_block h.tops e
    rw [h.res] at h1
    cases h1
  · intro e
    obtain ⟨c1, h1, _⟩ := row_block h.rows e
    rw [h.res] at h1
    cases h1
theorem RS.to {wb W W' : World} {g4 : Nat} {vt vn : Value} {R : List Int} {M : List Nd} (h : RS wb W g4 vt vn R M) (hb : Below W.heap.size W W') : RS wb W' g4 vt vn R M :=
  ⟨below_step h.hb hb, blk_below h.res hb, h.res4, Di.row_below h.tops hb, Di.row_below h.rows hb, fun n hn => (h.lists n hn).to (fun j hj _ => hb.block j hj) hb.size (fun _ _ h => h), h.rise, h.sz, h.len⟩
/-- tops stored into. -/
theorem RS.root {wb W : World} {g4 gt cap k : Nat} {vn : Value} {R : List Int} {M : List Nd} (h : RS wb W g4 (.slice (some ⟨gt, 0, none⟩) R.length cap) vn R M) (x : Int) : RS wb (W.setCell ⟨gt, k, none⟩ (.int .i64 x)) g4 (.slice (some ⟨gt, 0, none⟩) R.length cap) vn (R.set k x) M := by
  have hst := h.tops.stored k (.int .i64 x)
  have hgt : wb.heap.size ≤ gt := (h.tops.lt gt rfl).1
  have hsz : (W.setCell ⟨gt, k, none⟩ (.int .i64 x)).heap.size = W.heap.size := by simp [World.setCell]
  have hne := h.ne (k := gt) rfl
  have hg := hst.2
  have hrow : (W.setCell ⟨gt, k, none⟩ (.int .i64 x)).ownsRow wb.heap.size 40 6 vn M.length (nds M) := h.rows.kept hg (by
    rcases hv : vn.ownBlock with _ | q
    · exact Or.inl rfl
    · exact Or.inr (fun e => hne (by rw [hv]; exact e)))
  refine ⟨below_set h.hb hgt, blk_far h.res (fun e => h.ne4.1 (by rw [e]; rfl)) _, h.res4, by rw [List.length_set, List.map_set]; exact hst.1, hrow, fun n hn => (h.lists n hn).to (fun j hj hS => hg.block j hj (fun e => hS (own2_mem.2 (Or.inl (by rw [e]; rfl))))) (by rw [hsz]; exact Nat.le_refl _) (fun _ _ h => h), h.rise, h.sz, by rw [List.length_set]; exact h.len⟩
noncomputable def c10 : Code := Try.f10.body.getD .skip
end Go.Proofs.Ytekggbmajemmhaa.Gr
/- The document's Apply: the codes of its pieces; a change of a root. Conditions: the state lies in memory. -/
namespace Go.Proofs.Ytekggbmajemmhaa.Gr
open Go.RowKit Go.Shelf Go.Maps Go.ChangeMaps Go.MapKept Go.Proofs.YtekggbmajemmhaaW.PrintWords Go.Proofs.YtekggbmajemmhaaW.PrintLast Go.Proofs.YtekggbmajemmhaaW.PrintMore
set_option linter.unusedSimpArgs false
set_option linter.unusedVariables false
def r8.T8 : Bool × List (List Nat × List Nat) := (true, [([], []), ([0], [0]), ([1], [1]), ([2], [2]), ([3], [3]), ([4, 3], [3, 4]), ([3], [3]), ([6, 3], [3, 6]), ([5, 7, 3], [3, 5, 7]), ([3, 8], [3, 8]), ([9, 3], [9]), ([10], [10]), ([10], [10]), ([12, 10], [10, 12]), ([11, 13, 10], [10, 11, 13]), ([14, 10], [10, 14]), ([15, 10], [10, 15]), ([10], [10]), ([17, 10], [10, 17]), ([16, 18, 10], [10, 16, 18]), ([10, 19], [10, 19])])
def r8.B8 : List Nat := [0, 1, 3, 7, 15, 31, 15, 79, 255, 511, 1023, 2047, 2047, 6143, 16383, 32767, 65535, 2047, 133119, 524287, 1048575]
theorem r8.tab8 : rtab .any (opsOf Try.f10 8) = r8.T8 := by kernel_rfl
theorem r8.bits8 : waitsOk r8.T8.2 r8.B8 = true := by kernel_rfl
end Go.Proofs.Ytekggbmajemmhaa.Gr
/- The document's Apply: bare nodes, told sharper; appends of nodes that lie in memory. Conditions: the nodes lie in memory. -/
namespace Go.Proofs.Ytekggbmajemmhaa.Gr
open Go.RowKit Go.Shelf Go.Maps Go.ChangeMaps Go.MapKept Go.Proofs.YtekggbmajemmhaaW.PrintWords Go.Proofs.YtekggbmajemmhaaW.PrintLast Go.Proofs.YtekggbmajemmhaaW.PrintMore
set_option linter.unusedSimpArgs false
set_option linter.unusedVariables false
theorem add_add (y : Addr) (a b : Nat) : (y.add a).add b = y.add (a + b) := by
  unfold Addr.add
  by_cases h1 : a = 0
  · subst h1; simp
  · by_cases h2 : b = 0
    · subst h2; simp [h1]
    · simp [h1, h2, Nat.add_assoc]
theorem NL.take {W : World} {B : Nat} {a : Option Addr} {m : Nat} {M : List Nd} (h : NL W B a m M) {b : Nat} (hb : b ≤ m) : NL W B a b (M.take b) := by
  refine ⟨by rw [List.length_take, h.1]; omega, fun i hi => ?_⟩
  have e : (M.take b).getD i default = M.getD i default := by rw [List.getD_eq_getElem?_getD, List.getElem?_take, if_pos hi, ← List.getD_eq_getElem?_getD]
  rw [e]
  exact h.2 i (by omega)
theorem NL.drop {W : World} {B : Nat} {a : Option Addr} {m c : Nat} {M : List Nd} (h : NL W B a m M) {b : Nat} (hb : b ≤ m) (hm : m ≤ c) : NL W B (if c = b then a else a.map (·.add (b * 6))) (m - b) (M.drop b) := by
  refine ⟨by rw [List.length_drop, h.1], fun i hi => ?_⟩
  obtain ⟨y, e, hy, hc⟩ := h.2 (b + i) (by omega)
  subst e
  have e : (M.drop b).getD i default = M.getD (b + i) default := by rw [List.getD_eq_getElem?_getD, List.getElem?_drop, ← List.getD_eq_getElem?_getD]
  rw [e, if_neg (by omega)]
  refine ⟨y.add (b * 6), rfl, by rw [add_block]; exact hy, ?_⟩
  have e2 : (y.add (b * 6)).add (i * 6) = y.add ((b + i) * 6) := by rw [add_add, show b * 6 + i * 6 = (b + i) * 6 by omega]
  rw [e2]
  exact hc
section
variable {P : Program} {ops : Array Oper} {Q : Exit → Act → World → Prop}
end
end Go.Proofs.Ytekggbmajemmhaa.Gr
/- The document's Apply: a new node. Conditions: the state lies in memory. -/
namespace Go.Proofs.Ytekggbmajemmhaa.Gr
open Go.RowKit Go.Shelf Go.Maps Go.ChangeMaps Go.MapKept Go.Proofs.YtekggbmajemmhaaW.PrintWords Go.Proofs.YtekggbmajemmhaaW.PrintLast Go.Proofs.YtekggbmajemmhaaW.PrintMore
set_option linter.unusedSimpArgs false
set_option linter.unusedVariables false
theorem DX.own {W W' : World} {q : Nd} {v v' : Value} (h : DX W v.ownBlock.toList q) (hg : W.grownBy W' v.ownBlock) (hat : v'.ownBlock = v.ownBlock ∨ v'.ownBlock = some W.heap.size) : DX W' v'.ownBlock.toList q :=
  h.to (fun j hj hS => hg.block j hj (fun e => hS (Option.mem_toList.2 e.symm))) hg.size (fun j hj hS hS' => by
    rcases hat with e | e
    · rw [e] at hS'
      exact hS hS'
    · rw [e] at hS'
      have := Option.mem_toList.1 hS'
      have h7 : W.heap.size = j := Option.some.inj this
      omega)
/-- The state with new nodes. -/
theorem RS.nodes {wb W W' : World} {g4 : Nat} {vt vn vn' : Value} {R : List Int} {M M' : List Nd} (h : RS wb W g4 vt vn R M) (hb : Below W.heap.size W W') (hr : W'.ownsRow W.heap.size 40 6 vn' M'.length (nds M')) (hrise : Rise (adrs M')) (hM : ∀ n ∈ M', n ∈ M ∨ (DX W' vn'.ownBlock.toList n ∧ n.m = 0 ∧ n.n ≤ 300 ∧ ∀ y, n.B = some y → W.heap.size ≤ y.block)) : RS wb W' g4 vt vn' R M' := by
  have hvt : ∀ k, vt.ownBlock = some k → k < W.heap.size := fun k e => (h.tops.lt k e).2
  have hvn : ∀ k, vn'.ownBlock = some k → W.heap.size ≤ k := fun k e => (hr.lt k e).1
  refine ⟨below_step h.hb hb, blk_below h.res hb, h.res4, Di.row_below h.tops hb, Di.row_mono hr h.hb.size, fun n hn => ?_, hrise, fun n hn => ?_, h.len⟩
  · rcases hM n hn with h1 | ⟨h1, h2, _, h3⟩
    · refine (h.lists n h1).to (fun j hj _ => hb.block j hj) hb.size (fun j hj hS hS' => ?_)
      rcases own2_mem.1 hS' with e | e
      · exact hS (own2_mem.2 (Or.inl e))
      · have := hvn j e
        omega
    · refine ⟨⟨h1.1.1, fun i hi => by omega⟩, ⟨h1.2.1, fun i hi => ?_⟩⟩
      obtain ⟨y, e, k1, k2, k3⟩ := h1.2.2 i hi
      refine ⟨y, e, k1, fun hS => ?_, k3⟩
      rcases own2_mem.1 hS with e2 | e2
      · have := hvt _ e2
        have := h3 y e
        omega
      · exact k2 (Option.mem_toList.2 e2)
  · rcases hM n hn with h1 | ⟨_, h2, h3, _⟩
    · exact h.sz n h1
    · exact ⟨by omega, h3⟩
end Go.Proofs.Ytekggbmajemmhaa.Gr
/- The document's Apply: slots and data. Conditions: the state lies in memory. -/
namespace Go.Proofs.Ytekggbmajemmhaa.Gr
open Go.RowKit Go.Shelf Go.Maps Go.ChangeMaps Go.MapKept Go.Proofs.YtekggbmajemmhaaW.PrintWords Go.Proofs.YtekggbmajemmhaaW.PrintLast Go.Proofs.YtekggbmajemmhaaW.PrintMore
set_option linter.unusedSimpArgs false
set_option linter.unusedVariables false
theorem RS.put {wb W : World} {g4 gn cap ix : Nat} {vt : Value} {R : List Int} {M : List Nd} (h : RS wb W g4 vt (.slice (some ⟨gn, 0, none⟩) M.length cap) R M) (hi : ix < M.length) {x : Nd} (hx : x.adr = (M.getD ix default).adr) (hd : DX W (own2 vt (.slice (some ⟨gn, 0, none⟩) M.length cap)) x) (hsz : x.m ≤ 300 ∧ x.n ≤ 300) : RS wb (put6g W gn ix x) g4 vt (.slice (some ⟨gn, 0, none⟩) M.length cap) R (M.set ix x) := by
  have hp := putg h.rows hi x
  have hgn : wb.heap.size ≤ gn := (h.rows.lt gn rfl).1
  have hn : M[ix]? = some (M.getD ix default) := by rw [List.getD_eq_getElem?_getD, List.getElem?_eq_getElem hi]; rfl
  have hto : ∀ n, DX W (own2 vt (.slice (some ⟨gn, 0, none⟩) M.length cap)) n → DX (put6g W gn ix x) (own2 vt (.slice (some ⟨gn, 0, none⟩) M.length cap)) n := fun n hn => hn.to (fun j hj hS => hp.2.1.block j hj (fun e => hS (own2_mem.2 (Or.inr (by rw [e]; rfl))))) hp.2.1.size (fun _ _ h => h)
  refine ⟨h.hb.trans (hp.2.2), ?_, h.res4, h.tops.kept hp.2.1 ?_, by rw [List.length_set]; exact hp.1, fun n hn => ?_, by rw [adrs_set hn hx]; exact h.rise, fun n hn => ?_, h.len⟩
  · exact (hp.2.1.block g4 (blk_lt h.res) (fun e => h.ne4.2 (by rw [e]; rfl))).trans h.res
  · rcases hv : vt.ownBlock with _ | j
    · exact Or.inl rfl
    · exact Or.inr (fun e => h.ne hv (by rw [e]; rfl))
  · rcases List.mem_or_eq_of_mem_set hn with h1 | h1
    · exact hto n (h.lists n h1)
    · rw [h1]; exact hto x hd
  · rcases List.mem_or_eq_of_mem_set hn with h1 | h1
    · exact h.sz n h1
    · rw [h1]; exact hsz
end Go.Proofs.Ytekggbmajemmhaa.Gr
/- The document's Apply. Conditions: the graph and the changes lie in memory and are small. -/
namespace Go.Proofs.Ytekggbmajemmhaa.Gr
open Go.RowKit Go.Shelf Go.Maps Go.ChangeMaps Go.MapKept Go.Proofs.YtekggbmajemmhaaW.PrintWords Go.Proofs.YtekggbmajemmhaaW.PrintLast Go.Proofs.YtekggbmajemmhaaW.PrintMore
set_option linter.unusedSimpArgs false
set_option linter.unusedVariables false
theorem Fr.drop {a : Act} {k : Nat} {v : Value} {l : List (Nat × Value)} (h : Fr a ((k, v) :: l)) : Fr a l := h.2
/-! ### The loop -/
end Go.Proofs.Ytekggbmajemmhaa.Gr
