/- Parts of one proof, set together: Ap7, Ap8. What each says stands at its head; no condition beyond theirs. -/
import Derived.Test.YtekggbmajemmhaaDb19
/- Apply: maps of nodes and what a change makes of them. No program text is walked here. -/
namespace Go.Proofs.Ytekggbmajemmhaa.Gr
open Go.RowKit Go.Shelf Go.Maps Go.ChangeMaps Go.MapKept Go.Proofs.YtekggbmajemmhaaW.PrintWords Go.Proofs.YtekggbmajemmhaaW.PrintLast Go.Proofs.YtekggbmajemmhaaW.PrintMore
set_option linter.unusedSimpArgs false
set_option linter.unusedVariables false
/-- A map's datum that holds these nodes. -/
def MA (D : DataW Value) (M : List Nd) : Prop := IsMap D ∧ ∀ x z, D.atKey (key x) z = match find M x with | some n => .held n.val | none => z
theorem MA.put {D : DataW Value} {M M' : List Nd} (h : MA D M) {q : Nd} (hf : ∀ y, find M' y = if y = q.adr then some q else find M y) : MA (D.put (key q.adr) (.held q.val)) M' := by
  refine ⟨put_isMap h.1 _ _, fun x z => ?_⟩
  by_cases e : x = q.adr
  · subst e
    rw [atKey_put_same h.1 (key_is _), hf, if_pos rfl]
  · rw [atKey_put_other (fun e' => e (key_inj e')), h.2, hf, if_neg e]
theorem MA.del {D : DataW Value} {M M' : List Nd} (h : MA D M) {a : Int} (hf : ∀ y, find M' y = if y = a then none else find M y) : MA (D.del (key a)) M' := by
  refine ⟨h.1.del _, fun x z => ?_⟩
  by_cases e : x = a
  · subst e
    rw [atKey_del_same, hf, if_pos rfl]
  · rw [atKey_del_other (fun e' => e (key_inj e')), h.2, hf, if_neg e]
theorem MA.has {D : DataW Value} {M : List Nd} (h : MA D M) (x : Int) : Maps.has D (key x) = (find M x).isSome := by
  cases hf : find M x with
  | none => exact has_false_of_atKey fun z => by rw [h.2, hf]
  | some n => exact has_true_of_atKey (y := .held n.val) fun z => by rw [h.2, hf]
theorem MA_sorted {NS : List Nd} {R : List Int} : MA (OD NS (walkR NS R)) (sorted NS (walkR NS R)) := by
  have hS := sorted_walk NS R
  refine ⟨fold_isMap _ _ _ ⟨[], rfl⟩, fun x z => ?_⟩
  rw [OD_at, hS.at_]
  by_cases hx : x ∈ walkR NS R
  · obtain ⟨n, hn⟩ := walkR_find hx
    rw [if_pos hx, if_pos hx, hn]
    rfl
  · rw [if_neg hx, if_neg hx]
theorem look_MA {W : World} {b n : Nat} {D : DataW Value} {M : List Nd} (h : W.ownsMap Try.prog 3 nR b n D) (hM : MA D M) {x : Int} (hk : (Lit.int .i64 x).wf = true) : (Instr.lookup 46 (.map (some b)) (.int .i64 x) true).run Try.prog W = .ok (.tuple #[((find M x).getD default).val, .bool (find M x).isSome]) W := by
  obtain ⟨v, hrun, hv⟩ := look_ok h hk
  rw [hM.has] at hrun
  rw [hM.2] at hv
  cases hf : find M x with
  | none =>
    rw [hf] at hv hrun
    have e := held_inj hv
    subst e
    exact hrun
  | some n =>
    rw [hf] at hv hrun
    have e := held_inj hv
    subst e
    exact hrun
/-- A map of nodes in memory, with their lists. -/
structure DM (W : World) (b nn : Nat) (M : List Nd) : Prop where
  own : ∃ D, W.ownsMap Try.prog 3 nR b nn D ∧ MA D M
  lists : ∀ n ∈ M, DL W W.heap.size n
  ok : ∀ n ∈ M, (Lit.int .i64 n.adr).wf = true
  rise : Rise (adrs M)
  sz : ∀ n ∈ M, n.m ≤ 300 ∧ n.n ≤ 300
theorem IL.grown {k : IntKind} {W W' : World} {b : Nat} {a : Option Addr} {n : Nat} {l : List Int} (h : IL k W W.heap.size a n l) (hg : W.grownBy W' (some b)) {es : Array MapEntry} {cl : Nat} (hb : W.heap[b]? = some (.map es cl)) : IL k W' W'.heap.size a n l := by
  refine ⟨h.1, fun i hi => ?_⟩
  obtain ⟨y, e, hy, hc⟩ := h.2 i hi
  have hne : y.block ≠ b := by
    intro e2
    have : (y.add i).block = b := by rw [add_block]; exact e2
    unfold World.cell? at hc
    rw [this, hb] at hc
    cases hc
  exact ⟨y, e, Nat.lt_of_lt_of_le hy hg.size, (World.cell?_of_block (hg.block _ (by rw [add_block]; exact hy) (by rw [add_block]; exact fun e2 => hne (Option.some.inj e2)))).trans hc⟩
theorem DL.grown {W W' : World} {b : Nat} {n : Nd} (h : DL W W.heap.size n) (hg : W.grownBy W' (some b)) {es : Array MapEntry} {cl : Nat} (hb : W.heap[b]? = some (.map es cl)) : DL W' W'.heap.size n := ⟨h.1.grown hg hb, h.2.grown hg hb⟩
theorem DL.to {W W' : World} {n : Nd} (h : DL W W.heap.size n) (hb : Below W.heap.size W W') : DL W' W'.heap.size n := ⟨h.1.to hb, h.2.to hb⟩
theorem DM.to {W W' : World} {b nn : Nat} {M : List Nd} (h : DM W b nn M) (hb : Below W.heap.size W W') : DM W' b nn M := by
  obtain ⟨D, h1, h2⟩ := h.own
  exact ⟨⟨D, owns_below h1 hb, h2⟩, fun n hn => (h.lists n hn).to hb, h.ok, h.rise, h.sz⟩
/-! ### A change, in nodes of memory -/
theorem pn_adrs (M : List Nd) : (M.map Nd.pn).map Pn.adr = adrs M := by simp [adrs]
theorem pn_getD (M : List Nd) (i : Nat) : (M.map Nd.pn).getD i default = (M.getD i default).pn := by
  simp only [List.getD_eq_getElem?_getD, List.getElem?_map]
  cases M[i]? <;> rfl
theorem step_new {M : List Nd} {c : Ch} (hk : c.k = 2) (hi : idx (adrs M) c.a = none) {q : Nd} (hq : q.pn = bareP c.a c.is) : stepP (M.map Nd.pn) c = some ((M.take (beh (adrs M) c.a) ++ q :: M.drop (beh (adrs M) c.a)).map Nd.pn) := by
  unfold stepP
  rw [if_pos hk, pn_adrs, hi, List.map_append, List.map_cons, List.map_take, List.map_drop, hq]
theorem step_none {M : List Nd} {c : Ch} (hk : c.k ≠ 2) (hi : idx (adrs M) c.a = none) : stepP (M.map Nd.pn) c = none := by
  unfold stepP
  rw [if_neg hk, pn_adrs, hi]
theorem step_twice {M : List Nd} {c : Ch} (hk : c.k = 2) {i : Nat} (hi : idx (adrs M) c.a = some i) : stepP (M.map Nd.pn) c = none := by
  unfold stepP
  rw [if_pos hk, pn_adrs, hi]
theorem step_some {M : List Nd} {c : Ch} (hk : c.k ≠ 2) {i : Nat} (hi : idx (adrs M) c.a = some i) {n : Nd} (hn : M[i]? = some n) : stepP (M.map Nd.pn) c =
    if c.k = 1 then (if u64 n.words = c.was then some ((M.eraseIdx i).map Nd.pn) else none)
    else if c.k = 3 then (if u64 n.words = c.was then some ((M.map Nd.pn).set i (bareP c.a c.is)) else none)
    else if c.k = 4 then (chgS n.S c).map fun S => (M.map Nd.pn).set i { n.pn with S := S }
    else if c.k = 5 then (chgT n.T c).map fun T => (M.map Nd.pn).set i { n.pn with T := T }
    else none := by
  have e : M.getD i default = n := by rw [List.getD_eq_getElem?_getD, hn]; rfl
  unfold stepP
  rw [if_neg hk, pn_adrs, hi]
  simp only [pn_getD, e]
  have h1 : (M.map Nd.pn).eraseIdx i = (M.eraseIdx i).map Nd.pn := by rw [List.eraseIdx_eq_take_drop_succ, List.eraseIdx_eq_take_drop_succ, List.map_append, List.map_take, List.map_drop]
  rw [h1]
theorem set_pn (M : List Nd) (i : Nat) (x : Nd) : (M.map Nd.pn).set i x.pn = (M.set i x).map Nd.pn := by rw [List.map_set]
theorem adrs_set {M : List Nd} {i : Nat} {n x : Nd} (hn : M[i]? = some n) (hx : x.adr = n.adr) : adrs (M.set i x) = adrs M := by
  unfold adrs
  rw [List.map_set, hx]
  obtain ⟨h1, rfl⟩ := List.getElem?_eq_some_iff.1 hn
  refine List.ext_getElem? fun j => ?_
  rw [List.getElem?_set]
  split
  · rename_i e
    subst e
    simp [h1]
  · rfl
theorem DM.erase {W W' : World} {b nn : Nat} {M : List Nd} (h : DM W b nn M) {i : Nat} {n : Nd} (hn : M[i]? = some n) {D : DataW Value} (hM : MA D M) (ho : W'.ownsMap Try.prog 3 nR b nn (D.del (key n.adr))) (hl : ∀ n ∈ M, DL W' W'.heap.size n) : DM W' b nn (M.eraseIdx i) :=
  ⟨⟨_, ho, hM.del fun y => find_erase h.rise hn y⟩, fun q hq => hl q (List.mem_of_mem_eraseIdx hq), fun q hq => h.ok q (List.mem_of_mem_eraseIdx hq), by
    unfold adrs
    rw [List.eraseIdx_eq_take_drop_succ, List.map_append, List.map_take, List.map_drop, ← List.eraseIdx_eq_take_drop_succ]
    exact rise_erase h.rise i, fun q hq => h.sz q (List.mem_of_mem_eraseIdx hq)⟩
theorem DM.set {W W' : World} {b nn : Nat} {M : List Nd} (h : DM W b nn M) {i : Nat} {n x : Nd} (hn : M[i]? = some n) (hx : x.adr = n.adr) {D : DataW Value} (hM : MA D M) (ho : W'.ownsMap Try.prog 3 nR b (nn + 1) (D.put (key n.adr) (.held x.val))) (hl : ∀ n ∈ M, DL W' W'.heap.size n) (hxl : DL W' W'.heap.size x) (hsz : x.m ≤ 300 ∧ x.n ≤ 300) : DM W' b (nn + 1) (M.set i x) := by
  have hmem : ∀ q ∈ M.set i x, q = x ∨ q ∈ M := fun q hq => (List.mem_or_eq_of_mem_set hq).symm
  refine ⟨⟨_, ho, ?_⟩, fun q hq => ?_, fun q hq => ?_, ?_, fun q hq => ?_⟩
  · rw [← hx]
    exact hM.put fun y => by rw [find_set h.rise hn hx, hx]
  · rcases hmem q hq with rfl | hq
    · exact hxl
    · exact hl q hq
  · rcases hmem q hq with rfl | hq
    · rw [hx]; exact h.ok n (List.mem_of_getElem? hn)
    · exact h.ok q hq
  · rw [adrs_set hn hx]; exact h.rise
  · rcases hmem q hq with rfl | hq
    · exact hsz
    · exact h.sz q hq
theorem DM.put {W W' : World} {b nn : Nat} {M : List Nd} (h : DM W b nn M) {x : Nd} (hi : idx (adrs M) x.adr = none) {D : DataW Value} (hM : MA D M) (ho : W'.ownsMap Try.prog 3 nR b (nn + 1) (D.put (key x.adr) (.held x.val))) (hl : ∀ n ∈ M, DL W' W'.heap.size n) (hxl : DL W' W'.heap.size x) (hok : (Lit.int .i64 x.adr).wf = true) (hsz : x.m ≤ 300 ∧ x.n ≤ 300) : DM W' b (nn + 1) (M.take (beh (adrs M) x.adr) ++ x :: M.drop (beh (adrs M) x.adr)) := by
  have hmem : ∀ q ∈ M.take (beh (adrs M) x.adr) ++ x :: M.drop (beh (adrs M) x.adr), q = x ∨ q ∈ M := fun q hq => by
    rcases List.mem_append.1 hq with h | h
    · exact Or.inr (List.mem_of_mem_take h)
    · rcases List.mem_cons.1 h with h | h
      · exact Or.inl h
      · exact Or.inr (List.mem_of_mem_drop h)
  refine ⟨⟨_, ho, hM.put fun y => find_put _ rfl hi y⟩, fun q hq => ?_, fun q hq => ?_, ?_, fun q hq => ?_⟩
  · rcases hmem q hq with rfl | hq
    · exact hxl
    · exact hl q hq
  · rcases hmem q hq with rfl | hq
    · exact hok
    · exact h.ok q hq
  · rw [adrs_put]
    exact rise_put h.rise (idx_none.1 hi)
  · rcases hmem q hq with rfl | hq
    · exact hsz
    · exact h.sz q hq
end Go.Proofs.Ytekggbmajemmhaa.Gr
/- Apply: do. Conditions: the nodes' map lies in memory. -/
namespace Go.Proofs.Ytekggbmajemmhaa.Gr
open Go.RowKit Go.Shelf Go.Maps Go.ChangeMaps Go.MapKept Go.Proofs.YtekggbmajemmhaaW.PrintWords Go.Proofs.YtekggbmajemmhaaW.PrintLast Go.Proofs.YtekggbmajemmhaaW.PrintMore
set_option linter.unusedSimpArgs false
set_option linter.unusedVariables false
/-- What do does. -/
def DoOut (b nn : Nat) (M : List Nd) (c : Ch) (w : World) (e : Ending) (W' : World) : Prop := ∃ ok, e = .returned (.bool ok) ∧ ((stepP (M.map Nd.pn) c = none ∧ ok = false) ∨ ∃ M', stepP (M.map Nd.pn) c = some (M'.map Nd.pn) ∧ ok = true ∧ DM W' b (nn + 1) M') ∧ w.grownBy W' (some b)
theorem gb {w w1 w2 : World} {b : Nat} (h : Below w.heap.size w w1) (g : w1.grownBy w2 (some b)) : w.grownBy w2 (some b) := ⟨g.os.trans h.os, g.tape.trans h.tape, g.output.trans h.output, Nat.le_trans h.size g.size, fun k hk hn => (g.block k (Nat.lt_of_lt_of_le hk h.size) hn).trans (h.block k hk)⟩
theorem DM_mono {W : World} {b nn : Nat} {M : List Nd} (h : DM W b nn M) : DM W b (nn + 1) M := by
  obtain ⟨D, h1, h2⟩ := h.own
  exact ⟨⟨D, h1.mono (Nat.le_succ _), h2⟩, h.lists, h.ok, h.rise, h.sz⟩
theorem th_cases {M : List Nd} {ca : Int} {nq : Nd} {th : Bool} (hnq : nq = (find M ca).getD default) (hth : th = (find M ca).isSome) : (th = false ∧ idx (adrs M) ca = none ∧ nq = default) ∨ (th = true ∧ ∃ i, idx (adrs M) ca = some i ∧ M[i]? = some nq ∧ nq.adr = ca) := by
  cases hi : idx (adrs M) ca with
  | none =>
    rw [find_none_of hi] at hnq hth
    exact Or.inl ⟨hth, rfl, hnq⟩
  | some i =>
    obtain ⟨n, h1, h2, h3⟩ := find_some_of hi
    rw [h2] at hnq hth
    have e : nq = n := hnq
    subst e
    exact Or.inr ⟨hth, i, rfl, h1, h3⟩
theorem nq_lists {W : World} {b nn : Nat} {M : List Nd} (h : DM W b nn M) {ca : Int} {nq : Nd} (hnq : nq = (find M ca).getD default) : DL W W.heap.size nq := by
  cases hf : find M ca with
  | none =>
    rw [hf] at hnq
    subst hnq
    exact ⟨⟨rfl, fun i hi => absurd hi (Nat.not_lt_zero i)⟩, ⟨rfl, fun i hi => absurd hi (Nat.not_lt_zero i)⟩⟩
  | some n =>
    rw [hf] at hnq
    have e : nq = n := hnq
    subst e
    exact h.lists _ (find_mem hf)
theorem nq_sz {W : World} {b nn : Nat} {M : List Nd} (h : DM W b nn M) {ca : Int} {nq : Nd} (hnq : nq = (find M ca).getD default) : nq.m ≤ 300 ∧ nq.n ≤ 300 := by
  cases hf : find M ca with
  | none =>
    rw [hf] at hnq
    subst hnq
    exact ⟨Nat.zero_le _, Nat.zero_le _⟩
  | some n =>
    rw [hf] at hnq
    have e : nq = n := hnq
    subst e
    exact h.sz _ (find_mem hf)
theorem step_no {M : List Nd} {c : Ch} (k1 : ¬ c.k = 1) (k2 : ¬ c.k = 2) (k3 : ¬ c.k = 3) (k4 : ¬ c.k = 4) (k5 : ¬ c.k = 5) : stepP (M.map Nd.pn) c = none := by
  unfold stepP
  rw [if_neg k2]
  split
  · rfl
  · rw [if_neg k1, if_neg k3, if_neg k4, if_neg k5]
theorem chgS_len {l l' : List Int} {c : Ch} (h : chgS l c = some l') : l'.length = l.length := by
  unfold chgS at h
  split at h
  · cases h; simp
  · cases h
theorem chgT_len {l l' : List Int} {c : Ch} (h : chgT l c = some l') : l'.length = l.length := by
  unfold chgT at h
  split at h
  · cases h; simp
  · cases h
/-- A list of numbers lies in no block of a slice's value that is stored into. -/
theorem IL_far {k : IntKind} {W W' : World} {g j : Nat} {u : Value} {a : Option Addr} {n : Nat} {l : List Int} (h : IL k W W.heap.size a n l) (hW : W' = W.setCell ⟨g, j, none⟩ u) (hg : ∀ y, a = some y → y.block ≠ g) : IL k W' W'.heap.size a n l := by
  subst hW
  refine ⟨h.1, fun i hi => ?_⟩
  obtain ⟨y, e, hy, hc⟩ := h.2 i hi
  have hne := hg y e
  exact ⟨y, e, by simpa [World.setCell] using hy, (World.cell?_of_block (Below.heap_setCell W ⟨g, j, none⟩ u _ (by rw [add_block]; exact hne))).trans hc⟩
def do6.T6 : Bool × List (List Nat × List Nat) := (true, [([], []), ([0], [0]), ([1], [1]), ([2, 1, 1], [1, 2]), ([1], [1]), ([4, 1], [1, 4]), ([3, 5, 1], [1, 3, 5]), ([1, 6], [1, 6]), ([7, 3, 0, 1, 2, 3, 4, 5, 6, 7], [0, 7])])
def do6.B6 : List Nat := [0, 1, 3, 7, 3, 19, 63, 127, 255]
theorem do6.tab6 : rtab .any (opsOf Try.f19 6) = do6.T6 := by kernel_rfl
theorem do6.bits6 : waitsOk do6.T6.2 do6.B6 = true := by kernel_rfl
def do12.T12 : Bool × List (List Nat × List Nat) := (true, [([], []), ([0], [0]), ([1], [1]), ([2, 1, 1], [1, 2]), ([1], [1]), ([4, 1], [1, 4]), ([3, 5, 1], [1, 3, 5]), ([1, 6], [1, 6]), ([7, 3, 0, 1, 2, 3, 4, 5, 6, 7], [0, 7])])
def do12.B12 : List Nat := [0, 1, 3, 7, 3, 19, 63, 127, 255]
theorem do12.tab12 : rtab .any (opsOf Try.f19 12) = do12.T12 := by kernel_rfl
theorem do12.bits12 : waitsOk do12.T12.2 do12.B12 = true := by kernel_rfl
def do10.T10 : Bool × List (List Nat × List Nat) := (true, [([], []), ([], []), ([1], [1]), ([], []), ([3], [3]), ([], []), ([5], [5]), ([4, 6], [4, 6]), ([0, 2, 7, 7, 0, 1, 2, 3, 4, 5, 6, 7], [0, 2, 7])])
def do10.B10 : List Nat := [0, 0, 2, 0, 8, 0, 32, 120, 255]
theorem do10.tab10 : rtab .any (opsOf Try.f19 10) = do10.T10 := by kernel_rfl
theorem do10.bits10 : waitsOk do10.T10.2 do10.B10 = true := by kernel_rfl
def do13.T13 : Bool × List (List Nat × List Nat) := (true, [([], []), ([], []), ([1], [1]), ([], []), ([3], [3]), ([], []), ([5], [5]), ([4, 6], [4, 6]), ([0, 2, 7, 7, 0, 1, 2, 3, 4, 5, 6, 7], [0, 2, 7])])
def do13.B13 : List Nat := [0, 0, 2, 0, 8, 0, 32, 120, 255]
theorem do13.tab13 : rtab .any (opsOf Try.f19 13) = do13.T13 := by kernel_rfl
theorem do13.bits13 : waitsOk do13.T13.2 do13.B13 = true := by kernel_rfl
set_option maxHeartbeats 16000000 in
set_option maxRecDepth 100000 in
theorem do_calls (w : World) (mb nn : Nat) (hnn : nn ≤ 1000000) (M : List Nd) (HM : Aside0 (DM w mb nn M)) (ck ca ci cw cs : Int) (hca : (Lit.int .i64 ca).wf = true) (hcs : (Lit.int .u64 cs).wf = true) : Calls Try.prog 19 #[.map (some mb), .agg #[.int .i64 ck, .int .i64 ca, .int .i64 ci, .int .u64 cw, .int .u64 cs]] w fun e W' => DoOut mb nn M (⟨ck, ca, ci, cw, cs⟩ : Ch) w e W' := by
  obtain ⟨D, hown, hMA⟩ := HM.out.own
  have HMA := Aside0.mk hMA
  have HOWN := Aside0.mk hown
  have HCA := Aside0.mk hca
  have HCS := Aside0.mk hcs
  clear hown hMA hca hcs
  obtain ⟨nq, hnq⟩ : ∃ q, q = (find M ca).getD default := ⟨_, rfl⟩
  obtain ⟨th, hth⟩ : ∃ t, t = (find M ca).isSome := ⟨_, rfl⟩
  have TC := Aside0.mk (th_cases hnq hth)
  have LQ := Aside0.mk (nq_lists HM.out hnq)
  have SZQ := Aside0.mk (nq_sz HM.out hnq)
  have HB := Aside0.mk (Below.refl w.heap.size w)
  go_enter Try.func19, Try.ntmps19
  go_upto_region 1 with ((with_reducible refine gate_dst (N := 3) rfl ?_); refine box_event ?hg (N := 3) ?hd (cs := #[.int .i64 ck, .int .i64 ca, .int .i64 ci, .int .u64 cw, .int .u64 cs]) (t := 44) ?hr ?_; (case hd => rfl); (case hg => rfl); (case hr => first | (go_simp; done) | (go_simp; rfl)); intro g3 hg w1_ hbox hb; have n0_ := Aside0.mk (below_step (by repeat (first | (with_reducible first | exact HB.out | apply below_alloc | apply pw_below_drewN | apply below_drew1) | exact HB.out)) hb); have n1_ := Aside0.mk hbox; have n2_ := Aside0.mk ((by rw [hg]; exact (below_size (by repeat (first | (with_reducible first | exact HB.out | apply below_alloc | apply pw_below_drewN | apply below_drew1) | exact HB.out)))) : w.heap.size ≤ g3); clear HB; have HB := n0_; have BK3 := n1_; have GE3 := n2_; clear n0_ n1_ n2_; clear hb hbox hg)
  have hlk := look_MA (owns_below HOWN.out HB.out) HMA.out HCA.out
  rw [← hnq, ← hth] at hlk
  clear hnq hth
  have hc3 : w1_.cell? ⟨g3, 1, none⟩ = some (.int .i64 ca) := (blk_cell BK3.out 1).trans rfl
  go_upto_region 2 with fail
  clear hlk hc3
  obtain ⟨g5, hg5⟩ : ∃ x, x = w1_.heap.size := ⟨_, rfl⟩
  obtain ⟨wz, hwz⟩ : ∃ x, x = w1_.alloc (.cells #[.int .i64 nq.adr, .int .i64 nq.refs, .int .i64 nq.sl, .int .i64 nq.words, .slice nq.A nq.m nq.c, .slice nq.B nq.n nq.d] 40) := ⟨_, rfl⟩
  rw [← hg5, ← hwz]
  have hbz : Below w1_.heap.size w1_ wz := by rw [hwz]; exact below_alloc (Below.refl _ _) _
  have HBz := Aside0.mk (below_step HB.out hbz)
  have BK5 := Aside0.mk (show wz.heap[g5]? = some (.cells #[.int .i64 nq.adr, .int .i64 nq.refs, .int .i64 nq.sl, .int .i64 nq.words, .slice nq.A nq.m nq.c, .slice nq.B nq.n nq.d] 40 (0, 0)) by rw [hwz, hg5]; exact blk_new _ _)
  have BK3z := Aside0.mk (blk_below BK3.out hbz)
  have NE35 := Aside0.mk (show g3 ≠ g5 by rw [hg5]; exact Nat.ne_of_lt (blk_lt BK3.out))
  have GE5 := Aside0.mk (show w.heap.size ≤ g5 by rw [hg5]; exact HB.out.size)
  have OWZ := Aside0.mk (owns_below (owns_below HOWN.out HB.out) hbz)
  have NEB := Aside0.mk (show mb ≠ g5 by rw [hg5]; exact Nat.ne_of_lt (owns_below HOWN.out HB.out).lt)
  have LSZ := Aside0.mk (fun n hn => (HM.out.lists n hn).to HBz.out : ∀ n ∈ M, DL wz wz.heap.size n)
  have LQZ := Aside0.mk (LQ.out.to HBz.out)
  clear hbz HB BK3 hwz hg5
  have hx3_0 : wz.cell? ⟨g3, 0, none⟩ = some (.int .i64 ck) := (blk_cell BK3z.out 0).trans rfl
  have hx3_1 : wz.cell? ⟨g3, 1, none⟩ = some (.int .i64 ca) := (blk_cell BK3z.out 1).trans rfl
  have hx3_2 : wz.cell? ⟨g3, 2, none⟩ = some (.int .i64 ci) := (blk_cell BK3z.out 2).trans rfl
  have hx3_3 : wz.cell? ⟨g3, 3, none⟩ = some (.int .u64 cw) := (blk_cell BK3z.out 3).trans rfl
  have hx3_4 : wz.cell? ⟨g3, 4, none⟩ = some (.int .u64 cs) := (blk_cell BK3z.out 4).trans rfl
  have hx5_0 : wz.cell? ⟨g5, 0, none⟩ = some (.int .i64 nq.adr) := (blk_cell BK5.out 0).trans rfl
  have hx5_1 : wz.cell? ⟨g5, 1, none⟩ = some (.int .i64 nq.refs) := (blk_cell BK5.out 1).trans rfl
  have hx5_2 : wz.cell? ⟨g5, 2, none⟩ = some (.int .i64 nq.sl) := (blk_cell BK5.out 2).trans rfl
  have hx5_3 : wz.cell? ⟨g5, 3, none⟩ = some (.int .i64 nq.words) := (blk_cell BK5.out 3).trans rfl
  have hx5_4 : wz.cell? ⟨g5, 4, none⟩ = some (.slice nq.A nq.m nq.c) := (blk_cell BK5.out 4).trans rfl
  have hx5_5 : wz.cell? ⟨g5, 5, none⟩ = some (.slice nq.B nq.n nq.d) := (blk_cell BK5.out 5).trans rfl
  have hf5_0 := blk_frozen BK5.out 0
  have hf5_1 := blk_frozen BK5.out 1
  have hf5_2 := blk_frozen BK5.out 2
  have hf5_3 := blk_frozen BK5.out 3
  have hf5_4 := blk_frozen BK5.out 4
  have hf5_5 := blk_frozen BK5.out 5
  by_cases k1 : ck = 1
  · subst k1
    go_upto_region 6 with fail
    clear hx3_0 hx3_1 hx3_2 hx3_3 hx3_4 hx5_0 hx5_1 hx5_2 hx5_3 hx5_4 hx5_5 hf5_0 hf5_1 hf5_2 hf5_3 hf5_4 hf5_5
    rcases TC.out with ⟨rfl, hidx, hdf_⟩ | ⟨rfl, i, hidx, hmi, hadr⟩
    · have HNO := Aside0.mk (step_none (M := M) (c := (⟨1, ca, ci, cw, cs⟩ : Ch)) (show (1 : Int) ≠ 2 by decide) hidx)
      clear hdf_
      have HR := Aside0.mk (Below.refl wz.heap.size wz)
      refine start_ (n := 9) (S := fun w' => True) (ds := []) #[false, false, false, false, false, false, false, false, false] (by kernel_rfl) rfl rfl trivial (fun hHeld => ?_)
      refine with_tabW do6.tab6 do6.bits6 (fun HT_ HW_ => ?_)
      refine inv_at [0, 1, 2, 3, 4, 5, 6, 7, 8] (fun a0_ b a w' => a = putSel a0_ b [(0, 24, .bool false), (1, 25, .bool false), (2, 26, undef), (3, 27, undef), (4, 28, undef), (5, 29, undef), (6, 30, undef), (7, 31, .bool false), (8, 7, .bool false)] ∧ (Below wz.heap.size wz w')) HT_.out HW_.out (by kernel_rfl) (by kernel_rfl) ?_ ?_ ?_
      · exact ⟨by simp only [putSel, Bool.false_eq_true, if_false], below_drew1 HR.out⟩
      · skip
        clear HR
        refine steps_cons ?_ ?_
        · rintro b a w' ⟨ha, Q_HR⟩ hb_ hon hoff
          refine ⟨_, rfl, fun K hK => ?_⟩
          have e7 : a.tmps[7]? = some (.bool false) := by rw [ha]; exact (putSel_not (hoff 8 (by kernel_rfl)) rfl).trans rfl
          replace ha := Aside0.mk ha
          have HR := Aside0.mk Q_HR
          refine value_ (w1 := w') (v := .bool false) (by rfl) rfl ?_ ?_
          · go_simp
            (try simp only [i64_w])
            try rfl
          refine hK.out _ _ ⟨(by rw [ha.out]; exact putSel_upk 0 hb_ rfl rfl rfl), Q_HR⟩
        refine steps_cons ?_ ?_
        · rintro b a w' ⟨ha, Q_HR⟩ hb_ hon hoff
          refine ⟨_, rfl, fun K hK => ?_⟩
          have e24 : a.tmps[24]? = some (.bool false) := by rw [ha]; exact putSel_on (e := (0, 24, .bool false)) 0 rfl rfl (hon 0 (by kernel_rfl)) rfl
          replace ha := Aside0.mk ha
          have HR := Aside0.mk Q_HR
          refine value_ (w1 := w') (v := .bool false) (by rfl) rfl ?_ ?_
          · go_simp
            (try simp only [i64_w])
            try rfl
          refine hK.out _ _ ⟨(by rw [ha.out]; exact putSel_upk 1 hb_ rfl rfl rfl), Q_HR⟩
        refine steps_cons ?_ ?_
        · rintro b a w' ⟨ha, Q_HR⟩ hb_ hon hoff
          refine ⟨_, rfl, fun K hK => ?_⟩
          have e25 : a.tmps[25]? = some (.bool false) := by rw [ha]; exact putSel_on (e := (1, 25, .bool false)) 1 rfl rfl (hon 1 (by kernel_rfl)) rfl
          replace ha := Aside0.mk ha
          have HR := Aside0.mk Q_HR
          refine off_ (wanted_off rfl rfl rfl (e25.trans (by first | rfl | (simp [*]; done)))) ?_
          refine hK.out _ _ ⟨(by rw [ha.out]; exact putSel_upk 2 hb_ rfl rfl rfl), Q_HR⟩
        refine steps_cons ?_ ?_
        · rintro b a w' ⟨ha, Q_HR⟩ hb_ hon hoff
          refine ⟨_, rfl, fun K hK => ?_⟩
          have e25 : a.tmps[25]? = some (.bool false) := by rw [ha]; exact putSel_on (e := (1, 25, .bool false)) 1 rfl rfl (hon 1 (by kernel_rfl)) rfl
          replace ha := Aside0.mk ha
          have HR := Aside0.mk Q_HR
          refine off_ (wanted_off rfl rfl rfl (e25.trans (by first | rfl | (simp [*]; done)))) ?_
          refine hK.out _ _ ⟨(by rw [ha.out]; exact putSel_upk 3 hb_ rfl rfl rfl), Q_HR⟩
        refine steps_cons ?_ ?_
        · rintro b a w' ⟨ha, Q_HR⟩ hb_ hon hoff
          refine ⟨_, rfl, fun K hK => ?_⟩
          have e25 : a.tmps[25]? = some (.bool false) := by rw [ha]; exact putSel_on (e := (1, 25, .bool false)) 1 rfl rfl (hon 1 (by kernel_rfl)) rfl
          replace ha := Aside0.mk ha
          have HR := Aside0.mk Q_HR
          refine off_ (wanted_off rfl rfl rfl (e25.trans (by first | rfl | (simp [*]; done)))) ?_
          refine hK.out _ _ ⟨(by rw [ha.out]; exact putSel_upk 4 hb_ rfl rfl rfl), Q_HR⟩
        refine steps_cons ?_ ?_
        · rintro b a w' ⟨ha, Q_HR⟩ hb_ hon hoff
          refine ⟨_, rfl, fun K hK => ?_⟩
          have e25 : a.tmps[25]? = some (.bool false) := by rw [ha]; exact putSel_on (e := (1, 25, .bool false)) 1 rfl rfl (hon 1 (by kernel_rfl)) rfl
          replace ha := Aside0.mk ha
          have HR := Aside0.mk Q_HR
          refine off_ (wanted_off rfl rfl rfl (e25.trans (by first | rfl | (simp [*]; done)))) ?_
          refine hK.out _ _ ⟨(by rw [ha.out]; exact putSel_upk 5 hb_ rfl rfl rfl), Q_HR⟩
        refine steps_cons ?_ ?_
        · rintro b a w' ⟨ha, Q_HR⟩ hb_ hon hoff
          refine ⟨_, rfl, fun K hK => ?_⟩
          have e25 : a.tmps[25]? = some (.bool false) := by rw [ha]; exact putSel_on (e := (1, 25, .bool false)) 1 rfl rfl (hon 1 (by kernel_rfl)) rfl
          replace ha := Aside0.mk ha
          have HR := Aside0.mk Q_HR
          refine off_ (wanted_off rfl rfl rfl (e25.trans (by first | rfl | (simp [*]; done)))) ?_
          refine hK.out _ _ ⟨(by rw [ha.out]; exact putSel_upk 6 hb_ rfl rfl rfl), Q_HR⟩
        refine steps_cons ?_ ?_
        · rintro b a w' ⟨ha, Q_HR⟩ hb_ hon hoff
          refine ⟨_, rfl, fun K hK => ?_⟩
          have e25 : a.tmps[25]? = some (.bool false) := by rw [ha]; exact putSel_on (e := (1, 25, .bool false)) 1 rfl rfl (hon 1 (by kernel_rfl)) rfl
          have e30 : a.tmps[30]? = some (undef) := by rw [ha]; exact putSel_on (e := (6, 30, undef)) 6 rfl rfl (hon 6 (by kernel_rfl)) rfl
          replace ha := Aside0.mk ha
          have HR := Aside0.mk Q_HR
          refine value_ (w1 := w') (v := .bool false) (by rfl) rfl ?_ ?_
          · go_simp
            (try simp only [i64_w])
            try rfl
          refine hK.out _ _ ⟨(by rw [ha.out]; exact putSel_upk 7 hb_ rfl rfl rfl), Q_HR⟩
        refine steps_cons ?_ ?_
        · rintro b a w' ⟨ha, Q_HR⟩ hb_ hon hoff
          refine ⟨_, rfl, fun K hK => ?_⟩
          have e31 : a.tmps[31]? = some (.bool false) := by rw [ha]; exact putSel_on (e := (7, 31, .bool false)) 7 rfl rfl (hon 7 (by kernel_rfl)) rfl
          replace ha := Aside0.mk ha
          have HR := Aside0.mk Q_HR
          refine value_ (w1 := w') (v := .bool false) (by rfl) rfl ?_ ?_
          · go_simp
            (try simp only [i64_w])
            try rfl
          refine hK.out _ _ ⟨(by rw [ha.out]; exact putSel_upk 8 hb_ rfl rfl rfl), Q_HR⟩
        exact steps_nil
      rintro b a wq hall ⟨ha, Q_HR⟩
      clear HR
      have hb0_ := hall 0 (by kernel_rfl)
      have hb1_ := hall 1 (by kernel_rfl)
      have hb2_ := hall 2 (by kernel_rfl)
      have hb3_ := hall 3 (by kernel_rfl)
      have hb4_ := hall 4 (by kernel_rfl)
      have hb5_ := hall 5 (by kernel_rfl)
      have hb6_ := hall 6 (by kernel_rfl)
      have hb7_ := hall 7 (by kernel_rfl)
      have hb8_ := hall 8 (by kernel_rfl)
      subst ha
      simp only [putSel, hb0_, hb1_, hb2_, hb3_, hb4_, hb5_, hb6_, hb7_, hb8_, if_true, Act.put, List.setIfInBounds_toArray, List.set_cons_zero, List.set_cons_succ]
      have HR := Aside0.mk Q_HR
      clear Q_HR
      clear hall hb0_ hb1_ hb2_ hb3_ hb4_ hb5_ hb6_ hb7_ hb8_
      have HBq := Aside0.mk (below_step HBz.out HR.out)
      have BKq3 := Aside0.mk (blk_below BK3z.out HR.out)
      have OWQ := Aside0.mk (owns_below OWZ.out HR.out)
      have LSQ := Aside0.mk (fun n hn => (LSZ.out n hn).to HR.out : ∀ n ∈ M, DL wq wq.heap.size n)
      have hx3_0 : wq.cell? ⟨g3, 0, none⟩ = some (.int .i64 1) := (blk_cell BKq3.out 0).trans rfl
      have hx3_1 : wq.cell? ⟨g3, 1, none⟩ = some (.int .i64 ca) := (blk_cell BKq3.out 1).trans rfl
      have hx3_2 : wq.cell? ⟨g3, 2, none⟩ = some (.int .i64 ci) := (blk_cell BKq3.out 2).trans rfl
      have hx3_3 : wq.cell? ⟨g3, 3, none⟩ = some (.int .u64 cw) := (blk_cell BKq3.out 3).trans rfl
      have hx3_4 : wq.cell? ⟨g3, 4, none⟩ = some (.int .u64 cs) := (blk_cell BKq3.out 4).trans rfl
      go_wp2_with (at_delete; refine wpList_delete_own _ rfl _ _ 46 3 rfl 40 Di.keyed3 Try.underlying46 nR mb nn D rfl OWQ.out _ _ rfl (keyOf3 HCA.out) ?_; intro w5 hown5 hturn5; have HG5 := Aside0.mk (gb HBq.out hturn5.grown); obtain ⟨es5, cl5, hb5, _⟩ := OWQ.out; have LS5 := Aside0.mk (fun n hn => (LSQ.out n hn).grown hturn5.grown hb5 : ∀ n ∈ M, DL w5 w5.heap.size n); have OW5 := Aside0.mk hown5; clear hown5 hturn5 hb5)
      go_ret
      exact ⟨false, rfl, .inl ⟨HNO.out, rfl⟩, HG5.out⟩
    · obtain ⟨bb, hbb⟩ : ∃ t, (u64 nq.words == cw) = t := ⟨_, rfl⟩
      have hbb' : decide (u64 nq.words = cw) = bb := by rw [← hbb]; rfl
      have hst := step_some (M := M) (c := (⟨1, ca, ci, cw, cs⟩ : Ch)) (show (1 : Int) ≠ 2 by decide) hidx hmi
      rw [if_pos rfl] at hst
      have HST := Aside0.mk hst
      have HMI := Aside0.mk hmi
      have HAD := Aside0.mk hadr
      have HBB := Aside0.mk hbb
      clear hst hidx hmi hadr
      have HR := Aside0.mk (Below.refl wz.heap.size wz)
      refine start_ (n := 9) (S := fun w' => True) (ds := []) #[false, false, false, false, false, false, false, false, false] (by kernel_rfl) rfl rfl trivial (fun hHeld => ?_)
      refine with_tabW do6.tab6 do6.bits6 (fun HT_ HW_ => ?_)
      refine inv_at [0, 1, 2, 3, 4, 5, 6, 7, 8] (fun a0_ b a w' => a = putSel a0_ b [(0, 24, .bool true), (1, 25, .bool true), (2, 26, .agg #[.int .i64 nq.adr, .int .i64 nq.refs, .int .i64 nq.sl, .int .i64 nq.words, .slice nq.A nq.m nq.c, .slice nq.B nq.n nq.d]), (3, 27, .int .u64 (u64 nq.words)), (4, 28, .pointer (some ⟨g3, 3, none⟩)), (5, 29, .int .u64 cw), (6, 30, .bool bb), (7, 31, .bool bb), (8, 7, .bool bb)] ∧ (Below wz.heap.size wz w')) HT_.out HW_.out (by kernel_rfl) (by kernel_rfl) ?_ ?_ ?_
      · exact ⟨by simp only [putSel, Bool.false_eq_true, if_false], below_drew1 HR.out⟩
      · skip
        clear HR
        refine steps_cons ?_ ?_
        · rintro b a w' ⟨ha, Q_HR⟩ hb_ hon hoff
          refine ⟨_, rfl, fun K hK => ?_⟩
          have e7 : a.tmps[7]? = some (.bool true) := by rw [ha]; exact (putSel_not (hoff 8 (by kernel_rfl)) rfl).trans rfl
          replace ha := Aside0.mk ha
          have HR := Aside0.mk Q_HR
          refine value_ (w1 := w') (v := .bool true) (by rfl) rfl ?_ ?_
          · go_simp
            (try simp only [i64_w])
            try rfl
          refine hK.out _ _ ⟨(by rw [ha.out]; exact putSel_upk 0 hb_ rfl rfl rfl), Q_HR⟩
        refine steps_cons ?_ ?_
        · rintro b a w' ⟨ha, Q_HR⟩ hb_ hon hoff
          refine ⟨_, rfl, fun K hK => ?_⟩
          have e24 : a.tmps[24]? = some (.bool true) := by rw [ha]; exact putSel_on (e := (0, 24, .bool true)) 0 rfl rfl (hon 0 (by kernel_rfl)) rfl
          replace ha := Aside0.mk ha
          have HR := Aside0.mk Q_HR
          refine value_ (w1 := w') (v := .bool true) (by rfl) rfl ?_ ?_
          · go_simp
            (try simp only [i64_w])
            try rfl
          refine hK.out _ _ ⟨(by rw [ha.out]; exact putSel_upk 1 hb_ rfl rfl rfl), Q_HR⟩
        refine steps_cons ?_ ?_
        · rintro b a w' ⟨ha, Q_HR⟩ hb_ hon hoff
          refine ⟨_, rfl, fun K hK => ?_⟩
          have e5 : a.tmps[5]? = some (.pointer (some ⟨g5, 0, none⟩)) := by rw [ha]; exact (putSel_off rfl).trans rfl
          have e25 : a.tmps[25]? = some (.bool true) := by rw [ha]; exact putSel_on (e := (1, 25, .bool true)) 1 rfl rfl (hon 1 (by kernel_rfl)) rfl
          replace ha := Aside0.mk ha
          have HR := Aside0.mk Q_HR
          have hl26_0 : w'.cell? ⟨g5, 0, none⟩ = some (.int .i64 nq.adr) := (blk_cell (blk_below BK5.out HR.out) 0).trans rfl
          have hl26_1 : w'.cell? ⟨g5, 1, none⟩ = some (.int .i64 nq.refs) := (blk_cell (blk_below BK5.out HR.out) 1).trans rfl
          have hl26_2 : w'.cell? ⟨g5, 2, none⟩ = some (.int .i64 nq.sl) := (blk_cell (blk_below BK5.out HR.out) 2).trans rfl
          have hl26_3 : w'.cell? ⟨g5, 3, none⟩ = some (.int .i64 nq.words) := (blk_cell (blk_below BK5.out HR.out) 3).trans rfl
          have hl26_4 : w'.cell? ⟨g5, 4, none⟩ = some (.slice nq.A nq.m nq.c) := (blk_cell (blk_below BK5.out HR.out) 4).trans rfl
          have hl26_5 : w'.cell? ⟨g5, 5, none⟩ = some (.slice nq.B nq.n nq.d) := (blk_cell (blk_below BK5.out HR.out) 5).trans rfl
          refine value_ (w1 := w') (v := .agg #[.int .i64 nq.adr, .int .i64 nq.refs, .int .i64 nq.sl, .int .i64 nq.words, .slice nq.A nq.m nq.c, .slice nq.B nq.n nq.d]) (wanted_on rfl rfl rfl (e25.trans (by first | rfl | (simp [*]; done)))) rfl ?_ ?_
          · go_simp
            (try simp only [i64_w])
            try rfl
          refine hK.out _ _ ⟨(by rw [ha.out]; exact putSel_upk 2 hb_ rfl rfl rfl), Q_HR⟩
        refine steps_cons ?_ ?_
        · rintro b a w' ⟨ha, Q_HR⟩ hb_ hon hoff
          refine ⟨_, rfl, fun K hK => ?_⟩
          have e26 : a.tmps[26]? = some (.agg #[.int .i64 nq.adr, .int .i64 nq.refs, .int .i64 nq.sl, .int .i64 nq.words, .slice nq.A nq.m nq.c, .slice nq.B nq.n nq.d]) := by rw [ha]; exact putSel_on (e := (2, 26, .agg #[.int .i64 nq.adr, .int .i64 nq.refs, .int .i64 nq.sl, .int .i64 nq.words, .slice nq.A nq.m nq.c, .slice nq.B nq.n nq.d])) 2 rfl rfl (hon 2 (by kernel_rfl)) rfl
          have e25 : a.tmps[25]? = some (.bool true) := by rw [ha]; exact putSel_on (e := (1, 25, .bool true)) 1 rfl rfl (hon 1 (by kernel_rfl)) rfl
          replace ha := Aside0.mk ha
          have HR := Aside0.mk Q_HR
          refine goes_ Try.func35 (by kernel_rfl) rfl #[.agg #[.int .i64 nq.adr, .int .i64 nq.refs, .int .i64 nq.sl, .int .i64 nq.words, .slice nq.A nq.m nq.c, .slice nq.B nq.n nq.d]] (wanted_on rfl rfl rfl (e25.trans (by first | rfl | (simp [*]; done)))) rfl rfl (by first | (simp only [List.map_toArray, List.map_cons, List.map_nil, Act.eval, Array.getD_eq_getD_getElem?, Option.getD_some, e26, e25]; done) | (simp only [List.map_toArray, List.map_cons, List.map_nil, Act.eval, Array.getD_eq_getD_getElem?, Option.getD_some, e26, e25]; rfl)) ?_
          with_reducible refine (words_calls _ nq.adr nq.refs nq.sl nq.words nq.A nq.m nq.c nq.B nq.n nq.d).mono ?_
          rintro e w3 ⟨rfl, hb⟩
          refine ⟨_, rfl, ?_⟩
          refine hK.out _ _ ⟨(by rw [ha.out]; exact putSel_upk 3 hb_ rfl rfl rfl), (below_step HR.out hb)⟩
        refine steps_cons ?_ ?_
        · rintro b a w' ⟨ha, Q_HR⟩ hb_ hon hoff
          refine ⟨_, rfl, fun K hK => ?_⟩
          have e3 : a.tmps[3]? = some (.pointer (some ⟨g3, 0, none⟩)) := by rw [ha]; exact (putSel_off rfl).trans rfl
          have e25 : a.tmps[25]? = some (.bool true) := by rw [ha]; exact putSel_on (e := (1, 25, .bool true)) 1 rfl rfl (hon 1 (by kernel_rfl)) rfl
          replace ha := Aside0.mk ha
          have HR := Aside0.mk Q_HR
          refine value_ (w1 := w') (v := .pointer (some ⟨g3, 3, none⟩)) (wanted_on rfl rfl rfl (e25.trans (by first | rfl | (simp [*]; done)))) rfl ?_ ?_
          · go_simp
            (try simp only [i64_w])
            try rfl
          refine hK.out _ _ ⟨(by rw [ha.out]; exact putSel_upk 4 hb_ rfl rfl rfl), Q_HR⟩
        refine steps_cons ?_ ?_
        · rintro b a w' ⟨ha, Q_HR⟩ hb_ hon hoff
          refine ⟨_, rfl, fun K hK => ?_⟩
          have e28 : a.tmps[28]? = some (.pointer (some ⟨g3, 3, none⟩)) := by rw [ha]; exact putSel_on (e := (4, 28, .pointer (some ⟨g3, 3, none⟩))) 4 rfl rfl (hon 4 (by kernel_rfl)) rfl
          have e25 : a.tmps[25]? = some (.bool true) := by rw [ha]; exact putSel_on (e := (1, 25, .bool true)) 1 rfl rfl (hon 1 (by kernel_rfl)) rfl
          replace ha := Aside0.mk ha
          have HR := Aside0.mk Q_HR
          have hl29 : w'.cell? ⟨g3, 3, none⟩ = some (.int .u64 cw) := (blk_cell (blk_below BK3z.out HR.out) 3).trans rfl
          refine value_ (w1 := w') (v := .int .u64 cw) (wanted_on rfl rfl rfl (e25.trans (by first | rfl | (simp [*]; done)))) rfl ?_ ?_
          · go_simp
            (try simp only [i64_w])
            try rfl
          refine hK.out _ _ ⟨(by rw [ha.out]; exact putSel_upk 5 hb_ rfl rfl rfl), Q_HR⟩
        refine steps_cons ?_ ?_
        · rintro b a w' ⟨ha, Q_HR⟩ hb_ hon hoff
          refine ⟨_, rfl, fun K hK => ?_⟩
          have e27 : a.tmps[27]? = some (.int .u64 (u64 nq.words)) := by rw [ha]; exact putSel_on (e := (3, 27, .int .u64 (u64 nq.words))) 3 rfl rfl (hon 3 (by kernel_rfl)) rfl
          have e29 : a.tmps[29]? = some (.int .u64 cw) := by rw [ha]; exact putSel_on (e := (5, 29, .int .u64 cw)) 5 rfl rfl (hon 5 (by kernel_rfl)) rfl
          have e25 : a.tmps[25]? = some (.bool true) := by rw [ha]; exact putSel_on (e := (1, 25, .bool true)) 1 rfl rfl (hon 1 (by kernel_rfl)) rfl
          replace ha := Aside0.mk ha
          have HR := Aside0.mk Q_HR
          refine value_ (w1 := w') (v := .bool bb) (wanted_on rfl rfl rfl (e25.trans (by first | rfl | (simp [*]; done)))) rfl ?_ ?_
          · go_simp
            (try simp only [i64_w])
            try rfl
          refine hK.out _ _ ⟨(by rw [ha.out]; exact putSel_upk 6 hb_ rfl rfl rfl), Q_HR⟩
        refine steps_cons ?_ ?_
        · rintro b a w' ⟨ha, Q_HR⟩ hb_ hon hoff
          refine ⟨_, rfl, fun K hK => ?_⟩
          have e25 : a.tmps[25]? = some (.bool true) := by rw [ha]; exact putSel_on (e := (1, 25, .bool true)) 1 rfl rfl (hon 1 (by kernel_rfl)) rfl
          have e30 : a.tmps[30]? = some (.bool bb) := by rw [ha]; exact putSel_on (e := (6, 30, .bool bb)) 6 rfl rfl (hon 6 (by kernel_rfl)) rfl
          replace ha := Aside0.mk ha
          have HR := Aside0.mk Q_HR
          refine value_ (w1 := w') (v := .bool bb) (by rfl) rfl ?_ ?_
          · go_simp
            (try simp only [i64_w])
            try rfl
          refine hK.out _ _ ⟨(by rw [ha.out]; exact putSel_upk 7 hb_ rfl rfl rfl), Q_HR⟩
        refine steps_cons ?_ ?_
        · rintro b a w' ⟨ha, Q_HR⟩ hb_ hon hoff
          refine ⟨_, rfl, fun K hK => ?_⟩
          have e31 : a.tmps[31]? = some (.bool bb) := by rw [ha]; exact putSel_on (e := (7, 31, .bool bb)) 7 rfl rfl (hon 7 (by kernel_rfl)) rfl
          replace ha := Aside0.mk ha
          have HR := Aside0.mk Q_HR
          refine value_ (w1 := w') (v := .bool bb) (by rfl) rfl ?_ ?_
          · go_simp
            (try simp only [i64_w])
            try rfl
          refine hK.out _ _ ⟨(by rw [ha.out]; exact putSel_upk 8 hb_ rfl rfl rfl), Q_HR⟩
        exact steps_nil
      rintro b a wq hall ⟨ha, Q_HR⟩
      clear HR
      have hb0_ := hall 0 (by kernel_rfl)
      have hb1_ := hall 1 (by kernel_rfl)
      have hb2_ := hall 2 (by kernel_rfl)
      have hb3_ := hall 3 (by kernel_rfl)
      have hb4_ := hall 4 (by kernel_rfl)
      have hb5_ := hall 5 (by kernel_rfl)
      have hb6_ := hall 6 (by kernel_rfl)
      have hb7_ := hall 7 (by kernel_rfl)
      have hb8_ := hall 8 (by kernel_rfl)
      subst ha
      simp only [putSel, hb0_, hb1_, hb2_, hb3_, hb4_, hb5_, hb6_, hb7_, hb8_, if_true, Act.put, List.setIfInBounds_toArray, List.set_cons_zero, List.set_cons_succ]
      have HR := Aside0.mk Q_HR
      clear Q_HR
      clear hall hb0_ hb1_ hb2_ hb3_ hb4_ hb5_ hb6_ hb7_ hb8_
      clear hbb hbb'
      have HBq := Aside0.mk (below_step HBz.out HR.out)
      have BKq3 := Aside0.mk (blk_below BK3z.out HR.out)
      have OWQ := Aside0.mk (owns_below OWZ.out HR.out)
      have LSQ := Aside0.mk (fun n hn => (LSZ.out n hn).to HR.out : ∀ n ∈ M, DL wq wq.heap.size n)
      have hx3_0 : wq.cell? ⟨g3, 0, none⟩ = some (.int .i64 1) := (blk_cell BKq3.out 0).trans rfl
      have hx3_1 : wq.cell? ⟨g3, 1, none⟩ = some (.int .i64 ca) := (blk_cell BKq3.out 1).trans rfl
      have hx3_2 : wq.cell? ⟨g3, 2, none⟩ = some (.int .i64 ci) := (blk_cell BKq3.out 2).trans rfl
      have hx3_3 : wq.cell? ⟨g3, 3, none⟩ = some (.int .u64 cw) := (blk_cell BKq3.out 3).trans rfl
      have hx3_4 : wq.cell? ⟨g3, 4, none⟩ = some (.int .u64 cs) := (blk_cell BKq3.out 4).trans rfl
      go_wp2_with (at_delete; refine wpList_delete_own _ rfl _ _ 46 3 rfl 40 Di.keyed3 Try.underlying46 nR mb nn D rfl OWQ.out _ _ rfl (keyOf3 HCA.out) ?_; intro w5 hown5 hturn5; have HG5 := Aside0.mk (gb HBq.out hturn5.grown); obtain ⟨es5, cl5, hb5, _⟩ := OWQ.out; have LS5 := Aside0.mk (fun n hn => (LSQ.out n hn).grown hturn5.grown hb5 : ∀ n ∈ M, DL w5 w5.heap.size n); have OW5 := Aside0.mk hown5; clear hown5 hturn5 hb5)
      go_ret
      cases bb with
      | false => exact ⟨false, rfl, .inl ⟨by rw [HST.out]; exact if_neg (by simpa using HBB.out), rfl⟩, HG5.out⟩
      | true => exact ⟨true, rfl, .inr ⟨_, by rw [HST.out]; exact if_pos (by simpa using HBB.out), rfl, DM_mono (HM.out.erase HMI.out HMA.out (by rw [HAD.out]; exact OW5.out) LS5.out)⟩, HG5.out⟩
  have hk1 : decide (ck = 1) = false := decide_eq_false k1
  by_cases k2 : ck = 2
  · subst k2
    go_upto_region 10 with fail
    obtain ⟨wq, hwq⟩ : ∃ x, x = wz := ⟨_, rfl⟩
    subst hwq
    clear hx3_0 hx3_1 hx3_2 hx3_3 hx3_4 hx5_0 hx5_1 hx5_2 hx5_3 hx5_4 hx5_5 hf5_0 hf5_1 hf5_2 hf5_3 hf5_4 hf5_5
    have BKq3 := BK3z
    have OWQ := OWZ
    have LSQ := LSZ
    have HR := Aside0.mk (Below.refl wq.heap.size wq)
    refine start_ (n := 9) (S := fun w' => True) (ds := []) #[false, false, false, false, false, false, false, false, false] (by kernel_rfl) rfl rfl trivial (fun hHeld => ?_)
    refine with_tabW do10.tab10 do10.bits10 (fun HT_ HW_ => ?_)
    refine inv_at [0, 1, 2, 3, 4, 5, 6, 7, 8] (fun a0_ b a w' => ∃ (q : Nd) (m7_ : Value), a = putSel a0_ b [(0, 39, .map (some mb)), (1, 40, .pointer (some ⟨g3, 1, none⟩)), (2, 41, .int .i64 ca), (3, 42, .pointer (some ⟨g3, 1, none⟩)), (4, 43, .int .i64 ca), (5, 44, .pointer (some ⟨g3, 4, none⟩)), (6, 45, .int .u64 cs), (7, 46, m7_)] ∧ (b 8 = false → Below wq.heap.size wq w') ∧ (b 7 = true → b 8 = false → q.pn = bareP ca cs ∧ DL w' w'.heap.size q) ∧ (b 8 = true → wq.grownBy w' (some mb) ∧ w'.ownsMap Try.prog 3 nR mb (nn + 1) (D.put (key ca) (.held q.val)) ∧ q.pn = bareP ca cs ∧ DL w' w'.heap.size q ∧ ∀ n ∈ M, DL w' w'.heap.size n) ∧ (b 7 = true → (m7_ : Value) = q.val)) HT_.out HW_.out (by kernel_rfl) (by kernel_rfl) ?_ ?_ ?_
    · exact ⟨default, .bool false, by simp only [putSel, Bool.false_eq_true, if_false], fun _ => below_drew1 HR.out, fun h_ => absurd h_ (by decide), fun h_ => absurd h_ (by decide), fun h_ => absurd h_ (by decide)⟩
    · skip
      clear HR
      refine steps_cons ?_ ?_
      · rintro b a w' ⟨q, m7_, ha, Q_HR, Q_QB, Q_FIN, Q_X7_⟩ hb_ hon hoff
        refine ⟨_, rfl, fun K hK => ?_⟩
        have e0 : a.tmps[0]? = some (.map (some mb)) := by rw [ha]; exact (putSel_off rfl).trans rfl
        replace ha := Aside0.mk ha
        have HR := Aside0.mk (Q_HR (hoff 8 (by kernel_rfl)))
        refine value_ (w1 := w') (v := .map (some mb)) (by rfl) rfl ?_ ?_
        · go_simp
          (try simp only [i64_w])
          try rfl
        refine hK.out _ _ ⟨q, m7_, (by rw [ha.out]; exact putSel_upk 0 hb_ rfl rfl rfl), Q_HR, Q_QB, fun h0_ => absurd ((hoff 8 (by kernel_rfl)).symm.trans h0_) (by decide), Q_X7_⟩
      refine steps_cons ?_ ?_
      · rintro b a w' ⟨q, m7_, ha, Q_HR, Q_QB, Q_FIN, Q_X7_⟩ hb_ hon hoff
        refine ⟨_, rfl, fun K hK => ?_⟩
        have e3 : a.tmps[3]? = some (.pointer (some ⟨g3, 0, none⟩)) := by rw [ha]; exact (putSel_off rfl).trans rfl
        replace ha := Aside0.mk ha
        have HR := Aside0.mk (Q_HR (hoff 8 (by kernel_rfl)))
        refine value_ (w1 := w') (v := .pointer (some ⟨g3, 1, none⟩)) (by rfl) rfl ?_ ?_
        · go_simp
          (try simp only [i64_w])
          try rfl
        refine hK.out _ _ ⟨q, m7_, (by rw [ha.out]; exact putSel_upk 1 hb_ rfl rfl rfl), Q_HR, Q_QB, fun h0_ => absurd ((hoff 8 (by kernel_rfl)).symm.trans h0_) (by decide), Q_X7_⟩
      refine steps_cons ?_ ?_
      · rintro b a w' ⟨q, m7_, ha, Q_HR, Q_QB, Q_FIN, Q_X7_⟩ hb_ hon hoff
        refine ⟨_, rfl, fun K hK => ?_⟩
        have e40 : a.tmps[40]? = some (.pointer (some ⟨g3, 1, none⟩)) := by rw [ha]; exact putSel_on (e := (1, 40, .pointer (some ⟨g3, 1, none⟩))) 1 rfl rfl (hon 1 (by kernel_rfl)) rfl
        replace ha := Aside0.mk ha
        have HR := Aside0.mk (Q_HR (hoff 8 (by kernel_rfl)))
        have hl41 : w'.cell? ⟨g3, 1, none⟩ = some (.int .i64 ca) := (blk_cell (blk_below BKq3.out HR.out) 1).trans rfl
        refine value_ (w1 := w') (v := .int .i64 ca) (by rfl) rfl ?_ ?_
        · go_simp
          (try simp only [i64_w])
          try rfl
        refine hK.out _ _ ⟨q, m7_, (by rw [ha.out]; exact putSel_upk 2 hb_ rfl rfl rfl), Q_HR, Q_QB, fun h0_ => absurd ((hoff 8 (by kernel_rfl)).symm.trans h0_) (by decide), Q_X7_⟩
      refine steps_cons ?_ ?_
      · rintro b a w' ⟨q, m7_, ha, Q_HR, Q_QB, Q_FIN, Q_X7_⟩ hb_ hon hoff
        refine ⟨_, rfl, fun K hK => ?_⟩
        have e3 : a.tmps[3]? = some (.pointer (some ⟨g3, 0, none⟩)) := by rw [ha]; exact (putSel_off rfl).trans rfl
        replace ha := Aside0.mk ha
        have HR := Aside0.mk (Q_HR (hoff 8 (by kernel_rfl)))
        refine value_ (w1 := w') (v := .pointer (some ⟨g3, 1, none⟩)) (by rfl) rfl ?_ ?_
        · go_simp
          (try simp only [i64_w])
          try rfl
        refine hK.out _ _ ⟨q, m7_, (by rw [ha.out]; exact putSel_upk 3 hb_ rfl rfl rfl), Q_HR, fun h0_ _ => absurd ((hoff 7 (by kernel_rfl)).symm.trans h0_) (by decide), fun h0_ => absurd ((hoff 8 (by kernel_rfl)).symm.trans h0_) (by decide), fun h0_ => absurd ((hoff 7 (by kernel_rfl)).symm.trans h0_) (by decide)⟩
      refine steps_cons ?_ ?_
      · rintro b a w' ⟨q, m7_, ha, Q_HR, Q_QB, Q_FIN, Q_X7_⟩ hb_ hon hoff
        refine ⟨_, rfl, fun K hK => ?_⟩
        have e42 : a.tmps[42]? = some (.pointer (some ⟨g3, 1, none⟩)) := by rw [ha]; exact putSel_on (e := (3, 42, .pointer (some ⟨g3, 1, none⟩))) 3 rfl rfl (hon 3 (by kernel_rfl)) rfl
        replace ha := Aside0.mk ha
        have HR := Aside0.mk (Q_HR (hoff 8 (by kernel_rfl)))
        have hl43 : w'.cell? ⟨g3, 1, none⟩ = some (.int .i64 ca) := (blk_cell (blk_below BKq3.out HR.out) 1).trans rfl
        refine value_ (w1 := w') (v := .int .i64 ca) (by rfl) rfl ?_ ?_
        · go_simp
          (try simp only [i64_w])
          try rfl
        refine hK.out _ _ ⟨q, m7_, (by rw [ha.out]; exact putSel_upk 4 hb_ rfl rfl rfl), Q_HR, fun h0_ _ => absurd ((hoff 7 (by kernel_rfl)).symm.trans h0_) (by decide), fun h0_ => absurd ((hoff 8 (by kernel_rfl)).symm.trans h0_) (by decide), fun h0_ => absurd ((hoff 7 (by kernel_rfl)).symm.trans h0_) (by decide)⟩
      refine steps_cons ?_ ?_
      · rintro b a w' ⟨q, m7_, ha, Q_HR, Q_QB, Q_FIN, Q_X7_⟩ hb_ hon hoff
        refine ⟨_, rfl, fun K hK => ?_⟩
        have e3 : a.tmps[3]? = some (.pointer (some ⟨g3, 0, none⟩)) := by rw [ha]; exact (putSel_off rfl).trans rfl
        replace ha := Aside0.mk ha
        have HR := Aside0.mk (Q_HR (hoff 8 (by kernel_rfl)))
        refine value_ (w1 := w') (v := .pointer (some ⟨g3, 4, none⟩)) (by rfl) rfl ?_ ?_
        · go_simp
          (try simp only [i64_w])
          try rfl
        refine hK.out _ _ ⟨q, m7_, (by rw [ha.out]; exact putSel_upk 5 hb_ rfl rfl rfl), Q_HR, fun h0_ _ => absurd ((hoff 7 (by kernel_rfl)).symm.trans h0_) (by decide), fun h0_ => absurd ((hoff 8 (by kernel_rfl)).symm.trans h0_) (by decide), fun h0_ => absurd ((hoff 7 (by kernel_rfl)).symm.trans h0_) (by decide)⟩
      refine steps_cons ?_ ?_
      · rintro b a w' ⟨q, m7_, ha, Q_HR, Q_QB, Q_FIN, Q_X7_⟩ hb_ hon hoff
        refine ⟨_, rfl, fun K hK => ?_⟩
        have e44 : a.tmps[44]? = some (.pointer (some ⟨g3, 4, none⟩)) := by rw [ha]; exact putSel_on (e := (5, 44, .pointer (some ⟨g3, 4, none⟩))) 5 rfl rfl (hon 5 (by kernel_rfl)) rfl
        replace ha := Aside0.mk ha
        have HR := Aside0.mk (Q_HR (hoff 8 (by kernel_rfl)))
        have hl45 : w'.cell? ⟨g3, 4, none⟩ = some (.int .u64 cs) := (blk_cell (blk_below BKq3.out HR.out) 4).trans rfl
        refine value_ (w1 := w') (v := .int .u64 cs) (by rfl) rfl ?_ ?_
        · go_simp
          (try simp only [i64_w])
          try rfl
        refine hK.out _ _ ⟨q, m7_, (by rw [ha.out]; exact putSel_upk 6 hb_ rfl rfl rfl), Q_HR, fun h0_ _ => absurd ((hoff 7 (by kernel_rfl)).symm.trans h0_) (by decide), fun h0_ => absurd ((hoff 8 (by kernel_rfl)).symm.trans h0_) (by decide), fun h0_ => absurd ((hoff 7 (by kernel_rfl)).symm.trans h0_) (by decide)⟩
      refine steps_cons ?_ ?_
      · rintro b a w' ⟨q, m7_, ha, Q_HR, Q_QB, Q_FIN, Q_X7_⟩ hb_ hon hoff
        refine ⟨_, rfl, fun K hK => ?_⟩
        have e43 : a.tmps[43]? = some (.int .i64 ca) := by rw [ha]; exact putSel_on (e := (4, 43, .int .i64 ca)) 4 rfl rfl (hon 4 (by kernel_rfl)) rfl
        have e45 : a.tmps[45]? = some (.int .u64 cs) := by rw [ha]; exact putSel_on (e := (6, 45, .int .u64 cs)) 6 rfl rfl (hon 6 (by kernel_rfl)) rfl
        replace ha := Aside0.mk ha
        have HR := Aside0.mk (Q_HR (hoff 8 (by kernel_rfl)))
        refine goes_ Try.func36 (by kernel_rfl) rfl #[.int .i64 ca, .int .u64 cs] (by rfl) rfl rfl (by first | (simp only [List.map_toArray, List.map_cons, List.map_nil, Act.eval, Array.getD_eq_getD_getElem?, Option.getD_some, e43, e45]; done) | (simp only [List.map_toArray, List.map_cons, List.map_nil, Act.eval, Array.getD_eq_getD_getElem?, Option.getD_some, e43, e45]; rfl)) ?_
        with_reducible refine (dbare_calls _ ca cs HCS.out).mono ?_
        rintro e w3 ⟨q3, rfl, hq3, hd3, hb⟩
        refine ⟨_, rfl, ?_⟩
        refine hK.out _ _ ⟨q3, (q3.val), (by rw [ha.out]; exact putSel_upk 7 hb_ rfl rfl rfl), fun _ => (below_step HR.out hb), fun _ _ => ⟨hq3, hd3⟩, fun h0_ => absurd ((hoff 8 (by kernel_rfl)).symm.trans h0_) (by decide), fun _ => rfl⟩
      refine steps_cons ?_ ?_
      · rintro b a w' ⟨q, m7_, ha, Q_HR, Q_QB, Q_FIN, Q_X7_⟩ hb_ hon hoff
        refine ⟨_, rfl, fun K hK => ?_⟩
        have e39 : a.tmps[39]? = some (.map (some mb)) := by rw [ha]; exact putSel_on (e := (0, 39, .map (some mb))) 0 rfl rfl (hon 0 (by kernel_rfl)) rfl
        have e41 : a.tmps[41]? = some (.int .i64 ca) := by rw [ha]; exact putSel_on (e := (2, 41, .int .i64 ca)) 2 rfl rfl (hon 2 (by kernel_rfl)) rfl
        have e46 : a.tmps[46]? = some (m7_) := by rw [ha]; exact putSel_on (e := (7, 46, m7_)) 7 rfl rfl (hon 7 (by kernel_rfl)) rfl
        rw [Q_X7_ (hon 7 (by kernel_rfl))] at e46
        replace ha := Aside0.mk ha
        have HR := Aside0.mk (Q_HR hb_)
        have QB := Aside0.mk (Q_QB (hon 7 (by kernel_rfl)) hb_)
        obtain ⟨w9, hrun9, ho9, ht9⟩ := (owns_below OWQ.out HR.out).store Di.keyed3 Try.underlying46 (by unfold maxLen; omega) (keyOf3 HCA.out) (val := q.val) (d := .held q.val) (ps := []) rfl
        have hg9 := ht9.grown
        obtain ⟨es9, cl9, hb9, _⟩ := owns_below OWQ.out HR.out
        refine skip_ (w1 := ?_) (by rfl) rfl ?_ ?_
        rotate_left
        · go_simp
          rfl
        refine hK.out _ _ ⟨q, m7_, (by rw [ha.out]; exact putSel_none (v := undef) rfl), fun h0_ => absurd ((up_self b 8).symm.trans h0_) (by decide), fun _ h1_ => absurd ((up_self b 8).symm.trans h1_) (by decide), fun _ => ⟨gb HR.out hg9, ho9, QB.out.1, QB.out.2.grown hg9 hb9, fun n hn => ((LSQ.out n hn).to HR.out).grown hg9 hb9⟩, Q_X7_⟩
      exact steps_nil
    rintro b a wf hall ⟨q, m7_, ha, Q_HR, Q_QB, Q_FIN, Q_X7_⟩
    clear HR
    have hb0_ := hall 0 (by kernel_rfl)
    have hb1_ := hall 1 (by kernel_rfl)
    have hb2_ := hall 2 (by kernel_rfl)
    have hb3_ := hall 3 (by kernel_rfl)
    have hb4_ := hall 4 (by kernel_rfl)
    have hb5_ := hall 5 (by kernel_rfl)
    have hb6_ := hall 6 (by kernel_rfl)
    have hb7_ := hall 7 (by kernel_rfl)
    have hb8_ := hall 8 (by kernel_rfl)
    subst ha
    obtain rfl := Q_X7_ hb7_
    simp only [putSel, hb0_, hb1_, hb2_, hb3_, hb4_, hb5_, hb6_, hb7_, hb8_, if_true, Act.put, List.setIfInBounds_toArray, List.set_cons_zero, List.set_cons_succ]
    clear Q_HR
    clear Q_QB
    have FIN := Aside0.mk (Q_FIN hb8_)
    clear Q_FIN
    clear hall hb0_ hb1_ hb2_ hb3_ hb4_ hb5_ hb6_ hb7_ hb8_
    obtain ⟨hg9, ho9, hqp, hqd, hls⟩ := FIN.out
    have hqa : q.adr = ca := congrArg Pn.adr hqp
    have hqn : q.n = bareN cs := (hqd.2.1).symm.trans ((congrArg List.length (congrArg Pn.T hqp)).trans List.length_replicate)
    have hqm : q.m = 0 := (hqd.1.1).symm.trans (congrArg List.length (congrArg Pn.S hqp))
    have hq255 := bareN_le cs
    have HG9 := Aside0.mk (gb HBz.out hg9)
    have HFIN := Aside0.mk (show idx (adrs M) ca = none → DM wf mb (nn + 1) (M.take (beh (adrs M) ca) ++ q :: M.drop (beh (adrs M) ca)) from fun hi => by
      subst hqa
      exact HM.out.put hi HMA.out ho9 hls hqd HCA.out ⟨by omega, by omega⟩)
    have HQP := Aside0.mk hqp
    clear hg9 ho9 hqp hqd hls hqa hqn hqm FIN
    rcases TC.out with ⟨rfl, hidx, hdf_⟩ | ⟨rfl, i, hidx, hmi, hadr⟩
    · have HST := Aside0.mk (step_new (M := M) (c := (⟨2, ca, ci, cw, cs⟩ : Ch)) rfl hidx HQP.out)
      clear hdf_
      have HD := Aside0.mk (HFIN.out hidx)
      clear hidx
      go_wp2
      go_ret
      exact ⟨true, rfl, .inr ⟨_, HST.out, rfl, HD.out⟩, HG9.out⟩
    · have HNO := Aside0.mk (step_twice (M := M) (c := (⟨2, ca, ci, cw, cs⟩ : Ch)) rfl hidx)
      clear hidx hmi hadr
      go_wp2
      go_ret
      exact ⟨false, rfl, .inl ⟨HNO.out, rfl⟩, HG9.out⟩
  have hk2 : decide (ck = 2) = false := decide_eq_false k2
  by_cases k3 : ck = 3
  · subst k3
    go_upto_region 12 with fail
    clear hx3_0 hx3_1 hx3_2 hx3_3 hx3_4 hx5_0 hx5_1 hx5_2 hx5_3 hx5_4 hx5_5 hf5_0 hf5_1 hf5_2 hf5_3 hf5_4 hf5_5
    rcases TC.out with ⟨rfl, hidx, hdf_⟩ | ⟨rfl, i, hidx, hmi, hadr⟩
    · have HNO := Aside0.mk (step_none (M := M) (c := (⟨3, ca, ci, cw, cs⟩ : Ch)) (show (3 : Int) ≠ 2 by decide) hidx)
      clear hdf_
      clear hidx
      have HR := Aside0.mk (Below.refl wz.heap.size wz)
      refine start_ (n := 9) (S := fun w' => True) (ds := []) #[false, false, false, false, false, false, false, false, false] (by kernel_rfl) rfl rfl trivial (fun hHeld => ?_)
      refine with_tabW do12.tab12 do12.bits12 (fun HT_ HW_ => ?_)
      refine inv_at [0, 1, 2, 3, 4, 5, 6, 7, 8] (fun a0_ b a w' => a = putSel a0_ b [(0, 49, .bool false), (1, 50, .bool false), (2, 51, undef), (3, 52, undef), (4, 53, undef), (5, 54, undef), (6, 55, undef), (7, 56, .bool false), (8, 7, .bool false)] ∧ (Below wz.heap.size wz w')) HT_.out HW_.out (by kernel_rfl) (by kernel_rfl) ?_ ?_ ?_
      · exact ⟨by simp only [putSel, Bool.false_eq_true, if_false], below_drew1 HR.out⟩
      · skip
        clear HR
        refine steps_cons ?_ ?_
        · rintro b a w' ⟨ha, Q_HR⟩ hb_ hon hoff
          refine ⟨_, rfl, fun K hK => ?_⟩
          have e7 : a.tmps[7]? = some (.bool false) := by rw [ha]; exact (putSel_not (hoff 8 (by kernel_rfl)) rfl).trans rfl
          replace ha := Aside0.mk ha
          have HR := Aside0.mk Q_HR
          refine value_ (w1 := w') (v := .bool false) (by rfl) rfl ?_ ?_
          · go_simp
            (try simp only [i64_w])
            try rfl
          refine hK.out _ _ ⟨(by rw [ha.out]; exact putSel_upk 0 hb_ rfl rfl rfl), Q_HR⟩
        refine steps_cons ?_ ?_
        · rintro b a w' ⟨ha, Q_HR⟩ hb_ hon hoff
          refine ⟨_, rfl, fun K hK => ?_⟩
          have e49 : a.tmps[49]? = some (.bool false) := by rw [ha]; exact putSel_on (e := (0, 49, .bool false)) 0 rfl rfl (hon 0 (by kernel_rfl)) rfl
          replace ha := Aside0.mk ha
          have HR := Aside0.mk Q_HR
          refine value_ (w1 := w') (v := .bool false) (by rfl) rfl ?_ ?_
          · go_simp
            (try simp only [i64_w])
            try rfl
          refine hK.out _ _ ⟨(by rw [ha.out]; exact putSel_upk 1 hb_ rfl rfl rfl), Q_HR⟩
        refine steps_cons ?_ ?_
        · rintro b a w' ⟨ha, Q_HR⟩ hb_ hon hoff
          refine ⟨_, rfl, fun K hK => ?_⟩
          have e50 : a.tmps[50]? = some (.bool false) := by rw [ha]; exact putSel_on (e := (1, 50, .bool false)) 1 rfl rfl (hon 1 (by kernel_rfl)) rfl
          replace ha := Aside0.mk ha
          have HR := Aside0.mk Q_HR
          refine off_ (wanted_off rfl rfl rfl (e50.trans (by first | rfl | (simp [*]; done)))) ?_
          refine hK.out _ _ ⟨(by rw [ha.out]; exact putSel_upk 2 hb_ rfl rfl rfl), Q_HR⟩
        refine steps_cons ?_ ?_
        · rintro b a w' ⟨ha, Q_HR⟩ hb_ hon hoff
          refine ⟨_, rfl, fun K hK => ?_⟩
          have e50 : a.tmps[50]? = some (.bool false) := by rw [ha]; exact putSel_on (e := (1, 50, .bool false)) 1 rfl rfl (hon 1 (by kernel_rfl)) rfl
          replace ha := Aside0.mk ha
          have HR := Aside0.mk Q_HR
          refine off_ (wanted_off rfl rfl rfl (e50.trans (by first | rfl | (simp [*]; done)))) ?_
          refine hK.out _ _ ⟨(by rw [ha.out]; exact putSel_upk 3 hb_ rfl rfl rfl), Q_HR⟩
        refine steps_cons ?_ ?_
        · rintro b a w' ⟨ha, Q_HR⟩ hb_ hon hoff
          refine ⟨_, rfl, fun K hK => ?_⟩
          have e50 : a.tmps[50]? = some (.bool false) := by rw [ha]; exact putSel_on (e := (1, 50, .bool false)) 1 rfl rfl (hon 1 (by kernel_rfl)) rfl
          replace ha := Aside0.mk ha
          have HR := Aside0.mk Q_HR
          refine off_ (wanted_off rfl rfl rfl (e50.trans (by first | rfl | (simp [*]; done)))) ?_
          refine hK.out _ _ ⟨(by rw [ha.out]; exact putSel_upk 4 hb_ rfl rfl rfl), Q_HR⟩
        refine steps_cons ?_ ?_
        · rintro b a w' ⟨ha, Q_HR⟩ hb_ hon hoff
          refine ⟨_, rfl, fun K hK => ?_⟩
          have e50 : a.tmps[50]? = some (.bool false) := by rw [ha]; exact putSel_on (e := (1, 50, .bool false)) 1 rfl rfl (hon 1 (by kernel_rfl)) rfl
          replace ha := Aside0.mk ha
          have HR := Aside0.mk Q_HR
          refine off_ (wanted_off rfl rfl rfl (e50.trans (by first | rfl | (simp [*]; done)))) ?_
          refine hK.out _ _ ⟨(by rw [ha.out]; exact putSel_upk 5 hb_ rfl rfl rfl), Q_HR⟩
        refine steps_cons ?_ ?_
        · rintro b a w' ⟨ha, Q_HR⟩ hb_ hon hoff
          refine ⟨_, rfl, fun K hK => ?_⟩
          have e50 : a.tmps[50]? = some (.bool false) := by rw [ha]; exact putSel_on (e := (1, 50, .bool false)) 1 rfl rfl (hon 1 (by kernel_rfl)) rfl
          replace ha := Aside0.mk ha
          have HR := Aside0.mk Q_HR
          refine off_ (wanted_off rfl rfl rfl (e50.trans (by first | rfl | (simp [*]; done)))) ?_
          refine hK.out _ _ ⟨(by rw [ha.out]; exact putSel_upk 6 hb_ rfl rfl rfl), Q_HR⟩
        refine steps_cons ?_ ?_
        · rintro b a w' ⟨ha, Q_HR⟩ hb_ hon hoff
          refine ⟨_, rfl, fun K hK => ?_⟩
          have e50 : a.tmps[50]? = some (.bool false) := by rw [ha]; exact putSel_on (e := (1, 50, .bool false)) 1 rfl rfl (hon 1 (by kernel_rfl)) rfl
          have e55 : a.tmps[55]? = some (undef) := by rw [ha]; exact putSel_on (e := (6, 55, undef)) 6 rfl rfl (hon 6 (by kernel_rfl)) rfl
          replace ha := Aside0.mk ha
          have HR := Aside0.mk Q_HR
          refine value_ (w1 := w') (v := .bool false) (by rfl) rfl ?_ ?_
          · go_simp
            (try simp only [i64_w])
            try rfl
          refine hK.out _ _ ⟨(by rw [ha.out]; exact putSel_upk 7 hb_ rfl rfl rfl), Q_HR⟩
        refine steps_cons ?_ ?_
        · rintro b a w' ⟨ha, Q_HR⟩ hb_ hon hoff
          refine ⟨_, rfl, fun K hK => ?_⟩
          have e56 : a.tmps[56]? = some (.bool false) := by rw [ha]; exact putSel_on (e := (7, 56, .bool false)) 7 rfl rfl (hon 7 (by kernel_rfl)) rfl
          replace ha := Aside0.mk ha
          have HR := Aside0.mk Q_HR
          refine value_ (w1 := w') (v := .bool false) (by rfl) rfl ?_ ?_
          · go_simp
            (try simp only [i64_w])
            try rfl
          refine hK.out _ _ ⟨(by rw [ha.out]; exact putSel_upk 8 hb_ rfl rfl rfl), Q_HR⟩
        exact steps_nil
      rintro b a wq hall ⟨ha, Q_HR⟩
      clear HR
      have hb0_ := hall 0 (by kernel_rfl)
      have hb1_ := hall 1 (by kernel_rfl)
      have hb2_ := hall 2 (by kernel_rfl)
      have hb3_ := hall 3 (by kernel_rfl)
      have hb4_ := hall 4 (by kernel_rfl)
      have hb5_ := hall 5 (by kernel_rfl)
      have hb6_ := hall 6 (by kernel_rfl)
      have hb7_ := hall 7 (by kernel_rfl)
      have hb8_ := hall 8 (by kernel_rfl)
      subst ha
      simp only [putSel, hb0_, hb1_, hb2_, hb3_, hb4_, hb5_, hb6_, hb7_, hb8_, if_true, Act.put, List.setIfInBounds_toArray, List.set_cons_zero, List.set_cons_succ]
      have HR := Aside0.mk Q_HR
      clear Q_HR
      clear hall hb0_ hb1_ hb2_ hb3_ hb4_ hb5_ hb6_ hb7_ hb8_
      have HBq := Aside0.mk (below_step HBz.out HR.out)
      have BKq3 := Aside0.mk (blk_below BK3z.out HR.out)
      have OWQ := Aside0.mk (owns_below OWZ.out HR.out)
      have LSQ := Aside0.mk (fun n hn => (LSZ.out n hn).to HR.out : ∀ n ∈ M, DL wq wq.heap.size n)
      go_upto_region 13 with fail
      clear HR
      have HR := Aside0.mk (Below.refl wq.heap.size wq)
      refine start_ (n := 9) (S := fun w' => True) (ds := []) #[false, false, false, false, false, false, false, false, false] (by kernel_rfl) rfl rfl trivial (fun hHeld => ?_)
      refine with_tabW do13.tab13 do13.bits13 (fun HT_ HW_ => ?_)
      refine inv_at [0, 1, 2, 3, 4, 5, 6, 7, 8] (fun a0_ b a w' => ∃ (q : Nd) (m7_ : Value), a = putSel a0_ b [(0, 57, .map (some mb)), (1, 58, .pointer (some ⟨g3, 1, none⟩)), (2, 59, .int .i64 ca), (3, 60, .pointer (some ⟨g3, 1, none⟩)), (4, 61, .int .i64 ca), (5, 62, .pointer (some ⟨g3, 4, none⟩)), (6, 63, .int .u64 cs), (7, 64, m7_)] ∧ (b 8 = false → Below wq.heap.size wq w') ∧ (b 7 = true → b 8 = false → q.pn = bareP ca cs ∧ DL w' w'.heap.size q) ∧ (b 8 = true → wq.grownBy w' (some mb) ∧ w'.ownsMap Try.prog 3 nR mb (nn + 1) (D.put (key ca) (.held q.val)) ∧ q.pn = bareP ca cs ∧ DL w' w'.heap.size q ∧ ∀ n ∈ M, DL w' w'.heap.size n) ∧ (b 7 = true → (m7_ : Value) = q.val)) HT_.out HW_.out (by kernel_rfl) (by kernel_rfl) ?_ ?_ ?_
      · exact ⟨default, .bool false, by simp only [putSel, Bool.false_eq_true, if_false], fun _ => below_drew1 HR.out, fun h_ => absurd h_ (by decide), fun h_ => absurd h_ (by decide), fun h_ => absurd h_ (by decide)⟩
      · skip
        clear HR
        refine steps_cons ?_ ?_
        · rintro b a w' ⟨q, m7_, ha, Q_HR, Q_QB, Q_FIN, Q_X7_⟩ hb_ hon hoff
          refine ⟨_, rfl, fun K hK => ?_⟩
          have e0 : a.tmps[0]? = some (.map (some mb)) := by rw [ha]; exact (putSel_off rfl).trans rfl
          replace ha := Aside0.mk ha
          have HR := Aside0.mk (Q_HR (hoff 8 (by kernel_rfl)))
          refine value_ (w1 := w') (v := .map (some mb)) (by rfl) rfl ?_ ?_
          · go_simp
            (try simp only [i64_w])
            try rfl
          refine hK.out _ _ ⟨q, m7_, (by rw [ha.out]; exact putSel_upk 0 hb_ rfl rfl rfl), Q_HR, Q_QB, fun h0_ => absurd ((hoff 8 (by kernel_rfl)).symm.trans h0_) (by decide), Q_X7_⟩
        refine steps_cons ?_ ?_
        · rintro b a w' ⟨q, m7_, ha, Q_HR, Q_QB, Q_FIN, Q_X7_⟩ hb_ hon hoff
          refine ⟨_, rfl, fun K hK => ?_⟩
          have e3 : a.tmps[3]? = some (.pointer (some ⟨g3, 0, none⟩)) := by rw [ha]; exact (putSel_off rfl).trans rfl
          replace ha := Aside0.mk ha
          have HR := Aside0.mk (Q_HR (hoff 8 (by kernel_rfl)))
          refine value_ (w1 := w') (v := .pointer (some ⟨g3, 1, none⟩)) (by rfl) rfl ?_ ?_
          · go_simp
            (try simp only [i64_w])
            try rfl
          refine hK.out _ _ ⟨q, m7_, (by rw [ha.out]; exact putSel_upk 1 hb_ rfl rfl rfl), Q_HR, Q_QB, fun h0_ => absurd ((hoff 8 (by kernel_rfl)).symm.trans h0_) (by decide), Q_X7_⟩
        refine steps_cons ?_ ?_
        · rintro b a w' ⟨q, m7_, ha, Q_HR, Q_QB, Q_FIN, Q_X7_⟩ hb_ hon hoff
          refine ⟨_, rfl, fun K hK => ?_⟩
          have e58 : a.tmps[58]? = some (.pointer (some ⟨g3, 1, none⟩)) := by rw [ha]; exact putSel_on (e := (1, 58, .pointer (some ⟨g3, 1, none⟩))) 1 rfl rfl (hon 1 (by kernel_rfl)) rfl
          replace ha := Aside0.mk ha
          have HR := Aside0.mk (Q_HR (hoff 8 (by kernel_rfl)))
          have hl59 : w'.cell? ⟨g3, 1, none⟩ = some (.int .i64 ca) := (blk_cell (blk_below BKq3.out HR.out) 1).trans rfl
          refine value_ (w1 := w') (v := .int .i64 ca) (by rfl) rfl ?_ ?_
          · go_simp
            (try simp only [i64_w])
            try rfl
          refine hK.out _ _ ⟨q, m7_, (by rw [ha.out]; exact putSel_upk 2 hb_ rfl rfl rfl), Q_HR, Q_QB, fun h0_ => absurd ((hoff 8 (by kernel_rfl)).symm.trans h0_) (by decide), Q_X7_⟩
        refine steps_cons ?_ ?_
        · rintro b a w' ⟨q, m7_, ha, Q_HR, Q_QB, Q_FIN, Q_X7_⟩ hb_ hon hoff
          refine ⟨_, rfl, fun K hK => ?_⟩
          have e3 : a.tmps[3]? = some (.pointer (some ⟨g3, 0, none⟩)) := by rw [ha]; exact (putSel_off rfl).trans rfl
          replace ha := Aside0.mk ha
          have HR := Aside0.mk (Q_HR (hoff 8 (by kernel_rfl)))
          refine value_ (w1 := w') (v := .pointer (some ⟨g3, 1, none⟩)) (by rfl) rfl ?_ ?_
          · go_simp
            (try simp only [i64_w])
            try rfl
          refine hK.out _ _ ⟨q, m7_, (by rw [ha.out]; exact putSel_upk 3 hb_ rfl rfl rfl), Q_HR, fun h0_ _ => absurd ((hoff 7 (by kernel_rfl)).symm.trans h0_) (by decide), fun h0_ => absurd ((hoff 8 (by kernel_rfl)).symm.trans h0_) (by decide), fun h0_ => absurd ((hoff 7 (by kernel_rfl)).symm.trans h0_) (by decide)⟩
        refine steps_cons ?_ ?_
        · rintro b a w' ⟨q, m7_, ha, Q_HR, Q_QB, Q_FIN, Q_X7_⟩ hb_ hon hoff
          refine ⟨_, rfl, fun K hK => ?_⟩
          have e60 : a.tmps[60]? = some (.pointer (some ⟨g3, 1, none⟩)) := by rw [ha]; exact putSel_on (e := (3, 60, .pointer (some ⟨g3, 1, none⟩))) 3 rfl rfl (hon 3 (by kernel_rfl)) rfl
          replace ha := Aside0.mk ha
          have HR := Aside0.mk (Q_HR (hoff 8 (by kernel_rfl)))
          have hl61 : w'.cell? ⟨g3, 1, none⟩ = some (.int .i64 ca) := (blk_cell (blk_below BKq3.out HR.out) 1).trans rfl
          refine value_ (w1 := w') (v := .int .i64 ca) (by rfl) rfl ?_ ?_
          · go_simp
            (try simp only [i64_w])
            try rfl
          refine hK.out _ _ ⟨q, m7_, (by rw [ha.out]; exact putSel_upk 4 hb_ rfl rfl rfl), Q_HR, fun h0_ _ => absurd ((hoff 7 (by kernel_rfl)).symm.trans h0_) (by decide), fun h0_ => absurd ((hoff 8 (by kernel_rfl)).symm.trans h0_) (by decide), fun h0_ => absurd ((hoff 7 (by kernel_rfl)).symm.trans h0_) (by decide)⟩
        refine steps_cons ?_ ?_
        · rintro b a w' ⟨q, m7_, ha, Q_HR, Q_QB, Q_FIN, Q_X7_⟩ hb_ hon hoff
          refine ⟨_, rfl, fun K hK => ?_⟩
          have e3 : a.tmps[3]? = some (.pointer (some ⟨g3, 0, none⟩)) := by rw [ha]; exact (putSel_off rfl).trans rfl
          replace ha := Aside0.mk ha
          have HR := Aside0.mk (Q_HR (hoff 8 (by kernel_rfl)))
          refine value_ (w1 := w') (v := .pointer (some ⟨g3, 4, none⟩)) (by rfl) rfl ?_ ?_
          · go_simp
            (try simp only [i64_w])
            try rfl
          refine hK.out _ _ ⟨q, m7_, (by rw [ha.out]; exact putSel_upk 5 hb_ rfl rfl rfl), Q_HR, fun h0_ _ => absurd ((hoff 7 (by kernel_rfl)).symm.trans h0_) (by decide), fun h0_ => absurd ((hoff 8 (by kernel_rfl)).symm.trans h0_) (by decide), fun h0_ => absurd ((hoff 7 (by kernel_rfl)).symm.trans h0_) (by decide)⟩
        refine steps_cons ?_ ?_
        · rintro b a w' ⟨q, m7_, ha, Q_HR, Q_QB, Q_FIN, Q_X7_⟩ hb_ hon hoff
          refine ⟨_, rfl, fun K hK => ?_⟩
          have e62 : a.tmps[62]? = some (.pointer (some ⟨g3, 4, none⟩)) := by rw [ha]; exact putSel_on (e := (5, 62, .pointer (some ⟨g3, 4, none⟩))) 5 rfl rfl (hon 5 (by kernel_rfl)) rfl
          replace ha := Aside0.mk ha
          have HR := Aside0.mk (Q_HR (hoff 8 (by kernel_rfl)))
          have hl63 : w'.cell? ⟨g3, 4, none⟩ = some (.int .u64 cs) := (blk_cell (blk_below BKq3.out HR.out) 4).trans rfl
          refine value_ (w1 := w') (v := .int .u64 cs) (by rfl) rfl ?_ ?_
          · go_simp
            (try simp only [i64_w])
            try rfl
          refine hK.out _ _ ⟨q, m7_, (by rw [ha.out]; exact putSel_upk 6 hb_ rfl rfl rfl), Q_HR, fun h0_ _ => absurd ((hoff 7 (by kernel_rfl)).symm.trans h0_) (by decide), fun h0_ => absurd ((hoff 8 (by kernel_rfl)).symm.trans h0_) (by decide), fun h0_ => absurd ((hoff 7 (by kernel_rfl)).symm.trans h0_) (by decide)⟩
        refine steps_cons ?_ ?_
        · rintro b a w' ⟨q, m7_, ha, Q_HR, Q_QB, Q_FIN, Q_X7_⟩ hb_ hon hoff
          refine ⟨_, rfl, fun K hK => ?_⟩
          have e61 : a.tmps[61]? = some (.int .i64 ca) := by rw [ha]; exact putSel_on (e := (4, 61, .int .i64 ca)) 4 rfl rfl (hon 4 (by kernel_rfl)) rfl
          have e63 : a.tmps[63]? = some (.int .u64 cs) := by rw [ha]; exact putSel_on (e := (6, 63, .int .u64 cs)) 6 rfl rfl (hon 6 (by kernel_rfl)) rfl
          replace ha := Aside0.mk ha
          have HR := Aside0.mk (Q_HR (hoff 8 (by kernel_rfl)))
          refine goes_ Try.func36 (by kernel_rfl) rfl #[.int .i64 ca, .int .u64 cs] (by rfl) rfl rfl (by first | (simp only [List.map_toArray, List.map_cons, List.map_nil, Act.eval, Array.getD_eq_getD_getElem?, Option.getD_some, e61, e63]; done) | (simp only [List.map_toArray, List.map_cons, List.map_nil, Act.eval, Array.getD_eq_getD_getElem?, Option.getD_some, e61, e63]; rfl)) ?_
          with_reducible refine (dbare_calls _ ca cs HCS.out).mono ?_
          rintro e w3 ⟨q3, rfl, hq3, hd3, hb⟩
          refine ⟨_, rfl, ?_⟩
          refine hK.out _ _ ⟨q3, (q3.val), (by rw [ha.out]; exact putSel_upk 7 hb_ rfl rfl rfl), fun _ => (below_step HR.out hb), fun _ _ => ⟨hq3, hd3⟩, fun h0_ => absurd ((hoff 8 (by kernel_rfl)).symm.trans h0_) (by decide), fun _ => rfl⟩
        refine steps_cons ?_ ?_
        · rintro b a w' ⟨q, m7_, ha, Q_HR, Q_QB, Q_FIN, Q_X7_⟩ hb_ hon hoff
          refine ⟨_, rfl, fun K hK => ?_⟩
          have e57 : a.tmps[57]? = some (.map (some mb)) := by rw [ha]; exact putSel_on (e := (0, 57, .map (some mb))) 0 rfl rfl (hon 0 (by kernel_rfl)) rfl
          have e59 : a.tmps[59]? = some (.int .i64 ca) := by rw [ha]; exact putSel_on (e := (2, 59, .int .i64 ca)) 2 rfl rfl (hon 2 (by kernel_rfl)) rfl
          have e64 : a.tmps[64]? = some (m7_) := by rw [ha]; exact putSel_on (e := (7, 64, m7_)) 7 rfl rfl (hon 7 (by kernel_rfl)) rfl
          rw [Q_X7_ (hon 7 (by kernel_rfl))] at e64
          replace ha := Aside0.mk ha
          have HR := Aside0.mk (Q_HR hb_)
          have QB := Aside0.mk (Q_QB (hon 7 (by kernel_rfl)) hb_)
          obtain ⟨w9, hrun9, ho9, ht9⟩ := (owns_below OWQ.out HR.out).store Di.keyed3 Try.underlying46 (by unfold maxLen; omega) (keyOf3 HCA.out) (val := q.val) (d := .held q.val) (ps := []) rfl
          have hg9 := ht9.grown
          obtain ⟨es9, cl9, hb9, _⟩ := owns_below OWQ.out HR.out
          refine skip_ (w1 := ?_) (by rfl) rfl ?_ ?_
          rotate_left
          · go_simp
            rfl
          refine hK.out _ _ ⟨q, m7_, (by rw [ha.out]; exact putSel_none (v := undef) rfl), fun h0_ => absurd ((up_self b 8).symm.trans h0_) (by decide), fun _ h1_ => absurd ((up_self b 8).symm.trans h1_) (by decide), fun _ => ⟨gb HR.out hg9, ho9, QB.out.1, QB.out.2.grown hg9 hb9, fun n hn => ((LSQ.out n hn).to HR.out).grown hg9 hb9⟩, Q_X7_⟩
        exact steps_nil
      rintro b a wf hall ⟨q, m7_, ha, Q_HR, Q_QB, Q_FIN, Q_X7_⟩
      clear HR
      have hb0_ := hall 0 (by kernel_rfl)
      have hb1_ := hall 1 (by kernel_rfl)
      have hb2_ := hall 2 (by kernel_rfl)
      have hb3_ := hall 3 (by kernel_rfl)
      have hb4_ := hall 4 (by kernel_rfl)
      have hb5_ := hall 5 (by kernel_rfl)
      have hb6_ := hall 6 (by kernel_rfl)
      have hb7_ := hall 7 (by kernel_rfl)
      have hb8_ := hall 8 (by kernel_rfl)
      subst ha
      obtain rfl := Q_X7_ hb7_
      simp only [putSel, hb0_, hb1_, hb2_, hb3_, hb4_, hb5_, hb6_, hb7_, hb8_, if_true, Act.put, List.setIfInBounds_toArray, List.set_cons_zero, List.set_cons_succ]
      clear Q_HR
      clear Q_QB
      have FIN := Aside0.mk (Q_FIN hb8_)
      clear Q_FIN
      clear hall hb0_ hb1_ hb2_ hb3_ hb4_ hb5_ hb6_ hb7_ hb8_
      have HG9 := Aside0.mk (gb HBq.out FIN.out.1)
      clear FIN
      go_wp2
      go_ret
      exact ⟨false, rfl, .inl ⟨HNO.out, rfl⟩, HG9.out⟩
    · obtain ⟨bb, hbb⟩ : ∃ t, (u64 nq.words == cw) = t := ⟨_, rfl⟩
      have hbb' : decide (u64 nq.words = cw) = bb := by rw [← hbb]; rfl
      have hst := step_some (M := M) (c := (⟨3, ca, ci, cw, cs⟩ : Ch)) (show (3 : Int) ≠ 2 by decide) hidx hmi
      rw [if_neg (show ¬ ((3 : Int) = _) by decide), if_pos rfl] at hst
      have HST := Aside0.mk hst
      have HMI := Aside0.mk hmi
      have HAD := Aside0.mk hadr
      have HBB := Aside0.mk hbb
      clear hst hidx hmi hadr
      have HR := Aside0.mk (Below.refl wz.heap.size wz)
      refine start_ (n := 9) (S := fun w' => True) (ds := []) #[false, false, false, false, false, false, false, false, false] (by kernel_rfl) rfl rfl trivial (fun hHeld => ?_)
      refine with_tabW do12.tab12 do12.bits12 (fun HT_ HW_ => ?_)
      refine inv_at [0, 1, 2, 3, 4, 5, 6, 7, 8] (fun a0_ b a w' => a = putSel a0_ b [(0, 49, .bool true), (1, 50, .bool true), (2, 51, .agg #[.int .i64 nq.adr, .int .i64 nq.refs, .int .i64 nq.sl, .int .i64 nq.words, .slice nq.A nq.m nq.c, .slice nq.B nq.n nq.d]), (3, 52, .int .u64 (u64 nq.words)), (4, 53, .pointer (some ⟨g3, 3, none⟩)), (5, 54, .int .u64 cw), (6, 55, .bool bb), (7, 56, .bool bb), (8, 7, .bool bb)] ∧ (Below wz.heap.size wz w')) HT_.out HW_.out (by kernel_rfl) (by kernel_rfl) ?_ ?_ ?_
      · exact ⟨by simp only [putSel, Bool.false_eq_true, if_false], below_drew1 HR.out⟩
      · skip
        clear HR
        refine steps_cons ?_ ?_
        · rintro b a w' ⟨ha, Q_HR⟩ hb_ hon hoff
          refine ⟨_, rfl, fun K hK => ?_⟩
          have e7 : a.tmps[7]? = some (.bool true) := by rw [ha]; exact (putSel_not (hoff 8 (by kernel_rfl)) rfl).trans rfl
          replace ha := Aside0.mk ha
          have HR := Aside0.mk Q_HR
          refine value_ (w1 := w') (v := .bool true) (by rfl) rfl ?_ ?_
          · go_simp
            (try simp only [i64_w])
            try rfl
          refine hK.out _ _ ⟨(by rw [ha.out]; exact putSel_upk 0 hb_ rfl rfl rfl), Q_HR⟩
        refine steps_cons ?_ ?_
        · rintro b a w' ⟨ha, Q_HR⟩ hb_ hon hoff
          refine ⟨_, rfl, fun K hK => ?_⟩
          have e49 : a.tmps[49]? = some (.bool true) := by rw [ha]; exact putSel_on (e := (0, 49, .bool true)) 0 rfl rfl (hon 0 (by kernel_rfl)) rfl
          replace ha := Aside0.mk ha
          have HR := Aside0.mk Q_HR
          refine value_ (w1 := w') (v := .bool true) (by rfl) rfl ?_ ?_
          · go_simp
            (try simp only [i64_w])
            try rfl
          refine hK.out _ _ ⟨(by rw [ha.out]; exact putSel_upk 1 hb_ rfl rfl rfl), Q_HR⟩
        refine steps_cons ?_ ?_
        · rintro b a w' ⟨ha, Q_HR⟩ hb_ hon hoff
          refine ⟨_, rfl, fun K hK => ?_⟩
          have e5 : a.tmps[5]? = some (.pointer (some ⟨g5, 0, none⟩)) := by rw [ha]; exact (putSel_off rfl).trans rfl
          have e50 : a.tmps[50]? = some (.bool true) := by rw [ha]; exact putSel_on (e := (1, 50, .bool true)) 1 rfl rfl (hon 1 (by kernel_rfl)) rfl
          replace ha := Aside0.mk ha
          have HR := Aside0.mk Q_HR
          have hl51_0 : w'.cell? ⟨g5, 0, none⟩ = some (.int .i64 nq.adr) := (blk_cell (blk_below BK5.out HR.out) 0).trans rfl
          have hl51_1 : w'.cell? ⟨g5, 1, none⟩ = some (.int .i64 nq.refs) := (blk_cell (blk_below BK5.out HR.out) 1).trans rfl
          have hl51_2 : w'.cell? ⟨g5, 2, none⟩ = some (.int .i64 nq.sl) := (blk_cell (blk_below BK5.out HR.out) 2).trans rfl
          have hl51_3 : w'.cell? ⟨g5, 3, none⟩ = some (.int .i64 nq.words) := (blk_cell (blk_below BK5.out HR.out) 3).trans rfl
          have hl51_4 : w'.cell? ⟨g5, 4, none⟩ = some (.slice nq.A nq.m nq.c) := (blk_cell (blk_below BK5.out HR.out) 4).trans rfl
          have hl51_5 : w'.cell? ⟨g5, 5, none⟩ = some (.slice nq.B nq.n nq.d) := (blk_cell (blk_below BK5.out HR.out) 5).trans rfl
          refine value_ (w1 := w') (v := .agg #[.int .i64 nq.adr, .int .i64 nq.refs, .int .i64 nq.sl, .int .i64 nq.words, .slice nq.A nq.m nq.c, .slice nq.B nq.n nq.d]) (wanted_on rfl rfl rfl (e50.trans (by first | rfl | (simp [*]; done)))) rfl ?_ ?_
          · go_simp
            (try simp only [i64_w])
            try rfl
          refine hK.out _ _ ⟨(by rw [ha.out]; exact putSel_upk 2 hb_ rfl rfl rfl), Q_HR⟩
        refine steps_cons ?_ ?_
        · rintro b a w' ⟨ha, Q_HR⟩ hb_ hon hoff
          refine ⟨_, rfl, fun K hK => ?_⟩
          have e51 : a.tmps[51]? = some (.agg #[.int .i64 nq.adr, .int .i64 nq.refs, .int .i64 nq.sl, .int .i64 nq.words, .slice nq.A nq.m nq.c, .slice nq.B nq.n nq.d]) := by rw [ha]; exact putSel_on (e := (2, 51, .agg #[.int .i64 nq.adr, .int .i64 nq.refs, .int .i64 nq.sl, .int .i64 nq.words, .slice nq.A nq.m nq.c, .slice nq.B nq.n nq.d])) 2 rfl rfl (hon 2 (by kernel_rfl)) rfl
          have e50 : a.tmps[50]? = some (.bool true) := by rw [ha]; exact putSel_on (e := (1, 50, .bool true)) 1 rfl rfl (hon 1 (by kernel_rfl)) rfl
          replace ha := Aside0.mk ha
          have HR := Aside0.mk Q_HR
          refine goes_ Try.func35 (by kernel_rfl) rfl #[.agg #[.int .i64 nq.adr, .int .i64 nq.refs, .int .i64 nq.sl, .int .i64 nq.words, .slice nq.A nq.m nq.c, .slice nq.B nq.n nq.d]] (wanted_on rfl rfl rfl (e50.trans (by first | rfl | (simp [*]; done)))) rfl rfl (by first | (simp only [List.map_toArray, List.map_cons, List.map_nil, Act.eval, Array.getD_eq_getD_getElem?, Option.getD_some, e51, e50]; done) | (simp only [List.map_toArray, List.map_cons, List.map_nil, Act.eval, Array.getD_eq_getD_getElem?, Option.getD_some, e51, e50]; rfl)) ?_
          with_reducible refine (words_calls _ nq.adr nq.refs nq.sl nq.words nq.A nq.m nq.c nq.B nq.n nq.d).mono ?_
          rintro e w3 ⟨rfl, hb⟩
          refine ⟨_, rfl, ?_⟩
          refine hK.out _ _ ⟨(by rw [ha.out]; exact putSel_upk 3 hb_ rfl rfl rfl), (below_step HR.out hb)⟩
        refine steps_cons ?_ ?_
        · rintro b a w' ⟨ha, Q_HR⟩ hb_ hon hoff
          refine ⟨_, rfl, fun K hK => ?_⟩
          have e3 : a.tmps[3]? = some (.pointer (some ⟨g3, 0, none⟩)) := by rw [ha]; exact (putSel_off rfl).trans rfl
          have e50 : a.tmps[50]? = some (.bool true) := by rw [ha]; exact putSel_on (e := (1, 50, .bool true)) 1 rfl rfl (hon 1 (by kernel_rfl)) rfl
          replace ha := Aside0.mk ha
          have HR := Aside0.mk Q_HR
          refine value_ (w1 := w') (v := .pointer (some ⟨g3, 3, none⟩)) (wanted_on rfl rfl rfl (e50.trans (by first | rfl | (simp [*]; done)))) rfl ?_ ?_
          · go_simp
            (try simp only [i64_w])
            try rfl
          refine hK.out _ _ ⟨(by rw [ha.out]; exact putSel_upk 4 hb_ rfl rfl rfl), Q_HR⟩
        refine steps_cons ?_ ?_
        · rintro b a w' ⟨ha, Q_HR⟩ hb_ hon hoff
          refine ⟨_, rfl, fun K hK => ?_⟩
          have e53 : a.tmps[53]? = some (.pointer (some ⟨g3, 3, none⟩)) := by rw [ha]; exact putSel_on (e := (4, 53, .pointer (some ⟨g3, 3, none⟩))) 4 rfl rfl (hon 4 (by kernel_rfl)) rfl
          have e50 : a.tmps[50]? = some (.bool true) := by rw [ha]; exact putSel_on (e := (1, 50, .bool true)) 1 rfl rfl (hon 1 (by kernel_rfl)) rfl
          replace ha := Aside0.mk ha
          have HR := Aside0.mk Q_HR
          have hl54 : w'.cell? ⟨g3, 3, none⟩ = some (.int .u64 cw) := (blk_cell (blk_below BK3z.out HR.out) 3).trans rfl
          refine value_ (w1 := w') (v := .int .u64 cw) (wanted_on rfl rfl rfl (e50.trans (by first | rfl | (simp [*]; done)))) rfl ?_ ?_
          · go_simp
            (try simp only [i64_w])
            try rfl
          refine hK.out _ _ ⟨(by rw [ha.out]; exact putSel_upk 5 hb_ rfl rfl rfl), Q_HR⟩
        refine steps_cons ?_ ?_
        · rintro b a w' ⟨ha, Q_HR⟩ hb_ hon hoff
          refine ⟨_, rfl, fun K hK => ?_⟩
          have e52 : a.tmps[52]? = some (.int .u64 (u64 nq.words)) := by rw [ha]; exact putSel_on (e := (3, 52, .int .u64 (u64 nq.words))) 3 rfl rfl (hon 3 (by kernel_rfl)) rfl
          have e54 : a.tmps[54]? = some (.int .u64 cw) := by rw [ha]; exact putSel_on (e := (5, 54, .int .u64 cw)) 5 rfl rfl (hon 5 (by kernel_rfl)) rfl
          have e50 : a.tmps[50]? = some (.bool true) := by rw [ha]; exact putSel_on (e := (1, 50, .bool true)) 1 rfl rfl (hon 1 (by kernel_rfl)) rfl
          replace ha := Aside0.mk ha
          have HR := Aside0.mk Q_HR
          refine value_ (w1 := w') (v := .bool bb) (wanted_on rfl rfl rfl (e50.trans (by first | rfl | (simp [*]; done)))) rfl ?_ ?_
          · go_simp
            (try simp only [i64_w])
            try rfl
          refine hK.out _ _ ⟨(by rw [ha.out]; exact putSel_upk 6 hb_ rfl rfl rfl), Q_HR⟩
        refine steps_cons ?_ ?_
        · rintro b a w' ⟨ha, Q_HR⟩ hb_ hon hoff
          refine ⟨_, rfl, fun K hK => ?_⟩
          have e50 : a.tmps[50]? = some (.bool true) := by rw [ha]; exact putSel_on (e := (1, 50, .bool true)) 1 rfl rfl (hon 1 (by kernel_rfl)) rfl
          have e55 : a.tmps[55]? = some (.bool bb) := by rw [ha]; exact putSel_on (e := (6, 55, .bool bb)) 6 rfl rfl (hon 6 (by kernel_rfl)) rfl
          replace ha := Aside0.mk ha
          have HR := Aside0.mk Q_HR
          refine value_ (w1 := w') (v := .bool bb) (by rfl) rfl ?_ ?_
          · go_simp
            (try simp only [i64_w])
            try rfl
          refine hK.out _ _ ⟨(by rw [ha.out]; exact putSel_upk 7 hb_ rfl rfl rfl), Q_HR⟩
        refine steps_cons ?_ ?_
        · rintro b a w' ⟨ha, Q_HR⟩ hb_ hon hoff
          refine ⟨_, rfl, fun K hK => ?_⟩
          have e56 : a.tmps[56]? = some (.bool bb) := by rw [ha]; exact putSel_on (e := (7, 56, .bool bb)) 7 rfl rfl (hon 7 (by kernel_rfl)) rfl
          replace ha := Aside0.mk ha
          have HR := Aside0.mk Q_HR
          refine value_ (w1 := w') (v := .bool bb) (by rfl) rfl ?_ ?_
          · go_simp
            (try simp only [i64_w])
            try rfl
          refine hK.out _ _ ⟨(by rw [ha.out]; exact putSel_upk 8 hb_ rfl rfl rfl), Q_HR⟩
        exact steps_nil
      rintro b a wq hall ⟨ha, Q_HR⟩
      clear HR
      have hb0_ := hall 0 (by kernel_rfl)
      have hb1_ := hall 1 (by kernel_rfl)
      have hb2_ := hall 2 (by kernel_rfl)
      have hb3_ := hall 3 (by kernel_rfl)
      have hb4_ := hall 4 (by kernel_rfl)
      have hb5_ := hall 5 (by kernel_rfl)
      have hb6_ := hall 6 (by kernel_rfl)
      have hb7_ := hall 7 (by kernel_rfl)
      have hb8_ := hall 8 (by kernel_rfl)
      subst ha
      simp only [putSel, hb0_, hb1_, hb2_, hb3_, hb4_, hb5_, hb6_, hb7_, hb8_, if_true, Act.put, List.setIfInBounds_toArray, List.set_cons_zero, List.set_cons_succ]
      have HR := Aside0.mk Q_HR
      clear Q_HR
      clear hall hb0_ hb1_ hb2_ hb3_ hb4_ hb5_ hb6_ hb7_ hb8_
      clear hbb hbb'
      have HBq := Aside0.mk (below_step HBz.out HR.out)
      have BKq3 := Aside0.mk (blk_below BK3z.out HR.out)
      have OWQ := Aside0.mk (owns_below OWZ.out HR.out)
      have LSQ := Aside0.mk (fun n hn => (LSZ.out n hn).to HR.out : ∀ n ∈ M, DL wq wq.heap.size n)
      go_upto_region 13 with fail
      clear HR
      have HR := Aside0.mk (Below.refl wq.heap.size wq)
      refine start_ (n := 9) (S := fun w' => True) (ds := []) #[false, false, false, false, false, false, false, false, false] (by kernel_rfl) rfl rfl trivial (fun hHeld => ?_)
      refine with_tabW do13.tab13 do13.bits13 (fun HT_ HW_ => ?_)
      refine inv_at [0, 1, 2, 3, 4, 5, 6, 7, 8] (fun a0_ b a w' => ∃ (q : Nd) (m7_ : Value), a = putSel a0_ b [(0, 57, .map (some mb)), (1, 58, .pointer (some ⟨g3, 1, none⟩)), (2, 59, .int .i64 ca), (3, 60, .pointer (some ⟨g3, 1, none⟩)), (4, 61, .int .i64 ca), (5, 62, .pointer (some ⟨g3, 4, none⟩)), (6, 63, .int .u64 cs), (7, 64, m7_)] ∧ (b 8 = false → Below wq.heap.size wq w') ∧ (b 7 = true → b 8 = false → q.pn = bareP ca cs ∧ DL w' w'.heap.size q) ∧ (b 8 = true → wq.grownBy w' (some mb) ∧ w'.ownsMap Try.prog 3 nR mb (nn + 1) (D.put (key ca) (.held q.val)) ∧ q.pn = bareP ca cs ∧ DL w' w'.heap.size q ∧ ∀ n ∈ M, DL w' w'.heap.size n) ∧ (b 7 = true → (m7_ : Value) = q.val)) HT_.out HW_.out (by kernel_rfl) (by kernel_rfl) ?_ ?_ ?_
      · exact ⟨default, .bool false, by simp only [putSel, Bool.false_eq_true, if_false], fun _ => below_drew1 HR.out, fun h_ => absurd h_ (by decide), fun h_ => absurd h_ (by decide), fun h_ => absurd h_ (by decide)⟩
      · skip
        clear HR
        refine steps_cons ?_ ?_
        · rintro b a w' ⟨q, m7_, ha, Q_HR, Q_QB, Q_FIN, Q_X7_⟩ hb_ hon hoff
          refine ⟨_, rfl, fun K hK => ?_⟩
          have e0 : a.tmps[0]? = some (.map (some mb)) := by rw [ha]; exact (putSel_off rfl).trans rfl
          replace ha := Aside0.mk ha
          have HR := Aside0.mk (Q_HR (hoff 8 (by kernel_rfl)))
          refine value_ (w1 := w') (v := .map (some mb)) (by rfl) rfl ?_ ?_
          · go_simp
            (try simp only [i64_w])
            try rfl
          refine hK.out _ _ ⟨q, m7_, (by rw [ha.out]; exact putSel_upk 0 hb_ rfl rfl rfl), Q_HR, Q_QB, fun h0_ => absurd ((hoff 8 (by kernel_rfl)).symm.trans h0_) (by decide), Q_X7_⟩
        refine steps_cons ?_ ?_
        · rintro b a w' ⟨q, m7_, ha, Q_HR, Q_QB, Q_FIN, Q_X7_⟩ hb_ hon hoff
          refine ⟨_, rfl, fun K hK => ?_⟩
          have e3 : a.tmps[3]? = some (.pointer (some ⟨g3, 0, none⟩)) := by rw [ha]; exact (putSel_off rfl).trans rfl
          replace ha := Aside0.mk ha
          have HR := Aside0.mk (Q_HR (hoff 8 (by kernel_rfl)))
          refine value_ (w1 := w') (v := .pointer (some ⟨g3, 1, none⟩)) (by rfl) rfl ?_ ?_
          · go_simp
            (try simp only [i64_w])
            try rfl
          refine hK.out _ _ ⟨q, m7_, (by rw [ha.out]; exact putSel_upk 1 hb_ rfl rfl rfl), Q_HR, Q_QB, fun h0_ => absurd ((hoff 8 (by kernel_rfl)).symm.trans h0_) (by decide), Q_X7_⟩
        refine steps_cons ?_ ?_
        · rintro b a w' ⟨q, m7_, ha, Q_HR, Q_QB, Q_FIN, Q_X7_⟩ hb_ hon hoff
          refine ⟨_, rfl, fun K hK => ?_⟩
          have e58 : a.tmps[58]? = some (.pointer (some ⟨g3, 1, none⟩)) := by rw [ha]; exact putSel_on (e := (1, 58, .pointer (some ⟨g3, 1, none⟩))) 1 rfl rfl (hon 1 (by kernel_rfl)) rfl
          replace ha := Aside0.mk ha
          have HR := Aside0.mk (Q_HR (hoff 8 (by kernel_rfl)))
          have hl59 : w'.cell? ⟨g3, 1, none⟩ = some (.int .i64 ca) := (blk_cell (blk_below BKq3.out HR.out) 1).trans rfl
          refine value_ (w1 := w') (v := .int .i64 ca) (by rfl) rfl ?_ ?_
          · go_simp
            (try simp only [i64_w])
            try rfl
          refine hK.out _ _ ⟨q, m7_, (by rw [ha.out]; exact putSel_upk 2 hb_ rfl rfl rfl), Q_HR, Q_QB, fun h0_ => absurd ((hoff 8 (by kernel_rfl)).symm.trans h0_) (by decide), Q_X7_⟩
        refine steps_cons ?_ ?_
        · rintro b a w' ⟨q, m7_, ha, Q_HR, Q_QB, Q_FIN, Q_X7_⟩ hb_ hon hoff
          refine ⟨_, rfl, fun K hK => ?_⟩
          have e3 : a.tmps[3]? = some (.pointer (some ⟨g3, 0, none⟩)) := by rw [ha]; exact (putSel_off rfl).trans rfl
          replace ha := Aside0.mk ha
          have HR := Aside0.mk (Q_HR (hoff 8 (by kernel_rfl)))
          refine value_ (w1 := w') (v := .pointer (some ⟨g3, 1, none⟩)) (by rfl) rfl ?_ ?_
          · go_simp
            (try simp only [i64_w])
            try rfl
          refine hK.out _ _ ⟨q, m7_, (by rw [ha.out]; exact putSel_upk 3 hb_ rfl rfl rfl), Q_HR, fun h0_ _ => absurd ((hoff 7 (by kernel_rfl)).symm.trans h0_) (by decide), fun h0_ => absurd ((hoff 8 (by kernel_rfl)).symm.trans h0_) (by decide), fun h0_ => absurd ((hoff 7 (by kernel_rfl)).symm.trans h0_) (by decide)⟩
        refine steps_cons ?_ ?_
        · rintro b a w' ⟨q, m7_, ha, Q_HR, Q_QB, Q_FIN, Q_X7_⟩ hb_ hon hoff
          refine ⟨_, rfl, fun K hK => ?_⟩
          have e60 : a.tmps[60]? = some (.pointer (some ⟨g3, 1, none⟩)) := by rw [ha]; exact putSel_on (e := (3, 60, .pointer (some ⟨g3, 1, none⟩))) 3 rfl rfl (hon 3 (by kernel_rfl)) rfl
          replace ha := Aside0.mk ha
          have HR := Aside0.mk (Q_HR (hoff 8 (by kernel_rfl)))
          have hl61 : w'.cell? ⟨g3, 1, none⟩ = some (.int .i64 ca) := (blk_cell (blk_below BKq3.out HR.out) 1).trans rfl
          refine value_ (w1 := w') (v := .int .i64 ca) (by rfl) rfl ?_ ?_
          · go_simp
            (try simp only [i64_w])
            try rfl
          refine hK.out _ _ ⟨q, m7_, (by rw [ha.out]; exact putSel_upk 4 hb_ rfl rfl rfl), Q_HR, fun h0_ _ => absurd ((hoff 7 (by kernel_rfl)).symm.trans h0_) (by decide), fun h0_ => absurd ((hoff 8 (by kernel_rfl)).symm.trans h0_) (by decide), fun h0_ => absurd ((hoff 7 (by kernel_rfl)).symm.trans h0_) (by decide)⟩
        refine steps_cons ?_ ?_
        · rintro b a w' ⟨q, m7_, ha, Q_HR, Q_QB, Q_FIN, Q_X7_⟩ hb_ hon hoff
          refine ⟨_, rfl, fun K hK => ?_⟩
          have e3 : a.tmps[3]? = some (.pointer (some ⟨g3, 0, none⟩)) := by rw [ha]; exact (putSel_off rfl).trans rfl
          replace ha := Aside0.mk ha
          have HR := Aside0.mk (Q_HR (hoff 8 (by kernel_rfl)))
          refine value_ (w1 := w') (v := .pointer (some ⟨g3, 4, none⟩)) (by rfl) rfl ?_ ?_
          · go_simp
            (try simp only [i64_w])
            try rfl
          refine hK.out _ _ ⟨q, m7_, (by rw [ha.out]; exact putSel_upk 5 hb_ rfl rfl rfl), Q_HR, fun h0_ _ => absurd ((hoff 7 (by kernel_rfl)).symm.trans h0_) (by decide), fun h0_ => absurd ((hoff 8 (by kernel_rfl)).symm.trans h0_) (by decide), fun h0_ => absurd ((hoff 7 (by kernel_rfl)).symm.trans h0_) (by decide)⟩
        refine steps_cons ?_ ?_
        · rintro b a w' ⟨q, m7_, ha, Q_HR, Q_QB, Q_FIN, Q_X7_⟩ hb_ hon hoff
          refine ⟨_, rfl, fun K hK => ?_⟩
          have e62 : a.tmps[62]? = some (.pointer (some ⟨g3, 4, none⟩)) := by rw [ha]; exact putSel_on (e := (5, 62, .pointer (some ⟨g3, 4, none⟩))) 5 rfl rfl (hon 5 (by kernel_rfl)) rfl
          replace ha := Aside0.mk ha
          have HR := Aside0.mk (Q_HR (hoff 8 (by kernel_rfl)))
          have hl63 : w'.cell? ⟨g3, 4, none⟩ = some (.int .u64 cs) := (blk_cell (blk_below BKq3.out HR.out) 4).trans rfl
          refine value_ (w1 := w') (v := .int .u64 cs) (by rfl) rfl ?_ ?_
          · go_simp
            (try simp only [i64_w])
            try rfl
          refine hK.out _ _ ⟨q, m7_, (by rw [ha.out]; exact putSel_upk 6 hb_ rfl rfl rfl), Q_HR, fun h0_ _ => absurd ((hoff 7 (by kernel_rfl)).symm.trans h0_) (by decide), fun h0_ => absurd ((hoff 8 (by kernel_rfl)).symm.trans h0_) (by decide), fun h0_ => absurd ((hoff 7 (by kernel_rfl)).symm.trans h0_) (by decide)⟩
        refine steps_cons ?_ ?_
        · rintro b a w' ⟨q, m7_, ha, Q_HR, Q_QB, Q_FIN, Q_X7_⟩ hb_ hon hoff
          refine ⟨_, rfl, fun K hK => ?_⟩
          have e61 : a.tmps[61]? = some (.int .i64 ca) := by rw [ha]; exact putSel_on (e := (4, 61, .int .i64 ca)) 4 rfl rfl (hon 4 (by kernel_rfl)) rfl
          have e63 : a.tmps[63]? = some (.int .u64 cs) := by rw [ha]; exact putSel_on (e := (6, 63, .int .u64 cs)) 6 rfl rfl (hon 6 (by kernel_rfl)) rfl
          replace ha := Aside0.mk ha
          have HR := Aside0.mk (Q_HR (hoff 8 (by kernel_rfl)))
          refine goes_ Try.func36 (by kernel_rfl) rfl #[.int .i64 ca, .int .u64 cs] (by rfl) rfl rfl (by first | (simp only [List.map_toArray, List.map_cons, List.map_nil, Act.eval, Array.getD_eq_getD_getElem?, Option.getD_some, e61, e63]; done) | (simp only [List.map_toArray, List.map_cons, List.map_nil, Act.eval, Array.getD_eq_getD_getElem?, Option.getD_some, e61, e63]; rfl)) ?_
          with_reducible refine (dbare_calls _ ca cs HCS.out).mono ?_
          rintro e w3 ⟨q3, rfl, hq3, hd3, hb⟩
          refine ⟨_, rfl, ?_⟩
          refine hK.out _ _ ⟨q3, (q3.val), (by rw [ha.out]; exact putSel_upk 7 hb_ rfl rfl rfl), fun _ => (below_step HR.out hb), fun _ _ => ⟨hq3, hd3⟩, fun h0_ => absurd ((hoff 8 (by kernel_rfl)).symm.trans h0_) (by decide), fun _ => rfl⟩
        refine steps_cons ?_ ?_
        · rintro b a w' ⟨q, m7_, ha, Q_HR, Q_QB, Q_FIN, Q_X7_⟩ hb_ hon hoff
          refine ⟨_, rfl, fun K hK => ?_⟩
          have e57 : a.tmps[57]? = some (.map (some mb)) := by rw [ha]; exact putSel_on (e := (0, 57, .map (some mb))) 0 rfl rfl (hon 0 (by kernel_rfl)) rfl
          have e59 : a.tmps[59]? = some (.int .i64 ca) := by rw [ha]; exact putSel_on (e := (2, 59, .int .i64 ca)) 2 rfl rfl (hon 2 (by kernel_rfl)) rfl
          have e64 : a.tmps[64]? = some (m7_) := by rw [ha]; exact putSel_on (e := (7, 64, m7_)) 7 rfl rfl (hon 7 (by kernel_rfl)) rfl
          rw [Q_X7_ (hon 7 (by kernel_rfl))] at e64
          replace ha := Aside0.mk ha
          have HR := Aside0.mk (Q_HR hb_)
          have QB := Aside0.mk (Q_QB (hon 7 (by kernel_rfl)) hb_)
          obtain ⟨w9, hrun9, ho9, ht9⟩ := (owns_below OWQ.out HR.out).store Di.keyed3 Try.underlying46 (by unfold maxLen; omega) (keyOf3 HCA.out) (val := q.val) (d := .held q.val) (ps := []) rfl
          have hg9 := ht9.grown
          obtain ⟨es9, cl9, hb9, _⟩ := owns_below OWQ.out HR.out
          refine skip_ (w1 := ?_) (by rfl) rfl ?_ ?_
          rotate_left
          · go_simp
            rfl
          refine hK.out _ _ ⟨q, m7_, (by rw [ha.out]; exact putSel_none (v := undef) rfl), fun h0_ => absurd ((up_self b 8).symm.trans h0_) (by decide), fun _ h1_ => absurd ((up_self b 8).symm.trans h1_) (by decide), fun _ => ⟨gb HR.out hg9, ho9, QB.out.1, QB.out.2.grown hg9 hb9, fun n hn => ((LSQ.out n hn).to HR.out).grown hg9 hb9⟩, Q_X7_⟩
        exact steps_nil
      rintro b a wf hall ⟨q, m7_, ha, Q_HR, Q_QB, Q_FIN, Q_X7_⟩
      clear HR
      have hb0_ := hall 0 (by kernel_rfl)
      have hb1_ := hall 1 (by kernel_rfl)
      have hb2_ := hall 2 (by kernel_rfl)
      have hb3_ := hall 3 (by kernel_rfl)
      have hb4_ := hall 4 (by kernel_rfl)
      have hb5_ := hall 5 (by kernel_rfl)
      have hb6_ := hall 6 (by kernel_rfl)
      have hb7_ := hall 7 (by kernel_rfl)
      have hb8_ := hall 8 (by kernel_rfl)
      subst ha
      obtain rfl := Q_X7_ hb7_
      simp only [putSel, hb0_, hb1_, hb2_, hb3_, hb4_, hb5_, hb6_, hb7_, hb8_, if_true, Act.put, List.setIfInBounds_toArray, List.set_cons_zero, List.set_cons_succ]
      clear Q_HR
      clear Q_QB
      have FIN := Aside0.mk (Q_FIN hb8_)
      clear Q_FIN
      clear hall hb0_ hb1_ hb2_ hb3_ hb4_ hb5_ hb6_ hb7_ hb8_
      obtain ⟨hg9, ho9, hqp, hqd, hls⟩ := FIN.out
      have hqa : q.adr = ca := congrArg Pn.adr hqp
      have hqn : q.n = bareN cs := (hqd.2.1).symm.trans ((congrArg List.length (congrArg Pn.T hqp)).trans List.length_replicate)
      have hqm : q.m = 0 := (hqd.1.1).symm.trans (congrArg List.length (congrArg Pn.S hqp))
      have hq255 := bareN_le cs
      have HG9 := Aside0.mk (gb HBq.out hg9)
      have HD := Aside0.mk (HM.out.set HMI.out (hqa.trans HAD.out.symm) HMA.out (by rw [HAD.out]; exact ho9) hls hqd ⟨by omega, by omega⟩)
      have HQP := Aside0.mk hqp
      clear hg9 ho9 hqp hqd hls hqa hqn hqm FIN
      go_wp2
      go_ret
      cases bb with
      | false => exact ⟨false, rfl, .inl ⟨by rw [HST.out]; exact if_neg (by simpa using HBB.out), rfl⟩, HG9.out⟩
      | true => exact ⟨true, rfl, .inr ⟨_, by rw [HST.out, ← HQP.out, set_pn]; exact if_pos (by simpa using HBB.out), rfl, HD.out⟩, HG9.out⟩
  have hk3 : decide (ck = 3) = false := decide_eq_false k3
  by_cases k4 : ck = 4
  · subst k4
    have HLq := Aside0.mk (LQZ.out.1)
    have hszq := SZQ.out.1
    go_upto_region 16 with (go_at_call 18; refine (pointed_calls _ nq.A nq.m nq.c nq.S HLq hszq 4 ca ci cw cs HCS.out).mono ?_; rintro e w3 ⟨a5, n5, c5, bo, rfl, hout, hb3⟩; have HOUT := Aside0.mk hout; have HB3 := Aside0.mk hb3; have BK5y := Aside0.mk (blk_below BK5.out hb3); have BK3y := Aside0.mk (blk_below BK3z.out hb3); have OWY := Aside0.mk (owns_below OWZ.out hb3); clear hout hb3; have hy5 : w3.cell? ⟨g5, 4, none⟩ = some (.slice nq.A nq.m nq.c) := (blk_cell BK5y.out 4).trans rfl; have hyf5 := blk_frozen BK5y.out 4)
    rcases TC.out with ⟨rfl, hidx, hdf_⟩ | ⟨rfl, i, hidx, hmi, hadr⟩
    · have HNO := Aside0.mk (step_none (M := M) (c := (⟨4, ca, ci, cw, cs⟩ : Ch)) (show (4 : Int) ≠ 2 by decide) hidx)
      clear hdf_
      clear hidx
      go_upto_region 17 with fail
      obtain ⟨wu, hwu⟩ : ∃ x, x = w3.setCell ⟨g5, 4, none⟩ (.slice a5 n5 c5) := ⟨_, rfl⟩
      rw [← hwu]
      have BK5u := Aside0.mk (show wu.heap[g5]? = some (.cells #[.int .i64 nq.adr, .int .i64 nq.refs, .int .i64 nq.sl, .int .i64 nq.words, .slice a5 n5 c5, .slice nq.B nq.n nq.d] 40 (0, 0)) by rw [hwu]; exact blk_put BK5y.out 4 _ rfl)
      have BK3u := Aside0.mk (show wu.heap[g3]? = some (.cells #[.int .i64 4, .int .i64 ca, .int .i64 ci, .int .u64 cw, .int .u64 cs] 44 (0, 0)) by rw [hwu]; exact blk_far BK3y.out NE35.out _)
      have HBu := Aside0.mk (show Below w.heap.size w wu by rw [hwu]; exact below_set (below_step HBz.out HB3.out) GE5.out)
      have OWU := Aside0.mk (show wu.ownsMap Try.prog 3 nR mb nn D by rw [hwu]; exact owns_far OWY.out NEB.out _)
      have HWU := Aside0.mk hwu
      clear hwu
      have hu3 : wu.cell? ⟨g3, 1, none⟩ = some (.int .i64 ca) := (blk_cell BK3u.out 1).trans rfl
      have hu5_0 : wu.cell? ⟨g5, 0, none⟩ = some (.int .i64 nq.adr) := (blk_cell BK5u.out 0).trans rfl
      have hu5_1 : wu.cell? ⟨g5, 1, none⟩ = some (.int .i64 nq.refs) := (blk_cell BK5u.out 1).trans rfl
      have hu5_2 : wu.cell? ⟨g5, 2, none⟩ = some (.int .i64 nq.sl) := (blk_cell BK5u.out 2).trans rfl
      have hu5_3 : wu.cell? ⟨g5, 3, none⟩ = some (.int .i64 nq.words) := (blk_cell BK5u.out 3).trans rfl
      have hu5_4 : wu.cell? ⟨g5, 4, none⟩ = some (.slice a5 n5 c5) := (blk_cell BK5u.out 4).trans rfl
      have hu5_5 : wu.cell? ⟨g5, 5, none⟩ = some (.slice nq.B nq.n nq.d) := (blk_cell BK5u.out 5).trans rfl
      go_wp2_with (at_mapUpdate; refine wpList_mapUpdate_own _ rfl _ _ _ 46 rfl 3 40 Di.keyed3 Try.underlying46 nR mb nn D rfl OWU.out (by unfold maxLen; omega) _ _ _ rfl rfl (keyOf3 HCA.out) (.held (.agg #[.int .i64 nq.adr, .int .i64 nq.refs, .int .i64 nq.sl, .int .i64 nq.words, .slice a5 n5 c5, .slice nq.B nq.n nq.d])) [] rfl ?_; intro w9 hown9 hg9; have OW9 := Aside0.mk hown9; have HG9 := Aside0.mk (gb HBu.out hg9); have HGU := Aside0.mk hg9; clear hown9 hg9)
      go_ret
      exact ⟨_, rfl, .inl ⟨HNO.out, rfl⟩, HG9.out⟩
    · have hst := step_some (M := M) (c := (⟨4, ca, ci, cw, cs⟩ : Ch)) (show (4 : Int) ≠ 2 by decide) hidx hmi
      rw [if_neg (show ¬ ((4 : Int) = _) by decide), if_neg (show ¬ ((4 : Int) = _) by decide), if_pos rfl] at hst
      have HST := Aside0.mk hst
      have HMI := Aside0.mk hmi
      have HAD := Aside0.mk hadr
      clear hst hidx hmi hadr
      go_upto_region 17 with fail
      obtain ⟨wu, hwu⟩ : ∃ x, x = w3.setCell ⟨g5, 4, none⟩ (.slice a5 n5 c5) := ⟨_, rfl⟩
      rw [← hwu]
      have BK5u := Aside0.mk (show wu.heap[g5]? = some (.cells #[.int .i64 nq.adr, .int .i64 nq.refs, .int .i64 nq.sl, .int .i64 nq.words, .slice a5 n5 c5, .slice nq.B nq.n nq.d] 40 (0, 0)) by rw [hwu]; exact blk_put BK5y.out 4 _ rfl)
      have BK3u := Aside0.mk (show wu.heap[g3]? = some (.cells #[.int .i64 4, .int .i64 ca, .int .i64 ci, .int .u64 cw, .int .u64 cs] 44 (0, 0)) by rw [hwu]; exact blk_far BK3y.out NE35.out _)
      have HBu := Aside0.mk (show Below w.heap.size w wu by rw [hwu]; exact below_set (below_step HBz.out HB3.out) GE5.out)
      have OWU := Aside0.mk (show wu.ownsMap Try.prog 3 nR mb nn D by rw [hwu]; exact owns_far OWY.out NEB.out _)
      have HWU := Aside0.mk hwu
      clear hwu
      have hu3 : wu.cell? ⟨g3, 1, none⟩ = some (.int .i64 ca) := (blk_cell BK3u.out 1).trans rfl
      have hu5_0 : wu.cell? ⟨g5, 0, none⟩ = some (.int .i64 nq.adr) := (blk_cell BK5u.out 0).trans rfl
      have hu5_1 : wu.cell? ⟨g5, 1, none⟩ = some (.int .i64 nq.refs) := (blk_cell BK5u.out 1).trans rfl
      have hu5_2 : wu.cell? ⟨g5, 2, none⟩ = some (.int .i64 nq.sl) := (blk_cell BK5u.out 2).trans rfl
      have hu5_3 : wu.cell? ⟨g5, 3, none⟩ = some (.int .i64 nq.words) := (blk_cell BK5u.out 3).trans rfl
      have hu5_4 : wu.cell? ⟨g5, 4, none⟩ = some (.slice a5 n5 c5) := (blk_cell BK5u.out 4).trans rfl
      have hu5_5 : wu.cell? ⟨g5, 5, none⟩ = some (.slice nq.B nq.n nq.d) := (blk_cell BK5u.out 5).trans rfl
      go_wp2_with (at_mapUpdate; refine wpList_mapUpdate_own _ rfl _ _ _ 46 rfl 3 40 Di.keyed3 Try.underlying46 nR mb nn D rfl OWU.out (by unfold maxLen; omega) _ _ _ rfl rfl (keyOf3 HCA.out) (.held (.agg #[.int .i64 nq.adr, .int .i64 nq.refs, .int .i64 nq.sl, .int .i64 nq.words, .slice a5 n5 c5, .slice nq.B nq.n nq.d])) [] rfl ?_; intro w9 hown9 hg9; have OW9 := Aside0.mk hown9; have HG9 := Aside0.mk (gb HBu.out hg9); have HGU := Aside0.mk hg9; clear hown9 hg9)
      go_ret
      rcases HOUT.out with ⟨hno, rfl⟩ | ⟨l', hl', rfl, hil, hfar⟩
      · exact ⟨_, rfl, .inl ⟨by rw [HST.out, hno]; rfl, rfl⟩, HG9.out⟩
      · have hlen : n5 = nq.m := by
          have e1 := hil.1
          have e2 := chgS_len hl'
          have e3 := HLq.out.1
          omega
        obtain ⟨es5, cl5, hb5, _⟩ := OWU.out
        have hil9 : IL .i64 w9 w9.heap.size a5 n5 l' := (IL_far hil HWU.out (fun y e => Nat.ne_of_gt (Nat.lt_of_lt_of_le (blk_lt BK5.out) (hfar y e)))).grown HGU.out hb5
        have hls : ∀ n ∈ M, DL w9 w9.heap.size n := fun n hn => ((HM.out.lists n hn).to HBu.out).grown HGU.out hb5
        have hdq : DL w9 w9.heap.size nq := (LQ.out.to HBu.out).grown HGU.out hb5
        exact ⟨_, rfl, .inr ⟨M.set i { nq with A := a5, m := n5, c := c5, S := l' }, by rw [HST.out, hl', ← set_pn]; rfl, rfl, HM.out.set HMI.out rfl HMA.out (by have h9 := OW9.out; rw [← HAD.out] at h9; exact h9) hls ⟨hil9, hdq.2⟩ (by show _ ∧ _; simp only [hlen]; exact SZQ.out)⟩, HG9.out⟩
  have hk4 : decide (ck = 4) = false := decide_eq_false k4
  by_cases k5 : ck = 5
  · subst k5
    have HLq := Aside0.mk (LQZ.out.2)
    have hszq := SZQ.out.2
    go_upto_region 20 with (go_at_call 37; refine (written_calls _ nq.B nq.n nq.d nq.T HLq hszq 5 ca ci cw cs HCS.out).mono ?_; rintro e w3 ⟨a5, n5, c5, bo, rfl, hout, hb3⟩; have HOUT := Aside0.mk hout; have HB3 := Aside0.mk hb3; have BK5y := Aside0.mk (blk_below BK5.out hb3); have BK3y := Aside0.mk (blk_below BK3z.out hb3); have OWY := Aside0.mk (owns_below OWZ.out hb3); clear hout hb3; have hy5 : w3.cell? ⟨g5, 5, none⟩ = some (.slice nq.B nq.n nq.d) := (blk_cell BK5y.out 5).trans rfl; have hyf5 := blk_frozen BK5y.out 5)
    rcases TC.out with ⟨rfl, hidx, hdf_⟩ | ⟨rfl, i, hidx, hmi, hadr⟩
    · have HNO := Aside0.mk (step_none (M := M) (c := (⟨5, ca, ci, cw, cs⟩ : Ch)) (show (5 : Int) ≠ 2 by decide) hidx)
      clear hdf_
      clear hidx
      go_upto_region 21 with fail
      obtain ⟨wu, hwu⟩ : ∃ x, x = w3.setCell ⟨g5, 5, none⟩ (.slice a5 n5 c5) := ⟨_, rfl⟩
      rw [← hwu]
      have BK5u := Aside0.mk (show wu.heap[g5]? = some (.cells #[.int .i64 nq.adr, .int .i64 nq.refs, .int .i64 nq.sl, .int .i64 nq.words, .slice nq.A nq.m nq.c, .slice a5 n5 c5] 40 (0, 0)) by rw [hwu]; exact blk_put BK5y.out 5 _ rfl)
      have BK3u := Aside0.mk (show wu.heap[g3]? = some (.cells #[.int .i64 5, .int .i64 ca, .int .i64 ci, .int .u64 cw, .int .u64 cs] 44 (0, 0)) by rw [hwu]; exact blk_far BK3y.out NE35.out _)
      have HBu := Aside0.mk (show Below w.heap.size w wu by rw [hwu]; exact below_set (below_step HBz.out HB3.out) GE5.out)
      have OWU := Aside0.mk (show wu.ownsMap Try.prog 3 nR mb nn D by rw [hwu]; exact owns_far OWY.out NEB.out _)
      have HWU := Aside0.mk hwu
      clear hwu
      have hu3 : wu.cell? ⟨g3, 1, none⟩ = some (.int .i64 ca) := (blk_cell BK3u.out 1).trans rfl
      have hu5_0 : wu.cell? ⟨g5, 0, none⟩ = some (.int .i64 nq.adr) := (blk_cell BK5u.out 0).trans rfl
      have hu5_1 : wu.cell? ⟨g5, 1, none⟩ = some (.int .i64 nq.refs) := (blk_cell BK5u.out 1).trans rfl
      have hu5_2 : wu.cell? ⟨g5, 2, none⟩ = some (.int .i64 nq.sl) := (blk_cell BK5u.out 2).trans rfl
      have hu5_3 : wu.cell? ⟨g5, 3, none⟩ = some (.int .i64 nq.words) := (blk_cell BK5u.out 3).trans rfl
      have hu5_4 : wu.cell? ⟨g5, 4, none⟩ = some (.slice nq.A nq.m nq.c) := (blk_cell BK5u.out 4).trans rfl
      have hu5_5 : wu.cell? ⟨g5, 5, none⟩ = some (.slice a5 n5 c5) := (blk_cell BK5u.out 5).trans rfl
      go_wp2_with (at_mapUpdate; refine wpList_mapUpdate_own _ rfl _ _ _ 46 rfl 3 40 Di.keyed3 Try.underlying46 nR mb nn D rfl OWU.out (by unfold maxLen; omega) _ _ _ rfl rfl (keyOf3 HCA.out) (.held (.agg #[.int .i64 nq.adr, .int .i64 nq.refs, .int .i64 nq.sl, .int .i64 nq.words, .slice nq.A nq.m nq.c, .slice a5 n5 c5])) [] rfl ?_; intro w9 hown9 hg9; have OW9 := Aside0.mk hown9; have HG9 := Aside0.mk (gb HBu.out hg9); have HGU := Aside0.mk hg9; clear hown9 hg9)
      go_ret
      exact ⟨_, rfl, .inl ⟨HNO.out, rfl⟩, HG9.out⟩
    · have hst := step_some (M := M) (c := (⟨5, ca, ci, cw, cs⟩ : Ch)) (show (5 : Int) ≠ 2 by decide) hidx hmi
      rw [if_neg (show ¬ ((5 : Int) = _) by decide), if_neg (show ¬ ((5 : Int) = _) by decide), if_neg (show ¬ ((5 : Int) = _) by decide), if_pos rfl] at hst
      have HST := Aside0.mk hst
      have HMI := Aside0.mk hmi
      have HAD := Aside0.mk hadr
      clear hst hidx hmi hadr
      go_upto_region 21 with fail
      obtain ⟨wu, hwu⟩ : ∃ x, x = w3.setCell ⟨g5, 5, none⟩ (.slice a5 n5 c5) := ⟨_, rfl⟩
      rw [← hwu]
      have BK5u := Aside0.mk (show wu.heap[g5]? = some (.cells #[.int .i64 nq.adr, .int .i64 nq.refs, .int .i64 nq.sl, .int .i64 nq.words, .slice nq.A nq.m nq.c, .slice a5 n5 c5] 40 (0, 0)) by rw [hwu]; exact blk_put BK5y.out 5 _ rfl)
      have BK3u := Aside0.mk (show wu.heap[g3]? = some (.cells #[.int .i64 5, .int .i64 ca, .int .i64 ci, .int .u64 cw, .int .u64 cs] 44 (0, 0)) by rw [hwu]; exact blk_far BK3y.out NE35.out _)
      have HBu := Aside0.mk (show Below w.heap.size w wu by rw [hwu]; exact below_set (below_step HBz.out HB3.out) GE5.out)
      have OWU := Aside0.mk (show wu.ownsMap Try.prog 3 nR mb nn D by rw [hwu]; exact owns_far OWY.out NEB.out _)
      have HWU := Aside0.mk hwu
      clear hwu
      have hu3 : wu.cell? ⟨g3, 1, none⟩ = some (.int .i64 ca) := (blk_cell BK3u.out 1).trans rfl
      have hu5_0 : wu.cell? ⟨g5, 0, none⟩ = some (.int .i64 nq.adr) := (blk_cell BK5u.out 0).trans rfl
      have hu5_1 : wu.cell? ⟨g5, 1, none⟩ = some (.int .i64 nq.refs) := (blk_cell BK5u.out 1).trans rfl
      have hu5_2 : wu.cell? ⟨g5, 2, none⟩ = some (.int .i64 nq.sl) := (blk_cell BK5u.out 2).trans rfl
      have hu5_3 : wu.cell? ⟨g5, 3, none⟩ = some (.int .i64 nq.words) := (blk_cell BK5u.out 3).trans rfl
      have hu5_4 : wu.cell? ⟨g5, 4, none⟩ = some (.slice nq.A nq.m nq.c) := (blk_cell BK5u.out 4).trans rfl
      have hu5_5 : wu.cell? ⟨g5, 5, none⟩ = some (.slice a5 n5 c5) := (blk_cell BK5u.out 5).trans rfl
      go_wp2_with (at_mapUpdate; refine wpList_mapUpdate_own _ rfl _ _ _ 46 rfl 3 40 Di.keyed3 Try.underlying46 nR mb nn D rfl OWU.out (by unfold maxLen; omega) _ _ _ rfl rfl (keyOf3 HCA.out) (.held (.agg #[.int .i64 nq.adr, .int .i64 nq.refs, .int .i64 nq.sl, .int .i64 nq.words, .slice nq.A nq.m nq.c, .slice a5 n5 c5])) [] rfl ?_; intro w9 hown9 hg9; have OW9 := Aside0.mk hown9; have HG9 := Aside0.mk (gb HBu.out hg9); have HGU := Aside0.mk hg9; clear hown9 hg9)
      go_ret
      rcases HOUT.out with ⟨hno, rfl⟩ | ⟨l', hl', rfl, hil, hfar⟩
      · exact ⟨_, rfl, .inl ⟨by rw [HST.out, hno]; rfl, rfl⟩, HG9.out⟩
      · have hlen : n5 = nq.n := by
          have e1 := hil.1
          have e2 := chgT_len hl'
          have e3 := HLq.out.1
          omega
        obtain ⟨es5, cl5, hb5, _⟩ := OWU.out
        have hil9 : IL .u64 w9 w9.heap.size a5 n5 l' := (IL_far hil HWU.out (fun y e => Nat.ne_of_gt (Nat.lt_of_lt_of_le (blk_lt BK5.out) (hfar y e)))).grown HGU.out hb5
        have hls : ∀ n ∈ M, DL w9 w9.heap.size n := fun n hn => ((HM.out.lists n hn).to HBu.out).grown HGU.out hb5
        have hdq : DL w9 w9.heap.size nq := (LQ.out.to HBu.out).grown HGU.out hb5
        exact ⟨_, rfl, .inr ⟨M.set i { nq with B := a5, n := n5, d := c5, T := l' }, by rw [HST.out, hl', ← set_pn]; rfl, rfl, HM.out.set HMI.out rfl HMA.out (by have h9 := OW9.out; rw [← HAD.out] at h9; exact h9) hls ⟨hdq.1, hil9⟩ (by show _ ∧ _; simp only [hlen]; exact SZQ.out)⟩, HG9.out⟩
  have hk5 : decide (ck = 5) = false := decide_eq_false k5
  have HNO := Aside0.mk (step_no (M := M) (c := (⟨ck, ca, ci, cw, cs⟩ : Ch)) k1 k2 k3 k4 k5)
  go_wp2
  go_ret
  exact ⟨false, rfl, .inl ⟨HNO.out, rfl⟩, gb HBz.out (grown_refl _ _)⟩
end Go.Proofs.Ytekggbmajemmhaa.Gr
