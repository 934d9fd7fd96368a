/- Parts of one proof, set together: En7. What each says stands at its head; no condition beyond theirs. -/
import Derived.Test.YtmolflmljneelaaEs8
/- A deed that has one step left: what becomes of the shared things, of what was told; how it ends. -/
namespace Go.Proofs.Ytmolflmljneelaa.En
open Go.RowKit Go.Proofs.YtmolflmljneelaaW.PrintWords Go.Proofs.YtmolflmljneelaaW.PrintLast Go.Proofs.YtmolflmljneelaaW.PrintMore
open Pm (Fr Rg Row thereB pendAt WFD) 
open Lk (Tbl takeR leaveR ownerV Only)
set_option linter.unusedSimpArgs false
set_option linter.unusedVariables false
/-- What a deed was told by its first i asks, T being all that its steps gave. -/
def told (A : Nat → AskN) (T : List Int) : Nat → List Int
  | 0 => []
  | i + 1 => if ((A i).k % 7).toNat = 1 ∨ ((A i).k % 7).toNat = 6 then told A T i ++ [T.getD i 0] else told A T i
theorem told_len (A : Nat → AskN) (T : List Int) : ∀ i, (told A T i).length ≤ i
  | 0 => by simp [told]
  | i + 1 => by
    have := told_len A T i
    unfold told
    split
    · simp; omega
    · omega
theorem told_eq (A : Nat → AskN) {T T' : List Int} : ∀ i, (∀ j, j < i → T.getD j 0 = T'.getD j 0) → told A T i = told A T' i
  | 0, _ => rfl
  | i + 1, h => by
    unfold told
    rw [told_eq A i (fun j hj => h j (by omega)), h i (by omega)]
theorem getD_app (T : List Int) (y : Int) (i : Nat) (h : i < T.length) : (T ++ [y]).getD i 0 = T.getD i 0 := by
  rw [List.getD_eq_getElem?_getD, List.getD_eq_getElem?_getD, List.getElem?_append_left h]
theorem getD_end (T : List Int) (y : Int) : (T ++ [y]).getD T.length 0 = y := by simp
theorem told_app (A : Nat → AskN) (T : List Int) (y : Int) (i : Nat) (h : i ≤ T.length) : told A (T ++ [y]) i = told A T i := told_eq A i (fun j hj => getD_app T y j (by omega))
/-- The word that the ask's step is handed. -/
def argD (A : Nat → AskN) (T : List Int) : Int := argW (A T.length) (told A T T.length)
def actD (N : Nat) (who : Int) (A : Nat → AskN) (T : List Int) (s : SS) : Option SS := act N ((A T.length).k % 7).toNat who (A T.length).a (argD A T) s
def tellsD (N : Nat) (A : Nat → AskN) (T : List Int) (s : SS) (y : Int) : Prop := tells N ((A T.length).k % 7).toNat (A T.length).a (argD A T) s y
/-- The word that an ask that tells something is bound to tell. -/
def bound (N : Nat) (A : Nat → AskN) (T : List Int) (s : SS) : Int := if (A T.length).k % 7 = 1 then (if thereB N (A T.length).a then s.S.getD (A T.length).a.toNat 0 else 0) else argD A T
theorem tells_bound {N : Nat} {A : Nat → AskN} {T : List Int} {s : SS} {y : Int} (hk : 0 ≤ (A T.length).k) (h : tellsD N A T s y) (ht : ((A T.length).k % 7).toNat = 1 ∨ ((A T.length).k % 7).toNat = 6) : y = bound N A T s := by
  unfold tellsD at h
  unfold bound
  rcases ht with e | e
  · rw [e] at h
    rw [if_pos (by omega)]
    exact h
  · rw [e] at h
    rw [if_neg (by omega)]
    exact h
/-- The state behind i asks: at the d-th the shared things turn. -/
def J (l : Loc) (B eb : Nat) (who : Int) (v : Value) (T : List Int) (H : Nat) (s : SS) (s' : Option SS) (C : Int → Prop) (i : Nat) (o : Option Nat) (w : World) : Prop :=
  H ≤ w.heap.size ∧ ((i ≤ T.length ∧ o = v.ownBlock ∧ Sh w l s ∧ En w l B eb who v T i 1) ∨
  (i = T.length + 1 ∧ ∃ s2 y g cap, s' = some s2 ∧ C y ∧ o = some g ∧ (v.ownBlock = some g ∨ H ≤ g) ∧ Sh w l s2 ∧ En w l B eb who (.slice (some ⟨g, 0, none⟩) (T.length + 1) cap) (T ++ [y]) (T.length + 1) 0))
theorem kn_J {W : World} {l : Loc} {s : SS} {s' : Option SS} {B eb : Nat} {who : Int} {v : Value} {T : List Int} {C : Int → Prop} (hS : Sh W l s) (h : En W l B eb who v T 0 1) : Kn W (StX l eb v) (J l B eb who v T W.heap.size s s' C) where
  low := fun b hb => by
    rcases hb with hb | rfl | hb
    · exact hS.size b hb
    · exact blk_lt h.tp
    · exact (h.own.lt hb).2.1
  lt := fun i o w g hJ ho => by
    obtain ⟨hH, hJ⟩ := hJ
    rcases hJ with ⟨_, rfl, _, hE⟩ | ⟨_, s2, y, g', cap, _, _, rfl, _, _, hE⟩
    · exact (hE.own.lt ho).2.1
    · cases ho
      exact (hE.own.lt rfl).2.1
  fr := fun i o w w' Y hJ hf hY => by
    have heb := blk_lt h.tp
    have hlo : ∀ b, l.X b → ¬ Y b := fun b hb hy => by
      have := hS.size b hb
      have := (hY b hy).1
      omega
    have he : ¬ Y eb := fun hy => by
      have := (hY eb hy).1
      omega
    obtain ⟨hH, hJ⟩ := hJ
    refine ⟨Nat.le_trans hH hf.size, ?_⟩
    rcases hJ with ⟨h1, rfl, h2, hE⟩ | ⟨h1, s2, y, g', cap, e1, hC, rfl, h3, h2, hE⟩
    · exact .inl ⟨h1, rfl, h2.fr hf (fun b hy hx => hlo b hx hy), hE.fr hf he (fun g hg hy => (hY g hy).2 hg)⟩
    · exact .inr ⟨h1, s2, y, g', cap, e1, hC, rfl, h3, h2.fr hf (fun b hy hx => hlo b hx hy), hE.fr hf he (fun g hg hy => (hY g hy).2 hg)⟩
/-- How a deed with one step left ends. -/
inductive DeedO (W : World) (l : Loc) (B eb : Nat) (who : Int) (v : Value) (T : List Int) (n : Nat) (A : Nat → AskN) (s : SS) (e : Ending) (w' : World) : Prop
  | over (h : T.length = n) (tv : Value) (he : e = .returned tv) (ht : Wds w' W.heap.size tv (told A T n)) (h2 : Two tv v.ownBlock) (hS : Sh w' l s) (hE : En w' l B eb who v T n 1)
  | last (h : T.length + 1 = n) (s' : SS) (ha : actD l.N who A T s = some s') (y : Int) (g cap : Nat) (tv : Value) (he : e = .returned tv) (hy : tellsD l.N A T s y) (ht : Wds w' W.heap.size tv (told A (T ++ [y]) n)) (h2 : Two tv (some g)) (hS : Sh w' l s') (hE : En w' l B eb who (.slice (some ⟨g, 0, none⟩) (T.length + 1) cap) (T ++ [y]) (T.length + 1) 0) (hg : v.ownBlock = some g ∨ W.heap.size ≤ g)
  | done (h : T.length + 1 < n) (s' : SS) (ha : actD l.N who A T s = some s') (y : Int) (g cap : Nat) (he : e = .panicked (haltS false)) (hy : tellsD l.N A T s y) (hS : Sh w' l s') (hE : En w' l B eb who (.slice (some ⟨g, 0, none⟩) (T.length + 1) cap) (T ++ [y]) (T.length + 1) 0) (hg : v.ownBlock = some g ∨ W.heap.size ≤ g)
  | blocked (h : T.length < n) (ha : actD l.N who A T s = none) (he : e = .panicked (haltS true)) (hS : Sh w' l s) (hE : En w' l B eb who v T T.length 1)
theorem again_any (W : World) {l : Loc} {B eb : Nat} {who : Int} {v : Value} {T : List Int} (i left : Nat) (h : En W l B eb who v T i left) (hi : i < T.length) (h40 : T.length ≤ 40) (k gc go : Nat) (a x : Int) (hk : k ≤ 6) : MRet k eb gc go a x W (fun y w' => (y = T.getD i 0 ∧ En w' l B eb who v T (i + 1) left) ∧ Fr (fun b => b = eb) W w') := by
  rcases (by omega : k = 0 ∨ k = 1 ∨ k = 2 ∨ k = 3 ∨ k = 4 ∨ k = 5 ∨ k = 6) with rfl | rfl | rfl | rfl | rfl | rfl | rfl
  · exact again0 W i left h hi h40 gc go a x
  · exact again1 W i left h hi h40 gc go a x
  · exact again2 W i left h hi h40 gc go a x
  · exact again3 W i left h hi h40 gc go a x
  · exact again4 W i left h hi h40 gc go a x
  · exact again5 W i left h hi h40 gc go a x
  · exact again6 W i left h hi h40 gc go a x
theorem stop_any (W : World) {l : Loc} {B eb : Nat} {who : Int} {v : Value} {T : List Int} (h : En W l B eb who v T T.length 0) (h40 : T.length ≤ 40) (k gc go : Nat) (a x : Int) (hk : k ≤ 6) : MPan k eb gc go a x W (haltS false) (fun w' => Below W.heap.size W w') := by
  rcases (by omega : k = 0 ∨ k = 1 ∨ k = 2 ∨ k = 3 ∨ k = 4 ∨ k = 5 ∨ k = 6) with rfl | rfl | rfl | rfl | rfl | rfl | rfl
  · exact stop0 W h h40 gc go a x
  · exact stop1 W h h40 gc go a x
  · exact stop2 W h h40 gc go a x
  · exact stop3 W h h40 gc go a x
  · exact stop4 W h h40 gc go a x
  · exact stop5 W h h40 gc go a x
  · exact stop6 W h h40 gc go a x
theorem done_any (W : World) {l : Loc} {s s' : SS} {B eb : Nat} {who : Int} {v : Value} {T : List Int} (hS : Sh W l s) (h : En W l B eb who v T T.length 1) (h40 : T.length < 40) (hB : B ≤ W.heap.size) (hn : s.n ≤ 1000) (hc : 0 ≤ s.c ∧ s.c ≤ 1000) (gc go : Nat) (k0 a x0 x : Int) (k : Nat) (hk : k ≤ 6) (hx : k = 6 → x = x0)
    (hgc : W.heap[gc]? = some (.cells #[.pointer (some ⟨l.cb, 0, none⟩)] 34 (0, 0))) (hgo : W.heap[go]? = some (.cells #[.int .u8 k0, .int .i64 a, .int .u64 x0] 51 (0, 0))) (ha : act l.N k who a x s = some s') :
    MRet k eb gc go a x W (fun y w' => Done W.heap.size l B eb who v T s' (tells l.N k a x s) y w' ∧ Fr (StX l eb v) W w') := by
  rcases (by omega : k = 0 ∨ k = 1 ∨ k = 2 ∨ k = 3 ∨ k = 4 ∨ k = 5 ∨ k = 6) with rfl | rfl | rfl | rfl | rfl | rfl | rfl
  · cases ha
    exact done0 W hS h h40 hB gc go a x
  · cases ha
    exact done1 W hS h h40 hB gc go a x
  · cases ha
    exact done2 W hS h h40 hB hn gc go a x
  · cases ha
    exact done3 W hS h h40 hB gc go a x
  · change (if (takeR s.L a who).1 = 0 then some { s with L := (takeR s.L a who).2 } else none) = some s' at ha
    split at ha
    · rename_i hr
      cases ha
      exact done4 W hS h h40 hB gc go a x hr
    · cases ha
  · cases ha
    exact done5 W hS h h40 hB gc go a x
  · cases ha
    obtain rfl := hx rfl
    exact done6 W hS h h40 hB hc gc go a _ k0 a hgc hgo
theorem block_any (W : World) {l : Loc} {s : SS} {B eb : Nat} {who : Int} {v : Value} {T : List Int} (hS : Sh W l s) (h : En W l B eb who v T T.length 1) (h40 : T.length < 40) (gc go : Nat) (a x : Int) (k : Nat) (hk : k ≤ 6) (ha : act l.N k who a x s = none) :
    MPan k eb gc go a x W (haltS true) (fun w' => Sh w' l s ∧ Fr l.X W w') := by
  rcases (by omega : k = 0 ∨ k = 1 ∨ k = 2 ∨ k = 3 ∨ k = 4 ∨ k = 5 ∨ k = 6) with rfl | rfl | rfl | rfl | rfl | rfl | rfl
  · cases ha
  · cases ha
  · cases ha
  · cases ha
  · change (if (takeR s.L a who).1 = 0 then some { s with L := (takeR s.L a who).2 } else none) = none at ha
    split at ha
    · cases ha
    · rename_i hr
      exact block4 W hS h h40 gc go a x hr
  · cases ha
  · cases ha
theorem mret_mono {k eb gc go : Nat} {a x : Int} {W : World} {R R' : Int → World → Prop} (h : MRet k eb gc go a x W R) (hR : ∀ y w', R y w' → R' y w') : MRet k eb gc go a x W R' := by
  unfold MRet at h ⊢
  split at h
  all_goals first
    | exact h.mono (fun e w' hh => ⟨hh.1, hh.2.imp fun y hy => hR y w' hy⟩)
    | exact h.mono (fun e w' hh => by obtain ⟨y, h1, h2⟩ := hh; exact ⟨y, h1, hR y w' h2⟩)
theorem mpan_mono {k eb gc go : Nat} {a x : Int} {W : World} {ch : List PanicEntry} {R R' : World → Prop} (h : MPan k eb gc go a x W ch R) (hR : ∀ w', R w' → R' w') : MPan k eb gc go a x W ch R' := by
  unfold MPan at h ⊢
  split at h
  all_goals exact h.mono (fun e w' hh => ⟨hh.1, hR w' hh.2⟩)
theorem stx_apart {W : World} {l : Loc} {s : SS} {B eb : Nat} {who : Int} {v : Value} {T : List Int} {at_ left : Nat} (hS : Sh W l s) (h : En W l B eb who v T at_ left) {b : Nat} {c : Array Value} {t : Nat} (hb : W.heap[b]? = some (.cells c t (0, 0))) (h1 : t ≠ 86) (h2 : t ≠ 49) (h3 : t ≠ 65) (h4 : t ≠ 3) (h5 : t ≠ 36) (h6 : t ≠ 73) : ¬ StX l eb v b := by
  rintro (e | e | e)
  · exact hS.apart hb h1 h2 h3 h4 h5 e
  · exact type_ne hb h.tp h6 e
  · obtain ⟨_, _, c', hc⟩ := h.own.lt e
    exact type_ne hb hc h2 rfl
theorem tau_next (A : Nat → AskN) (T : List Int) (y : Int) (i : Nat) (hy : ((A i).k % 7).toNat = 1 ∨ ((A i).k % 7).toNat = 6 → y = T.getD i 0) : Next ((A i).k % 7).toNat (told A T i) (told A T (i + 1)) y := by
  unfold Next
  rw [told]
  split
  · rename_i hh
    rw [hy hh]
  · rfl
/-- An ask told again, in the state's words. -/
theorem ret_again {W : World} {l : Loc} {s : SS} {B eb n : Nat} {who : Int} {v : Value} {T : List Int} {A : Nat → AskN} {s' : Option SS} {C : Int → Prop} (yb : Int) (hT : T.length ≤ 40) (i : Nat) (hi : i < T.length) (hk : 0 ≤ (A i).k) (w : World) (gc go : Nat) (o : Option Nat) (a x : Int) (hJ : J l B eb who v T W.heap.size s s' C i o w) :
    MRet ((A i).k % 7).toNat eb gc go a x w (fun y w' => (∃ o', J l B eb who v T W.heap.size s s' C (i + 1) o' w' ∧ Went w o o') ∧ Fr (StX l eb v) w w' ∧ Next ((A i).k % 7).toNat (told A (T ++ [yb]) i) (told A (T ++ [yb]) (i + 1)) y) := by
  obtain ⟨hH, hJ⟩ := hJ
  rcases hJ with ⟨h1, rfl, hS, hE⟩ | ⟨h1, _⟩
  · refine mret_mono (again_any w i 1 hE hi hT _ gc go a x (by omega)) ?_
    rintro y w' ⟨⟨hy, hE2⟩, hf⟩
    refine ⟨⟨_, ⟨Nat.le_trans hH hf.size, .inl ⟨hi, rfl, hS.fr hf (fun b hb hx => ?_), hE2⟩⟩, .inl rfl⟩, hf.mono (fun b hb => .inr (.inl hb)), tau_next A _ y i (fun _ => by rw [hy, getD_app T yb i hi])⟩
    subst hb
    exact hS.apart hE.tp (by decide) (by decide) (by decide) (by decide) (by decide) hx
  · omega
/-- The ask that is done now. -/
theorem ret_done {W : World} {l : Loc} {s s2 : SS} {B eb n : Nat} {who : Int} {v : Value} {T : List Int} {A : Nat → AskN} (hT : T.length < 40) (hB : B ≤ W.heap.size) (hn : s.n ≤ 1000) (hc : 0 ≤ s.c ∧ s.c ≤ 1000) (hk : 0 ≤ (A T.length).k) (ha : actD l.N who A T s = some s2) (w : World) (gc go : Nat) (o : Option Nat)
    (hJ : J l B eb who v T W.heap.size s (some s2) (tellsD l.N A T s) T.length o w) (hgc : w.heap[gc]? = some (.cells #[.pointer (some ⟨l.cb, 0, none⟩)] 34 (0, 0))) (hgo : w.heap[go]? = some (.cells #[.int .u8 (A T.length).k, .int .i64 (A T.length).a, .int .u64 (A T.length).x] 51 (0, 0))) :
    MRet ((A T.length).k % 7).toNat eb gc go (A T.length).a (argD A T) w (fun y w' => (∃ o', J l B eb who v T W.heap.size s (some s2) (tellsD l.N A T s) (T.length + 1) o' w' ∧ Went w o o') ∧ Fr (StX l eb v) w w' ∧ Next ((A T.length).k % 7).toNat (told A (T ++ [bound l.N A T s]) T.length) (told A (T ++ [bound l.N A T s]) (T.length + 1)) y) := by
  obtain ⟨hH, hJ⟩ := hJ
  rcases hJ with ⟨h1, rfl, hS, hE⟩ | ⟨h1, _⟩
  · refine mret_mono (done_any w hS hE hT (Nat.le_trans hB hH) hn hc gc go (A T.length).k (A T.length).a (A T.length).x (argD A T) _ (by omega) (fun hk6 => argN (by omega)) hgc hgo ha) ?_
    rintro y w' ⟨⟨hC, hS2, g, cap, hE2, hg⟩, hf⟩
    have hC' : tellsD l.N A T s y := hC
    refine ⟨⟨some g, ⟨Nat.le_trans hH hf.size, .inr ⟨rfl, s2, y, g, cap, rfl, hC', rfl, hg.imp id (fun h => Nat.le_trans hH h), hS2, hE2⟩⟩, ?_⟩, hf, tau_next A _ y _ (fun ht => by rw [getD_end]; exact tells_bound hk hC' ht)⟩
    rcases hg with hg | hg
    · exact .inl hg.symm
    · exact .inr ⟨g, rfl, hg⟩
  · omega
theorem deed_run (W : World) {l : Loc} {s : SS} {B eb : Nat} {who : Int} {v : Value} {T : List Int} (hS : Sh W l s) (h : En W l B eb who v T 0 1) (hB : B ≤ W.heap.size) (gl gc : Nat) (ad : Option Addr) (n cap : Nat) (A : Nat → AskN)
    (hl : W.heap[gl]? = some (.cells #[.slice ad n cap] 39 (0, 0))) (hc : W.heap[gc]? = some (.cells #[.pointer (some ⟨l.cb, 0, none⟩)] 34 (0, 0))) (hA : AskM W (StX l eb v) ad n A) (hn : n ≤ 40) (hT : T.length ≤ n) (hnb : s.n ≤ 1000) (hcb : 0 ≤ s.c ∧ s.c ≤ 1000) :
    Calls Try.prog 21 #[.pointer (some ⟨eb, 0, none⟩), .pointer (some ⟨gl, 0, none⟩), .pointer (some ⟨gc, 0, none⟩)] W fun e w' => DeedO W l B eb who v T n A s e w' ∧ Fr (StX l eb v) W w' := by
  have xl : ¬ StX l eb v gl := stx_apart hS h hl (by decide) (by decide) (by decide) (by decide) (by decide) (by decide)
  have xc : ¬ StX l eb v gc := stx_apart hS h hc (by decide) (by decide) (by decide) (by decide) (by decide) (by decide)
  have hk : ∀ i, i < n → 0 ≤ (A i).k := fun i hi => (hA.kd i hi).1
  have hJ0 : ∀ s' C, J l B eb who v T W.heap.size s s' C 0 v.ownBlock W := fun s' C => ⟨Nat.le_refl _, .inl ⟨by omega, rfl, hS, h⟩⟩
  by_cases hd : T.length = n
  · refine (deed_walk W (StX l eb v) eb gl gc l.cb ad n cap n A (told A (T ++ [0])) (J l B eb who v T W.heap.size s none (fun _ => True)) [] (fun _ => True) hl hc xl xc hA (kn_J hS h) hn (Nat.le_refl _) rfl (told_len A _) v.ownBlock (hJ0 _ _)
      (fun i hi w go o hJ _ _ => ret_again (W := W) (n := n) 0 (by omega) i (by omega) (hk i hi) w gc go o _ _ hJ) (fun hlt => absurd hlt (by omega))).mono ?_
    rintro e w' (⟨_, tv, o, he, ht, ⟨hH, hJ⟩, h2, hf⟩ | ⟨hlt, _⟩)
    · rcases hJ with ⟨h1, rfl, hS2, hE2⟩ | ⟨h1, _⟩
      · refine ⟨.over hd tv he ?_ h2 hS2 hE2, hf⟩
        rw [told_app A T 0 n (by omega)] at ht
        exact ht
      · omega
    · omega
  · cases ha : actD l.N who A T s with
    | none =>
      refine (deed_walk W (StX l eb v) eb gl gc l.cb ad n cap T.length A (told A (T ++ [0])) (J l B eb who v T W.heap.size s none (fun _ => True)) (haltS true) (fun w' => Sh w' l s ∧ En w' l B eb who v T T.length 1) hl hc xl xc hA (kn_J hS h) hn (by omega) rfl (told_len A _) v.ownBlock (hJ0 _ _)
        (fun i hi w go o hJ _ _ => ret_again (W := W) (n := n) 0 (by omega) i (by omega) (hk i (by omega)) w gc go o _ _ hJ) (fun hlt w go o hJ _ _ => ?_)).mono ?_
      · obtain ⟨hH, hJ⟩ := hJ
        rcases hJ with ⟨h1, rfl, hS2, hE2⟩ | ⟨h1, _⟩
        · have hk0 := hk T.length (by omega)
          have e1 : argW (A T.length) (told A (T ++ [0]) T.length) = argD A T := by rw [told_app A T 0 _ (Nat.le_refl _)]; rfl
          rw [e1]
          refine mpan_mono (block_any w hS2 hE2 (by omega) gc go _ _ _ (by omega) ha) ?_
          rintro w' ⟨h3, h4⟩
          exact ⟨⟨h3, hE2.frX hS2 h4⟩, h4.mono (fun b hb => .inl hb)⟩
        · omega
      · rintro e w' (⟨hmn, _⟩ | ⟨hlt, he, ⟨h3, h4⟩, hf⟩)
        · omega
        · exact ⟨.blocked hlt ha he h3 h4, hf⟩
    | some s2 =>
      have hret : ∀ i, i < T.length + 1 → ∀ w go o, J l B eb who v T W.heap.size s (some s2) (tellsD l.N A T s) i o w → w.heap[gc]? = some (.cells #[.pointer (some ⟨l.cb, 0, none⟩)] 34 (0, 0)) → w.heap[go]? = some (.cells #[.int .u8 (A i).k, .int .i64 (A i).a, .int .u64 (A i).x] 51 (0, 0)) →
          MRet ((A i).k % 7).toNat eb gc go (A i).a (argW (A i) (told A (T ++ [bound l.N A T s]) i)) w (fun y w' => (∃ o', J l B eb who v T W.heap.size s (some s2) (tellsD l.N A T s) (i + 1) o' w' ∧ Went w o o') ∧ Fr (StX l eb v) w w' ∧ Next ((A i).k % 7).toNat (told A (T ++ [bound l.N A T s]) i) (told A (T ++ [bound l.N A T s]) (i + 1)) y) := by
        intro i hi w go o hJ hgc hgo
        by_cases hid : i < T.length
        · exact ret_again (W := W) (n := n) _ (by omega) i hid (hk i (by omega)) w gc go o _ _ hJ
        · obtain rfl : i = T.length := by omega
          have e1 : argW (A T.length) (told A (T ++ [bound l.N A T s]) T.length) = argD A T := by rw [told_app A T _ _ (Nat.le_refl _)]; rfl
          rw [e1]
          exact ret_done (W := W) (n := n) (by omega) hB hnb hcb (hk _ (by omega)) ha w gc go o hJ hgc hgo
      have tq : ∀ y, tellsD l.N A T s y → told A (T ++ [bound l.N A T s]) (T.length + 1) = told A (T ++ [y]) (T.length + 1) := fun y hy => by
        have hk0 := hk T.length (by omega)
        rw [told, told, told_app A T _ _ (Nat.le_refl _), told_app A T _ _ (Nat.le_refl _), getD_end, getD_end]
        split
        · rename_i ht
          rw [tells_bound hk0 hy ht]
        · rfl
      by_cases hl1 : T.length + 1 = n
      · refine (deed_walk W (StX l eb v) eb gl gc l.cb ad n cap n A (told A (T ++ [bound l.N A T s])) (J l B eb who v T W.heap.size s (some s2) (tellsD l.N A T s)) [] (fun _ => True) hl hc xl xc hA (kn_J hS h) hn (Nat.le_refl _) rfl (told_len A _) v.ownBlock (hJ0 _ _)
          (fun i hi => hret i (by omega)) (fun hlt => absurd hlt (by omega))).mono ?_
        rintro e w' (⟨_, tv, o, he, ht, ⟨hH, hJ⟩, h2, hf⟩ | ⟨hlt, _⟩)
        · rcases hJ with ⟨h1, _⟩ | ⟨h1, s3, y, g, cp, e3, hC, rfl, hg, hS2, hE2⟩
          · omega
          · cases e3
            refine ⟨.last hl1 s2 ha y g cp tv he hC ?_ h2 hS2 hE2 hg, hf⟩
            rw [← hl1] at ht ⊢
            rw [tq y hC] at ht
            exact ht
        · omega
      · refine (deed_walk W (StX l eb v) eb gl gc l.cb ad n cap (T.length + 1) A (told A (T ++ [bound l.N A T s])) (J l B eb who v T W.heap.size s (some s2) (tellsD l.N A T s)) (haltS false) (fun w' => ∃ y g cp, tellsD l.N A T s y ∧ Sh w' l s2 ∧ En w' l B eb who (.slice (some ⟨g, 0, none⟩) (T.length + 1) cp) (T ++ [y]) (T.length + 1) 0 ∧ (v.ownBlock = some g ∨ W.heap.size ≤ g)) hl hc xl xc hA (kn_J hS h) hn (by omega) rfl (told_len A _) v.ownBlock (hJ0 _ _)
          (fun i hi => hret i hi) (fun hlt w go o hJ _ _ => ?_)).mono ?_
        · obtain ⟨hH, hJ⟩ := hJ
          rcases hJ with ⟨h1, _⟩ | ⟨h1, s3, y, g, cp, e3, hC, rfl, hg, hS2, hE2⟩
          · omega
          · cases e3
            have hk0 := hk (T.length + 1) (by omega)
            have hlen : (T ++ [y]).length = T.length + 1 := by simp
            refine mpan_mono (stop_any w (T := T ++ [y]) (by rw [hlen]; exact hE2) (by omega) _ gc go _ _ (by omega)) ?_
            intro w' hb
            exact ⟨⟨y, g, cp, hC, hS2.below hb, hE2.below hb, hg⟩, Fr.of hb⟩
        · rintro e w' (⟨hmn, _⟩ | ⟨hlt, he, ⟨y, g, cp, hC, h3, h4, hg⟩, hf⟩)
          · omega
          · exact ⟨.done hlt s2 ha y g cp he hC h3 h4 hg, hf⟩
end Go.Proofs.Ytmolflmljneelaa.En
