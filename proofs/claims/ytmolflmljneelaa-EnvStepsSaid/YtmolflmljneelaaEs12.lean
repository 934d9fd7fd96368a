/- Parts of one proof, set together: En19, En20, En22, En23. What each says stands at its head; no condition beyond theirs. -/
import Derived.Test.YtmolflmljneelaaEs11
/- A step of either side keeps the state; how the two sides stay together. -/
namespace Go.Proofs.Ytmolflmljneelaa.En
open Go.RowKit Go.Proofs.YtmolflmljneelaaW.PrintWords Go.Proofs.YtmolflmljneelaaW.PrintLast Go.Proofs.YtmolflmljneelaaW.PrintMore
open Pm (Fr Rg Row thereB pendAt WFD) 
open Lk (Tbl takeR leaveR ownerV Only)
set_option linter.unusedSimpArgs false
set_option linter.unusedVariables false
section
variable {W : World} {B : Nat} {l : Loc} {r : RLoc} {fd m : Nat} {S : Nat → Sr} {R : Nat → Dr} {Q : Nat → Qr} {s sr : SS}
theorem LS.below (h : LS W B l r fd m S R Q s sr) {W' : World} (hb : Below W.heap.size W W') : LS W' B l r fd m S R Q s sr :=
  ⟨h.sh.below hb, h.rsh.below hb, fun i hi => (h.run i hi).fr (X := fun _ => False) (Fr.of hb) (fun h => h) (fun h => h) (fun h => h) (fun h => h) (fun _ _ h => h) (fun _ _ h => h), fun i hi => (h.ref i hi).below hb, h.sep, h.lowL, h.lowR, h.lowI, fun i hi => ⟨(h.asks i hi).1.fr (Fr.of hb), (h.asks i hi).2⟩, Nat.le_trans h.base hb.size⟩
theorem turn_own {H n : Nat} {l : Loc} {who : Int} {A : Nat → AskN} {v v' : Value} {T T' : List Int} {s s' : SS} {over' : Bool} (h : Turn H l n who A v T s v' T' s' over') : v'.ownBlock = v.ownBlock ∨ ∃ g, v'.ownBlock = some g ∧ H ≤ g := by
  rcases h with ⟨_, rfl, _⟩ | ⟨_, _, rfl, _⟩ | ⟨_, _, ⟨y, g, cp, _, _, rfl, hg⟩, _⟩
  · exact .inl rfl
  · exact .inl rfl
  · rcases hg with hg | hg
    · exact .inl hg.symm
    · exact .inr ⟨g, rfl, hg⟩
theorem LS.stepA (h : LS W B l r fd m S R Q s sr) {k : Nat} (hk : k < m) {W1 : World} (hf : Fr (RnX l (S k).eb (R k).v (S k).rb) W W1)
    (ho : StepO W.heap.size l B (S k).rb (S k).eb (S k).gl (S k).gc (S k).ad (S k).n (S k).cap k (S k).A (R k).v (R k).T (R k).av s W1) :
    ∃ d' s', Turn W.heap.size l (S k).n k (S k).A (R k).v (R k).T s d'.v d'.T s' d'.over ∧ LS W1 B l r fd m S (upd R k d') Q s' sr := by
  obtain ⟨v', T', s', over', av', U', ht, hS, hR, ha⟩ := ho
  have hlt := h.lt
  refine ⟨⟨v', T', over', av', U'⟩, s', ht, hS, h.rsh.fr hf (h.keepR hk), fun i hi => ?_, fun i hi => ?_, ?_, h.lowL, h.lowR, h.lowI, fun i hi => ⟨((h.asks i hi).1.fr (hf.mono (h.lowA hk))), (h.asks i hi).2⟩, Nat.le_trans h.base hf.size⟩
  · by_cases e : i = k
    · subst e
      rw [upd_same]
      exact hR
    · rw [upd_ne _ _ _ e]
      have hi' := h.run i hi
      obtain ⟨_, he⟩ := h.eblk hk
      obtain ⟨_, hei⟩ := h.eblk hi
      refine hi'.fr hf ?_ ?_ (h.farA hk hi'.rn.dl (by decide) (by decide) (by decide) (by decide) (by decide) (by decide) (by decide)) (h.farA hk hi'.rn.dc (by decide) (by decide) (by decide) (by decide) (by decide) (by decide) (by decide)) (fun g hg => ?_) (fun g hg => ?_)
      · rintro ((e1 | e1 | e1) | e1)
        · exact h.sh.apart hi'.rn.tp (by decide) (by decide) (by decide) (by decide) (by decide) e1
        · exact type_ne hi'.rn.tp he (by decide) e1
        · obtain ⟨_, hv⟩ := h.vblk hk e1
          exact type_ne hi'.rn.tp hv (by decide) rfl
        · have := h.sep (.rb i) (.rb k) (S i).rb hi hk rfl (by rw [e1]; rfl)
          cases this
          exact e rfl
      · rintro ((e1 | e1 | e1) | e1)
        · exact h.sh.apart hei (by decide) (by decide) (by decide) (by decide) (by decide) e1
        · have := h.sep (.eb i) (.eb k) (S i).eb hi hk rfl (by rw [e1]; rfl)
          cases this
          exact e rfl
        · obtain ⟨_, hv⟩ := h.vblk hk e1
          exact type_ne hei hv (by decide) rfl
        · exact type_ne hei (h.run k hk).rn.tp (by decide) e1
      · obtain ⟨c, hc⟩ := h.vblk hi hg
        exact h.farA49 hk (.v i) hi hg hc (by simp) (by simp) (by simp [e])
      · obtain ⟨c, hc⟩ := h.ablk hi hg
        exact h.farA49 hk (.a i) hi hg hc (by simp) (by simp) (by simp)
  · refine (h.ref i hi).fr hf (h.farA hk (h.ref i hi).tp (by decide) (by decide) (by decide) (by decide) (by decide) (by decide) (by decide)) (fun g hg => ?_)
    obtain ⟨c, hc⟩ := h.wblk hi hg
    exact h.farA49 hk (.w i) hi hg hc (by simp) (by simp) (by simp)
  · -- first the Env's row, then the answer's
    have s1 : Sep m (own l r S (upd R k ⟨v', T', over', (R k).av, U'⟩) Q) := by
      refine sep_upd h.sep (.v k) (fun x hx => ?_) ?_
      · cases x with
        | v i =>
          have e : i ≠ k := fun e => hx (by rw [e])
          simp [own, upd_ne _ _ _ e]
        | a i =>
          by_cases e : i = k
          · subst e; simp [own, upd_same]
          · simp [own, upd_ne _ _ _ e]
        | _ => rfl
      · have e1 : own l r S (upd R k ⟨v', T', over', (R k).av, U'⟩) Q (.v k) = v'.ownBlock := by simp [own, upd_same]
        rw [e1]
        rcases turn_own ht with e2 | ⟨g, e2, hg⟩
        · exact .inl e2
        · refine .inr (fun y g2 hy hoy hyo e3 => ?_)
          rw [e2] at e3
          cases e3
          have := hlt y _ hoy hyo
          omega
    refine sep_upd s1 (.a k) (fun x hx => ?_) ?_
    · cases x with
      | v i =>
        by_cases e : i = k
        · subst e; simp [own, upd_same]
        · simp [own, upd_ne _ _ _ e]
      | a i =>
        have e : i ≠ k := fun e => hx (by rw [e])
        simp [own, upd_ne _ _ _ e]
      | _ => rfl
    · have e1 : own l r S (upd R k ⟨v', T', over', av', U'⟩) Q (.a k) = av'.ownBlock := by simp [own, upd_same]
      have e0 : own l r S (upd R k ⟨v', T', over', (R k).av, U'⟩) Q (.a k) = (R k).av.ownBlock := by simp [own, upd_same]
      rw [e1, e0]
      cases hav : av'.ownBlock with
      | none => exact .inr (fun y g2 hy hoy hyo e3 => by cases e3)
      | some g =>
        rcases ha g hav with e2 | e2
        · exact .inl e2.symm
        · refine .inr (fun y g2 hy hoy hyo e3 => ?_)
          cases e3
          by_cases ey : y = .v k
          · subst ey
            have e4 : own l r S (upd R k ⟨v', T', over', (R k).av, U'⟩) Q (.v k) = v'.ownBlock := by simp [own, upd_same]
            rw [e4] at hyo
            exact hR.two g hav hyo
          · have e5 : own l r S (upd R k ⟨v', T', over', (R k).av, U'⟩) Q y = own l r S R Q y := by
              cases y with
              | v i =>
                have e : i ≠ k := fun e => ey (by rw [e])
                simp [own, upd_ne _ _ _ e]
              | a i =>
                have e : i ≠ k := fun e => hy (by rw [e])
                simp [own, upd_ne _ _ _ e]
              | _ => rfl
            rw [e5] at hyo
            have := hlt y _ hoy hyo
            omega
theorem LS.stepB (h : LS W B l r fd m S R Q s sr) {k : Nat} (hk : k < m) {W1 : World} {e : Ending} (ho : RStepO W r fd B (S k).qb (S k).ad (S k).n (S k).cap k (S k).A (Q k).d (Q k).wv (Q k).τ sr e W1) :
    Fr (RqX r fd (S k).qb (Q k).wv) W W1 ∧ ∃ q' sr' fd', ((Q k).d = (S k).n ∧ e = .returned (.int .i64 2) ∧ q' = Q k ∧ sr' = sr ∨ (Q k).d < (S k).n ∧ actR k ((S k).A (Q k).d) (Q k).τ sr = none ∧ e = .returned (.int .i64 1) ∧ q' = Q k ∧ sr' = sr ∨
      (Q k).d < (S k).n ∧ actR k ((S k).A (Q k).d) (Q k).τ sr = some sr' ∧ e = .returned (.int .i64 0) ∧ q'.d = (Q k).d + 1 ∧ q'.τ = nextR ((S k).A (Q k).d) (Q k).τ sr) ∧ LS W1 B l r fd' m S R (upd Q k q') s sr' := by
  obtain ⟨hf, ho⟩ := ho
  refine ⟨hf, ?_⟩
  have hlt := h.lt
  -- what holds whatever the document's run became
  have fin : ∀ (q' : Qr) (sr' : SS) (fd' : Nat), RSh W1 r fd' sr' → (∀ b, r.FX fd' b → B ≤ b) → Ru W1 B (S k).qb (S k).ad (S k).n (S k).cap k q'.d q'.wv q'.τ → (q'.wv.ownBlock = (Q k).wv.ownBlock ∨ ∃ g, q'.wv.ownBlock = some g ∧ W.heap.size ≤ g) → LS W1 B l r fd' m S R (upd Q k q') s sr' := by
    intro q' sr' fd' h1 hB1 h2 h3
    refine ⟨h.sh.fr hf (h.keepL hk), h1, fun i hi => ?_, fun i hi => ?_, ?_, h.lowL, ?_, h.lowI, fun i hi => ⟨((h.asks i hi).1.fr (hf.mono (h.lowB hk))), (h.asks i hi).2⟩, Nat.le_trans h.base hf.size⟩
    · have hi' := h.run i hi
      obtain ⟨_, hei⟩ := h.eblk hi
      refine hi'.fr hf (h.farB hk hi'.rn.tp (by decide) (by decide) (by decide) (by decide) (by decide) (by decide)) (h.farB hk hei (by decide) (by decide) (by decide) (by decide) (by decide) (by decide)) (h.farB hk hi'.rn.dl (by decide) (by decide) (by decide) (by decide) (by decide) (by decide)) (h.farB hk hi'.rn.dc (by decide) (by decide) (by decide) (by decide) (by decide) (by decide)) (fun g hg => ?_) (fun g hg => ?_)
      · obtain ⟨c, hc⟩ := h.vblk hi hg
        exact h.farB49 hk (.v i) hi hg hc (by simp) (by simp) (by simp) (by simp)
      · obtain ⟨c, hc⟩ := h.ablk hi hg
        exact h.farB49 hk (.a i) hi hg hc (by simp) (by simp) (by simp) (by simp)
    · by_cases e1 : i = k
      · subst e1
        rw [upd_same]
        exact h2
      · rw [upd_ne _ _ _ e1]
        have hi' := h.ref i hi
        refine hi'.fr hf ?_ (fun g hg => ?_)
        · have ap := h.rsh.apart hi'.tp (by decide) (by decide) (by decide) (by decide) (by decide)
          rintro (e2 | e2 | e2 | e2)
          · exact ap (.inl e2)
          · exact ap (.inr e2)
          · have := h.sep (.qb i) (.qb k) (S i).qb hi hk rfl (by rw [e2]; rfl)
            cases this
            exact e1 rfl
          · obtain ⟨_, hv⟩ := h.wblk hk e2
            exact type_ne hi'.tp hv (by decide) rfl
        · obtain ⟨c, hc⟩ := h.wblk hi hg
          exact h.farB49 hk (.w i) hi hg hc (by simp) (by simp) (by simp) (by simp [e1])
    · refine sep_upd h.sep (.w k) (fun x hx => ?_) ?_
      · cases x with
        | w i =>
          have e1 : i ≠ k := fun e1 => hx (by rw [e1])
          simp [own, upd_ne _ _ _ e1]
        | _ => rfl
      · have e1 : own l r S R (upd Q k q') (.w k) = q'.wv.ownBlock := by simp [own, upd_same]
        rw [e1]
        rcases h3 with e2 | ⟨g, e2, hg⟩
        · exact .inl e2
        · refine .inr (fun y g2 hy hoy hyo e3 => ?_)
          rw [e2] at e3
          cases e3
          have := hlt y _ hoy hyo
          omega
    · rintro b (hb | hb)
      · exact hB1 b hb
      · exact h.lowR b (.inr hb)
  rcases ho with ⟨h1, h2, h3, h4⟩ | ⟨h1, h2, h3, h4, h5⟩ | ⟨h1, s', fd', wv', h2, h3, h4, h5, h6, h7, h8⟩
  · exact ⟨Q k, sr, fd, .inl ⟨h1, h2, rfl, rfl⟩, fin _ _ _ h3 (fun b hb => h.lowR b (.inl hb)) h4 (.inl rfl)⟩
  · exact ⟨Q k, sr, fd, .inr (.inl ⟨h1, h2, h3, rfl, rfl⟩), fin _ _ _ h4 (fun b hb => h.lowR b (.inl hb)) h5 (.inl rfl)⟩
  · refine ⟨⟨(Q k).d + 1, wv', nextR ((S k).A (Q k).d) (Q k).τ sr⟩, s', fd', .inr (.inr ⟨h1, h2, h3, rfl, rfl⟩), fin ⟨(Q k).d + 1, wv', nextR ((S k).A (Q k).d) (Q k).τ sr⟩ _ _ h4 (fun b hb => ?_) h5 h7⟩
    rcases hb with hb | hb | hb | hb | hb
    · exact h.lowR b (.inl (.inl hb))
    · exact h.lowR b (.inl (.inr (.inl hb)))
    · exact h.lowR b (.inl (.inr (.inr (.inl hb))))
    · exact h.lowR b (.inl (.inr (.inr (.inr (.inl hb)))))
    · subst hb
      rcases h8 with e8 | e8
      · rw [e8]
        exact h.lowR fd (.inl (.inr (.inr (.inr (.inr rfl)))))
      · exact Nat.le_trans h.base e8
end
end Go.Proofs.Ytmolflmljneelaa.En
namespace Go.Proofs.Ytmolflmljneelaa.En
open Go.RowKit Go.Proofs.YtmolflmljneelaaW.PrintWords Go.Proofs.YtmolflmljneelaaW.PrintLast Go.Proofs.YtmolflmljneelaaW.PrintMore
open Pm (Fr Rg Row thereB pendAt WFD) 
open Lk (Tbl takeR leaveR ownerV Only)
/-- The two sides are alike. -/
structure Coh (m : Nat) (S : Nat → Sr) (R : Nat → Dr) (Q : Nat → Qr) (s sr : SS) : Prop where
  eq : sr = s
  run : ∀ i, i < m → (Q i).d = (R i).T.length ∧ (Q i).τ = told (S i).A (R i).T (R i).T.length
theorem act_c {N k : Nat} {who a x : Int} {s s' : SS} (hk : k ≤ 6) (h : act N k who a x s = some s') : s'.c = if k = 6 then s.c + 1 else s.c := by
  rcases (by omega : k = 0 ∨ k = 1 ∨ k = 2 ∨ k = 3 ∨ k = 4 ∨ k = 5 ∨ k = 6) with rfl | rfl | rfl | rfl | rfl | rfl | rfl
  · cases h
    show (storeS N a x s).c = s.c
    unfold storeS
    split <;> rfl
  · cases h; rfl
  · cases h
    show (flushS N a s).c = s.c
    unfold flushS
    split <;> rfl
  · cases h; rfl
  · change (if (takeR s.L a who).1 = 0 then some { s with L := (takeR s.L a who).2 } else none) = some s' at h
    split at h
    · cases h; rfl
    · cases h
  · cases h; rfl
  · cases h; rfl
theorem act_n {N k : Nat} {who a x : Int} {s s' : SS} (hk : k ≤ 6) (h : act N k who a x s = some s') : s'.n ≤ s.n + 1 := by
  rcases (by omega : k = 0 ∨ k = 1 ∨ k = 2 ∨ k = 3 ∨ k = 4 ∨ k = 5 ∨ k = 6) with rfl | rfl | rfl | rfl | rfl | rfl | rfl
  · cases h
    show (storeS N a x s).n ≤ s.n + 1
    unfold storeS
    split <;> simp
  · cases h; simp
  · cases h
    show (flushS N a s).n ≤ s.n + 1
    unfold flushS
    split <;> simp
  · cases h
    show 0 ≤ s.n + 1
    omega
  · change (if (takeR s.L a who).1 = 0 then some { s with L := (takeR s.L a who).2 } else none) = some s' at h
    split at h
    · cases h; simp
    · cases h
  · cases h; simp
  · cases h; simp
theorem len_leave (L : List Int) (i who : Int) : (leaveR L i who).2.length = L.length := by
  unfold leaveR
  split
  · split
    · exact List.length_set
    · rfl
  · rfl
theorem len_takeR (L : List Int) (i who : Int) : (takeR L i who).2.length = L.length := by
  unfold takeR
  split
  · split
    · exact List.length_set
    · rfl
  · rfl
theorem act_L {N k : Nat} {who a x : Int} {s s' : SS} (hk : k ≤ 6) (h : act N k who a x s = some s') : s'.L.length = s.L.length := by
  rcases (by omega : k = 0 ∨ k = 1 ∨ k = 2 ∨ k = 3 ∨ k = 4 ∨ k = 5 ∨ k = 6) with rfl | rfl | rfl | rfl | rfl | rfl | rfl
  · cases h
    show (storeS N a x s).L.length = s.L.length
    unfold storeS
    split <;> rfl
  · cases h; rfl
  · cases h
    show (flushS N a s).L.length = s.L.length
    unfold flushS
    split <;> rfl
  · cases h; rfl
  · change (if (takeR s.L a who).1 = 0 then some { s with L := (takeR s.L a who).2 } else none) = some s' at h
    split at h
    · cases h; exact len_takeR _ _ _
    · cases h
  · cases h; exact len_leave _ _ _
  · cases h; rfl
/-- What both sides come to: rr is the answer of both; up: was a step done? -/
structure Both (l : Loc) (k m : Nat) (S : Nat → Sr) (R R' : Nat → Dr) (Q Q' : Nat → Qr) (s s' : SS) (up : Bool) : Prop where
  coh : Coh m S R' Q' s' s'
  d : (Q' k).d = if up then (Q k).d + 1 else (Q k).d
  lt : up = true → (Q k).d < (S k).n
  c : s'.c = if up = true ∧ ((S k).A (Q k).d).k % 7 = 6 then s.c + 1 else s.c
  n : s'.n ≤ s.n + 1
  L : s'.L.length = s.L.length
  over : (R' k).over = true → (R' k).T.length = (S k).n
theorem both_of {l : Loc} {m k H : Nat} {S : Nat → Sr} {R : Nat → Dr} {Q : Nat → Qr} {s s' sr' : SS} {d' : Dr} {q' : Qr} {e : Ending} (hN : l.N = 16) (hk : k < m) (hc : Coh m S R Q s s) (hkd : ∀ i, i < (S k).n → 0 ≤ ((S k).A i).k) (ht : Turn H l (S k).n k (S k).A (R k).v (R k).T s d'.v d'.T s' d'.over)
    (hq : (Q k).d = (S k).n ∧ e = .returned (.int .i64 2) ∧ q' = Q k ∧ sr' = s ∨ (Q k).d < (S k).n ∧ actR k ((S k).A (Q k).d) (Q k).τ s = none ∧ e = .returned (.int .i64 1) ∧ q' = Q k ∧ sr' = s ∨ (Q k).d < (S k).n ∧ actR k ((S k).A (Q k).d) (Q k).τ s = some sr' ∧ e = .returned (.int .i64 0) ∧ q'.d = (Q k).d + 1 ∧ q'.τ = nextR ((S k).A (Q k).d) (Q k).τ s) :
    ∃ up, e = .returned (.int .i64 (resR l.N k (S k).A (R k).T s (S k).n)) ∧ sr' = s' ∧ Both l k m S R (upd R k d') Q (upd Q k q') s s' up := by
  obtain ⟨hd, hτ⟩ := hc.run k hk
  have hact : actR k ((S k).A (Q k).d) (Q k).τ s = actD l.N k (S k).A (R k).T s := by
    rw [hd, hτ, hN]
    rfl
  rw [hact] at hq
  have rest : ∀ i, i < m → i ≠ k → (upd Q k q' i).d = (upd R k d' i).T.length ∧ (upd Q k q' i).τ = told (S i).A (upd R k d' i).T (upd R k d' i).T.length := fun i hi e => by
    rw [upd_ne _ _ _ e, upd_ne _ _ _ e]
    exact hc.run i hi
  rcases ht with ⟨h1, h2, h3, rfl, h5⟩ | ⟨h1, h0, h2, h3, rfl, h5⟩ | ⟨h1, h0, ⟨y, g, cp, hy, h3, h2, hg⟩, h5⟩
  · rcases hq with ⟨_, he, rfl, rfl⟩ | ⟨g1, _⟩ | ⟨g1, _⟩
    · refine ⟨false, by rw [he, resR, if_pos h1], rfl, ⟨rfl, fun i hi => ?_⟩, by rw [upd_same]; rfl, (fun e => by cases e), by simp, by omega, rfl, fun _ => by rw [upd_same, h3]; exact h1⟩
      by_cases e : i = k
      · subst e; rw [upd_same, upd_same, h3]; exact ⟨hd, hτ⟩
      · exact rest i hi e
    · omega
    · omega
  · rcases hq with ⟨g1, _⟩ | ⟨g1, g2, he, rfl, rfl⟩ | ⟨g1, g2, _⟩
    · omega
    · refine ⟨false, by rw [he, resR, if_neg (by omega), h0], rfl, ⟨rfl, fun i hi => ?_⟩, by rw [upd_same]; rfl, (fun e => by cases e), by simp, by omega, rfl, fun h => by rw [upd_same, h5] at h; cases h⟩
      by_cases e : i = k
      · subst e; rw [upd_same, upd_same, h3]; exact ⟨hd, hτ⟩
      · exact rest i hi e
    · rw [h0] at g2; cases g2
  · rcases hq with ⟨g1, _⟩ | ⟨g1, g2, _⟩ | ⟨g1, g2, he, g3, g4⟩
    · omega
    · rw [h0] at g2; cases g2
    · rw [h0] at g2
      cases g2
      have hk6 : (((S k).A (R k).T.length).k % 7).toNat ≤ 6 := by omega
      have hkk := hkd (R k).T.length h1
      have hcc := act_c hk6 h0
      refine ⟨true, by rw [he, resR, if_neg (by omega), h0], rfl, ⟨rfl, fun i hi => ?_⟩, by rw [upd_same, g3]; rfl, fun _ => g1, ?_, act_n hk6 h0, act_L hk6 h0, fun h => ?_⟩
      · by_cases e : i = k
        · subst e
          rw [upd_same, upd_same, h3, g3, g4, hd, hτ]
          refine ⟨by simp, ?_⟩
          have hlen : ((R i).T ++ [y]).length = (R i).T.length + 1 := by simp
          rw [hlen, told, told_app _ _ _ _ (Nat.le_refl _), getD_end]
          unfold nextR
          split
          · rename_i htl
            have hyb := tells_bound hkk hy htl
            rw [hyb, hN]
            rfl
          · rfl
        · exact rest i hi e
      · rw [hcc, hd]
        by_cases e6 : ((S k).A (R k).T.length).k % 7 = 6
        · rw [if_pos (by omega), if_pos ⟨rfl, e6⟩]
        · rw [if_neg (by omega), if_neg (fun h => e6 h.2)]
      · rw [upd_same] at h ⊢
        rw [h3]
        simpa using h5.1 h
end Go.Proofs.Ytmolflmljneelaa.En
/- The state as it is laid: runs made one by one; the rows of pointers. -/
namespace Go.Proofs.Ytmolflmljneelaa.En
open Go.RowKit Go.Proofs.YtmolflmljneelaaW.PrintWords Go.Proofs.YtmolflmljneelaaW.PrintLast Go.Proofs.YtmolflmljneelaaW.PrintMore
open Pm (Fr Rg Row thereB pendAt WFD) 
open Lk (Tbl takeR leaveR ownerV Only)
set_option linter.unusedSimpArgs false
set_option linter.unusedVariables false
section
variable {W : World} {B : Nat} {l : Loc} {r : RLoc} {fd m : Nat} {S : Nat → Sr} {R : Nat → Dr} {Q : Nat → Qr} {s sr : SS}
/-- Blocks of pointers alone are turned. -/
def PtrX (W : World) (X : Nat → Prop) : Prop := ∀ b, X b → ∃ c t, W.heap[b]? = some (.cells c t (0, 0)) ∧ (t = 40 ∨ t = 44)
theorem PtrX.not {W : World} {X : Nat → Prop} (h : PtrX W X) {b : Nat} {c : Array Value} {t : Nat} (hb : W.heap[b]? = some (.cells c t (0, 0))) (h1 : t ≠ 40) (h2 : t ≠ 44) : ¬ X b := fun hx => by
  obtain ⟨c', t', h3, h4⟩ := h b hx
  rcases h4 with rfl | rfl
  · exact type_ne hb h3 h1 rfl
  · exact type_ne hb h3 h2 rfl
theorem LS.frP (h : LS W B l r fd m S R Q s sr) {W' : World} {X : Nat → Prop} (hf : Fr X W W') (hX : PtrX W X) (hlow : ∀ b, X b → B ≤ b) : LS W' B l r fd m S R Q s sr := by
  refine ⟨h.sh.fr hf (fun b hb hx => ?_), h.rsh.fr hf (fun b hb hx => ?_), fun i hi => ?_, fun i hi => ?_, h.sep, h.lowL, h.lowR, h.lowI, fun i hi => ⟨(h.asks i hi).1.fr (hf.mono hlow), (h.asks i hi).2⟩, Nat.le_trans h.base hf.size⟩
  · obtain ⟨c, t, h3, h4⟩ := hX b hb
    exact h.sh.apart h3 (by rcases h4 with rfl | rfl <;> decide) (by rcases h4 with rfl | rfl <;> decide) (by rcases h4 with rfl | rfl <;> decide) (by rcases h4 with rfl | rfl <;> decide) (by rcases h4 with rfl | rfl <;> decide) hx
  · obtain ⟨c, t, h3, h4⟩ := hX b hx
    exact h.rsh.apart h3 (by rcases h4 with rfl | rfl <;> decide) (by rcases h4 with rfl | rfl <;> decide) (by rcases h4 with rfl | rfl <;> decide) (by rcases h4 with rfl | rfl <;> decide) (by rcases h4 with rfl | rfl <;> decide) hb
  · have hi' := h.run i hi
    obtain ⟨_, hei⟩ := h.eblk hi
    refine hi'.fr hf (hX.not hi'.rn.tp (by decide) (by decide)) (hX.not hei (by decide) (by decide)) (hX.not hi'.rn.dl (by decide) (by decide)) (hX.not hi'.rn.dc (by decide) (by decide)) (fun g hg => ?_) (fun g hg => ?_)
    · obtain ⟨c, hc⟩ := h.vblk hi hg
      exact hX.not hc (by decide) (by decide)
    · obtain ⟨c, hc⟩ := h.ablk hi hg
      exact hX.not hc (by decide) (by decide)
  · refine (h.ref i hi).fr hf (hX.not (h.ref i hi).tp (by decide) (by decide)) (fun g hg => ?_)
    obtain ⟨c, hc⟩ := h.wblk hi hg
    exact hX.not hc (by decide) (by decide)
end
def R0 (_ : Nat) : Dr := ⟨.slice none 0 0, [], false, .slice none 0 0, []⟩
def Q0 (_ : Nat) : Qr := ⟨0, .slice none 0 0, []⟩
/-- A run more. -/
theorem LS.add {W' : World} {B H : Nat} {l : Loc} {r : RLoc} {fd i : Nat} {S : Nat → Sr} {s sr : SS} (h' : LS W' B l r fd i S R0 Q0 s sr) (hlt : ∀ x g, x.ok i → own l r S R0 Q0 x = some g → g < H) (hB : B ≤ H) (z : Sr)
    (he : W'.heap[z.eb]? = some (.cells #[.pointer (some ⟨l.p, 0, none⟩), .pointer (some ⟨l.tp, 0, none⟩), .int .i64 i, .slice none 0 0, .int .i64 0, .int .i64 0] 73 (0, 0)))
    (hr : W'.heap[z.rb]? = some (.cells #[.pointer (some ⟨z.eb, 0, none⟩), .func (.func 21) #[] #[.pointer (some ⟨z.gl, 0, none⟩), .pointer (some ⟨z.gc, 0, none⟩)], .bool false, .slice none 0 0] 75 (0, 0)))
    (hl : W'.heap[z.gl]? = some (.cells #[.slice z.ad z.n z.cap] 39 (0, 0))) (hc : W'.heap[z.gc]? = some (.cells #[.pointer (some ⟨l.cb, 0, none⟩)] 34 (0, 0)))
    (hq : W'.heap[z.qb]? = some (.cells #[.slice z.ad z.n z.cap, .int .i64 i, .int .i64 0, .slice none 0 0] 46 (0, 0))) (h1 : H ≤ z.eb) (h2 : H ≤ z.rb) (h3 : H ≤ z.qb)
    (hA : AskM W' (fun b => B ≤ b) z.ad z.n z.A) (hn : z.n ≤ 40) : LS W' B l r fd (i + 1) (upd S i z) R0 Q0 s sr := by
  have hgs := h'.sh.size l.gs (.inr (.inl rfl))
  have hgk := h'.sh.size l.gk (.inr (.inr (.inl rfl)))
  refine ⟨h'.sh, h'.rsh, fun j hj => ?_, fun j hj => ?_, ?_, h'.lowL, h'.lowR, fun j hj => ?_, fun j hj => ?_, h'.base⟩
  · by_cases e : j = i
    · subst e
      rw [upd_same]
      refine ⟨⟨hr, hl, hc, ⟨0, 0, ⟨he, Wds.nil _ _, (fun g hg => by cases hg), ?_⟩⟩, Wds.nil _ _⟩, Nat.zero_le _, (fun e => by cases e), fun _ => ⟨rfl, rfl⟩, fun g hg => by cases hg⟩
      exact ⟨hgs, hgk⟩
    · rw [upd_ne _ _ _ e]
      exact h'.run j (by omega)
  · by_cases e : j = i
    · subst e
      rw [upd_same]
      exact ⟨hq, Wds.nil _ _⟩
    · rw [upd_ne _ _ _ e]
      exact h'.ref j (by omega)
  · intro x y g hx hy ex ey
    have ne75 : ∀ {a b : Nat}, W'.heap[a]? = W'.heap[b]? → True := fun _ => trivial
    -- an elder index below i is as it was; the new run's three blocks are new
    have old : ∀ x, x.ok (i + 1) → ∀ g, own l r (upd S i z) R0 Q0 x = some g → (x.ok i ∧ own l r S R0 Q0 x = some g) ∨ (x = .rb i ∧ g = z.rb) ∨ (x = .eb i ∧ g = z.eb) ∨ (x = .qb i ∧ g = z.qb) := by
      intro x hx g hg
      cases x with
      | rb j =>
        by_cases e : j = i
        · subst e
          simp [own, upd_same] at hg
          exact .inr (.inl ⟨rfl, hg.symm⟩)
        · simp [own, upd_ne _ _ _ e] at hg
          exact .inl ⟨(by have : j < i + 1 := hx; show j < i; omega), by simp [own, hg]⟩
      | eb j =>
        by_cases e : j = i
        · subst e
          simp [own, upd_same] at hg
          exact .inr (.inr (.inl ⟨rfl, hg.symm⟩))
        · simp [own, upd_ne _ _ _ e] at hg
          exact .inl ⟨(by have : j < i + 1 := hx; show j < i; omega), by simp [own, hg]⟩
      | qb j =>
        by_cases e : j = i
        · subst e
          simp [own, upd_same] at hg
          exact .inr (.inr (.inr ⟨rfl, hg.symm⟩))
        · simp [own, upd_ne _ _ _ e] at hg
          exact .inl ⟨(by have : j < i + 1 := hx; show j < i; omega), by simp [own, hg]⟩
      | v j => simp [own, R0, Value.ownBlock] at hg
      | a j => simp [own, R0, Value.ownBlock] at hg
      | w j => simp [own, Q0, Value.ownBlock] at hg
      | gs => exact .inl ⟨trivial, hg⟩
      | gk => exact .inl ⟨trivial, hg⟩
      | fs => exact .inl ⟨trivial, hg⟩
      | fk => exact .inl ⟨trivial, hg⟩
      | fn => exact .inl ⟨trivial, hg⟩
      | tg => exact .inl ⟨trivial, hg⟩
      | ug => exact .inl ⟨trivial, hg⟩
    have n1 : z.rb ≠ z.eb := type_ne hr he (by decide)
    have n2 : z.rb ≠ z.qb := type_ne hr hq (by decide)
    have n3 : z.eb ≠ z.qb := type_ne he hq (by decide)
    rcases old x hx g ex with ⟨ox, gx⟩ | ⟨rfl, gx⟩ | ⟨rfl, gx⟩ | ⟨rfl, gx⟩ <;> rcases old y hy g ey with ⟨oy, gy⟩ | ⟨rfl, gy⟩ | ⟨rfl, gy⟩ | ⟨rfl, gy⟩
    · exact h'.sep x y g ox oy gx gy
    all_goals first
      | rfl
      | (have := hlt _ _ ox gx; omega)
      | (have := hlt _ _ oy gy; omega)
      | (exfalso; omega)
  · by_cases e : j = i
    · subst e
      rw [upd_same]
      omega
    · rw [upd_ne _ _ _ e]
      exact h'.lowI j (by omega)
  · by_cases e : j = i
    · subst e
      rw [upd_same]
      exact ⟨hA, hn⟩
    · rw [upd_ne _ _ _ e]
      exact h'.asks j (by omega)
theorem info40 : (Try.prog.info? 40).map (fun i => (i.zero, i.size, i.bytes)) = some (some (.pointer none), 1, 8) := by kernel_rfl
theorem info44 : (Try.prog.info? 44).map (fun i => (i.zero, i.size, i.bytes)) = some (some (.pointer none), 1, 8) := by kernel_rfl
/-- The rows of pointers. -/
def ptrs (f : Nat → Nat) (i : Nat) : List Value := (List.range i).map fun j => .pointer (some ⟨f j, 0, none⟩)
theorem ptrs_succ (f : Nat → Nat) (i : Nat) : ptrs f (i + 1) = ptrs f i ++ [.pointer (some ⟨f i, 0, none⟩)] := by simp [ptrs, List.range_succ]
theorem ptrs_congr {f g : Nat → Nat} {i : Nat} (h : ∀ j, j < i → f j = g j) : ptrs f i = ptrs g i := by
  unfold ptrs
  apply List.map_congr_left
  intro j hj
  rw [h j (by simpa using hj)]
theorem ptr_row {W : World} {B e : Nat} {v : Value} {i : Nat} {f : Nat → Nat} (h : W.ownsRow B e 1 v i (ptrs f i)) {k : Nat} (hk : k < i) : ∃ g cap, v = .slice (some ⟨g, 0, none⟩) i cap ∧ B ≤ g ∧ W.cell? ⟨g, k, none⟩ = some (.pointer (some ⟨f k, 0, none⟩)) ∧ ∃ c, W.heap[g]? = some (.cells c e (0, 0)) := by
  obtain ⟨_, ⟨h1, h2⟩ | ⟨g, cap, cur, h1, hb, hg, h2, h3, h4, h5⟩⟩ := h
  · omega
  · refine ⟨g, cap, h1, hb, ?_, cur, hg⟩
    rw [blk_cell hg k]
    have h6 : (cur.toList.take (i * 1))[k]? = (ptrs f i)[k]? := by rw [h5]
    rw [List.getElem?_take, if_pos (by omega)] at h6
    rw [← Array.getElem?_toList, h6]
    simp [ptrs, hk]
theorem row_fr {X : Nat → Prop} {W W' : World} {B e n : Nat} {v : Value} {xs : List Value} (h : W.ownsRow B e 1 v n xs) (hf : Fr X W W') (hX : ∀ g, v.ownBlock = some g → ¬ X g) : W'.ownsRow B e 1 v n xs := by
  obtain ⟨h0, h1 | ⟨g, cap, cur, h1, hb, hg, h2⟩⟩ := h
  · exact ⟨h0, .inl h1⟩
  · subst h1
    exact ⟨h0, .inr ⟨g, cap, cur, rfl, hb, hf.keeps hg (hX g rfl), h2⟩⟩
theorem row_blk {W : World} {B e n : Nat} {v : Value} {xs : List Value} (h : W.ownsRow B e 1 v n xs) {g : Nat} (hg : v.ownBlock = some g) : B ≤ g ∧ ∃ c, W.heap[g]? = some (.cells c e (0, 0)) := by
  obtain ⟨_, ⟨h1, _⟩ | ⟨g', cap, cur, h1, hb, hg', _⟩⟩ := h
  · subst h1; cases hg
  · subst h1; cases hg; exact ⟨hb, _, hg'⟩
theorem row_form {W : World} {B e n : Nat} {v : Value} {xs : List Value} (h : W.ownsRow B e 1 v n xs) : ∃ a cap, v = .slice a n cap := by
  obtain ⟨_, ⟨h1, h2⟩ | ⟨g, cap, cur, h1, _⟩⟩ := h
  · exact ⟨none, 0, by rw [h1, h2]⟩
  · exact ⟨_, cap, h1⟩
end Go.Proofs.Ytmolflmljneelaa.En
/- The two calls of a pick, over the state. -/
namespace Go.Proofs.Ytmolflmljneelaa.En
open Go.RowKit Go.Proofs.YtmolflmljneelaaW.PrintWords Go.Proofs.YtmolflmljneelaaW.PrintLast Go.Proofs.YtmolflmljneelaaW.PrintMore
open Pm (Fr Rg Row thereB pendAt WFD) 
open Lk (Tbl takeR leaveR ownerV Only)
set_option linter.unusedSimpArgs false
set_option linter.unusedVariables false
/-- Rows of pointers, and all below B, are as they were. -/
def Kp (B : Nat) (w w' : World) : Prop := (∀ (b : Nat) (c : Array Value) (t : Nat), (t = 40 ∨ t = 44) → w.heap[b]? = some (.cells c t (0, 0)) → w'.heap[b]? = some (.cells c t (0, 0))) ∧ Below B w w'
theorem Kp.trans {B : Nat} {a b c : World} (h : Kp B a b) (k : Kp B b c) : Kp B a c := ⟨fun x y t ht hx => k.1 x y t ht (h.1 x y t ht hx), h.2.trans k.2⟩
theorem Kp.ofBelow {B : Nat} {a b : World} (h : Below a.heap.size a b) (hB : B ≤ a.heap.size) : Kp B a b := ⟨fun x y t ht hx => blk_below hx h, h.mono hB⟩
section
variable {W : World} {B : Nat} {l : Loc} {r : RLoc} {fd m : Nat} {S : Nat → Sr} {R : Nat → Dr} {Q : Nat → Qr} {s sr : SS}
theorem LS.kpA (h : LS W B l r fd m S R Q s sr) {k : Nat} (hk : k < m) {w' : World} (hf : Fr (RnX l (S k).eb (R k).v (S k).rb) W w') : Kp B W w' :=
  ⟨fun b c t ht hb => hf.keeps hb (by
    rcases ht with rfl | rfl
    · exact h.farA hk hb (by decide) (by decide) (by decide) (by decide) (by decide) (by decide) (by decide)
    · exact h.farA hk hb (by decide) (by decide) (by decide) (by decide) (by decide) (by decide) (by decide)), hf.below (h.lowA hk) h.base⟩
theorem LS.kpB (h : LS W B l r fd m S R Q s sr) {k : Nat} (hk : k < m) {w' : World} (hf : Fr (RqX r fd (S k).qb (Q k).wv) W w') : Kp B W w' :=
  ⟨fun b c t ht hb => hf.keeps hb (by
    rcases ht with rfl | rfl
    · exact h.farB hk hb (by decide) (by decide) (by decide) (by decide) (by decide) (by decide)
    · exact h.farB hk hb (by decide) (by decide) (by decide) (by decide) (by decide) (by decide)), hf.below (h.lowB hk) h.base⟩
/-- Behind the program's step. -/
def MidA (W : World) (B : Nat) (l : Loc) (r : RLoc) (fd m : Nat) (S : Nat → Sr) (R : Nat → Dr) (Q : Nat → Qr) (s : SS) (k : Nat) (w' : World) : Prop :=
  (∃ d' s', Turn W.heap.size l (S k).n k (S k).A (R k).v (R k).T s d'.v d'.T s' d'.over ∧ LS w' B l r fd m S (upd R k d') Q s' s) ∧ Kp B W w'
theorem callA (h : LS W B l r fd m S R Q s s) {k : Nat} (hk : k < m) (hn : s.n ≤ 1000) (hc : 0 ≤ s.c ∧ s.c ≤ 1000) (rr : Int) (hrr : resR l.N k (S k).A (R k).T s (S k).n = rr) :
    Calls Try.prog 11 #[.pointer (some ⟨(S k).rb, 0, none⟩)] W fun e w' => e = .returned (.int .i64 rr) ∧ MidA W B l r fd m S R Q s k w' := by
  have hA := (h.asks k hk).1.mono (Y := StX l (S k).eb (R k).v) (fun b hb => h.lowA hk b (.inl hb))
  refine (step_run W (h.run k hk) h.sh h.base hA (h.asks k hk).2 hn hc).mono ?_
  rintro e w' ⟨rfl, hO, hF⟩
  obtain ⟨d', s', h1, h2⟩ := h.stepA hk hF hO
  exact ⟨by rw [hrr], ⟨d', s', h1, h2⟩, h.kpA hk hF⟩
/-- Behind both. -/
def MidB (W : World) (B : Nat) (l : Loc) (r : RLoc) (m : Nat) (S : Nat → Sr) (R : Nat → Dr) (Q : Nat → Qr) (s : SS) (k : Nat) (w' : World) : Prop :=
  (∃ R' Q' s' fd' up, Both l k m S R R' Q Q' s s' up ∧ LS w' B l r fd' m S R' Q' s' s') ∧ Kp B W w'
theorem callB {w5 : World} (h : LS W B l r fd m S R Q s s) (hcoh : Coh m S R Q s s) (hN : l.N = 16) {k : Nat} (hk : k < m) (rr : Int) (hrr : resR l.N k (S k).A (R k).T s (S k).n = rr) (hM : MidA W B l r fd m S R Q s k w5) :
    Calls Try.prog 12 #[.pointer (some ⟨(S k).qb, 0, none⟩), .pointer (some ⟨r.fp, 0, none⟩), .pointer (some ⟨r.up, 0, none⟩)] w5 fun e w' => e = .returned (.int .i64 rr) ∧ MidB W B l r m S R Q s k w' := by
  obtain ⟨⟨d', s', ht, h5⟩, hk5⟩ := hM
  obtain ⟨hd, hτ⟩ := hcoh.run k hk
  have hle := (h.run k hk).le
  have h40 := (h.asks k hk).2
  have hap : RApt r (Q k).wv := fun g hg => by
    refine ⟨fun e => ?_, fun e => ?_, fun e => ?_⟩
    · have := h.sep (.w k) .fs g hk trivial hg (by rw [e]; rfl)
      cases this
    · have := h.sep (.w k) .fk g hk trivial hg (by rw [e]; rfl)
      cases this
    · have := h.sep (.w k) .fn g hk trivial hg (by rw [e]; rfl)
      cases this
  have hτl : (Q k).τ.length ≤ 40 := by
    rw [hτ]
    have := told_len (S k).A (R k).T (R k).T.length
    omega
  refine (rstep_calls w5 (h5.ref k hk) h5.rsh hap (by rw [hd]; exact hle) h40 hτl h5.base (h5.asks k hk).1 (h5.lowI k hk).2.2).mono ?_
  intro e w' hO
  obtain ⟨hF, q', sr', fd', hq, h6⟩ := h5.stepB hk hO
  obtain ⟨up, he, rfl, hb⟩ := both_of hN hk hcoh (fun i hi => ((h.asks k hk).1.kd i hi).1) ht hq
  exact ⟨by rw [he, hrr], ⟨_, _, _, fd', up, hb, h6⟩, hk5.trans (h5.kpB hk hF)⟩
end
/-- The state at the head of the second loop. -/
structure Mid (W wr : World) (l : Loc) (r : RLoc) (fd m : Nat) (S : Nat → Sr) (R : Nat → Dr) (Q : Nat → Qr) (s : SS) (i g10 c10 g11 c11 : Nat) : Prop where
  ls : LS wr W.heap.size l r fd m S R Q s s
  coh : Coh m S R Q s s
  rows : wr.ownsRow W.heap.size 40 1 (.slice (some ⟨g10, 0, none⟩) m c10) m (ptrs (fun j => (S j).rb) m)
  refs : wr.ownsRow W.heap.size 44 1 (.slice (some ⟨g11, 0, none⟩) m c11) m (ptrs (fun j => (S j).qb) m)
  below : Below W.heap.size W wr
  n : s.n ≤ i
  c : 0 ≤ s.c ∧ s.c ≤ i
  L : s.L.length = 2
theorem row_kp {B e n g cap : Nat} {w w' : World} {xs : List Value} (h : w.ownsRow B e 1 (.slice (some ⟨g, 0, none⟩) n cap) n xs) (hk : Kp B w w') (he : e = 40 ∨ e = 44) : w'.ownsRow B e 1 (.slice (some ⟨g, 0, none⟩) n cap) n xs := by
  obtain ⟨h0, ⟨h1, _⟩ | ⟨g', cap', cur, h1, hb, hg, h2⟩⟩ := h
  · cases h1
  · cases h1
    exact ⟨h0, .inr ⟨g, cap, cur, rfl, hb, hk.1 g cur e he hg, h2⟩⟩
theorem ptr_cell2 {W : World} {B e g cap i : Nat} {f : Nat → Nat} (h : W.ownsRow B e 1 (.slice (some ⟨g, 0, none⟩) i cap) i (ptrs f i)) {k : Nat} (hk : k < i) : W.cell? ⟨g, k, none⟩ = some (.pointer (some ⟨f k, 0, none⟩)) := by
  obtain ⟨g', cap', e1, _, hc, _⟩ := ptr_row h hk
  cases e1
  exact hc
theorem Mid.next {W wr w' : World} {l : Loc} {r : RLoc} {fd fd' m : Nat} {S : Nat → Sr} {R R' : Nat → Dr} {Q Q' : Nat → Qr} {s s' : SS} {i g10 c10 g11 c11 k : Nat} {up : Bool} (h : Mid W wr l r fd m S R Q s i g10 c10 g11 c11) (hb : Both l k m S R R' Q Q' s s' up) (hl : LS w' W.heap.size l r fd' m S R' Q' s' s') (hk : Kp W.heap.size wr w') : Mid W w' l r fd' m S R' Q' s' (i + 1) g10 c10 g11 c11 := by
  refine ⟨hl, hb.coh, row_kp h.rows hk (.inl rfl), row_kp h.refs hk (.inr rfl), h.below.trans hk.2, ?_, ?_, hb.L.trans h.L⟩
  · have := hb.n
    have := h.n
    omega
  · have h1 := hb.c
    have h2 := h.c
    split at h1 <;> omega
theorem Mid.bel {W wr w' : World} {l : Loc} {r : RLoc} {fd m : Nat} {S : Nat → Sr} {R : Nat → Dr} {Q : Nat → Qr} {s : SS} {i g10 c10 g11 c11 : Nat} (h : Mid W wr l r fd m S R Q s i g10 c10 g11 c11) (hb : Below wr.heap.size wr w') : Mid W w' l r fd m S R Q s i g10 c10 g11 c11 :=
  have k := Kp.ofBelow hb h.ls.base
  ⟨h.ls.below hb, h.coh, row_kp h.rows k (.inl rfl), row_kp h.refs k (.inr rfl), h.below.trans k.2, h.n, h.c, h.L⟩
theorem MidB.next {W wr w' : World} {l : Loc} {r : RLoc} {fd m : Nat} {S : Nat → Sr} {R : Nat → Dr} {Q : Nat → Qr} {s : SS} {i g10 c10 g11 c11 k : Nat} (h : Mid W wr l r fd m S R Q s i g10 c10 g11 c11) (hM : MidB wr W.heap.size l r m S R Q s k w') :
    ∃ R' Q' s' fd' up, Both l k m S R R' Q Q' s s' up ∧ Mid W w' l r fd' m S R' Q' s' (i + 1) g10 c10 g11 c11 := by
  obtain ⟨⟨R', Q', s', fd', up, hb, hl⟩, hk⟩ := hM
  exact ⟨R', Q', s', fd', up, hb, h.next hb hl hk⟩
theorem Mid.qcell {W wr : World} {l : Loc} {r : RLoc} {fd m : Nat} {S : Nat → Sr} {R : Nat → Dr} {Q : Nat → Qr} {s : SS} {i g10 c10 g11 c11 k : Nat} (h : Mid W wr l r fd m S R Q s i g10 c10 g11 c11) (hk : k < m) : wr.cell? ⟨(S k).qb, 2, none⟩ = some (.int .i64 (Q k).d) ∧ wr.cell? ⟨(S k).qb, 3, none⟩ = some (Q k).wv :=
  ⟨(blk_cell (h.ls.ref k hk).tp 2).trans rfl, (blk_cell (h.ls.ref k hk).tp 3).trans rfl⟩
end Go.Proofs.Ytmolflmljneelaa.En
/- The tail of a round of the law: what Over, Answer and Words say there. -/
namespace Go.Proofs.Ytmolflmljneelaa.En
open Go.RowKit Go.Proofs.YtmolflmljneelaaW.PrintWords Go.Proofs.YtmolflmljneelaaW.PrintLast Go.Proofs.YtmolflmljneelaaW.PrintMore
open Pm (Fr Rg Row thereB pendAt WFD) 
open Lk (Tbl takeR leaveR ownerV Only)
set_option linter.unusedSimpArgs false
set_option linter.unusedVariables false
theorem Reads.bel {W w' : World} {v : Value} {S : List Int} (h : Reads W v S) (hb : Below W.heap.size W w') : Reads w' v S := by
  obtain ⟨a, c, hv, hc⟩ := h
  refine ⟨a, c, hv, fun i hi => ?_⟩
  obtain ⟨g, e, h1⟩ := hc i hi
  exact ⟨g, e, (hb.cell (p := ⟨g, i, none⟩) (World.block_lt_of_cell? W _ h1)).trans h1⟩
set_option maxHeartbeats 1000000 in
theorem words_drew (W : World) {va vb : Value} {S : List Int} (ha : Reads W va S) (hb : Reads W vb S) (hl : S.length ≤ 1000) : Calls Try.prog 16 #[va, vb] W fun e w' => e = .returned (.bool true) ∧ ∃ m, w' = W.drewN m := by
  obtain ⟨a, ca, rfl, ha⟩ := ha
  obtain ⟨b, cb, rfl, hb⟩ := hb
  have HA := Aside0.mk ha
  have HB := Aside0.mk hb
  clear ha hb
  go_enter Try.func16, Try.ntmps16
  go_wp2_with fail
  go_loopw [5] (fun iv wr => ∃ k m : Nat, k ≤ S.length ∧ iv = .int .i64 k ∧ wr = W.drewN m) (fun iv _ => S.length - (intOf iv).toNat)
  case atStart => exact ⟨0, 0, by omega, rfl, rfl⟩
  case round =>
    obtain ⟨k, m, hk, rfl, hwr⟩ := hrel
    subst hwr
    have HBB := Aside0.mk (pw_below_drewN (Below.refl W.heap.size W) m)
    by_cases hlt : k < S.length
    · obtain ⟨g1, e1, c1⟩ := HA.out k hlt
      obtain ⟨g2, e2, c2⟩ := HB.out k hlt
      cases e1
      cases e2
      have hd : decide ((k : Int) < (S.length : Int)) = true := decide_eq_true (by omega)
      have hi0 : (0 : Int) ≤ (k : Int) := by omega
      have hi1 : (k : Int) < (S.length : Int) := by omega
      have d1 : (W.drewN m).cell? ⟨g1, k, none⟩ = some (.int .u64 (S.getD k 0)) := (HBB.out.cell (p := ⟨g1, k, none⟩) (World.block_lt_of_cell? W _ c1)).trans c1
      have d2 : (W.drewN m).cell? ⟨g2, k, none⟩ = some (.int .u64 (S.getD k 0)) := (HBB.out.cell (p := ⟨g2, k, none⟩) (World.block_lt_of_cell? W _ c2)).trans c2
      generalize hWW : W.drewN m = W2 at d1 d2 ⊢
      have HWW := Aside0.mk hWW
      clear hWW
      generalize S.getD k 0 = yk at c1 c2 d1 d2
      clear c1 c2
      go_wp2_with fail
      go_quiet (fail)
      go_wp2_with fail
      refine ⟨⟨k + 1, m + nq, by omega, by push_cast; rfl, by rw [← HWW.out, World.drewN_drewN]⟩, ?_⟩
      exact step_lt k _ hlt
    · obtain rfl : k = S.length := by omega
      have hd : decide ((S.length : Int) < (S.length : Int)) = false := decide_eq_false (by omega)
      go_wp2_with fail
      go_ret
      exact ⟨rfl, m, rfl⟩
section
variable {W wr : World} {l : Loc} {r : RLoc} {fd m : Nat} {S : Nat → Sr} {R : Nat → Dr} {Q : Nat → Qr} {s : SS} {i g10 c10 g11 c11 : Nat} (h : Mid W wr l r fd m S R Q s i g10 c10 g11 c11) {k : Nat} (hk : k < m)
include h hk
theorem tail_over {b : Bool} (ho : (R k).over = b) (n : Nat) : Calls Try.prog 15 #[.pointer (some ⟨(S k).rb, 0, none⟩)] (wr.drewN n) fun e w' => e = .returned (.bool b) ∧ w' = wr.drewN n := by
  have := over_calls (wr.drewN n) ((h.ls.run k hk).rn.below (pw_below_drewN (Below.refl _ wr) n))
  rw [ho] at this
  exact this
theorem tail_ans {v : Value} (ho : (R k).av = v) (n : Nat) : Calls Try.prog 17 #[.pointer (some ⟨(S k).rb, 0, none⟩)] (wr.drewN n) fun e w' => e = .returned v ∧ w' = wr.drewN n := by
  have := answer_calls (wr.drewN n) ((h.ls.run k hk).rn.below (pw_below_drewN (Below.refl _ wr) n))
  rw [ho] at this
  exact this
/-- A run that is over: its answer and the document's words are the same. -/
theorem tail_yes (ho : (R k).over = true) : (Q k).d = (S k).n ∧ ∃ va vac vw vwc ln, (R k).av = .slice va ln vac ∧ (Q k).wv = .slice vw ln vwc ∧ ∀ n, Calls Try.prog 16 #[.slice va ln vac, .slice vw ln vwc] (wr.drewN n) fun e w' => e = .returned (.bool true) ∧ ∃ m, w' = (wr.drewN n).drewN m := by
  obtain ⟨y1, y2⟩ := (h.ls.run k hk).yes ho
  obtain ⟨q1, q2⟩ := h.coh.run k hk
  obtain ⟨va, vac, hva⟩ := (h.ls.run k hk).rn.aw.form
  obtain ⟨vw, vwc, hvw⟩ := (h.ls.ref k hk).own.form
  have hU : (R k).U = (Q k).τ := by rw [y2, q2, y1]
  have hln : (Q k).τ.length ≤ 1000 := by
    have h1 := told_len (S k).A (R k).T (R k).T.length
    have h2 := (h.ls.asks k hk).2
    rw [← q2, y1] at h1
    omega
  rw [hU] at hva
  have r1 : Reads wr (.slice va (Q k).τ.length vac) (Q k).τ := by
    rw [← hva, ← hU]
    exact Reads.ofWds (h.ls.run k hk).rn.aw
  have r2 : Reads wr (.slice vw (Q k).τ.length vwc) (Q k).τ := by
    rw [← hvw]
    exact Reads.ofWds (h.ls.ref k hk).own
  exact ⟨by rw [q1, y1], va, vac, vw, vwc, _, hva, hvw, fun n => words_drew _ (r1.bel (pw_below_drewN (Below.refl _ wr) n)) (r2.bel (pw_below_drewN (Below.refl _ wr) n)) hln⟩
end
end Go.Proofs.Ytmolflmljneelaa.En
