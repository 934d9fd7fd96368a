/- Pack: what the closure of Split does, what walk does with it, and Split. Conditions: the variables' cells are as each theorem says. -/
import Derived.Test.YtoooapknoobkiaaJo2
namespace Go.Proofs.Ytoooapknoobkiaa.Sp
open Go.RowKit Go.Proofs.YtoooapknoobkiaaW.PrintWords Go.Proofs.YtoooapknoobkiaaW.PrintLast Go.Proofs.YtoooapknoobkiaaW.PrintMore Go.Proofs.Ytoooapknoobkiaa.Pk Go.Proofs.Ytoooapknoobkiaa.Jo
set_option linter.unusedVariables false
set_option linter.unusedSimpArgs false

/-- The variables of Split: what is out, the word. -/
structure VS (po px : Nat) (v : Value) (outs : List Int) (x : Int) (w0 w : World) : Prop where
  o : w.cell? ⟨po, 0, none⟩ = some v
  fo : w.frozen? ⟨po, 0, none⟩ = false
  x : w.cell? ⟨px, 0, none⟩ = some (.int .u64 x)
  row : Kd.R (Kd.int .u64) 33 w w0.heap.size (fun k => k ≠ po ∧ k ≠ px) v outs
  below : Below w0.heap.size w0 w
  lt : po < w.heap.size ∧ px < w.heap.size
theorem VS.drewN {po px : Nat} {v : Value} {outs : List Int} {x : Int} {w0 w : World} (h : VS po px v outs x w0 w) (k : Nat) : VS po px v outs x w0 (w.drewN k) :=
  ⟨h.o, h.fo, h.x, Kd.R_drewN h.row k, pw_below_drewN h.below k, h.lt⟩

/-- What an append leaves of the variables. -/
theorem VS.kept {po px : Nat} {v : Value} {outs : List Int} {x : Int} {w0 w w4 : World} (h : VS po px v outs x w0 w) (k : Nat) (hg : (w.drewN k).grownBy w4 v.ownBlock) :
    w4.cell? ⟨po, 0, none⟩ = some v ∧ w4.frozen? ⟨po, 0, none⟩ = false ∧ w4.cell? ⟨px, 0, none⟩ = some (.int .u64 x) :=
  ⟨hg.cell h.o (fun e => (h.row.1 po e.symm).1 rfl), (hg.frozen_far ⟨po, 0, none⟩ h.lt.1 (fun e => (h.row.1 po e.symm).1 rfl)).trans h.fo, hg.cell h.x (fun e => (h.row.1 px e.symm).2 rfl)⟩
theorem VS.mk4 {po px : Nat} {v v1 : Value} {outs outs' : List Int} {x : Int} {w0 w w4 : World} (h : VS po px v outs x w0 w) (k : Nat) (hg : (w.drewN k).grownBy w4 v.ownBlock)
    (ho : Kd.R (Kd.int .u64) 33 w4 w0.heap.size (fun k => k ≠ po ∧ k ≠ px) v1 outs') (hb : Below w0.heap.size w0 w4) (hne : po ≠ px) (hBo : w0.heap.size ≤ po) : VS po px v1 outs' x w0 (w4.setCell ⟨po, 0, none⟩ v1) := by
  obtain ⟨h1, h2, h3⟩ := h.kept k hg
  have hs : (w4.setCell ⟨po, 0, none⟩ v1).heap.size = w4.heap.size := World.size_setCell _ _ _
  have hz := hg.size
  have hl := h.lt
  exact ⟨World.cell?_setCell_same _ _ _ h1, by rw [World.frozen?_setCell]; exact h2, by rw [World.cell?_setCell_other _ _ _ _ (ne_addr hne)]; exact h3, Kd.R_move ho (fun j hj => Below.heap_setCell _ _ _ j (fun e => hj.1 e)), hb.setCell (p := ⟨po, 0, none⟩) hBo _, ⟨by rw [hs]; exact Nat.lt_of_lt_of_le hl.1 hz, by rw [hs]; exact Nat.lt_of_lt_of_le hl.2 hz⟩⟩

set_option maxHeartbeats 400000 in
theorem do_calls (w0 w : World) (po px i : Nat) (at_ wd x g : Int) (v : Value) (outs : List Int) (hg0 : pack_Get.f x at_ wd = some g)
    (hS : VS po px v outs x w0 w) (hne : po ≠ px) (hBo : w0.heap.size ≤ po) (hBx : w0.heap.size ≤ px) (hl : outs.length ≤ 1000000) :
    Calls Try.prog 29 #[.int .i64 i, .int .i64 at_, .int .i64 wd, .pointer (some ⟨po, 0, none⟩), .pointer (some ⟨px, 0, none⟩)] w fun e w' => e = .returned (.tuple #[]) ∧ ∃ v', VS po px v' (outs ++ [g]) x w0 w' := by
  have HG := Aside0.mk hg0
  have hO := hS.o
  have hX := hS.x
  have HLT := Aside0.mk hS.lt
  have HS := Aside0.mk hS
  clear hg0 hS
  go_enter Try.func29, Try.ntmps29
  go_wp2_with fail
  refine start_ (n := 8) (S := fun w' => w'.cell? ⟨po, 0, none⟩ = some v ∧ w'.cell? ⟨px, 0, none⟩ = some (.int .u64 x)) (ds := [6, 7]) #[false, false, false, false, false, false, false, false] (by kernel_rfl) rfl rfl ⟨hO, hX⟩ (fun hHeld => ?_)
  refine pure_ (i := 2) (N := some 10) (v := ?_) (a' := ?_) #[false, false, true, false, false, false, false, false] rfl rfl (by kernel_rfl) (fun _ _ _ h => h) (Or.inl ⟨by rfl, ?_⟩) ?_ ?_
  rotate_left
  · intro w'
    go_simp
    with_reducible rfl
  rotate_left
  · simp only [Act.put, List.setIfInBounds_toArray, List.set_cons_zero, List.set_cons_succ, i64_w, i32_w]
    rfl
  refine pure_ (i := 3) (N := some 11) (v := ?_) (a' := ?_) #[false, false, true, true, false, false, false, false] rfl rfl (by kernel_rfl) (fun _ _ _ h => h) (Or.inl ⟨by rfl, ?_⟩) ?_ ?_
  rotate_left
  · intro w'
    go_simp
    with_reducible rfl
  rotate_left
  · simp only [Act.put, List.setIfInBounds_toArray, List.set_cons_zero, List.set_cons_succ, i64_w, i32_w]
    rfl
  refine take_ (i := 0) (N := some 8) (v := ?_) (a' := ?_) #[true, false, true, true, false, false, false, false] rfl rfl (by kernel_rfl) (fun _ _ _ h => h) (Or.inl ⟨by rfl, ?_⟩) hHeld ?_ ?_
  rotate_left
  · rintro w' ⟨s0, s1⟩
    go_simp
    with_reducible rfl
  rotate_left
  · simp only [Act.put, List.setIfInBounds_toArray, List.set_cons_zero, List.set_cons_succ, i64_w, i32_w]
    rfl
  refine take_ (i := 1) (N := some 9) (v := ?_) (a' := ?_) #[true, true, true, true, false, false, false, false] rfl rfl (by kernel_rfl) (fun _ _ _ h => h) (Or.inl ⟨by rfl, ?_⟩) hHeld ?_ ?_
  rotate_left
  · rintro w' ⟨s0, s1⟩
    go_simp
    with_reducible rfl
  rotate_left
  · simp only [Act.put, List.setIfInBounds_toArray, List.set_cons_zero, List.set_cons_succ, i64_w, i32_w]
    rfl
  refine one_ (i := 4) (N := some 12) #[true, true, true, true, true, false, false, false] rfl rfl (by kernel_rfl) (by decide) (fun K hK => ?_)
  refine goes_ Try.func30 (by kernel_rfl) rfl #[.int .u64 x, .int .i64 at_, .int .i64 wd] (by rfl) rfl rfl (by simp only [List.map_toArray, List.map_cons, List.map_nil]; rfl) ?_
  with_reducible refine (pack_Get.calls x at_ wd g _ HG.out).mono ?_
  rintro e w3 ⟨rfl, ⟨nd, rfl⟩⟩
  refine ⟨_, rfl, ?_⟩
  refine hK.out _ _ ⟨hHeld.1, hHeld.2⟩ (fun hHeld => ?_)
  clear hK K
  refine norm_ (a' := ?_) ?_ ?_
  rotate_left
  · show Act.put _ (some 12) _ = _
    simp only [Act.put, List.setIfInBounds_toArray, List.set_cons_zero, List.set_cons_succ, i64_w, i32_w]
    rfl
  refine one_ (i := 5) (N := some 13) #[true, true, true, true, true, true, false, false] rfl rfl (by kernel_rfl) (by decide) (fun K hK => ?_)
  refine value_ (w1 := ?_) (v := ?_) (by rfl) rfl ?_ ?_
  rotate_left 2
  · go_simp
    constructor
    · rfl
    · rfl
  refine hK.out _ _ ⟨(pw_cell_below (below_alloc (Below.refl _ _) _) hHeld.1), (pw_cell_below (below_alloc (Below.refl _ _) _) hHeld.2)⟩ (fun hHeld => ?_)
  clear hK K
  refine norm_ (a' := ?_) ?_ ?_
  rotate_left
  · show Act.put _ (some 13) _ = _
    simp only [Act.put, List.setIfInBounds_toArray, List.set_cons_zero, List.set_cons_succ, i64_w, i32_w]
    rfl
  refine last_ (i := 6) (N := some 14) #[true, true, true, true, true, true, true, false] rfl rfl (by kernel_rfl) (by decide) (fun K hK => ?_)
  refine Kd.R_append_step (Kd.int .u64) (w0 := w0) w0.heap.size (by rfl) (.tmp 8) (.tmp 13) 46 33 (.int .u64 0) 8 rfl Try.underlying46 info33 rfl (by decide) (by omega) v outs g [.int .u64 g] (fun k => k ≠ po ∧ k ≠ px) (fun _ => False) rfl (by rfl) rfl (fun _ hk => hk.elim) (fun k hk => ⟨by have := HLT.out.1; simp at hk; omega, by have := HLT.out.2; simp at hk; omega⟩) (Kd.R_drewN HS.out.row (1 + nd)) (pw_below_drewN HS.out.below (1 + nd)) (pw_below_drewN HS.out.below (1 + nd)).size (by omega) ?_
  intro v1 w4 ho hb hg hat
  refine hK.out _ _ ?_
  clear hK K
  refine norm_ (a' := ?_) ?_ ?_
  rotate_left
  · show Act.put _ (some 14) _ = _
    simp only [Act.put, List.setIfInBounds_toArray, List.set_cons_zero, List.set_cons_succ, i64_w, i32_w]
    rfl
  refine last_ (i := 7) (N := none) #[true, true, true, true, true, true, true, true] rfl rfl (by kernel_rfl) (by decide) (fun K hK => ?_)
  obtain ⟨hO4, hfO4, hX4⟩ := VS.kept HS.out (1 + nd) hg
  obtain ⟨g', cap', rfl, hgb, hgl, _⟩ := Kd.R_form ho (by simp)
  have HV := Aside0.mk (VS.mk4 HS.out (1 + nd) hg ho hb hne hBo)
  clear ho hb hg hat
  refine skip_ (w1 := ?_) (by rfl) rfl ?_ ?_
  rotate_left
  · go_simp
    rfl
  refine hK.out _ _ ?_
  clear hK K
  refine done_ (by kernel_rfl) ?_
  go_end0
  have hv := HV.out
  rw [show (outs ++ [g]).length = outs.length + 1 from by simp] at hv
  exact ⟨rfl, _, hv⟩

def gt (x a n : Int) : Int := (pack_Get.f x a n).getD 0
theorem gt_eq {a n : Int} (h : fld a n = true) (x : Int) : pack_Get.f x a n = some (gt x a n) := by
  have hr := fld_range h
  have hf := fld_eq a n (by omega) (by omega)
  have hm := mk_eq h
  have : ∃ r, pack_Get.f x a n = some r := by
    unfold pack_Get.f
    rw [hf, h]
    simp only [Option.bind_some, if_true]
    rw [if_pos (by omega), hm]
    exact ⟨_, rfl⟩
  obtain ⟨r, hr⟩ := this
  unfold gt
  rw [hr]; rfl
/-- What walk does with Split's closure: where the fields end, what they hold. -/
def splitL : List Int → Int → Int → List Int → Option (Int × List Int)
  | [], a, _, out => some (a, out)
  | n :: r, a, x, out => if fld a n = true then splitL r (a + n) x (out ++ [gt x a n]) else none
theorem splitL_step (ws : List Int) (i : Nat) (hlt : i < ws.length) (a x : Int) (out : List Int) :
    splitL (ws.drop i) a x out = if fld a (ws.getD i 0) = true then splitL (ws.drop (i + 1)) (a + ws.getD i 0) x (out ++ [gt x a (ws.getD i 0)]) else none := by
  rw [List.drop_eq_getElem_cons hlt]
  simp only [splitL]
  have e4 : ws[i] = ws.getD i 0 := by rw [List.getD_eq_getElem?_getD, List.getElem?_eq_getElem hlt]; rfl
  rw [e4]

/-- What walk answers. -/
def ToldS (R : Option (Int × List Int)) (po px : Nat) (x : Int) (w0 : World) (e : Ending) (w' : World) : Prop :=
  match R with
  | none => e = .returned (.tuple #[.int .i64 0, .bool false]) ∧ ∃ v outs, VS po px v outs x w0 w'
  | some (a, outs) => e = .returned (.tuple #[.int .i64 a, .bool true]) ∧ ∃ v, VS po px v outs x w0 w'

set_option maxHeartbeats 1000000 in
theorem walk_calls (w0 w : World) (po px : Nat) (A : Option Addr) (c : Nat) (ws : List Int) (x : Int)
    (hws : Kd.C (Kd.int .i64) w0 A ws.length ws) (hwf : ∀ i, -9223372036854775808 ≤ ws.getD i 0 ∧ ws.getD i 0 ≤ 9223372036854775807)
    (hS : VS po px (.slice none 0 0) [] x w0 w) (hne : po ≠ px) (hBo : w0.heap.size ≤ po) (hBx : w0.heap.size ≤ px) (hl : ws.length ≤ 1000000) :
    Calls Try.prog 25 #[.slice A ws.length c, .func (.func 29) #[] #[.pointer (some ⟨po, 0, none⟩), .pointer (some ⟨px, 0, none⟩)]] w (ToldS (splitL ws 0 x []) po px x w0) := by
  have HWS := Aside0.mk hws
  have HWF := Aside0.mk hwf
  have HS := Aside0.mk hS
  obtain ⟨R, hR⟩ : ∃ R, splitL ws 0 x [] = R := ⟨_, rfl⟩
  rw [hR]
  have HR := Aside0.mk hR
  clear hws hwf hS hR
  go_enter Try.func25, Try.ntmps25
  go_wp2_with fail
  go_loopw [6, 11] (fun v6 v11 wr => ∃ (i : Nat) (a : Int) (v : Value) (outs : List Int), i ≤ ws.length ∧ v11 = .int .i64 i ∧ v6 = .int .i64 a ∧ 0 ≤ a ∧ a ≤ 64 ∧ Aside0 (outs.length = i) ∧ Aside0 (splitL (ws.drop i) a x outs = R) ∧ Aside0 (VS po px v outs x w0 wr)) (fun _ v11 _ => ws.length - (intOf v11).toNat)
  case atStart => exact ⟨0, 0, _, [], by omega, rfl, rfl, by omega, by omega, ⟨rfl⟩, HR, HS⟩
  case round =>
    clear HS HR
    obtain ⟨i, a, v, outs, hi, rfl, rfl, ha0, ha1, HO, HR, HS⟩ := hrel
    by_cases hlt : i < ws.length
    · obtain ⟨ad, e, hx⟩ := Kd.at_int HWS.out (i : Int) (by omega) (by omega)
      cases e
      replace hx := (HS.out.below.cell (World.block_lt_of_cell? w0 _ hx)).trans hx
      rw [Int.toNat_natCast] at hx
      have e1 : rd ws (i : Int) = ws.getD i 0 := by simp [rd]
      rw [e1] at hx
      have hwd := HWF.out i
      have hrec := Aside0.mk (splitL_step ws i hlt a x outs)
      obtain ⟨n, hn⟩ : ∃ n, ws.getD i 0 = n := ⟨_, rfl⟩
      rw [hn] at hx hwd hrec
      clear hn e1
      obtain ⟨hwd0, hwd1⟩ := hwd
      go_wp2_with fail
      refine (field_calls a n _ hwd0 hwd1).mono ?_
      rintro e w1 ⟨rfl, ⟨nd, rfl⟩⟩
      by_cases hfd : fld a n = true
      · have hr := hrec.out
        rw [if_pos hfd, HR.out] at hr
        have HR2 := Aside0.mk hr.symm
        have hrg := fld_range hfd
        have HF := Aside0.mk hfd
        rw [hfd]
        clear hfd hr HR hrec
        obtain ⟨r1, r2, r3, r4⟩ := hrg
        go_wp2_with fail
        refine (do_calls w0 _ po px i a n x (gt x a n) v outs (gt_eq HF.out x) (HS.out.drewN nd) hne hBo hBx (by have := HO.out; omega)).mono ?_
        rintro e w2 ⟨rfl, v', hS2⟩
        have HS2 := Aside0.mk hS2
        clear hS2 HS
        go_wp2
        go_roundw
        case rel => exact ⟨i + 1, a + n, v', _, by omega, by go_num, rfl, by omega, by omega, ⟨by rw [List.length_append, HO.out]; rfl⟩, HR2, HS2⟩
        case measure => simp [intOf]; omega
      · have hfd' : fld a n = false := by simpa using hfd
        have hr := hrec.out
        rw [if_neg hfd, HR.out] at hr
        have HR2 := Aside0.mk hr
        rw [hfd']
        clear hfd hfd' hr HR hrec
        go_wp2
        go_ret2
        rw [HR2.out]
        exact ⟨rfl, _, _, HS.out.drewN nd⟩
    · obtain rfl : i = ws.length := by omega
      have hr := HR.out
      rw [List.drop_length] at hr
      have HR2 := Aside0.mk hr.symm
      clear hr HR
      go_wp2
      go_ret2
      rw [HR2.out]
      exact ⟨rfl, _, HS.out⟩

/-- Split. -/
def splitR (ws : List Int) (x : Int) : List Int × Bool :=
  match splitL ws 0 x [] with
  | some (a, outs) => if a < 64 ∧ x / 2 ^ a.toNat ≠ 0 then ([], false) else (outs, true)
  | none => ([], false)
theorem splitL_end : ∀ (ws : List Int) (a x : Int) (out : List Int), 0 ≤ a → a ≤ 64 → ∀ e o, splitL ws a x out = some (e, o) → 0 ≤ e ∧ e ≤ 64 ∧ o.length = out.length + ws.length
  | [], a, x, out, h0, h1, e, o, h => by simp only [splitL, Option.some.injEq, Prod.mk.injEq] at h; obtain ⟨rfl, rfl⟩ := h; exact ⟨h0, h1, rfl⟩
  | n :: r, a, x, out, h0, h1, e, o, h => by
    simp only [splitL] at h
    by_cases hf : fld a n = true
    · rw [if_pos hf] at h
      have hr := fld_range hf
      have := splitL_end r (a + n) x (out ++ [gt x a n]) (by omega) (by omega) e o h
      rw [List.length_append, List.length_singleton] at this
      rw [List.length_cons]
      omega
    · rw [if_neg hf] at h; cases h

set_option maxHeartbeats 1000000 in
theorem split_calls (A : Option Addr) (n c : Nat) (ws : List Int) (x : Int) (w : World) (hn : ws.length = n)
    (hws : Kd.C (Kd.int .i64) w A n ws) (hwf : ∀ i, -9223372036854775808 ≤ ws.getD i 0 ∧ ws.getD i 0 ≤ 9223372036854775807) (hl : n ≤ 1000000) (hx : 0 ≤ x) :
    Calls Try.prog 22 #[.slice A n c, .int .u64 x] w fun e w' => ∃ A' c', e = .returned (.tuple #[.slice A' (splitR ws x).1.length c', .bool (splitR ws x).2]) ∧ Kd.C (Kd.int .u64) w' A' (splitR ws x).1.length (splitR ws x).1 ∧ (splitR ws x).1.length ≤ c' ∧ Below w.heap.size w w' := by
  subst hn
  have HWS := Aside0.mk hws
  have HWF := Aside0.mk hwf
  clear hws hwf
  obtain ⟨R, hR⟩ : ∃ R, splitR ws x = R := ⟨_, rfl⟩
  rw [hR]
  have HR := Aside0.mk hR
  clear hR
  go_enter Try.func22, Try.ntmps22
  go_wp2_with fail
  refine (walk_calls w _ (w.heap.size + 1) w.heap.size A c ws x HWS.out HWF.out ?hS (by omega) (by omega) (by omega) hl).mono ?_
  case hS =>
    refine ⟨?_, ?_, ?_, Kd.R_nil _ _ _ _ _, ?_, ?_⟩
    · simp [go_sem]
    · simp [go_sem]
    · simp [go_sem]
    · go_grown
    · simp; omega
  intro e w2 ht
  cases hL : splitL ws 0 x [] with
  | none =>
    rw [hL] at ht
    obtain ⟨rfl, v, outs, hS⟩ := ht
    have HS := Aside0.mk hS
    have HR2 := Aside0.mk (show R = ([], false) by rw [← HR.out]; unfold splitR; rw [hL])
    clear hS hL HR
    go_wp2
    go_ret2
    rw [HR2.out]
    exact ⟨none, 0, rfl, Kd.C_nil _ _, by simp, HS.out.below⟩
  | some r =>
    obtain ⟨a, outs⟩ := r
    rw [hL] at ht
    obtain ⟨rfl, v, hS⟩ := ht
    have he := splitL_end ws 0 x [] (by omega) (by omega) a outs hL
    have hRR : R = if a < 64 ∧ x / 2 ^ a.toNat ≠ 0 then ([], false) else (outs, true) := by rw [← HR.out]; unfold splitR; rw [hL]
    obtain ⟨A', c', hv, hc', hC⟩ := Kd.R_reads hS.row
    subst hv
    have HC := Aside0.mk hC
    have hO := hS.o
    have hX := hS.x
    have HS := Aside0.mk hS
    obtain ⟨he0, he1, -⟩ := he
    clear hC hS hL HR
    by_cases h64 : a < 64
    · have d1 : decide (a < 64) = true := decide_eq_true h64
      by_cases hz : x / 2 ^ a.toNat = 0
      · have HR2 := Aside0.mk (show R = (outs, true) by rw [hRR, if_neg (fun h => h.2 hz)])
        have d2 : (x / 2 ^ a.toNat != 0) = false := by rw [bne_eq_false_iff_eq]; exact hz
        clear hRR hz
        go_wp2
        go_ret2
        rw [HR2.out]
        exact ⟨_, _, rfl, HC.out, hc', HS.out.below⟩
      · have HR2 := Aside0.mk (show R = ([], false) by rw [hRR, if_pos ⟨h64, hz⟩])
        have d2 : (x / 2 ^ a.toNat != 0) = true := by rw [bne_iff_ne]; exact hz
        clear hRR hz
        go_wp2
        go_ret2
        rw [HR2.out]
        exact ⟨none, 0, rfl, Kd.C_nil _ _, by simp, HS.out.below⟩
    · have d1 : decide (a < 64) = false := decide_eq_false h64
      have HR2 := Aside0.mk (show R = (outs, true) by rw [hRR, if_neg (fun h => h64 h.1)])
      clear hRR
      go_wp2
      go_ret2
      rw [HR2.out]
      exact ⟨_, _, rfl, HC.out, hc', HS.out.below⟩
end Go.Proofs.Ytoooapknoobkiaa.Sp
