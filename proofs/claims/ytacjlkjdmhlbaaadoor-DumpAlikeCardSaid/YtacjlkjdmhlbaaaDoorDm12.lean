/- Parts of one proof, set together: DoorDk7. What each says stands at its head; no condition beyond theirs. -/
import Derived.Test.YtacjlkjdmhlbaaaDoorDm11
import Derived.DataElems
import Derived.WalkMore
import Derived.WideShapes4
/- Dump: data's words. Conditions: the words lie in memory; at most 300; the table of powers is laid. -/
namespace Go.Proofs.YtacjlkjdmhlbaaaDoor.Gr
open Go.RowKit Go.Shelf Go.Maps Go.ChangeMaps Go.MapKept Go.Proofs.YtacjlkjdmhlbaaaDoorW.PrintWords Go.Proofs.YtacjlkjdmhlbaaaDoorW.PrintLast Go.Proofs.YtacjlkjdmhlbaaaDoorW.PrintMore
set_option linter.unusedSimpArgs false
set_option linter.unusedVariables false
theorem IL.up {k : IntKind} {W : World} {B B' : Nat} {a : Option Addr} {len : Nat} {l : List Int} (h : IL k W B a len l) (hb : B ≤ B') : IL k W B' a len l := ⟨h.1, fun i hi => by
  obtain ⟨y, e, h1, h2⟩ := h.2 i hi
  exact ⟨y, e, Nat.lt_of_lt_of_le h1 hb, h2⟩⟩
theorem IL.to {k : IntKind} {W W' : World} {a : Option Addr} {len : Nat} {l : List Int} (h : IL k W W.heap.size a len l) (hb : Below W.heap.size W W') : IL k W' W'.heap.size a len l := (h.kept fun k hk => hb.block k hk).up hb.size
theorem DL.to {W W' : World} {n : Nd} (h : DL W W.heap.size n) (hb : Below W.heap.size W W') : DL W' W'.heap.size n := ⟨h.1.to hb, h.2.to hb⟩
theorem NL_up {W : World} {B B' : Nat} {a : Option Addr} {n : Nat} {M : List Nd} (h : NL W B a n M) (hb : B ≤ B') : NL W B' a n M := ⟨h.1, fun i hi => by
  obtain ⟨y, e, hy, hc⟩ := h.2 i hi
  exact ⟨y, e, Nat.lt_of_lt_of_le hy hb, hc⟩⟩
/-- The words of so many of the same. -/
def wordsOf (u n : Nat) : List (List UInt8) := if 3 ≤ n then [Lib.decDigits u ++ 120 :: Lib.itoa n] else List.replicate n (Lib.decDigits u)
def dataF : Nat → List Int → List (List UInt8)
  | 0, _ => []
  | _ + 1, [] => []
  | f + 1, x :: l => wordsOf x.toNat (runs x (x :: l)) ++ dataF f ((x :: l).drop (runs x (x :: l)))
def dataP (l : List Int) : List (List UInt8) := dataF l.length l
def dataR (l : List Int) : List (List UInt8) := if l.length = 0 then [] else [124] :: dataP l
theorem runs_pos (x : Int) (l : List Int) : 1 ≤ runs x (x :: l) := by
  unfold runs
  rw [if_pos rfl]
  omega
theorem dataF_more : ∀ (f : Nat) (l : List Int), l.length ≤ f → dataF f l = dataP l
  | 0, [], _ => rfl
  | 0, x :: l, h => by simp at h
  | f + 1, [], _ => rfl
  | f + 1, x :: l, h => by
    have h1 := runs_pos x l
    have h2 := runs_le x (x :: l)
    rw [List.length_cons] at h
    unfold dataP
    rw [List.length_cons]
    show _ ++ dataF f _ = _ ++ dataF l.length _
    rw [dataF_more f _ (by rw [List.length_drop, List.length_cons]; omega), dataF_more l.length _ (by rw [List.length_drop, List.length_cons]; omega)]
termination_by f => f
theorem dataP_step (x : Int) (l : List Int) : dataP (x :: l) = wordsOf x.toNat (runs x (x :: l)) ++ dataP ((x :: l).drop (runs x (x :: l))) := by
  have h1 := runs_pos x l
  show wordsOf _ _ ++ dataF l.length _ = _
  rw [dataF_more l.length _ (by rw [List.length_drop, List.length_cons]; omega)]
theorem words_len (u n : Nat) (h : 1 ≤ n) : (wordsOf u n).length ≤ n := by
  unfold wordsOf
  split
  · simp; omega
  · simp
def slLen : Value → Nat
  | .slice _ n _ => n
  | _ => 0
/-- The rest of a list behind a cut. -/
theorem IL_cut {k : IntKind} {W : World} {B : Nat} {y : Addr} {len cap n : Nat} {l : List Int} (h : IL k W B (some y) len l) (hn : n ≤ len) (hc : len ≤ cap) : IL k W B (if cap = n then some y else some (y.add n)) (len - n) (l.drop n) := by
  refine ⟨by rw [List.length_drop, h.1], fun i hi => ?_⟩
  obtain ⟨y', e, hb, hcl⟩ := h.2 (n + i) (by omega)
  cases e
  rw [if_neg (by omega)]
  refine ⟨_, rfl, by rw [add_block]; exact hb, ?_⟩
  rw [Addr.add_add, hcl, List.getD_eq_getElem?_getD, List.getD_eq_getElem?_getD, List.getElem?_drop]
theorem slice_cut (w : World) (y : Addr) (len cap n : Nat) (hn : n ≤ len) : (Instr.sliceAt 33 (.slice (some y) len cap) (some (.int .i64 (n : Int))) none none).run Tryd.prog w = .ok (.slice (if cap = n then some y else some (y.add n)) (len - n) (cap - n)) w := by
  go_simp
  (repeat (first | rfl | split))
set_option maxHeartbeats 16000000 in
set_option maxRecDepth 100000 in
theorem data_calls (W : World) (HT : Aside0 (Tb W)) (A1 : Option Addr) (m e1 : Nat) (T : List Int) (HI : Aside0 (IL .u64 W W.heap.size A1 m T)) (hcap : m ≤ e1) (HS : Aside0 (∀ x ∈ T, (Lit.int .u64 x).wf = true)) (hm : m ≤ 300) :
    Calls Tryd.prog 18 #[.slice A1 m e1] W fun e W' => ∃ v, e = .returned v ∧ W'.ownsRow W.heap.size 9 1 v (dataR T).length (strs (dataR T)) ∧ Below W.heap.size W W' := by
  obtain ⟨i0, hi, hz0, hz1, hz2⟩ := info_parts info9
  have HB := Aside0.mk (Below.refl W.heap.size W)
  have hTl : T.length = m := HI.out.1
  by_cases hm0 : m = 0
  · have hd : ((m : Int) == 0) = true := by simp [hm0]
    have HM0 := Aside0.mk hm0
    clear hm0
    go_enter Tryd.func18, Tryd.ntmps18
    go_wp2
    go_step3
    go_wp2
    (try rw [Exit.noGoto_ret])
    go_ret
    have e0 : dataR T = [] := by unfold dataR; rw [if_pos (by rw [hTl]; exact HM0.out)]
    exact ⟨_, rfl, by rw [e0]; exact World.ownsRow_nil _ _ _ _, HB.out⟩
  · have hd : ((m : Int) == 0) = false := by simp [hm0]
    have HM0 := Aside0.mk hm0
    clear hm0
    have OWN := Aside0.mk (row_first (v := .string ⟨#[124]⟩) (t := 9) (w := W) (W := W) (Nat.le_refl _))
    obtain ⟨w2, hw2⟩ : ∃ x, x = W.alloc (.cells #[.string ⟨#[124]⟩] 9) := ⟨_, rfl⟩
    obtain ⟨gg, hgg⟩ : ∃ x, x = W.heap.size := ⟨_, rfl⟩
    have HB2 := Aside0.mk (show Below W.heap.size W w2 by rw [hw2]; exact below_alloc HB.out _)
    rw [← hw2] at OWN
    go_enter Tryd.func18, Tryd.ntmps18
    go_wp2
    go_step3
    go_wp2
    go_step3
    have OWN' := Aside0.mk (show w2.ownsRow W.heap.size 9 1 (.slice (some ⟨gg, 0, none⟩) 1 1) 1 [.string ⟨#[124]⟩] by rw [hgg]; exact OWN.out)
    rw [← hw2, ← hgg]
    clear hw2 hgg HB OWN
    have OWN := OWN'
    clear OWN'
    have HT2 := Aside0.mk (HT.out.to HB2.out)
    have HEQ := Aside0.mk (show [[124]] ++ dataP T = dataR T by unfold dataR; rw [if_neg (by rw [hTl]; exact HM0.out)]; rfl)
    go_wp2
    go_loopw [0, 3] (fun v0 vo wr => ∃ (A : Option Addr) (len cap : Nat) (L : List Int) (O : List (List UInt8)) (k : Nat), v0 = .slice A len cap ∧ Aside0 (IL .u64 W W.heap.size A len L) ∧ len ≤ cap ∧ len ≤ 300 ∧ k ≤ 301 - len ∧ (∃ a c, vo = .slice a k c) ∧ Aside0 (O.length = k) ∧ Aside0 (wr.ownsRow W.heap.size 9 1 vo k (strs O)) ∧ Aside0 (O ++ dataP L = dataR T) ∧ Aside0 (∀ x ∈ L, (Lit.int .u64 x).wf = true) ∧ Aside0 (Below W.heap.size W wr)) (fun v0 _ _ => slLen v0)
    case atStart => exact ⟨A1, m, e1, T, [[124]], 1, rfl, HI, hcap, hm, by omega, ⟨_, _, rfl⟩, Aside0.mk rfl, OWN, HEQ, HS, HB2⟩
    case round =>
      clear HB2 OWN HT2 HEQ
      obtain ⟨A, len, cap, L, O, k, rfl, HIL, hlc, hl300, hk, ⟨a1, c1, rfl⟩, HOL, OWN, HEQ, HSL, HB⟩ := hrel
      by_cases hgo : 0 < len
      · have hd4 : decide ((len : Int) > 0) = true := decide_eq_true (by omega)
        have hd4' : decide ((0 : Int) < (len : Int)) = true := decide_eq_true (by omega)
        obtain ⟨y, e, hyb, hy⟩ := (HIL.out.to HB.out).2 0 hgo
        subst e
        rw [add_zero] at hy
        have hLl : L.length = len := HIL.out.1
        obtain ⟨x, L', hL⟩ : ∃ x L', L = x :: L' := by
          cases L with
          | nil => rw [List.length_nil] at hLl; omega
          | cons x L' => exact ⟨x, L', rfl⟩
        subst hL
        replace hy : wr.cell? y = some (.int .u64 x) := hy
        have hwf := HSL.out x (by simp)
        obtain ⟨u, hu⟩ : ∃ u : Nat, x = u := ⟨x.toNat, by have := (Lit.wf_int_iff .u64 _).1 hwf; simp [IntKind.min, IntKind.max, IntKind.signed, IntKind.bits] at this; omega⟩
        have hu64 : u < 18446744073709551616 := by have := (Lit.wf_int_iff .u64 _).1 hwf; simp [IntKind.min, IntKind.max, IntKind.signed, IntKind.bits] at this; omega
        subst hu
        clear hwf
        obtain ⟨n, hn⟩ : ∃ n, n = runs (u : Int) ((u : Int) :: L') := ⟨_, rfl⟩
        have hn1 : 1 ≤ n := by rw [hn]; exact runs_pos _ _
        have hnl : n ≤ len := by rw [hn, ← hLl]; exact runs_le _ _
        have HN := Aside0.mk hn
        clear hn
        have HST := Aside0.mk (show dataP ((u : Int) :: L') = wordsOf u n ++ dataP (((u : Int) :: L').drop n) by rw [dataP_step, ← HN.out]; rfl)
        go_upto_region 6 with fail
        obtain ⟨g4, hg4⟩ : ∃ x, x = wr.heap.size := ⟨_, rfl⟩
        obtain ⟨wc, hwc⟩ : ∃ x, x = wr.alloc (.cells #[.int .u64 (u : Int)] 32) := ⟨_, rfl⟩
        rw [← hg4, ← hwc]
        have hbc : Below wr.heap.size wr wc := by rw [hwc]; exact below_alloc (Below.refl _ _) _
        have BK4 := Aside0.mk (show wc.heap[g4]? = some (.cells #[.int .u64 (u : Int)] 32 (0, 0)) by rw [hwc, hg4]; exact blk_new _ _)
        have HBc := Aside0.mk (below_step HB.out hbc)
        have OWNc := Aside0.mk (row9_below OWN.out hbc)
        clear hbc hwc hg4 hy hyb
        go_upto_region 7 with (go_at_call 29; refine (index29_calls _ (some y) len cap ((u : Int) :: L') (Aside0.mk (HIL.out.to HBc.out)) (by omega) g4 (u : Int) BK4).mono ?_; rintro e w6 ⟨rfl, hb6⟩; have HB6 := Aside0.mk (below_step HBc.out hb6); have BK46 := Aside0.mk (blk_below BK4.out hb6); have OWN6 := Aside0.mk (row9_below OWNc.out hb6); clear hb6)
        have hc4 : w6.cell? ⟨g4, 0, none⟩ = some (.int .u64 (u : Int)) := (blk_cell BK46.out 0).trans rfl
        clear HBc OWNc BK4
        by_cases hall : n = len
        · have hr : runR (u : Int) ((u : Int) :: L') = -1 := by unfold runR; rw [← HN.out, if_pos (by rw [hall]; exact hLl.symm)]
          rw [hr]
          have hall' := Aside0.mk hall
          clear hr hall
          go_upto_region 9 with fail
          rw [show ((len : Nat) : Int) = ((n : Nat) : Int) from by rw [hall'.out]]
          go_upto_region 10 with (go_at_call 31; refine (fmt_calls u hu64 _ (Aside0.mk (HT.out.to HB6.out))).mono ?_; rintro e w7 ⟨rfl, hb7⟩; have HB7 := Aside0.mk (below_step HB6.out hb7); have OWN7 := Aside0.mk (row9_below OWN6.out hb7); clear hb7)
          clear HB6 OWN6 BK46
          have hsl := fun w => slice_cut w y len cap n hnl
          have HCUT := Aside0.mk (IL_cut HIL.out hnl hlc)
          obtain ⟨A2, hA2⟩ : ∃ x, x = (if cap = n then some y else some (y.add n)) := ⟨_, rfl⟩
          rw [← hA2] at HCUT
          simp only [← hA2] at hsl
          clear hA2
          go_upto_region 11 with fail
          clear hsl
          by_cases h3 : 3 ≤ n
          · have hd9 : decide ((n : Int) ≥ 3) = true := decide_eq_true (by omega)
            have hd9' : decide ((3 : Int) ≤ (n : Int)) = true := decide_eq_true (by omega)
            have HWO := Aside0.mk (show wordsOf u n = [Lib.decDigits u ++ 120 :: Lib.itoa (n : Int)] by unfold wordsOf; rw [if_pos h3])
            have hil := itoa_len (n : Int) (by omega) (by omega)
            have hdl := dec_len u hu64
            have hcat1 : ∀ w, (Op.stringOp .add ⟨(Lib.decDigits u).toArray⟩ ⟨#[120]⟩).run Tryd.prog w = .ok (.string ⟨(Lib.decDigits u ++ [120]).toArray⟩) w := fun w => by rw [run_string_add_sum w _ _ (by simp [ByteArray.size]; omega)]; exact congrArg (fun b => Result.ok (Value.string b) w) (ByteArray.mk_append_mk _ [120])
            have hcat2 : ∀ w, (Op.stringOp .add ⟨(Lib.decDigits u ++ [120]).toArray⟩ ⟨(Lib.itoa (n : Int)).toArray⟩).run Tryd.prog w = .ok (.string ⟨(Lib.decDigits u ++ 120 :: Lib.itoa (n : Int)).toArray⟩) w := fun w => by
              rw [run_string_add_sum w _ _ (by simp [ByteArray.size]; omega)]
              have e := ByteArray.mk_append_mk (Lib.decDigits u ++ [120]) (Lib.itoa (n : Int))
              rw [List.append_assoc] at e
              exact congrArg (fun b => Result.ok (Value.string b) w) e
            obtain ⟨S1, hS1⟩ : ∃ x, x = Lib.decDigits u ++ 120 :: Lib.itoa (n : Int) := ⟨_, rfl⟩
            rw [← hS1] at HWO
            simp only [← hS1] at hcat2
            have HS1 := Aside0.mk hS1
            clear hS1
            go_wp2_with (first | (go_at_call 14; refine (itoa_calls (n : Int) (by omega) (by omega) _ (Aside0.mk (HT.out.to HB7.out))).mono ?_; rintro e w8 ⟨rfl, hb8⟩; have HB8 := Aside0.mk (below_step HB7.out hb8); have OWN8 := Aside0.mk (row9_below OWN7.out hb8); clear hb8) | (at_builtin; refine wpList_append_own _ rfl (.tmp 31) (.tmp 37) 52 rfl W.heap.size 9 i0 (.string ⟨#[]⟩) 1 16 Tryd.underlying52 hi hz0 hz1 hz2 rfl (by decide) (.slice a1 k c1) k (strs O) rfl (OWN8.out.alloc _) ⟨w8.heap.size, 0, none⟩ 1 1 [.string ⟨S1.toArray⟩] rfl rfl (one_new _ _ _) (by simp [Value.oneCell']) (by unfold maxLen; omega) (by omega) (by rw [World.size_alloc]; have := HB8.out.size; omega) ?_; intro v' w9 hown' hgrow _; obtain ⟨g', cap', rfl⟩ := ownsRow_succ hown'; have OWN9 := Aside0.mk hown'; have HB9 := Aside0.mk (own_below (below_alloc HB8.out _) (Nat.le_refl _) (OWN8.out.alloc _) hgrow); clear hown' hgrow))
            have OWNn := Aside0.mk (show w9.ownsRow W.heap.size 9 1 (.slice (some ⟨g', 0, none⟩) (k + 1) cap') (k + 1) (strs (O ++ wordsOf u n)) by rw [HWO.out, strs_snoc]; exact OWN9.out)
            refine ⟨⟨_, len - n, cap - n, ((u : Int) :: L').drop n, O ++ wordsOf u n, k + 1, rfl, HCUT, by omega, by omega, by omega, ⟨_, _, rfl⟩, Aside0.mk (by rw [List.length_append, HOL.out, HWO.out]; rfl), OWNn, Aside0.mk (by rw [List.append_assoc, ← HST.out]; exact HEQ.out), Aside0.mk (fun z hz => HSL.out z (List.mem_of_mem_drop hz)), HB9⟩, ?_⟩
            show len - n < len
            omega
          · have hd9 : decide ((n : Int) ≥ 3) = false := decide_eq_false (by omega)
            have hd9' : decide ((3 : Int) ≤ (n : Int)) = false := decide_eq_false (by omega)
            have HWO := Aside0.mk (show wordsOf u n = List.replicate n (Lib.decDigits u) by unfold wordsOf; rw [if_neg h3])
            obtain ⟨s1, hs1⟩ : ∃ x, x = Lib.decDigits u := ⟨_, rfl⟩
            rw [← hs1] at HWO ⊢
            clear hs1
            obtain ⟨w3, hw3⟩ : ∃ x, x = w7.alloc (.cells #[.string ⟨s1.toArray⟩] 9) := ⟨_, rfl⟩
            obtain ⟨g3, hg3⟩ : ∃ x, x = w7.heap.size := ⟨_, rfl⟩
            have hb3 : Below w7.heap.size w7 w3 := by rw [hw3]; exact below_alloc (Below.refl _ _) _
            have BK3 := Aside0.mk (show w3.heap[g3]? = some (.cells #[.string ⟨s1.toArray⟩] 9 (0, 0)) by rw [hw3, hg3]; exact blk_new _ _)
            have HBs := Aside0.mk (below_step HB7.out hb3)
            have OWNs := Aside0.mk (row9_below OWN7.out hb3)
            clear hb3
            rcases (show n = 1 ∨ n = 2 by omega) with hn' | hn'
            · have HN' := Aside0.mk hn'
              subst hn'
              go_wp2_with (first | (go_at_call 32; rw [← hw3, ← hg3]; clear hw3 hg3; refine (repeat1_calls _ g3 ⟨s1.toArray⟩ BK3).mono ?_; rintro e w8 ⟨v8, rfl, hr8, hb8⟩; obtain ⟨g8, c8, rfl⟩ := ownsRow_succ hr8; have HNEW := Aside0.mk (hr8.cells (g := g8) rfl); have HB8 := Aside0.mk (below_step HBs.out hb8); have OWN8 := Aside0.mk (row9_below OWNs.out hb8); clear hr8 hb8) | (at_builtin; refine wpList_append_own _ rfl (.tmp 39) (.tmp 43) 52 rfl W.heap.size 9 i0 (.string ⟨#[]⟩) 1 16 Tryd.underlying52 hi hz0 hz1 hz2 rfl (by decide) (.slice a1 k c1) k (strs O) rfl OWN8.out ⟨g8, 0, none⟩ 1 c8 [.string ⟨s1.toArray⟩] rfl rfl HNEW.out (by intro v hv; simp at hv; subst hv; rfl) (by unfold maxLen; omega) (by omega) HB8.out.size ?_; intro v' w9 hown' hgrow _; obtain ⟨g', cap', rfl⟩ := ownsRow_succ hown'; have OWN9 := Aside0.mk hown'; have HB9 := Aside0.mk (own_below HB8.out (Nat.le_refl _) OWN8.out hgrow); clear hown' hgrow))
              have OWNn := Aside0.mk (show w9.ownsRow W.heap.size 9 1 (.slice (some ⟨g', 0, none⟩) (k + 1) cap') (k + 1) (strs (O ++ wordsOf u 1)) by rw [HWO.out]; simpa [strs] using OWN9.out)
              refine ⟨⟨_, len - 1, cap - 1, ((u : Int) :: L').drop 1, O ++ wordsOf u 1, k + 1, rfl, HCUT, by omega, by omega, by omega, ⟨_, _, rfl⟩, Aside0.mk (by rw [List.length_append, HOL.out, HWO.out]; rfl), OWNn, Aside0.mk (by rw [List.append_assoc, ← HST.out]; exact HEQ.out), Aside0.mk (fun z hz => HSL.out z (List.mem_of_mem_drop hz)), HB9⟩, ?_⟩
              show len - 1 < len
              omega
            · have HN' := Aside0.mk hn'
              subst hn'
              go_wp2_with (first | (go_at_call 32; rw [← hw3, ← hg3]; clear hw3 hg3; refine (repeat2_calls _ g3 ⟨s1.toArray⟩ BK3).mono ?_; rintro e w8 ⟨v8, rfl, hr8, hb8⟩; obtain ⟨g8, c8, rfl⟩ := ownsRow_succ hr8; have HNEW := Aside0.mk (hr8.cells (g := g8) rfl); have HB8 := Aside0.mk (below_step HBs.out hb8); have OWN8 := Aside0.mk (row9_below OWNs.out hb8); clear hr8 hb8) | (at_builtin; refine wpList_append_own _ rfl (.tmp 39) (.tmp 43) 52 rfl W.heap.size 9 i0 (.string ⟨#[]⟩) 1 16 Tryd.underlying52 hi hz0 hz1 hz2 rfl (by decide) (.slice a1 k c1) k (strs O) rfl OWN8.out ⟨g8, 0, none⟩ 2 c8 [.string ⟨s1.toArray⟩, .string ⟨s1.toArray⟩] rfl rfl HNEW.out (by intro v hv; simp at hv; subst hv; rfl) (by unfold maxLen; omega) (by omega) HB8.out.size ?_; intro v' w9 hown' hgrow _; obtain ⟨g', cap', rfl⟩ := ownsRow_succ hown'; have OWN9 := Aside0.mk hown'; have HB9 := Aside0.mk (own_below HB8.out (Nat.le_refl _) OWN8.out hgrow); clear hown' hgrow))
              have OWNn := Aside0.mk (show w9.ownsRow W.heap.size 9 1 (.slice (some ⟨g', 0, none⟩) (k + 2) cap') (k + 2) (strs (O ++ wordsOf u 2)) by rw [HWO.out]; simpa [strs] using OWN9.out)
              refine ⟨⟨_, len - 2, cap - 2, ((u : Int) :: L').drop 2, O ++ wordsOf u 2, k + 2, rfl, HCUT, by omega, by omega, by omega, ⟨_, _, rfl⟩, Aside0.mk (by rw [List.length_append, HOL.out, HWO.out]; rfl), OWNn, Aside0.mk (by rw [List.append_assoc, ← HST.out]; exact HEQ.out), Aside0.mk (fun z hz => HSL.out z (List.mem_of_mem_drop hz)), HB9⟩, ?_⟩
              show len - 2 < len
              omega
        · have hr : runR (u : Int) ((u : Int) :: L') = (n : Int) := by unfold runR; rw [← HN.out, if_neg (by rw [hLl]; exact hall)]
          rw [hr]
          have hd5 : decide ((n : Int) < 0) = false := decide_eq_false (by omega)
          clear hr hall
          go_upto_region 9 with fail
          go_upto_region 10 with (go_at_call 31; refine (fmt_calls u hu64 _ (Aside0.mk (HT.out.to HB6.out))).mono ?_; rintro e w7 ⟨rfl, hb7⟩; have HB7 := Aside0.mk (below_step HB6.out hb7); have OWN7 := Aside0.mk (row9_below OWN6.out hb7); clear hb7)
          clear HB6 OWN6 BK46
          have hsl := fun w => slice_cut w y len cap n hnl
          have HCUT := Aside0.mk (IL_cut HIL.out hnl hlc)
          obtain ⟨A2, hA2⟩ : ∃ x, x = (if cap = n then some y else some (y.add n)) := ⟨_, rfl⟩
          rw [← hA2] at HCUT
          simp only [← hA2] at hsl
          clear hA2
          go_upto_region 11 with fail
          clear hsl
          by_cases h3 : 3 ≤ n
          · have hd9 : decide ((n : Int) ≥ 3) = true := decide_eq_true (by omega)
            have hd9' : decide ((3 : Int) ≤ (n : Int)) = true := decide_eq_true (by omega)
            have HWO := Aside0.mk (show wordsOf u n = [Lib.decDigits u ++ 120 :: Lib.itoa (n : Int)] by unfold wordsOf; rw [if_pos h3])
            have hil := itoa_len (n : Int) (by omega) (by omega)
            have hdl := dec_len u hu64
            have hcat1 : ∀ w, (Op.stringOp .add ⟨(Lib.decDigits u).toArray⟩ ⟨#[120]⟩).run Tryd.prog w = .ok (.string ⟨(Lib.decDigits u ++ [120]).toArray⟩) w := fun w => by rw [run_string_add_sum w _ _ (by simp [ByteArray.size]; omega)]; exact congrArg (fun b => Result.ok (Value.string b) w) (ByteArray.mk_append_mk _ [120])
            have hcat2 : ∀ w, (Op.stringOp .add ⟨(Lib.decDigits u ++ [120]).toArray⟩ ⟨(Lib.itoa (n : Int)).toArray⟩).run Tryd.prog w = .ok (.string ⟨(Lib.decDigits u ++ 120 :: Lib.itoa (n : Int)).toArray⟩) w := fun w => by
              rw [run_string_add_sum w _ _ (by simp [ByteArray.size]; omega)]
              have e := ByteArray.mk_append_mk (Lib.decDigits u ++ [120]) (Lib.itoa (n : Int))
              rw [List.append_assoc] at e
              exact congrArg (fun b => Result.ok (Value.string b) w) e
            obtain ⟨S1, hS1⟩ : ∃ x, x = Lib.decDigits u ++ 120 :: Lib.itoa (n : Int) := ⟨_, rfl⟩
            rw [← hS1] at HWO
            simp only [← hS1] at hcat2
            have HS1 := Aside0.mk hS1
            clear hS1
            go_wp2_with (first | (go_at_call 14; refine (itoa_calls (n : Int) (by omega) (by omega) _ (Aside0.mk (HT.out.to HB7.out))).mono ?_; rintro e w8 ⟨rfl, hb8⟩; have HB8 := Aside0.mk (below_step HB7.out hb8); have OWN8 := Aside0.mk (row9_below OWN7.out hb8); clear hb8) | (at_builtin; refine wpList_append_own _ rfl (.tmp 31) (.tmp 37) 52 rfl W.heap.size 9 i0 (.string ⟨#[]⟩) 1 16 Tryd.underlying52 hi hz0 hz1 hz2 rfl (by decide) (.slice a1 k c1) k (strs O) rfl (OWN8.out.alloc _) ⟨w8.heap.size, 0, none⟩ 1 1 [.string ⟨S1.toArray⟩] rfl rfl (one_new _ _ _) (by simp [Value.oneCell']) (by unfold maxLen; omega) (by omega) (by rw [World.size_alloc]; have := HB8.out.size; omega) ?_; intro v' w9 hown' hgrow _; obtain ⟨g', cap', rfl⟩ := ownsRow_succ hown'; have OWN9 := Aside0.mk hown'; have HB9 := Aside0.mk (own_below (below_alloc HB8.out _) (Nat.le_refl _) (OWN8.out.alloc _) hgrow); clear hown' hgrow))
            have OWNn := Aside0.mk (show w9.ownsRow W.heap.size 9 1 (.slice (some ⟨g', 0, none⟩) (k + 1) cap') (k + 1) (strs (O ++ wordsOf u n)) by rw [HWO.out, strs_snoc]; exact OWN9.out)
            refine ⟨⟨_, len - n, cap - n, ((u : Int) :: L').drop n, O ++ wordsOf u n, k + 1, rfl, HCUT, by omega, by omega, by omega, ⟨_, _, rfl⟩, Aside0.mk (by rw [List.length_append, HOL.out, HWO.out]; rfl), OWNn, Aside0.mk (by rw [List.append_assoc, ← HST.out]; exact HEQ.out), Aside0.mk (fun z hz => HSL.out z (List.mem_of_mem_drop hz)), HB9⟩, ?_⟩
            show len - n < len
            omega
          · have hd9 : decide ((n : Int) ≥ 3) = false := decide_eq_false (by omega)
            have hd9' : decide ((3 : Int) ≤ (n : Int)) = false := decide_eq_false (by omega)
            have HWO := Aside0.mk (show wordsOf u n = List.replicate n (Lib.decDigits u) by unfold wordsOf; rw [if_neg h3])
            obtain ⟨s1, hs1⟩ : ∃ x, x = Lib.decDigits u := ⟨_, rfl⟩
            rw [← hs1] at HWO ⊢
            clear hs1
            obtain ⟨w3, hw3⟩ : ∃ x, x = w7.alloc (.cells #[.string ⟨s1.toArray⟩] 9) := ⟨_, rfl⟩
            obtain ⟨g3, hg3⟩ : ∃ x, x = w7.heap.size := ⟨_, rfl⟩
            have hb3 : Below w7.heap.size w7 w3 := by rw [hw3]; exact below_alloc (Below.refl _ _) _
            have BK3 := Aside0.mk (show w3.heap[g3]? = some (.cells #[.string ⟨s1.toArray⟩] 9 (0, 0)) by rw [hw3, hg3]; exact blk_new _ _)
            have HBs := Aside0.mk (below_step HB7.out hb3)
            have OWNs := Aside0.mk (row9_below OWN7.out hb3)
            clear hb3
            rcases (show n = 1 ∨ n = 2 by omega) with hn' | hn'
            · have HN' := Aside0.mk hn'
              subst hn'
              go_wp2_with (first | (go_at_call 32; rw [← hw3, ← hg3]; clear hw3 hg3; refine (repeat1_calls _ g3 ⟨s1.toArray⟩ BK3).mono ?_; rintro e w8 ⟨v8, rfl, hr8, hb8⟩; obtain ⟨g8, c8, rfl⟩ := ownsRow_succ hr8; have HNEW := Aside0.mk (hr8.cells (g := g8) rfl); have HB8 := Aside0.mk (below_step HBs.out hb8); have OWN8 := Aside0.mk (row9_below OWNs.out hb8); clear hr8 hb8) | (at_builtin; refine wpList_append_own _ rfl (.tmp 39) (.tmp 43) 52 rfl W.heap.size 9 i0 (.string ⟨#[]⟩) 1 16 Tryd.underlying52 hi hz0 hz1 hz2 rfl (by decide) (.slice a1 k c1) k (strs O) rfl OWN8.out ⟨g8, 0, none⟩ 1 c8 [.string ⟨s1.toArray⟩] rfl rfl HNEW.out (by intro v hv; simp at hv; subst hv; rfl) (by unfold maxLen; omega) (by omega) HB8.out.size ?_; intro v' w9 hown' hgrow _; obtain ⟨g', cap', rfl⟩ := ownsRow_succ hown'; have OWN9 := Aside0.mk hown'; have HB9 := Aside0.mk (own_below HB8.out (Nat.le_refl _) OWN8.out hgrow); clear hown' hgrow))
              have OWNn := Aside0.mk (show w9.ownsRow W.heap.size 9 1 (.slice (some ⟨g', 0, none⟩) (k + 1) cap') (k + 1) (strs (O ++ wordsOf u 1)) by rw [HWO.out]; simpa [strs] using OWN9.out)
              refine ⟨⟨_, len - 1, cap - 1, ((u : Int) :: L').drop 1, O ++ wordsOf u 1, k + 1, rfl, HCUT, by omega, by omega, by omega, ⟨_, _, rfl⟩, Aside0.mk (by rw [List.length_append, HOL.out, HWO.out]; rfl), OWNn, Aside0.mk (by rw [List.append_assoc, ← HST.out]; exact HEQ.out), Aside0.mk (fun z hz => HSL.out z (List.mem_of_mem_drop hz)), HB9⟩, ?_⟩
              show len - 1 < len
              omega
            · have HN' := Aside0.mk hn'
              subst hn'
              go_wp2_with (first | (go_at_call 32; rw [← hw3, ← hg3]; clear hw3 hg3; refine (repeat2_calls _ g3 ⟨s1.toArray⟩ BK3).mono ?_; rintro e w8 ⟨v8, rfl, hr8, hb8⟩; obtain ⟨g8, c8, rfl⟩ := ownsRow_succ hr8; have HNEW := Aside0.mk (hr8.cells (g := g8) rfl); have HB8 := Aside0.mk (below_step HBs.out hb8); have OWN8 := Aside0.mk (row9_below OWNs.out hb8); clear hr8 hb8) | (at_builtin; refine wpList_append_own _ rfl (.tmp 39) (.tmp 43) 52 rfl W.heap.size 9 i0 (.string ⟨#[]⟩) 1 16 Tryd.underlying52 hi hz0 hz1 hz2 rfl (by decide) (.slice a1 k c1) k (strs O) rfl OWN8.out ⟨g8, 0, none⟩ 2 c8 [.string ⟨s1.toArray⟩, .string ⟨s1.toArray⟩] rfl rfl HNEW.out (by intro v hv; simp at hv; subst hv; rfl) (by unfold maxLen; omega) (by omega) HB8.out.size ?_; intro v' w9 hown' hgrow _; obtain ⟨g', cap', rfl⟩ := ownsRow_succ hown'; have OWN9 := Aside0.mk hown'; have HB9 := Aside0.mk (own_below HB8.out (Nat.le_refl _) OWN8.out hgrow); clear hown' hgrow))
              have OWNn := Aside0.mk (show w9.ownsRow W.heap.size 9 1 (.slice (some ⟨g', 0, none⟩) (k + 2) cap') (k + 2) (strs (O ++ wordsOf u 2)) by rw [HWO.out]; simpa [strs] using OWN9.out)
              refine ⟨⟨_, len - 2, cap - 2, ((u : Int) :: L').drop 2, O ++ wordsOf u 2, k + 2, rfl, HCUT, by omega, by omega, by omega, ⟨_, _, rfl⟩, Aside0.mk (by rw [List.length_append, HOL.out, HWO.out]; rfl), OWNn, Aside0.mk (by rw [List.append_assoc, ← HST.out]; exact HEQ.out), Aside0.mk (fun z hz => HSL.out z (List.mem_of_mem_drop hz)), HB9⟩, ?_⟩
              show len - 2 < len
              omega
      · have hd4 : decide ((len : Int) > 0) = false := decide_eq_false (by omega)
        have hd4' : decide ((0 : Int) < (len : Int)) = false := decide_eq_false (by omega)
        obtain rfl : len = 0 := by omega
        go_wp2
        (try rw [Exit.noGoto_ret])
        go_ret
        have hL0 : L = [] := List.length_eq_zero_iff.1 HIL.out.1
        have hE := HEQ.out
        rw [hL0] at hE
        have hO : O = dataR T := by rw [← hE]; simp [dataP, dataF]
        exact ⟨_, rfl, by rw [← hO, HOL.out]; exact OWN.out, HB.out⟩
end Go.Proofs.YtacjlkjdmhlbaaaDoor.Gr
