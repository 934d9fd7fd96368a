/- Parts of one proof, set together: Ap6. What each says stands at its head; no condition beyond theirs. -/
import Derived.Test.YtekggbmajemmhaaDb18
import Derived.Lib.SliceRun
/- Apply: slices.Clone; pointed, written. Conditions: the lists lie in memory; at most 300. -/
namespace Go.Proofs.Ytekggbmajemmhaa.Gr
open Go.RowKit Go.Shelf Go.Maps Go.ChangeMaps Go.MapKept Go.Proofs.YtekggbmajemmhaaW.PrintWords Go.Proofs.YtekggbmajemmhaaW.PrintLast Go.Proofs.YtekggbmajemmhaaW.PrintMore
set_option linter.unusedSimpArgs false
set_option linter.unusedVariables false
/-- What a turned list, or none, is. -/
def ChgOut (k : IntKind) (r : Option (List Int)) (w : World) (e : Ending) (W' : World) : Prop := ∃ (a : Option Addr) (n c : Nat) (b : Bool), e = .returned (.tuple #[.slice a n c, .bool b]) ∧ ((r = none ∧ b = false) ∨ ∃ l', r = some l' ∧ b = true ∧ IL k W' W'.heap.size a n l' ∧ ∀ y, a = some y → w.heap.size ≤ y.block) ∧ Below w.heap.size w W'
theorem row1_some {W : World} {X e n : Nat} {v : Value} {xs : List Value} (hn : 0 < n) (h : W.ownsRow X e 1 v n xs) : ∃ g cap, v = .slice (some ⟨g, 0, none⟩) n cap := by
  rcases h.2 with ⟨_, h0⟩ | ⟨g, cap, cur, rfl, _⟩
  · omega
  · exact ⟨g, cap, rfl⟩
set_option maxHeartbeats 4000000 in
set_option maxRecDepth 100000 in
theorem clone17_calls (w : World) (a : Option Addr) (n c : Nat) (l : List Int) (HL : Aside0 (IL .i64 w w.heap.size a n l)) (hn : n ≤ 300) : Calls Try.prog 17 #[.slice a n c] w fun e W' => ∃ v, e = .returned v ∧ W'.ownsRow w.heap.size 3 1 v n (l.map (Value.int .i64)) ∧ Below w.heap.size w W' := by
  obtain ⟨i0, hi, hz0, hz1, hz2⟩ := info_parts info3
  have q22 : ∀ (w : World) (a : Option Addr) (n c n' c' : Nat), (binOp .eql 22 (.slice a n c) (.slice none n' c')).run Try.prog w = .ok (.bool a.isNone) w := fun w a n c n' c' => Lib.run_eql_slice_nil w _ _ a n c n' c' Try.underlying22
  cases a with
  | none =>
    obtain rfl : n = 0 := by
      rcases Nat.eq_zero_or_pos n with h | h
      · exact h
      · obtain ⟨y, e, _⟩ := HL.out.2 0 h
        cases e
    obtain rfl := List.length_eq_zero_iff.1 HL.out.1
    go_enter Try.func17, Try.ntmps17
    go_wp2
    go_ret
    exact ⟨_, rfl, World.ownsRow_nil _ _ _ _, Below.refl _ _⟩
  | some ad =>
    go_enter Try.func17, Try.ntmps17
    go_wp2_with (at_builtin; refine wpList_append_il rfl (.tmp 5) (.tmp 6) 22 rfl .i64 w.heap.size w.heap.size 3 i0 (.int .i64 0) 8 Try.underlying22 hi hz0 hz1 hz2 rfl (.slice (some ⟨w.heap.size, 0, none⟩) 0 0) 0 [] rfl (row_empty (blk_new w (.cells #[] 3)) (Nat.le_refl _)) (some ad) n c l rfl (HL.out.kept fun k hk => Below.heap_alloc w _ k hk) (by unfold maxLen; omega) (by omega) (by rw [World.size_alloc]; omega) ?_; rw [Nat.zero_add, List.nil_append]; intro v' w1 hown' hg1; have OWN := Aside0.mk hown'; have HB1 := Aside0.mk (own_below (below_alloc (Below.refl w.heap.size w) (.cells #[] 3)) (Nat.le_refl _) (row_empty (s := 1) (blk_new w (.cells #[] 3)) (Nat.le_refl _)) hg1); clear hown' hg1)
    go_ret
    exact ⟨_, rfl, OWN.out, HB1.out⟩
set_option maxHeartbeats 4000000 in
set_option maxRecDepth 100000 in
theorem clone55_calls (w : World) (a : Option Addr) (n c : Nat) (l : List Int) (HL : Aside0 (IL .u64 w w.heap.size a n l)) (hn : n ≤ 300) : Calls Try.prog 55 #[.slice a n c] w fun e W' => ∃ v, e = .returned v ∧ W'.ownsRow w.heap.size 42 1 v n (l.map (Value.int .u64)) ∧ Below w.heap.size w W' := by
  obtain ⟨i0, hi, hz0, hz1, hz2⟩ := info_parts info42
  have q22 : ∀ (w : World) (a : Option Addr) (n c n' c' : Nat), (binOp .eql 38 (.slice a n c) (.slice none n' c')).run Try.prog w = .ok (.bool a.isNone) w := fun w a n c n' c' => Lib.run_eql_slice_nil w _ _ a n c n' c' Try.underlying38
  cases a with
  | none =>
    obtain rfl : n = 0 := by
      rcases Nat.eq_zero_or_pos n with h | h
      · exact h
      · obtain ⟨y, e, _⟩ := HL.out.2 0 h
        cases e
    obtain rfl := List.length_eq_zero_iff.1 HL.out.1
    go_enter Try.func55, Try.ntmps55
    go_wp2
    go_ret
    exact ⟨_, rfl, World.ownsRow_nil _ _ _ _, Below.refl _ _⟩
  | some ad =>
    go_enter Try.func55, Try.ntmps55
    go_wp2_with (at_builtin; refine wpList_append_il rfl (.tmp 5) (.tmp 6) 38 rfl .u64 w.heap.size w.heap.size 42 i0 (.int .u64 0) 8 Try.underlying38 hi hz0 hz1 hz2 rfl (.slice (some ⟨w.heap.size, 0, none⟩) 0 0) 0 [] rfl (row_empty (blk_new w (.cells #[] 42)) (Nat.le_refl _)) (some ad) n c l rfl (HL.out.kept fun k hk => Below.heap_alloc w _ k hk) (by unfold maxLen; omega) (by omega) (by rw [World.size_alloc]; omega) ?_; rw [Nat.zero_add, List.nil_append]; intro v' w1 hown' hg1; have OWN := Aside0.mk hown'; have HB1 := Aside0.mk (own_below (below_alloc (Below.refl w.heap.size w) (.cells #[] 42)) (Nat.le_refl _) (row_empty (s := 1) (blk_new w (.cells #[] 42)) (Nat.le_refl _)) hg1); clear hown' hg1)
    go_ret
    exact ⟨_, rfl, OWN.out, HB1.out⟩
def c18.T1 : Bool × List (List Nat × List Nat) := (true, [([], []), ([0], [0]), ([1], [1]), ([2], [2]), ([3], [3]), ([4, 3], [3, 4]), ([3], [3]), ([6, 3], [3, 6]), ([5, 7, 3], [3, 5, 7]), ([3, 8], [3, 8]), ([9, 3], [9]), ([10], [10]), ([10], [10]), ([12, 10], [10, 12]), ([11, 13, 10], [10, 11, 13]), ([14, 10], [10, 14]), ([15, 10], [10, 15]), ([10], [10]), ([17, 10], [10, 17]), ([16, 18, 10], [10, 16, 18]), ([10, 19], [10, 19])])
def c18.B1 : List Nat := [0, 1, 3, 7, 15, 31, 15, 79, 255, 511, 1023, 2047, 2047, 6143, 16383, 32767, 65535, 2047, 133119, 524287, 1048575]
theorem c18.tab1 : rtab .any (opsOf Try.f18 1) = c18.T1 := by kernel_rfl
theorem c18.bits1 : waitsOk c18.T1.2 c18.B1 = true := by kernel_rfl
set_option maxHeartbeats 8000000 in
set_option maxRecDepth 100000 in
theorem pointed_calls (w : World) (A0 : Option Addr) (n c : Nat) (l : List Int) (HL : Aside0 (IL .i64 w w.heap.size A0 n l)) (hn : n ≤ 300) (ck ca ci cw cs : Int) (hcs : (Lit.int .u64 cs).wf = true) : Calls Try.prog 18 #[.slice A0 n c, .agg #[.int .i64 ck, .int .i64 ca, .int .i64 ci, .int .u64 cw, .int .u64 cs]] w fun e W' => ChgOut .i64 (chgS l (⟨ck, ca, ci, cw, cs⟩ : Ch)) w e W' := by
  have hll := HL.out.1
  have HB := Aside0.mk (Below.refl w.heap.size w)
  by_cases h1 : ci < 0
  · have hd1 : decide (ci < 0) = true := decide_eq_true h1
    have HNO := Aside0.mk (show chgS l (⟨ck, ca, ci, cw, cs⟩ : Ch) = none from if_neg (fun h => by have := h.1; simp only at this; omega))
    go_enter Try.func18, Try.ntmps18
    go_upto_region 1 with ((with_reducible refine gate_dst (N := 3) rfl ?_); refine box_event ?hg (N := 3) ?hd (cs := #[.int .i64 ck, .int .i64 ca, .int .i64 ci, .int .u64 cw, .int .u64 cs]) (t := 44) ?hr ?_; (case hd => rfl); (case hg => rfl); (case hr => first | (go_simp; done) | (go_simp; rfl)); intro g3 hg w1_ hbox hb; have n0_ := Aside0.mk (below_step (by repeat (first | (with_reducible first | exact HB.out | apply below_alloc | apply pw_below_drewN | apply below_drew1) | exact HB.out)) hb); have n1_ := Aside0.mk hbox; have n2_ := Aside0.mk ((by rw [hg]; exact (below_size (by repeat (first | (with_reducible first | exact HB.out | apply below_alloc | apply pw_below_drewN | apply below_drew1) | exact HB.out)))) : w.heap.size ≤ g3); clear HB; have HB := n0_; have BK3 := n1_; have GE3 := n2_; clear n0_ n1_ n2_; clear hb hbox hg)
    have HR := Aside0.mk (Below.refl w1_.heap.size w1_)
    refine start_ (n := 21) (S := fun w' => True) (ds := []) #[false, false, false, false, false, false, false, false, false, false, false, false, false, false, false, false, false, false, false, false, false] (by kernel_rfl) rfl rfl trivial (fun hHeld => ?_)
    refine with_tabW c18.tab1 c18.bits1 (fun HT_ HW_ => ?_)
    refine inv_at [0, 1, 2, 3, 4, 5, 6, 7, 8, 9, 10, 11, 12, 13, 14, 15, 16, 17, 18, 19, 20] (fun a0_ b a w' => a = putSel a0_ b [(0, 7, .pointer (some ⟨g3, 2, none⟩)), (1, 8, .int .i64 ci), (2, 9, .bool true), (3, 10, .bool true), (4, 11, undef), (5, 12, undef), (6, 13, undef), (7, 14, undef), (8, 15, undef), (9, 16, .bool true), (10, 17, .bool true), (11, 18, undef), (12, 19, undef), (13, 20, undef), (14, 21, undef), (15, 22, undef), (16, 23, undef), (17, 24, undef), (18, 25, undef), (19, 26, undef), (20, 27, .bool true)] ∧ (Below w1_.heap.size w1_ w')) HT_.out HW_.out (by kernel_rfl) (by kernel_rfl) ?_ ?_ ?_
    · exact ⟨by simp only [putSel, Bool.false_eq_true, if_false], below_drew1 HR.out⟩
    · skip
      clear HR
      refine steps_cons ?_ ?_
      · rintro b a w' ⟨ha, Q_HR⟩ hb_ hon hoff
        refine ⟨_, rfl, fun K hK => ?_⟩
        have e3 : a.tmps[3]? = some (.pointer (some ⟨g3, 0, none⟩)) := by rw [ha]; exact (putSel_off rfl).trans rfl
        replace ha := Aside0.mk ha
        have HR := Aside0.mk Q_HR
        refine value_ (w1 := w') (v := .pointer (some ⟨g3, 2, none⟩)) (by rfl) rfl ?_ ?_
        · go_simp
          (try simp only [i64_w])
          try rfl
        refine hK.out _ _ ⟨(by rw [ha.out]; exact putSel_upk 0 hb_ rfl rfl rfl), Q_HR⟩
      refine steps_cons ?_ ?_
      · rintro b a w' ⟨ha, Q_HR⟩ hb_ hon hoff
        refine ⟨_, rfl, fun K hK => ?_⟩
        have e7 : a.tmps[7]? = some (.pointer (some ⟨g3, 2, none⟩)) := by rw [ha]; exact putSel_on (e := (0, 7, .pointer (some ⟨g3, 2, none⟩))) 0 rfl rfl (hon 0 (by kernel_rfl)) rfl
        replace ha := Aside0.mk ha
        have HR := Aside0.mk Q_HR
        have hl8 : w'.cell? ⟨g3, 2, none⟩ = some (.int .i64 ci) := (blk_cell (blk_below BK3.out HR.out) 2).trans rfl
        refine value_ (w1 := w') (v := .int .i64 ci) (by rfl) rfl ?_ ?_
        · go_simp
          (try simp only [i64_w])
          try rfl
        refine hK.out _ _ ⟨(by rw [ha.out]; exact putSel_upk 1 hb_ rfl rfl rfl), Q_HR⟩
      refine steps_cons ?_ ?_
      · rintro b a w' ⟨ha, Q_HR⟩ hb_ hon hoff
        refine ⟨_, rfl, fun K hK => ?_⟩
        have e8 : a.tmps[8]? = some (.int .i64 ci) := by rw [ha]; exact putSel_on (e := (1, 8, .int .i64 ci)) 1 rfl rfl (hon 1 (by kernel_rfl)) rfl
        replace ha := Aside0.mk ha
        have HR := Aside0.mk Q_HR
        refine value_ (w1 := w') (v := .bool true) (by rfl) rfl ?_ ?_
        · go_simp
          (try simp only [i64_w])
          try rfl
        refine hK.out _ _ ⟨(by rw [ha.out]; exact putSel_upk 2 hb_ rfl rfl rfl), Q_HR⟩
      refine steps_cons ?_ ?_
      · rintro b a w' ⟨ha, Q_HR⟩ hb_ hon hoff
        refine ⟨_, rfl, fun K hK => ?_⟩
        have e9 : a.tmps[9]? = some (.bool true) := by rw [ha]; exact putSel_on (e := (2, 9, .bool true)) 2 rfl rfl (hon 2 (by kernel_rfl)) rfl
        replace ha := Aside0.mk ha
        have HR := Aside0.mk Q_HR
        refine value_ (w1 := w') (v := .bool true) (by rfl) rfl ?_ ?_
        · go_simp
          (try simp only [i64_w])
          try rfl
        refine hK.out _ _ ⟨(by rw [ha.out]; exact putSel_upk 3 hb_ rfl rfl rfl), Q_HR⟩
      refine steps_cons ?_ ?_
      · rintro b a w' ⟨ha, Q_HR⟩ hb_ hon hoff
        refine ⟨_, rfl, fun K hK => ?_⟩
        have e10 : a.tmps[10]? = some (.bool true) := by rw [ha]; exact putSel_on (e := (3, 10, .bool true)) 3 rfl rfl (hon 3 (by kernel_rfl)) rfl
        replace ha := Aside0.mk ha
        have HR := Aside0.mk Q_HR
        refine off_ (wanted_off rfl rfl rfl (e10.trans (by first | rfl | (simp [*]; done)))) ?_
        refine hK.out _ _ ⟨(by rw [ha.out]; exact putSel_upk 4 hb_ rfl rfl rfl), Q_HR⟩
      refine steps_cons ?_ ?_
      · rintro b a w' ⟨ha, Q_HR⟩ hb_ hon hoff
        refine ⟨_, rfl, fun K hK => ?_⟩
        have e10 : a.tmps[10]? = some (.bool true) := by rw [ha]; exact putSel_on (e := (3, 10, .bool true)) 3 rfl rfl (hon 3 (by kernel_rfl)) rfl
        replace ha := Aside0.mk ha
        have HR := Aside0.mk Q_HR
        refine off_ (wanted_off rfl rfl rfl (e10.trans (by first | rfl | (simp [*]; done)))) ?_
        refine hK.out _ _ ⟨(by rw [ha.out]; exact putSel_upk 5 hb_ rfl rfl rfl), Q_HR⟩
      refine steps_cons ?_ ?_
      · rintro b a w' ⟨ha, Q_HR⟩ hb_ hon hoff
        refine ⟨_, rfl, fun K hK => ?_⟩
        have e10 : a.tmps[10]? = some (.bool true) := by rw [ha]; exact putSel_on (e := (3, 10, .bool true)) 3 rfl rfl (hon 3 (by kernel_rfl)) rfl
        replace ha := Aside0.mk ha
        have HR := Aside0.mk Q_HR
        refine off_ (wanted_off rfl rfl rfl (e10.trans (by first | rfl | (simp [*]; done)))) ?_
        refine hK.out _ _ ⟨(by rw [ha.out]; exact putSel_upk 6 hb_ rfl rfl rfl), Q_HR⟩
      refine steps_cons ?_ ?_
      · rintro b a w' ⟨ha, Q_HR⟩ hb_ hon hoff
        refine ⟨_, rfl, fun K hK => ?_⟩
        have e10 : a.tmps[10]? = some (.bool true) := by rw [ha]; exact putSel_on (e := (3, 10, .bool true)) 3 rfl rfl (hon 3 (by kernel_rfl)) rfl
        replace ha := Aside0.mk ha
        have HR := Aside0.mk Q_HR
        refine off_ (wanted_off rfl rfl rfl (e10.trans (by first | rfl | (simp [*]; done)))) ?_
        refine hK.out _ _ ⟨(by rw [ha.out]; exact putSel_upk 7 hb_ rfl rfl rfl), Q_HR⟩
      refine steps_cons ?_ ?_
      · rintro b a w' ⟨ha, Q_HR⟩ hb_ hon hoff
        refine ⟨_, rfl, fun K hK => ?_⟩
        have e10 : a.tmps[10]? = some (.bool true) := by rw [ha]; exact putSel_on (e := (3, 10, .bool true)) 3 rfl rfl (hon 3 (by kernel_rfl)) rfl
        replace ha := Aside0.mk ha
        have HR := Aside0.mk Q_HR
        refine off_ (wanted_off rfl rfl rfl (e10.trans (by first | rfl | (simp [*]; done)))) ?_
        refine hK.out _ _ ⟨(by rw [ha.out]; exact putSel_upk 8 hb_ rfl rfl rfl), Q_HR⟩
      refine steps_cons ?_ ?_
      · rintro b a w' ⟨ha, Q_HR⟩ hb_ hon hoff
        refine ⟨_, rfl, fun K hK => ?_⟩
        have e10 : a.tmps[10]? = some (.bool true) := by rw [ha]; exact putSel_on (e := (3, 10, .bool true)) 3 rfl rfl (hon 3 (by kernel_rfl)) rfl
        have e15 : a.tmps[15]? = some (undef) := by rw [ha]; exact putSel_on (e := (8, 15, undef)) 8 rfl rfl (hon 8 (by kernel_rfl)) rfl
        replace ha := Aside0.mk ha
        have HR := Aside0.mk Q_HR
        refine value_ (w1 := w') (v := .bool true) (by rfl) rfl ?_ ?_
        · go_simp
          (try simp only [i64_w])
          try rfl
        refine hK.out _ _ ⟨(by rw [ha.out]; exact putSel_upk 9 hb_ rfl rfl rfl), Q_HR⟩
      refine steps_cons ?_ ?_
      · rintro b a w' ⟨ha, Q_HR⟩ hb_ hon hoff
        refine ⟨_, rfl, fun K hK => ?_⟩
        have e16 : a.tmps[16]? = some (.bool true) := by rw [ha]; exact putSel_on (e := (9, 16, .bool true)) 9 rfl rfl (hon 9 (by kernel_rfl)) rfl
        replace ha := Aside0.mk ha
        have HR := Aside0.mk Q_HR
        refine value_ (w1 := w') (v := .bool true) (by rfl) rfl ?_ ?_
        · go_simp
          (try simp only [i64_w])
          try rfl
        refine hK.out _ _ ⟨(by rw [ha.out]; exact putSel_upk 10 hb_ rfl rfl rfl), Q_HR⟩
      refine steps_cons ?_ ?_
      · rintro b a w' ⟨ha, Q_HR⟩ hb_ hon hoff
        refine ⟨_, rfl, fun K hK => ?_⟩
        have e17 : a.tmps[17]? = some (.bool true) := by rw [ha]; exact putSel_on (e := (10, 17, .bool true)) 10 rfl rfl (hon 10 (by kernel_rfl)) rfl
        replace ha := Aside0.mk ha
        have HR := Aside0.mk Q_HR
        refine off_ (wanted_off rfl rfl rfl (e17.trans (by first | rfl | (simp [*]; done)))) ?_
        refine hK.out _ _ ⟨(by rw [ha.out]; exact putSel_upk 11 hb_ rfl rfl rfl), Q_HR⟩
      refine steps_cons ?_ ?_
      · rintro b a w' ⟨ha, Q_HR⟩ hb_ hon hoff
        refine ⟨_, rfl, fun K hK => ?_⟩
        have e17 : a.tmps[17]? = some (.bool true) := by rw [ha]; exact putSel_on (e := (10, 17, .bool true)) 10 rfl rfl (hon 10 (by kernel_rfl)) rfl
        replace ha := Aside0.mk ha
        have HR := Aside0.mk Q_HR
        refine off_ (wanted_off rfl rfl rfl (e17.trans (by first | rfl | (simp [*]; done)))) ?_
        refine hK.out _ _ ⟨(by rw [ha.out]; exact putSel_upk 12 hb_ rfl rfl rfl), Q_HR⟩
      refine steps_cons ?_ ?_
      · rintro b a w' ⟨ha, Q_HR⟩ hb_ hon hoff
        refine ⟨_, rfl, fun K hK => ?_⟩
        have e17 : a.tmps[17]? = some (.bool true) := by rw [ha]; exact putSel_on (e := (10, 17, .bool true)) 10 rfl rfl (hon 10 (by kernel_rfl)) rfl
        replace ha := Aside0.mk ha
        have HR := Aside0.mk Q_HR
        refine off_ (wanted_off rfl rfl rfl (e17.trans (by first | rfl | (simp [*]; done)))) ?_
        refine hK.out _ _ ⟨(by rw [ha.out]; exact putSel_upk 13 hb_ rfl rfl rfl), Q_HR⟩
      refine steps_cons ?_ ?_
      · rintro b a w' ⟨ha, Q_HR⟩ hb_ hon hoff
        refine ⟨_, rfl, fun K hK => ?_⟩
        have e17 : a.tmps[17]? = some (.bool true) := by rw [ha]; exact putSel_on (e := (10, 17, .bool true)) 10 rfl rfl (hon 10 (by kernel_rfl)) rfl
        replace ha := Aside0.mk ha
        have HR := Aside0.mk Q_HR
        refine off_ (wanted_off rfl rfl rfl (e17.trans (by first | rfl | (simp [*]; done)))) ?_
        refine hK.out _ _ ⟨(by rw [ha.out]; exact putSel_upk 14 hb_ rfl rfl rfl), Q_HR⟩
      refine steps_cons ?_ ?_
      · rintro b a w' ⟨ha, Q_HR⟩ hb_ hon hoff
        refine ⟨_, rfl, fun K hK => ?_⟩
        have e17 : a.tmps[17]? = some (.bool true) := by rw [ha]; exact putSel_on (e := (10, 17, .bool true)) 10 rfl rfl (hon 10 (by kernel_rfl)) rfl
        replace ha := Aside0.mk ha
        have HR := Aside0.mk Q_HR
        refine off_ (wanted_off rfl rfl rfl (e17.trans (by first | rfl | (simp [*]; done)))) ?_
        refine hK.out _ _ ⟨(by rw [ha.out]; exact putSel_upk 15 hb_ rfl rfl rfl), Q_HR⟩
      refine steps_cons ?_ ?_
      · rintro b a w' ⟨ha, Q_HR⟩ hb_ hon hoff
        refine ⟨_, rfl, fun K hK => ?_⟩
        have e17 : a.tmps[17]? = some (.bool true) := by rw [ha]; exact putSel_on (e := (10, 17, .bool true)) 10 rfl rfl (hon 10 (by kernel_rfl)) rfl
        replace ha := Aside0.mk ha
        have HR := Aside0.mk Q_HR
        refine off_ (wanted_off rfl rfl rfl (e17.trans (by first | rfl | (simp [*]; done)))) ?_
        refine hK.out _ _ ⟨(by rw [ha.out]; exact putSel_upk 16 hb_ rfl rfl rfl), Q_HR⟩
      refine steps_cons ?_ ?_
      · rintro b a w' ⟨ha, Q_HR⟩ hb_ hon hoff
        refine ⟨_, rfl, fun K hK => ?_⟩
        have e17 : a.tmps[17]? = some (.bool true) := by rw [ha]; exact putSel_on (e := (10, 17, .bool true)) 10 rfl rfl (hon 10 (by kernel_rfl)) rfl
        replace ha := Aside0.mk ha
        have HR := Aside0.mk Q_HR
        refine off_ (wanted_off rfl rfl rfl (e17.trans (by first | rfl | (simp [*]; done)))) ?_
        refine hK.out _ _ ⟨(by rw [ha.out]; exact putSel_upk 17 hb_ rfl rfl rfl), Q_HR⟩
      refine steps_cons ?_ ?_
      · rintro b a w' ⟨ha, Q_HR⟩ hb_ hon hoff
        refine ⟨_, rfl, fun K hK => ?_⟩
        have e17 : a.tmps[17]? = some (.bool true) := by rw [ha]; exact putSel_on (e := (10, 17, .bool true)) 10 rfl rfl (hon 10 (by kernel_rfl)) rfl
        replace ha := Aside0.mk ha
        have HR := Aside0.mk Q_HR
        refine off_ (wanted_off rfl rfl rfl (e17.trans (by first | rfl | (simp [*]; done)))) ?_
        refine hK.out _ _ ⟨(by rw [ha.out]; exact putSel_upk 18 hb_ rfl rfl rfl), Q_HR⟩
      refine steps_cons ?_ ?_
      · rintro b a w' ⟨ha, Q_HR⟩ hb_ hon hoff
        refine ⟨_, rfl, fun K hK => ?_⟩
        have e17 : a.tmps[17]? = some (.bool true) := by rw [ha]; exact putSel_on (e := (10, 17, .bool true)) 10 rfl rfl (hon 10 (by kernel_rfl)) rfl
        replace ha := Aside0.mk ha
        have HR := Aside0.mk Q_HR
        refine off_ (wanted_off rfl rfl rfl (e17.trans (by first | rfl | (simp [*]; done)))) ?_
        refine hK.out _ _ ⟨(by rw [ha.out]; exact putSel_upk 19 hb_ rfl rfl rfl), Q_HR⟩
      refine steps_cons ?_ ?_
      · rintro b a w' ⟨ha, Q_HR⟩ hb_ hon hoff
        refine ⟨_, rfl, fun K hK => ?_⟩
        have e17 : a.tmps[17]? = some (.bool true) := by rw [ha]; exact putSel_on (e := (10, 17, .bool true)) 10 rfl rfl (hon 10 (by kernel_rfl)) rfl
        have e26 : a.tmps[26]? = some (undef) := by rw [ha]; exact putSel_on (e := (19, 26, undef)) 19 rfl rfl (hon 19 (by kernel_rfl)) rfl
        replace ha := Aside0.mk ha
        have HR := Aside0.mk Q_HR
        refine value_ (w1 := w') (v := .bool true) (by rfl) rfl ?_ ?_
        · go_simp
          (try simp only [i64_w])
          try rfl
        refine hK.out _ _ ⟨(by rw [ha.out]; exact putSel_upk 20 hb_ rfl rfl rfl), Q_HR⟩
      exact steps_nil
    rintro b a wq hall ⟨ha, Q_HR⟩
    clear HR
    have hb0_ := hall 0 (by kernel_rfl)
    have hb1_ := hall 1 (by kernel_rfl)
    have hb2_ := hall 2 (by kernel_rfl)
    have hb3_ := hall 3 (by kernel_rfl)
    have hb4_ := hall 4 (by kernel_rfl)
    have hb5_ := hall 5 (by kernel_rfl)
    have hb6_ := hall 6 (by kernel_rfl)
    have hb7_ := hall 7 (by kernel_rfl)
    have hb8_ := hall 8 (by kernel_rfl)
    have hb9_ := hall 9 (by kernel_rfl)
    have hb10_ := hall 10 (by kernel_rfl)
    have hb11_ := hall 11 (by kernel_rfl)
    have hb12_ := hall 12 (by kernel_rfl)
    have hb13_ := hall 13 (by kernel_rfl)
    have hb14_ := hall 14 (by kernel_rfl)
    have hb15_ := hall 15 (by kernel_rfl)
    have hb16_ := hall 16 (by kernel_rfl)
    have hb17_ := hall 17 (by kernel_rfl)
    have hb18_ := hall 18 (by kernel_rfl)
    have hb19_ := hall 19 (by kernel_rfl)
    have hb20_ := hall 20 (by kernel_rfl)
    subst ha
    simp only [putSel, hb0_, hb1_, hb2_, hb3_, hb4_, hb5_, hb6_, hb7_, hb8_, hb9_, hb10_, hb11_, hb12_, hb13_, hb14_, hb15_, hb16_, hb17_, hb18_, hb19_, hb20_, if_true, Act.put, List.setIfInBounds_toArray, List.set_cons_zero, List.set_cons_succ]
    have HR := Aside0.mk Q_HR
    clear Q_HR
    clear hall hb0_ hb1_ hb2_ hb3_ hb4_ hb5_ hb6_ hb7_ hb8_ hb9_ hb10_ hb11_ hb12_ hb13_ hb14_ hb15_ hb16_ hb17_ hb18_ hb19_ hb20_
    go_wp2
    go_ret2
    exact ⟨none, 0, 0, false, rfl, .inl ⟨HNO.out, rfl⟩, below_step HB.out HR.out⟩
  · have hd1 : decide (ci < 0) = false := decide_eq_false h1
    by_cases h2 : ci < (n : Int)
    · obtain ⟨k, rfl⟩ : ∃ k : Nat, ci = (k : Int) := ⟨ci.toNat, by omega⟩
      have hkn : k < n := by omega
      have hkl : k < l.length := by omega
      obtain ⟨y, e, hyb, hyc⟩ := HL.out.2 k hkn
      subst e
      obtain ⟨x, hx⟩ : ∃ x, x = l.getD k 0 := ⟨_, rfl⟩
      rw [← hx] at hyc
      have hi0 : (0 : Int) ≤ (k : Int) := by omega
      have hi1 : (k : Int) < (n : Int) := by omega
      have hd2 : decide ((k : Int) ≥ (n : Int)) = false := decide_eq_false (by omega)
      have hd2' : decide ((n : Int) ≤ (k : Int)) = false := decide_eq_false (by omega)
      obtain ⟨bb, hbb⟩ : ∃ b, ((IntKind.u64.wrap x) != cw) = b := ⟨_, rfl⟩
      have HBB := Aside0.mk hbb
      have HX := Aside0.mk hx
      clear hx
      go_enter Try.func18, Try.ntmps18
      go_upto_region 1 with ((with_reducible refine gate_dst (N := 3) rfl ?_); refine box_event ?hg (N := 3) ?hd (cs := #[.int .i64 ck, .int .i64 ca, .int .i64 (k : Int), .int .u64 cw, .int .u64 cs]) (t := 44) ?hr ?_; (case hd => rfl); (case hg => rfl); (case hr => first | (go_simp; done) | (go_simp; rfl)); intro g3 hg w1_ hbox hb; have n0_ := Aside0.mk (below_step (by repeat (first | (with_reducible first | exact HB.out | apply below_alloc | apply pw_below_drewN | apply below_drew1) | exact HB.out)) hb); have n1_ := Aside0.mk hbox; have n2_ := Aside0.mk ((by rw [hg]; exact (below_size (by repeat (first | (with_reducible first | exact HB.out | apply below_alloc | apply pw_below_drewN | apply below_drew1) | exact HB.out)))) : w.heap.size ≤ g3); clear HB; have HB := n0_; have BK3 := n1_; have GE3 := n2_; clear n0_ n1_ n2_; clear hb hbox hg)
      have hyc1 : w1_.cell? (y.add k) = some (.int .i64 x) := (HB.out.cell (p := y.add k) (cell_lt hyc)).trans hyc
      clear hyc
      have hyc := hyc1
      clear hyc1
      have HR := Aside0.mk (Below.refl w1_.heap.size w1_)
      refine start_ (n := 21) (S := fun w' => True) (ds := []) #[false, false, false, false, false, false, false, false, false, false, false, false, false, false, false, false, false, false, false, false, false] (by kernel_rfl) rfl rfl trivial (fun hHeld => ?_)
      refine with_tabW c18.tab1 c18.bits1 (fun HT_ HW_ => ?_)
      refine inv_at [0, 1, 2, 3, 4, 5, 6, 7, 8, 9, 10, 11, 12, 13, 14, 15, 16, 17, 18, 19, 20] (fun a0_ b a w' => a = putSel a0_ b [(0, 7, .pointer (some ⟨g3, 2, none⟩)), (1, 8, .int .i64 (k : Int)), (2, 9, .bool false), (3, 10, .bool false), (4, 11, .pointer (some ⟨g3, 2, none⟩)), (5, 12, .int .i64 (k : Int)), (6, 13, .slice (some y) n c), (7, 14, .int .i64 (n : Int)), (8, 15, .bool false), (9, 16, .bool false), (10, 17, .bool false), (11, 18, .slice (some y) n c), (12, 19, .pointer (some ⟨g3, 2, none⟩)), (13, 20, .int .i64 (k : Int)), (14, 21, .pointer (some (y.add k))), (15, 22, .int .i64 x), (16, 23, .int .u64 (IntKind.u64.wrap x)), (17, 24, .pointer (some ⟨g3, 3, none⟩)), (18, 25, .int .u64 cw), (19, 26, .bool bb), (20, 27, .bool bb)] ∧ (Below w1_.heap.size w1_ w')) HT_.out HW_.out (by kernel_rfl) (by kernel_rfl) ?_ ?_ ?_
      · exact ⟨by simp only [putSel, Bool.false_eq_true, if_false], below_drew1 HR.out⟩
      · skip
        clear HR
        refine steps_cons ?_ ?_
        · rintro b a w' ⟨ha, Q_HR⟩ hb_ hon hoff
          refine ⟨_, rfl, fun K hK => ?_⟩
          have e3 : a.tmps[3]? = some (.pointer (some ⟨g3, 0, none⟩)) := by rw [ha]; exact (putSel_off rfl).trans rfl
          replace ha := Aside0.mk ha
          have HR := Aside0.mk Q_HR
          refine value_ (w1 := w') (v := .pointer (some ⟨g3, 2, none⟩)) (by rfl) rfl ?_ ?_
          · go_simp
            (try simp only [i64_w])
            try rfl
          refine hK.out _ _ ⟨(by rw [ha.out]; exact putSel_upk 0 hb_ rfl rfl rfl), Q_HR⟩
        refine steps_cons ?_ ?_
        · rintro b a w' ⟨ha, Q_HR⟩ hb_ hon hoff
          refine ⟨_, rfl, fun K hK => ?_⟩
          have e7 : a.tmps[7]? = some (.pointer (some ⟨g3, 2, none⟩)) := by rw [ha]; exact putSel_on (e := (0, 7, .pointer (some ⟨g3, 2, none⟩))) 0 rfl rfl (hon 0 (by kernel_rfl)) rfl
          replace ha := Aside0.mk ha
          have HR := Aside0.mk Q_HR
          have hl8 : w'.cell? ⟨g3, 2, none⟩ = some (.int .i64 (k : Int)) := (blk_cell (blk_below BK3.out HR.out) 2).trans rfl
          refine value_ (w1 := w') (v := .int .i64 (k : Int)) (by rfl) rfl ?_ ?_
          · go_simp
            (try simp only [i64_w])
            try rfl
          refine hK.out _ _ ⟨(by rw [ha.out]; exact putSel_upk 1 hb_ rfl rfl rfl), Q_HR⟩
        refine steps_cons ?_ ?_
        · rintro b a w' ⟨ha, Q_HR⟩ hb_ hon hoff
          refine ⟨_, rfl, fun K hK => ?_⟩
          have e8 : a.tmps[8]? = some (.int .i64 (k : Int)) := by rw [ha]; exact putSel_on (e := (1, 8, .int .i64 (k : Int))) 1 rfl rfl (hon 1 (by kernel_rfl)) rfl
          replace ha := Aside0.mk ha
          have HR := Aside0.mk Q_HR
          refine value_ (w1 := w') (v := .bool false) (by rfl) rfl ?_ ?_
          · go_simp
            (try simp only [i64_w])
            try rfl
          refine hK.out _ _ ⟨(by rw [ha.out]; exact putSel_upk 2 hb_ rfl rfl rfl), Q_HR⟩
        refine steps_cons ?_ ?_
        · rintro b a w' ⟨ha, Q_HR⟩ hb_ hon hoff
          refine ⟨_, rfl, fun K hK => ?_⟩
          have e9 : a.tmps[9]? = some (.bool false) := by rw [ha]; exact putSel_on (e := (2, 9, .bool false)) 2 rfl rfl (hon 2 (by kernel_rfl)) rfl
          replace ha := Aside0.mk ha
          have HR := Aside0.mk Q_HR
          refine value_ (w1 := w') (v := .bool false) (by rfl) rfl ?_ ?_
          · go_simp
            (try simp only [i64_w])
            try rfl
          refine hK.out _ _ ⟨(by rw [ha.out]; exact putSel_upk 3 hb_ rfl rfl rfl), Q_HR⟩
        refine steps_cons ?_ ?_
        · rintro b a w' ⟨ha, Q_HR⟩ hb_ hon hoff
          refine ⟨_, rfl, fun K hK => ?_⟩
          have e3 : a.tmps[3]? = some (.pointer (some ⟨g3, 0, none⟩)) := by rw [ha]; exact (putSel_off rfl).trans rfl
          have e10 : a.tmps[10]? = some (.bool false) := by rw [ha]; exact putSel_on (e := (3, 10, .bool false)) 3 rfl rfl (hon 3 (by kernel_rfl)) rfl
          replace ha := Aside0.mk ha
          have HR := Aside0.mk Q_HR
          refine value_ (w1 := w') (v := .pointer (some ⟨g3, 2, none⟩)) (wanted_on rfl rfl rfl (e10.trans (by first | rfl | (simp [*]; done)))) rfl ?_ ?_
          · go_simp
            (try simp only [i64_w])
            try rfl
          refine hK.out _ _ ⟨(by rw [ha.out]; exact putSel_upk 4 hb_ rfl rfl rfl), Q_HR⟩
        refine steps_cons ?_ ?_
        · rintro b a w' ⟨ha, Q_HR⟩ hb_ hon hoff
          refine ⟨_, rfl, fun K hK => ?_⟩
          have e11 : a.tmps[11]? = some (.pointer (some ⟨g3, 2, none⟩)) := by rw [ha]; exact putSel_on (e := (4, 11, .pointer (some ⟨g3, 2, none⟩))) 4 rfl rfl (hon 4 (by kernel_rfl)) rfl
          have e10 : a.tmps[10]? = some (.bool false) := by rw [ha]; exact putSel_on (e := (3, 10, .bool false)) 3 rfl rfl (hon 3 (by kernel_rfl)) rfl
          replace ha := Aside0.mk ha
          have HR := Aside0.mk Q_HR
          have hl12 : w'.cell? ⟨g3, 2, none⟩ = some (.int .i64 (k : Int)) := (blk_cell (blk_below BK3.out HR.out) 2).trans rfl
          refine value_ (w1 := w') (v := .int .i64 (k : Int)) (wanted_on rfl rfl rfl (e10.trans (by first | rfl | (simp [*]; done)))) rfl ?_ ?_
          · go_simp
            (try simp only [i64_w])
            try rfl
          refine hK.out _ _ ⟨(by rw [ha.out]; exact putSel_upk 5 hb_ rfl rfl rfl), Q_HR⟩
        refine steps_cons ?_ ?_
        · rintro b a w' ⟨ha, Q_HR⟩ hb_ hon hoff
          refine ⟨_, rfl, fun K hK => ?_⟩
          have e0 : a.tmps[0]? = some (.slice (some y) n c) := by rw [ha]; exact (putSel_off rfl).trans rfl
          have e10 : a.tmps[10]? = some (.bool false) := by rw [ha]; exact putSel_on (e := (3, 10, .bool false)) 3 rfl rfl (hon 3 (by kernel_rfl)) rfl
          replace ha := Aside0.mk ha
          have HR := Aside0.mk Q_HR
          refine value_ (w1 := w') (v := .slice (some y) n c) (wanted_on rfl rfl rfl (e10.trans (by first | rfl | (simp [*]; done)))) rfl ?_ ?_
          · go_simp
            (try simp only [i64_w])
            try rfl
          refine hK.out _ _ ⟨(by rw [ha.out]; exact putSel_upk 6 hb_ rfl rfl rfl), Q_HR⟩
        refine steps_cons ?_ ?_
        · rintro b a w' ⟨ha, Q_HR⟩ hb_ hon hoff
          refine ⟨_, rfl, fun K hK => ?_⟩
          have e13 : a.tmps[13]? = some (.slice (some y) n c) := by rw [ha]; exact putSel_on (e := (6, 13, .slice (some y) n c)) 6 rfl rfl (hon 6 (by kernel_rfl)) rfl
          have e10 : a.tmps[10]? = some (.bool false) := by rw [ha]; exact putSel_on (e := (3, 10, .bool false)) 3 rfl rfl (hon 3 (by kernel_rfl)) rfl
          replace ha := Aside0.mk ha
          have HR := Aside0.mk Q_HR
          refine value_ (w1 := w') (v := .int .i64 (n : Int)) (wanted_on rfl rfl rfl (e10.trans (by first | rfl | (simp [*]; done)))) rfl ?_ ?_
          · go_simp
            (try simp only [i64_w])
            try rfl
          refine hK.out _ _ ⟨(by rw [ha.out]; exact putSel_upk 7 hb_ rfl rfl rfl), Q_HR⟩
        refine steps_cons ?_ ?_
        · rintro b a w' ⟨ha, Q_HR⟩ hb_ hon hoff
          refine ⟨_, rfl, fun K hK => ?_⟩
          have e12 : a.tmps[12]? = some (.int .i64 (k : Int)) := by rw [ha]; exact putSel_on (e := (5, 12, .int .i64 (k : Int))) 5 rfl rfl (hon 5 (by kernel_rfl)) rfl
          have e14 : a.tmps[14]? = some (.int .i64 (n : Int)) := by rw [ha]; exact putSel_on (e := (7, 14, .int .i64 (n : Int))) 7 rfl rfl (hon 7 (by kernel_rfl)) rfl
          have e10 : a.tmps[10]? = some (.bool false) := by rw [ha]; exact putSel_on (e := (3, 10, .bool false)) 3 rfl rfl (hon 3 (by kernel_rfl)) rfl
          replace ha := Aside0.mk ha
          have HR := Aside0.mk Q_HR
          refine value_ (w1 := w') (v := .bool false) (wanted_on rfl rfl rfl (e10.trans (by first | rfl | (simp [*]; done)))) rfl ?_ ?_
          · go_simp
            (try simp only [i64_w])
            try rfl
          refine hK.out _ _ ⟨(by rw [ha.out]; exact putSel_upk 8 hb_ rfl rfl rfl), Q_HR⟩
        refine steps_cons ?_ ?_
        · rintro b a w' ⟨ha, Q_HR⟩ hb_ hon hoff
          refine ⟨_, rfl, fun K hK => ?_⟩
          have e10 : a.tmps[10]? = some (.bool false) := by rw [ha]; exact putSel_on (e := (3, 10, .bool false)) 3 rfl rfl (hon 3 (by kernel_rfl)) rfl
          have e15 : a.tmps[15]? = some (.bool false) := by rw [ha]; exact putSel_on (e := (8, 15, .bool false)) 8 rfl rfl (hon 8 (by kernel_rfl)) rfl
          replace ha := Aside0.mk ha
          have HR := Aside0.mk Q_HR
          refine value_ (w1 := w') (v := .bool false) (by rfl) rfl ?_ ?_
          · go_simp
            (try simp only [i64_w])
            try rfl
          refine hK.out _ _ ⟨(by rw [ha.out]; exact putSel_upk 9 hb_ rfl rfl rfl), Q_HR⟩
        refine steps_cons ?_ ?_
        · rintro b a w' ⟨ha, Q_HR⟩ hb_ hon hoff
          refine ⟨_, rfl, fun K hK => ?_⟩
          have e16 : a.tmps[16]? = some (.bool false) := by rw [ha]; exact putSel_on (e := (9, 16, .bool false)) 9 rfl rfl (hon 9 (by kernel_rfl)) rfl
          replace ha := Aside0.mk ha
          have HR := Aside0.mk Q_HR
          refine value_ (w1 := w') (v := .bool false) (by rfl) rfl ?_ ?_
          · go_simp
            (try simp only [i64_w])
            try rfl
          refine hK.out _ _ ⟨(by rw [ha.out]; exact putSel_upk 10 hb_ rfl rfl rfl), Q_HR⟩
        refine steps_cons ?_ ?_
        · rintro b a w' ⟨ha, Q_HR⟩ hb_ hon hoff
          refine ⟨_, rfl, fun K hK => ?_⟩
          have e0 : a.tmps[0]? = some (.slice (some y) n c) := by rw [ha]; exact (putSel_off rfl).trans rfl
          have e17 : a.tmps[17]? = some (.bool false) := by rw [ha]; exact putSel_on (e := (10, 17, .bool false)) 10 rfl rfl (hon 10 (by kernel_rfl)) rfl
          replace ha := Aside0.mk ha
          have HR := Aside0.mk Q_HR
          refine value_ (w1 := w') (v := .slice (some y) n c) (wanted_on rfl rfl rfl (e17.trans (by first | rfl | (simp [*]; done)))) rfl ?_ ?_
          · go_simp
            (try simp only [i64_w])
            try rfl
          refine hK.out _ _ ⟨(by rw [ha.out]; exact putSel_upk 11 hb_ rfl rfl rfl), Q_HR⟩
        refine steps_cons ?_ ?_
        · rintro b a w' ⟨ha, Q_HR⟩ hb_ hon hoff
          refine ⟨_, rfl, fun K hK => ?_⟩
          have e3 : a.tmps[3]? = some (.pointer (some ⟨g3, 0, none⟩)) := by rw [ha]; exact (putSel_off rfl).trans rfl
          have e17 : a.tmps[17]? = some (.bool false) := by rw [ha]; exact putSel_on (e := (10, 17, .bool false)) 10 rfl rfl (hon 10 (by kernel_rfl)) rfl
          replace ha := Aside0.mk ha
          have HR := Aside0.mk Q_HR
          refine value_ (w1 := w') (v := .pointer (some ⟨g3, 2, none⟩)) (wanted_on rfl rfl rfl (e17.trans (by first | rfl | (simp [*]; done)))) rfl ?_ ?_
          · go_simp
            (try simp only [i64_w])
            try rfl
          refine hK.out _ _ ⟨(by rw [ha.out]; exact putSel_upk 12 hb_ rfl rfl rfl), Q_HR⟩
        refine steps_cons ?_ ?_
        · rintro b a w' ⟨ha, Q_HR⟩ hb_ hon hoff
          refine ⟨_, rfl, fun K hK => ?_⟩
          have e19 : a.tmps[19]? = some (.pointer (some ⟨g3, 2, none⟩)) := by rw [ha]; exact putSel_on (e := (12, 19, .pointer (some ⟨g3, 2, none⟩))) 12 rfl rfl (hon 12 (by kernel_rfl)) rfl
          have e17 : a.tmps[17]? = some (.bool false) := by rw [ha]; exact putSel_on (e := (10, 17, .bool false)) 10 rfl rfl (hon 10 (by kernel_rfl)) rfl
          replace ha := Aside0.mk ha
          have HR := Aside0.mk Q_HR
          have hl20 : w'.cell? ⟨g3, 2, none⟩ = some (.int .i64 (k : Int)) := (blk_cell (blk_below BK3.out HR.out) 2).trans rfl
          refine value_ (w1 := w') (v := .int .i64 (k : Int)) (wanted_on rfl rfl rfl (e17.trans (by first | rfl | (simp [*]; done)))) rfl ?_ ?_
          · go_simp
            (try simp only [i64_w])
            try rfl
          refine hK.out _ _ ⟨(by rw [ha.out]; exact putSel_upk 13 hb_ rfl rfl rfl), Q_HR⟩
        refine steps_cons ?_ ?_
        · rintro b a w' ⟨ha, Q_HR⟩ hb_ hon hoff
          refine ⟨_, rfl, fun K hK => ?_⟩
          have e18 : a.tmps[18]? = some (.slice (some y) n c) := by rw [ha]; exact putSel_on (e := (11, 18, .slice (some y) n c)) 11 rfl rfl (hon 11 (by kernel_rfl)) rfl
          have e20 : a.tmps[20]? = some (.int .i64 (k : Int)) := by rw [ha]; exact putSel_on (e := (13, 20, .int .i64 (k : Int))) 13 rfl rfl (hon 13 (by kernel_rfl)) rfl
          have e17 : a.tmps[17]? = some (.bool false) := by rw [ha]; exact putSel_on (e := (10, 17, .bool false)) 10 rfl rfl (hon 10 (by kernel_rfl)) rfl
          replace ha := Aside0.mk ha
          have HR := Aside0.mk Q_HR
          refine value_ (w1 := w') (v := .pointer (some (y.add k))) (wanted_on rfl rfl rfl (e17.trans (by first | rfl | (simp [*]; done)))) rfl ?_ ?_
          · go_simp
            (try simp only [i64_w])
            try rfl
          refine hK.out _ _ ⟨(by rw [ha.out]; exact putSel_upk 14 hb_ rfl rfl rfl), Q_HR⟩
        refine steps_cons ?_ ?_
        · rintro b a w' ⟨ha, Q_HR⟩ hb_ hon hoff
          refine ⟨_, rfl, fun K hK => ?_⟩
          have e21 : a.tmps[21]? = some (.pointer (some (y.add k))) := by rw [ha]; exact putSel_on (e := (14, 21, .pointer (some (y.add k)))) 14 rfl rfl (hon 14 (by kernel_rfl)) rfl
          have e17 : a.tmps[17]? = some (.bool false) := by rw [ha]; exact putSel_on (e := (10, 17, .bool false)) 10 rfl rfl (hon 10 (by kernel_rfl)) rfl
          replace ha := Aside0.mk ha
          have HR := Aside0.mk Q_HR
          have hl22 : w'.cell? (y.add k) = some (.int .i64 x) := (HR.out.cell (p := y.add k) (cell_lt hyc)).trans hyc
          refine value_ (w1 := w') (v := .int .i64 x) (wanted_on rfl rfl rfl (e17.trans (by first | rfl | (simp [*]; done)))) rfl ?_ ?_
          · go_simp
            (try simp only [i64_w])
            try rfl
          refine hK.out _ _ ⟨(by rw [ha.out]; exact putSel_upk 15 hb_ rfl rfl rfl), Q_HR⟩
        refine steps_cons ?_ ?_
        · rintro b a w' ⟨ha, Q_HR⟩ hb_ hon hoff
          refine ⟨_, rfl, fun K hK => ?_⟩
          have e22 : a.tmps[22]? = some (.int .i64 x) := by rw [ha]; exact putSel_on (e := (15, 22, .int .i64 x)) 15 rfl rfl (hon 15 (by kernel_rfl)) rfl
          have e17 : a.tmps[17]? = some (.bool false) := by rw [ha]; exact putSel_on (e := (10, 17, .bool false)) 10 rfl rfl (hon 10 (by kernel_rfl)) rfl
          replace ha := Aside0.mk ha
          have HR := Aside0.mk Q_HR
          refine value_ (w1 := w') (v := .int .u64 (IntKind.u64.wrap x)) (wanted_on rfl rfl rfl (e17.trans (by first | rfl | (simp [*]; done)))) rfl ?_ ?_
          · go_simp
            (try simp only [i64_w])
            try rfl
          refine hK.out _ _ ⟨(by rw [ha.out]; exact putSel_upk 16 hb_ rfl rfl rfl), Q_HR⟩
        refine steps_cons ?_ ?_
        · rintro b a w' ⟨ha, Q_HR⟩ hb_ hon hoff
          refine ⟨_, rfl, fun K hK => ?_⟩
          have e3 : a.tmps[3]? = some (.pointer (some ⟨g3, 0, none⟩)) := by rw [ha]; exact (putSel_off rfl).trans rfl
          have e17 : a.tmps[17]? = some (.bool false) := by rw [ha]; exact putSel_on (e := (10, 17, .bool false)) 10 rfl rfl (hon 10 (by kernel_rfl)) rfl
          replace ha := Aside0.mk ha
          have HR := Aside0.mk Q_HR
          refine value_ (w1 := w') (v := .pointer (some ⟨g3, 3, none⟩)) (wanted_on rfl rfl rfl (e17.trans (by first | rfl | (simp [*]; done)))) rfl ?_ ?_
          · go_simp
            (try simp only [i64_w])
            try rfl
          refine hK.out _ _ ⟨(by rw [ha.out]; exact putSel_upk 17 hb_ rfl rfl rfl), Q_HR⟩
        refine steps_cons ?_ ?_
        · rintro b a w' ⟨ha, Q_HR⟩ hb_ hon hoff
          refine ⟨_, rfl, fun K hK => ?_⟩
          have e24 : a.tmps[24]? = some (.pointer (some ⟨g3, 3, none⟩)) := by rw [ha]; exact putSel_on (e := (17, 24, .pointer (some ⟨g3, 3, none⟩))) 17 rfl rfl (hon 17 (by kernel_rfl)) rfl
          have e17 : a.tmps[17]? = some (.bool false) := by rw [ha]; exact putSel_on (e := (10, 17, .bool false)) 10 rfl rfl (hon 10 (by kernel_rfl)) rfl
          replace ha := Aside0.mk ha
          have HR := Aside0.mk Q_HR
          have hl25 : w'.cell? ⟨g3, 3, none⟩ = some (.int .u64 cw) := (blk_cell (blk_below BK3.out HR.out) 3).trans rfl
          refine value_ (w1 := w') (v := .int .u64 cw) (wanted_on rfl rfl rfl (e17.trans (by first | rfl | (simp [*]; done)))) rfl ?_ ?_
          · go_simp
            (try simp only [i64_w])
            try rfl
          refine hK.out _ _ ⟨(by rw [ha.out]; exact putSel_upk 18 hb_ rfl rfl rfl), Q_HR⟩
        refine steps_cons ?_ ?_
        · rintro b a w' ⟨ha, Q_HR⟩ hb_ hon hoff
          refine ⟨_, rfl, fun K hK => ?_⟩
          have e23 : a.tmps[23]? = some (.int .u64 (IntKind.u64.wrap x)) := by rw [ha]; exact putSel_on (e := (16, 23, .int .u64 (IntKind.u64.wrap x))) 16 rfl rfl (hon 16 (by kernel_rfl)) rfl
          have e25 : a.tmps[25]? = some (.int .u64 cw) := by rw [ha]; exact putSel_on (e := (18, 25, .int .u64 cw)) 18 rfl rfl (hon 18 (by kernel_rfl)) rfl
          have e17 : a.tmps[17]? = some (.bool false) := by rw [ha]; exact putSel_on (e := (10, 17, .bool false)) 10 rfl rfl (hon 10 (by kernel_rfl)) rfl
          replace ha := Aside0.mk ha
          have HR := Aside0.mk Q_HR
          refine value_ (w1 := w') (v := .bool bb) (wanted_on rfl rfl rfl (e17.trans (by first | rfl | (simp [*]; done)))) rfl ?_ ?_
          · go_simp
            (try simp only [i64_w])
            try rfl
          refine hK.out _ _ ⟨(by rw [ha.out]; exact putSel_upk 19 hb_ rfl rfl rfl), Q_HR⟩
        refine steps_cons ?_ ?_
        · rintro b a w' ⟨ha, Q_HR⟩ hb_ hon hoff
          refine ⟨_, rfl, fun K hK => ?_⟩
          have e17 : a.tmps[17]? = some (.bool false) := by rw [ha]; exact putSel_on (e := (10, 17, .bool false)) 10 rfl rfl (hon 10 (by kernel_rfl)) rfl
          have e26 : a.tmps[26]? = some (.bool bb) := by rw [ha]; exact putSel_on (e := (19, 26, .bool bb)) 19 rfl rfl (hon 19 (by kernel_rfl)) rfl
          replace ha := Aside0.mk ha
          have HR := Aside0.mk Q_HR
          refine value_ (w1 := w') (v := .bool bb) (by rfl) rfl ?_ ?_
          · go_simp
            (try simp only [i64_w])
            try rfl
          refine hK.out _ _ ⟨(by rw [ha.out]; exact putSel_upk 20 hb_ rfl rfl rfl), Q_HR⟩
        exact steps_nil
      rintro b a wq hall ⟨ha, Q_HR⟩
      clear HR
      have hb0_ := hall 0 (by kernel_rfl)
      have hb1_ := hall 1 (by kernel_rfl)
      have hb2_ := hall 2 (by kernel_rfl)
      have hb3_ := hall 3 (by kernel_rfl)
      have hb4_ := hall 4 (by kernel_rfl)
      have hb5_ := hall 5 (by kernel_rfl)
      have hb6_ := hall 6 (by kernel_rfl)
      have hb7_ := hall 7 (by kernel_rfl)
      have hb8_ := hall 8 (by kernel_rfl)
      have hb9_ := hall 9 (by kernel_rfl)
      have hb10_ := hall 10 (by kernel_rfl)
      have hb11_ := hall 11 (by kernel_rfl)
      have hb12_ := hall 12 (by kernel_rfl)
      have hb13_ := hall 13 (by kernel_rfl)
      have hb14_ := hall 14 (by kernel_rfl)
      have hb15_ := hall 15 (by kernel_rfl)
      have hb16_ := hall 16 (by kernel_rfl)
      have hb17_ := hall 17 (by kernel_rfl)
      have hb18_ := hall 18 (by kernel_rfl)
      have hb19_ := hall 19 (by kernel_rfl)
      have hb20_ := hall 20 (by kernel_rfl)
      subst ha
      simp only [putSel, hb0_, hb1_, hb2_, hb3_, hb4_, hb5_, hb6_, hb7_, hb8_, hb9_, hb10_, hb11_, hb12_, hb13_, hb14_, hb15_, hb16_, hb17_, hb18_, hb19_, hb20_, if_true, Act.put, List.setIfInBounds_toArray, List.set_cons_zero, List.set_cons_succ]
      have HR := Aside0.mk Q_HR
      clear Q_HR
      clear hall hb0_ hb1_ hb2_ hb3_ hb4_ hb5_ hb6_ hb7_ hb8_ hb9_ hb10_ hb11_ hb12_ hb13_ hb14_ hb15_ hb16_ hb17_ hb18_ hb19_ hb20_
      clear hbb hyc
      have BKq := Aside0.mk (blk_below BK3.out HR.out)
      have HBq := Aside0.mk (below_step HB.out HR.out)
      have HLq := Aside0.mk (HL.out.to HBq.out)
      cases bb with
      | true =>
        have HNO := Aside0.mk (show chgS l (⟨ck, ca, (k : Int), cw, cs⟩ : Ch) = none from if_neg (fun h => by
          have h3 := h.2.2
          simp only [Int.toNat_natCast] at h3
          rw [← HX.out] at h3
          have := HBB.out
          rw [show (IntKind.u64.wrap x) = cw from h3] at this
          simp at this))
        go_wp2
        go_ret2
        exact ⟨none, 0, 0, false, rfl, .inl ⟨HNO.out, rfl⟩, below_step HB.out HR.out⟩
      | false =>
        have he : (IntKind.u64.wrap x) = cw := by simpa using HBB.out
        have HYES := Aside0.mk (show chgS l (⟨ck, ca, (k : Int), cw, cs⟩ : Ch) = some (l.set k (i64 cs)) from if_pos ⟨by simp only; omega, by simp only; omega, by simp only [Int.toNat_natCast]; rw [← HX.out]; exact he⟩)
        clear he
        go_wp2_with (go_at_call 17; refine (clone17_calls _ (some y) n c l (Aside0.mk (HLq.out)) hn).mono ?_; rintro e w3 ⟨v3, rfl, hr3, hb3⟩; obtain ⟨gc, cc, rfl⟩ := row1_some (Nat.lt_of_le_of_lt (Nat.zero_le _) hkn) hr3; have ROW3 := Aside0.mk hr3; have HB3 := Aside0.mk hb3; have hx2 : w3.cell? ⟨g3, 2, none⟩ = some (.int .i64 (k : Int)) := (blk_cell (blk_below BKq.out hb3) 2).trans rfl; have hx4 : w3.cell? ⟨g3, 4, none⟩ = some (.int .u64 cs) := (blk_cell (blk_below BKq.out hb3) 4).trans rfl; have hy0 := hr3.cellAt k (by rw [Nat.mul_one]; exact hkn); rw [List.getElem?_map, getD_at (show k < l.length by omega)] at hy0; have hyf := hr3.frozenAt k; clear hr3 hb3)
        go_ret2
        have hst := (ROW3.out.stored k (.int .i64 (i64 cs))).1
        rw [← List.map_set (f := Value.int .i64)] at hst
        have hgc := (ROW3.out.lt gc rfl).1
        have hsz := HBq.out.size
        rw [show i64 cs = wrap64 cs from i64_w cs] at hst HYES
        obtain ⟨a7, c7, e7, h7⟩ := IL_of_row hst
        cases e7
        exact ⟨_, _, _, true, rfl, .inr ⟨_, HYES.out, rfl, h7, fun y e => by cases e; exact Nat.le_trans hsz hgc⟩, below_set (below_step HBq.out HB3.out) (Nat.le_trans hsz hgc)⟩
    · have hd2 : decide (ci ≥ (n : Int)) = true := decide_eq_true (by omega)
      have hd2' : decide ((n : Int) ≤ ci) = true := decide_eq_true (by omega)
      have HNO := Aside0.mk (show chgS l (⟨ck, ca, ci, cw, cs⟩ : Ch) = none from if_neg (fun h => by have := h.2.1; simp only at this; omega))
      go_enter Try.func18, Try.ntmps18
      go_upto_region 1 with ((with_reducible refine gate_dst (N := 3) rfl ?_); refine box_event ?hg (N := 3) ?hd (cs := #[.int .i64 ck, .int .i64 ca, .int .i64 ci, .int .u64 cw, .int .u64 cs]) (t := 44) ?hr ?_; (case hd => rfl); (case hg => rfl); (case hr => first | (go_simp; done) | (go_simp; rfl)); intro g3 hg w1_ hbox hb; have n0_ := Aside0.mk (below_step (by repeat (first | (with_reducible first | exact HB.out | apply below_alloc | apply pw_below_drewN | apply below_drew1) | exact HB.out)) hb); have n1_ := Aside0.mk hbox; have n2_ := Aside0.mk ((by rw [hg]; exact (below_size (by repeat (first | (with_reducible first | exact HB.out | apply below_alloc | apply pw_below_drewN | apply below_drew1) | exact HB.out)))) : w.heap.size ≤ g3); clear HB; have HB := n0_; have BK3 := n1_; have GE3 := n2_; clear n0_ n1_ n2_; clear hb hbox hg)
      have HR := Aside0.mk (Below.refl w1_.heap.size w1_)
      refine start_ (n := 21) (S := fun w' => True) (ds := []) #[false, false, false, false, false, false, false, false, false, false, false, false, false, false, false, false, false, false, false, false, false] (by kernel_rfl) rfl rfl trivial (fun hHeld => ?_)
      refine with_tabW c18.tab1 c18.bits1 (fun HT_ HW_ => ?_)
      refine inv_at [0, 1, 2, 3, 4, 5, 6, 7, 8, 9, 10, 11, 12, 13, 14, 15, 16, 17, 18, 19, 20] (fun a0_ b a w' => a = putSel a0_ b [(0, 7, .pointer (some ⟨g3, 2, none⟩)), (1, 8, .int .i64 ci), (2, 9, .bool false), (3, 10, .bool false), (4, 11, .pointer (some ⟨g3, 2, none⟩)), (5, 12, .int .i64 ci), (6, 13, .slice A0 n c), (7, 14, .int .i64 (n : Int)), (8, 15, .bool true), (9, 16, .bool true), (10, 17, .bool true), (11, 18, undef), (12, 19, undef), (13, 20, undef), (14, 21, undef), (15, 22, undef), (16, 23, undef), (17, 24, undef), (18, 25, undef), (19, 26, undef), (20, 27, .bool true)] ∧ (Below w1_.heap.size w1_ w')) HT_.out HW_.out (by kernel_rfl) (by kernel_rfl) ?_ ?_ ?_
      · exact ⟨by simp only [putSel, Bool.false_eq_true, if_false], below_drew1 HR.out⟩
      · skip
        clear HR
        refine steps_cons ?_ ?_
        · rintro b a w' ⟨ha, Q_HR⟩ hb_ hon hoff
          refine ⟨_, rfl, fun K hK => ?_⟩
          have e3 : a.tmps[3]? = some (.pointer (some ⟨g3, 0, none⟩)) := by rw [ha]; exact (putSel_off rfl).trans rfl
          replace ha := Aside0.mk ha
          have HR := Aside0.mk Q_HR
          refine value_ (w1 := w') (v := .pointer (some ⟨g3, 2, none⟩)) (by rfl) rfl ?_ ?_
          · go_simp
            (try simp only [i64_w])
            try rfl
          refine hK.out _ _ ⟨(by rw [ha.out]; exact putSel_upk 0 hb_ rfl rfl rfl), Q_HR⟩
        refine steps_cons ?_ ?_
        · rintro b a w' ⟨ha, Q_HR⟩ hb_ hon hoff
          refine ⟨_, rfl, fun K hK => ?_⟩
          have e7 : a.tmps[7]? = some (.pointer (some ⟨g3, 2, none⟩)) := by rw [ha]; exact putSel_on (e := (0, 7, .pointer (some ⟨g3, 2, none⟩))) 0 rfl rfl (hon 0 (by kernel_rfl)) rfl
          replace ha := Aside0.mk ha
          have HR := Aside0.mk Q_HR
          have hl8 : w'.cell? ⟨g3, 2, none⟩ = some (.int .i64 ci) := (blk_cell (blk_below BK3.out HR.out) 2).trans rfl
          refine value_ (w1 := w') (v := .int .i64 ci) (by rfl) rfl ?_ ?_
          · go_simp
            (try simp only [i64_w])
            try rfl
          refine hK.out _ _ ⟨(by rw [ha.out]; exact putSel_upk 1 hb_ rfl rfl rfl), Q_HR⟩
        refine steps_cons ?_ ?_
        · rintro b a w' ⟨ha, Q_HR⟩ hb_ hon hoff
          refine ⟨_, rfl, fun K hK => ?_⟩
          have e8 : a.tmps[8]? = some (.int .i64 ci) := by rw [ha]; exact putSel_on (e := (1, 8, .int .i64 ci)) 1 rfl rfl (hon 1 (by kernel_rfl)) rfl
          replace ha := Aside0.mk ha
          have HR := Aside0.mk Q_HR
          refine value_ (w1 := w') (v := .bool false) (by rfl) rfl ?_ ?_
          · go_simp
            (try simp only [i64_w])
            try rfl
          refine hK.out _ _ ⟨(by rw [ha.out]; exact putSel_upk 2 hb_ rfl rfl rfl), Q_HR⟩
        refine steps_cons ?_ ?_
        · rintro b a w' ⟨ha, Q_HR⟩ hb_ hon hoff
          refine ⟨_, rfl, fun K hK => ?_⟩
          have e9 : a.tmps[9]? = some (.bool false) := by rw [ha]; exact putSel_on (e := (2, 9, .bool false)) 2 rfl rfl (hon 2 (by kernel_rfl)) rfl
          replace ha := Aside0.mk ha
          have HR := Aside0.mk Q_HR
          refine value_ (w1 := w') (v := .bool false) (by rfl) rfl ?_ ?_
          · go_simp
            (try simp only [i64_w])
            try rfl
          refine hK.out _ _ ⟨(by rw [ha.out]; exact putSel_upk 3 hb_ rfl rfl rfl), Q_HR⟩
        refine steps_cons ?_ ?_
        · rintro b a w' ⟨ha, Q_HR⟩ hb_ hon hoff
          refine ⟨_, rfl, fun K hK => ?_⟩
          have e3 : a.tmps[3]? = some (.pointer (some ⟨g3, 0, none⟩)) := by rw [ha]; exact (putSel_off rfl).trans rfl
          have e10 : a.tmps[10]? = some (.bool false) := by rw [ha]; exact putSel_on (e := (3, 10, .bool false)) 3 rfl rfl (hon 3 (by kernel_rfl)) rfl
          replace ha := Aside0.mk ha
          have HR := Aside0.mk Q_HR
          refine value_ (w1 := w') (v := .pointer (some ⟨g3, 2, none⟩)) (wanted_on rfl rfl rfl (e10.trans (by first | rfl | (simp [*]; done)))) rfl ?_ ?_
          · go_simp
            (try simp only [i64_w])
            try rfl
          refine hK.out _ _ ⟨(by rw [ha.out]; exact putSel_upk 4 hb_ rfl rfl rfl), Q_HR⟩
        refine steps_cons ?_ ?_
        · rintro b a w' ⟨ha, Q_HR⟩ hb_ hon hoff
          refine ⟨_, rfl, fun K hK => ?_⟩
          have e11 : a.tmps[11]? = some (.pointer (some ⟨g3, 2, none⟩)) := by rw [ha]; exact putSel_on (e := (4, 11, .pointer (some ⟨g3, 2, none⟩))) 4 rfl rfl (hon 4 (by kernel_rfl)) rfl
          have e10 : a.tmps[10]? = some (.bool false) := by rw [ha]; exact putSel_on (e := (3, 10, .bool false)) 3 rfl rfl (hon 3 (by kernel_rfl)) rfl
          replace ha := Aside0.mk ha
          have HR := Aside0.mk Q_HR
          have hl12 : w'.cell? ⟨g3, 2, none⟩ = some (.int .i64 ci) := (blk_cell (blk_below BK3.out HR.out) 2).trans rfl
          refine value_ (w1 := w') (v := .int .i64 ci) (wanted_on rfl rfl rfl (e10.trans (by first | rfl | (simp [*]; done)))) rfl ?_ ?_
          · go_simp
            (try simp only [i64_w])
            try rfl
          refine hK.out _ _ ⟨(by rw [ha.out]; exact putSel_upk 5 hb_ rfl rfl rfl), Q_HR⟩
        refine steps_cons ?_ ?_
        · rintro b a w' ⟨ha, Q_HR⟩ hb_ hon hoff
          refine ⟨_, rfl, fun K hK => ?_⟩
          have e0 : a.tmps[0]? = some (.slice A0 n c) := by rw [ha]; exact (putSel_off rfl).trans rfl
          have e10 : a.tmps[10]? = some (.bool false) := by rw [ha]; exact putSel_on (e := (3, 10, .bool false)) 3 rfl rfl (hon 3 (by kernel_rfl)) rfl
          replace ha := Aside0.mk ha
          have HR := Aside0.mk Q_HR
          refine value_ (w1 := w') (v := .slice A0 n c) (wanted_on rfl rfl rfl (e10.trans (by first | rfl | (simp [*]; done)))) rfl ?_ ?_
          · go_simp
            (try simp only [i64_w])
            try rfl
          refine hK.out _ _ ⟨(by rw [ha.out]; exact putSel_upk 6 hb_ rfl rfl rfl), Q_HR⟩
        refine steps_cons ?_ ?_
        · rintro b a w' ⟨ha, Q_HR⟩ hb_ hon hoff
          refine ⟨_, rfl, fun K hK => ?_⟩
          have e13 : a.tmps[13]? = some (.slice A0 n c) := by rw [ha]; exact putSel_on (e := (6, 13, .slice A0 n c)) 6 rfl rfl (hon 6 (by kernel_rfl)) rfl
          have e10 : a.tmps[10]? = some (.bool false) := by rw [ha]; exact putSel_on (e := (3, 10, .bool false)) 3 rfl rfl (hon 3 (by kernel_rfl)) rfl
          replace ha := Aside0.mk ha
          have HR := Aside0.mk Q_HR
          refine value_ (w1 := w') (v := .int .i64 (n : Int)) (wanted_on rfl rfl rfl (e10.trans (by first | rfl | (simp [*]; done)))) rfl ?_ ?_
          · go_simp
            (try simp only [i64_w])
            try rfl
          refine hK.out _ _ ⟨(by rw [ha.out]; exact putSel_upk 7 hb_ rfl rfl rfl), Q_HR⟩
        refine steps_cons ?_ ?_
        · rintro b a w' ⟨ha, Q_HR⟩ hb_ hon hoff
          refine ⟨_, rfl, fun K hK => ?_⟩
          have e12 : a.tmps[12]? = some (.int .i64 ci) := by rw [ha]; exact putSel_on (e := (5, 12, .int .i64 ci)) 5 rfl rfl (hon 5 (by kernel_rfl)) rfl
          have e14 : a.tmps[14]? = some (.int .i64 (n : Int)) := by rw [ha]; exact putSel_on (e := (7, 14, .int .i64 (n : Int))) 7 rfl rfl (hon 7 (by kernel_rfl)) rfl
          have e10 : a.tmps[10]? = some (.bool false) := by rw [ha]; exact putSel_on (e := (3, 10, .bool false)) 3 rfl rfl (hon 3 (by kernel_rfl)) rfl
          replace ha := Aside0.mk ha
          have HR := Aside0.mk Q_HR
          refine value_ (w1 := w') (v := .bool true) (wanted_on rfl rfl rfl (e10.trans (by first | rfl | (simp [*]; done)))) rfl ?_ ?_
          · go_simp
            (try simp only [i64_w])
            try rfl
          refine hK.out _ _ ⟨(by rw [ha.out]; exact putSel_upk 8 hb_ rfl rfl rfl), Q_HR⟩
        refine steps_cons ?_ ?_
        · rintro b a w' ⟨ha, Q_HR⟩ hb_ hon hoff
          refine ⟨_, rfl, fun K hK => ?_⟩
          have e10 : a.tmps[10]? = some (.bool false) := by rw [ha]; exact putSel_on (e := (3, 10, .bool false)) 3 rfl rfl (hon 3 (by kernel_rfl)) rfl
          have e15 : a.tmps[15]? = some (.bool true) := by rw [ha]; exact putSel_on (e := (8, 15, .bool true)) 8 rfl rfl (hon 8 (by kernel_rfl)) rfl
          replace ha := Aside0.mk ha
          have HR := Aside0.mk Q_HR
          refine value_ (w1 := w') (v := .bool true) (by rfl) rfl ?_ ?_
          · go_simp
            (try simp only [i64_w])
            try rfl
          refine hK.out _ _ ⟨(by rw [ha.out]; exact putSel_upk 9 hb_ rfl rfl rfl), Q_HR⟩
        refine steps_cons ?_ ?_
        · rintro b a w' ⟨ha, Q_HR⟩ hb_ hon hoff
          refine ⟨_, rfl, fun K hK => ?_⟩
          have e16 : a.tmps[16]? = some (.bool true) := by rw [ha]; exact putSel_on (e := (9, 16, .bool true)) 9 rfl rfl (hon 9 (by kernel_rfl)) rfl
          replace ha := Aside0.mk ha
          have HR := Aside0.mk Q_HR
          refine value_ (w1 := w') (v := .bool true) (by rfl) rfl ?_ ?_
          · go_simp
            (try simp only [i64_w])
            try rfl
          refine hK.out _ _ ⟨(by rw [ha.out]; exact putSel_upk 10 hb_ rfl rfl rfl), Q_HR⟩
        refine steps_cons ?_ ?_
        · rintro b a w' ⟨ha, Q_HR⟩ hb_ hon hoff
          refine ⟨_, rfl, fun K hK => ?_⟩
          have e17 : a.tmps[17]? = some (.bool true) := by rw [ha]; exact putSel_on (e := (10, 17, .bool true)) 10 rfl rfl (hon 10 (by kernel_rfl)) rfl
          replace ha := Aside0.mk ha
          have HR := Aside0.mk Q_HR
          refine off_ (wanted_off rfl rfl rfl (e17.trans (by first | rfl | (simp [*]; done)))) ?_
          refine hK.out _ _ ⟨(by rw [ha.out]; exact putSel_upk 11 hb_ rfl rfl rfl), Q_HR⟩
        refine steps_cons ?_ ?_
        · rintro b a w' ⟨ha, Q_HR⟩ hb_ hon hoff
          refine ⟨_, rfl, fun K hK => ?_⟩
          have e17 : a.tmps[17]? = some (.bool true) := by rw [ha]; exact putSel_on (e := (10, 17, .bool true)) 10 rfl rfl (hon 10 (by kernel_rfl)) rfl
          replace ha := Aside0.mk ha
          have HR := Aside0.mk Q_HR
          refine off_ (wanted_off rfl rfl rfl (e17.trans (by first | rfl | (simp [*]; done)))) ?_
          refine hK.out _ _ ⟨(by rw [ha.out]; exact putSel_upk 12 hb_ rfl rfl rfl), Q_HR⟩
        refine steps_cons ?_ ?_
        · rintro b a w' ⟨ha, Q_HR⟩ hb_ hon hoff
          refine ⟨_, rfl, fun K hK => ?_⟩
          have e17 : a.tmps[17]? = some (.bool true) := by rw [ha]; exact putSel_on (e := (10, 17, .bool true)) 10 rfl rfl (hon 10 (by kernel_rfl)) rfl
          replace ha := Aside0.mk ha
          have HR := Aside0.mk Q_HR
          refine off_ (wanted_off rfl rfl rfl (e17.trans (by first | rfl | (simp [*]; done)))) ?_
          refine hK.out _ _ ⟨(by rw [ha.out]; exact putSel_upk 13 hb_ rfl rfl rfl), Q_HR⟩
        refine steps_cons ?_ ?_
        · rintro b a w' ⟨ha, Q_HR⟩ hb_ hon hoff
          refine ⟨_, rfl, fun K hK => ?_⟩
          have e17 : a.tmps[17]? = some (.bool true) := by rw [ha]; exact putSel_on (e := (10, 17, .bool true)) 10 rfl rfl (hon 10 (by kernel_rfl)) rfl
          replace ha := Aside0.mk ha
          have HR := Aside0.mk Q_HR
          refine off_ (wanted_off rfl rfl rfl (e17.trans (by first | rfl | (simp [*]; done)))) ?_
          refine hK.out _ _ ⟨(by rw [ha.out]; exact putSel_upk 14 hb_ rfl rfl rfl), Q_HR⟩
        refine steps_cons ?_ ?_
        · rintro b a w' ⟨ha, Q_HR⟩ hb_ hon hoff
          refine ⟨_, rfl, fun K hK => ?_⟩
          have e17 : a.tmps[17]? = some (.bool true) := by rw [ha]; exact putSel_on (e := (10, 17, .bool true)) 10 rfl rfl (hon 10 (by kernel_rfl)) rfl
          replace ha := Aside0.mk ha
          have HR := Aside0.mk Q_HR
          refine off_ (wanted_off rfl rfl rfl (e17.trans (by first | rfl | (simp [*]; done)))) ?_
          refine hK.out _ _ ⟨(by rw [ha.out]; exact putSel_upk 15 hb_ rfl rfl rfl), Q_HR⟩
        refine steps_cons ?_ ?_
        · rintro b a w' ⟨ha, Q_HR⟩ hb_ hon hoff
          refine ⟨_, rfl, fun K hK => ?_⟩
          have e17 : a.tmps[17]? = some (.bool true) := by rw [ha]; exact putSel_on (e := (10, 17, .bool true)) 10 rfl rfl (hon 10 (by kernel_rfl)) rfl
          replace ha := Aside0.mk ha
          have HR := Aside0.mk Q_HR
          refine off_ (wanted_off rfl rfl rfl (e17.trans (by first | rfl | (simp [*]; done)))) ?_
          refine hK.out _ _ ⟨(by rw [ha.out]; exact putSel_upk 16 hb_ rfl rfl rfl), Q_HR⟩
        refine steps_cons ?_ ?_
        · rintro b a w' ⟨ha, Q_HR⟩ hb_ hon hoff
          refine ⟨_, rfl, fun K hK => ?_⟩
          have e17 : a.tmps[17]? = some (.bool true) := by rw [ha]; exact putSel_on (e := (10, 17, .bool true)) 10 rfl rfl (hon 10 (by kernel_rfl)) rfl
          replace ha := Aside0.mk ha
          have HR := Aside0.mk Q_HR
          refine off_ (wanted_off rfl rfl rfl (e17.trans (by first | rfl | (simp [*]; done)))) ?_
          refine hK.out _ _ ⟨(by rw [ha.out]; exact putSel_upk 17 hb_ rfl rfl rfl), Q_HR⟩
        refine steps_cons ?_ ?_
        · rintro b a w' ⟨ha, Q_HR⟩ hb_ hon hoff
          refine ⟨_, rfl, fun K hK => ?_⟩
          have e17 : a.tmps[17]? = some (.bool true) := by rw [ha]; exact putSel_on (e := (10, 17, .bool true)) 10 rfl rfl (hon 10 (by kernel_rfl)) rfl
          replace ha := Aside0.mk ha
          have HR := Aside0.mk Q_HR
          refine off_ (wanted_off rfl rfl rfl (e17.trans (by first | rfl | (simp [*]; done)))) ?_
          refine hK.out _ _ ⟨(by rw [ha.out]; exact putSel_upk 18 hb_ rfl rfl rfl), Q_HR⟩
        refine steps_cons ?_ ?_
        · rintro b a w' ⟨ha, Q_HR⟩ hb_ hon hoff
          refine ⟨_, rfl, fun K hK => ?_⟩
          have e17 : a.tmps[17]? = some (.bool true) := by rw [ha]; exact putSel_on (e := (10, 17, .bool true)) 10 rfl rfl (hon 10 (by kernel_rfl)) rfl
          replace ha := Aside0.mk ha
          have HR := Aside0.mk Q_HR
          refine off_ (wanted_off rfl rfl rfl (e17.trans (by first | rfl | (simp [*]; done)))) ?_
          refine hK.out _ _ ⟨(by rw [ha.out]; exact putSel_upk 19 hb_ rfl rfl rfl), Q_HR⟩
        refine steps_cons ?_ ?_
        · rintro b a w' ⟨ha, Q_HR⟩ hb_ hon hoff
          refine ⟨_, rfl, fun K hK => ?_⟩
          have e17 : a.tmps[17]? = some (.bool true) := by rw [ha]; exact putSel_on (e := (10, 17, .bool true)) 10 rfl rfl (hon 10 (by kernel_rfl)) rfl
          have e26 : a.tmps[26]? = some (undef) := by rw [ha]; exact putSel_on (e := (19, 26, undef)) 19 rfl rfl (hon 19 (by kernel_rfl)) rfl
          replace ha := Aside0.mk ha
          have HR := Aside0.mk Q_HR
          refine value_ (w1 := w') (v := .bool true) (by rfl) rfl ?_ ?_
          · go_simp
            (try simp only [i64_w])
            try rfl
          refine hK.out _ _ ⟨(by rw [ha.out]; exact putSel_upk 20 hb_ rfl rfl rfl), Q_HR⟩
        exact steps_nil
      rintro b a wq hall ⟨ha, Q_HR⟩
      clear HR
      have hb0_ := hall 0 (by kernel_rfl)
      have hb1_ := hall 1 (by kernel_rfl)
      have hb2_ := hall 2 (by kernel_rfl)
      have hb3_ := hall 3 (by kernel_rfl)
      have hb4_ := hall 4 (by kernel_rfl)
      have hb5_ := hall 5 (by kernel_rfl)
      have hb6_ := hall 6 (by kernel_rfl)
      have hb7_ := hall 7 (by kernel_rfl)
      have hb8_ := hall 8 (by kernel_rfl)
      have hb9_ := hall 9 (by kernel_rfl)
      have hb10_ := hall 10 (by kernel_rfl)
      have hb11_ := hall 11 (by kernel_rfl)
      have hb12_ := hall 12 (by kernel_rfl)
      have hb13_ := hall 13 (by kernel_rfl)
      have hb14_ := hall 14 (by kernel_rfl)
      have hb15_ := hall 15 (by kernel_rfl)
      have hb16_ := hall 16 (by kernel_rfl)
      have hb17_ := hall 17 (by kernel_rfl)
      have hb18_ := hall 18 (by kernel_rfl)
      have hb19_ := hall 19 (by kernel_rfl)
      have hb20_ := hall 20 (by kernel_rfl)
      subst ha
      simp only [putSel, hb0_, hb1_, hb2_, hb3_, hb4_, hb5_, hb6_, hb7_, hb8_, hb9_, hb10_, hb11_, hb12_, hb13_, hb14_, hb15_, hb16_, hb17_, hb18_, hb19_, hb20_, if_true, Act.put, List.setIfInBounds_toArray, List.set_cons_zero, List.set_cons_succ]
      have HR := Aside0.mk Q_HR
      clear Q_HR
      clear hall hb0_ hb1_ hb2_ hb3_ hb4_ hb5_ hb6_ hb7_ hb8_ hb9_ hb10_ hb11_ hb12_ hb13_ hb14_ hb15_ hb16_ hb17_ hb18_ hb19_ hb20_
      go_wp2
      go_ret2
      exact ⟨none, 0, 0, false, rfl, .inl ⟨HNO.out, rfl⟩, below_step HB.out HR.out⟩
def c37.T1 : Bool × List (List Nat × List Nat) := (true, [([], []), ([0], [0]), ([1], [1]), ([2], [2]), ([3], [3]), ([4, 3], [3, 4]), ([3], [3]), ([6, 3], [3, 6]), ([5, 7, 3], [3, 5, 7]), ([3, 8], [3, 8]), ([9, 3], [9]), ([10], [10]), ([10], [10]), ([12, 10], [10, 12]), ([11, 13, 10], [10, 11, 13]), ([14, 10], [10, 14]), ([10], [10]), ([16, 10], [10, 16]), ([15, 17, 10], [10, 15, 17]), ([10, 18], [10, 18])])
def c37.B1 : List Nat := [0, 1, 3, 7, 15, 31, 15, 79, 255, 511, 1023, 2047, 2047, 6143, 16383, 32767, 2047, 67583, 262143, 524287]
theorem c37.tab1 : rtab .any (opsOf Try.f37 1) = c37.T1 := by kernel_rfl
theorem c37.bits1 : waitsOk c37.T1.2 c37.B1 = true := by kernel_rfl
set_option maxHeartbeats 8000000 in
set_option maxRecDepth 100000 in
theorem written_calls (w : World) (A0 : Option Addr) (n c : Nat) (l : List Int) (HL : Aside0 (IL .u64 w w.heap.size A0 n l)) (hn : n ≤ 300) (ck ca ci cw cs : Int) (hcs : (Lit.int .u64 cs).wf = true) : Calls Try.prog 37 #[.slice A0 n c, .agg #[.int .i64 ck, .int .i64 ca, .int .i64 ci, .int .u64 cw, .int .u64 cs]] w fun e W' => ChgOut .u64 (chgT l (⟨ck, ca, ci, cw, cs⟩ : Ch)) w e W' := by
  have hll := HL.out.1
  have HB := Aside0.mk (Below.refl w.heap.size w)
  by_cases h1 : ci < 0
  · have hd1 : decide (ci < 0) = true := decide_eq_true h1
    have HNO := Aside0.mk (show chgT l (⟨ck, ca, ci, cw, cs⟩ : Ch) = none from if_neg (fun h => by have := h.1; simp only at this; omega))
    go_enter Try.func37, Try.ntmps37
    go_upto_region 1 with ((with_reducible refine gate_dst (N := 3) rfl ?_); refine box_event ?hg (N := 3) ?hd (cs := #[.int .i64 ck, .int .i64 ca, .int .i64 ci, .int .u64 cw, .int .u64 cs]) (t := 44) ?hr ?_; (case hd => rfl); (case hg => rfl); (case hr => first | (go_simp; done) | (go_simp; rfl)); intro g3 hg w1_ hbox hb; have n0_ := Aside0.mk (below_step (by repeat (first | (with_reducible first | exact HB.out | apply below_alloc | apply pw_below_drewN | apply below_drew1) | exact HB.out)) hb); have n1_ := Aside0.mk hbox; have n2_ := Aside0.mk ((by rw [hg]; exact (below_size (by repeat (first | (with_reducible first | exact HB.out | apply below_alloc | apply pw_below_drewN | apply below_drew1) | exact HB.out)))) : w.heap.size ≤ g3); clear HB; have HB := n0_; have BK3 := n1_; have GE3 := n2_; clear n0_ n1_ n2_; clear hb hbox hg)
    have HR := Aside0.mk (Below.refl w1_.heap.size w1_)
    refine start_ (n := 20) (S := fun w' => True) (ds := []) #[false, false, false, false, false, false, false, false, false, false, false, false, false, false, false, false, false, false, false, false] (by kernel_rfl) rfl rfl trivial (fun hHeld => ?_)
    refine with_tabW c37.tab1 c37.bits1 (fun HT_ HW_ => ?_)
    refine inv_at [0, 1, 2, 3, 4, 5, 6, 7, 8, 9, 10, 11, 12, 13, 14, 15, 16, 17, 18, 19] (fun a0_ b a w' => a = putSel a0_ b [(0, 7, .pointer (some ⟨g3, 2, none⟩)), (1, 8, .int .i64 ci), (2, 9, .bool true), (3, 10, .bool true), (4, 11, undef), (5, 12, undef), (6, 13, undef), (7, 14, undef), (8, 15, undef), (9, 16, .bool true), (10, 17, .bool true), (11, 18, undef), (12, 19, undef), (13, 20, undef), (14, 21, undef), (15, 22, undef), (16, 23, undef), (17, 24, undef), (18, 25, undef), (19, 26, .bool true)] ∧ (Below w1_.heap.size w1_ w')) HT_.out HW_.out (by kernel_rfl) (by kernel_rfl) ?_ ?_ ?_
    · exact ⟨by simp only [putSel, Bool.false_eq_true, if_false], below_drew1 HR.out⟩
    · skip
      clear HR
      refine steps_cons ?_ ?_
      · rintro b a w' ⟨ha, Q_HR⟩ hb_ hon hoff
        refine ⟨_, rfl, fun K hK => ?_⟩
        have e3 : a.tmps[3]? = some (.pointer (some ⟨g3, 0, none⟩)) := by rw [ha]; exact (putSel_off rfl).trans rfl
        replace ha := Aside0.mk ha
        have HR := Aside0.mk Q_HR
        refine value_ (w1 := w') (v := .pointer (some ⟨g3, 2, none⟩)) (by rfl) rfl ?_ ?_
        · go_simp
          (try simp only [i64_w])
          try rfl
        refine hK.out _ _ ⟨(by rw [ha.out]; exact putSel_upk 0 hb_ rfl rfl rfl), Q_HR⟩
      refine steps_cons ?_ ?_
      · rintro b a w' ⟨ha, Q_HR⟩ hb_ hon hoff
        refine ⟨_, rfl, fun K hK => ?_⟩
        have e7 : a.tmps[7]? = some (.pointer (some ⟨g3, 2, none⟩)) := by rw [ha]; exact putSel_on (e := (0, 7, .pointer (some ⟨g3, 2, none⟩))) 0 rfl rfl (hon 0 (by kernel_rfl)) rfl
        replace ha := Aside0.mk ha
        have HR := Aside0.mk Q_HR
        have hl8 : w'.cell? ⟨g3, 2, none⟩ = some (.int .i64 ci) := (blk_cell (blk_below BK3.out HR.out) 2).trans rfl
        refine value_ (w1 := w') (v := .int .i64 ci) (by rfl) rfl ?_ ?_
        · go_simp
          (try simp only [i64_w])
          try rfl
        refine hK.out _ _ ⟨(by rw [ha.out]; exact putSel_upk 1 hb_ rfl rfl rfl), Q_HR⟩
      refine steps_cons ?_ ?_
      · rintro b a w' ⟨ha, Q_HR⟩ hb_ hon hoff
        refine ⟨_, rfl, fun K hK => ?_⟩
        have e8 : a.tmps[8]? = some (.int .i64 ci) := by rw [ha]; exact putSel_on (e := (1, 8, .int .i64 ci)) 1 rfl rfl (hon 1 (by kernel_rfl)) rfl
        replace ha := Aside0.mk ha
        have HR := Aside0.mk Q_HR
        refine value_ (w1 := w') (v := .bool true) (by rfl) rfl ?_ ?_
        · go_simp
          (try simp only [i64_w])
          try rfl
        refine hK.out _ _ ⟨(by rw [ha.out]; exact putSel_upk 2 hb_ rfl rfl rfl), Q_HR⟩
      refine steps_cons ?_ ?_
      · rintro b a w' ⟨ha, Q_HR⟩ hb_ hon hoff
        refine ⟨_, rfl, fun K hK => ?_⟩
        have e9 : a.tmps[9]? = some (.bool true) := by rw [ha]; exact putSel_on (e := (2, 9, .bool true)) 2 rfl rfl (hon 2 (by kernel_rfl)) rfl
        replace ha := Aside0.mk ha
        have HR := Aside0.mk Q_HR
        refine value_ (w1 := w') (v := .bool true) (by rfl) rfl ?_ ?_
        · go_simp
          (try simp only [i64_w])
          try rfl
        refine hK.out _ _ ⟨(by rw [ha.out]; exact putSel_upk 3 hb_ rfl rfl rfl), Q_HR⟩
      refine steps_cons ?_ ?_
      · rintro b a w' ⟨ha, Q_HR⟩ hb_ hon hoff
        refine ⟨_, rfl, fun K hK => ?_⟩
        have e10 : a.tmps[10]? = some (.bool true) := by rw [ha]; exact putSel_on (e := (3, 10, .bool true)) 3 rfl rfl (hon 3 (by kernel_rfl)) rfl
        replace ha := Aside0.mk ha
        have HR := Aside0.mk Q_HR
        refine off_ (wanted_off rfl rfl rfl (e10.trans (by first | rfl | (simp [*]; done)))) ?_
        refine hK.out _ _ ⟨(by rw [ha.out]; exact putSel_upk 4 hb_ rfl rfl rfl), Q_HR⟩
      refine steps_cons ?_ ?_
      · rintro b a w' ⟨ha, Q_HR⟩ hb_ hon hoff
        refine ⟨_, rfl, fun K hK => ?_⟩
        have e10 : a.tmps[10]? = some (.bool true) := by rw [ha]; exact putSel_on (e := (3, 10, .bool true)) 3 rfl rfl (hon 3 (by kernel_rfl)) rfl
        replace ha := Aside0.mk ha
        have HR := Aside0.mk Q_HR
        refine off_ (wanted_off rfl rfl rfl (e10.trans (by first | rfl | (simp [*]; done)))) ?_
        refine hK.out _ _ ⟨(by rw [ha.out]; exact putSel_upk 5 hb_ rfl rfl rfl), Q_HR⟩
      refine steps_cons ?_ ?_
      · rintro b a w' ⟨ha, Q_HR⟩ hb_ hon hoff
        refine ⟨_, rfl, fun K hK => ?_⟩
        have e10 : a.tmps[10]? = some (.bool true) := by rw [ha]; exact putSel_on (e := (3, 10, .bool true)) 3 rfl rfl (hon 3 (by kernel_rfl)) rfl
        replace ha := Aside0.mk ha
        have HR := Aside0.mk Q_HR
        refine off_ (wanted_off rfl rfl rfl (e10.trans (by first | rfl | (simp [*]; done)))) ?_
        refine hK.out _ _ ⟨(by rw [ha.out]; exact putSel_upk 6 hb_ rfl rfl rfl), Q_HR⟩
      refine steps_cons ?_ ?_
      · rintro b a w' ⟨ha, Q_HR⟩ hb_ hon hoff
        refine ⟨_, rfl, fun K hK => ?_⟩
        have e10 : a.tmps[10]? = some (.bool true) := by rw [ha]; exact putSel_on (e := (3, 10, .bool true)) 3 rfl rfl (hon 3 (by kernel_rfl)) rfl
        replace ha := Aside0.mk ha
        have HR := Aside0.mk Q_HR
        refine off_ (wanted_off rfl rfl rfl (e10.trans (by first | rfl | (simp [*]; done)))) ?_
        refine hK.out _ _ ⟨(by rw [ha.out]; exact putSel_upk 7 hb_ rfl rfl rfl), Q_HR⟩
      refine steps_cons ?_ ?_
      · rintro b a w' ⟨ha, Q_HR⟩ hb_ hon hoff
        refine ⟨_, rfl, fun K hK => ?_⟩
        have e10 : a.tmps[10]? = some (.bool true) := by rw [ha]; exact putSel_on (e := (3, 10, .bool true)) 3 rfl rfl (hon 3 (by kernel_rfl)) rfl
        replace ha := Aside0.mk ha
        have HR := Aside0.mk Q_HR
        refine off_ (wanted_off rfl rfl rfl (e10.trans (by first | rfl | (simp [*]; done)))) ?_
        refine hK.out _ _ ⟨(by rw [ha.out]; exact putSel_upk 8 hb_ rfl rfl rfl), Q_HR⟩
      refine steps_cons ?_ ?_
      · rintro b a w' ⟨ha, Q_HR⟩ hb_ hon hoff
        refine ⟨_, rfl, fun K hK => ?_⟩
        have e10 : a.tmps[10]? = some (.bool true) := by rw [ha]; exact putSel_on (e := (3, 10, .bool true)) 3 rfl rfl (hon 3 (by kernel_rfl)) rfl
        have e15 : a.tmps[15]? = some (undef) := by rw [ha]; exact putSel_on (e := (8, 15, undef)) 8 rfl rfl (hon 8 (by kernel_rfl)) rfl
        replace ha := Aside0.mk ha
        have HR := Aside0.mk Q_HR
        refine value_ (w1 := w') (v := .bool true) (by rfl) rfl ?_ ?_
        · go_simp
          (try simp only [i64_w])
          try rfl
        refine hK.out _ _ ⟨(by rw [ha.out]; exact putSel_upk 9 hb_ rfl rfl rfl), Q_HR⟩
      refine steps_cons ?_ ?_
      · rintro b a w' ⟨ha, Q_HR⟩ hb_ hon hoff
        refine ⟨_, rfl, fun K hK => ?_⟩
        have e16 : a.tmps[16]? = some (.bool true) := by rw [ha]; exact putSel_on (e := (9, 16, .bool true)) 9 rfl rfl (hon 9 (by kernel_rfl)) rfl
        replace ha := Aside0.mk ha
        have HR := Aside0.mk Q_HR
        refine value_ (w1 := w') (v := .bool true) (by rfl) rfl ?_ ?_
        · go_simp
          (try simp only [i64_w])
          try rfl
        refine hK.out _ _ ⟨(by rw [ha.out]; exact putSel_upk 10 hb_ rfl rfl rfl), Q_HR⟩
      refine steps_cons ?_ ?_
      · rintro b a w' ⟨ha, Q_HR⟩ hb_ hon hoff
        refine ⟨_, rfl, fun K hK => ?_⟩
        have e17 : a.tmps[17]? = some (.bool true) := by rw [ha]; exact putSel_on (e := (10, 17, .bool true)) 10 rfl rfl (hon 10 (by kernel_rfl)) rfl
        replace ha := Aside0.mk ha
        have HR := Aside0.mk Q_HR
        refine off_ (wanted_off rfl rfl rfl (e17.trans (by first | rfl | (simp [*]; done)))) ?_
        refine hK.out _ _ ⟨(by rw [ha.out]; exact putSel_upk 11 hb_ rfl rfl rfl), Q_HR⟩
      refine steps_cons ?_ ?_
      · rintro b a w' ⟨ha, Q_HR⟩ hb_ hon hoff
        refine ⟨_, rfl, fun K hK => ?_⟩
        have e17 : a.tmps[17]? = some (.bool true) := by rw [ha]; exact putSel_on (e := (10, 17, .bool true)) 10 rfl rfl (hon 10 (by kernel_rfl)) rfl
        replace ha := Aside0.mk ha
        have HR := Aside0.mk Q_HR
        refine off_ (wanted_off rfl rfl rfl (e17.trans (by first | rfl | (simp [*]; done)))) ?_
        refine hK.out _ _ ⟨(by rw [ha.out]; exact putSel_upk 12 hb_ rfl rfl rfl), Q_HR⟩
      refine steps_cons ?_ ?_
      · rintro b a w' ⟨ha, Q_HR⟩ hb_ hon hoff
        refine ⟨_, rfl, fun K hK => ?_⟩
        have e17 : a.tmps[17]? = some (.bool true) := by rw [ha]; exact putSel_on (e := (10, 17, .bool true)) 10 rfl rfl (hon 10 (by kernel_rfl)) rfl
        replace ha := Aside0.mk ha
        have HR := Aside0.mk Q_HR
        refine off_ (wanted_off rfl rfl rfl (e17.trans (by first | rfl | (simp [*]; done)))) ?_
        refine hK.out _ _ ⟨(by rw [ha.out]; exact putSel_upk 13 hb_ rfl rfl rfl), Q_HR⟩
      refine steps_cons ?_ ?_
      · rintro b a w' ⟨ha, Q_HR⟩ hb_ hon hoff
        refine ⟨_, rfl, fun K hK => ?_⟩
        have e17 : a.tmps[17]? = some (.bool true) := by rw [ha]; exact putSel_on (e := (10, 17, .bool true)) 10 rfl rfl (hon 10 (by kernel_rfl)) rfl
        replace ha := Aside0.mk ha
        have HR := Aside0.mk Q_HR
        refine off_ (wanted_off rfl rfl rfl (e17.trans (by first | rfl | (simp [*]; done)))) ?_
        refine hK.out _ _ ⟨(by rw [ha.out]; exact putSel_upk 14 hb_ rfl rfl rfl), Q_HR⟩
      refine steps_cons ?_ ?_
      · rintro b a w' ⟨ha, Q_HR⟩ hb_ hon hoff
        refine ⟨_, rfl, fun K hK => ?_⟩
        have e17 : a.tmps[17]? = some (.bool true) := by rw [ha]; exact putSel_on (e := (10, 17, .bool true)) 10 rfl rfl (hon 10 (by kernel_rfl)) rfl
        replace ha := Aside0.mk ha
        have HR := Aside0.mk Q_HR
        refine off_ (wanted_off rfl rfl rfl (e17.trans (by first | rfl | (simp [*]; done)))) ?_
        refine hK.out _ _ ⟨(by rw [ha.out]; exact putSel_upk 15 hb_ rfl rfl rfl), Q_HR⟩
      refine steps_cons ?_ ?_
      · rintro b a w' ⟨ha, Q_HR⟩ hb_ hon hoff
        refine ⟨_, rfl, fun K hK => ?_⟩
        have e17 : a.tmps[17]? = some (.bool true) := by rw [ha]; exact putSel_on (e := (10, 17, .bool true)) 10 rfl rfl (hon 10 (by kernel_rfl)) rfl
        replace ha := Aside0.mk ha
        have HR := Aside0.mk Q_HR
        refine off_ (wanted_off rfl rfl rfl (e17.trans (by first | rfl | (simp [*]; done)))) ?_
        refine hK.out _ _ ⟨(by rw [ha.out]; exact putSel_upk 16 hb_ rfl rfl rfl), Q_HR⟩
      refine steps_cons ?_ ?_
      · rintro b a w' ⟨ha, Q_HR⟩ hb_ hon hoff
        refine ⟨_, rfl, fun K hK => ?_⟩
        have e17 : a.tmps[17]? = some (.bool true) := by rw [ha]; exact putSel_on (e := (10, 17, .bool true)) 10 rfl rfl (hon 10 (by kernel_rfl)) rfl
        replace ha := Aside0.mk ha
        have HR := Aside0.mk Q_HR
        refine off_ (wanted_off rfl rfl rfl (e17.trans (by first | rfl | (simp [*]; done)))) ?_
        refine hK.out _ _ ⟨(by rw [ha.out]; exact putSel_upk 17 hb_ rfl rfl rfl), Q_HR⟩
      refine steps_cons ?_ ?_
      · rintro b a w' ⟨ha, Q_HR⟩ hb_ hon hoff
        refine ⟨_, rfl, fun K hK => ?_⟩
        have e17 : a.tmps[17]? = some (.bool true) := by rw [ha]; exact putSel_on (e := (10, 17, .bool true)) 10 rfl rfl (hon 10 (by kernel_rfl)) rfl
        replace ha := Aside0.mk ha
        have HR := Aside0.mk Q_HR
        refine off_ (wanted_off rfl rfl rfl (e17.trans (by first | rfl | (simp [*]; done)))) ?_
        refine hK.out _ _ ⟨(by rw [ha.out]; exact putSel_upk 18 hb_ rfl rfl rfl), Q_HR⟩
      refine steps_cons ?_ ?_
      · rintro b a w' ⟨ha, Q_HR⟩ hb_ hon hoff
        refine ⟨_, rfl, fun K hK => ?_⟩
        have e17 : a.tmps[17]? = some (.bool true) := by rw [ha]; exact putSel_on (e := (10, 17, .bool true)) 10 rfl rfl (hon 10 (by kernel_rfl)) rfl
        have e25 : a.tmps[25]? = some (undef) := by rw [ha]; exact putSel_on (e := (18, 25, undef)) 18 rfl rfl (hon 18 (by kernel_rfl)) rfl
        replace ha := Aside0.mk ha
        have HR := Aside0.mk Q_HR
        refine value_ (w1 := w') (v := .bool true) (by rfl) rfl ?_ ?_
        · go_simp
          (try simp only [i64_w])
          try rfl
        refine hK.out _ _ ⟨(by rw [ha.out]; exact putSel_upk 19 hb_ rfl rfl rfl), Q_HR⟩
      exact steps_nil
    rintro b a wq hall ⟨ha, Q_HR⟩
    clear HR
    have hb0_ := hall 0 (by kernel_rfl)
    have hb1_ := hall 1 (by kernel_rfl)
    have hb2_ := hall 2 (by kernel_rfl)
    have hb3_ := hall 3 (by kernel_rfl)
    have hb4_ := hall 4 (by kernel_rfl)
    have hb5_ := hall 5 (by kernel_rfl)
    have hb6_ := hall 6 (by kernel_rfl)
    have hb7_ := hall 7 (by kernel_rfl)
    have hb8_ := hall 8 (by kernel_rfl)
    have hb9_ := hall 9 (by kernel_rfl)
    have hb10_ := hall 10 (by kernel_rfl)
    have hb11_ := hall 11 (by kernel_rfl)
    have hb12_ := hall 12 (by kernel_rfl)
    have hb13_ := hall 13 (by kernel_rfl)
    have hb14_ := hall 14 (by kernel_rfl)
    have hb15_ := hall 15 (by kernel_rfl)
    have hb16_ := hall 16 (by kernel_rfl)
    have hb17_ := hall 17 (by kernel_rfl)
    have hb18_ := hall 18 (by kernel_rfl)
    have hb19_ := hall 19 (by kernel_rfl)
    subst ha
    simp only [putSel, hb0_, hb1_, hb2_, hb3_, hb4_, hb5_, hb6_, hb7_, hb8_, hb9_, hb10_, hb11_, hb12_, hb13_, hb14_, hb15_, hb16_, hb17_, hb18_, hb19_, if_true, Act.put, List.setIfInBounds_toArray, List.set_cons_zero, List.set_cons_succ]
    have HR := Aside0.mk Q_HR
    clear Q_HR
    clear hall hb0_ hb1_ hb2_ hb3_ hb4_ hb5_ hb6_ hb7_ hb8_ hb9_ hb10_ hb11_ hb12_ hb13_ hb14_ hb15_ hb16_ hb17_ hb18_ hb19_
    go_wp2
    go_ret2
    exact ⟨none, 0, 0, false, rfl, .inl ⟨HNO.out, rfl⟩, below_step HB.out HR.out⟩
  · have hd1 : decide (ci < 0) = false := decide_eq_false h1
    by_cases h2 : ci < (n : Int)
    · obtain ⟨k, rfl⟩ : ∃ k : Nat, ci = (k : Int) := ⟨ci.toNat, by omega⟩
      have hkn : k < n := by omega
      have hkl : k < l.length := by omega
      obtain ⟨y, e, hyb, hyc⟩ := HL.out.2 k hkn
      subst e
      obtain ⟨x, hx⟩ : ∃ x, x = l.getD k 0 := ⟨_, rfl⟩
      rw [← hx] at hyc
      have hi0 : (0 : Int) ≤ (k : Int) := by omega
      have hi1 : (k : Int) < (n : Int) := by omega
      have hd2 : decide ((k : Int) ≥ (n : Int)) = false := decide_eq_false (by omega)
      have hd2' : decide ((n : Int) ≤ (k : Int)) = false := decide_eq_false (by omega)
      obtain ⟨bb, hbb⟩ : ∃ b, (x != cw) = b := ⟨_, rfl⟩
      have HBB := Aside0.mk hbb
      have HX := Aside0.mk hx
      clear hx
      go_enter Try.func37, Try.ntmps37
      go_upto_region 1 with ((with_reducible refine gate_dst (N := 3) rfl ?_); refine box_event ?hg (N := 3) ?hd (cs := #[.int .i64 ck, .int .i64 ca, .int .i64 (k : Int), .int .u64 cw, .int .u64 cs]) (t := 44) ?hr ?_; (case hd => rfl); (case hg => rfl); (case hr => first | (go_simp; done) | (go_simp; rfl)); intro g3 hg w1_ hbox hb; have n0_ := Aside0.mk (below_step (by repeat (first | (with_reducible first | exact HB.out | apply below_alloc | apply pw_below_drewN | apply below_drew1) | exact HB.out)) hb); have n1_ := Aside0.mk hbox; have n2_ := Aside0.mk ((by rw [hg]; exact (below_size (by repeat (first | (with_reducible first | exact HB.out | apply below_alloc | apply pw_below_drewN | apply below_drew1) | exact HB.out)))) : w.heap.size ≤ g3); clear HB; have HB := n0_; have BK3 := n1_; have GE3 := n2_; clear n0_ n1_ n2_; clear hb hbox hg)
      have hyc1 : w1_.cell? (y.add k) = some (.int .u64 x) := (HB.out.cell (p := y.add k) (cell_lt hyc)).trans hyc
      clear hyc
      have hyc := hyc1
      clear hyc1
      have HR := Aside0.mk (Below.refl w1_.heap.size w1_)
      refine start_ (n := 20) (S := fun w' => True) (ds := []) #[false, false, false, false, false, false, false, false, false, false, false, false, false, false, false, false, false, false, false, false] (by kernel_rfl) rfl rfl trivial (fun hHeld => ?_)
      refine with_tabW c37.tab1 c37.bits1 (fun HT_ HW_ => ?_)
      refine inv_at [0, 1, 2, 3, 4, 5, 6, 7, 8, 9, 10, 11, 12, 13, 14, 15, 16, 17, 18, 19] (fun a0_ b a w' => a = putSel a0_ b [(0, 7, .pointer (some ⟨g3, 2, none⟩)), (1, 8, .int .i64 (k : Int)), (2, 9, .bool false), (3, 10, .bool false), (4, 11, .pointer (some ⟨g3, 2, none⟩)), (5, 12, .int .i64 (k : Int)), (6, 13, .slice (some y) n c), (7, 14, .int .i64 (n : Int)), (8, 15, .bool false), (9, 16, .bool false), (10, 17, .bool false), (11, 18, .slice (some y) n c), (12, 19, .pointer (some ⟨g3, 2, none⟩)), (13, 20, .int .i64 (k : Int)), (14, 21, .pointer (some (y.add k))), (15, 22, .int .u64 x), (16, 23, .pointer (some ⟨g3, 3, none⟩)), (17, 24, .int .u64 cw), (18, 25, .bool bb), (19, 26, .bool bb)] ∧ (Below w1_.heap.size w1_ w')) HT_.out HW_.out (by kernel_rfl) (by kernel_rfl) ?_ ?_ ?_
      · exact ⟨by simp only [putSel, Bool.false_eq_true, if_false], below_drew1 HR.out⟩
      · skip
        clear HR
        refine steps_cons ?_ ?_
        · rintro b a w' ⟨ha, Q_HR⟩ hb_ hon hoff
          refine ⟨_, rfl, fun K hK => ?_⟩
          have e3 : a.tmps[3]? = some (.pointer (some ⟨g3, 0, none⟩)) := by rw [ha]; exact (putSel_off rfl).trans rfl
          replace ha := Aside0.mk ha
          have HR := Aside0.mk Q_HR
          refine value_ (w1 := w') (v := .pointer (some ⟨g3, 2, none⟩)) (by rfl) rfl ?_ ?_
          · go_simp
            (try simp only [i64_w])
            try rfl
          refine hK.out _ _ ⟨(by rw [ha.out]; exact putSel_upk 0 hb_ rfl rfl rfl), Q_HR⟩
        refine steps_cons ?_ ?_
        · rintro b a w' ⟨ha, Q_HR⟩ hb_ hon hoff
          refine ⟨_, rfl, fun K hK => ?_⟩
          have e7 : a.tmps[7]? = some (.pointer (some ⟨g3, 2, none⟩)) := by rw [ha]; exact putSel_on (e := (0, 7, .pointer (some ⟨g3, 2, none⟩))) 0 rfl rfl (hon 0 (by kernel_rfl)) rfl
          replace ha := Aside0.mk ha
          have HR := Aside0.mk Q_HR
          have hl8 : w'.cell? ⟨g3, 2, none⟩ = some (.int .i64 (k : Int)) := (blk_cell (blk_below BK3.out HR.out) 2).trans rfl
          refine value_ (w1 := w') (v := .int .i64 (k : Int)) (by rfl) rfl ?_ ?_
          · go_simp
            (try simp only [i64_w])
            try rfl
          refine hK.out _ _ ⟨(by rw [ha.out]; exact putSel_upk 1 hb_ rfl rfl rfl), Q_HR⟩
        refine steps_cons ?_ ?_
        · rintro b a w' ⟨ha, Q_HR⟩ hb_ hon hoff
          refine ⟨_, rfl, fun K hK => ?_⟩
          have e8 : a.tmps[8]? = some (.int .i64 (k : Int)) := by rw [ha]; exact putSel_on (e := (1, 8, .int .i64 (k : Int))) 1 rfl rfl (hon 1 (by kernel_rfl)) rfl
          replace ha := Aside0.mk ha
          have HR := Aside0.mk Q_HR
          refine value_ (w1 := w') (v := .bool false) (by rfl) rfl ?_ ?_
          · go_simp
            (try simp only [i64_w])
            try rfl
          refine hK.out _ _ ⟨(by rw [ha.out]; exact putSel_upk 2 hb_ rfl rfl rfl), Q_HR⟩
        refine steps_cons ?_ ?_
        · rintro b a w' ⟨ha, Q_HR⟩ hb_ hon hoff
          refine ⟨_, rfl, fun K hK => ?_⟩
          have e9 : a.tmps[9]? = some (.bool false) := by rw [ha]; exact putSel_on (e := (2, 9, .bool false)) 2 rfl rfl (hon 2 (by kernel_rfl)) rfl
          replace ha := Aside0.mk ha
          have HR := Aside0.mk Q_HR
          refine value_ (w1 := w') (v := .bool false) (by rfl) rfl ?_ ?_
          · go_simp
            (try simp only [i64_w])
            try rfl
          refine hK.out _ _ ⟨(by rw [ha.out]; exact putSel_upk 3 hb_ rfl rfl rfl), Q_HR⟩
        refine steps_cons ?_ ?_
        · rintro b a w' ⟨ha, Q_HR⟩ hb_ hon hoff
          refine ⟨_, rfl, fun K hK => ?_⟩
          have e3 : a.tmps[3]? = some (.pointer (some ⟨g3, 0, none⟩)) := by rw [ha]; exact (putSel_off rfl).trans rfl
          have e10 : a.tmps[10]? = some (.bool false) := by rw [ha]; exact putSel_on (e := (3, 10, .bool false)) 3 rfl rfl (hon 3 (by kernel_rfl)) rfl
          replace ha := Aside0.mk ha
          have HR := Aside0.mk Q_HR
          refine value_ (w1 := w') (v := .pointer (some ⟨g3, 2, none⟩)) (wanted_on rfl rfl rfl (e10.trans (by first | rfl | (simp [*]; done)))) rfl ?_ ?_
          · go_simp
            (try simp only [i64_w])
            try rfl
          refine hK.out _ _ ⟨(by rw [ha.out]; exact putSel_upk 4 hb_ rfl rfl rfl), Q_HR⟩
        refine steps_cons ?_ ?_
        · rintro b a w' ⟨ha, Q_HR⟩ hb_ hon hoff
          refine ⟨_, rfl, fun K hK => ?_⟩
          have e11 : a.tmps[11]? = some (.pointer (some ⟨g3, 2, none⟩)) := by rw [ha]; exact putSel_on (e := (4, 11, .pointer (some ⟨g3, 2, none⟩))) 4 rfl rfl (hon 4 (by kernel_rfl)) rfl
          have e10 : a.tmps[10]? = some (.bool false) := by rw [ha]; exact putSel_on (e := (3, 10, .bool false)) 3 rfl rfl (hon 3 (by kernel_rfl)) rfl
          replace ha := Aside0.mk ha
          have HR := Aside0.mk Q_HR
          have hl12 : w'.cell? ⟨g3, 2, none⟩ = some (.int .i64 (k : Int)) := (blk_cell (blk_below BK3.out HR.out) 2).trans rfl
          refine value_ (w1 := w') (v := .int .i64 (k : Int)) (wanted_on rfl rfl rfl (e10.trans (by first | rfl | (simp [*]; done)))) rfl ?_ ?_
          · go_simp
            (try simp only [i64_w])
            try rfl
          refine hK.out _ _ ⟨(by rw [ha.out]; exact putSel_upk 5 hb_ rfl rfl rfl), Q_HR⟩
        refine steps_cons ?_ ?_
        · rintro b a w' ⟨ha, Q_HR⟩ hb_ hon hoff
          refine ⟨_, rfl, fun K hK => ?_⟩
          have e0 : a.tmps[0]? = some (.slice (some y) n c) := by rw [ha]; exact (putSel_off rfl).trans rfl
          have e10 : a.tmps[10]? = some (.bool false) := by rw [ha]; exact putSel_on (e := (3, 10, .bool false)) 3 rfl rfl (hon 3 (by kernel_rfl)) rfl
          replace ha := Aside0.mk ha
          have HR := Aside0.mk Q_HR
          refine value_ (w1 := w') (v := .slice (some y) n c) (wanted_on rfl rfl rfl (e10.trans (by first | rfl | (simp [*]; done)))) rfl ?_ ?_
          · go_simp
            (try simp only [i64_w])
            try rfl
          refine hK.out _ _ ⟨(by rw [ha.out]; exact putSel_upk 6 hb_ rfl rfl rfl), Q_HR⟩
        refine steps_cons ?_ ?_
        · rintro b a w' ⟨ha, Q_HR⟩ hb_ hon hoff
          refine ⟨_, rfl, fun K hK => ?_⟩
          have e13 : a.tmps[13]? = some (.slice (some y) n c) := by rw [ha]; exact putSel_on (e := (6, 13, .slice (some y) n c)) 6 rfl rfl (hon 6 (by kernel_rfl)) rfl
          have e10 : a.tmps[10]? = some (.bool false) := by rw [ha]; exact putSel_on (e := (3, 10, .bool false)) 3 rfl rfl (hon 3 (by kernel_rfl)) rfl
          replace ha := Aside0.mk ha
          have HR := Aside0.mk Q_HR
          refine value_ (w1 := w') (v := .int .i64 (n : Int)) (wanted_on rfl rfl rfl (e10.trans (by first | rfl | (simp [*]; done)))) rfl ?_ ?_
          · go_simp
            (try simp only [i64_w])
            try rfl
          refine hK.out _ _ ⟨(by rw [ha.out]; exact putSel_upk 7 hb_ rfl rfl rfl), Q_HR⟩
        refine steps_cons ?_ ?_
        · rintro b a w' ⟨ha, Q_HR⟩ hb_ hon hoff
          refine ⟨_, rfl, fun K hK => ?_⟩
          have e12 : a.tmps[12]? = some (.int .i64 (k : Int)) := by rw [ha]; exact putSel_on (e := (5, 12, .int .i64 (k : Int))) 5 rfl rfl (hon 5 (by kernel_rfl)) rfl
          have e14 : a.tmps[14]? = some (.int .i64 (n : Int)) := by rw [ha]; exact putSel_on (e := (7, 14, .int .i64 (n : Int))) 7 rfl rfl (hon 7 (by kernel_rfl)) rfl
          have e10 : a.tmps[10]? = some (.bool false) := by rw [ha]; exact putSel_on (e := (3, 10, .bool false)) 3 rfl rfl (hon 3 (by kernel_rfl)) rfl
          replace ha := Aside0.mk ha
          have HR := Aside0.mk Q_HR
          refine value_ (w1 := w') (v := .bool false) (wanted_on rfl rfl rfl (e10.trans (by first | rfl | (simp [*]; done)))) rfl ?_ ?_
          · go_simp
            (try simp only [i64_w])
            try rfl
          refine hK.out _ _ ⟨(by rw [ha.out]; exact putSel_upk 8 hb_ rfl rfl rfl), Q_HR⟩
        refine steps_cons ?_ ?_
        · rintro b a w' ⟨ha, Q_HR⟩ hb_ hon hoff
          refine ⟨_, rfl, fun K hK => ?_⟩
          have e10 : a.tmps[10]? = some (.bool false) := by rw [ha]; exact putSel_on (e := (3, 10, .bool false)) 3 rfl rfl (hon 3 (by kernel_rfl)) rfl
          have e15 : a.tmps[15]? = some (.bool false) := by rw [ha]; exact putSel_on (e := (8, 15, .bool false)) 8 rfl rfl (hon 8 (by kernel_rfl)) rfl
          replace ha := Aside0.mk ha
          have HR := Aside0.mk Q_HR
          refine value_ (w1 := w') (v := .bool false) (by rfl) rfl ?_ ?_
          · go_simp
            (try simp only [i64_w])
            try rfl
          refine hK.out _ _ ⟨(by rw [ha.out]; exact putSel_upk 9 hb_ rfl rfl rfl), Q_HR⟩
        refine steps_cons ?_ ?_
        · rintro b a w' ⟨ha, Q_HR⟩ hb_ hon hoff
          refine ⟨_, rfl, fun K hK => ?_⟩
          have e16 : a.tmps[16]? = some (.bool false) := by rw [ha]; exact putSel_on (e := (9, 16, .bool false)) 9 rfl rfl (hon 9 (by kernel_rfl)) rfl
          replace ha := Aside0.mk ha
          have HR := Aside0.mk Q_HR
          refine value_ (w1 := w') (v := .bool false) (by rfl) rfl ?_ ?_
          · go_simp
            (try simp only [i64_w])
            try rfl
          refine hK.out _ _ ⟨(by rw [ha.out]; exact putSel_upk 10 hb_ rfl rfl rfl), Q_HR⟩
        refine steps_cons ?_ ?_
        · rintro b a w' ⟨ha, Q_HR⟩ hb_ hon hoff
          refine ⟨_, rfl, fun K hK => ?_⟩
          have e0 : a.tmps[0]? = some (.slice (some y) n c) := by rw [ha]; exact (putSel_off rfl).trans rfl
          have e17 : a.tmps[17]? = some (.bool false) := by rw [ha]; exact putSel_on (e := (10, 17, .bool false)) 10 rfl rfl (hon 10 (by kernel_rfl)) rfl
          replace ha := Aside0.mk ha
          have HR := Aside0.mk Q_HR
          refine value_ (w1 := w') (v := .slice (some y) n c) (wanted_on rfl rfl rfl (e17.trans (by first | rfl | (simp [*]; done)))) rfl ?_ ?_
          · go_simp
            (try simp only [i64_w])
            try rfl
          refine hK.out _ _ ⟨(by rw [ha.out]; exact putSel_upk 11 hb_ rfl rfl rfl), Q_HR⟩
        refine steps_cons ?_ ?_
        · rintro b a w' ⟨ha, Q_HR⟩ hb_ hon hoff
          refine ⟨_, rfl, fun K hK => ?_⟩
          have e3 : a.tmps[3]? = some (.pointer (some ⟨g3, 0, none⟩)) := by rw [ha]; exact (putSel_off rfl).trans rfl
          have e17 : a.tmps[17]? = some (.bool false) := by rw [ha]; exact putSel_on (e := (10, 17, .bool false)) 10 rfl rfl (hon 10 (by kernel_rfl)) rfl
          replace ha := Aside0.mk ha
          have HR := Aside0.mk Q_HR
          refine value_ (w1 := w') (v := .pointer (some ⟨g3, 2, none⟩)) (wanted_on rfl rfl rfl (e17.trans (by first | rfl | (simp [*]; done)))) rfl ?_ ?_
          · go_simp
            (try simp only [i64_w])
            try rfl
          refine hK.out _ _ ⟨(by rw [ha.out]; exact putSel_upk 12 hb_ rfl rfl rfl), Q_HR⟩
        refine steps_cons ?_ ?_
        · rintro b a w' ⟨ha, Q_HR⟩ hb_ hon hoff
          refine ⟨_, rfl, fun K hK => ?_⟩
          have e19 : a.tmps[19]? = some (.pointer (some ⟨g3, 2, none⟩)) := by rw [ha]; exact putSel_on (e := (12, 19, .pointer (some ⟨g3, 2, none⟩))) 12 rfl rfl (hon 12 (by kernel_rfl)) rfl
          have e17 : a.tmps[17]? = some (.bool false) := by rw [ha]; exact putSel_on (e := (10, 17, .bool false)) 10 rfl rfl (hon 10 (by kernel_rfl)) rfl
          replace ha := Aside0.mk ha
          have HR := Aside0.mk Q_HR
          have hl20 : w'.cell? ⟨g3, 2, none⟩ = some (.int .i64 (k : Int)) := (blk_cell (blk_below BK3.out HR.out) 2).trans rfl
          refine value_ (w1 := w') (v := .int .i64 (k : Int)) (wanted_on rfl rfl rfl (e17.trans (by first | rfl | (simp [*]; done)))) rfl ?_ ?_
          · go_simp
            (try simp only [i64_w])
            try rfl
          refine hK.out _ _ ⟨(by rw [ha.out]; exact putSel_upk 13 hb_ rfl rfl rfl), Q_HR⟩
        refine steps_cons ?_ ?_
        · rintro b a w' ⟨ha, Q_HR⟩ hb_ hon hoff
          refine ⟨_, rfl, fun K hK => ?_⟩
          have e18 : a.tmps[18]? = some (.slice (some y) n c) := by rw [ha]; exact putSel_on (e := (11, 18, .slice (some y) n c)) 11 rfl rfl (hon 11 (by kernel_rfl)) rfl
          have e20 : a.tmps[20]? = some (.int .i64 (k : Int)) := by rw [ha]; exact putSel_on (e := (13, 20, .int .i64 (k : Int))) 13 rfl rfl (hon 13 (by kernel_rfl)) rfl
          have e17 : a.tmps[17]? = some (.bool false) := by rw [ha]; exact putSel_on (e := (10, 17, .bool false)) 10 rfl rfl (hon 10 (by kernel_rfl)) rfl
          replace ha := Aside0.mk ha
          have HR := Aside0.mk Q_HR
          refine value_ (w1 := w') (v := .pointer (some (y.add k))) (wanted_on rfl rfl rfl (e17.trans (by first | rfl | (simp [*]; done)))) rfl ?_ ?_
          · go_simp
            (try simp only [i64_w])
            try rfl
          refine hK.out _ _ ⟨(by rw [ha.out]; exact putSel_upk 14 hb_ rfl rfl rfl), Q_HR⟩
        refine steps_cons ?_ ?_
        · rintro b a w' ⟨ha, Q_HR⟩ hb_ hon hoff
          refine ⟨_, rfl, fun K hK => ?_⟩
          have e21 : a.tmps[21]? = some (.pointer (some (y.add k))) := by rw [ha]; exact putSel_on (e := (14, 21, .pointer (some (y.add k)))) 14 rfl rfl (hon 14 (by kernel_rfl)) rfl
          have e17 : a.tmps[17]? = some (.bool false) := by rw [ha]; exact putSel_on (e := (10, 17, .bool false)) 10 rfl rfl (hon 10 (by kernel_rfl)) rfl
          replace ha := Aside0.mk ha
          have HR := Aside0.mk Q_HR
          have hl22 : w'.cell? (y.add k) = some (.int .u64 x) := (HR.out.cell (p := y.add k) (cell_lt hyc)).trans hyc
          refine value_ (w1 := w') (v := .int .u64 x) (wanted_on rfl rfl rfl (e17.trans (by first | rfl | (simp [*]; done)))) rfl ?_ ?_
          · go_simp
            (try simp only [i64_w])
            try rfl
          refine hK.out _ _ ⟨(by rw [ha.out]; exact putSel_upk 15 hb_ rfl rfl rfl), Q_HR⟩
        refine steps_cons ?_ ?_
        · rintro b a w' ⟨ha, Q_HR⟩ hb_ hon hoff
          refine ⟨_, rfl, fun K hK => ?_⟩
          have e3 : a.tmps[3]? = some (.pointer (some ⟨g3, 0, none⟩)) := by rw [ha]; exact (putSel_off rfl).trans rfl
          have e17 : a.tmps[17]? = some (.bool false) := by rw [ha]; exact putSel_on (e := (10, 17, .bool false)) 10 rfl rfl (hon 10 (by kernel_rfl)) rfl
          replace ha := Aside0.mk ha
          have HR := Aside0.mk Q_HR
          refine value_ (w1 := w') (v := .pointer (some ⟨g3, 3, none⟩)) (wanted_on rfl rfl rfl (e17.trans (by first | rfl | (simp [*]; done)))) rfl ?_ ?_
          · go_simp
            (try simp only [i64_w])
            try rfl
          refine hK.out _ _ ⟨(by rw [ha.out]; exact putSel_upk 16 hb_ rfl rfl rfl), Q_HR⟩
        refine steps_cons ?_ ?_
        · rintro b a w' ⟨ha, Q_HR⟩ hb_ hon hoff
          refine ⟨_, rfl, fun K hK => ?_⟩
          have e23 : a.tmps[23]? = some (.pointer (some ⟨g3, 3, none⟩)) := by rw [ha]; exact putSel_on (e := (16, 23, .pointer (some ⟨g3, 3, none⟩))) 16 rfl rfl (hon 16 (by kernel_rfl)) rfl
          have e17 : a.tmps[17]? = some (.bool false) := by rw [ha]; exact putSel_on (e := (10, 17, .bool false)) 10 rfl rfl (hon 10 (by kernel_rfl)) rfl
          replace ha := Aside0.mk ha
          have HR := Aside0.mk Q_HR
          have hl24 : w'.cell? ⟨g3, 3, none⟩ = some (.int .u64 cw) := (blk_cell (blk_below BK3.out HR.out) 3).trans rfl
          refine value_ (w1 := w') (v := .int .u64 cw) (wanted_on rfl rfl rfl (e17.trans (by first | rfl | (simp [*]; done)))) rfl ?_ ?_
          · go_simp
            (try simp only [i64_w])
            try rfl
          refine hK.out _ _ ⟨(by rw [ha.out]; exact putSel_upk 17 hb_ rfl rfl rfl), Q_HR⟩
        refine steps_cons ?_ ?_
        · rintro b a w' ⟨ha, Q_HR⟩ hb_ hon hoff
          refine ⟨_, rfl, fun K hK => ?_⟩
          have e22 : a.tmps[22]? = some (.int .u64 x) := by rw [ha]; exact putSel_on (e := (15, 22, .int .u64 x)) 15 rfl rfl (hon 15 (by kernel_rfl)) rfl
          have e24 : a.tmps[24]? = some (.int .u64 cw) := by rw [ha]; exact putSel_on (e := (17, 24, .int .u64 cw)) 17 rfl rfl (hon 17 (by kernel_rfl)) rfl
          have e17 : a.tmps[17]? = some (.bool false) := by rw [ha]; exact putSel_on (e := (10, 17, .bool false)) 10 rfl rfl (hon 10 (by kernel_rfl)) rfl
          replace ha := Aside0.mk ha
          have HR := Aside0.mk Q_HR
          refine value_ (w1 := w') (v := .bool bb) (wanted_on rfl rfl rfl (e17.trans (by first | rfl | (simp [*]; done)))) rfl ?_ ?_
          · go_simp
            (try simp only [i64_w])
            try rfl
          refine hK.out _ _ ⟨(by rw [ha.out]; exact putSel_upk 18 hb_ rfl rfl rfl), Q_HR⟩
        refine steps_cons ?_ ?_
        · rintro b a w' ⟨ha, Q_HR⟩ hb_ hon hoff
          refine ⟨_, rfl, fun K hK => ?_⟩
          have e17 : a.tmps[17]? = some (.bool false) := by rw [ha]; exact putSel_on (e := (10, 17, .bool false)) 10 rfl rfl (hon 10 (by kernel_rfl)) rfl
          have e25 : a.tmps[25]? = some (.bool bb) := by rw [ha]; exact putSel_on (e := (18, 25, .bool bb)) 18 rfl rfl (hon 18 (by kernel_rfl)) rfl
          replace ha := Aside0.mk ha
          have HR := Aside0.mk Q_HR
          refine value_ (w1 := w') (v := .bool bb) (by rfl) rfl ?_ ?_
          · go_simp
            (try simp only [i64_w])
            try rfl
          refine hK.out _ _ ⟨(by rw [ha.out]; exact putSel_upk 19 hb_ rfl rfl rfl), Q_HR⟩
        exact steps_nil
      rintro b a wq hall ⟨ha, Q_HR⟩
      clear HR
      have hb0_ := hall 0 (by kernel_rfl)
      have hb1_ := hall 1 (by kernel_rfl)
      have hb2_ := hall 2 (by kernel_rfl)
      have hb3_ := hall 3 (by kernel_rfl)
      have hb4_ := hall 4 (by kernel_rfl)
      have hb5_ := hall 5 (by kernel_rfl)
      have hb6_ := hall 6 (by kernel_rfl)
      have hb7_ := hall 7 (by kernel_rfl)
      have hb8_ := hall 8 (by kernel_rfl)
      have hb9_ := hall 9 (by kernel_rfl)
      have hb10_ := hall 10 (by kernel_rfl)
      have hb11_ := hall 11 (by kernel_rfl)
      have hb12_ := hall 12 (by kernel_rfl)
      have hb13_ := hall 13 (by kernel_rfl)
      have hb14_ := hall 14 (by kernel_rfl)
      have hb15_ := hall 15 (by kernel_rfl)
      have hb16_ := hall 16 (by kernel_rfl)
      have hb17_ := hall 17 (by kernel_rfl)
      have hb18_ := hall 18 (by kernel_rfl)
      have hb19_ := hall 19 (by kernel_rfl)
      subst ha
      simp only [putSel, hb0_, hb1_, hb2_, hb3_, hb4_, hb5_, hb6_, hb7_, hb8_, hb9_, hb10_, hb11_, hb12_, hb13_, hb14_, hb15_, hb16_, hb17_, hb18_, hb19_, if_true, Act.put, List.setIfInBounds_toArray, List.set_cons_zero, List.set_cons_succ]
      have HR := Aside0.mk Q_HR
      clear Q_HR
      clear hall hb0_ hb1_ hb2_ hb3_ hb4_ hb5_ hb6_ hb7_ hb8_ hb9_ hb10_ hb11_ hb12_ hb13_ hb14_ hb15_ hb16_ hb17_ hb18_ hb19_
      clear hbb hyc
      have BKq := Aside0.mk (blk_below BK3.out HR.out)
      have HBq := Aside0.mk (below_step HB.out HR.out)
      have HLq := Aside0.mk (HL.out.to HBq.out)
      cases bb with
      | true =>
        have HNO := Aside0.mk (show chgT l (⟨ck, ca, (k : Int), cw, cs⟩ : Ch) = none from if_neg (fun h => by
          have h3 := h.2.2
          simp only [Int.toNat_natCast] at h3
          rw [← HX.out] at h3
          have := HBB.out
          rw [show x = cw from h3] at this
          simp at this))
        go_wp2
        go_ret2
        exact ⟨none, 0, 0, false, rfl, .inl ⟨HNO.out, rfl⟩, below_step HB.out HR.out⟩
      | false =>
        have he : x = cw := by simpa using HBB.out
        have HYES := Aside0.mk (show chgT l (⟨ck, ca, (k : Int), cw, cs⟩ : Ch) = some (l.set k cs) from if_pos ⟨by simp only; omega, by simp only; omega, by simp only [Int.toNat_natCast]; rw [← HX.out]; exact he⟩)
        clear he
        go_wp2_with (go_at_call 55; refine (clone55_calls _ (some y) n c l (Aside0.mk (HLq.out)) hn).mono ?_; rintro e w3 ⟨v3, rfl, hr3, hb3⟩; obtain ⟨gc, cc, rfl⟩ := row1_some (Nat.lt_of_le_of_lt (Nat.zero_le _) hkn) hr3; have ROW3 := Aside0.mk hr3; have HB3 := Aside0.mk hb3; have hx2 : w3.cell? ⟨g3, 2, none⟩ = some (.int .i64 (k : Int)) := (blk_cell (blk_below BKq.out hb3) 2).trans rfl; have hx4 : w3.cell? ⟨g3, 4, none⟩ = some (.int .u64 cs) := (blk_cell (blk_below BKq.out hb3) 4).trans rfl; have hy0 := hr3.cellAt k (by rw [Nat.mul_one]; exact hkn); rw [List.getElem?_map, getD_at (show k < l.length by omega)] at hy0; have hyf := hr3.frozenAt k; clear hr3 hb3)
        go_ret2
        have hst := (ROW3.out.stored k (.int .u64 cs)).1
        rw [← List.map_set (f := Value.int .u64)] at hst
        have hgc := (ROW3.out.lt gc rfl).1
        have hsz := HBq.out.size
        skip
        obtain ⟨a7, c7, e7, h7⟩ := IL_of_row hst
        cases e7
        exact ⟨_, _, _, true, rfl, .inr ⟨_, HYES.out, rfl, h7, fun y e => by cases e; exact Nat.le_trans hsz hgc⟩, below_set (below_step HBq.out HB3.out) (Nat.le_trans hsz hgc)⟩
    · have hd2 : decide (ci ≥ (n : Int)) = true := decide_eq_true (by omega)
      have hd2' : decide ((n : Int) ≤ ci) = true := decide_eq_true (by omega)
      have HNO := Aside0.mk (show chgT l (⟨ck, ca, ci, cw, cs⟩ : Ch) = none from if_neg (fun h => by have := h.2.1; simp only at this; omega))
      go_enter Try.func37, Try.ntmps37
      go_upto_region 1 with ((with_reducible refine gate_dst (N := 3) rfl ?_); refine box_event ?hg (N := 3) ?hd (cs := #[.int .i64 ck, .int .i64 ca, .int .i64 ci, .int .u64 cw, .int .u64 cs]) (t := 44) ?hr ?_; (case hd => rfl); (case hg => rfl); (case hr => first | (go_simp; done) | (go_simp; rfl)); intro g3 hg w1_ hbox hb; have n0_ := Aside0.mk (below_step (by repeat (first | (with_reducible first | exact HB.out | apply below_alloc | apply pw_below_drewN | apply below_drew1) | exact HB.out)) hb); have n1_ := Aside0.mk hbox; have n2_ := Aside0.mk ((by rw [hg]; exact (below_size (by repeat (first | (with_reducible first | exact HB.out | apply below_alloc | apply pw_below_drewN | apply below_drew1) | exact HB.out)))) : w.heap.size ≤ g3); clear HB; have HB := n0_; have BK3 := n1_; have GE3 := n2_; clear n0_ n1_ n2_; clear hb hbox hg)
      have HR := Aside0.mk (Below.refl w1_.heap.size w1_)
      refine start_ (n := 20) (S := fun w' => True) (ds := []) #[false, false, false, false, false, false, false, false, false, false, false, false, false, false, false, false, false, false, false, false] (by kernel_rfl) rfl rfl trivial (fun hHeld => ?_)
      refine with_tabW c37.tab1 c37.bits1 (fun HT_ HW_ => ?_)
      refine inv_at [0, 1, 2, 3, 4, 5, 6, 7, 8, 9, 10, 11, 12, 13, 14, 15, 16, 17, 18, 19] (fun a0_ b a w' => a = putSel a0_ b [(0, 7, .pointer (some ⟨g3, 2, none⟩)), (1, 8, .int .i64 ci), (2, 9, .bool false), (3, 10, .bool false), (4, 11, .pointer (some ⟨g3, 2, none⟩)), (5, 12, .int .i64 ci), (6, 13, .slice A0 n c), (7, 14, .int .i64 (n : Int)), (8, 15, .bool true), (9, 16, .bool true), (10, 17, .bool true), (11, 18, undef), (12, 19, undef), (13, 20, undef), (14, 21, undef), (15, 22, undef), (16, 23, undef), (17, 24, undef), (18, 25, undef), (19, 26, .bool true)] ∧ (Below w1_.heap.size w1_ w')) HT_.out HW_.out (by kernel_rfl) (by kernel_rfl) ?_ ?_ ?_
      · exact ⟨by simp only [putSel, Bool.false_eq_true, if_false], below_drew1 HR.out⟩
      · skip
        clear HR
        refine steps_cons ?_ ?_
        · rintro b a w' ⟨ha, Q_HR⟩ hb_ hon hoff
          refine ⟨_, rfl, fun K hK => ?_⟩
          have e3 : a.tmps[3]? = some (.pointer (some ⟨g3, 0, none⟩)) := by rw [ha]; exact (putSel_off rfl).trans rfl
          replace ha := Aside0.mk ha
          have HR := Aside0.mk Q_HR
          refine value_ (w1 := w') (v := .pointer (some ⟨g3, 2, none⟩)) (by rfl) rfl ?_ ?_
          · go_simp
            (try simp only [i64_w])
            try rfl
          refine hK.out _ _ ⟨(by rw [ha.out]; exact putSel_upk 0 hb_ rfl rfl rfl), Q_HR⟩
        refine steps_cons ?_ ?_
        · rintro b a w' ⟨ha, Q_HR⟩ hb_ hon hoff
          refine ⟨_, rfl, fun K hK => ?_⟩
          have e7 : a.tmps[7]? = some (.pointer (some ⟨g3, 2, none⟩)) := by rw [ha]; exact putSel_on (e := (0, 7, .pointer (some ⟨g3, 2, none⟩))) 0 rfl rfl (hon 0 (by kernel_rfl)) rfl
          replace ha := Aside0.mk ha
          have HR := Aside0.mk Q_HR
          have hl8 : w'.cell? ⟨g3, 2, none⟩ = some (.int .i64 ci) := (blk_cell (blk_below BK3.out HR.out) 2).trans rfl
          refine value_ (w1 := w') (v := .int .i64 ci) (by rfl) rfl ?_ ?_
          · go_simp
            (try simp only [i64_w])
            try rfl
          refine hK.out _ _ ⟨(by rw [ha.out]; exact putSel_upk 1 hb_ rfl rfl rfl), Q_HR⟩
        refine steps_cons ?_ ?_
        · rintro b a w' ⟨ha, Q_HR⟩ hb_ hon hoff
          refine ⟨_, rfl, fun K hK => ?_⟩
          have e8 : a.tmps[8]? = some (.int .i64 ci) := by rw [ha]; exact putSel_on (e := (1, 8, .int .i64 ci)) 1 rfl rfl (hon 1 (by kernel_rfl)) rfl
          replace ha := Aside0.mk ha
          have HR := Aside0.mk Q_HR
          refine value_ (w1 := w') (v := .bool false) (by rfl) rfl ?_ ?_
          · go_simp
            (try simp only [i64_w])
            try rfl
          refine hK.out _ _ ⟨(by rw [ha.out]; exact putSel_upk 2 hb_ rfl rfl rfl), Q_HR⟩
        refine steps_cons ?_ ?_
        · rintro b a w' ⟨ha, Q_HR⟩ hb_ hon hoff
          refine ⟨_, rfl, fun K hK => ?_⟩
          have e9 : a.tmps[9]? = some (.bool false) := by rw [ha]; exact putSel_on (e := (2, 9, .bool false)) 2 rfl rfl (hon 2 (by kernel_rfl)) rfl
          replace ha := Aside0.mk ha
          have HR := Aside0.mk Q_HR
          refine value_ (w1 := w') (v := .bool false) (by rfl) rfl ?_ ?_
          · go_simp
            (try simp only [i64_w])
            try rfl
          refine hK.out _ _ ⟨(by rw [ha.out]; exact putSel_upk 3 hb_ rfl rfl rfl), Q_HR⟩
        refine steps_cons ?_ ?_
        · rintro b a w' ⟨ha, Q_HR⟩ hb_ hon hoff
          refine ⟨_, rfl, fun K hK => ?_⟩
          have e3 : a.tmps[3]? = some (.pointer (some ⟨g3, 0, none⟩)) := by rw [ha]; exact (putSel_off rfl).trans rfl
          have e10 : a.tmps[10]? = some (.bool false) := by rw [ha]; exact putSel_on (e := (3, 10, .bool false)) 3 rfl rfl (hon 3 (by kernel_rfl)) rfl
          replace ha := Aside0.mk ha
          have HR := Aside0.mk Q_HR
          refine value_ (w1 := w') (v := .pointer (some ⟨g3, 2, none⟩)) (wanted_on rfl rfl rfl (e10.trans (by first | rfl | (simp [*]; done)))) rfl ?_ ?_
          · go_simp
            (try simp only [i64_w])
            try rfl
          refine hK.out _ _ ⟨(by rw [ha.out]; exact putSel_upk 4 hb_ rfl rfl rfl), Q_HR⟩
        refine steps_cons ?_ ?_
        · rintro b a w' ⟨ha, Q_HR⟩ hb_ hon hoff
          refine ⟨_, rfl, fun K hK => ?_⟩
          have e11 : a.tmps[11]? = some (.pointer (some ⟨g3, 2, none⟩)) := by rw [ha]; exact putSel_on (e := (4, 11, .pointer (some ⟨g3, 2, none⟩))) 4 rfl rfl (hon 4 (by kernel_rfl)) rfl
          have e10 : a.tmps[10]? = some (.bool false) := by rw [ha]; exact putSel_on (e := (3, 10, .bool false)) 3 rfl rfl (hon 3 (by kernel_rfl)) rfl
          replace ha := Aside0.mk ha
          have HR := Aside0.mk Q_HR
          have hl12 : w'.cell? ⟨g3, 2, none⟩ = some (.int .i64 ci) := (blk_cell (blk_below BK3.out HR.out) 2).trans rfl
          refine value_ (w1 := w') (v := .int .i64 ci) (wanted_on rfl rfl rfl (e10.trans (by first | rfl | (simp [*]; done)))) rfl ?_ ?_
          · go_simp
            (try simp only [i64_w])
            try rfl
          refine hK.out _ _ ⟨(by rw [ha.out]; exact putSel_upk 5 hb_ rfl rfl rfl), Q_HR⟩
        refine steps_cons ?_ ?_
        · rintro b a w' ⟨ha, Q_HR⟩ hb_ hon hoff
          refine ⟨_, rfl, fun K hK => ?_⟩
          have e0 : a.tmps[0]? = some (.slice A0 n c) := by rw [ha]; exact (putSel_off rfl).trans rfl
          have e10 : a.tmps[10]? = some (.bool false) := by rw [ha]; exact putSel_on (e := (3, 10, .bool false)) 3 rfl rfl (hon 3 (by kernel_rfl)) rfl
          replace ha := Aside0.mk ha
          have HR := Aside0.mk Q_HR
          refine value_ (w1 := w') (v := .slice A0 n c) (wanted_on rfl rfl rfl (e10.trans (by first | rfl | (simp [*]; done)))) rfl ?_ ?_
          · go_simp
            (try simp only [i64_w])
            try rfl
          refine hK.out _ _ ⟨(by rw [ha.out]; exact putSel_upk 6 hb_ rfl rfl rfl), Q_HR⟩
        refine steps_cons ?_ ?_
        · rintro b a w' ⟨ha, Q_HR⟩ hb_ hon hoff
          refine ⟨_, rfl, fun K hK => ?_⟩
          have e13 : a.tmps[13]? = some (.slice A0 n c) := by rw [ha]; exact putSel_on (e := (6, 13, .slice A0 n c)) 6 rfl rfl (hon 6 (by kernel_rfl)) rfl
          have e10 : a.tmps[10]? = some (.bool false) := by rw [ha]; exact putSel_on (e := (3, 10, .bool false)) 3 rfl rfl (hon 3 (by kernel_rfl)) rfl
          replace ha := Aside0.mk ha
          have HR := Aside0.mk Q_HR
          refine value_ (w1 := w') (v := .int .i64 (n : Int)) (wanted_on rfl rfl rfl (e10.trans (by first | rfl | (simp [*]; done)))) rfl ?_ ?_
          · go_simp
            (try simp only [i64_w])
            try rfl
          refine hK.out _ _ ⟨(by rw [ha.out]; exact putSel_upk 7 hb_ rfl rfl rfl), Q_HR⟩
        refine steps_cons ?_ ?_
        · rintro b a w' ⟨ha, Q_HR⟩ hb_ hon hoff
          refine ⟨_, rfl, fun K hK => ?_⟩
          have e12 : a.tmps[12]? = some (.int .i64 ci) := by rw [ha]; exact putSel_on (e := (5, 12, .int .i64 ci)) 5 rfl rfl (hon 5 (by kernel_rfl)) rfl
          have e14 : a.tmps[14]? = some (.int .i64 (n : Int)) := by rw [ha]; exact putSel_on (e := (7, 14, .int .i64 (n : Int))) 7 rfl rfl (hon 7 (by kernel_rfl)) rfl
          have e10 : a.tmps[10]? = some (.bool false) := by rw [ha]; exact putSel_on (e := (3, 10, .bool false)) 3 rfl rfl (hon 3 (by kernel_rfl)) rfl
          replace ha := Aside0.mk ha
          have HR := Aside0.mk Q_HR
          refine value_ (w1 := w') (v := .bool true) (wanted_on rfl rfl rfl (e10.trans (by first | rfl | (simp [*]; done)))) rfl ?_ ?_
          · go_simp
            (try simp only [i64_w])
            try rfl
          refine hK.out _ _ ⟨(by rw [ha.out]; exact putSel_upk 8 hb_ rfl rfl rfl), Q_HR⟩
        refine steps_cons ?_ ?_
        · rintro b a w' ⟨ha, Q_HR⟩ hb_ hon hoff
          refine ⟨_, rfl, fun K hK => ?_⟩
          have e10 : a.tmps[10]? = some (.bool false) := by rw [ha]; exact putSel_on (e := (3, 10, .bool false)) 3 rfl rfl (hon 3 (by kernel_rfl)) rfl
          have e15 : a.tmps[15]? = some (.bool true) := by rw [ha]; exact putSel_on (e := (8, 15, .bool true)) 8 rfl rfl (hon 8 (by kernel_rfl)) rfl
          replace ha := Aside0.mk ha
          have HR := Aside0.mk Q_HR
          refine value_ (w1 := w') (v := .bool true) (by rfl) rfl ?_ ?_
          · go_simp
            (try simp only [i64_w])
            try rfl
          refine hK.out _ _ ⟨(by rw [ha.out]; exact putSel_upk 9 hb_ rfl rfl rfl), Q_HR⟩
        refine steps_cons ?_ ?_
        · rintro b a w' ⟨ha, Q_HR⟩ hb_ hon hoff
          refine ⟨_, rfl, fun K hK => ?_⟩
          have e16 : a.tmps[16]? = some (.bool true) := by rw [ha]; exact putSel_on (e := (9, 16, .bool true)) 9 rfl rfl (hon 9 (by kernel_rfl)) rfl
          replace ha := Aside0.mk ha
          have HR := Aside0.mk Q_HR
          refine value_ (w1 := w') (v := .bool true) (by rfl) rfl ?_ ?_
          · go_simp
            (try simp only [i64_w])
            try rfl
          refine hK.out _ _ ⟨(by rw [ha.out]; exact putSel_upk 10 hb_ rfl rfl rfl), Q_HR⟩
        refine steps_cons ?_ ?_
        · rintro b a w' ⟨ha, Q_HR⟩ hb_ hon hoff
          refine ⟨_, rfl, fun K hK => ?_⟩
          have e17 : a.tmps[17]? = some (.bool true) := by rw [ha]; exact putSel_on (e := (10, 17, .bool true)) 10 rfl rfl (hon 10 (by kernel_rfl)) rfl
          replace ha := Aside0.mk ha
          have HR := Aside0.mk Q_HR
          refine off_ (wanted_off rfl rfl rfl (e17.trans (by first | rfl | (simp [*]; done)))) ?_
          refine hK.out _ _ ⟨(by rw [ha.out]; exact putSel_upk 11 hb_ rfl rfl rfl), Q_HR⟩
        refine steps_cons ?_ ?_
        · rintro b a w' ⟨ha, Q_HR⟩ hb_ hon hoff
          refine ⟨_, rfl, fun K hK => ?_⟩
          have e17 : a.tmps[17]? = some (.bool true) := by rw [ha]; exact putSel_on (e := (10, 17, .bool true)) 10 rfl rfl (hon 10 (by kernel_rfl)) rfl
          replace ha := Aside0.mk ha
          have HR := Aside0.mk Q_HR
          refine off_ (wanted_off rfl rfl rfl (e17.trans (by first | rfl | (simp [*]; done)))) ?_
          refine hK.out _ _ ⟨(by rw [ha.out]; exact putSel_upk 12 hb_ rfl rfl rfl), Q_HR⟩
        refine steps_cons ?_ ?_
        · rintro b a w' ⟨ha, Q_HR⟩ hb_ hon hoff
          refine ⟨_, rfl, fun K hK => ?_⟩
          have e17 : a.tmps[17]? = some (.bool true) := by rw [ha]; exact putSel_on (e := (10, 17, .bool true)) 10 rfl rfl (hon 10 (by kernel_rfl)) rfl
          replace ha := Aside0.mk ha
          have HR := Aside0.mk Q_HR
          refine off_ (wanted_off rfl rfl rfl (e17.trans (by first | rfl | (simp [*]; done)))) ?_
          refine hK.out _ _ ⟨(by rw [ha.out]; exact putSel_upk 13 hb_ rfl rfl rfl), Q_HR⟩
        refine steps_cons ?_ ?_
        · rintro b a w' ⟨ha, Q_HR⟩ hb_ hon hoff
          refine ⟨_, rfl, fun K hK => ?_⟩
          have e17 : a.tmps[17]? = some (.bool true) := by rw [ha]; exact putSel_on (e := (10, 17, .bool true)) 10 rfl rfl (hon 10 (by kernel_rfl)) rfl
          replace ha := Aside0.mk ha
          have HR := Aside0.mk Q_HR
          refine off_ (wanted_off rfl rfl rfl (e17.trans (by first | rfl | (simp [*]; done)))) ?_
          refine hK.out _ _ ⟨(by rw [ha.out]; exact putSel_upk 14 hb_ rfl rfl rfl), Q_HR⟩
        refine steps_cons ?_ ?_
        · rintro b a w' ⟨ha, Q_HR⟩ hb_ hon hoff
          refine ⟨_, rfl, fun K hK => ?_⟩
          have e17 : a.tmps[17]? = some (.bool true) := by rw [ha]; exact putSel_on (e := (10, 17, .bool true)) 10 rfl rfl (hon 10 (by kernel_rfl)) rfl
          replace ha := Aside0.mk ha
          have HR := Aside0.mk Q_HR
          refine off_ (wanted_off rfl rfl rfl (e17.trans (by first | rfl | (simp [*]; done)))) ?_
          refine hK.out _ _ ⟨(by rw [ha.out]; exact putSel_upk 15 hb_ rfl rfl rfl), Q_HR⟩
        refine steps_cons ?_ ?_
        · rintro b a w' ⟨ha, Q_HR⟩ hb_ hon hoff
          refine ⟨_, rfl, fun K hK => ?_⟩
          have e17 : a.tmps[17]? = some (.bool true) := by rw [ha]; exact putSel_on (e := (10, 17, .bool true)) 10 rfl rfl (hon 10 (by kernel_rfl)) rfl
          replace ha := Aside0.mk ha
          have HR := Aside0.mk Q_HR
          refine off_ (wanted_off rfl rfl rfl (e17.trans (by first | rfl | (simp [*]; done)))) ?_
          refine hK.out _ _ ⟨(by rw [ha.out]; exact putSel_upk 16 hb_ rfl rfl rfl), Q_HR⟩
        refine steps_cons ?_ ?_
        · rintro b a w' ⟨ha, Q_HR⟩ hb_ hon hoff
          refine ⟨_, rfl, fun K hK => ?_⟩
          have e17 : a.tmps[17]? = some (.bool true) := by rw [ha]; exact putSel_on (e := (10, 17, .bool true)) 10 rfl rfl (hon 10 (by kernel_rfl)) rfl
          replace ha := Aside0.mk ha
          have HR := Aside0.mk Q_HR
          refine off_ (wanted_off rfl rfl rfl (e17.trans (by first | rfl | (simp [*]; done)))) ?_
          refine hK.out _ _ ⟨(by rw [ha.out]; exact putSel_upk 17 hb_ rfl rfl rfl), Q_HR⟩
        refine steps_cons ?_ ?_
        · rintro b a w' ⟨ha, Q_HR⟩ hb_ hon hoff
          refine ⟨_, rfl, fun K hK => ?_⟩
          have e17 : a.tmps[17]? = some (.bool true) := by rw [ha]; exact putSel_on (e := (10, 17, .bool true)) 10 rfl rfl (hon 10 (by kernel_rfl)) rfl
          replace ha := Aside0.mk ha
          have HR := Aside0.mk Q_HR
          refine off_ (wanted_off rfl rfl rfl (e17.trans (by first | rfl | (simp [*]; done)))) ?_
          refine hK.out _ _ ⟨(by rw [ha.out]; exact putSel_upk 18 hb_ rfl rfl rfl), Q_HR⟩
        refine steps_cons ?_ ?_
        · rintro b a w' ⟨ha, Q_HR⟩ hb_ hon hoff
          refine ⟨_, rfl, fun K hK => ?_⟩
          have e17 : a.tmps[17]? = some (.bool true) := by rw [ha]; exact putSel_on (e := (10, 17, .bool true)) 10 rfl rfl (hon 10 (by kernel_rfl)) rfl
          have e25 : a.tmps[25]? = some (undef) := by rw [ha]; exact putSel_on (e := (18, 25, undef)) 18 rfl rfl (hon 18 (by kernel_rfl)) rfl
          replace ha := Aside0.mk ha
          have HR := Aside0.mk Q_HR
          refine value_ (w1 := w') (v := .bool true) (by rfl) rfl ?_ ?_
          · go_simp
            (try simp only [i64_w])
            try rfl
          refine hK.out _ _ ⟨(by rw [ha.out]; exact putSel_upk 19 hb_ rfl rfl rfl), Q_HR⟩
        exact steps_nil
      rintro b a wq hall ⟨ha, Q_HR⟩
      clear HR
      have hb0_ := hall 0 (by kernel_rfl)
      have hb1_ := hall 1 (by kernel_rfl)
      have hb2_ := hall 2 (by kernel_rfl)
      have hb3_ := hall 3 (by kernel_rfl)
      have hb4_ := hall 4 (by kernel_rfl)
      have hb5_ := hall 5 (by kernel_rfl)
      have hb6_ := hall 6 (by kernel_rfl)
      have hb7_ := hall 7 (by kernel_rfl)
      have hb8_ := hall 8 (by kernel_rfl)
      have hb9_ := hall 9 (by kernel_rfl)
      have hb10_ := hall 10 (by kernel_rfl)
      have hb11_ := hall 11 (by kernel_rfl)
      have hb12_ := hall 12 (by kernel_rfl)
      have hb13_ := hall 13 (by kernel_rfl)
      have hb14_ := hall 14 (by kernel_rfl)
      have hb15_ := hall 15 (by kernel_rfl)
      have hb16_ := hall 16 (by kernel_rfl)
      have hb17_ := hall 17 (by kernel_rfl)
      have hb18_ := hall 18 (by kernel_rfl)
      have hb19_ := hall 19 (by kernel_rfl)
      subst ha
      simp only [putSel, hb0_, hb1_, hb2_, hb3_, hb4_, hb5_, hb6_, hb7_, hb8_, hb9_, hb10_, hb11_, hb12_, hb13_, hb14_, hb15_, hb16_, hb17_, hb18_, hb19_, if_true, Act.put, List.setIfInBounds_toArray, List.set_cons_zero, List.set_cons_succ]
      have HR := Aside0.mk Q_HR
      clear Q_HR
      clear hall hb0_ hb1_ hb2_ hb3_ hb4_ hb5_ hb6_ hb7_ hb8_ hb9_ hb10_ hb11_ hb12_ hb13_ hb14_ hb15_ hb16_ hb17_ hb18_ hb19_
      go_wp2
      go_ret2
      exact ⟨none, 0, 0, false, rfl, .inl ⟨HNO.out, rfl⟩, below_step HB.out HR.out⟩
end Go.Proofs.Ytekggbmajemmhaa.Gr
