/- Functions that the law ClassesOf reaches, each as a Lean function with its contract (text made from the kit's print, turned by hand where it did not build). No condition beyond what each theorem states. -/
import Derived.Test.YtbdedbhafciilaaCls0
import Derived.Test.YtbdedbhafciilaaCls1
namespace Go.Proofs.Ytbdedbhafciilaa.Cls
open Go.RowKit Go.Proofs.YtbdedbhafciilaaW.PrintWords Go.Proofs.YtbdedbhafciilaaW.PrintLast Go.Proofs.YtbdedbhafciilaaW.PrintMore
attribute [local go_sem] max2_int min2_int max_two min_two max_three min_three max_four min_four   -- for this text's walks alone
set_option linter.unusedVariables false
set_option linter.unusedSimpArgs false

/-! ### trencherlaw06_ClassesOf: function 3 -/
mutual
def trencherlaw06_ClassesOf.j0 : Nat → Int → Int → Int → Bool → Option (Bool)
  | 0, _, _, _, _ => none
  | k + 1, x0, x1, x5, x28 => if x28 = true then (some false) else ((trencherref06_Size.f x1).bind fun t123 => (if t123 > 0 then ((classes_Blocks.f x1).bind fun t124 => (if t123 = 0 then (none) else (if t124 = (wrap64 ((64 : Int) / t123)) then (trencherlaw06_ClassesOf.j1 k x0 x5 false) else (trencherlaw06_ClassesOf.j1 k x0 x5 true)))) else (if t123 = 0 then ((classes_Blocks.f x1).bind fun t125 => (trencherlaw06_ClassesOf.j1 k x0 x5 (t125 != 0))) else (trencherlaw06_ClassesOf.j1 k x0 x5 false))))
def trencherlaw06_ClassesOf.j1 : Nat → Int → Int → Bool → Option (Bool)
  | 0, _, _, _ => none
  | k + 1, x0, x5, x48 => if x48 = true then (some false) else (if x5 ≥ 0 then (trencherlaw06_ClassesOf.j2 k x0 x5 (decide (x5 < 4))) else (trencherlaw06_ClassesOf.j2 k x0 x5 false))
def trencherlaw06_ClassesOf.j2 : Nat → Int → Int → Bool → Option (Bool)
  | 0, _, _, _ => none
  | k + 1, x0, x5, x54 => if x54 = true then ((classes_Size.f x5).bind fun t126 => (if x0 < t126 then (if x5 = 0 then (some true) else ((classes_Size.f (wrap64 (x5 - 1))).bind fun t127 => (some (decide (x0 ≥ t127))))) else (some false))) else (if x5 = 4 then ((classes_Spans.f k x0).bind fun t128 => (if x0 < (wrap64 (64 * t128)) then ((classes_Spans.f k x0).bind fun t129 => (some (decide (x0 ≥ (wrap64 (64 * (wrap64 (t129 - 1)))))))) else (some false))) else (some true))
end
def trencherlaw06_ClassesOf.f (k : Nat) (a0 : Int) (a1 : Int) : Option (Bool) := (trencherlaw06_alive.f k).bind fun t116 => (if t116 = true then ((classes_Of.f k a0).bind fun t117 => ((trencherref06_Of.f k a0).bind fun t118 => (if t117 = t118 then ((classes_Spans.f k a0).bind fun t119 => ((trencherref06_Spans.f k a0).bind fun t120 => (if t119 = t120 then ((classes_Size.f a1).bind fun t121 => ((trencherref06_Size.f a1).bind fun t122 => (trencherlaw06_ClassesOf.j0 k a0 a1 t117 (t121 != t122)))) else (trencherlaw06_ClassesOf.j0 k a0 a1 t117 true)))) else (trencherlaw06_ClassesOf.j0 k a0 a1 t117 true)))) else (some false))
theorem trencherlaw06_ClassesOf.mono_l : ∀ k, (∀ y0 y1 y2 y3, LeO (trencherlaw06_ClassesOf.j0 k y0 y1 y2 y3) (trencherlaw06_ClassesOf.j0 (k + 1) y0 y1 y2 y3)) ∧ (∀ y0 y1 y2, LeO (trencherlaw06_ClassesOf.j1 k y0 y1 y2) (trencherlaw06_ClassesOf.j1 (k + 1) y0 y1 y2)) ∧ (∀ y0 y1 y2, LeO (trencherlaw06_ClassesOf.j2 k y0 y1 y2) (trencherlaw06_ClassesOf.j2 (k + 1) y0 y1 y2))
  | 0 => ⟨fun _ _ _ _ r h => by simp [trencherlaw06_ClassesOf.j0] at h, fun _ _ _ r h => by simp [trencherlaw06_ClassesOf.j1] at h, fun _ _ _ r h => by simp [trencherlaw06_ClassesOf.j2] at h⟩
  | k + 1 => by
    obtain ⟨ih0, ih1, ih2⟩ := trencherlaw06_ClassesOf.mono_l k
    refine ⟨?_, ?_, ?_⟩
    · intro y0 y1 y2 y3
      unfold trencherlaw06_ClassesOf.j0
      repeat' first
      | (with_reducible exact ih0 _ _ _ _)
      | (with_reducible exact ih1 _ _ _)
      | (with_reducible exact ih2 _ _ _)
      | (with_reducible exact classes_Of.mono _ _)
      | (with_reducible exact classes_Spans.mono _ _)
      | (with_reducible exact trencherlaw06_alive.mono _)
      | (with_reducible exact trencherref06_Of.mono _ _)
      | (with_reducible exact trencherref06_Spans.mono _ _)
      | (with_reducible exact LeO.refl _)
      | (with_reducible exact LeO.none _)
      | (with_reducible refine LeO.ite ?_ ?_)
      | (with_reducible refine LeO.bind ?_ (fun _ => ?_))
      | exact ih0 _ _ _ _
      | exact ih1 _ _ _
      | exact ih2 _ _ _
      | exact classes_Of.mono _ _
      | exact classes_Spans.mono _ _
      | exact trencherlaw06_alive.mono _
      | exact trencherref06_Of.mono _ _
      | exact trencherref06_Spans.mono _ _
      | exact LeO.none _
      | refine LeO.ite ?_ ?_
      | refine LeO.bind ?_ (fun _ => ?_)
    · intro y0 y1 y2
      unfold trencherlaw06_ClassesOf.j1
      repeat' first
      | (with_reducible exact ih0 _ _ _ _)
      | (with_reducible exact ih1 _ _ _)
      | (with_reducible exact ih2 _ _ _)
      | (with_reducible exact classes_Of.mono _ _)
      | (with_reducible exact classes_Spans.mono _ _)
      | (with_reducible exact trencherlaw06_alive.mono _)
      | (with_reducible exact trencherref06_Of.mono _ _)
      | (with_reducible exact trencherref06_Spans.mono _ _)
      | (with_reducible exact LeO.refl _)
      | (with_reducible exact LeO.none _)
      | (with_reducible refine LeO.ite ?_ ?_)
      | (with_reducible refine LeO.bind ?_ (fun _ => ?_))
      | exact ih0 _ _ _ _
      | exact ih1 _ _ _
      | exact ih2 _ _ _
      | exact classes_Of.mono _ _
      | exact classes_Spans.mono _ _
      | exact trencherlaw06_alive.mono _
      | exact trencherref06_Of.mono _ _
      | exact trencherref06_Spans.mono _ _
      | exact LeO.none _
      | refine LeO.ite ?_ ?_
      | refine LeO.bind ?_ (fun _ => ?_)
    · intro y0 y1 y2
      unfold trencherlaw06_ClassesOf.j2
      repeat' first
      | (with_reducible exact ih0 _ _ _ _)
      | (with_reducible exact ih1 _ _ _)
      | (with_reducible exact ih2 _ _ _)
      | (with_reducible exact classes_Of.mono _ _)
      | (with_reducible exact classes_Spans.mono _ _)
      | (with_reducible exact trencherlaw06_alive.mono _)
      | (with_reducible exact trencherref06_Of.mono _ _)
      | (with_reducible exact trencherref06_Spans.mono _ _)
      | (with_reducible exact LeO.refl _)
      | (with_reducible exact LeO.none _)
      | (with_reducible refine LeO.ite ?_ ?_)
      | (with_reducible refine LeO.bind ?_ (fun _ => ?_))
      | exact ih0 _ _ _ _
      | exact ih1 _ _ _
      | exact ih2 _ _ _
      | exact classes_Of.mono _ _
      | exact classes_Spans.mono _ _
      | exact trencherlaw06_alive.mono _
      | exact trencherref06_Of.mono _ _
      | exact trencherref06_Spans.mono _ _
      | exact LeO.none _
      | refine LeO.ite ?_ ?_
      | refine LeO.bind ?_ (fun _ => ?_)
theorem trencherlaw06_ClassesOf.mono : ∀ a0 a1 k, LeO (trencherlaw06_ClassesOf.f k a0 a1) (trencherlaw06_ClassesOf.f (k + 1) a0 a1) := by
  intro a0 a1 k
  obtain ⟨ih0, ih1, ih2⟩ := trencherlaw06_ClassesOf.mono_l k
  unfold trencherlaw06_ClassesOf.f
  repeat' first
      | (with_reducible exact ih0 _ _ _ _)
      | (with_reducible exact ih1 _ _ _)
      | (with_reducible exact ih2 _ _ _)
      | (with_reducible exact classes_Of.mono _ _)
      | (with_reducible exact classes_Spans.mono _ _)
      | (with_reducible exact trencherlaw06_alive.mono _)
      | (with_reducible exact trencherref06_Of.mono _ _)
      | (with_reducible exact trencherref06_Spans.mono _ _)
      | (with_reducible exact LeO.refl _)
      | (with_reducible exact LeO.none _)
      | (with_reducible refine LeO.ite ?_ ?_)
      | (with_reducible refine LeO.bind ?_ (fun _ => ?_))
      | exact ih0 _ _ _ _
      | exact ih1 _ _ _
      | exact ih2 _ _ _
      | exact classes_Of.mono _ _
      | exact classes_Spans.mono _ _
      | exact trencherlaw06_alive.mono _
      | exact trencherref06_Of.mono _ _
      | exact trencherref06_Spans.mono _ _
      | exact LeO.none _
      | refine LeO.ite ?_ ?_
      | refine LeO.bind ?_ (fun _ => ?_)
set_option maxHeartbeats 8000000 in
set_option maxRecDepth 100000 in
theorem trencherlaw06_ClassesOf.calls (k : Nat) (a0 : Int) (a1 : Int) (r : Bool) (w : World) (h : trencherlaw06_ClassesOf.f k a0 a1 = some r) :
    Calls Try.prog 3 #[.int .i64 a0, .int .i64 a1] w fun e w' => e = .returned (.bool r) ∧ Below w.heap.size w w' := by
  have HB := Aside0.mk (Below.refl w.heap.size w)
  have H : ((trencherlaw06_alive.f k).bind fun t116 => (if t116 = true then ((classes_Of.f k a0).bind fun t117 => ((trencherref06_Of.f k a0).bind fun t118 => (if t117 = t118 then ((classes_Spans.f k a0).bind fun t119 => ((trencherref06_Spans.f k a0).bind fun t120 => (if t119 = t120 then ((classes_Size.f a1).bind fun t121 => ((trencherref06_Size.f a1).bind fun t122 => (trencherlaw06_ClassesOf.j0 k a0 a1 t117 (t121 != t122)))) else (trencherlaw06_ClassesOf.j0 k a0 a1 t117 true)))) else (trencherlaw06_ClassesOf.j0 k a0 a1 t117 true)))) else (some false))) = some r := h
  clear h
  replace H := Option.bind_eq_some_iff.mp H
  obtain ⟨t116, A30, H⟩ := H
  replace H : (if t116 = true then ((classes_Of.f k a0).bind fun t117 => ((trencherref06_Of.f k a0).bind fun t118 => (if t117 = t118 then ((classes_Spans.f k a0).bind fun t119 => ((trencherref06_Spans.f k a0).bind fun t120 => (if t119 = t120 then ((classes_Size.f a1).bind fun t121 => ((trencherref06_Size.f a1).bind fun t122 => (trencherlaw06_ClassesOf.j0 k a0 a1 t117 (t121 != t122)))) else (trencherlaw06_ClassesOf.j0 k a0 a1 t117 true)))) else (trencherlaw06_ClassesOf.j0 k a0 a1 t117 true)))) else (some false)) = some r := H
  have A3 := Aside0.mk A30
  clear A30
  by_cases c4 : t116 = true
  · subst c4
    have H1 : ((classes_Of.f k a0).bind fun t117 => ((trencherref06_Of.f k a0).bind fun t118 => (if t117 = t118 then ((classes_Spans.f k a0).bind fun t119 => ((trencherref06_Spans.f k a0).bind fun t120 => (if t119 = t120 then ((classes_Size.f a1).bind fun t121 => ((trencherref06_Size.f a1).bind fun t122 => (trencherlaw06_ClassesOf.j0 k a0 a1 t117 (t121 != t122)))) else (trencherlaw06_ClassesOf.j0 k a0 a1 t117 true)))) else (trencherlaw06_ClassesOf.j0 k a0 a1 t117 true)))) = some r := by rw [if_pos rfl] at H; exact H
    clear H
    have H := H1
    clear H1
    replace H := Option.bind_eq_some_iff.mp H
    obtain ⟨t117, A50, H⟩ := H
    replace H : ((trencherref06_Of.f k a0).bind fun t118 => (if t117 = t118 then ((classes_Spans.f k a0).bind fun t119 => ((trencherref06_Spans.f k a0).bind fun t120 => (if t119 = t120 then ((classes_Size.f a1).bind fun t121 => ((trencherref06_Size.f a1).bind fun t122 => (trencherlaw06_ClassesOf.j0 k a0 a1 t117 (t121 != t122)))) else (trencherlaw06_ClassesOf.j0 k a0 a1 t117 true)))) else (trencherlaw06_ClassesOf.j0 k a0 a1 t117 true))) = some r := H
    have A5 := Aside0.mk A50
    clear A50
    have HC6 := Aside0.mk H
    clear H
    go_enter Try.func3, Try.ntmps3
    go_upto_region 4 with (first | (go_at_call 6; (with_reducible refine (trencherlaw06_alive.calls k  true _ A3.out).mono ?_); rintro e w' ⟨rfl, ⟨nd, rfl⟩⟩; (try first | exact ⟨rfl, _, World.drewN_drewN _ _ _⟩ | exact ⟨rfl, _, Eq.trans (World.drewN_drewN _ _ _) (congrArg (World.drewN _) (Nat.add_assoc _ _ _))⟩)) | (go_at_call 7; (with_reducible refine (classes_Of.calls k a0 t117 _ A5.out).mono ?_); rintro e w' ⟨rfl, ⟨nd, rfl⟩⟩; (try first | exact ⟨rfl, _, World.drewN_drewN _ _ _⟩ | exact ⟨rfl, _, Eq.trans (World.drewN_drewN _ _ _) (congrArg (World.drewN _) (Nat.add_assoc _ _ _))⟩)))
    repeat (go_quiet (first | (go_at_call 6; (with_reducible refine (trencherlaw06_alive.calls k  true _ A3.out).mono ?_); rintro e w' ⟨rfl, ⟨nd, rfl⟩⟩; (try first | exact ⟨rfl, _, World.drewN_drewN _ _ _⟩ | exact ⟨rfl, _, Eq.trans (World.drewN_drewN _ _ _) (congrArg (World.drewN _) (Nat.add_assoc _ _ _))⟩)) | (go_at_call 7; (with_reducible refine (classes_Of.calls k a0 t117 _ A5.out).mono ?_); rintro e w' ⟨rfl, ⟨nd, rfl⟩⟩; (try first | exact ⟨rfl, _, World.drewN_drewN _ _ _⟩ | exact ⟨rfl, _, Eq.trans (World.drewN_drewN _ _ _) (congrArg (World.drewN _) (Nat.add_assoc _ _ _))⟩))); go_upto_region 4 with (first | (go_at_call 6; (with_reducible refine (trencherlaw06_alive.calls k  true _ A3.out).mono ?_); rintro e w' ⟨rfl, ⟨nd, rfl⟩⟩; (try first | exact ⟨rfl, _, World.drewN_drewN _ _ _⟩ | exact ⟨rfl, _, Eq.trans (World.drewN_drewN _ _ _) (congrArg (World.drewN _) (Nat.add_assoc _ _ _))⟩)) | (go_at_call 7; (with_reducible refine (classes_Of.calls k a0 t117 _ A5.out).mono ?_); rintro e w' ⟨rfl, ⟨nd, rfl⟩⟩; (try first | exact ⟨rfl, _, World.drewN_drewN _ _ _⟩ | exact ⟨rfl, _, Eq.trans (World.drewN_drewN _ _ _) (congrArg (World.drewN _) (Nat.add_assoc _ _ _))⟩))))
    (try simp only [Act.put, List.setIfInBounds_toArray, List.set_cons_zero, List.set_cons_succ])
    go_cut [28] (fun v28 wc => ∃ (kq : Nat) (x28_5 : Bool), v28 = .bool x28_5 ∧ Aside0 (trencherlaw06_ClassesOf.j0 kq a0 a1 t117 x28_5 = some r) ∧ Aside0 (kq ≤ k) ∧ Aside0 (Below w.heap.size w wc))
    case first =>
      have H := HC6.out
      clear HC6
      replace H := Option.bind_eq_some_iff.mp H
      obtain ⟨t118, A70, H⟩ := H
      replace H : (if t117 = t118 then ((classes_Spans.f k a0).bind fun t119 => ((trencherref06_Spans.f k a0).bind fun t120 => (if t119 = t120 then ((classes_Size.f a1).bind fun t121 => ((trencherref06_Size.f a1).bind fun t122 => (trencherlaw06_ClassesOf.j0 k a0 a1 t117 (t121 != t122)))) else (trencherlaw06_ClassesOf.j0 k a0 a1 t117 true)))) else (trencherlaw06_ClassesOf.j0 k a0 a1 t117 true)) = some r := H
      have A7 := Aside0.mk A70
      clear A70
      by_cases c8 : t117 = t118
      · rw [if_pos c8] at H
        have c8b0 : (t117 == t118) = true := beq_iff_eq.mpr c8
        have c8b1 : (t117 != t118) = false := bne_eq_false_iff_eq.mpr c8
        clear c8
        (first | rw [c8b0] | (simp only [i64_w, i32_w]; rw [c8b0]) | skip)
        replace H := Option.bind_eq_some_iff.mp H
        obtain ⟨t119, A90, H⟩ := H
        replace H : ((trencherref06_Spans.f k a0).bind fun t120 => (if t119 = t120 then ((classes_Size.f a1).bind fun t121 => ((trencherref06_Size.f a1).bind fun t122 => (trencherlaw06_ClassesOf.j0 k a0 a1 t117 (t121 != t122)))) else (trencherlaw06_ClassesOf.j0 k a0 a1 t117 true))) = some r := H
        have A9 := Aside0.mk A90
        clear A90
        replace H := Option.bind_eq_some_iff.mp H
        obtain ⟨t120, A100, H⟩ := H
        replace H : (if t119 = t120 then ((classes_Size.f a1).bind fun t121 => ((trencherref06_Size.f a1).bind fun t122 => (trencherlaw06_ClassesOf.j0 k a0 a1 t117 (t121 != t122)))) else (trencherlaw06_ClassesOf.j0 k a0 a1 t117 true)) = some r := H
        have A10 := Aside0.mk A100
        clear A100
        by_cases c11 : t119 = t120
        · rw [if_pos c11] at H
          have c11b0 : (t119 == t120) = true := beq_iff_eq.mpr c11
          have c11b1 : (t119 != t120) = false := bne_eq_false_iff_eq.mpr c11
          clear c11
          replace H := Option.bind_eq_some_iff.mp H
          obtain ⟨t121, A120, H⟩ := H
          replace H : ((trencherref06_Size.f a1).bind fun t122 => (trencherlaw06_ClassesOf.j0 k a0 a1 t117 (t121 != t122))) = some r := H
          have A12 := Aside0.mk A120
          clear A120
          replace H := Option.bind_eq_some_iff.mp H
          obtain ⟨t122, A130, H⟩ := H
          replace H : (trencherlaw06_ClassesOf.j0 k a0 a1 t117 (t121 != t122)) = some r := H
          have A13 := Aside0.mk A130
          clear A130
          have H' := Aside0.mk H
          clear H
          go_wp2_with (first | (go_at_call 8; (with_reducible refine (trencherref06_Of.calls k a0 t118 _ A7.out).mono ?_); rintro e w14 ⟨rfl, hb⟩; have n0_ := Aside0.mk (below_step (by repeat (first | (with_reducible first | exact HB.out | apply below_alloc | apply pw_below_drewN | apply below_drew1) | exact HB.out)) hb); clear HB; have HB := n0_; clear n0_; (try clear hb); (try clear hb2); (try clear hk); (try clear hi)) | (go_at_call 9; (with_reducible refine (classes_Spans.calls k a0 t119 _ A9.out).mono ?_); rintro e w' ⟨rfl, ⟨nd, rfl⟩⟩; (try first | exact ⟨rfl, _, World.drewN_drewN _ _ _⟩ | exact ⟨rfl, _, Eq.trans (World.drewN_drewN _ _ _) (congrArg (World.drewN _) (Nat.add_assoc _ _ _))⟩)) | (go_at_call 10; (with_reducible refine (trencherref06_Spans.calls k a0 t120 _ A10.out).mono ?_); rintro e w15 ⟨rfl, hb⟩; have n0_ := Aside0.mk (below_step (by repeat (first | (with_reducible first | exact HB.out | apply below_alloc | apply pw_below_drewN | apply below_drew1) | exact HB.out)) hb); clear HB; have HB := n0_; clear n0_; (try clear hb); (try clear hb2); (try clear hk); (try clear hi)) | (go_at_call 11; (with_reducible refine (classes_Size.calls a1 t121 _ A12.out).mono ?_); rintro e w' ⟨rfl, ⟨nd, rfl⟩⟩; (try first | exact ⟨rfl, _, World.drewN_drewN _ _ _⟩ | exact ⟨rfl, _, Eq.trans (World.drewN_drewN _ _ _) (congrArg (World.drewN _) (Nat.add_assoc _ _ _))⟩)) | (go_at_call 12; (with_reducible refine (trencherref06_Size.calls a1 t122 _ A13.out).mono ?_); rintro e w16 ⟨rfl, hb⟩; have n0_ := Aside0.mk (below_step (by repeat (first | (with_reducible first | exact HB.out | apply below_alloc | apply pw_below_drewN | apply below_drew1) | exact HB.out)) hb); clear HB; have HB := n0_; clear n0_; (try clear hb); (try clear hb2); (try clear hk); (try clear hi)))
          repeat (go_quiet (first | (go_at_call 8; (with_reducible refine (trencherref06_Of.calls k a0 t118 _ A7.out).mono ?_); rintro e w14 ⟨rfl, hb⟩; have n0_ := Aside0.mk (below_step (by repeat (first | (with_reducible first | exact HB.out | apply below_alloc | apply pw_below_drewN | apply below_drew1) | exact HB.out)) hb); clear HB; have HB := n0_; clear n0_; (try clear hb); (try clear hb2); (try clear hk); (try clear hi)) | (go_at_call 9; (with_reducible refine (classes_Spans.calls k a0 t119 _ A9.out).mono ?_); rintro e w' ⟨rfl, ⟨nd, rfl⟩⟩; (try first | exact ⟨rfl, _, World.drewN_drewN _ _ _⟩ | exact ⟨rfl, _, Eq.trans (World.drewN_drewN _ _ _) (congrArg (World.drewN _) (Nat.add_assoc _ _ _))⟩)) | (go_at_call 10; (with_reducible refine (trencherref06_Spans.calls k a0 t120 _ A10.out).mono ?_); rintro e w15 ⟨rfl, hb⟩; have n0_ := Aside0.mk (below_step (by repeat (first | (with_reducible first | exact HB.out | apply below_alloc | apply pw_below_drewN | apply below_drew1) | exact HB.out)) hb); clear HB; have HB := n0_; clear n0_; (try clear hb); (try clear hb2); (try clear hk); (try clear hi)) | (go_at_call 11; (with_reducible refine (classes_Size.calls a1 t121 _ A12.out).mono ?_); rintro e w' ⟨rfl, ⟨nd, rfl⟩⟩; (try first | exact ⟨rfl, _, World.drewN_drewN _ _ _⟩ | exact ⟨rfl, _, Eq.trans (World.drewN_drewN _ _ _) (congrArg (World.drewN _) (Nat.add_assoc _ _ _))⟩)) | (go_at_call 12; (with_reducible refine (trencherref06_Size.calls a1 t122 _ A13.out).mono ?_); rintro e w16 ⟨rfl, hb⟩; have n0_ := Aside0.mk (below_step (by repeat (first | (with_reducible first | exact HB.out | apply below_alloc | apply pw_below_drewN | apply below_drew1) | exact HB.out)) hb); clear HB; have HB := n0_; clear n0_; (try clear hb); (try clear hb2); (try clear hk); (try clear hi))); try go_wp2_with (first | (go_at_call 8; (with_reducible refine (trencherref06_Of.calls k a0 t118 _ A7.out).mono ?_); rintro e w14 ⟨rfl, hb⟩; have n0_ := Aside0.mk (below_step (by repeat (first | (with_reducible first | exact HB.out | apply below_alloc | apply pw_below_drewN | apply below_drew1) | exact HB.out)) hb); clear HB; have HB := n0_; clear n0_; (try clear hb); (try clear hb2); (try clear hk); (try clear hi)) | (go_at_call 9; (with_reducible refine (classes_Spans.calls k a0 t119 _ A9.out).mono ?_); rintro e w' ⟨rfl, ⟨nd, rfl⟩⟩; (try first | exact ⟨rfl, _, World.drewN_drewN _ _ _⟩ | exact ⟨rfl, _, Eq.trans (World.drewN_drewN _ _ _) (congrArg (World.drewN _) (Nat.add_assoc _ _ _))⟩)) | (go_at_call 10; (with_reducible refine (trencherref06_Spans.calls k a0 t120 _ A10.out).mono ?_); rintro e w15 ⟨rfl, hb⟩; have n0_ := Aside0.mk (below_step (by repeat (first | (with_reducible first | exact HB.out | apply below_alloc | apply pw_below_drewN | apply below_drew1) | exact HB.out)) hb); clear HB; have HB := n0_; clear n0_; (try clear hb); (try clear hb2); (try clear hk); (try clear hi)) | (go_at_call 11; (with_reducible refine (classes_Size.calls a1 t121 _ A12.out).mono ?_); rintro e w' ⟨rfl, ⟨nd, rfl⟩⟩; (try first | exact ⟨rfl, _, World.drewN_drewN _ _ _⟩ | exact ⟨rfl, _, Eq.trans (World.drewN_drewN _ _ _) (congrArg (World.drewN _) (Nat.add_assoc _ _ _))⟩)) | (go_at_call 12; (with_reducible refine (trencherref06_Size.calls a1 t122 _ A13.out).mono ?_); rintro e w16 ⟨rfl, hb⟩; have n0_ := Aside0.mk (below_step (by repeat (first | (with_reducible first | exact HB.out | apply below_alloc | apply pw_below_drewN | apply below_drew1) | exact HB.out)) hb); clear HB; have HB := n0_; clear n0_; (try clear hb); (try clear hb2); (try clear hk); (try clear hi))))
          go_meet
          case rel => exact ⟨_, ((t121 != t122)), (by first | rfl | (simp; done) | (simp [*]; done)), H', ⟨by first | omega | exact Nat.le_refl _⟩, ⟨by repeat (first | (with_reducible first | exact HB.out | apply below_alloc | apply pw_below_drewN | apply below_drew1) | exact HB.out)⟩⟩
        · rw [if_neg c11] at H
          have c11b0 : (t119 == t120) = false := beq_eq_false_iff_ne.mpr c11
          have c11b1 : (t119 != t120) = true := bne_iff_ne.mpr c11
          have H' := Aside0.mk H
          clear H
          go_wp2_with (first | (go_at_call 8; (with_reducible refine (trencherref06_Of.calls k a0 t118 _ A7.out).mono ?_); rintro e w17 ⟨rfl, hb⟩; have n0_ := Aside0.mk (below_step (by repeat (first | (with_reducible first | exact HB.out | apply below_alloc | apply pw_below_drewN | apply below_drew1) | exact HB.out)) hb); clear HB; have HB := n0_; clear n0_; (try clear hb); (try clear hb2); (try clear hk); (try clear hi)) | (go_at_call 9; (with_reducible refine (classes_Spans.calls k a0 t119 _ A9.out).mono ?_); rintro e w' ⟨rfl, ⟨nd, rfl⟩⟩; (try first | exact ⟨rfl, _, World.drewN_drewN _ _ _⟩ | exact ⟨rfl, _, Eq.trans (World.drewN_drewN _ _ _) (congrArg (World.drewN _) (Nat.add_assoc _ _ _))⟩)) | (go_at_call 10; (with_reducible refine (trencherref06_Spans.calls k a0 t120 _ A10.out).mono ?_); rintro e w18 ⟨rfl, hb⟩; have n0_ := Aside0.mk (below_step (by repeat (first | (with_reducible first | exact HB.out | apply below_alloc | apply pw_below_drewN | apply below_drew1) | exact HB.out)) hb); clear HB; have HB := n0_; clear n0_; (try clear hb); (try clear hb2); (try clear hk); (try clear hi)))
          repeat (go_quiet (first | (go_at_call 8; (with_reducible refine (trencherref06_Of.calls k a0 t118 _ A7.out).mono ?_); rintro e w17 ⟨rfl, hb⟩; have n0_ := Aside0.mk (below_step (by repeat (first | (with_reducible first | exact HB.out | apply below_alloc | apply pw_below_drewN | apply below_drew1) | exact HB.out)) hb); clear HB; have HB := n0_; clear n0_; (try clear hb); (try clear hb2); (try clear hk); (try clear hi)) | (go_at_call 9; (with_reducible refine (classes_Spans.calls k a0 t119 _ A9.out).mono ?_); rintro e w' ⟨rfl, ⟨nd, rfl⟩⟩; (try first | exact ⟨rfl, _, World.drewN_drewN _ _ _⟩ | exact ⟨rfl, _, Eq.trans (World.drewN_drewN _ _ _) (congrArg (World.drewN _) (Nat.add_assoc _ _ _))⟩)) | (go_at_call 10; (with_reducible refine (trencherref06_Spans.calls k a0 t120 _ A10.out).mono ?_); rintro e w18 ⟨rfl, hb⟩; have n0_ := Aside0.mk (below_step (by repeat (first | (with_reducible first | exact HB.out | apply below_alloc | apply pw_below_drewN | apply below_drew1) | exact HB.out)) hb); clear HB; have HB := n0_; clear n0_; (try clear hb); (try clear hb2); (try clear hk); (try clear hi))); try go_wp2_with (first | (go_at_call 8; (with_reducible refine (trencherref06_Of.calls k a0 t118 _ A7.out).mono ?_); rintro e w17 ⟨rfl, hb⟩; have n0_ := Aside0.mk (below_step (by repeat (first | (with_reducible first | exact HB.out | apply below_alloc | apply pw_below_drewN | apply below_drew1) | exact HB.out)) hb); clear HB; have HB := n0_; clear n0_; (try clear hb); (try clear hb2); (try clear hk); (try clear hi)) | (go_at_call 9; (with_reducible refine (classes_Spans.calls k a0 t119 _ A9.out).mono ?_); rintro e w' ⟨rfl, ⟨nd, rfl⟩⟩; (try first | exact ⟨rfl, _, World.drewN_drewN _ _ _⟩ | exact ⟨rfl, _, Eq.trans (World.drewN_drewN _ _ _) (congrArg (World.drewN _) (Nat.add_assoc _ _ _))⟩)) | (go_at_call 10; (with_reducible refine (trencherref06_Spans.calls k a0 t120 _ A10.out).mono ?_); rintro e w18 ⟨rfl, hb⟩; have n0_ := Aside0.mk (below_step (by repeat (first | (with_reducible first | exact HB.out | apply below_alloc | apply pw_below_drewN | apply below_drew1) | exact HB.out)) hb); clear HB; have HB := n0_; clear n0_; (try clear hb); (try clear hb2); (try clear hk); (try clear hi))))
          go_meet
          case rel => exact ⟨_, (true), (by first | rfl | (simp; done) | (simp [*]; done)), H', ⟨by first | omega | exact Nat.le_refl _⟩, ⟨by repeat (first | (with_reducible first | exact HB.out | apply below_alloc | apply pw_below_drewN | apply below_drew1) | exact HB.out)⟩⟩
      · rw [if_neg c8] at H
        have c8b0 : (t117 == t118) = false := beq_eq_false_iff_ne.mpr c8
        have c8b1 : (t117 != t118) = true := bne_iff_ne.mpr c8
        (first | rw [c8b0] | (simp only [i64_w, i32_w]; rw [c8b0]) | skip)
        have H' := Aside0.mk H
        clear H
        go_wp2_with (first | (go_at_call 8; (with_reducible refine (trencherref06_Of.calls k a0 t118 _ A7.out).mono ?_); rintro e w19 ⟨rfl, hb⟩; have n0_ := Aside0.mk (below_step (by repeat (first | (with_reducible first | exact HB.out | apply below_alloc | apply pw_below_drewN | apply below_drew1) | exact HB.out)) hb); clear HB; have HB := n0_; clear n0_; (try clear hb); (try clear hb2); (try clear hk); (try clear hi)))
        repeat (go_quiet (first | (go_at_call 8; (with_reducible refine (trencherref06_Of.calls k a0 t118 _ A7.out).mono ?_); rintro e w19 ⟨rfl, hb⟩; have n0_ := Aside0.mk (below_step (by repeat (first | (with_reducible first | exact HB.out | apply below_alloc | apply pw_below_drewN | apply below_drew1) | exact HB.out)) hb); clear HB; have HB := n0_; clear n0_; (try clear hb); (try clear hb2); (try clear hk); (try clear hi))); try go_wp2_with (first | (go_at_call 8; (with_reducible refine (trencherref06_Of.calls k a0 t118 _ A7.out).mono ?_); rintro e w19 ⟨rfl, hb⟩; have n0_ := Aside0.mk (below_step (by repeat (first | (with_reducible first | exact HB.out | apply below_alloc | apply pw_below_drewN | apply below_drew1) | exact HB.out)) hb); clear HB; have HB := n0_; clear n0_; (try clear hb); (try clear hb2); (try clear hk); (try clear hi))))
        go_meet
        case rel => exact ⟨_, (true), (by first | rfl | (simp; done) | (simp [*]; done)), H', ⟨by first | omega | exact Nat.le_refl _⟩, ⟨by repeat (first | (with_reducible first | exact HB.out | apply below_alloc | apply pw_below_drewN | apply below_drew1) | exact HB.out)⟩⟩
    case rest =>
      clear HC6
      try clear c1
      try clear p2
      try clear c3
      try clear c4
      try clear c8
      try clear c8b0
      try clear c8b1
      try clear c11
      try clear c11b0
      try clear c11b1
      obtain ⟨kq, x28_5, rfl, HA, HJ5, HB⟩ := hcut
      cases kq with
      | zero => exact absurd HA.out (by simp [trencherlaw06_ClassesOf.j0])
      | succ kj5 =>
        have H := HA.out
        clear HA
        simp only [trencherlaw06_ClassesOf.j0] at H
        by_cases c20 : x28_5 = true
        · subst c20
          have H1 : (some false) = some r := by rw [if_pos rfl] at H; exact H
          clear H
          have H := H1
          clear H1
          obtain rfl := Option.some.inj H
          go_wp2
          repeat (go_quiet (fail); try go_wp2)
          go_ret
          exact ⟨by first | rfl | (simp [errW_none, errW_some] <;> rfl) | (simp [*, errW_none, errW_some] <;> rfl), by repeat (first | (with_reducible first | exact HB.out | apply below_alloc | apply pw_below_drewN | apply below_drew1) | exact HB.out)⟩
        · replace c20 := Bool.eq_false_iff.mpr c20
          subst c20
          have H1 : ((trencherref06_Size.f a1).bind fun t123 => (if t123 > 0 then ((classes_Blocks.f a1).bind fun t124 => (if t123 = 0 then (none) else (if t124 = (wrap64 ((64 : Int) / t123)) then (trencherlaw06_ClassesOf.j1 kj5 a0 t117 false) else (trencherlaw06_ClassesOf.j1 kj5 a0 t117 true)))) else (if t123 = 0 then ((classes_Blocks.f a1).bind fun t125 => (trencherlaw06_ClassesOf.j1 kj5 a0 t117 (t125 != 0))) else (trencherlaw06_ClassesOf.j1 kj5 a0 t117 false)))) = some r := by rw [if_neg (show ¬ (false = true) by decide)] at H; exact H
          clear H
          have H := H1
          clear H1
          replace H := Option.bind_eq_some_iff.mp H
          obtain ⟨t123, A210, H⟩ := H
          replace H : (if t123 > 0 then ((classes_Blocks.f a1).bind fun t124 => (if t123 = 0 then (none) else (if t124 = (wrap64 ((64 : Int) / t123)) then (trencherlaw06_ClassesOf.j1 kj5 a0 t117 false) else (trencherlaw06_ClassesOf.j1 kj5 a0 t117 true)))) else (if t123 = 0 then ((classes_Blocks.f a1).bind fun t125 => (trencherlaw06_ClassesOf.j1 kj5 a0 t117 (t125 != 0))) else (trencherlaw06_ClassesOf.j1 kj5 a0 t117 false))) = some r := H
          have A21 := Aside0.mk A210
          clear A210
          have HC22 := Aside0.mk H
          clear H
          go_upto_region 7 with (first | (go_at_call 12; (with_reducible refine (trencherref06_Size.calls a1 t123 _ A21.out).mono ?_); rintro e w23 ⟨rfl, hb⟩; have n0_ := Aside0.mk (below_step (by repeat (first | (with_reducible first | exact HB.out | apply below_alloc | apply pw_below_drewN | apply below_drew1) | exact HB.out)) hb); clear HB; have HB := n0_; clear n0_; (try clear hb); (try clear hb2); (try clear hk); (try clear hi)))
          repeat (go_quiet (first | (go_at_call 12; (with_reducible refine (trencherref06_Size.calls a1 t123 _ A21.out).mono ?_); rintro e w23 ⟨rfl, hb⟩; have n0_ := Aside0.mk (below_step (by repeat (first | (with_reducible first | exact HB.out | apply below_alloc | apply pw_below_drewN | apply below_drew1) | exact HB.out)) hb); clear HB; have HB := n0_; clear n0_; (try clear hb); (try clear hb2); (try clear hk); (try clear hi))); go_upto_region 7 with (first | (go_at_call 12; (with_reducible refine (trencherref06_Size.calls a1 t123 _ A21.out).mono ?_); rintro e w23 ⟨rfl, hb⟩; have n0_ := Aside0.mk (below_step (by repeat (first | (with_reducible first | exact HB.out | apply below_alloc | apply pw_below_drewN | apply below_drew1) | exact HB.out)) hb); clear HB; have HB := n0_; clear n0_; (try clear hb); (try clear hb2); (try clear hk); (try clear hi))))
          (try simp only [Act.put, List.setIfInBounds_toArray, List.set_cons_zero, List.set_cons_succ])
          go_cut [48] (fun v48 wc => ∃ (kq : Nat) (x48_21 : Bool), v48 = .bool x48_21 ∧ Aside0 (trencherlaw06_ClassesOf.j1 kq a0 t117 x48_21 = some r) ∧ Aside0 (kq ≤ kj5) ∧ Aside0 (Below w.heap.size w wc))
          case first =>
            have H := HC22.out
            clear HC22
            by_cases c24 : t123 > 0
            · rw [if_pos c24] at H
              have c24b0 : decide (0 < t123) = true := decide_eq_true c24
              clear c24
              (first | rw [c24b0] | (simp only [i64_w, i32_w]; rw [c24b0]) | skip)
              replace H := Option.bind_eq_some_iff.mp H
              obtain ⟨t124, A250, H⟩ := H
              replace H : (if t123 = 0 then (none) else (if t124 = (wrap64 ((64 : Int) / t123)) then (trencherlaw06_ClassesOf.j1 kj5 a0 t117 false) else (trencherlaw06_ClassesOf.j1 kj5 a0 t117 true))) = some r := H
              have A25 := Aside0.mk A250
              clear A250
              by_cases c26 : t123 = 0
              · rw [if_pos c26] at H
                exact absurd H (by simp)
              · rw [if_neg c26] at H
                have c26b0 : (t123 == 0) = false := beq_eq_false_iff_ne.mpr c26
                have c26b1 : (t123 != 0) = true := bne_iff_ne.mpr c26
                by_cases c27 : t124 = (wrap64 ((64 : Int) / t123))
                · rw [if_pos c27] at H
                  have c27b0 : (t124 == (wrap64 ((64 : Int) / t123))) = true := beq_iff_eq.mpr c27
                  have c27b1 : (t124 != (wrap64 ((64 : Int) / t123))) = false := bne_eq_false_iff_eq.mpr c27
                  have c27d : Int.tdiv 64 t123 = 64 / t123 := Int.tdiv_eq_ediv_of_nonneg (by decide)
                  have c27b2 : (t124 == (wrap64 (Int.tdiv 64 t123))) = true := by rw [c27d]; exact c27b0
                  have c27b3 : (t124 != (wrap64 (Int.tdiv 64 t123))) = false := by rw [c27d]; exact c27b1
                  have c27b4 : (t124 == (IntKind.i64.wrap (Int.tdiv 64 t123))) = true := by rw [i64_w]; exact c27b2
                  have c27b5 : (t124 != (IntKind.i64.wrap (Int.tdiv 64 t123))) = false := by rw [i64_w]; exact c27b3
                  clear c27d
                  clear c27
                  have H' := Aside0.mk H
                  clear H
                  go_wp2_with (first | (go_at_call 13; (with_reducible refine (classes_Blocks.calls a1 t124 _ A25.out).mono ?_); rintro e w' ⟨rfl, ⟨nd, rfl⟩⟩; (try first | exact ⟨rfl, _, World.drewN_drewN _ _ _⟩ | exact ⟨rfl, _, Eq.trans (World.drewN_drewN _ _ _) (congrArg (World.drewN _) (Nat.add_assoc _ _ _))⟩)))
                  repeat (go_quiet (first | (go_at_call 13; (with_reducible refine (classes_Blocks.calls a1 t124 _ A25.out).mono ?_); rintro e w' ⟨rfl, ⟨nd, rfl⟩⟩; (try first | exact ⟨rfl, _, World.drewN_drewN _ _ _⟩ | exact ⟨rfl, _, Eq.trans (World.drewN_drewN _ _ _) (congrArg (World.drewN _) (Nat.add_assoc _ _ _))⟩))); try go_wp2_with (first | (go_at_call 13; (with_reducible refine (classes_Blocks.calls a1 t124 _ A25.out).mono ?_); rintro e w' ⟨rfl, ⟨nd, rfl⟩⟩; (try first | exact ⟨rfl, _, World.drewN_drewN _ _ _⟩ | exact ⟨rfl, _, Eq.trans (World.drewN_drewN _ _ _) (congrArg (World.drewN _) (Nat.add_assoc _ _ _))⟩))))
                  go_meet
                  case rel => exact ⟨_, (false), (by first | rfl | (simp; done) | (simp [*]; done)), H', ⟨by have := HJ5.out; first | omega | exact Nat.le_refl _⟩, ⟨by repeat (first | (with_reducible first | exact HB.out | apply below_alloc | apply pw_below_drewN | apply below_drew1) | exact HB.out)⟩⟩
                · rw [if_neg c27] at H
                  have c27b0 : (t124 == (wrap64 ((64 : Int) / t123))) = false := beq_eq_false_iff_ne.mpr c27
                  have c27b1 : (t124 != (wrap64 ((64 : Int) / t123))) = true := bne_iff_ne.mpr c27
                  have c27d : Int.tdiv 64 t123 = 64 / t123 := Int.tdiv_eq_ediv_of_nonneg (by decide)
                  have c27b2 : (t124 == (wrap64 (Int.tdiv 64 t123))) = false := by rw [c27d]; exact c27b0
                  have c27b3 : (t124 != (wrap64 (Int.tdiv 64 t123))) = true := by rw [c27d]; exact c27b1
                  have c27b4 : (t124 == (IntKind.i64.wrap (Int.tdiv 64 t123))) = false := by rw [i64_w]; exact c27b2
                  have c27b5 : (t124 != (IntKind.i64.wrap (Int.tdiv 64 t123))) = true := by rw [i64_w]; exact c27b3
                  clear c27d
                  have H' := Aside0.mk H
                  clear H
                  go_wp2_with (first | (go_at_call 13; (with_reducible refine (classes_Blocks.calls a1 t124 _ A25.out).mono ?_); rintro e w' ⟨rfl, ⟨nd, rfl⟩⟩; (try first | exact ⟨rfl, _, World.drewN_drewN _ _ _⟩ | exact ⟨rfl, _, Eq.trans (World.drewN_drewN _ _ _) (congrArg (World.drewN _) (Nat.add_assoc _ _ _))⟩)))
                  repeat (go_quiet (first | (go_at_call 13; (with_reducible refine (classes_Blocks.calls a1 t124 _ A25.out).mono ?_); rintro e w' ⟨rfl, ⟨nd, rfl⟩⟩; (try first | exact ⟨rfl, _, World.drewN_drewN _ _ _⟩ | exact ⟨rfl, _, Eq.trans (World.drewN_drewN _ _ _) (congrArg (World.drewN _) (Nat.add_assoc _ _ _))⟩))); try go_wp2_with (first | (go_at_call 13; (with_reducible refine (classes_Blocks.calls a1 t124 _ A25.out).mono ?_); rintro e w' ⟨rfl, ⟨nd, rfl⟩⟩; (try first | exact ⟨rfl, _, World.drewN_drewN _ _ _⟩ | exact ⟨rfl, _, Eq.trans (World.drewN_drewN _ _ _) (congrArg (World.drewN _) (Nat.add_assoc _ _ _))⟩))))
                  go_meet
                  case rel => exact ⟨_, (true), (by first | rfl | (simp; done) | (simp [*]; done)), H', ⟨by have := HJ5.out; first | omega | exact Nat.le_refl _⟩, ⟨by repeat (first | (with_reducible first | exact HB.out | apply below_alloc | apply pw_below_drewN | apply below_drew1) | exact HB.out)⟩⟩
            · rw [if_neg c24] at H
              have c24b0 : decide (0 < t123) = false := decide_eq_false c24
              clear c24
              (first | rw [c24b0] | (simp only [i64_w, i32_w]; rw [c24b0]) | skip)
              by_cases c28 : t123 = 0
              · rw [if_pos c28] at H
                have c28b0 : (t123 == 0) = true := beq_iff_eq.mpr c28
                have c28b1 : (t123 != 0) = false := bne_eq_false_iff_eq.mpr c28
                clear c28
                replace H := Option.bind_eq_some_iff.mp H
                obtain ⟨t125, A290, H⟩ := H
                replace H : (trencherlaw06_ClassesOf.j1 kj5 a0 t117 (t125 != 0)) = some r := H
                have A29 := Aside0.mk A290
                clear A290
                have H' := Aside0.mk H
                clear H
                go_wp2_with (first | (go_at_call 13; (with_reducible refine (classes_Blocks.calls a1 t125 _ A29.out).mono ?_); rintro e w' ⟨rfl, ⟨nd, rfl⟩⟩; (try first | exact ⟨rfl, _, World.drewN_drewN _ _ _⟩ | exact ⟨rfl, _, Eq.trans (World.drewN_drewN _ _ _) (congrArg (World.drewN _) (Nat.add_assoc _ _ _))⟩)))
                repeat (go_quiet (first | (go_at_call 13; (with_reducible refine (classes_Blocks.calls a1 t125 _ A29.out).mono ?_); rintro e w' ⟨rfl, ⟨nd, rfl⟩⟩; (try first | exact ⟨rfl, _, World.drewN_drewN _ _ _⟩ | exact ⟨rfl, _, Eq.trans (World.drewN_drewN _ _ _) (congrArg (World.drewN _) (Nat.add_assoc _ _ _))⟩))); try go_wp2_with (first | (go_at_call 13; (with_reducible refine (classes_Blocks.calls a1 t125 _ A29.out).mono ?_); rintro e w' ⟨rfl, ⟨nd, rfl⟩⟩; (try first | exact ⟨rfl, _, World.drewN_drewN _ _ _⟩ | exact ⟨rfl, _, Eq.trans (World.drewN_drewN _ _ _) (congrArg (World.drewN _) (Nat.add_assoc _ _ _))⟩))))
                go_meet
                case rel => exact ⟨_, ((t125 != 0)), (by first | rfl | (simp; done) | (simp [*]; done)), H', ⟨by have := HJ5.out; first | omega | exact Nat.le_refl _⟩, ⟨by repeat (first | (with_reducible first | exact HB.out | apply below_alloc | apply pw_below_drewN | apply below_drew1) | exact HB.out)⟩⟩
              · rw [if_neg c28] at H
                have c28b0 : (t123 == 0) = false := beq_eq_false_iff_ne.mpr c28
                have c28b1 : (t123 != 0) = true := bne_iff_ne.mpr c28
                have H' := Aside0.mk H
                clear H
                go_wp2
                repeat (go_quiet (fail); try go_wp2)
                go_meet
                case rel => exact ⟨_, (false), (by first | rfl | (simp; done) | (simp [*]; done)), H', ⟨by have := HJ5.out; first | omega | exact Nat.le_refl _⟩, ⟨by repeat (first | (with_reducible first | exact HB.out | apply below_alloc | apply pw_below_drewN | apply below_drew1) | exact HB.out)⟩⟩
          case rest =>
            clear HC22
            try clear c1
            try clear c2
            try clear p2
            try clear c3
            try clear c4
            try clear p6
            try clear c8
            try clear c8b0
            try clear c8b1
            try clear c11
            try clear c11b0
            try clear c11b1
            try clear c20
            try clear c24
            try clear c24b0
            try clear c26
            try clear c26b0
            try clear c26b1
            try clear c27
            try clear c27b0
            try clear c27b1
            try clear c28
            try clear c28b0
            try clear c28b1
            try clear p2
            obtain ⟨kq, x48_21, rfl, HA, HJ21, HB⟩ := hcut
            cases kq with
            | zero => exact absurd HA.out (by simp [trencherlaw06_ClassesOf.j1])
            | succ kj21 =>
              have H := HA.out
              clear HA
              simp only [trencherlaw06_ClassesOf.j1] at H
              by_cases c30 : x48_21 = true
              · subst c30
                have H1 : (some false) = some r := by rw [if_pos rfl] at H; exact H
                clear H
                have H := H1
                clear H1
                obtain rfl := Option.some.inj H
                go_wp2
                repeat (go_quiet (fail); try go_wp2)
                go_ret
                exact ⟨by first | rfl | (simp [errW_none, errW_some] <;> rfl) | (simp [*, errW_none, errW_some] <;> rfl), by repeat (first | (with_reducible first | exact HB.out | apply below_alloc | apply pw_below_drewN | apply below_drew1) | exact HB.out)⟩
              · replace c30 := Bool.eq_false_iff.mpr c30
                subst c30
                have H1 : (if t117 ≥ 0 then (trencherlaw06_ClassesOf.j2 kj21 a0 t117 (decide (t117 < 4))) else (trencherlaw06_ClassesOf.j2 kj21 a0 t117 false)) = some r := by rw [if_neg (show ¬ (false = true) by decide)] at H; exact H
                clear H
                have H := H1
                clear H1
                have HC31 := Aside0.mk H
                clear H
                go_upto_region 9 with (fail)
                repeat (go_quiet (fail); go_upto_region 9 with (fail))
                go_cut [54] (fun v54 wc => ∃ (kq : Nat) (x54_30 : Bool), v54 = .bool x54_30 ∧ Aside0 (trencherlaw06_ClassesOf.j2 kq a0 t117 x54_30 = some r) ∧ Aside0 (kq ≤ kj21) ∧ Aside0 (Below w.heap.size w wc))
                case first =>
                  have H := HC31.out
                  clear HC31
                  by_cases c32 : t117 ≥ 0
                  · rw [if_pos c32] at H
                    have c32b0 : decide (0 ≤ t117) = true := decide_eq_true c32
                    clear c32
                    (first | rw [c32b0] | (simp only [i64_w, i32_w]; rw [c32b0]) | skip)
                    have H' := Aside0.mk H
                    clear H
                    go_wp2
                    repeat (go_quiet (fail); try go_wp2)
                    go_meet
                    case rel => exact ⟨_, (decide (t117 < 4)), (by first | rfl | (simp; done) | (simp [*]; done)), H', ⟨by have := HJ5.out; have := HJ21.out; first | omega | exact Nat.le_refl _⟩, ⟨by repeat (first | (with_reducible first | exact HB.out | apply below_alloc | apply pw_below_drewN | apply below_drew1) | exact HB.out)⟩⟩
                  · rw [if_neg c32] at H
                    have c32b0 : decide (0 ≤ t117) = false := decide_eq_false c32
                    clear c32
                    (first | rw [c32b0] | (simp only [i64_w, i32_w]; rw [c32b0]) | skip)
                    have H' := Aside0.mk H
                    clear H
                    go_wp2
                    repeat (go_quiet (fail); try go_wp2)
                    go_meet
                    case rel => exact ⟨_, (false), (by first | rfl | (simp; done) | (simp [*]; done)), H', ⟨by have := HJ5.out; have := HJ21.out; first | omega | exact Nat.le_refl _⟩, ⟨by repeat (first | (with_reducible first | exact HB.out | apply below_alloc | apply pw_below_drewN | apply below_drew1) | exact HB.out)⟩⟩
                case rest =>
                  clear HC31
                  try clear c1
                  try clear c2
                  try clear p2
                  try clear c3
                  try clear c4
                  try clear p6
                  try clear c8
                  try clear c8b0
                  try clear c8b1
                  try clear c11
                  try clear c11b0
                  try clear c11b1
                  try clear c20
                  try clear c24
                  try clear c24b0
                  try clear c26
                  try clear c26b0
                  try clear c26b1
                  try clear c27
                  try clear c27b0
                  try clear c27b1
                  try clear c28
                  try clear c28b0
                  try clear c28b1
                  try clear c30
                  try clear c32
                  try clear c32b0
                  try clear p2
                  try clear p6
                  obtain ⟨kq, x54_30, rfl, HA, HJ30, HB⟩ := hcut
                  cases kq with
                  | zero => exact absurd HA.out (by simp [trencherlaw06_ClassesOf.j2])
                  | succ kj30 =>
                    have H := HA.out
                    clear HA
                    simp only [trencherlaw06_ClassesOf.j2] at H
                    by_cases c33 : x54_30 = true
                    · subst c33
                      have H1 : ((classes_Size.f t117).bind fun t126 => (if a0 < t126 then (if t117 = 0 then (some true) else ((classes_Size.f (wrap64 (t117 - 1))).bind fun t127 => (some (decide (a0 ≥ t127))))) else (some false))) = some r := by rw [if_pos rfl] at H; exact H
                      clear H
                      have H := H1
                      clear H1
                      replace H := Option.bind_eq_some_iff.mp H
                      obtain ⟨t126, A340, H⟩ := H
                      replace H : (if a0 < t126 then (if t117 = 0 then (some true) else ((classes_Size.f (wrap64 (t117 - 1))).bind fun t127 => (some (decide (a0 ≥ t127))))) else (some false)) = some r := H
                      have A34 := Aside0.mk A340
                      clear A340
                      by_cases c35 : a0 < t126
                      · rw [if_pos c35] at H
                        have c35b0 : decide (a0 < t126) = true := decide_eq_true c35
                        clear c35
                        by_cases c36 : t117 = 0
                        · rw [if_pos c36] at H
                          have c36b0 : (t117 == 0) = true := beq_iff_eq.mpr c36
                          have c36b1 : (t117 != 0) = false := bne_eq_false_iff_eq.mpr c36
                          clear c36
                          obtain rfl := Option.some.inj H
                          go_wp2_with (first | (go_at_call 11; (with_reducible refine (classes_Size.calls t117 t126 _ A34.out).mono ?_); rintro e w' ⟨rfl, ⟨nd, rfl⟩⟩; (try first | exact ⟨rfl, _, World.drewN_drewN _ _ _⟩ | exact ⟨rfl, _, Eq.trans (World.drewN_drewN _ _ _) (congrArg (World.drewN _) (Nat.add_assoc _ _ _))⟩)))
                          repeat (go_quiet (first | (go_at_call 11; (with_reducible refine (classes_Size.calls t117 t126 _ A34.out).mono ?_); rintro e w' ⟨rfl, ⟨nd, rfl⟩⟩; (try first | exact ⟨rfl, _, World.drewN_drewN _ _ _⟩ | exact ⟨rfl, _, Eq.trans (World.drewN_drewN _ _ _) (congrArg (World.drewN _) (Nat.add_assoc _ _ _))⟩))); try go_wp2_with (first | (go_at_call 11; (with_reducible refine (classes_Size.calls t117 t126 _ A34.out).mono ?_); rintro e w' ⟨rfl, ⟨nd, rfl⟩⟩; (try first | exact ⟨rfl, _, World.drewN_drewN _ _ _⟩ | exact ⟨rfl, _, Eq.trans (World.drewN_drewN _ _ _) (congrArg (World.drewN _) (Nat.add_assoc _ _ _))⟩))))
                          go_ret
                          exact ⟨by first | rfl | (simp [errW_none, errW_some] <;> rfl) | (simp [*, errW_none, errW_some] <;> rfl), by repeat (first | (with_reducible first | exact HB.out | apply below_alloc | apply pw_below_drewN | apply below_drew1) | exact HB.out)⟩
                        · rw [if_neg c36] at H
                          have c36b0 : (t117 == 0) = false := beq_eq_false_iff_ne.mpr c36
                          have c36b1 : (t117 != 0) = true := bne_iff_ne.mpr c36
                          replace H := Option.bind_eq_some_iff.mp H
                          obtain ⟨t127, A370, H⟩ := H
                          replace H : (some (decide (a0 ≥ t127))) = some r := H
                          have A37 := Aside0.mk A370
                          clear A370
                          obtain rfl := Option.some.inj H
                          go_wp2_with (first | (go_at_call 11; (with_reducible refine (classes_Size.calls t117 t126 _ A34.out).mono ?_); rintro e w' ⟨rfl, ⟨nd, rfl⟩⟩; (try first | exact ⟨rfl, _, World.drewN_drewN _ _ _⟩ | exact ⟨rfl, _, Eq.trans (World.drewN_drewN _ _ _) (congrArg (World.drewN _) (Nat.add_assoc _ _ _))⟩)) | (go_at_call 11; (with_reducible refine (classes_Size.calls (wrap64 (t117 - 1)) t127 _ A37.out).mono ?_); rintro e w' ⟨rfl, ⟨nd, rfl⟩⟩; (try first | exact ⟨rfl, _, World.drewN_drewN _ _ _⟩ | exact ⟨rfl, _, Eq.trans (World.drewN_drewN _ _ _) (congrArg (World.drewN _) (Nat.add_assoc _ _ _))⟩)))
                          repeat (go_quiet (first | (go_at_call 11; (with_reducible refine (classes_Size.calls t117 t126 _ A34.out).mono ?_); rintro e w' ⟨rfl, ⟨nd, rfl⟩⟩; (try first | exact ⟨rfl, _, World.drewN_drewN _ _ _⟩ | exact ⟨rfl, _, Eq.trans (World.drewN_drewN _ _ _) (congrArg (World.drewN _) (Nat.add_assoc _ _ _))⟩)) | (go_at_call 11; (with_reducible refine (classes_Size.calls (wrap64 (t117 - 1)) t127 _ A37.out).mono ?_); rintro e w' ⟨rfl, ⟨nd, rfl⟩⟩; (try first | exact ⟨rfl, _, World.drewN_drewN _ _ _⟩ | exact ⟨rfl, _, Eq.trans (World.drewN_drewN _ _ _) (congrArg (World.drewN _) (Nat.add_assoc _ _ _))⟩))); try go_wp2_with (first | (go_at_call 11; (with_reducible refine (classes_Size.calls t117 t126 _ A34.out).mono ?_); rintro e w' ⟨rfl, ⟨nd, rfl⟩⟩; (try first | exact ⟨rfl, _, World.drewN_drewN _ _ _⟩ | exact ⟨rfl, _, Eq.trans (World.drewN_drewN _ _ _) (congrArg (World.drewN _) (Nat.add_assoc _ _ _))⟩)) | (go_at_call 11; (with_reducible refine (classes_Size.calls (wrap64 (t117 - 1)) t127 _ A37.out).mono ?_); rintro e w' ⟨rfl, ⟨nd, rfl⟩⟩; (try first | exact ⟨rfl, _, World.drewN_drewN _ _ _⟩ | exact ⟨rfl, _, Eq.trans (World.drewN_drewN _ _ _) (congrArg (World.drewN _) (Nat.add_assoc _ _ _))⟩))))
                          go_ret
                          exact ⟨by first | rfl | (simp [errW_none, errW_some] <;> rfl) | (simp [*, errW_none, errW_some] <;> rfl), by repeat (first | (with_reducible first | exact HB.out | apply below_alloc | apply pw_below_drewN | apply below_drew1) | exact HB.out)⟩
                      · rw [if_neg c35] at H
                        have c35b0 : decide (a0 < t126) = false := decide_eq_false c35
                        clear c35
                        obtain rfl := Option.some.inj H
                        go_wp2_with (first | (go_at_call 11; (with_reducible refine (classes_Size.calls t117 t126 _ A34.out).mono ?_); rintro e w' ⟨rfl, ⟨nd, rfl⟩⟩; (try first | exact ⟨rfl, _, World.drewN_drewN _ _ _⟩ | exact ⟨rfl, _, Eq.trans (World.drewN_drewN _ _ _) (congrArg (World.drewN _) (Nat.add_assoc _ _ _))⟩)))
                        repeat (go_quiet (first | (go_at_call 11; (with_reducible refine (classes_Size.calls t117 t126 _ A34.out).mono ?_); rintro e w' ⟨rfl, ⟨nd, rfl⟩⟩; (try first | exact ⟨rfl, _, World.drewN_drewN _ _ _⟩ | exact ⟨rfl, _, Eq.trans (World.drewN_drewN _ _ _) (congrArg (World.drewN _) (Nat.add_assoc _ _ _))⟩))); try go_wp2_with (first | (go_at_call 11; (with_reducible refine (classes_Size.calls t117 t126 _ A34.out).mono ?_); rintro e w' ⟨rfl, ⟨nd, rfl⟩⟩; (try first | exact ⟨rfl, _, World.drewN_drewN _ _ _⟩ | exact ⟨rfl, _, Eq.trans (World.drewN_drewN _ _ _) (congrArg (World.drewN _) (Nat.add_assoc _ _ _))⟩))))
                        go_ret
                        exact ⟨by first | rfl | (simp [errW_none, errW_some] <;> rfl) | (simp [*, errW_none, errW_some] <;> rfl), by repeat (first | (with_reducible first | exact HB.out | apply below_alloc | apply pw_below_drewN | apply below_drew1) | exact HB.out)⟩
                    · replace c33 := Bool.eq_false_iff.mpr c33
                      subst c33
                      have H1 : (if t117 = 4 then ((classes_Spans.f kj30 a0).bind fun t128 => (if a0 < (wrap64 (64 * t128)) then ((classes_Spans.f kj30 a0).bind fun t129 => (some (decide (a0 ≥ (wrap64 (64 * (wrap64 (t129 - 1)))))))) else (some false))) else (some true)) = some r := by rw [if_neg (show ¬ (false = true) by decide)] at H; exact H
                      clear H
                      have H := H1
                      clear H1
                      by_cases c38 : t117 = 4
                      · rw [if_pos c38] at H
                        have c38b0 : (t117 == 4) = true := beq_iff_eq.mpr c38
                        have c38b1 : (t117 != 4) = false := bne_eq_false_iff_eq.mpr c38
                        clear c38
                        replace H := Option.bind_eq_some_iff.mp H
                        obtain ⟨t128, A390, H⟩ := H
                        replace H : (if a0 < (wrap64 (64 * t128)) then ((classes_Spans.f kj30 a0).bind fun t129 => (some (decide (a0 ≥ (wrap64 (64 * (wrap64 (t129 - 1)))))))) else (some false)) = some r := H
                        have A39 := Aside0.mk A390
                        clear A390
                        by_cases c40 : a0 < (wrap64 (64 * t128))
                        · rw [if_pos c40] at H
                          have c40b0 : decide (a0 < (wrap64 (64 * t128))) = true := decide_eq_true c40
                          clear c40
                          replace H := Option.bind_eq_some_iff.mp H
                          obtain ⟨t129, A410, H⟩ := H
                          replace H : (some (decide (a0 ≥ (wrap64 (64 * (wrap64 (t129 - 1))))))) = some r := H
                          have A41 := Aside0.mk A410
                          clear A410
                          obtain rfl : t128 = t129 := Option.some.inj (A39.out.symm.trans A41.out)
                          clear A41
                          have A41 := A39
                          obtain rfl := Option.some.inj H
                          go_wp2_with (first | (go_at_call 9; (with_reducible refine (classes_Spans.calls kj30 a0 t128 _ A39.out).mono ?_); rintro e w' ⟨rfl, ⟨nd, rfl⟩⟩; (try first | exact ⟨rfl, _, World.drewN_drewN _ _ _⟩ | exact ⟨rfl, _, Eq.trans (World.drewN_drewN _ _ _) (congrArg (World.drewN _) (Nat.add_assoc _ _ _))⟩)) | (go_at_call 9; (with_reducible refine (classes_Spans.calls kj30 a0 t129 _ A41.out).mono ?_); rintro e w' ⟨rfl, ⟨nd, rfl⟩⟩; (try first | exact ⟨rfl, _, World.drewN_drewN _ _ _⟩ | exact ⟨rfl, _, Eq.trans (World.drewN_drewN _ _ _) (congrArg (World.drewN _) (Nat.add_assoc _ _ _))⟩)))
                          repeat (go_quiet (first | (go_at_call 9; (with_reducible refine (classes_Spans.calls kj30 a0 t128 _ A39.out).mono ?_); rintro e w' ⟨rfl, ⟨nd, rfl⟩⟩; (try first | exact ⟨rfl, _, World.drewN_drewN _ _ _⟩ | exact ⟨rfl, _, Eq.trans (World.drewN_drewN _ _ _) (congrArg (World.drewN _) (Nat.add_assoc _ _ _))⟩)) | (go_at_call 9; (with_reducible refine (classes_Spans.calls kj30 a0 t129 _ A41.out).mono ?_); rintro e w' ⟨rfl, ⟨nd, rfl⟩⟩; (try first | exact ⟨rfl, _, World.drewN_drewN _ _ _⟩ | exact ⟨rfl, _, Eq.trans (World.drewN_drewN _ _ _) (congrArg (World.drewN _) (Nat.add_assoc _ _ _))⟩))); try go_wp2_with (first | (go_at_call 9; (with_reducible refine (classes_Spans.calls kj30 a0 t128 _ A39.out).mono ?_); rintro e w' ⟨rfl, ⟨nd, rfl⟩⟩; (try first | exact ⟨rfl, _, World.drewN_drewN _ _ _⟩ | exact ⟨rfl, _, Eq.trans (World.drewN_drewN _ _ _) (congrArg (World.drewN _) (Nat.add_assoc _ _ _))⟩)) | (go_at_call 9; (with_reducible refine (classes_Spans.calls kj30 a0 t129 _ A41.out).mono ?_); rintro e w' ⟨rfl, ⟨nd, rfl⟩⟩; (try first | exact ⟨rfl, _, World.drewN_drewN _ _ _⟩ | exact ⟨rfl, _, Eq.trans (World.drewN_drewN _ _ _) (congrArg (World.drewN _) (Nat.add_assoc _ _ _))⟩))))
                          go_ret
                          exact ⟨by first | rfl | (simp [errW_none, errW_some] <;> rfl) | (simp [*, errW_none, errW_some] <;> rfl), by repeat (first | (with_reducible first | exact HB.out | apply below_alloc | apply pw_below_drewN | apply below_drew1) | exact HB.out)⟩
                        · rw [if_neg c40] at H
                          have c40b0 : decide (a0 < (wrap64 (64 * t128))) = false := decide_eq_false c40
                          clear c40
                          obtain rfl := Option.some.inj H
                          go_wp2_with (first | (go_at_call 9; (with_reducible refine (classes_Spans.calls kj30 a0 t128 _ A39.out).mono ?_); rintro e w' ⟨rfl, ⟨nd, rfl⟩⟩; (try first | exact ⟨rfl, _, World.drewN_drewN _ _ _⟩ | exact ⟨rfl, _, Eq.trans (World.drewN_drewN _ _ _) (congrArg (World.drewN _) (Nat.add_assoc _ _ _))⟩)))
                          repeat (go_quiet (first | (go_at_call 9; (with_reducible refine (classes_Spans.calls kj30 a0 t128 _ A39.out).mono ?_); rintro e w' ⟨rfl, ⟨nd, rfl⟩⟩; (try first | exact ⟨rfl, _, World.drewN_drewN _ _ _⟩ | exact ⟨rfl, _, Eq.trans (World.drewN_drewN _ _ _) (congrArg (World.drewN _) (Nat.add_assoc _ _ _))⟩))); try go_wp2_with (first | (go_at_call 9; (with_reducible refine (classes_Spans.calls kj30 a0 t128 _ A39.out).mono ?_); rintro e w' ⟨rfl, ⟨nd, rfl⟩⟩; (try first | exact ⟨rfl, _, World.drewN_drewN _ _ _⟩ | exact ⟨rfl, _, Eq.trans (World.drewN_drewN _ _ _) (congrArg (World.drewN _) (Nat.add_assoc _ _ _))⟩))))
                          go_ret
                          exact ⟨by first | rfl | (simp [errW_none, errW_some] <;> rfl) | (simp [*, errW_none, errW_some] <;> rfl), by repeat (first | (with_reducible first | exact HB.out | apply below_alloc | apply pw_below_drewN | apply below_drew1) | exact HB.out)⟩
                      · rw [if_neg c38] at H
                        have c38b0 : (t117 == 4) = false := beq_eq_false_iff_ne.mpr c38
                        have c38b1 : (t117 != 4) = true := bne_iff_ne.mpr c38
                        obtain rfl := Option.some.inj H
                        go_wp2
                        repeat (go_quiet (fail); try go_wp2)
                        go_ret
                        exact ⟨by first | rfl | (simp [errW_none, errW_some] <;> rfl) | (simp [*, errW_none, errW_some] <;> rfl), by repeat (first | (with_reducible first | exact HB.out | apply below_alloc | apply pw_below_drewN | apply below_drew1) | exact HB.out)⟩
  · replace c4 := Bool.eq_false_iff.mpr c4
    subst c4
    have H1 : (some false) = some r := by rw [if_neg (show ¬ (false = true) by decide)] at H; exact H
    clear H
    have H := H1
    clear H1
    obtain rfl := Option.some.inj H
    go_enter Try.func3, Try.ntmps3
    go_wp2_with (first | (go_at_call 6; (with_reducible refine (trencherlaw06_alive.calls k  false _ A3.out).mono ?_); rintro e w' ⟨rfl, ⟨nd, rfl⟩⟩; (try first | exact ⟨rfl, _, World.drewN_drewN _ _ _⟩ | exact ⟨rfl, _, Eq.trans (World.drewN_drewN _ _ _) (congrArg (World.drewN _) (Nat.add_assoc _ _ _))⟩)))
    repeat (go_quiet (first | (go_at_call 6; (with_reducible refine (trencherlaw06_alive.calls k  false _ A3.out).mono ?_); rintro e w' ⟨rfl, ⟨nd, rfl⟩⟩; (try first | exact ⟨rfl, _, World.drewN_drewN _ _ _⟩ | exact ⟨rfl, _, Eq.trans (World.drewN_drewN _ _ _) (congrArg (World.drewN _) (Nat.add_assoc _ _ _))⟩))); try go_wp2_with (first | (go_at_call 6; (with_reducible refine (trencherlaw06_alive.calls k  false _ A3.out).mono ?_); rintro e w' ⟨rfl, ⟨nd, rfl⟩⟩; (try first | exact ⟨rfl, _, World.drewN_drewN _ _ _⟩ | exact ⟨rfl, _, Eq.trans (World.drewN_drewN _ _ _) (congrArg (World.drewN _) (Nat.add_assoc _ _ _))⟩))))
    go_ret
    exact ⟨by first | rfl | (simp [errW_none, errW_some] <;> rfl) | (simp [*, errW_none, errW_some] <;> rfl), by repeat (first | (with_reducible first | exact HB.out | apply below_alloc | apply pw_below_drewN | apply below_drew1) | exact HB.out)⟩

/-- THE ONE PURE STATEMENT of trencherlaw06_ClassesOf: yours. -/
def trencherlaw06_ClassesOf.Pure : Prop := ∀ (a0 : Int) (a1 : Int), (Lit.int .i64 a0).wf = true → (Lit.int .i64 a1).wf = true → ∃ k, trencherlaw06_ClassesOf.f k a0 a1 = some true
theorem trencherlaw06_ClassesOf.walk (P : trencherlaw06_ClassesOf.Pure) (a0 : Int) (a1 : Int) (w : World) (w0 : (Lit.int .i64 a0).wf = true) (w1 : (Lit.int .i64 a1).wf = true) :
    Calls Try.prog 3 #[.int .i64 a0, .int .i64 a1] w fun e w' => e = .returned (.bool true) ∧ Below w.heap.size w w' := by
  obtain ⟨k, h⟩ := P a0 a1 w0 w1
  refine (trencherlaw06_ClassesOf.calls k a0 a1 true w h).mono ?_
  rintro e w' ⟨rfl, hd⟩
  exact ⟨rfl, hd⟩

end Go.Proofs.Ytbdedbhafciilaa.Cls
