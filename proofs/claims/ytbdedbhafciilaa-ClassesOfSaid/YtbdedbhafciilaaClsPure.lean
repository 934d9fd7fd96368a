/- ClassesOf (chapter 6): for every number of words and every class, the class, the spans and the sizes that the program tells are the document's, and an object fits its class's block and no lesser one's. No condition. -/
import Derived.Test.YtbdedbhafciilaaCls2
namespace Go.Proofs.Ytbdedbhafciilaa.Pure
open Go.RowKit Go.Proofs.Ytbdedbhafciilaa.Cls Go.Proofs.YtbdedbhafciilaaW.PrintWords Go.Proofs.YtbdedbhafciilaaW.PrintLast

/-- What the law asks of one number of words, the class's part left out. -/
def chk (a : Int) : Bool :=
  match classes_Of.f 20 a with
  | none => false
  | some c => (trencherref06_Of.f 20 a == some c) && (trencherlaw06_ClassesOf.j1 19 a c false == some true) &&
      (match classes_Spans.f 20 a with
      | none => false
      | some t => trencherref06_Spans.f 20 a == some t)

theorem chk_in : ∀ n : Fin 255, chk ((n.val : Int) + 1) = true := by decide +kernel

theorem chk_out (a : Int) (h : a < 1 ∨ 255 < a) : chk a = true := by
  have e1 : ∀ k, classes_Of.f (k + 1) a = some (-1) := by
    intro k
    unfold classes_Of.f
    rcases h with h | h
    · rw [if_pos h]; simp [classes_Of.j0]
    · rw [if_neg (by omega), decide_eq_true (show a > 255 from h)]; simp [classes_Of.j0]
  have e2 : ∀ k, trencherref06_Of.f (k + 1) a = some (-1) := by
    intro k
    unfold trencherref06_Of.f
    rcases h with h | h
    · rw [if_pos h]; simp [trencherref06_Of.j0]
    · rw [if_neg (by omega), decide_eq_true (show a > 255 from h)]; simp [trencherref06_Of.j0]
  have e3 : classes_Spans.f 20 a = some 0 := by
    unfold classes_Spans.f
    rw [e1 19]; rfl
  have e4 : trencherref06_Spans.f 20 a = some 0 := by
    unfold trencherref06_Spans.f
    rw [e2 19]; rfl
  unfold chk
  rw [e1 19, e2 19, e3, e4]
  have e5 : trencherlaw06_ClassesOf.j1 19 a (-1) false = some true := by
    simp [trencherlaw06_ClassesOf.j1, trencherlaw06_ClassesOf.j2]
  simp [e5]

theorem chk_all (a : Int) : chk a = true := by
  by_cases h : a < 1 ∨ 255 < a
  · exact chk_out a h
  · have e := chk_in ⟨(a - 1).toNat, by omega⟩
    have e' : ((a - 1).toNat : Int) + 1 = a := by omega
    rw [← e']; exact e

theorem alive_yes : trencherlaw06_alive.f 20 = some true := by decide +kernel

/-- The sizes of any class are the document's, and its blocks are 64 by its size. -/
theorem size_all (b : Int) : ∃ s, classes_Size.f b = some s ∧ trencherref06_Size.f b = some s ∧ ((s = 0 ∧ classes_Blocks.f b = some 0) ∨ (s > 0 ∧ classes_Blocks.f b = some (wrap64 (64 / s)))) := by
  by_cases h0 : b < 0
  · exact ⟨0, by simp [classes_Size.f, h0], by simp [trencherref06_Size.f, h0], .inl ⟨rfl, by simp [classes_Blocks.f, classes_Size.f, h0]⟩⟩
  · by_cases h4 : b ≥ 4
    · have h3 : b > 3 := by omega
      exact ⟨0, by simp [classes_Size.f, h0, h4], by simp [trencherref06_Size.f, h0, h3], .inl ⟨rfl, by simp [classes_Blocks.f, classes_Size.f, h0, h4]⟩⟩
    · have : b = 0 ∨ b = 1 ∨ b = 2 ∨ b = 3 := by omega
      rcases this with rfl | rfl | rfl | rfl
      · exact ⟨2, by decide +kernel, by decide +kernel, .inr ⟨by omega, by decide +kernel⟩⟩
      · exact ⟨4, by decide +kernel, by decide +kernel, .inr ⟨by omega, by decide +kernel⟩⟩
      · exact ⟨8, by decide +kernel, by decide +kernel, .inr ⟨by omega, by decide +kernel⟩⟩
      · exact ⟨16, by decide +kernel, by decide +kernel, .inr ⟨by omega, by decide +kernel⟩⟩

theorem ClassesOf : trencherlaw06_ClassesOf.Pure := by
  intro a b _ _
  refine ⟨20, ?_⟩
  have hc := chk_all a
  unfold chk at hc
  unfold trencherlaw06_ClassesOf.f
  rw [alive_yes]
  simp only [Option.bind_some, if_true]
  cases e1 : classes_Of.f 20 a with
  | none => rw [e1] at hc; simp at hc
  | some c =>
    rw [e1] at hc
    simp only [Bool.and_eq_true, beq_iff_eq] at hc
    obtain ⟨⟨e2, e3⟩, e4⟩ := hc
    cases e5 : classes_Spans.f 20 a with
    | none => rw [e5] at e4; simp at e4
    | some t =>
      rw [e5] at e4
      simp only [beq_iff_eq] at e4
      obtain ⟨s, s1, s2, s3⟩ := size_all b
      rw [e2, e4, s1, s2]
      simp only [Option.bind_some, if_true, bne_self_eq_false]
      rw [show (20 : Nat) = 19 + 1 from rfl]
      simp only [trencherlaw06_ClassesOf.j0]
      rw [s2]
      rcases s3 with ⟨rfl, s4⟩ | ⟨hs, s4⟩
      · simp only [Option.bind_some, s4]
        simpa using e3
      · simp only [Option.bind_some, s4]
        rw [if_neg (by simp), if_pos hs, if_neg (by omega), if_pos trivial]
        exact e3

end Go.Proofs.Ytbdedbhafciilaa.Pure
