/- ClassesNames, the parts: what Names tells, and what By tells for every text. No condition. -/
import Derived.Test.YtbdedbhafciilaaPClassesNamesx1
import Derived.Handy
namespace Go.Proofs.Ytbdedbhafciilaa.Cn
open Go.RowKit Go.Proofs.YtbdedbhafciilaaW.PrintWords Go.Proofs.YtbdedbhafciilaaW.PrintLast Go.Proofs.YtbdedbhafciilaaW.PrintMore Go.Proofs.Ytbdedbhafciilaa.PClassesNames
set_option linter.unusedVariables false

def tiny : ByteArray := ⟨#[116, 105, 110, 121]⟩
def small : ByteArray := ⟨#[115, 109, 97, 108, 108]⟩
def middle : ByteArray := ⟨#[109, 105, 100, 100, 108, 101]⟩
def wide : ByteArray := ⟨#[119, 105, 100, 101]⟩
def large : ByteArray := ⟨#[108, 97, 114, 103, 101]⟩
def five : List ByteArray := [tiny, small, middle, wide, large]
/-- Which of the five a text is; -1: none. -/
def idx (s : ByteArray) : Int := if s.toList = tiny.toList then 0 else if s.toList = small.toList then 1 else if s.toList = middle.toList then 2 else if s.toList = wide.toList then 3 else if s.toList = large.toList then 4 else -1

theorem index_five (s : ByteArray) : slices_Index_string_string.f 6 five s = some (idx s) := by
  unfold slices_Index_string_string.f idx
  have w1 : wrap64 (0 + 1) = 1 := by decide +kernel
  have w2 : wrap64 (1 + 1) = 2 := by decide +kernel
  have w3 : wrap64 (2 + 1) = 3 := by decide +kernel
  have w4 : wrap64 (3 + 1) = 4 := by decide +kernel
  have w5 : wrap64 (4 + 1) = 5 := by decide +kernel
  have r0 : rdOf ByteArray.empty five 0 = tiny := rfl
  have r1 : rdOf ByteArray.empty five 1 = small := rfl
  have r2 : rdOf ByteArray.empty five 2 = middle := rfl
  have r3 : rdOf ByteArray.empty five 3 = wide := rfl
  have r4 : rdOf ByteArray.empty five 4 = large := rfl
  have hl : (five.length : Int) = 5 := rfl
  have z : (0 : Int) < 5 ∧ (1 : Int) < 5 ∧ (2 : Int) < 5 ∧ (3 : Int) < 5 ∧ (4 : Int) < 5 ∧ ¬ (5 : Int) < 5 ∧ (0 : Int) ≤ 0 ∧ (0 : Int) ≤ 1 ∧ (0 : Int) ≤ 2 ∧ (0 : Int) ≤ 3 ∧ (0 : Int) ≤ 4 := by decide
  obtain ⟨z0, z1, z2, z3, z4, z5, y0, y1, y2, y3, y4⟩ := z
  simp only [slices_Index_string_string.l0, hl, w1, w2, w3, w4, w5, r0, r1, r2, r3, r4, z0, z1, z2, z3, z4, z5, y0, y1, y2, y3, y4, if_true, if_false]
  by_cases e0 : s.toList = tiny.toList
  · rw [if_pos e0, if_pos e0]
  · rw [if_neg e0, if_neg e0]
    by_cases e1 : s.toList = small.toList
    · rw [if_pos e1, if_pos e1]
    · rw [if_neg e1, if_neg e1]
      by_cases e2 : s.toList = middle.toList
      · rw [if_pos e2, if_pos e2]
      · rw [if_neg e2, if_neg e2]
        by_cases e3 : s.toList = wide.toList
        · rw [if_pos e3, if_pos e3]
        · rw [if_neg e3, if_neg e3]
          by_cases e4 : s.toList = large.toList
          · rw [if_pos e4, if_pos e4]
          · rw [if_neg e4, if_neg e4]

set_option maxHeartbeats 400000 in
theorem names_calls (w : World) :
    Calls Try.prog 14 #[] w fun e w' => e = .returned (.agg #[.string tiny, .string small, .string middle, .string wide, .string large]) ∧ Below w.heap.size w w' := by
  go_enter Try.func14, Try.ntmps14
  go_wp2
  go_returns
  exact ⟨rfl, (Below.refl _ _).alloc (Nat.le_refl _) _⟩

theorem five_reads (W : World) (b : Nat) (h0 : W.cell? ⟨b, 0, none⟩ = some (.string tiny)) (h1 : W.cell? ⟨b, 1, none⟩ = some (.string small)) (h2 : W.cell? ⟨b, 2, none⟩ = some (.string middle)) (h3 : W.cell? ⟨b, 3, none⟩ = some (.string wide)) (h4 : W.cell? ⟨b, 4, none⟩ = some (.string large)) :
    Kd.C Kd.string W (some ⟨b, 0, none⟩) five.length five := by
  refine ⟨rfl, by decide, fun _ => ⟨_, rfl, fun j p hp => ⟨[.string p], rfl, rfl, fun i u hu => ?_⟩⟩⟩
  have hi : i = 0 := by
    cases i with
    | zero => rfl
    | succ i => simp at hu
  subst hi
  obtain rfl : Value.string p = u := by simpa using hu
  have hj : j < 5 := (List.getElem?_eq_some_iff.1 hp).1
  show W.cell? (Addr.add ⟨b, 0, none⟩ (j * 1 + 0)) = _
  rw [add_plain]
  match j, hj with
  | 0, _ => obtain rfl : tiny = p := Option.some.inj hp; exact h0
  | 1, _ => obtain rfl : small = p := Option.some.inj hp; exact h1
  | 2, _ => obtain rfl : middle = p := Option.some.inj hp; exact h2
  | 3, _ => obtain rfl : wide = p := Option.some.inj hp; exact h3
  | 4, _ => obtain rfl : large = p := Option.some.inj hp; exact h4

theorem index_calls (s : ByteArray) (b : Nat) (W : World) (h0 : W.cell? ⟨b, 0, none⟩ = some (.string tiny)) (h1 : W.cell? ⟨b, 1, none⟩ = some (.string small)) (h2 : W.cell? ⟨b, 2, none⟩ = some (.string middle)) (h3 : W.cell? ⟨b, 3, none⟩ = some (.string wide)) (h4 : W.cell? ⟨b, 4, none⟩ = some (.string large)) :
    Calls Try.prog 22 #[.slice (some ⟨b, 0, none⟩) 5 5, .string s] W fun e w' => e = .returned (.int .i64 (idx s)) ∧ Drawn0 W w' :=
  slices_Index_string_string.calls 6 (some ⟨b, 0, none⟩) 5 five s (idx s) W (five_reads W b h0 h1 h2 h3 h4) (by decide) (index_five s)

set_option maxHeartbeats 400000 in
theorem by_calls (s : ByteArray) (w : World) :
    Calls Try.prog 15 #[.string s] w fun e w' => e = .returned (.int .i64 (idx s)) ∧ Below w.heap.size w w' := by
  go_enter Try.func15, Try.ntmps15
  go_wp2_with (go_at_call 14; refine (names_calls _).mono ?_; rintro e w1 ⟨rfl, hb⟩)
  refine (index_calls s w1.heap.size _ (by simp [go_sem]) (by simp [go_sem]) (by simp [go_sem]) (by simp [go_sem]) (by simp [go_sem])).mono ?_
  rintro e w2 ⟨rfl, hd⟩
  go_wp2
  go_ret
  exact ⟨rfl, below_then (hb.alloc hb.size _) (by simp; have := hb.size; omega) hd.below⟩
end Go.Proofs.Ytbdedbhafciilaa.Cn
