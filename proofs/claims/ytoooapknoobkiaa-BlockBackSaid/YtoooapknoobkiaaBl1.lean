/- Block, plainly: classes, words and what is read from them; the printed functions tell them (no Go in it). -/
import Derived.Test.YtoooapknoobkiaaPl1
import Derived.Test.YtoooapknoobkiaaPBlockWordsx1
namespace Go.Proofs.Ytoooapknoobkiaa.Bl
open Go.RowKit Go.Proofs.YtoooapknoobkiaaW.PrintWords Go.Proofs.YtoooapknoobkiaaW.PrintMore Go.Proofs.Ytoooapknoobkiaa.Pk Go.Proofs.Ytoooapknoobkiaa.Jo Go.Proofs.Ytoooapknoobkiaa.Sp Go.Proofs.Ytoooapknoobkiaa.Pl
set_option linter.unusedVariables false
set_option linter.unusedSimpArgs false

/-- The class of so many words. -/
def cls (n : Int) : Int := if n < 1 ∨ 255 < n then -1 else if n < 2 then 0 else if n < 4 then 1 else if n < 8 then 2 else if n < 16 then 3 else 4
theorem cls_nonneg {n : Int} : 0 ≤ cls n ↔ 1 ≤ n ∧ n ≤ 255 := by
  unfold cls
  by_cases h : n < 1 ∨ 255 < n
  · rw [if_pos h]; omega
  · rw [if_neg h]; split <;> (try split) <;> (try split) <;> (try split) <;> omega
theorem cof (n : Int) : PBlockWords.classes_Of.f 10 n = some (cls n) := by
  have s0 : shl .i64 2 0 = 2 := by decide
  have s1 : shl .i64 2 1 = 4 := by decide
  have s2 : shl .i64 2 2 = 8 := by decide
  have s3 : shl .i64 2 3 = 16 := by decide
  have w0 : wrap64 1 = 1 := w64 1 (by decide) (by decide)
  have w1 : wrap64 2 = 2 := w64 2 (by decide) (by decide)
  have w2 : wrap64 3 = 3 := w64 3 (by decide) (by decide)
  have w3 : wrap64 4 = 4 := w64 4 (by decide) (by decide)
  unfold PBlockWords.classes_Of.f cls
  by_cases h1 : n < 1
  · simp [PBlockWords.classes_Of.j0, h1]
  · by_cases h2 : 255 < n
    · simp [PBlockWords.classes_Of.j0, h1, h2]
    · simp only [h1, h2, PBlockWords.classes_Of.j0, PBlockWords.classes_Of.l0, PBlockWords.classes_Size.f]
      by_cases c1 : n < 2 <;> by_cases c2 : n < 4 <;> by_cases c3 : n < 8 <;> by_cases c4 : n < 16 <;> simp [c1, c2, c3, c4, s0, s1, s2, s3, w0, w1, w2, w3, h1, h2] <;> omega
theorem rcof (n : Int) (hn : n ≤ 9223372036854775806) : PBlockWords.trencherref06_Of.f 10 n = some (cls n) := by
  have w0 : wrap64 1 = 1 := w64 1 (by decide) (by decide)
  have w1 : wrap64 2 = 2 := w64 2 (by decide) (by decide)
  have w2 : wrap64 3 = 3 := w64 3 (by decide) (by decide)
  have w3 : wrap64 4 = 4 := w64 4 (by decide) (by decide)
  unfold PBlockWords.trencherref06_Of.f cls
  by_cases h1 : n < 1
  · simp [PBlockWords.trencherref06_Of.j0, h1]
  · by_cases h2 : 255 < n
    · simp [PBlockWords.trencherref06_Of.j0, h1, h2]
    · have e := w64 (n + 1) (by omega) (by omega)
      simp only [h1, h2, PBlockWords.trencherref06_Of.j0, PBlockWords.trencherref06_Of.l0, PBlockWords.trencherref06_Size.f, e]
      by_cases c1 : n < 2 <;> by_cases c2 : n < 4 <;> by_cases c3 : n < 8 <;> by_cases c4 : n < 16 <;> simp [c1, c2, c3, c4, w0, w1, w2, w3, h1, h2, rd, show (n + 1 ≤ 2) = (n < 2) from propext (by omega), show (n + 1 ≤ 4) = (n < 4) from propext (by omega), show (n + 1 ≤ 8) = (n < 8) from propext (by omega), show (n + 1 ≤ 16) = (n < 16) from propext (by omega)] <;> omega
/-- May an object be? -/
def mayO (r s q : Int) : Bool := decide (1 ≤ q ∧ q ≤ 255 ∧ 0 ≤ s ∧ s ≤ q ∧ 0 ≤ r ∧ r ≤ 65535)
theorem mayO_iff {r s q : Int} : mayO r s q = true ↔ 1 ≤ q ∧ q ≤ 255 ∧ 0 ≤ s ∧ s ≤ q ∧ 0 ≤ r ∧ r ≤ 65535 := by simp [mayO]
theorem b_may (r s q : Int) : PBlockWords.block_may.f 10 r s q = some (mayO r s q) := by
  unfold PBlockWords.block_may.f mayO
  rw [cof]
  simp only [Option.bind_some]
  by_cases h : cls q ≥ 0
  · rw [if_pos h]
    have := cls_nonneg.1 h
    by_cases h1 : s ≥ 0 <;> by_cases h2 : s ≤ q <;> by_cases h3 : r ≥ 0 <;> by_cases h4 : r ≤ 65535 <;> simp [*]
  · rw [if_neg h]
    have := fun e => h (cls_nonneg.2 e)
    congr 1
    rw [eq_comm, decide_eq_false_iff_not]
    exact fun e => this ⟨e.1, e.2.1⟩
theorem r_mayO (r s q : Int) : PBlockWords.trencherref09_May.f r s q = some (mayO r s q) := by
  unfold PBlockWords.trencherref09_May.f mayO
  by_cases h1 : q ≥ 1 <;> by_cases h2 : q ≤ 255 <;> by_cases h3 : s ≥ 0 <;> by_cases h4 : s ≤ q <;> by_cases h5 : r ≥ 0 <;> by_cases h6 : r ≤ 65535 <;> simp [*]
/-- An object's word. -/
def wordV (r s q : Int) : Int := r + 65536 * s + 16777216 * q
theorem u64w {n : Int} (h0 : 0 ≤ n) (h1 : n < 18446744073709551616) : IntKind.u64.wrap n = n := wraps_u64 n h0 (by simpa using h1)
theorem r_word {r s q : Int} (h : mayO r s q = true) : PBlockWords.trencherref09_Word.f r s q = some (wordV r s q) := by
  obtain ⟨b1, b2, b3, b4, b5, b6⟩ := mayO_iff.1 h
  unfold PBlockWords.trencherref09_Word.f wordV
  rw [u64w (n := r) (by omega) (by omega), u64w (n := s) (by omega) (by omega), u64w (n := q) (by omega) (by omega), u64w (n := 65536 * s) (by omega) (by omega), u64w (n := 16777216 * q) (by omega) (by omega), u64w (n := r + 65536 * s) (by omega) (by omega), u64w (by omega) (by omega)]
end Go.Proofs.Ytoooapknoobkiaa.Bl
