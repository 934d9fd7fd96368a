/- Parts of one proof, set together: Gr10. What each says stands at its head; no condition beyond theirs. -/
import Derived.Test.YtekggbmajemmhaaDb11
import Derived.Lib.OwnBridge
import Derived.Sort.OwnSortedInts
/- Diff: slices.Sort, slices.Compact: keys that rise. Conditions: a slice of the call's own; at most 80. -/
namespace Go.Proofs.Ytekggbmajemmhaa.Gr
open Go.RowKit Go.Shelf Go.Maps Go.Sort Go.ChangeMaps Go.MapKept Go.Proofs.YtekggbmajemmhaaW.PrintWords Go.Proofs.YtekggbmajemmhaaW.PrintLast Go.Proofs.YtekggbmajemmhaaW.PrintMore
set_option linter.unusedSimpArgs false
set_option linter.unusedVariables false
def srt (l : List Int) : List Int := l.mergeSort fun x y => decide (x ≤ y)
theorem srt_mem (l : List Int) (x : Int) : x ∈ srt l ↔ x ∈ l := List.mem_mergeSort
theorem srt_len (l : List Int) : (srt l).length = l.length := List.length_mergeSort l
theorem srt_rises (l : List Int) : (srt l).Pairwise (· ≤ ·) := by
  have := List.pairwise_mergeSort (le := fun x y : Int => decide (x ≤ y)) (fun a b c h1 h2 => by simp at h1 h2 ⊢; omega) (fun a b => by simp; omega) l
  exact this.imp (fun h => by simpa using h)
theorem compact_rises {zs : List Int} (h : zs.Pairwise (· ≤ ·)) : ∀ m, m ≤ zs.length → (Lib.compactUpTo zs.toArray m).Pairwise (· < ·) ∧ (∀ x, x ∈ Lib.compactUpTo zs.toArray m ↔ ∃ j, j < m ∧ zs.getD j 0 = x)
  | 0, _ => ⟨by simp [Lib.compactUpTo], fun x => by simp [Lib.compactUpTo]⟩
  | m + 1, hm => by
    obtain ⟨i1, i2⟩ := compact_rises h m (by omega)
    have hg : ∀ j, j < zs.length → (zs.toArray)[j]! = zs.getD j 0 := fun j hj => by
      rw [getElem!_pos _ j (by simpa using hj), List.getD_eq_getElem?_getD, List.getElem?_eq_getElem hj]
      simp
    have hle : ∀ j, j ≤ m → zs.getD j 0 ≤ zs.getD m 0 := fun j hj => by
      by_cases e : j = m
      · rw [e]; exact Int.le_refl _
      · rw [List.getD_eq_getElem?_getD, List.getElem?_eq_getElem (by omega), List.getD_eq_getElem?_getD, List.getElem?_eq_getElem (by omega)]
        exact List.pairwise_iff_getElem.1 h j m (by omega) (by omega) (by omega)
    rw [Lib.compactUpTo_succ]
    by_cases hk : Lib.keeps zs.toArray m = true
    · rw [if_pos hk, hg m (by omega)]
      have hlt : ∀ j, j < m → zs.getD j 0 < zs.getD m 0 := fun j hj => by
        have hk' : m = 0 ∨ zs.toArray[m]! ≠ zs.toArray[m - 1]! := by simpa [Lib.keeps] using hk
        rcases hk' with h0 | h0
        · omega
        · rw [hg m (by omega), hg (m - 1) (by omega)] at h0
          have a1 := hle (m - 1) (by omega)
          have a2 : zs.getD j 0 ≤ zs.getD (m - 1) 0 := by
            by_cases e : j = m - 1
            · rw [e]; exact Int.le_refl _
            · rw [List.getD_eq_getElem?_getD, List.getElem?_eq_getElem (by omega), List.getD_eq_getElem?_getD, List.getElem?_eq_getElem (by omega)]
              exact List.pairwise_iff_getElem.1 h j (m - 1) (by omega) (by omega) (by omega)
          omega
      refine ⟨List.pairwise_append.2 ⟨i1, by simp, fun a ha b hb => ?_⟩, fun x => ?_⟩
      · obtain ⟨j, hj, e⟩ := (i2 a).1 ha
        rw [List.mem_singleton.1 hb, ← e]
        exact hlt j hj
      · rw [List.mem_append, i2 x, List.mem_singleton]
        constructor
        · rintro (⟨j, hj, e⟩ | e)
          · exact ⟨j, by omega, e⟩
          · exact ⟨m, by omega, e.symm⟩
        · rintro ⟨j, hj, e⟩
          by_cases hjm : j = m
          · subst hjm; exact Or.inr e.symm
          · exact Or.inl ⟨j, by omega, e⟩
    · rw [if_neg hk, List.append_nil]
      refine ⟨i1, fun x => ?_⟩
      rw [i2 x]
      have hk' : m ≠ 0 ∧ zs.toArray[m]! = zs.toArray[m - 1]! := by simpa [Lib.keeps] using hk
      rw [hg m (by omega), hg (m - 1) (by omega)] at hk'
      constructor
      · rintro ⟨j, hj, e⟩
        exact ⟨j, by omega, e⟩
      · rintro ⟨j, hj, e⟩
        by_cases hjm : j = m
        · subst hjm; exact ⟨j - 1, by omega, by rw [← hk'.2]; exact e⟩
        · exact ⟨j, by omega, e⟩
theorem getD_mem {l : List Int} {x : Int} : (∃ j, j < l.length ∧ l.getD j 0 = x) ↔ x ∈ l := by
  constructor
  · rintro ⟨j, hj, rfl⟩
    rw [List.getD_eq_getElem?_getD, List.getElem?_eq_getElem hj]
    exact List.getElem_mem hj
  · intro h
    obtain ⟨j, hj, e⟩ := List.getElem_of_mem h
    exact ⟨j, hj, by rw [List.getD_eq_getElem?_getD, List.getElem?_eq_getElem hj]; exact e⟩
theorem keys_of {w1 w2 all : List Int} (h : ∀ x, x ∈ all ↔ x ∈ w1 ∨ x ∈ w2) : Keys w1 w2 (Lib.compact (srt all)) := by
  obtain ⟨h1, h2⟩ := compact_rises (srt_rises all) (srt all).length (Nat.le_refl _)
  refine ⟨h1, fun x => ?_⟩
  rw [show Lib.compact (srt all) = Lib.compactUpTo (srt all).toArray (srt all).length from rfl, h2 x, getD_mem, srt_mem]
  exact h x
theorem sort_calls (w : World) (X : Nat) (hX : X ≤ w.heap.size) (a : Option Addr) (n c : Nat) (l : List Int) (h : w.ownsRow X 3 1 (.slice a n c) n (l.map (Value.int .i64))) (hn : n ≤ 80) :
    Calls Try.prog 47 #[.slice a n c] w fun e W' => (∃ v, e = .returned v) ∧ W'.ownsRow X 3 1 (.slice a n c) n ((srt l).map (Value.int .i64)) ∧ Below X w W' ∧ KeepsOthers w W' := by
  have hl : l.length = n := by have := h.1; rw [List.length_map] at this; omega
  rcases h.2 with ⟨e, h0⟩ | ⟨g, cap, cur, e, hb, hg, h1, h2, h3, h4⟩
  · cases e
    obtain rfl : l = [] := List.length_eq_zero_iff.1 hl
    refine (Sh.slices_Sort_int_none none 0 w).mono ?_
    rintro e w' ⟨rfl, rfl⟩
    exact ⟨⟨_, rfl⟩, by rw [show srt [] = [] from List.length_eq_zero_iff.1 (srt_len [])]; exact World.ownsRow_nil _ _ _ _, Below.refl _ _, KeepsOthers.refl _⟩
  · cases e
    subst hl
    have hH : Holds (Value.int .i64) w g 0 l.toArray := holds_of_blockI hg (by rw [Nat.mul_one] at h4; exact h4)
    refine (Sh.slices_Sort_int g 0 c l w hH (Array.getElem?_eq_some_iff.1 hg).1 (by omega)).mono ?_
    rintro e w' ⟨rfl, q, os, rfl⟩
    have hgr := grownBy_sortedI (w := w) (g := g) (n := q) (os := os) (srt l).toArray
    exact ⟨⟨_, rfl⟩, ownsRow_sortedI (srt_len l) hb hg h1 h2 h3, (Below.refl X w).grown hgr hX (fun k e => by cases e; exact hb), KeepsOthers.of_grownBy hgr (fun j o ej hj => by cases ej; rw [hg] at hj; cases hj; rfl)⟩
theorem compact_calls (w : World) (X : Nat) (hX : X ≤ w.heap.size) (a : Option Addr) (n c : Nat) (l : List Int) (h : w.ownsRow X 3 1 (.slice a n c) n (l.map (Value.int .i64))) (hn : n ≤ 80) :
    Calls Try.prog 48 #[.slice a n c] w fun e W' => e = .returned (.slice a (Lib.compact l).length c) ∧ W'.ownsRow X 3 1 (.slice a (Lib.compact l).length c) (Lib.compact l).length ((Lib.compact l).map (Value.int .i64)) ∧ Below X w W' ∧ KeepsOthers w W' := by
  have hl : l.length = n := by have := h.1; rw [List.length_map] at this; omega
  have h' := h
  rcases h.2 with ⟨e, h0⟩ | ⟨g, cap, cur, e, hb, hg, h1, h2, h3, h4⟩
  · cases e
    obtain rfl : l = [] := List.length_eq_zero_iff.1 hl
    refine (Sh.slices_Compact_int_empty none 0 w).mono ?_
    rintro e w' ⟨rfl, rfl⟩
    exact ⟨rfl, World.ownsRow_nil _ _ _ _, Below.refl _ _, KeepsOthers.refl _⟩
  · cases e
    subst hl
    have hH : Holds (Value.int .i64) w g 0 l.toArray := holds_of_blockI hg (by rw [Nat.mul_one] at h4; exact h4)
    refine (Sh.slices_Compact_int g 0 c l w hH (by omega) h1).mono ?_
    rintro e w' ⟨rfl, q, rfl⟩
    have hle := Lib.compact_length_le l
    have ho := Lib.ownsRow_putRow (q := q) (k := (Lib.compact l).length) (ys := Lib.compact l ++ List.replicate (l.length - (Lib.compact l).length) 0) h' (by simp; omega) hle
    rw [List.take_left] at ho
    have hgr := grownBy_sortedI (w := w) (g := g) (n := q) (os := #[]) (Lib.compact l ++ List.replicate (l.length - (Lib.compact l).length) 0).toArray
    rw [grow_empty] at hgr
    exact ⟨rfl, ho, Lib.below_putRow (Below.refl X w) hb, KeepsOthers.of_grownBy hgr (fun j o ej hj => by cases ej; rw [hg] at hj; cases hj; rfl)⟩
end Go.Proofs.Ytekggbmajemmhaa.Gr
