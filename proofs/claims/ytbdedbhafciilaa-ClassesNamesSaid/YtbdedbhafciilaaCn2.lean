/- ClassesNames, the walk: for every text the law's call returns true and turns nothing that was there. No condition. -/
import Derived.Test.YtbdedbhafciilaaCn1
import Derived.Lib.Hide
namespace Go.Proofs.Ytbdedbhafciilaa.Cn
open Go.RowKit Go.Proofs.YtbdedbhafciilaaW.PrintWords Go.Proofs.YtbdedbhafciilaaW.PrintLast Go.Proofs.YtbdedbhafciilaaW.PrintMore Go.Proofs.Ytbdedbhafciilaa.PClassesNames
set_option linter.unusedVariables false

def nth (k : Nat) : ByteArray := five.getD k ByteArray.empty
theorem idx_nth : ∀ k, k < 5 → idx (nth k) = (k : Int)
  | 0, _ => by decide +kernel
  | 1, _ => by decide +kernel
  | 2, _ => by decide +kernel
  | 3, _ => by decide +kernel
  | 4, _ => by decide +kernel

/-- Which of the first k of the five a text is. -/
def upto (s : ByteArray) : Nat → Int
  | 0 => -1
  | k + 1 => if (nth k).toList = s.toList then k else upto s k
theorem upto_five (s : ByteArray) : upto s 5 = idx s := by
  have n0 : nth 0 = tiny := rfl
  have n1 : nth 1 = small := rfl
  have n2 : nth 2 = middle := rfl
  have n3 : nth 3 = wide := rfl
  have n4 : nth 4 = large := rfl
  simp only [upto, n0, n1, n2, n3, n4]
  unfold idx
  by_cases e0 : s.toList = tiny.toList
  · rw [if_pos e0, e0]; decide +kernel
  · rw [if_neg e0]
    by_cases e1 : s.toList = small.toList
    · rw [if_pos e1, e1]; decide +kernel
    · rw [if_neg e1]
      by_cases e2 : s.toList = middle.toList
      · rw [if_pos e2, e2]; decide +kernel
      · rw [if_neg e2]
        by_cases e3 : s.toList = wide.toList
        · rw [if_pos e3, e3]; decide +kernel
        · rw [if_neg e3]
          by_cases e4 : s.toList = large.toList
          · rw [if_pos e4, e4]; decide +kernel
          · rw [if_neg e4, if_neg (fun h => e4 h.symm), if_neg (fun h => e3 h.symm), if_neg (fun h => e2 h.symm), if_neg (fun h => e1 h.symm), if_neg (fun h => e0 h.symm)]

/-- The five lie in block B of W. -/
def Lie (B : Nat) (W : World) : Prop := ∀ k, k < 5 → W.cell? ⟨B, k, none⟩ = some (.string (nth k))
theorem Lie.below {B : Nat} {W W' : World} (h : Lie B W) (hb : Below W.heap.size W W') : Lie B W' := fun k hk => pw_cell_below hb (h k hk)

theorem alive_yes : trencherlaw06_alive.f 20 = some true := by decide +kernel

set_option maxHeartbeats 400000 in
theorem law_walk (s : ByteArray) (w : World) :
    Calls Try.prog 4 #[.string s] w fun e w' => e = .returned (.bool true) ∧ Below w.heap.size w w' := by
  go_enter Try.func4, Try.ntmps4
  go_wp2_with fail
  refine (trencherlaw06_alive.calls 20 true _ alive_yes).mono ?_
  rintro e w1 ⟨rfl, hd1⟩
  have hb1 := hd1.below
  clear hd1
  go_wp2_with fail
  refine (names_calls _).mono ?_
  rintro e w2 ⟨rfl, hb2⟩
  go_wp2_with fail
  have hlie : Lie w2.heap.size (w2.alloc (.cells #[.string tiny, .string small, .string middle, .string wide, .string large] 25)) := by
    intro k hk
    match k, hk with
    | 0, _ => simp [go_sem, nth, five]
    | 1, _ => simp [go_sem, nth, five]
    | 2, _ => simp [go_sem, nth, five]
    | 3, _ => simp [go_sem, nth, five]
    | 4, _ => simp [go_sem, nth, five]
  have hbw : Below w.heap.size w (w2.alloc (.cells #[.string tiny, .string small, .string middle, .string wide, .string large] 25)) :=
    below_then hb1 hb1.size (hb2.alloc hb2.size _)
  have HL := Lib.hid hlie
  have HB := Lib.hid hbw
  clear hlie hbw hb1 hb2
  go_loopw [4, 5] (fun v i wr => ∃ k : Nat, k ≤ 5 ∧ i = .int .i64 k ∧ v = .int .i64 (upto s k) ∧ Hid (Lie w2.heap.size wr) ∧ Hid (Below w.heap.size w wr)) (fun _ i _ => 5 - (intOf i).toNat)
  case atStart => exact ⟨0, by omega, rfl, rfl, HL, HB⟩
  case round =>
    clear HL HB
    obtain ⟨k, hk, rfl, rfl, HL, HB⟩ := hrel
    by_cases hlt : k < 5
    · have hc : wr.cell? ⟨w2.heap.size, k, none⟩ = some (.string (nth k)) := HL.out k hlt
      have hi := idx_nth k hlt
      have Hn : Hid (upto s (k + 1) = if (nth k).toList = s.toList then (k : Int) else upto s k) := Lib.hid rfl
      generalize nth k = x at *
      have Hi := Lib.hid hi
      clear hi
      go_wp2_with fail
      refine (by_calls x _).mono ?_
      rintro e w3 ⟨rfl, hb3⟩
      have hc3 : w3.cell? ⟨w2.heap.size, k, none⟩ = some (.string x) := pw_cell_below hb3 hc
      have HL3 := Lib.hid (HL.out.below hb3)
      have HB3 := Lib.hid (below_then HB.out HB.out.size hb3)
      clear HL HB hb3 hc
      rw [Hi.out]
      by_cases hs : x.toList = s.toList
      · have hs0 : (x.toList == s.toList) = true := beq_iff_eq.mpr hs
        have Hu : Hid (upto s (k + 1) = k) := Lib.hid (by rw [Hn.out, if_pos hs])
        clear hs Hn Hi
        go_wp2
        go_roundw
        case rel => exact ⟨k + 1, by omega, by go_num, by rw [Hu.out], HL3, HB3⟩
        case measure => simp [intOf]; omega
      · have hs0 : (x.toList == s.toList) = false := beq_eq_false_iff_ne.mpr hs
        have Hu : Hid (upto s (k + 1) = upto s k) := Lib.hid (by rw [Hn.out, if_neg hs])
        clear hs Hn Hi
        go_wp2
        go_roundw
        case rel => exact ⟨k + 1, by omega, by go_num, by rw [Hu.out], HL3, HB3⟩
        case measure => simp [intOf]; omega
    · obtain rfl : k = 5 := by omega
      have h0 : wr.cell? ⟨w2.heap.size, 0, none⟩ = some (.string tiny) := HL.out 0 (by omega)
      have h1 : wr.cell? ⟨w2.heap.size, 1, none⟩ = some (.string small) := HL.out 1 (by omega)
      have h2 : wr.cell? ⟨w2.heap.size, 2, none⟩ = some (.string middle) := HL.out 2 (by omega)
      have h3 : wr.cell? ⟨w2.heap.size, 3, none⟩ = some (.string wide) := HL.out 3 (by omega)
      have h4 : wr.cell? ⟨w2.heap.size, 4, none⟩ = some (.string large) := HL.out 4 (by omega)
      rw [upto_five]
      go_wp2_with fail
      refine (by_calls s _).mono ?_
      rintro e w3 ⟨rfl, hb3⟩
      have k0 := pw_cell_below hb3 h0
      have k1 := pw_cell_below hb3 h1
      have k2 := pw_cell_below hb3 h2
      have k3 := pw_cell_below hb3 h3
      have k4 := pw_cell_below hb3 h4
      have HB3 := Lib.hid (below_then HB.out HB.out.size hb3)
      have e0 : (tiny.toList == [116, 105, 110, 121]) = true := by decide +kernel
      have e1 : (small.toList == [115, 109, 97, 108, 108]) = true := by decide +kernel
      have e2 : (middle.toList == [109, 105, 100, 100, 108, 101]) = true := by decide +kernel
      have e3 : (wide.toList == [119, 105, 100, 101]) = true := by decide +kernel
      have e4 : (large.toList == [108, 97, 114, 103, 101]) = true := by decide +kernel
      clear HB HL h0 h1 h2 h3 h4 hb3
      go_wp2
      go_ret
      exact ⟨rfl, HB3.out⟩
theorem law_walk0 (s : ByteArray) (w : World) (_ : s.size ≤ 140737488351232) :
    Calls Try.prog 4 #[.string s] w fun e w' => e = .returned (.bool true) ∧ Below w.heap.size w w' := law_walk s w
end Go.Proofs.Ytbdedbhafciilaa.Cn
