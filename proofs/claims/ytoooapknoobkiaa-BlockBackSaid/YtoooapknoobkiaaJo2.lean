/- Pack: Join's contract, and the examples that each law begins with. -/
import Derived.Test.YtoooapknoobkiaaJo1
namespace Go.Proofs.Ytoooapknoobkiaa.Jo
open Go.RowKit Go.Proofs.YtoooapknoobkiaaW.PrintWords Go.Proofs.YtoooapknoobkiaaW.PrintLast Go.Proofs.YtoooapknoobkiaaW.PrintMore Go.Proofs.Ytoooapknoobkiaa.Pk
set_option linter.unusedVariables false
set_option linter.unusedSimpArgs false

def joinR (ws vs : List Int) : Int × Bool :=
  if vs.length = ws.length then match joinL ws vs 0 true 0 with
    | some (_, true, x) => (x, true)
    | _ => (0, false)
  else (0, false)

set_option maxHeartbeats 1000000 in
theorem join_calls (A : Option Addr) (n c : Nat) (ws : List Int) (A1 : Option Addr) (n1 c1 : Nat) (vs : List Int) (w : World) (hn : ws.length = n) (hn1 : vs.length = n1)
    (hws : Kd.C (Kd.int .i64) w A n ws) (hvs : Kd.C (Kd.int .u64) w A1 n1 vs) (hwf : ∀ i, -9223372036854775808 ≤ ws.getD i 0 ∧ ws.getD i 0 ≤ 9223372036854775807) (hl : n ≤ 1000000) (hl1 : n1 ≤ 1000000) :
    Calls Try.prog 20 #[.slice A n c, .slice A1 n1 c1] w fun e w' => e = .returned (.tuple #[.int .u64 (joinR ws vs).1, .bool (joinR ws vs).2]) ∧ Below w.heap.size w w' := by
  subst hn hn1
  have HWS := Aside0.mk hws
  have HVS := Aside0.mk hvs
  have HWF := Aside0.mk hwf
  clear hws hvs hwf
  by_cases hlen : vs.length = ws.length
  · have hb : ((vs.length : Int) != (ws.length : Int)) = false := by rw [bne_eq_false_iff_eq]; omega
    have hJ : joinR ws vs = match joinL ws vs 0 true 0 with
      | some (_, true, x) => (x, true)
      | _ => (0, false) := by unfold joinR; rw [if_pos hlen]
    have HJ := Aside0.mk hJ
    have HL := Aside0.mk hlen
    clear hJ hlen
    go_enter Try.func20, Try.ntmps20
    go_wp2_with fail
    rw [HL.out]
    refine (walk_calls w _ (w.heap.size + 1 + 1) w.heap.size (w.heap.size + 1) A c ws A1 c1 vs HL.out HWS.out (by have := HVS.out; rwa [HL.out] at this) HWF.out ?hS (by omega) (by omega) (by omega) (by omega) (by omega) (by omega)).mono ?_
    case hS =>
      refine ⟨?_, ?_, ?_, ?_, ?_, ?_⟩
      · simp [go_sem]
      · simp [go_sem]
      · simp [go_sem]
      · simp [go_sem]
      · simp [go_sem]
      · go_grown
    intro e w2 ht
    cases hR : joinL ws vs 0 true 0 with
    | none =>
      rw [hR] at ht
      obtain ⟨rfl, b, x, hS⟩ := ht
      have HS := Aside0.mk hS
      have HJ2 := Aside0.mk (show joinR ws vs = (0, false) by rw [HJ.out, hR])
      clear hS HJ hR
      go_wp2
      go_ret2
      rw [HJ2.out]
      exact ⟨rfl, HS.out.below⟩
    | some r =>
      obtain ⟨a, b, x⟩ := r
      rw [hR] at ht
      obtain ⟨rfl, hS⟩ := ht
      have hF := hS.f
      have hX := hS.x
      have HS := Aside0.mk hS
      clear hS
      cases b with
      | false =>
        have HJ2 := Aside0.mk (show joinR ws vs = (0, false) by rw [HJ.out, hR])
        clear HJ hR
        go_wp2
        go_ret2
        rw [HJ2.out]
        exact ⟨rfl, HS.out.below⟩
      | true =>
        have HJ2 := Aside0.mk (show joinR ws vs = (x, true) by rw [HJ.out, hR])
        clear HJ hR
        go_wp2
        go_ret2
        rw [HJ2.out]
        exact ⟨rfl, HS.out.below⟩
  · have hb : ((vs.length : Int) != (ws.length : Int)) = true := by rw [bne_iff_ne]; omega
    have HJ2 := Aside0.mk (show joinR ws vs = (0, false) by unfold joinR; rw [if_neg hlen])
    clear hlen
    go_enter Try.func20, Try.ntmps20
    go_wp2
    go_ret2
    rw [HJ2.out]
    exact ⟨rfl, (Below.refl _ _).alloc (Nat.le_refl _) _⟩

/-! ### The examples -/
theorem C_cells {k : IntKind} (W : World) (b : Nat) (l : List Int) (hl : l.length ≤ 9223372036854775807) (h : ∀ j, j < l.length → W.cell? ⟨b, j, none⟩ = some (.int k (l.getD j 0))) : Kd.C (Kd.int k) W (some ⟨b, 0, none⟩) l.length l := by
  refine Kd.C_of_reads (enc := Value.int k) (d := (0 : Int)) (h1 := fun _ => rfl) ⟨rfl, hl, fun _ => ⟨_, rfl, fun j hj => ?_⟩⟩
  rw [add_plain]
  exact h j hj
end Go.Proofs.Ytoooapknoobkiaa.Jo
