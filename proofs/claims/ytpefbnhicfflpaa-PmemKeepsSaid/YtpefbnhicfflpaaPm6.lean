/- Pmem: Fence. Conditions: the region lies as 'Rg' says; the notes' keys are lines. -/
import Derived.Test.YtpefbnhicfflpaaPm5
namespace Go.Proofs.Ytpefbnhicfflpaa.Pm
open Go.RowKit Go.Maps Go.ChangeMaps Go.MapKept Go.Proofs.YtpefbnhicfflpaaW.PrintWords Go.Proofs.YtpefbnhicfflpaaW.PrintLast Go.Proofs.YtpefbnhicfflpaaW.PrintMore
set_option linter.unusedSimpArgs false
set_option linter.unusedVariables false
structure Note8 where
  (y0 y1 y2 y3 y4 y5 y6 y7 : Int)
def Note8.val (c : Note8) : Value := .agg #[.int .u64 c.y0, .int .u64 c.y1, .int .u64 c.y2, .int .u64 c.y3, .int .u64 c.y4, .int .u64 c.y5, .int .u64 c.y6, .int .u64 c.y7]
def Note8.list (c : Note8) : List Int := [c.y0, c.y1, c.y2, c.y3, c.y4, c.y5, c.y6, c.y7]
theorem note_inv (v : Value) (y : DataW Unit × List MemPlace) (h : noteR v = some y) : ∃ c : Note8, v = c.val := by
  unfold noteR at h
  split at h
  · rename_i cs
    unfold noteL at h
    split at h
    · rename_i a0 a1 a2 a3 a4 a5 a6 a7 e
      refine ⟨⟨a0, a1, a2, a3, a4, a5, a6, a7⟩, ?_⟩
      have h2 : cs = #[.int .u64 a0, .int .u64 a1, .int .u64 a2, .int .u64 a3, .int .u64 a4, .int .u64 a5, .int .u64 a6, .int .u64 a7] := Array.toList_inj.1 e
      rw [h2]
      rfl
    · cases h
  · cases h
abbrev key (i : Nat) : Lit := .int .i64 (i : Int)
theorem key_inj {a b : Nat} (h : key a = key b) : a = b := by
  have h2 : (a : Int) = (b : Int) := by injection h
  omega
theorem key_same (a b : Nat) : (key a).sameKey (key b) = decide (a = b) := by
  by_cases h : a = b
  · subst h
    rw [decide_eq_true rfl]
    exact WideAt.sameKey_self trivial
  · rw [decide_eq_false h]
    simp [Lit.sameKey]
    omega
theorem key_is (i : Nat) : WideAt.IsKeyLit (key i) := trivial
def wordN (d : DataW Unit) (j : Nat) : Int := match d with
  | .agg l => (match l[j]? with | some (.lit (.int _ a)) => a | _ => 0)
  | _ => 0
def pendAt (D : DataW Unit) (j : Nat) : Option Int := if has D (key (j - j % 8)) = true then some (wordN (D.atKey (key (j - j % 8)) .nil) (j % 8)) else none
structure WFD (N : Nat) (D : DataW Unit) : Prop where
  map : IsMap D
  keys : ∀ kl, has D kl = true → ∃ i : Nat, kl = key i ∧ i % 8 = 0 ∧ i + 8 ≤ N
theorem wfd_nil (N : Nat) : WFD N (.map []) := ⟨⟨[], rfl⟩, fun kl h => by simp [has] at h⟩
theorem wfd_put {N : Nat} {D : DataW Unit} (h : WFD N D) (i : Nat) (h8 : i % 8 = 0) (hi : i + 8 ≤ N) (d : DataW Unit) : WFD N (D.put (key i) d) := by
  refine ⟨?_, fun kl hk => ?_⟩
  · obtain ⟨es, rfl⟩ := h.map
    exact ⟨_, rfl⟩
  · by_cases e : kl = key i
    · exact ⟨i, e, h8, hi⟩
    · rw [has_put_other e] at hk
      exact h.keys kl hk
theorem pend_nil (j : Nat) : pendAt (.map []) j = none := by simp [pendAt, has]
theorem pend_put {D : DataW Unit} (hD : IsMap D) (i : Nat) (d : DataW Unit) (j : Nat) : pendAt (D.put (key i) d) j = if j - j % 8 = i then some (wordN d (j % 8)) else pendAt D j := by
  unfold pendAt
  by_cases e : j - j % 8 = i
  · rw [if_pos e, e, has_put_same hD (key_is i), if_pos rfl, atKey_put_same hD (key_is i)]
  · have hk : key (j - j % 8) ≠ key i := fun x => e (key_inj x)
    rw [if_neg e, has_put_other hk, atKey_put_other hk]
/-- 'clear' of a map. -/
theorem owns_clear {w : World} {P : Program} {k e t ty : TypeId} {R : Value → Option (DataW Unit × List MemPlace)} {b n : Nat} {D : DataW Unit} (h : w.ownsMap P k R b n D) (ht : P.underlying t = some (.map k e)) :
    ∃ w', (Builtin.clear_ #[t] ty #[.map (some b)]).run P w = .ok (.tuple #[]) w' ∧ w'.ownsMap P k R b 0 (.map []) ∧ w.grownBy w' (some b) := by
  obtain ⟨es, clock, hb, F, hs, rfl⟩ := h
  refine ⟨setBlock w b (.map #[] clock), ?_, ⟨#[], clock, heap_setBlock_same hb _, ⟨by simp, MapKept.stamped_empty clock, by simp⟩, Nat.le_refl _, rfl⟩, ⟨rfl, rfl, rfl, by simp [setBlock], fun i _ hi => heap_setBlock_other hb _ (fun e => hi (by rw [e]))⟩⟩
  simp [Builtin.clear_, run_underlying ht, MapKept.run_getObj_map hb, MapKept.run_setObj_map _ hb, Result.andThen, setBlock]
theorem note_word (c : Note8) (y : DataW Unit × List MemPlace) (h : noteR c.val = some y) (j : Nat) (hj : j < 8) : wordN y.1 j = c.list.getD j 0 := by
  have h2 : y = (.agg [.lit (.int .u64 c.y0), .lit (.int .u64 c.y1), .lit (.int .u64 c.y2), .lit (.int .u64 c.y3), .lit (.int .u64 c.y4), .lit (.int .u64 c.y5), .lit (.int .u64 c.y6), .lit (.int .u64 c.y7)], []) := (Option.some.inj h).symm
  subst h2
  rcases j with _ | _ | _ | _ | _ | _ | _ | _ | j <;> first | rfl | omega
end Go.Proofs.Ytpefbnhicfflpaa.Pm
