/- Pmem: slices.Contains; ways' closure 'add'. Conditions: the list lies in a block of its own. -/
import Derived.Test.YtpefbnhicfflpaaPm10
import Derived.OneCell
import Derived.RangeFuncBox
namespace Go.Proofs.Ytpefbnhicfflpaa.Pm
open Go.RowKit Go.Maps Go.ChangeMaps Go.MapKept Go.Proofs.YtpefbnhicfflpaaW.PrintWords Go.Proofs.YtpefbnhicfflpaaW.PrintLast Go.Proofs.YtpefbnhicfflpaaW.PrintMore
set_option linter.unusedSimpArgs false
set_option linter.unusedVariables false
theorem contains_calls (W : World) (l : List Int) (hl : l.length ≤ 8) (x : Int) (g cap : Nat) (h : ∀ i, i < l.length → W.cell? ⟨g, i, none⟩ = some (.int .u64 (l.getD i 0))) (b : Bool) (hb : Aside0 (b = true ↔ x ∈ l)) : Calls Try.prog 44 #[.slice (some ⟨g, 0, none⟩) l.length cap, .int .u64 x] W fun e w' => e = .returned (.bool b) ∧ ∃ m, w' = W.drewN m := by
  have HI := idx_calls W l hl x g cap h
  clear h
  cases b with
  | true =>
    have hm := hb.out.1 rfl
    have HM := Aside0.mk hm
    clear hm
    go_enter Try.func44, Try.ntmps44
    go_wp2_with (go_at_call 46; refine HI.mono ?_; rintro e w' ⟨r, rfl, hr, m, rfl⟩; have hd : decide (r ≥ 0) = true := decide_eq_true (hr.2 HM.out))
    go_ret
    have hr0 := hr.2 HM.out
    exact ⟨by simp [hr0]; exact HM.out, m, rfl⟩
  | false =>
    have hm : ¬ x ∈ l := fun hh => absurd (hb.out.2 hh) (by decide)
    have HM := Aside0.mk hm
    clear hm
    go_enter Try.func44, Try.ntmps44
    go_wp2_with (go_at_call 46; refine HI.mono ?_; rintro e w' ⟨r, rfl, hr, m, rfl⟩; have hd : decide (r ≥ 0) = false := decide_eq_false (fun hh => HM.out (hr.1 hh)))
    go_ret
    have hr0 : ¬ r ≥ 0 := fun hh => HM.out (hr.1 hh)
    exact ⟨by simp [hr0]; exact HM.out, m, rfl⟩
theorem info36 : (Try.prog.info? 36).map (fun i => (i.zero, i.size, i.bytes)) = some (some (.int .u64 0), 1, 8) := by kernel_rfl
/-- The list that ways fills: its variable's block, its row. -/
structure Lst (W0 W : World) (bv : Nat) (l : List Int) : Prop where
  hb : Below W0.heap.size W0 W
  bv0 : W0.heap.size ≤ bv
  pos : 1 ≤ l.length
  row : ∃ v : Value, W.heap[bv]? = some (.cells #[v] 64 (0, 0)) ∧ Kd.R (Kd.int .u64) 36 W W0.heap.size (fun k => k ≠ bv) v l
theorem Lst.drewN {W0 W : World} {bv : Nat} {l : List Int} (h : Lst W0 W bv l) (m : Nat) : Lst W0 (W.drewN m) bv l := ⟨pw_below_drewN h.hb m, h.bv0, h.pos, let ⟨v, h1, h2⟩ := h.row; ⟨v, h1, Kd.R_drewN h2 m⟩⟩
def addW (l : List Int) (x : Int) : List Int := if x ∈ l then l else l ++ [x]
set_option maxHeartbeats 4000000 in
theorem add_calls (W0 W : World) (bv : Nat) (l : List Int) (h : Lst W0 W bv l) (hl : l.length ≤ 7) (x : Int) : Calls Try.prog 43 #[.int .u64 x, .pointer (some ⟨bv, 0, none⟩)] W fun e w' => (∃ v, e = .returned v) ∧ Lst W0 w' bv (addW l x) := by
  obtain ⟨v, hv, hR⟩ := h.row
  have hown := Kd.own_of_R hR
  obtain ⟨hlen, hnil | ⟨g, cap, cur, hvv, hg0, hg, hc1, hc2, hc3, hc4⟩⟩ := hown
  · have := h.pos; omega
  subst hvv
  have hcell : ∀ i, i < l.length → W.cell? ⟨g, i, none⟩ = some (.int .u64 (l.getD i 0)) := fun i hi => by
    rw [blk_cell hg i]
    have h5 : (cur.toList.take (l.length * 1))[i]? = (encs (Value.int .u64) l)[i]? := by rw [hc4]
    rw [List.getElem?_take, if_pos (by omega)] at h5
    rw [← Array.getElem?_toList, h5]
    simp [encs, hi]
  have HC := Aside0.mk hcell
  have hc0 : W.cell? ⟨bv, 0, none⟩ = some (.slice (some ⟨g, 0, none⟩) l.length cap) := (blk_cell hv 0).trans rfl
  have hf0 : W.frozen? ⟨bv, 0, none⟩ = false := blk_frozen hv 0
  have HV := Aside0.mk hv
  have HRR := Aside0.mk hR
  have HL := Aside0.mk h
  have hgb : g ≠ bv := hR.1 g rfl
  clear hv hR hcell hlen hc4 hc3
  by_cases hx : x ∈ l
  · have ha : addW l x = l := if_pos hx
    rw [ha]
    have HX : Aside0 (true = true ↔ x ∈ l) := Aside0.mk ⟨fun _ => hx, fun _ => rfl⟩
    clear hx ha h
    go_enter Try.func43, Try.ntmps43
    go_wp2_with (go_at_call 44; refine (contains_calls W l (by omega) x g cap HC.out true HX).mono ?_; rintro e w' ⟨rfl, m, rfl⟩)
    go_end0
    exact ⟨⟨_, rfl⟩, HL.out.drewN m⟩
  · have ha : addW l x = l ++ [x] := if_neg hx
    rw [ha]
    have HX : Aside0 (false = true ↔ x ∈ l) := Aside0.mk ⟨fun hh => absurd hh (by decide), fun hh => absurd hh hx⟩
    clear hx ha h
    go_enter Try.func43, Try.ntmps43
    go_wp2_with (first
      | (go_at_call 44; refine (contains_calls W l (by omega) x g cap HC.out false HX).mono ?_; rintro e w' ⟨rfl, m, rfl⟩)
      | ((with_reducible refine gate_builtin (b := .append) (xs := #[.tmp 7, .tmp 9]) rfl ?_); at_builtin; (refine Kd.R_append (Kd.int .u64) (w0 := W0) W0.heap.size rfl (.tmp 7) (.tmp 9) 64 36 (.int .u64 0) 8 rfl Try.underlying64 info36 rfl (by decide) (by omega) (.slice (some ⟨g, 0, none⟩) l.length cap) l x [.int .u64 x] (fun k => k ≠ bv) (fun _ => False) rfl rfl ?aP (fun _ hk => hk.elim) ?aF ?aO ?aB ?aS ?aL ?_); (case aP => rfl); (case aF => exact fun k hk => (by have h1_ := blk_lt HV.out; have h2_ : W.heap.size ≤ k := hk; omega)); (case aO => exact Kd.R_drewN HRR.out m); (case aB => exact pw_below_drewN HL.out.hb m); (case aS => exact HL.out.hb.size); (case aL => omega); intro v1 w6 ho hb6 hg6 hat; have ho2 := Kd.own_of_R ho; rw [List.length_append] at ho2; obtain ⟨g', cap', rfl⟩ := ownsRow_succ ho2; have hv6 := (hg6.block bv (blk_lt HV.out) (by show some bv ≠ some g; simp; exact fun e => hgb e.symm)).trans HV.out; have hc6 : w6.cell? ⟨bv, 0, none⟩ = some (.slice (some ⟨g, 0, none⟩) l.length cap) := (blk_cell hv6 0).trans rfl; have hf6 : w6.frozen? ⟨bv, 0, none⟩ = false := blk_frozen hv6 0; have HO := Aside0.mk ho; have HV6 := Aside0.mk hv6; have HB6 := Aside0.mk hb6; clear ho ho2 hv6 hb6 hg6 hat))
    go_end0
    have hgb' : g' ≠ bv := HO.out.1 g' rfl
    refine ⟨⟨_, rfl⟩, HB6.out.setCell (p := ⟨bv, 0, none⟩) HL.out.bv0 _, HL.out.bv0, by simp, _, blk_put HV6.out 0 _ rfl, Kd.R_of_own (ownsRow_setCell_other (Kd.own_of_R HO.out) (by show some g' ≠ some bv; simp; exact hgb') _) (fun k hk => ?_)⟩
    exact HO.out.1 k hk
end Go.Proofs.Ytpefbnhicfflpaa.Pm
