/- Parts of one proof, set together: Fp9. What each says stands at its head; no condition beyond theirs. -/
import Derived.Test.YtmolflmljneelaaEs5
import Derived.Lib.LazyBuf
/- Parts of a walk, after my own text Pm13 for another seat. What each says stands at its head. -/
namespace Go.Proofs.Ytmolflmljneelaa.Pm
open Go.RowKit Go.Maps Go.ChangeMaps Go.MapKept Go.Proofs.YtmolflmljneelaaW.PrintWords Go.Proofs.YtmolflmljneelaaW.PrintLast Go.Proofs.YtmolflmljneelaaW.PrintMore
set_option linter.unusedSimpArgs false
set_option linter.unusedVariables false
theorem info49 : (Try.prog.info? 49).map (fun i => (i.zero, i.size, i.bytes)) = some (some (.int .u64 0), 1, 8) := by kernel_rfl
theorem Row.reads {W : World} {g N cap : Nat} {S : List Int} (h : Row W g N cap S) : ReadsRow (fun (x : Int) c => c = [Value.int .u64 x]) 1 W (some ⟨g, 0, none⟩) N S := by
  have hl := h.len
  obtain ⟨c, h1, h2, h3, h4, h5⟩ := h.cur
  refine ⟨hl, by simp only [maxLen] at h4; omega, fun _ => ⟨_, rfl, fun j p hj => ⟨_, rfl, rfl, fun i u hu => ?_⟩⟩⟩
  have hi : i = 0 := by
    rcases i with _ | i
    · rfl
    · simp at hu
  subst hi
  simp only [List.getElem?_cons_zero, Option.some.injEq] at hu
  subst hu
  have hjl : j < N := by rw [← hl]; exact (List.getElem?_eq_some_iff.1 hj).1
  have hc := (blk_cell h1 j).trans (h5 j hjl)
  rw [List.getD_eq_getElem?_getD, hj] at hc
  have hadd : (⟨g, 0, none⟩ : Addr).add (j * 1 + 0) = ⟨g, j, none⟩ := by unfold Addr.add; split <;> simp_all
  rw [hadd]
  exact hc
theorem Row.ofOwn {W : World} {base N : Nat} {v : Value} {S : List Int} (h : W.ownsRow base 49 1 v N (encs (Value.int .u64) S)) (hl : S.length = N) (hN : 0 < N) : ∃ b cap, v = .slice (some ⟨b, 0, none⟩) N cap ∧ base ≤ b ∧ Row W b N cap S := by
  obtain ⟨hlen, ⟨_, h0⟩ | ⟨g, cap, cur, hvv, hg0, hg, hc1, hc2, hc3, hc4⟩⟩ := h
  · omega
  · refine ⟨g, cap, hvv, hg0, hl, cur, hg, by omega, hc1, hc2, fun i hi => ?_⟩
    have h5 : (cur.toList.take (N * 1))[i]? = (encs (Value.int .u64) S)[i]? := by rw [hc4]
    rw [List.getElem?_take, if_pos (by omega)] at h5
    rw [← Array.getElem?_toList, h5]
    simp [encs, hl, hi]
set_option maxHeartbeats 4000000 in
theorem clone_calls (W : World) {g N c : Nat} {S : List Int} (h : Row W g N c S) (hN : 0 < N) (hN2 : N ≤ 64) : Calls Try.prog 39 #[.slice (some ⟨g, 0, none⟩) N c] W fun e w' => ∃ b cap, e = .returned (.slice (some ⟨b, 0, none⟩) N cap) ∧ W.heap.size ≤ b ∧ Row w' b N cap S ∧ Below W.heap.size W w' := by
  have HR := Aside0.mk h
  have hl := h.len
  have hq : ∀ w : World, (binOp .eql 31 (.slice (some ⟨g, 0, none⟩) N c) (.slice none 0 0)).run Try.prog w = .ok (.bool false) w := fun w => run_eql_slice_nil w 31 49 _ N c Try.underlying31
  clear h
  go_enter Try.func39, Try.ntmps39
  go_wp2_with (((with_reducible refine gate_builtin (b := .append) (xs := #[.tmp 5, .tmp 6]) rfl ?_); at_builtin; (refine Kd.R_append_rows (Kd.int .u64) (w0 := W) (Rr := fun (x : Int) c => c = [Value.int .u64 x]) W.heap.size rfl (.tmp 5) (.tmp 6) 31 49 (.int .u64 0) 8 rfl Try.underlying31 info49 rfl (by decide) (by decide) (.slice (some ⟨W.heap.size, 0, none⟩) 0 0) [] S (some ⟨g, 0, none⟩) N c (fun _ => True) (fun _ => False) rfl rfl ?aO ?aR ?aK (fun _ hk => hk.elim) (fun _ _ => trivial) ?aB ?aS ?aL ?_); (case aO => exact Kd.R_of_own (World.ownsRow_made W #[] 0 (Nat.le_refl _) (by decide) rfl) (fun _ _ => trivial)); (case aR => exact (HR.out.below (below_alloc (Below.refl _ _) _)).reads); (case aK => exact fun x cs hx => hx); (case aB => exact below_alloc (Below.refl _ _) _); (case aS => exact ((below_alloc (Below.refl W.heap.size W) (.cells #[] 49)).size)); (case aL => (simp; omega)); intro v1 w6 ho hb6 hg6 hat))
  go_ret
  have hown := Kd.own_of_R ho
  rw [List.nil_append, hl] at hown
  obtain ⟨b, cap, rfl, hbb, hRow⟩ := Row.ofOwn hown hl hN
  exact ⟨b, cap, rfl, hbb, hRow, hb6⟩
theorem may_calls (W : World) (N : Nat) (hN : 0 < N) (h8 : N % 8 = 0) (h64 : N ≤ 64) : Calls Try.prog 18 #[.int .i64 (N : Int)] W fun e w' => e = .returned (.bool true) ∧ w' = W := by
  have h1 : decide ((N : Int) > 0) = true := decide_eq_true (by omega)
  have h2 : decide ((N : Int) ≤ 16384) = true := decide_eq_true (by omega)
  have h3 : (N : Int) % 8 = 0 := by omega
  have h4 : (0 : Int) ≤ (N : Int) := by omega
  go_enter Try.func18, Try.ntmps18
  go_wp2
  go_ret
  exact ⟨rfl, rfl⟩
set_option maxHeartbeats 4000000 in
theorem of_calls (W : World) {g N c : Nat} {S : List Int} (h : Row W g N c S) (hN : 0 < N) (h8 : N % 8 = 0) (hN2 : N ≤ 64) : Calls Try.prog 19 #[.slice (some ⟨g, 0, none⟩) N c] W fun e w' => ∃ p gs gk bm cs ck, e = .returned (.pointer (some ⟨p, 0, none⟩)) ∧ Rg w' p gs gk bm N cs ck 0 S S (.map []) ∧ Below W.heap.size W w' ∧ W.heap.size ≤ gs ∧ W.heap.size ≤ gk ∧ W.heap.size ≤ bm ∧ W.heap.size ≤ p := by
  have HR := Aside0.mk h
  have hu := Try.underlying86
  clear h
  go_enter Try.func19, Try.ntmps19
  go_wp2_with ((first
    | (go_at_call 18; refine (may_calls _ N hN h8 hN2).mono ?_; rintro e w' ⟨rfl, hw⟩; obtain rfl := hw.symm)
    | (go_at_call 39; first
      | (refine (clone_calls _ HK1.out hN hN2).mono ?_; rintro e w2 ⟨gk, ck, rfl, hgk, hk2, hb2⟩; have HK2 := Aside0.mk hk2; have HB2 := Aside0.mk hb2; clear hk2 hb2)
      | (refine (clone_calls _ HR.out hN hN2).mono ?_; rintro e w1 ⟨gs, cs, rfl, hgs, hs1, hb1⟩; have HS1 := Aside0.mk hs1; have HB1 := Aside0.mk hb1; have HK1 := Aside0.mk (HR.out.below hb1); clear hs1 hb1))))
  rw [run_makeMap]
  go_wp2
  go_ret
  have hbm := blk_new (w2) (.map #[] 0)
  have hs : (w2.alloc (.map #[] 0)).heap.size = w2.heap.size + 1 := by simp
  have hbp := blk_new (w2.alloc (.map #[] 0)) (.cells #[.slice (some ⟨gs, 0, none⟩) N cs, .slice (some ⟨gk, 0, none⟩) N ck, .map (some w2.heap.size), .int .i64 0] 86)
  rw [hs] at hbp
  have hb3 := below_alloc (below_alloc (Below.refl w2.heap.size w2) (.map #[] 0)) (.cells #[.slice (some ⟨gs, 0, none⟩) N cs, .slice (some ⟨gk, 0, none⟩) N ck, .map (some w2.heap.size), .int .i64 0] 86)
  have l1 := HS1.out.lt
  have l2 := HK2.out.lt
  have l3 := HB2.out.size
  have l4 := HB1.out.size
  have ho := owns_below (World.ownsMap_made w2 Try.prog 3 noteR) (below_alloc (Below.refl _ _) (.cells #[.slice (some ⟨gs, 0, none⟩) N cs, .slice (some ⟨gk, 0, none⟩) N ck, .map (some w2.heap.size), .int .i64 0] 86))
  refine ⟨w2.heap.size + 1, gs, gk, w2.heap.size, cs, ck, rfl, ⟨⟨0, hbp⟩, (HS1.out.below HB2.out).below hb3, HK2.out.below hb3, ho, ?_⟩, ?_, hgs, by omega, by omega, by omega⟩
  · refine ⟨?_, ?_, ?_, ?_, ?_, ?_⟩ <;> omega
  · exact (HB1.out.trans (HB2.out.mono l4)).trans (hb3.mono (by omega))
theorem made8 : ∀ w : World, (Instr.makeSlice 31 (.int .i64 8) (.int .i64 8)).run Try.prog w = .ok (.slice (some ⟨w.heap.size, 0, none⟩) 8 8) (w.alloc (.cells (Array.replicate 8 (.int .u64 0)) 49)) := fun _ => by kernel_rfl
theorem made16 : ∀ w : World, (Instr.makeSlice 31 (.int .i64 16) (.int .i64 16)).run Try.prog w = .ok (.slice (some ⟨w.heap.size, 0, none⟩) 16 16) (w.alloc (.cells (Array.replicate 16 (.int .u64 0)) 49)) := fun _ => by kernel_rfl
theorem row_made (W : World) (N : Nat) (hN : N ≤ 64) : Row (W.alloc (.cells (Array.replicate N (.int .u64 0)) 49)) W.heap.size N N (List.replicate N 0) := ⟨by simp, _, blk_new W _, by simp, Nat.le_refl _, by simp only [maxLen]; omega, fun i hi => by simp [hi]⟩
set_option maxHeartbeats 4000000 in
theorem new_calls (W : World) (N : Nat) (hN : N = 8 ∨ N = 16) : Calls Try.prog 5 #[.int .i64 (N : Int)] W fun e w' => ∃ p gs gk bm cs ck, e = .returned (.pointer (some ⟨p, 0, none⟩)) ∧ Rg w' p gs gk bm N cs ck 0 (List.replicate N 0) (List.replicate N 0) (.map []) ∧ Below W.heap.size W w' ∧ W.heap.size ≤ gs ∧ W.heap.size ≤ gk ∧ W.heap.size ≤ bm ∧ W.heap.size ≤ p := by
  have hmk : ∀ w : World, (Instr.makeSlice 31 (.int .i64 (N : Int)) (.int .i64 (N : Int))).run Try.prog w = .ok (.slice (some ⟨w.heap.size, 0, none⟩) N N) (w.alloc (.cells (Array.replicate N (.int .u64 0)) 49)) := by
    rcases hN with rfl | rfl
    · exact made8
    · exact made16
  have h0 : 0 < N ∧ N % 8 = 0 ∧ N ≤ 64 := by omega
  obtain ⟨h0, h8, h64⟩ := h0
  have HR := Aside0.mk (row_made W N h64)
  clear hN
  go_enter Try.func5, Try.ntmps5
  go_wp2_with ((first
    | (go_at_call 18; refine (may_calls _ N h0 h8 h64).mono ?_; rintro e w' ⟨rfl, hw⟩; obtain rfl := hw.symm)
    | (go_at_call 19; refine (of_calls _ HR.out h0 h8 h64).mono ?_; rintro e w1 ⟨p, gs, gk, bm, cs, ck, rfl, hG, hB, l1, l2, l3, l4⟩)))
  go_ret
  have hs := (below_alloc (Below.refl W.heap.size W) (.cells (Array.replicate N (.int .u64 0)) 49)).size
  exact ⟨p, gs, gk, bm, cs, ck, rfl, hG, (below_alloc (Below.refl W.heap.size W) _).trans (hB.mono hs), by omega, by omega, by omega, by omega⟩
end Go.Proofs.Ytmolflmljneelaa.Pm
