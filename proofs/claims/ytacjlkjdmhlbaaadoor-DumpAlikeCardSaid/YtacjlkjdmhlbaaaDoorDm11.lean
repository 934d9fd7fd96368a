/- Parts of one proof, set together: DoorDk6. What each says stands at its head; no condition beyond theirs. -/
import Derived.Test.YtacjlkjdmhlbaaaDoorDm10
import Derived.Deep.RegionLaw
import Derived.Laws.CopyOwn
import Derived.OwnWalk
/- Dump: slices.Repeat of one word, once or twice. Condition: the word's row lies in memory. -/
namespace Go.Proofs.YtacjlkjdmhlbaaaDoor.Gr
open Go.RowKit Go.Shelf Go.Maps Go.ChangeMaps Go.MapKept Go.Proofs.YtacjlkjdmhlbaaaDoorW.PrintWords Go.Proofs.YtacjlkjdmhlbaaaDoorW.PrintLast Go.Proofs.YtacjlkjdmhlbaaaDoorW.PrintMore
set_option linter.unusedSimpArgs false
set_option linter.unusedVariables false
theorem sz9 : (Tryd.prog.info? 9).map (·.size) = some 1 := by kernel_rfl
theorem make1 (w : World) : (Instr.makeSlice 52 (.int .i64 1) (.int .i64 1)).run Tryd.prog w = .ok (.slice (some ⟨w.heap.size, 0, none⟩) 1 1) (w.alloc (.cells #[.string ⟨#[]⟩] 9)) := by
  obtain ⟨i0, hi, hz0, hz1, hz2⟩ := info_parts info9
  have h := run_make (P := Tryd.prog) w 52 9 i0 _ Tryd.underlying52 hi hz0 .i64 .i64 1 1 (by decide) (by decide) (by rw [hz2]; decide) (by decide)
  rw [hz1] at h
  rw [show madeCells (Value.string ⟨#[]⟩).cells (Int.toNat 1 * 1) = #[.string ⟨#[]⟩] from by kernel_rfl] at h
  exact h
theorem make2 (w : World) : (Instr.makeSlice 52 (.int .i64 2) (.int .i64 2)).run Tryd.prog w = .ok (.slice (some ⟨w.heap.size, 0, none⟩) 2 2) (w.alloc (.cells #[.string ⟨#[]⟩, .string ⟨#[]⟩] 9)) := by
  obtain ⟨i0, hi, hz0, hz1, hz2⟩ := info_parts info9
  have h := run_make (P := Tryd.prog) w 52 9 i0 _ Tryd.underlying52 hi hz0 .i64 .i64 2 2 (by decide) (by decide) (by rw [hz2]; decide) (by decide)
  rw [hz1] at h
  rw [show madeCells (Value.string ⟨#[]⟩).cells (Int.toNat 2 * 1) = #[.string ⟨#[]⟩, .string ⟨#[]⟩] from by kernel_rfl] at h
  exact h
theorem src_one {w : World} {g o : Nat} {v : Value} (h : w.cell? ⟨g, o, none⟩ = some v) : ∀ (j : Nat) u, [v][j]? = some u → w.cell? ((⟨g, o, none⟩ : Addr).add j) = some u := by
  intro j u hj
  rcases j with _ | j
  · simp only [List.getElem?_cons_zero, Option.some.injEq] at hj
    subst hj
    rw [add_zero]; exact h
  · simp at hj
set_option maxHeartbeats 8000000 in
set_option maxRecDepth 100000 in
theorem repeat1_calls (W : World) (g1 : Nat) (s : ByteArray) (BK1 : Aside0 (W.heap[g1]? = some (.cells #[.string s] 9 (0, 0)))) : Calls Tryd.prog 32 #[.slice (some ⟨g1, 0, none⟩) 1 1, .int .i64 1] W fun e W' => ∃ v, e = .returned v ∧ W'.ownsRow W.heap.size 9 1 v 1 [.string s] ∧ Below W.heap.size W W' := by
  have hc : W.cell? ⟨g1, 0, none⟩ = some (.string s) := (blk_cell BK1.out 0).trans rfl
  go_enter Tryd.func32, Tryd.ntmps32
  go_upto_region 6 with (go_at_call 39; refine (Sh.bits_Mul 1 1 (by omega) (by omega) _).mono ?_; rintro e w' ⟨rfl, rfl⟩)
  rename World => W
  go_wp2
  rw [make1]
  simp only [Result.andThen]
  rw [Oper.upon_value]
  obtain ⟨w1, hw1⟩ : ∃ x, x = W.alloc (.cells #[.string ⟨#[]⟩] 9) := ⟨_, rfl⟩
  obtain ⟨g, hg⟩ : ∃ x, x = W.heap.size := ⟨_, rfl⟩
  have hb1 : Below W.heap.size W w1 := by rw [hw1]; exact below_alloc (Below.refl _ _) _
  have hk : w1.heap[g]? = some (.cells #[.string ⟨#[]⟩] 9 (0, 0)) := by rw [hw1, hg]; exact blk_new _ _
  have BK1w := blk_below BK1.out hb1
  have hgB : W.heap.size ≤ g := by omega
  rw [← hw1, ← hg]
  clear hw1 hc
  have HG := Aside0.mk hg
  clear hg
  have HB1 := Aside0.mk hb1
  have HK := Aside0.mk hk
  have BKw := Aside0.mk BK1w
  clear hb1 hk BK1w
  have hcp : (Builtin.copy_ #[52, 52] 3 #[.slice (some ⟨g, 0, none⟩) 1 1, .slice (some ⟨g1, 0, none⟩) 1 1]).run Tryd.prog w1 = .ok (.int .i64 1) (w1.setRow g #[.string s]) := run_copy_row Tryd.prog w1 52 52 3 9 g 0 1 1 ⟨g1, 0, none⟩ 1 1 _ 9 [Value.string s] Tryd.underlying52 sz9 HK.out rfl (src_one ((blk_cell BKw.out 0).trans rfl)) (by simp) (by intro v hv; simp at hv; subst hv; rfl)
  have hk4 : (w1.setRow g #[.string s]).heap[g]? = some (.cells #[.string s] 9 (0, 0)) := setRow_heap w1 g _ _ 9 _ HK.out
  have HK4 := Aside0.mk hk4
  clear hk4
  have HB4 := Aside0.mk (below_setRow HB1.out hgB #[.string s])
  go_upto_region 8 with fail
  clear hcp
  obtain ⟨w4, hw4⟩ : ∃ x, x = w1.setRow g #[.string s] := ⟨_, rfl⟩
  rw [← hw4] at HK4 HB4 ⊢
  clear hw4
  go_loopw [8] (fun v wr => v = .int .i64 1 ∧ Aside0 (wr.heap[g]? = some (.cells #[.string s] 9 (0, 0))) ∧ Aside0 (Below W.heap.size W wr)) (fun v _ => 2 - (intOf v).toNat)
  case atStart => exact ⟨rfl, HK4, HB4⟩
  case round =>
    obtain ⟨rfl, HKr, HBr⟩ := hrel
    go_wp2
    go_ret
    exact ⟨_, rfl, ⟨rfl, .inr ⟨g, 1, _, rfl, hgB, HKr.out, Nat.le_refl _, by unfold maxLen; omega, rfl, rfl⟩⟩, HBr.out⟩
set_option maxHeartbeats 8000000 in
set_option maxRecDepth 100000 in
theorem repeat2_calls (W : World) (g1 : Nat) (s : ByteArray) (BK1 : Aside0 (W.heap[g1]? = some (.cells #[.string s] 9 (0, 0)))) : Calls Tryd.prog 32 #[.slice (some ⟨g1, 0, none⟩) 1 1, .int .i64 2] W fun e W' => ∃ v, e = .returned v ∧ W'.ownsRow W.heap.size 9 1 v 2 [.string s, .string s] ∧ Below W.heap.size W W' := by
  go_enter Tryd.func32, Tryd.ntmps32
  go_upto_region 6 with (go_at_call 39; refine (Sh.bits_Mul 1 2 (by omega) (by omega) _).mono ?_; rintro e w' ⟨rfl, rfl⟩)
  rename World => W
  go_wp2
  rw [make2]
  simp only [Result.andThen]
  rw [Oper.upon_value]
  obtain ⟨w1, hw1⟩ : ∃ x, x = W.alloc (.cells #[.string ⟨#[]⟩, .string ⟨#[]⟩] 9) := ⟨_, rfl⟩
  obtain ⟨g, hg⟩ : ∃ x, x = W.heap.size := ⟨_, rfl⟩
  have hb1 : Below W.heap.size W w1 := by rw [hw1]; exact below_alloc (Below.refl _ _) _
  have hk : w1.heap[g]? = some (.cells #[.string ⟨#[]⟩, .string ⟨#[]⟩] 9 (0, 0)) := by rw [hw1, hg]; exact blk_new _ _
  have BK1w := blk_below BK1.out hb1
  have hgB : W.heap.size ≤ g := by omega
  rw [← hw1, ← hg]
  clear hw1
  have HG := Aside0.mk hg
  clear hg
  have HB1 := Aside0.mk hb1
  have HK := Aside0.mk hk
  have BKw := Aside0.mk BK1w
  clear hb1 hk BK1w
  have hcp : (Builtin.copy_ #[52, 52] 3 #[.slice (some ⟨g, 0, none⟩) 2 2, .slice (some ⟨g1, 0, none⟩) 1 1]).run Tryd.prog w1 = .ok (.int .i64 1) (w1.setRow g #[.string s, .string ⟨#[]⟩]) := run_copy_row Tryd.prog w1 52 52 3 9 g 0 2 2 ⟨g1, 0, none⟩ 1 1 _ 9 [Value.string s] Tryd.underlying52 sz9 HK.out rfl (src_one ((blk_cell BKw.out 0).trans rfl)) (by simp) (by intro v hv; simp at hv; subst hv; rfl)
  have hk4 : (w1.setRow g #[.string s, .string ⟨#[]⟩]).heap[g]? = some (.cells #[.string s, .string ⟨#[]⟩] 9 (0, 0)) := setRow_heap w1 g _ _ 9 _ HK.out
  have HK4 := Aside0.mk hk4
  clear hk4
  have HB4 := Aside0.mk (below_setRow HB1.out hgB #[.string s, .string ⟨#[]⟩])
  go_upto_region 8 with fail
  clear hcp
  obtain ⟨w4, hw4⟩ : ∃ x, x = w1.setRow g #[.string s, .string ⟨#[]⟩] := ⟨_, rfl⟩
  rw [← hw4] at HK4 HB4 ⊢
  clear hw4
  go_loopw [8] (fun v wr => ((v = .int .i64 1 ∧ Aside0 (wr.heap[g]? = some (.cells #[.string s, .string ⟨#[]⟩] 9 (0, 0)))) ∨ (v = .int .i64 2 ∧ Aside0 (wr.heap[g]? = some (.cells #[.string s, .string s] 9 (0, 0))))) ∧ Aside0 (Below W.heap.size W wr)) (fun v _ => 2 - (intOf v).toNat)
  case atStart => exact ⟨.inl ⟨rfl, HK4⟩, HB4⟩
  case round =>
    obtain ⟨⟨rfl, HKr⟩ | ⟨rfl, HKr⟩, HBr⟩ := hrel
    · go_upto_region 9 with fail
      have hd := blk_drew HKr.out
      have hcp : (Builtin.copy_ #[52, 52] 3 #[.slice (some ⟨g, 1, none⟩) 1 1, .slice (some ⟨g, 0, none⟩) 1 2]).run Tryd.prog wr.drew = .ok (.int .i64 1) (wr.drew.setRow g #[.string s, .string s]) := run_copy_row Tryd.prog wr.drew 52 52 3 9 g 1 1 1 ⟨g, 0, none⟩ 1 2 _ 9 [Value.string s] Tryd.underlying52 sz9 hd rfl (src_one ((blk_cell hd 0).trans rfl)) (by simp) (by intro v hv; simp at hv; subst hv; rfl)
      have HD := Aside0.mk hd
      clear hd
      go_region
      have hk5 : (wr.drew.setRow g #[.string s, .string s]).heap[g]? = some (.cells #[.string s, .string s] 9 (0, 0)) := setRow_heap wr.drew g _ _ 9 _ HD.out
      have HK5 := Aside0.mk hk5
      have HB5 := Aside0.mk (below_setRow (below_drew1 HBr.out) hgB #[.string s, .string s])
      clear hk5 hcp
      go_wp2
      refine ⟨⟨Or.inr ⟨rfl, HK5⟩, HB5⟩, ?_⟩
      show 2 - (2 : Int).toNat < 2 - (1 : Int).toNat
      decide
    · go_wp2
      go_ret
      exact ⟨_, rfl, ⟨rfl, .inr ⟨g, 2, _, rfl, hgB, HKr.out, Nat.le_refl _, by unfold maxLen; omega, rfl, rfl⟩⟩, HBr.out⟩
end Go.Proofs.YtacjlkjdmhlbaaaDoor.Gr
