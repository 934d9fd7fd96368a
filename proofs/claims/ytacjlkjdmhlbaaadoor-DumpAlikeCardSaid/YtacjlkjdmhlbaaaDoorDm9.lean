/- Parts of one proof, set together: DoorDk2, DoorDk3. What each says stands at its head; no condition beyond theirs. -/
import Derived.Test.YtacjlkjdmhlbaaaDoorDm8
import Derived.Lib.AppendIntMem
import Derived.Lib.ItoaMem
import Derived.Shelf.Strconv.Itoa3
/- Dump: decimal numerals: strconv.Itoa, strconv.FormatUint (after the shelf's own walk of FormatInt). Condition: the table of powers is laid. -/
namespace Go.Proofs.YtacjlkjdmhlbaaaDoor.Gr
open Go.RowKit Go.Sort Go.Lib Go.Shelf Go.Proofs.YtacjlkjdmhlbaaaDoorW.PrintWords Go.Proofs.YtacjlkjdmhlbaaaDoorW.PrintLast Go.Proofs.YtacjlkjdmhlbaaaDoorW.PrintMore
set_option linter.unusedSimpArgs false
set_option linter.unusedVariables false
/-- The table of powers is laid. -/
def Tb (w : World) : Prop := Lib.TabIs Tryd.prog w "internal/strconv.uint64pow10" .u64 Lib.pow10Tab
theorem Tb.to {w w' : World} (h : Tb w) (hb : Below w.heap.size w w') : Tb w' := Lib.tabBelow_of_tabIs h w' hb
theorem itoa_calls (n : Int) (h0 : -9223372036854775808 ≤ n) (h1 : n ≤ 9223372036854775807) (w : World) (HT : Aside0 (Tb w)) : Calls Tryd.prog 14 #[.int .i64 n] w fun e w' => e = .returned (.string ⟨(Lib.itoa n).toArray⟩) ∧ Below w.heap.size w w' := by
  refine (Sh.strconv_Itoa n h0 h1 w HT.out).mono ?_
  rintro e w' ⟨rfl, k, os, rfl⟩
  exact ⟨rfl, Lib.below_grow _ w (Nat.le_refl _) k os⟩
theorem holds_zero0 (w : World) (T : TypeId) (nd : Nat) (hs : nd ≤ 24) : Holds (fun (b : UInt8) => Value.int .u8 (b.toNat : Int)) (w.alloc (.cells Lib.zeros24 T)) w.heap.size 0 (Array.replicate nd (0 : UInt8)) := fun j hj => by
  have hj' : j < nd := by simpa using hj
  refine ⟨?_, World.frozen?_alloc_new _ _ _ _⟩
  rw [World.cell?_alloc_new, Lib.zeros24_at _ (by omega), getElem!_pos _ j hj]
  simp
theorem fin_pos0 (w : World) (o : Obj) (dk : Array UInt8) (k : Nat) : Below w.heap.size w ((putRow (fun (b : UInt8) => Value.int .u8 (b.toNat : Int)) (w.alloc o) w.heap.size 0 dk).drewN k) := by
  have e : ∃ os, (putRow (fun (b : UInt8) => Value.int .u8 (b.toNat : Int)) (w.alloc o) w.heap.size 0 dk).drewN k = grow (w.drewN k) os := by
    rw [alloc_eq_grow]
    obtain ⟨os', _, e⟩ := putRow_grow_new (fun (b : UInt8) => Value.int .u8 (b.toNat : Int)) w #[o] w.heap.size 0 dk (Nat.le_refl _)
    exact ⟨os', by rw [e]; rfl⟩
  obtain ⟨os, e⟩ := e
  rw [e]
  exact Lib.below_grow _ w (Nat.le_refl _) k os
set_option maxHeartbeats 6400000 in
set_option maxRecDepth 100000 in
theorem fmt38_calls (u : Nat) (hu64 : u < 18446744073709551616) (w : World) (HT : Aside0 (Tb w)) : Calls Tryd.prog 38 #[.int .u64 u, .int .i64 10] w fun e w' => e = .returned (.string ⟨(Lib.decDigits u).toArray⟩) ∧ Below w.heap.size w w' := by
  by_cases hs : u < 100
  · have hd : decide ((u : Int) < 100) = true := decide_eq_true (by omega)
    have hwr : IntKind.i64.wrap (u : Int) = (u : Int) := by rw [IntKind.wrap_i64]; omega
    go_enter Tryd.func38, Tryd.ntmps38
    go_wp2_with (go_at_call 42; refine (Sh.internal_strconv_small u hs _).mono ?_; rintro e w' ⟨rfl, rfl⟩)
    go_ret
    exact ⟨rfl, Below.refl _ _⟩
  · have hd : decide ((u : Int) < 100) = false := decide_eq_false (by omega)
    have hu1 : 1 ≤ u := by omega
    have hnd20 : Lib.nDigits u ≤ 20 := by have := Lib.numDigits_eq u hu1 hu64; split at this <;> omega
    have hb3 : Lib.nDigits u ≤ 24 := by omega
    have hal : Tryd.prog.arrayLen 84 = 24 := by simp [Program.arrayLen, Tryd.underlying84]
    have hsl1 : ∀ W, (Instr.sliceAt 84 (.pointer (some ⟨w.heap.size, 0, none⟩)) none (some (.int .i64 (Lib.nDigits u : Int))) none).run Tryd.prog W = .ok (.slice (some ⟨w.heap.size, 0, none⟩) (Lib.nDigits u) 24) W := fun W => by
      rw [run_sliceAt_array_h W 84 ⟨w.heap.size, 0, none⟩ (by simp [Program.arrayLen, Program.elem, Tryd.underlying84]) .i64 (Lib.nDigits u : Int) (by omega) (by rw [hal]; omega)]
      go_simp
    have hH0 := holds_zero0 w 84 (Lib.nDigits u) (by omega)
    have hfmt := Sh.internal_strconv_formatBase10 w.heap.size 0 24 u (Array.replicate (Lib.nDigits u) 0) (w.alloc (.cells Lib.zeros24 84)) hH0 (by rw [Array.size_replicate]; exact Lib.lt_pow_nDigits u) hu64 (by rw [Array.size_replicate]; omega)
    rw [Array.size_replicate] at hfmt
    have HH0 := Lib.hid hH0
    clear hH0 hal
    go_enter Tryd.func38, Tryd.ntmps38
    go_wp2_with (first
      | (go_at_call 43; refine (Sh.internal_strconv_numDigits u hu1 hu64 _ (Lib.tabIs_alloc HT.out _)).mono ?_; rintro e w' ⟨rfl, rfl⟩)
      | (go_at_call 44; refine hfmt.mono ?_))
    rintro e w' ⟨rfl, k, v', dk, rfl, hF⟩
    have hcv : (convert 43 9 (.slice (some ⟨w.heap.size, 0, none⟩) (Lib.nDigits u) 24)).run Tryd.prog ((putRow (fun (b : UInt8) => Value.int .u8 (b.toNat : Int)) (w.alloc (.cells Lib.zeros24 84)) w.heap.size 0 dk).drewN k) = .ok (.string ⟨(Lib.decDigits u).toArray⟩) ((putRow (fun (b : UInt8) => Value.int .u8 (b.toNat : Int)) (w.alloc (.cells Lib.zeros24 84)) w.heap.size 0 dk).drewN k) := by
      have h := run_convert_bytes_back (P := Tryd.prog) ((putRow (fun (b : UInt8) => Value.int .u8 (b.toNat : Int)) (w.alloc (.cells Lib.zeros24 84)) w.heap.size 0 dk).drewN k) 43 9 5 ⟨w.heap.size, 0, none⟩ 24 (Lib.decDigits u) Tryd.underlying43 Tryd.underlying5 Tryd.underlying9 (fun j hj => by
        rw [Lib.row_is_numeral hF j hj, Lib.add_plain, World.cell?_drewN]
        exact cell?_putRow (fun (b : UInt8) => Value.int .u8 (b.toNat : Int)) _ w.heap.size 0 _ dk HH0.out (by rw [hF.size, Array.size_replicate]) j (by rw [hF.size]; rw [Lib.decDigits_length] at hj; exact hj))
      rw [Lib.decDigits_length] at h
      exact h
    go_wp2
    go_ret
    exact ⟨rfl, fin_pos0 w _ dk k⟩
theorem fmt_calls (u : Nat) (hu64 : u < 18446744073709551616) (w : World) (HT : Aside0 (Tb w)) : Calls Tryd.prog 31 #[.int .u64 u, .int .i64 10] w fun e w' => e = .returned (.string ⟨(Lib.decDigits u).toArray⟩) ∧ Below w.heap.size w w' := by
  go_enter Tryd.func31, Tryd.ntmps31
  go_wp2_with (go_at_call 38; refine (fmt38_calls u hu64 _ HT).mono ?_; rintro e w' ⟨rfl, hb⟩)
  go_ret
  exact ⟨rfl, hb⟩
end Go.Proofs.YtacjlkjdmhlbaaaDoor.Gr
/- Dump: slices.IndexFunc with dump's own questions. Conditions: the list and the captured number lie in memory. -/
namespace Go.Proofs.YtacjlkjdmhlbaaaDoor.Gr
open Go.RowKit Go.Shelf Go.Maps Go.ChangeMaps Go.MapKept Go.Proofs.YtacjlkjdmhlbaaaDoorW.PrintWords Go.Proofs.YtacjlkjdmhlbaaaDoorW.PrintLast Go.Proofs.YtacjlkjdmhlbaaaDoorW.PrintMore
set_option linter.unusedSimpArgs false
set_option linter.unusedVariables false
theorem at24_calls (W : World) (g1 : Nat) (x pa pr ps pw : Int) (A1 : Option Addr) (m e1 : Nat) (B1 : Option Addr) (n d1 : Nat) (BK1 : Aside0 (W.heap[g1]? = some (.cells #[.int .i64 x] 3 (0, 0)))) : Calls Tryd.prog 24 #[.agg #[.int .i64 pa, .int .i64 pr, .int .i64 ps, .int .i64 pw, .slice A1 m e1, .slice B1 n d1], .pointer (some ⟨g1, 0, none⟩)] W fun e W' => e = .returned (.bool (pa == x)) ∧ Below W.heap.size W W' := by
  have HB := Aside0.mk (Below.refl W.heap.size W)
  have GE1 := True.intro
  go_enter Tryd.func24, Tryd.ntmps24
  go_wp2_with ((with_reducible refine gate_dst (N := 2) rfl ?_); refine box_event ?hg (N := 2) ?hd (cs := #[.int .i64 pa, .int .i64 pr, .int .i64 ps, .int .i64 pw, .slice A1 m e1, .slice B1 n d1]) (t := 35) ?hr ?_; (case hd => rfl); (case hg => rfl); (case hr => first | (go_simp; done) | (go_simp; rfl)); intro g2 hg w1_ hbox hb; have n0_ := Aside0.mk (below_step (by repeat (first | (with_reducible first | exact HB.out | apply below_alloc | apply pw_below_drewN | apply below_drew1 | refine below_set ?_ GE1.out) | exact HB.out)) hb); have n1_ := Aside0.mk (blk_below (g := g1) (o := .cells #[.int .i64 x] 3 (0, 0)) (by (with_reducible repeat (first | refine blk_drewN ?_ _ | refine blk_drew ?_ | refine blk_alloc ?_ _)); exact BK1.out) hb); have n2_ := Aside0.mk hbox; have n3_ := Aside0.mk ((by rw [hg]; exact (below_size (by repeat (first | (with_reducible first | exact HB.out | apply below_alloc | apply pw_below_drewN | apply below_drew1 | refine below_set ?_ GE1.out) | exact HB.out)))) : W.heap.size ≤ g2); have n4_ := Aside0.mk ((by rw [hg]; exact Nat.ne_of_lt (blk_lt (g := g1) (o := .cells #[.int .i64 x] 3 (0, 0)) (by (with_reducible repeat (first | refine blk_drewN ?_ _ | refine blk_drew ?_ | refine blk_alloc ?_ _)); exact BK1.out))) : g1 ≠ g2); clear HB; clear BK1; have HB := n0_; have BK1 := n1_; have BK2 := n2_; have GE2 := n3_; have NE1_2 := n4_; clear n0_ n1_ n2_ n3_ n4_; clear hb hbox hg; have hc1_0 : w1_.cell? ⟨g1, 0, none⟩ = some (.int .i64 x) := (blk_cell BK1.out 0).trans rfl; have hf1_0 := blk_frozen BK1.out 0; have hc2_0 : w1_.cell? ⟨g2, 0, none⟩ = some (.int .i64 pa) := (blk_cell BK2.out 0).trans rfl; have hf2_0 := blk_frozen BK2.out 0; have hc2_1 : w1_.cell? ⟨g2, 1, none⟩ = some (.int .i64 pr) := (blk_cell BK2.out 1).trans rfl; have hf2_1 := blk_frozen BK2.out 1; have hc2_2 : w1_.cell? ⟨g2, 2, none⟩ = some (.int .i64 ps) := (blk_cell BK2.out 2).trans rfl; have hf2_2 := blk_frozen BK2.out 2; have hc2_3 : w1_.cell? ⟨g2, 3, none⟩ = some (.int .i64 pw) := (blk_cell BK2.out 3).trans rfl; have hf2_3 := blk_frozen BK2.out 3; have hc2_4 : w1_.cell? ⟨g2, 4, none⟩ = some (.slice A1 m e1) := (blk_cell BK2.out 4).trans rfl; have hf2_4 := blk_frozen BK2.out 4; have hc2_5 : w1_.cell? ⟨g2, 5, none⟩ = some (.slice B1 n d1) := (blk_cell BK2.out 5).trans rfl; have hf2_5 := blk_frozen BK2.out 5)
  go_ret
  exact ⟨rfl, HB.out⟩
theorem ne30_calls (W : World) (g1 : Nat) (x y : Int) (BK1 : Aside0 (W.heap[g1]? = some (.cells #[.int .u64 x] 32 (0, 0)))) : Calls Tryd.prog 30 #[.int .u64 y, .pointer (some ⟨g1, 0, none⟩)] W fun e W' => e = .returned (.bool (y != x)) ∧ Below W.heap.size W W' := by
  have hc : W.cell? ⟨g1, 0, none⟩ = some (.int .u64 x) := (blk_cell BK1.out 0).trans rfl
  go_enter Tryd.func30, Tryd.ntmps30
  go_wp2
  go_ret
  exact ⟨rfl, Below.refl _ _⟩
set_option maxHeartbeats 8000000 in
set_option maxRecDepth 100000 in
/-- The first node of an address. -/
theorem index23_calls (W : World) (a : Option Addr) (len cap : Nat) (NS : List Nd) (HN : Aside0 (NL W W.heap.size a len NS)) (hlen : len ≤ 9223372036854775807) (g1 : Nat) (x : Int) (BK1 : Aside0 (W.heap[g1]? = some (.cells #[.int .i64 x] 3 (0, 0)))) (j : Nat) (hj : j < len) (HJ : Aside0 ((NS.getD j default).adr = x ∧ ∀ i, i < j → (NS.getD i default).adr ≠ x)) :
    Calls Tryd.prog 23 #[.slice a len cap, .func (.func 24) #[] #[.pointer (some ⟨g1, 0, none⟩)]] W fun e W' => e = .returned (.int .i64 (j : Int)) ∧ Below W.heap.size W W' := by
  have HL := Aside0.mk hj
  clear hj
  go_enter Tryd.func23, Tryd.ntmps23
  go_wp2
  go_loopw [8] (fun v wr => ∃ i : Nat, i ≤ j ∧ v = .int .i64 (i : Int) ∧ Aside0 (Below W.heap.size W wr)) (fun v _ => len - (intOf v).toNat)
  case atStart => exact ⟨0, by omega, rfl, Aside0.mk (Below.refl _ _)⟩
  case round =>
    obtain ⟨i, hi, rfl, HB⟩ := hrel
    have hgo : i < len := by have := HL.out; omega
    have hd : decide ((i : Int) < (len : Int)) = true := decide_eq_true (by omega)
    have BK1w := Aside0.mk (blk_below BK1.out HB.out)
    obtain ⟨y, e, _, hy0, hy1, hy2, hy3, hy4, hy5⟩ := (HN.out.kept (fun k hk => HB.out.block k hk)).2 i hgo
    subst e
    obtain ⟨q, hq⟩ : ∃ q, q = NS.getD i default := ⟨_, rfl⟩
    rw [← hq] at hy0 hy1 hy2 hy3 hy4 hy5
    have HQ := Aside0.mk hq
    clear hq
    obtain ⟨pa, pr, ps, pw, A1, m, e1, B1, n, d1, Sl, Tl⟩ := q
    dsimp only at hy0 hy1 hy2 hy3 hy4 hy5
    rw [add_zero] at hy0
    have hz1 : wr.cell? { block := (y.add (i * 6)).block, off := (y.add (i * 6)).off + 1 } = some (.int .i64 pr) := hy1
    have hz2 : wr.cell? { block := (y.add (i * 6)).block, off := (y.add (i * 6)).off + 2 } = some (.int .i64 ps) := hy2
    have hz3 : wr.cell? { block := (y.add (i * 6)).block, off := (y.add (i * 6)).off + 3 } = some (.int .i64 pw) := hy3
    have hz4 : wr.cell? { block := (y.add (i * 6)).block, off := (y.add (i * 6)).off + 4 } = some (.slice A1 m e1) := hy4
    have hz5 : wr.cell? { block := (y.add (i * 6)).block, off := (y.add (i * 6)).off + 5 } = some (.slice B1 n d1) := hy5
    clear hy1 hy2 hy3 hy4 hy5
    have hi0 : (0 : Int) ≤ (i : Int) := by omega
    have hi1 : (i : Int) < (len : Int) := by omega
    by_cases h5 : i = j
    · have hpx : (pa == x) = true := by have h := HJ.out.1; rw [← h5, ← HQ.out] at h; simpa using h
      have HE := Aside0.mk h5
      clear h5
      go_wp2_with (go_at_call 24; refine (at24_calls _ g1 x pa pr ps pw A1 m e1 B1 n d1 BK1w).mono ?_; rintro e w3 ⟨rfl, hb3⟩; have HB3 := Aside0.mk (below_step HB.out hb3); clear hb3; rw [hpx])
      go_ret
      exact ⟨by first | rfl | (rw [HE.out]; rfl), HB3.out⟩
    · have hij : i < j := by omega
      have hpx : (pa == x) = false := by have h := HJ.out.2 i hij; rw [← HQ.out] at h; simpa using h
      have hij1 : i + 1 ≤ j := by omega
      clear h5 hij
      go_wp2_with (go_at_call 24; refine (at24_calls _ g1 x pa pr ps pw A1 m e1 B1 n d1 BK1w).mono ?_; rintro e w3 ⟨rfl, hb3⟩; have HB3 := Aside0.mk (below_step HB.out hb3); clear hb3; rw [hpx])
      refine ⟨⟨i + 1, hij1, by push_cast; rfl, HB3⟩, ?_⟩
      show len - ((i : Int) + 1).toNat < len - (i : Int).toNat
      omega
/-- How many words at the head are alike. -/
def runs (x : Int) : List Int → Nat
  | [] => 0
  | y :: l => if y = x then runs x l + 1 else 0
theorem runs_le (x : Int) : ∀ l, runs x l ≤ l.length
  | [] => Nat.le_refl _
  | y :: l => by
    have := runs_le x l
    unfold runs
    rw [List.length_cons]
    split <;> omega
theorem runs_at (x : Int) : ∀ (l : List Int) (i : Nat), i < runs x l → l.getD i 0 = x
  | [], i, h => absurd h (Nat.not_lt_zero i)
  | y :: l, i, h => by
    unfold runs at h
    split at h
    · rename_i hy
      rcases i with _ | i
      · exact hy
      · exact runs_at x l i (by omega)
    · omega
theorem runs_end (x : Int) : ∀ (l : List Int), runs x l < l.length → l.getD (runs x l) 0 ≠ x
  | [], h => absurd h (Nat.not_lt_zero _)
  | y :: l, h => by
    unfold runs at h ⊢
    split
    · rename_i hy
      rw [if_pos hy, List.length_cons] at h
      exact runs_end x l (by omega)
    · rename_i hy
      exact hy
def runR (x : Int) (l : List Int) : Int := if runs x l = l.length then -1 else (runs x l : Int)
set_option maxHeartbeats 8000000 in
set_option maxRecDepth 100000 in
theorem index29_calls (W : World) (a : Option Addr) (len cap : Nat) (l : List Int) (HI : Aside0 (IL .u64 W W.heap.size a len l)) (hlen : len ≤ 9223372036854775807) (g1 : Nat) (x : Int) (BK1 : Aside0 (W.heap[g1]? = some (.cells #[.int .u64 x] 32 (0, 0)))) :
    Calls Tryd.prog 29 #[.slice a len cap, .func (.func 30) #[] #[.pointer (some ⟨g1, 0, none⟩)]] W fun e W' => e = .returned (.int .i64 (runR x l)) ∧ Below W.heap.size W W' := by
  go_enter Tryd.func29, Tryd.ntmps29
  go_wp2
  go_loopw [8] (fun v wr => ∃ i : Nat, i ≤ len ∧ v = .int .i64 (i : Int) ∧ Aside0 (i ≤ runs x l) ∧ Aside0 (Below W.heap.size W wr)) (fun v _ => len - (intOf v).toNat)
  case atStart => exact ⟨0, by omega, rfl, Aside0.mk (Nat.zero_le _), Aside0.mk (Below.refl _ _)⟩
  case round =>
    obtain ⟨i, hi, rfl, HR, HB⟩ := hrel
    by_cases hgo : i < len
    · have hd : decide ((i : Int) < (len : Int)) = true := decide_eq_true (by omega)
      have BK1w := Aside0.mk (blk_below BK1.out HB.out)
      obtain ⟨y, e, _, hy⟩ := (HI.out.kept (fun k hk => HB.out.block k hk)).2 i hgo
      subst e
      obtain ⟨v, hv⟩ : ∃ v, v = l.getD i 0 := ⟨_, rfl⟩
      rw [← hv] at hy
      have HV := Aside0.mk hv
      clear hv
      have hi0 : (0 : Int) ≤ (i : Int) := by omega
      have hi1 : (i : Int) < (len : Int) := by omega
      by_cases h5 : i = runs x l
      · have hpx : (v != x) = true := by
          have h := runs_end x l (by rw [← h5, HI.out.1]; exact hgo)
          rw [← h5, ← HV.out] at h
          simpa using h
        have HE := Aside0.mk h5
        clear h5
        go_wp2_with (go_at_call 30; refine (ne30_calls _ g1 x v BK1w).mono ?_; rintro e w3 ⟨rfl, hb3⟩; have HB3 := Aside0.mk (below_step HB.out hb3); clear hb3; rw [hpx])
        go_ret
        have hr : runR x l = (i : Int) := by unfold runR; rw [if_neg (by rw [← HE.out, HI.out.1]; omega), ← HE.out]
        exact ⟨by rw [hr]; rfl, HB3.out⟩
      · have hpx : (v != x) = false := by
          have h := runs_at x l i (by have := HR.out; omega)
          rw [← HV.out] at h
          simp [h]
        have HR2 := Aside0.mk (show i + 1 ≤ runs x l by have := HR.out; omega)
        clear h5
        go_wp2_with (go_at_call 30; refine (ne30_calls _ g1 x v BK1w).mono ?_; rintro e w3 ⟨rfl, hb3⟩; have HB3 := Aside0.mk (below_step HB.out hb3); clear hb3; rw [hpx])
        refine ⟨⟨i + 1, by omega, by push_cast; rfl, HR2, HB3⟩, ?_⟩
        show len - ((i : Int) + 1).toNat < len - (i : Int).toNat
        omega
    · obtain rfl : i = len := by omega
      have hd : decide ((i : Int) < (i : Int)) = false := decide_eq_false (by omega)
      go_wp2
      go_ret
      have hr : runR x l = -1 := by unfold runR; rw [if_pos (by have h1 := HR.out; have h2 := runs_le x l; have h3 := HI.out.1; omega)]
      exact ⟨by rw [hr]; rfl, HB.out⟩
end Go.Proofs.YtacjlkjdmhlbaaaDoor.Gr
