/- LocksBack's walk. No condition beyond what the row gives. -/
import Derived.Test.YtpefbnhicfflpaaLk3
import Derived.BigQuiet
import Derived.Deep.QuietTactic
import Derived.StillTailTactics
namespace Go.Proofs.Ytpefbnhicfflpaa.Lk
open Go.RowKit Go.Proofs.YtpefbnhicfflpaaW.PrintWords Go.Proofs.YtpefbnhicfflpaaW.PrintLast Go.Proofs.YtpefbnhicfflpaaW.PrintMore
set_option linter.unusedSimpArgs false
set_option linter.unusedVariables false
theorem w64 (n : Int) (h0 : -9223372036854775808 ≤ n) (h1 : n ≤ 9223372036854775807) : wrap64 n = n := by unfold wrap64; omega
/-- Owners: nobody, or a number that is not negative. -/
def Own1 (L : List Int) : Prop := ∀ x ∈ L, -1 ≤ x
theorem own1_rep (m : Nat) : Own1 (List.replicate m (-1)) := fun x hx => by rw [List.eq_of_mem_replicate hx]; omega
theorem own1_take {L : List Int} (h : Own1 L) (i who : Int) : Own1 (takeR L i who).2 := by
  unfold takeR
  split
  · rename_i hq
    split
    · intro x hx
      rcases List.mem_or_eq_of_mem_set hx with h1 | h1
      · exact h x h1
      · omega
    · exact h
  · exact h
theorem len_take (L : List Int) (i who : Int) : (takeR L i who).2.length = L.length := by
  unfold takeR
  split
  · split
    · exact List.length_set
    · rfl
  · rfl
def midL (L : List Int) (me : Int) (k : Nat) : List Int := L.mapIdx fun i x => if i < k ∧ x = -1 then me else x
def finL (L : List Int) (me : Int) (k : Nat) : List Int := L.mapIdx fun i x => if k ≤ i ∧ x = -1 then me else x
theorem mid_len (L : List Int) (me : Int) (k : Nat) : (midL L me k).length = L.length := by simp [midL]
theorem fin_len (L : List Int) (me : Int) (k : Nat) : (finL L me k).length = L.length := by simp [finL]
theorem mid0 (L : List Int) (me : Int) : midL L me 0 = L := by
  apply List.ext_getElem (mid_len L me 0)
  intro i h1 h2
  simp [midL]
theorem mid_at (L : List Int) (me : Int) (k i : Nat) (h : i < L.length) : (midL L me k).getD i 0 = if i < k ∧ L.getD i 0 = -1 then me else L.getD i 0 := by simp [midL, h]
theorem fin_at (L : List Int) (me : Int) (k i : Nat) (h : i < L.length) : (finL L me k).getD i 0 = if k ≤ i ∧ L.getD i 0 = -1 then me else L.getD i 0 := by simp [finL, h]
theorem ext_getD {a b : List Int} (hl : a.length = b.length) (h : ∀ i, i < a.length → a.getD i 0 = b.getD i 0) : a = b := by
  apply List.ext_getElem hl
  intro i h1 h2
  have := h i h1
  simpa [h1, h2] using this
theorem set_at (L : List Int) (k : Nat) (v : Int) (i : Nat) (h : i < L.length) : (L.set k v).getD i 0 = if i = k then v else L.getD i 0 := by
  simp only [List.getD_eq_getElem?_getD, List.getElem?_set]
  by_cases e : k = i
  · subst e; simp [h]
  · rw [if_neg e, if_neg (fun x => e x.symm)]
theorem mid_set (L : List Int) (me : Int) (k : Nat) (h : k < L.length) (hy : L.getD k 0 = -1) : (midL L me k).set k me = midL L me (k + 1) := by
  refine ext_getD (by rw [List.length_set, mid_len, mid_len]) (fun i hi => ?_)
  rw [List.length_set, mid_len] at hi
  rw [set_at _ _ _ _ (by rw [mid_len]; exact hi), mid_at _ _ _ _ hi, mid_at _ _ _ _ hi]
  by_cases e : i = k
  · subst e; rw [if_pos rfl, if_pos ⟨by omega, hy⟩]
  · rw [if_neg e]
    by_cases hl : i < k ∧ L.getD i 0 = -1
    · rw [if_pos hl, if_pos ⟨by omega, hl.2⟩]
    · rw [if_neg hl, if_neg (fun x => hl ⟨by omega, x.2⟩)]
theorem mid_same (L : List Int) (me : Int) (k : Nat) (hy : ¬ L.getD k 0 = -1) : midL L me k = midL L me (k + 1) := by
  refine ext_getD (by rw [mid_len, mid_len]) (fun i hi => ?_)
  rw [mid_len] at hi
  rw [mid_at _ _ _ _ hi, mid_at _ _ _ _ hi]
  by_cases hl : i < k ∧ L.getD i 0 = -1
  · rw [if_pos hl, if_pos ⟨by omega, hl.2⟩]
  · rw [if_neg hl, if_neg (fun x => hl ⟨by
      have : i ≠ k := fun e => hy (e ▸ x.2)
      omega, x.2⟩)]
theorem mid_take (L : List Int) (me : Int) (k : Nat) (h : k < L.length) (hm : 0 ≤ me) (ho : Own1 L) : takeR (midL L me k) k me = (if L.getD k 0 = -1 then 0 else 5, midL L me (k + 1)) := by
  unfold takeR
  rw [if_pos ⟨by omega, by rw [mid_len]; omega, hm⟩, Int.toNat_natCast, mid_at _ _ _ _ h, if_neg (show ¬ (k < k ∧ L.getD k 0 = -1) by omega)]
  by_cases hy : L.getD k 0 = -1
  · rw [if_pos hy, if_pos hy, mid_set L me k h hy]
  · rw [if_neg hy, if_neg hy, ← mid_same L me k hy]
theorem mid_owner (L : List Int) (me : Int) (k : Nat) (h : k < L.length) (hy : L.getD k 0 = -1) : ownerV (midL L me (k + 1)) k = me := by
  unfold ownerV
  rw [if_pos ⟨by omega, by rw [mid_len]; omega⟩, Int.toNat_natCast, mid_at _ _ _ _ h, if_pos ⟨by omega, hy⟩]
theorem mid_fin (L : List Int) (me : Int) : midL L me L.length = finL L me 0 := by
  refine ext_getD (by rw [mid_len, fin_len]) (fun i hi => ?_)
  rw [mid_len] at hi
  rw [mid_at _ _ _ _ hi, fin_at _ _ _ _ hi]
  by_cases hy : L.getD i 0 = -1
  · rw [if_pos ⟨hi, hy⟩, if_pos ⟨by omega, hy⟩]
  · rw [if_neg (fun x => hy x.2), if_neg (fun x => hy x.2)]
theorem fin_set (L : List Int) (me : Int) (k : Nat) (h : k < L.length) (hy : L.getD k 0 = -1) : (finL L me k).set k (-1) = finL L me (k + 1) := by
  refine ext_getD (by rw [List.length_set, fin_len, fin_len]) (fun i hi => ?_)
  rw [List.length_set, fin_len] at hi
  rw [set_at _ _ _ _ (by rw [fin_len]; exact hi), fin_at _ _ _ _ hi, fin_at _ _ _ _ hi]
  by_cases e : i = k
  · subst e; rw [if_pos rfl, if_neg (by omega), hy]
  · rw [if_neg e]
    by_cases hl : k ≤ i ∧ L.getD i 0 = -1
    · rw [if_pos hl, if_pos ⟨by omega, hl.2⟩]
    · rw [if_neg hl, if_neg (fun x => hl ⟨by omega, x.2⟩)]
theorem fin_same (L : List Int) (me : Int) (k : Nat) (hy : ¬ L.getD k 0 = -1) : finL L me k = finL L me (k + 1) := by
  refine ext_getD (by rw [fin_len, fin_len]) (fun i hi => ?_)
  rw [fin_len] at hi
  rw [fin_at _ _ _ _ hi, fin_at _ _ _ _ hi]
  by_cases hl : k + 1 ≤ i ∧ L.getD i 0 = -1
  · rw [if_pos hl, if_pos ⟨by omega, hl.2⟩]
  · rw [if_neg hl, if_neg (fun x => hl ⟨by
      have : i ≠ k := fun e => hy (e ▸ x.2)
      omega, x.2⟩)]
theorem fin_leave (L : List Int) (me : Int) (k : Nat) (h : k < L.length) (hm : 0 ≤ me) (hy : L.getD k 0 = -1) : leaveR (finL L me k) k me = (0, finL L me (k + 1)) := by
  unfold leaveR
  have h1 : (finL L me k).getD k 0 = me := by rw [fin_at _ _ _ _ h, if_pos ⟨Nat.le_refl _, hy⟩]
  rw [if_pos ⟨by omega, by rw [fin_len]; omega, hm⟩, Int.toNat_natCast, h1, if_pos rfl, fin_set L me k h hy]
theorem fin_owner (L : List Int) (me : Int) (k : Nat) (h : k < L.length) : ownerV (finL L me (k + 1)) k = L.getD k 0 := by
  unfold ownerV
  rw [if_pos ⟨by omega, by rw [fin_len]; omega⟩, Int.toNat_natCast, fin_at _ _ _ _ h, if_neg (by omega)]
theorem owner_get (L : List Int) (k : Nat) (h : k < L.length) : ownerV L k = L.getD k 0 := by
  unfold ownerV
  rw [if_pos ⟨by omega, by omega⟩, Int.toNat_natCast]
theorem take_next (L : List Int) (k : Nat) (h : k < L.length) : L.take (k + 1) = L.take k ++ [L.getD k 0] := by
  rw [List.take_add_one]
  simp [h]
theorem info3 : (Try.prog.info? 3).map (fun i => (i.zero, i.size, i.bytes)) = some (some (.int .i64 0), 1, 8) := by kernel_rfl
/-- What the copy of the owners is, once it is whole. -/
theorem row_of {w : World} {base M : Nat} {v : Value} {L : List Int} (hR : Kd.R (Kd.int .i64) 3 w base (fun _ => True) v L) (hL : L.length = M) (hM : 1 ≤ M) : ∃ gw cap cur, v = .slice (some ⟨gw, 0, none⟩) M cap ∧ base ≤ gw ∧ w.heap[gw]? = some (.cells cur 3 (0, 0)) ∧ M ≤ cap ∧ cap ≤ maxLen ∧ ∀ j, j < M → cur[j]? = some (.int .i64 (L.getD j 0)) := by
  obtain ⟨hl, h | ⟨gw, cap, cur, hv, hb, hg, h1, h2, h3, h4⟩⟩ := Kd.own_of_R hR
  · omega
  · subst hL
    refine ⟨gw, cap, cur, hv, hb, hg, h1, h2, fun j hj => ?_⟩
    have h5 : (cur.toList.take (L.length * 1))[j]? = (encs (Value.int .i64) L)[j]? := by rw [h4]
    rw [List.getElem?_take, if_pos (by omega)] at h5
    rw [← Array.getElem?_toList, h5]
    simp [encs, hj]
theorem step_lt (M i : Nat) (h : i < M) : M - ((i : Int) + 1).toNat < M - (i : Int).toNat := by omega
theorem hwi_of (i M : Nat) (m n : Int) (h1 : m = n % 16 + 1) (h2 : m = M) (h : i < M) : wrap64 ((i : Int) + 1) = (i : Int) + 1 := w64 _ (by omega) (by omega)
theorem lt_of_take (L : List Int) (i M : Nat) (m n : Int) (h1 : m = n % 16 + 1) (h2 : m = M) (h : i < M) : ((L.take i).length + 1) * 8 ≤ 140737488355328 := by
  have := List.length_take_le i L
  omega
set_option maxHeartbeats 8000000 in
set_option maxRecDepth 100000 in
theorem back_at (n who m me : Int) (M : Nat) (hn : 0 ≤ n ∧ n < 256) (hw : 0 ≤ who ∧ who < 256) (HM : Aside0 (m = n % 16 + 1)) (HM2 : Aside0 (m = M)) (HE : Aside0 (me = who + 1000000)) (L0 : List Int) (E : Aside0 (List.replicate m.toNat (-1) = L0)) (hL0 : L0.length = M ∧ Own1 L0)
    (a1 : Option Addr) (len1 cap1 : Nat) (W : World) (F : Nat → Int × Int) (K1 : Aside0 (∀ i, i < len1 → ∃ x, a1 = some x ∧ W.cell? ((x.add (i * 3)).add 1) = some (.int .i64 (F i).1) ∧ W.cell? ((x.add (i * 3)).add 2) = some (.int .i64 (F i).2) ∧ x.block < W.heap.size)) (hlen : len1 ≤ 9223372036854775807) :
    Calls Try.prog 4 #[.int .u8 n, .slice a1 len1 cap1, .int .u8 who] W fun e w' => e = .returned (.bool true) ∧ Below W.heap.size W w' := by
  go_enter Try.func4, Try.ntmps4
  go_wp2_with (first
    | (go_at_call 6; with_reducible refine (alive_calls _).mono ?_; rintro e w1 ⟨rfl, hb⟩; have HB := Aside0.mk hb; clear hb)
    | (go_at_call 7; rw [← HM.out]; with_reducible refine (new_at m L0 (by have := HM.out; omega) E _).mono ?_; rintro e w2 ⟨p, g, rfl, hp, hg, hT, hb⟩; have hs_ := HB.out.size; have HP : Aside0 (W.heap.size ≤ p) := Aside0.mk (by omega); have HG : Aside0 (W.heap.size ≤ g) := Aside0.mk (by omega); have n0_ := Aside0.mk (HB.out.trans (hb.mono hs_)); have HT := Aside0.mk hT; clear HB hb hT hp hg hs_; have HB := n0_; clear n0_))
  go_loopw [9] (fun v wr => ∃ (i : Nat) (L : List Int), i ≤ len1 ∧ i ≤ 50 ∧ v = .int .i64 i ∧ Aside0 (Below W.heap.size W wr) ∧ Aside0 (Tbl wr p g L) ∧ Aside0 (L.length = M ∧ Own1 L)) (fun v _ => len1 - (intOf v).toNat)
  case atStart => exact ⟨0, L0, by omega, by omega, rfl, HB, HT, Aside0.mk hL0⟩
  case round =>
    clear HB HT
    obtain ⟨i, L, hi, h50, rfl, HB, HT, HL⟩ := hrel
    by_cases hgo : i < len1 ∧ i < 50
    · have hd : decide ((i : Int) < (len1 : Int)) = true := decide_eq_true (by omega)
      have hd5 : decide ((i : Int) < 50) = true := decide_eq_true (by omega)
      obtain ⟨x, e, hx1, hx2, hxl⟩ := K1.out i hgo.1
      cases e
      have hbl : ∀ j, ((x.add (i * 3)).add j).block = x.block := fun j => by unfold Addr.add; split <;> split <;> rfl
      have hy1 : wr.cell? { block := (x.add (i * 3)).block, off := (x.add (i * 3)).off + 1 } = some (.int .i64 (F i).1) := (HB.out.cell (p := (x.add (i * 3)).add 1) (by rw [hbl]; exact hxl)).trans hx1
      have hy2 : wr.cell? { block := (x.add (i * 3)).block, off := (x.add (i * 3)).off + 2 } = some (.int .i64 (F i).2) := (HB.out.cell (p := (x.add (i * 3)).add 2) (by rw [hbl]; exact hxl)).trans hx2
      generalize (F i).1 = lk at hx1 hy1
      generalize (F i).2 = wk at hx2 hy2
      clear hx1 hx2 hbl
      have hi0 : (0 : Int) ≤ (i : Int) := by omega
      have hi1 : (i : Int) < (len1 : Int) := by omega
      obtain ⟨r, L', hr⟩ : ∃ r L', takeR L lk wk = (r, L') := ⟨_, _, rfl⟩
      have HR := Aside0.mk hr
      have HL' : Aside0 (L'.length = M ∧ Own1 L') := Aside0.mk ⟨by have := len_take L lk wk; rw [hr] at this; exact this.trans HL.out.1, by have := own1_take HL.out.2 lk wk; rw [hr] at this; exact this⟩
      clear hr
      go_upto_region 8 with fail
      go_still_tail 11, (by kernel_rfl)
      change wpList _ _ _ _ _ wr.drew
      have HT2 := Aside0.mk (show Tbl wr.drew p g L from HT.out.drewN 1)
      have HB2 := Aside0.mk (below_drew1 HB.out)
      generalize wr.drew = wq at HT2 HB2 ⊢
      clear HB HT
      go_wp2_with (go_at_call 8; with_reducible refine (take_at wq p g L r L' HT2.out lk wk HR.out W.heap.size HP.out HG.out).mono ?_; rintro e w3 ⟨rfl, hT3, hb3⟩; have HB := Aside0.mk (HB2.out.trans hb3); have HT := Aside0.mk hT3; clear hb3 hT3)
      refine ⟨⟨i + 1, L', by omega, by omega, by push_cast; rfl, HB, HT, HL'⟩, ?_⟩
      show len1 - ((i : Int) + 1).toNat < len1 - (i : Int).toNat
      omega
    · by_cases hlt : i < len1
      · have hd : decide ((i : Int) < (len1 : Int)) = true := decide_eq_true (by omega)
        have hd5 : decide ((i : Int) < 50) = false := decide_eq_false (by omega)
        obtain ⟨wA, hwA⟩ : ∃ wA, wA = wr := ⟨_, rfl⟩
        subst hwA
        go_wp2_with fail
        go_loopw [10, 11] (fun v10 v11 wr2 => ∃ i2 : Nat, i2 ≤ M ∧ v11 = .int .i64 i2 ∧ Aside0 (Kd.R (Kd.int .i64) 3 wr2 wA.heap.size (fun _ => True) v10 (L.take i2)) ∧ Aside0 (Below wA.heap.size wA wr2)) (fun _ v11 _ => M - (intOf v11).toNat)
        case atStart => exact ⟨0, by omega, rfl, Aside0.mk (Kd.R_nil _ _ _ _ _), Aside0.mk (by repeat (first | exact Below.refl _ _ | apply pw_below_drewN | apply below_drew1))⟩
        case round =>
          obtain ⟨i2, hi2, rfl, HO, HB2⟩ := hrel
          have hLM := HL.out.1
          have hmM := HM2.out
          by_cases hlt : i2 < M
          · have hdm : decide ((i2 : Int) < m) = true := decide_eq_true (by omega)
            have hyv := take_next L i2 (by omega)
            have hov := owner_get L i2 (by omega)
            generalize L.getD i2 0 = y at hyv hov
            have HT2 := Aside0.mk (HT.out.below HB2.out)
            have HYV := Aside0.mk hyv
            have HOV := Aside0.mk hov
            have HWI := Aside0.mk (hwi_of i2 M m n HM.out HM2.out hlt)
            have HLT := Aside0.mk (lt_of_take L i2 M m n HM.out HM2.out hlt)
            clear hmM hyv hov
            go_wp2_with (first
              | (go_at_call 10; with_reducible refine (owner_at _ p g L y HT2.out i2 HOV.out).mono ?_; rintro e w4 ⟨rfl, n1, rfl⟩)
              | (at_builtin; (with_reducible refine gate_builtin (b := .append) (xs := #[.tmp 51, .tmp 55]) rfl ?_); (refine Kd.R_append (Kd.int .i64) (w0 := wA) wA.heap.size rfl (.tmp 51) (.tmp 55) 33 3 (.int .i64 0) 8 rfl Try.underlying33 info3 rfl (by decide) (by omega) u10 (L.take i2) y [.int .i64 y] (fun _ => True) (fun _ => False) rfl rfl ?aP (fun _ hk => hk.elim) ?aF ?aO ?aB ?aS ?aL ?_); (case aP => exact rfl); (case aB => exact (by repeat (first | (with_reducible first | exact HB2.out | apply below_alloc | apply pw_below_drewN | apply below_drew1) | exact HB2.out))); (case aF => exact (fun _ _ => trivial)); (case aO => exact (by (with_reducible repeat (first | apply Kd.R_alloc | apply Kd.R_drewN | apply Kd.R_drew)); exact HO.out)); (case aS => exact (below_size (by repeat (first | (with_reducible first | exact HB2.out | apply below_alloc | apply pw_below_drewN | apply below_drew1) | exact HB2.out)))); (case aL => exact HLT.out); intro v107 w6 ho hb hg hat; rw [← HYV.out] at ho; have n0_ := Aside0.mk hb; have n1_ := Aside0.mk ho; clear HB2; clear HO; have HB2 := n0_; have HO := n1_; clear n0_ n1_; clear ho hb hg hat))
            rw [HWI.out]
            refine ⟨⟨i2 + 1, by omega, by push_cast; rfl, HO, HB2⟩, ?_⟩
            show M - ((i2 : Int) + 1).toNat < M - (i2 : Int).toNat
            exact step_lt M i2 hlt
          · obtain rfl : i2 = M := by omega
            have hdm : decide ((i2 : Int) < m) = false := decide_eq_false (by omega)
            have hR := HO.out
            rw [List.take_of_length_le (by omega)] at hR
            have hM1 : 1 ≤ i2 := by have := HM.out; omega
            obtain ⟨gw, capw, cur, rfl, hbw, hgw, hcw, hcm, hcur⟩ := row_of hR hLM hM1
            have hTlt := HT.out.lt
            have HNE : Aside0 (gw ≠ p ∧ gw ≠ g) := Aside0.mk ⟨by omega, by omega⟩
            have HT3 := Aside0.mk (HT.out.below HB2.out)
            have HB3 := Aside0.mk (HB.out.trans (HB2.out.mono HB.out.size))
            have BW := Aside0.mk hgw
            have HCUR := Aside0.mk hcur
            have hme0 : 0 ≤ me := by have := HE.out; omega
            have HME := Aside0.mk hme0
            clear hmM hR hgw hcur hTlt HO hme0
            go_wp2_with fail
            rw [← HE.out]
            go_loopw [13] (fun v wr3 => ∃ k : Nat, k ≤ i2 ∧ v = .int .i64 k ∧ Aside0 (Below W.heap.size W wr3) ∧ Aside0 (Tbl wr3 p g (midL L me k)) ∧ Aside0 (wr3.heap[gw]? = some (.cells cur 3 (0, 0)))) (fun v _ => i2 - (intOf v).toNat)
            case atStart => exact ⟨0, by omega, rfl, HB3, Aside0.mk (by rw [mid0]; exact HT3.out), BW⟩
            case round =>
              clear HB3 HT3 BW
              obtain ⟨k, hk, rfl, HB3, HT3, BW⟩ := hrel
              by_cases hkl : k < i2
              · have hdm : decide ((k : Int) < m) = true := decide_eq_true (by have := HM2.out; omega)
                have hi0 : (0 : Int) ≤ (k : Int) := by omega
                have hi1 : (k : Int) < (i2 : Int) := by omega
                have HWK := Aside0.mk (hwi_of k i2 m n HM.out HM2.out hkl)
                have hTK := mid_take L me k (by omega) HME.out HL.out.2
                have hck := HCUR.out k hkl
                have hyo := HL.out.2 (L.getD k 0) (by rw [List.getD_eq_getElem?_getD, List.getElem?_eq_getElem (by omega : k < L.length)]; exact List.getElem_mem _)
                by_cases hy : L.getD k 0 = -1
                · rw [if_pos hy] at hTK
                  rw [hy] at hck
                  have HTK := Aside0.mk hTK
                  have HCK := Aside0.mk hck
                  have HOW := Aside0.mk (mid_owner L me k (by omega) hy)
                  clear hy
                  clear hTK hck
                  go_wp2_with (first
                    | (go_at_call 8; with_reducible refine (take_atO wr p g (midL L me k) 0 (midL L me (k + 1)) HT3.out k me HTK.out).mono ?_; rintro e w8 ⟨rfl, hT8, hO⟩; have n0_ := Aside0.mk (HB3.out.trans (hO.below HP.out HG.out HB3.out.size)); have n1_ := Aside0.mk (hO.keeps BW.out HNE.out.1 HNE.out.2); clear HB3 BW HT3 hO; have HB3 := n0_; have BW := n1_; have HT3 := Aside0.mk hT8; clear n0_ n1_ hT8; have hc8 : w8.cell? ⟨gw, k, none⟩ = some (.int .i64 (-1)) := (blk_cell BW.out k).trans HCK.out)
                    | (go_at_call 10; with_reducible refine (owner_at _ p g _ me HT3.out k HOW.out).mono ?_; rintro e w9 ⟨rfl, n1, rfl⟩))
                  rw [HWK.out]
                  refine ⟨⟨k + 1, by omega, by push_cast; rfl, Aside0.mk (by repeat (first | exact HB3.out | apply pw_below_drewN | apply below_drew1)), Aside0.mk (by first | exact HT3.out | exact HT3.out.drewN _), BW⟩, ?_⟩
                  show i2 - ((k : Int) + 1).toNat < i2 - (k : Int).toNat
                  exact step_lt i2 k hkl
                · rw [if_neg hy] at hTK
                  generalize L.getD k 0 = y at hck hy hyo
                  have hdy : decide (y < 0) = false := decide_eq_false (by omega)
                  have HTK := Aside0.mk hTK
                  have HCK := Aside0.mk hck
                  clear hTK hck
                  go_wp2_with (first
                    | (go_at_call 8; with_reducible refine (take_atO wr p g (midL L me k) 5 (midL L me (k + 1)) HT3.out k me HTK.out).mono ?_; rintro e w8 ⟨rfl, hT8, hO⟩; have n0_ := Aside0.mk (HB3.out.trans (hO.below HP.out HG.out HB3.out.size)); have n1_ := Aside0.mk (hO.keeps BW.out HNE.out.1 HNE.out.2); clear HB3 BW HT3 hO; have HB3 := n0_; have BW := n1_; have HT3 := Aside0.mk hT8; clear n0_ n1_ hT8; have hc8 : w8.cell? ⟨gw, k, none⟩ = some (.int .i64 y) := (blk_cell BW.out k).trans HCK.out)
                    | (go_at_call 10; with_reducible refine (owner_at _ p g _ me HT3.out k HOW.out).mono ?_; rintro e w9 ⟨rfl, n1, rfl⟩))
                  rw [HWK.out]
                  refine ⟨⟨k + 1, by omega, by push_cast; rfl, Aside0.mk (by repeat (first | exact HB3.out | apply pw_below_drewN | apply below_drew1)), Aside0.mk (by first | exact HT3.out | exact HT3.out.drewN _), BW⟩, ?_⟩
                  show i2 - ((k : Int) + 1).toNat < i2 - (k : Int).toNat
                  exact step_lt i2 k hkl
              · obtain rfl : k = i2 := by omega
                have hdm : decide ((k : Int) < m) = false := decide_eq_false (by have := HM2.out; omega)
                have HT4 := Aside0.mk (show Tbl wr p g (finL L me 0) from by have := mid_fin L me; rw [hLM] at this; rw [← this]; exact HT3.out)
                clear HT3
                go_wp2_with fail
                obtain ⟨i2, hi2⟩ : ∃ i2 : Nat, i2 = k := ⟨_, rfl⟩
                subst hi2
                go_loopw [15] (fun v wr3 => ∃ k : Nat, k ≤ i2 ∧ v = .int .i64 k ∧ Aside0 (Below W.heap.size W wr3) ∧ Aside0 (Tbl wr3 p g (finL L me k)) ∧ Aside0 (wr3.heap[gw]? = some (.cells cur 3 (0, 0)))) (fun v _ => i2 - (intOf v).toNat)
                case atStart => exact ⟨0, by omega, rfl, HB3, HT4, BW⟩
                case round =>
                  clear HB3 HT4 BW
                  obtain ⟨k, hk, rfl, HB3, HT3, BW⟩ := hrel
                  by_cases hkl : k < i2
                  · have hdm : decide ((k : Int) < m) = true := decide_eq_true (by have := HM2.out; omega)
                    have hi0 : (0 : Int) ≤ (k : Int) := by omega
                    have hi1 : (k : Int) < (i2 : Int) := by omega
                    have HWK := Aside0.mk (hwi_of k i2 m n HM.out HM2.out hkl)
                    have hck := HCUR.out k hkl
                    have how := fin_owner L me k (by omega)
                    have hyo := HL.out.2 (L.getD k 0) (by rw [List.getD_eq_getElem?_getD, List.getElem?_eq_getElem (by omega : k < L.length)]; exact List.getElem_mem _)
                    by_cases hy : L.getD k 0 = -1
                    · rw [hy] at hck how
                      have HOW := Aside0.mk how
                      have hc7 : wr.cell? ⟨gw, k, none⟩ = some (.int .i64 (-1)) := (blk_cell BW.out k).trans hck
                      have HTK := Aside0.mk (fin_leave L me k (by omega) HME.out hy)
                      clear hy
                      have HCK := Aside0.mk hck
                      have hnn : ((-1 : Int) != (-1)) = false := by simp
                      go_upto_region 26 with (go_at_call 9; with_reducible refine (leave_atO wr p g (finL L me k) 0 (finL L me (k + 1)) HT3.out k me HTK.out).mono ?_; rintro e w8 ⟨rfl, hT8, hO⟩; have n0_ := Aside0.mk (HB3.out.trans (hO.below HP.out HG.out HB3.out.size)); have n1_ := Aside0.mk (hO.keeps BW.out HNE.out.1 HNE.out.2); clear HB3 BW HT3 hO; have HB3 := n0_; have BW := n1_; have HT3 := Aside0.mk hT8; clear n0_ n1_ hT8; have hc8 : w8.cell? ⟨gw, k, none⟩ = some (.int .i64 (-1)) := (blk_cell BW.out k).trans HCK.out)
                      go_quiet (first | (go_at_call 10; exact Calls.quiet_of (owner_at _ p g _ (-1) (HT3.out.drewN _) k HOW.out)))
                      go_wp2
                      rw [HWK.out]
                      refine ⟨⟨k + 1, by omega, by push_cast; rfl, Aside0.mk (by repeat (first | exact HB3.out | apply pw_below_drewN | apply below_drew1)), Aside0.mk (by first | exact HT3.out | exact HT3.out.drewN _), BW⟩, ?_⟩
                      show i2 - ((k : Int) + 1).toNat < i2 - (k : Int).toNat
                      exact step_lt i2 k hkl
                    · rw [← fin_same L me k hy] at how
                      have hnx := fin_same L me k hy
                      generalize L.getD k 0 = y at hck hy hyo how
                      have HOW := Aside0.mk how
                      have hdy : decide (y < 0) = false := decide_eq_false (by omega)
                      have hc7 : wr.cell? ⟨gw, k, none⟩ = some (.int .i64 y) := (blk_cell BW.out k).trans hck
                      have HCK := Aside0.mk hck
                      have hnn : (y != y) = false := by simp
                      go_upto_region 26 with fail
                      go_quiet (first | (go_at_call 10; exact Calls.quiet_of (owner_at _ p g _ y (HT3.out.drewN _) k HOW.out)))
                      go_wp2
                      rw [HWK.out]
                      refine ⟨⟨k + 1, by omega, by push_cast; rfl, Aside0.mk (by repeat (first | exact HB3.out | apply pw_below_drewN | apply below_drew1)), Aside0.mk (by rw [← hnx]; exact HT3.out.drewN _), BW⟩, ?_⟩
                      show i2 - ((k : Int) + 1).toNat < i2 - (k : Int).toNat
                      exact step_lt i2 k hkl
                  · obtain rfl : k = i2 := by omega
                    have hdm : decide ((k : Int) < m) = false := decide_eq_false (by have := HM2.out; omega)
                    go_wp2
                    go_ret
                    exact ⟨rfl, HB3.out⟩
      · have hd : decide ((i : Int) < (len1 : Int)) = false := decide_eq_false (by omega)
        obtain ⟨wA, hwA⟩ : ∃ wA, wA = wr := ⟨_, rfl⟩
        subst hwA
        go_wp2_with fail
        go_loopw [10, 11] (fun v10 v11 wr2 => ∃ i2 : Nat, i2 ≤ M ∧ v11 = .int .i64 i2 ∧ Aside0 (Kd.R (Kd.int .i64) 3 wr2 wA.heap.size (fun _ => True) v10 (L.take i2)) ∧ Aside0 (Below wA.heap.size wA wr2)) (fun _ v11 _ => M - (intOf v11).toNat)
        case atStart => exact ⟨0, by omega, rfl, Aside0.mk (Kd.R_nil _ _ _ _ _), Aside0.mk (by repeat (first | exact Below.refl _ _ | apply pw_below_drewN | apply below_drew1))⟩
        case round =>
          obtain ⟨i2, hi2, rfl, HO, HB2⟩ := hrel
          have hLM := HL.out.1
          have hmM := HM2.out
          by_cases hlt : i2 < M
          · have hdm : decide ((i2 : Int) < m) = true := decide_eq_true (by omega)
            have hyv := take_next L i2 (by omega)
            have hov := owner_get L i2 (by omega)
            generalize L.getD i2 0 = y at hyv hov
            have HT2 := Aside0.mk (HT.out.below HB2.out)
            have HYV := Aside0.mk hyv
            have HOV := Aside0.mk hov
            have HWI := Aside0.mk (hwi_of i2 M m n HM.out HM2.out hlt)
            have HLT := Aside0.mk (lt_of_take L i2 M m n HM.out HM2.out hlt)
            clear hmM hyv hov
            go_wp2_with (first
              | (go_at_call 10; with_reducible refine (owner_at _ p g L y HT2.out i2 HOV.out).mono ?_; rintro e w4 ⟨rfl, n1, rfl⟩)
              | (at_builtin; (with_reducible refine gate_builtin (b := .append) (xs := #[.tmp 51, .tmp 55]) rfl ?_); (refine Kd.R_append (Kd.int .i64) (w0 := wA) wA.heap.size rfl (.tmp 51) (.tmp 55) 33 3 (.int .i64 0) 8 rfl Try.underlying33 info3 rfl (by decide) (by omega) u10 (L.take i2) y [.int .i64 y] (fun _ => True) (fun _ => False) rfl rfl ?aP (fun _ hk => hk.elim) ?aF ?aO ?aB ?aS ?aL ?_); (case aP => exact rfl); (case aB => exact (by repeat (first | (with_reducible first | exact HB2.out | apply below_alloc | apply pw_below_drewN | apply below_drew1) | exact HB2.out))); (case aF => exact (fun _ _ => trivial)); (case aO => exact (by (with_reducible repeat (first | apply Kd.R_alloc | apply Kd.R_drewN | apply Kd.R_drew)); exact HO.out)); (case aS => exact (below_size (by repeat (first | (with_reducible first | exact HB2.out | apply below_alloc | apply pw_below_drewN | apply below_drew1) | exact HB2.out)))); (case aL => exact HLT.out); intro v107 w6 ho hb hg hat; rw [← HYV.out] at ho; have n0_ := Aside0.mk hb; have n1_ := Aside0.mk ho; clear HB2; clear HO; have HB2 := n0_; have HO := n1_; clear n0_ n1_; clear ho hb hg hat))
            rw [HWI.out]
            refine ⟨⟨i2 + 1, by omega, by push_cast; rfl, HO, HB2⟩, ?_⟩
            show M - ((i2 : Int) + 1).toNat < M - (i2 : Int).toNat
            exact step_lt M i2 hlt
          · obtain rfl : i2 = M := by omega
            have hdm : decide ((i2 : Int) < m) = false := decide_eq_false (by omega)
            have hR := HO.out
            rw [List.take_of_length_le (by omega)] at hR
            have hM1 : 1 ≤ i2 := by have := HM.out; omega
            obtain ⟨gw, capw, cur, rfl, hbw, hgw, hcw, hcm, hcur⟩ := row_of hR hLM hM1
            have hTlt := HT.out.lt
            have HNE : Aside0 (gw ≠ p ∧ gw ≠ g) := Aside0.mk ⟨by omega, by omega⟩
            have HT3 := Aside0.mk (HT.out.below HB2.out)
            have HB3 := Aside0.mk (HB.out.trans (HB2.out.mono HB.out.size))
            have BW := Aside0.mk hgw
            have HCUR := Aside0.mk hcur
            have hme0 : 0 ≤ me := by have := HE.out; omega
            have HME := Aside0.mk hme0
            clear hmM hR hgw hcur hTlt HO hme0
            go_wp2_with fail
            rw [← HE.out]
            go_loopw [13] (fun v wr3 => ∃ k : Nat, k ≤ i2 ∧ v = .int .i64 k ∧ Aside0 (Below W.heap.size W wr3) ∧ Aside0 (Tbl wr3 p g (midL L me k)) ∧ Aside0 (wr3.heap[gw]? = some (.cells cur 3 (0, 0)))) (fun v _ => i2 - (intOf v).toNat)
            case atStart => exact ⟨0, by omega, rfl, HB3, Aside0.mk (by rw [mid0]; exact HT3.out), BW⟩
            case round =>
              clear HB3 HT3 BW
              obtain ⟨k, hk, rfl, HB3, HT3, BW⟩ := hrel
              by_cases hkl : k < i2
              · have hdm : decide ((k : Int) < m) = true := decide_eq_true (by have := HM2.out; omega)
                have hi0 : (0 : Int) ≤ (k : Int) := by omega
                have hi1 : (k : Int) < (i2 : Int) := by omega
                have HWK := Aside0.mk (hwi_of k i2 m n HM.out HM2.out hkl)
                have hTK := mid_take L me k (by omega) HME.out HL.out.2
                have hck := HCUR.out k hkl
                have hyo := HL.out.2 (L.getD k 0) (by rw [List.getD_eq_getElem?_getD, List.getElem?_eq_getElem (by omega : k < L.length)]; exact List.getElem_mem _)
                by_cases hy : L.getD k 0 = -1
                · rw [if_pos hy] at hTK
                  rw [hy] at hck
                  have HTK := Aside0.mk hTK
                  have HCK := Aside0.mk hck
                  have HOW := Aside0.mk (mid_owner L me k (by omega) hy)
                  clear hy
                  clear hTK hck
                  go_wp2_with (first
                    | (go_at_call 8; with_reducible refine (take_atO wr p g (midL L me k) 0 (midL L me (k + 1)) HT3.out k me HTK.out).mono ?_; rintro e w8 ⟨rfl, hT8, hO⟩; have n0_ := Aside0.mk (HB3.out.trans (hO.below HP.out HG.out HB3.out.size)); have n1_ := Aside0.mk (hO.keeps BW.out HNE.out.1 HNE.out.2); clear HB3 BW HT3 hO; have HB3 := n0_; have BW := n1_; have HT3 := Aside0.mk hT8; clear n0_ n1_ hT8; have hc8 : w8.cell? ⟨gw, k, none⟩ = some (.int .i64 (-1)) := (blk_cell BW.out k).trans HCK.out)
                    | (go_at_call 10; with_reducible refine (owner_at _ p g _ me HT3.out k HOW.out).mono ?_; rintro e w9 ⟨rfl, n1, rfl⟩))
                  rw [HWK.out]
                  refine ⟨⟨k + 1, by omega, by push_cast; rfl, Aside0.mk (by repeat (first | exact HB3.out | apply pw_below_drewN | apply below_drew1)), Aside0.mk (by first | exact HT3.out | exact HT3.out.drewN _), BW⟩, ?_⟩
                  show i2 - ((k : Int) + 1).toNat < i2 - (k : Int).toNat
                  exact step_lt i2 k hkl
                · rw [if_neg hy] at hTK
                  generalize L.getD k 0 = y at hck hy hyo
                  have hdy : decide (y < 0) = false := decide_eq_false (by omega)
                  have HTK := Aside0.mk hTK
                  have HCK := Aside0.mk hck
                  clear hTK hck
                  go_wp2_with (first
                    | (go_at_call 8; with_reducible refine (take_atO wr p g (midL L me k) 5 (midL L me (k + 1)) HT3.out k me HTK.out).mono ?_; rintro e w8 ⟨rfl, hT8, hO⟩; have n0_ := Aside0.mk (HB3.out.trans (hO.below HP.out HG.out HB3.out.size)); have n1_ := Aside0.mk (hO.keeps BW.out HNE.out.1 HNE.out.2); clear HB3 BW HT3 hO; have HB3 := n0_; have BW := n1_; have HT3 := Aside0.mk hT8; clear n0_ n1_ hT8; have hc8 : w8.cell? ⟨gw, k, none⟩ = some (.int .i64 y) := (blk_cell BW.out k).trans HCK.out)
                    | (go_at_call 10; with_reducible refine (owner_at _ p g _ me HT3.out k HOW.out).mono ?_; rintro e w9 ⟨rfl, n1, rfl⟩))
                  rw [HWK.out]
                  refine ⟨⟨k + 1, by omega, by push_cast; rfl, Aside0.mk (by repeat (first | exact HB3.out | apply pw_below_drewN | apply below_drew1)), Aside0.mk (by first | exact HT3.out | exact HT3.out.drewN _), BW⟩, ?_⟩
                  show i2 - ((k : Int) + 1).toNat < i2 - (k : Int).toNat
                  exact step_lt i2 k hkl
              · obtain rfl : k = i2 := by omega
                have hdm : decide ((k : Int) < m) = false := decide_eq_false (by have := HM2.out; omega)
                have HT4 := Aside0.mk (show Tbl wr p g (finL L me 0) from by have := mid_fin L me; rw [hLM] at this; rw [← this]; exact HT3.out)
                clear HT3
                go_wp2_with fail
                obtain ⟨i2, hi2⟩ : ∃ i2 : Nat, i2 = k := ⟨_, rfl⟩
                subst hi2
                go_loopw [15] (fun v wr3 => ∃ k : Nat, k ≤ i2 ∧ v = .int .i64 k ∧ Aside0 (Below W.heap.size W wr3) ∧ Aside0 (Tbl wr3 p g (finL L me k)) ∧ Aside0 (wr3.heap[gw]? = some (.cells cur 3 (0, 0)))) (fun v _ => i2 - (intOf v).toNat)
                case atStart => exact ⟨0, by omega, rfl, HB3, HT4, BW⟩
                case round =>
                  clear HB3 HT4 BW
                  obtain ⟨k, hk, rfl, HB3, HT3, BW⟩ := hrel
                  by_cases hkl : k < i2
                  · have hdm : decide ((k : Int) < m) = true := decide_eq_true (by have := HM2.out; omega)
                    have hi0 : (0 : Int) ≤ (k : Int) := by omega
                    have hi1 : (k : Int) < (i2 : Int) := by omega
                    have HWK := Aside0.mk (hwi_of k i2 m n HM.out HM2.out hkl)
                    have hck := HCUR.out k hkl
                    have how := fin_owner L me k (by omega)
                    have hyo := HL.out.2 (L.getD k 0) (by rw [List.getD_eq_getElem?_getD, List.getElem?_eq_getElem (by omega : k < L.length)]; exact List.getElem_mem _)
                    by_cases hy : L.getD k 0 = -1
                    · rw [hy] at hck how
                      have HOW := Aside0.mk how
                      have hc7 : wr.cell? ⟨gw, k, none⟩ = some (.int .i64 (-1)) := (blk_cell BW.out k).trans hck
                      have HTK := Aside0.mk (fin_leave L me k (by omega) HME.out hy)
                      clear hy
                      have HCK := Aside0.mk hck
                      have hnn : ((-1 : Int) != (-1)) = false := by simp
                      go_upto_region 26 with (go_at_call 9; with_reducible refine (leave_atO wr p g (finL L me k) 0 (finL L me (k + 1)) HT3.out k me HTK.out).mono ?_; rintro e w8 ⟨rfl, hT8, hO⟩; have n0_ := Aside0.mk (HB3.out.trans (hO.below HP.out HG.out HB3.out.size)); have n1_ := Aside0.mk (hO.keeps BW.out HNE.out.1 HNE.out.2); clear HB3 BW HT3 hO; have HB3 := n0_; have BW := n1_; have HT3 := Aside0.mk hT8; clear n0_ n1_ hT8; have hc8 : w8.cell? ⟨gw, k, none⟩ = some (.int .i64 (-1)) := (blk_cell BW.out k).trans HCK.out)
                      go_quiet (first | (go_at_call 10; exact Calls.quiet_of (owner_at _ p g _ (-1) (HT3.out.drewN _) k HOW.out)))
                      go_wp2
                      rw [HWK.out]
                      refine ⟨⟨k + 1, by omega, by push_cast; rfl, Aside0.mk (by repeat (first | exact HB3.out | apply pw_below_drewN | apply below_drew1)), Aside0.mk (by first | exact HT3.out | exact HT3.out.drewN _), BW⟩, ?_⟩
                      show i2 - ((k : Int) + 1).toNat < i2 - (k : Int).toNat
                      exact step_lt i2 k hkl
                    · rw [← fin_same L me k hy] at how
                      have hnx := fin_same L me k hy
                      generalize L.getD k 0 = y at hck hy hyo how
                      have HOW := Aside0.mk how
                      have hdy : decide (y < 0) = false := decide_eq_false (by omega)
                      have hc7 : wr.cell? ⟨gw, k, none⟩ = some (.int .i64 y) := (blk_cell BW.out k).trans hck
                      have HCK := Aside0.mk hck
                      have hnn : (y != y) = false := by simp
                      go_upto_region 26 with fail
                      go_quiet (first | (go_at_call 10; exact Calls.quiet_of (owner_at _ p g _ y (HT3.out.drewN _) k HOW.out)))
                      go_wp2
                      rw [HWK.out]
                      refine ⟨⟨k + 1, by omega, by push_cast; rfl, Aside0.mk (by repeat (first | exact HB3.out | apply pw_below_drewN | apply below_drew1)), Aside0.mk (by rw [← hnx]; exact HT3.out.drewN _), BW⟩, ?_⟩
                      show i2 - ((k : Int) + 1).toNat < i2 - (k : Int).toNat
                      exact step_lt i2 k hkl
                  · obtain rfl : k = i2 := by omega
                    have hdm : decide ((k : Int) < m) = false := decide_eq_false (by have := HM2.out; omega)
                    go_wp2
                    go_ret
                    exact ⟨rfl, HB3.out⟩
theorem back_walk (n : Int) (a1 : Option Addr) (len1 cap1 : Nat) (F : Nat → Int × Int) (who : Int) (W : World) (wn : (Lit.int .u8 n).wf = true) (ww : (Lit.int .u8 who).wf = true)
    (K1 : ∀ i, i < len1 → ∃ x, a1 = some x ∧ W.cell? ((x.add (i * 3)).add 1) = some (.int .i64 (F i).1) ∧ W.cell? ((x.add (i * 3)).add 2) = some (.int .i64 (F i).2) ∧ x.block < W.heap.size) (hlen : len1 ≤ 9223372036854775807) :
    Calls Try.prog 4 #[.int .u8 n, .slice a1 len1 cap1, .int .u8 who] W fun e w' => e = .returned (.bool true) ∧ Below W.heap.size W w' := by
  have hn := u8_wf wn
  refine back_at n who (n % 16 + 1) (who + 1000000) (n % 16 + 1).toNat hn (u8_wf ww) (Aside0.mk rfl) (Aside0.mk (by omega)) (Aside0.mk rfl) _ (Aside0.mk rfl) ⟨?_, own1_rep _⟩ a1 len1 cap1 W F (Aside0.mk K1) hlen
  exact List.length_replicate
end Go.Proofs.Ytpefbnhicfflpaa.Lk
