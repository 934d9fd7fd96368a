/- Locks: Drop, New, the examples; LocksOne's walk. No condition beyond what the row gives. -/
import Derived.Test.YtpefbnhicfflpaaLk1
namespace Go.Proofs.Ytpefbnhicfflpaa.Lk
open Go.RowKit Go.Proofs.YtpefbnhicfflpaaW.PrintWords Go.Proofs.YtpefbnhicfflpaaW.PrintLast Go.Proofs.YtpefbnhicfflpaaW.PrintMore
set_option linter.unusedSimpArgs false
set_option linter.unusedVariables false
def dropped (L : List Int) (i : Nat) : List Int := List.replicate i (-1) ++ L.drop i
theorem dropped_len (L : List Int) (i : Nat) (h : i ≤ L.length) : (dropped L i).length = L.length := by simp [dropped]; omega
theorem dropped_set (L : List Int) (i : Nat) (h : i < L.length) : (dropped L i).set i (-1) = dropped L (i + 1) := by
  unfold dropped
  rw [List.set_append_right _ _ (by simp)]
  simp only [List.length_replicate, Nat.sub_self]
  rw [List.drop_eq_getElem_cons h, List.set_cons_zero, List.replicate_succ', List.append_assoc]
  rfl
set_option maxHeartbeats 2000000 in
theorem drop_calls (W : World) (p g : Nat) (L : List Int) (h : Tbl W p g L) (B : Nat) (hp : B ≤ p) (hg : B ≤ g) (hL : L.length ≤ 16) : Calls Try.prog 20 #[.pointer (some ⟨p, 0, none⟩)] W fun e w' => (∃ v, e = .returned v) ∧ Tbl w' p g (List.replicate L.length (-1)) ∧ Below B W w' := by
  have hu := Try.underlying56
  go_enter Try.func20, Try.ntmps20
  go_wp2_with (go_at_call 25; refine (len_calls _ p g L h).mono ?_; rintro e w' ⟨rfl, rfl⟩)
  go_loopw [5] (fun v wr => ∃ i : Nat, i ≤ L.length ∧ v = .int .i64 i ∧ Aside0 (Below B w' wr) ∧ Tbl wr p g (dropped L i)) (fun v _ => L.length - (intOf v).toNat)
  case atStart => exact ⟨0, by omega, rfl, Aside0.mk (Below.refl _ _), by simpa [dropped] using h⟩
  case round =>
    obtain ⟨i, hi, rfl, HB, hT⟩ := hrel
    obtain ⟨k, hk⟩ := hT.tp
    rw [dropped_len L i hi] at hk
    have h0 : wr.cell? ⟨p, 0, none⟩ = some (.slice (some ⟨g, 0, none⟩) L.length L.length) := (blk_cell hk 0).trans rfl
    by_cases hlt : i < L.length
    · have hx := hT.cell i (by rw [dropped_len L i hi]; exact hlt)
      have hf : wr.frozen? ⟨g, i, none⟩ = false := blk_frozen hT.tg _
      generalize (dropped L i).getD i 0 = y at hx
      have hi0 : (0 : Int) ≤ (i : Int) := by omega
      have hi1 : (i : Int) < (L.length : Int) := by omega
      go_wp2
      refine ⟨⟨i + 1, by omega, by push_cast; rfl, ?_, ?_⟩, ?_⟩
      · exact Aside0.mk (HB.out.setCell (p := ⟨g, i, none⟩) hg _)
      · have := hT.put i (-1)
        rwa [dropped_set L i hlt] at this
      · show L.length - ((i : Int) + 1).toNat < L.length - (i : Int).toNat
        omega
    · obtain rfl : i = L.length := by omega
      go_wp2
      go_end0
      exact ⟨⟨_, rfl⟩, by simpa [dropped] using hT, HB.out⟩
theorem made_rep (m : Nat) : madeCells #[.int .i64 0] m = ((List.replicate m (0 : Int)).map (Value.int .i64)).toArray := by
  apply Array.ext
  · simp [madeCells]
  · intro i h1 h2
    simp [madeCells, Nat.mod_one]
set_option maxHeartbeats 2000000 in
theorem new_calls (n : Int) (hn : 1 ≤ n ∧ n ≤ 16) (W : World) : Calls Try.prog 7 #[.int .i64 n] W fun e w' => ∃ p g, e = .returned (.pointer (some ⟨p, 0, none⟩)) ∧ W.heap.size ≤ p ∧ W.heap.size ≤ g ∧ Tbl w' p g (List.replicate n.toNat (-1)) ∧ Below W.heap.size W w' := by
  have hm := print_make_int (P := Try.prog) 33 3 (.int .i64 0) 8 Try.underlying33 (by kernel_rfl) rfl (by decide) n (by omega) (by omega)
  have hd : decide (n < 1) = false := decide_eq_false (by omega)
  have hd2 : decide (16 < n) = false := decide_eq_false (by omega)
  have hT : Tbl ((W.alloc (.cells (madeCells #[.int .i64 0] n.toNat) 3)).alloc (.cells #[.slice (some ⟨W.heap.size, 0, none⟩) n.toNat n.toNat, .int .i64 0] 56)) (W.heap.size + 1) W.heap.size (List.replicate n.toNat 0) := by
    refine ⟨by omega, ⟨0, ?_⟩, ?_⟩
    · have := blk_new (W.alloc (.cells (madeCells #[.int .i64 0] n.toNat) 3)) (.cells #[.slice (some ⟨W.heap.size, 0, none⟩) n.toNat n.toNat, .int .i64 0] 56)
      rw [World.size_alloc] at this
      rw [List.length_replicate]
      exact this
    · rw [← made_rep]
      exact blk_alloc (blk_new W _) _
  have hB : Below W.heap.size W ((W.alloc (.cells (madeCells #[.int .i64 0] n.toNat) 3)).alloc (.cells #[.slice (some ⟨W.heap.size, 0, none⟩) n.toNat n.toNat, .int .i64 0] 56)) := ((Below.refl _ W).alloc (Nat.le_refl _) _).alloc (by simp) _
  go_enter Try.func7, Try.ntmps7
  go_upto_region 4 with fail
  generalize hW : (W.alloc (.cells (madeCells #[.int .i64 0] n.toNat) 3)).alloc (.cells #[.slice (some ⟨W.heap.size, 0, none⟩) n.toNat n.toNat, .int .i64 0] 56) = W1 at hT hB ⊢
  clear hW
  have hD := drop_calls W1 (W.heap.size + 1) W.heap.size _ hT W.heap.size (by omega) (by omega) (by simp; omega)
  rw [List.length_replicate] at hD
  go_wp2_with (go_at_call 20; refine hD.mono ?_; rintro e w' ⟨⟨v, rfl⟩, hT2, hb⟩)
  go_ret
  exact ⟨_, _, rfl, by omega, by omega, hT2, hB.trans hb⟩
theorem take_at (W : World) (p g : Nat) (L : List Int) (r : Int) (L' : List Int) (h : Tbl W p g L) (lock who : Int) (e : takeR L lock who = (r, L')) (B : Nat) (hp : B ≤ p) (hg : B ≤ g) : Calls Try.prog 8 #[.pointer (some ⟨p, 0, none⟩), .int .i64 lock, .int .i64 who] W fun e w' => e = .returned (.int .i64 r) ∧ Tbl w' p g L' ∧ Below B W w' := by
  have := take_calls W p g L h lock who B hp hg
  rw [e] at this
  exact this
theorem leave_at (W : World) (p g : Nat) (L : List Int) (r : Int) (L' : List Int) (h : Tbl W p g L) (lock who : Int) (e : leaveR L lock who = (r, L')) (B : Nat) (hp : B ≤ p) (hg : B ≤ g) : Calls Try.prog 9 #[.pointer (some ⟨p, 0, none⟩), .int .i64 lock, .int .i64 who] W fun e w' => e = .returned (.int .i64 r) ∧ Tbl w' p g L' ∧ Below B W w' := by
  have := leave_calls W p g L h lock who B hp hg
  rw [e] at this
  exact this
theorem owner_at (W : World) (p g : Nat) (L : List Int) (o : Int) (h : Tbl W p g L) (i : Int) (e : ownerV L i = o) : Calls Try.prog 10 #[.pointer (some ⟨p, 0, none⟩), .int .i64 i] W fun e w' => e = .returned (.int .i64 o) ∧ ∃ n, w' = W.drewN n := by
  have := owner_calls W p g L h i
  rw [e] at this
  exact this
set_option maxHeartbeats 4000000 in
theorem alive_calls (W : World) : Calls Try.prog 6 #[] W fun e w' => e = .returned (.bool true) ∧ Below W.heap.size W w' := by
  go_enter Try.func6, Try.ntmps6
  go_upto_region 2 with (go_at_call 7; refine (new_calls 2 (by decide) _).mono ?_; rintro e w1 ⟨p, g, rfl, hp, hg, hT, hb⟩)
  have HB := Aside0.mk hb
  have hT1 : Tbl w1 p g [-1, -1] := hT
  clear hb hT
  go_wp2_with (first
    | (go_at_call 8; first
      | (with_reducible refine (take_at w1 p g [-1, -1] 0 [1, -1] hT1 0 1 (by decide) W.heap.size hp hg).mono ?_; rintro e w2 ⟨rfl, hT2, hb⟩; have n0_ := Aside0.mk (HB.out.trans hb); clear HB hb; have HB := n0_; clear n0_)
      | (with_reducible refine (take_at w2 p g [1, -1] 5 [1, -1] hT2 0 2 (by decide) W.heap.size hp hg).mono ?_; rintro e w3 ⟨rfl, hT3, hb⟩; have n0_ := Aside0.mk (HB.out.trans hb); clear HB hb; have HB := n0_; clear n0_)
      | (with_reducible refine (take_at w4 p g [-1, -1] 0 [2, -1] hT4 0 2 (by decide) W.heap.size hp hg).mono ?_; rintro e w5 ⟨rfl, hT5, hb⟩; have n0_ := Aside0.mk (HB.out.trans hb); clear HB hb; have HB := n0_; clear n0_))
    | (go_at_call 9; with_reducible refine (leave_at w3 p g [1, -1] 0 [-1, -1] hT3 0 1 (by decide) W.heap.size hp hg).mono ?_; rintro e w4 ⟨rfl, hT4, hb⟩; have n0_ := Aside0.mk (HB.out.trans hb); clear HB hb; have HB := n0_; clear n0_))
  go_ret
  exact ⟨rfl, HB.out⟩

/-! ### LocksOne -/
theorem new_at (n : Int) (L : List Int) (hn : 1 ≤ n ∧ n ≤ 16) (e : Aside0 (List.replicate n.toNat (-1) = L)) (W : World) : Calls Try.prog 7 #[.int .i64 n] W fun e w' => ∃ p g, e = .returned (.pointer (some ⟨p, 0, none⟩)) ∧ W.heap.size ≤ p ∧ W.heap.size ≤ g ∧ Tbl w' p g L ∧ Below W.heap.size W w' := by
  have := new_calls n hn W
  rw [e.out] at this
  exact this
theorem u8_wf {n : Int} (h : (Lit.int .u8 n).wf = true) : 0 ≤ n ∧ n < 256 := by
  have h2 : (decide (0 ≤ n) && decide (n ≤ 255)) = true := h
  have h3 : 0 ≤ n ∧ n ≤ 255 := by simpa using h2
  omega
def IsRow (k : IntKind) (w : World) (a : Option Addr) (len cap : Nat) (zs : List Int) : Prop :=
  (a = none ∧ len = 0 ∧ cap = 0 ∧ zs = []) ∨
  ∃ x, a = some x ∧ len ≤ cap ∧ cap ≤ maxLen ∧ zs.length = cap ∧ (∀ i, i < zs.length → w.cell? (x.add i) = some (.int k (zs.getD i 0))) ∧ ∀ n ∈ zs, (Lit.int k n).wf = true
set_option maxHeartbeats 8000000 in
set_option maxRecDepth 100000 in
theorem one_at (n lock who m k : Int) (hn : 0 ≤ n ∧ n < 256) (hl : 0 ≤ lock ∧ lock < 256) (hw : 0 ≤ who ∧ who < 256) (HM : Aside0 (m = n % 16 + 1)) (HK : Aside0 (k = lock % m)) (L0 L1 L2 : List Int) (E : Aside0 (List.replicate m.toNat (-1) = L0)) (E0 : Aside0 (takeR L0 k who = (0, L1))) (E1 : Aside0 (∀ o, 0 ≤ o → takeR L1 k o = (5, L1)))
    (E2 : Aside0 (∀ o, 0 ≤ o → ¬ o = who → leaveR L1 k o = (6, L1))) (E3 : Aside0 (ownerV L1 k = who)) (E4 : Aside0 (leaveR L1 k who = (0, L2))) (E5 : Aside0 (ownerV L2 k = -1))
    (a0 : Option Addr) (cap0 : Nat) (ws : List Int) (W : World) (K0 : Aside0 (Kd.C (Kd.int .u8) W a0 ws.length ws)) (hB : Aside0 (∀ i : Nat, i < ws.length → 0 ≤ rd ws i ∧ rd ws i < 256)) (hlen : ws.length ≤ 140737488351232) :
    Calls Try.prog 3 #[.int .u8 n, .int .u8 lock, .int .u8 who, .slice a0 ws.length cap0] W fun e w' => e = .returned (.bool true) ∧ Below W.heap.size W w' := by
  go_enter Try.func3, Try.ntmps3
  go_upto_region 5 with (first
    | (go_at_call 6; with_reducible refine (alive_calls _).mono ?_; rintro e w1 ⟨rfl, hb⟩; have HB := Aside0.mk hb; clear hb)
    | (go_at_call 7; rw [← HM.out]; with_reducible refine (new_at m L0 (by have := HM.out; omega) E _).mono ?_; rintro e w2 ⟨p, g, rfl, hp, hg, hT, hb⟩; have hs_ := HB.out.size; have HP : Aside0 (W.heap.size ≤ p) := Aside0.mk (by omega); have HG : Aside0 (W.heap.size ≤ g) := Aside0.mk (by omega); have n0_ := Aside0.mk (HB.out.trans (hb.mono hs_)); have HT := Aside0.mk hT; clear HB hb hT hp hg hs_; have HB := n0_; clear n0_))
  rw [← HM.out]
  rw [← HK.out]
  go_wp2_with (go_at_call 8; with_reducible refine (take_at _ p g L0 0 L1 HT.out k who E0.out W.heap.size HP.out HG.out).mono ?_; rintro e w3 ⟨rfl, hT, hb⟩; have n0_ := Aside0.mk (HB.out.trans hb); clear HB hb; have HB := n0_; clear n0_; clear HT; have HT := Aside0.mk hT; clear hT)
  go_loopw [11] (fun v wr => ∃ i : Nat, i ≤ ws.length ∧ i ≤ 50 ∧ v = .int .i64 i ∧ Aside0 (Below W.heap.size W wr) ∧ Aside0 (Tbl wr p g L1)) (fun v _ => ws.length - (intOf v).toNat)
  case atStart => exact ⟨0, by omega, by omega, rfl, HB, HT⟩
  case round =>
    clear HB HT
    obtain ⟨i, hi, h50, rfl, HB, HT⟩ := hrel
    by_cases hlt : i < ws.length
    · have hd : decide ((i : Int) < (ws.length : Int)) = true := decide_eq_true (by omega)
      by_cases h5 : i < 50
      · have hd5 : decide ((i : Int) < 50) = true := decide_eq_true (by omega)
        obtain ⟨ad, e, hx⟩ := Kd.at_int (Kd.C_below K0.out HB.out) (i : Int) (by omega) (by omega)
        cases e
        rw [Int.toNat_natCast] at hx
        have hy := hB.out i hlt
        generalize hgy : rd ws (i : Int) = y at hx hy
        have HGY := Aside0.mk hgy
        clear hgy
        have hi0 : (0 : Int) ≤ (i : Int) := by omega
        have hi1 : (i : Int) < (ws.length : Int) := by omega
        have A8 := take_at wr p g L1 5 L1 HT.out k y (E1.out y hy.1) W.heap.size HP.out HG.out
        by_cases hyw : y = who
        · have hd6 : (y != who) = false := by simp [hyw]
          clear hyw
          go_wp2_with (go_at_call 8; (with_reducible refine A8.mono ?_; rintro e w5 ⟨rfl, hT5, hb⟩; have n0_ := Aside0.mk (HB.out.trans hb); clear HB hb; have HB := n0_; clear n0_; clear HT; have HT := Aside0.mk hT5; clear hT5; obtain ⟨ad2, e2, hx2⟩ := Kd.at_int (Kd.C_below K0.out HB.out) (i : Int) (by omega) (by omega); cases e2; rw [Int.toNat_natCast, HGY.out] at hx2))
          refine ⟨⟨i + 1, by omega, by omega, by push_cast; rfl, HB, HT⟩, ?_⟩
          show ws.length - ((i : Int) + 1).toNat < ws.length - (i : Int).toNat
          omega
        · have hd6 : (y != who) = true := by simp [hyw]
          have HYW := Aside0.mk hyw
          clear hyw
          go_wp2_with (first
            | (go_at_call 8; (with_reducible refine A8.mono ?_; rintro e w5 ⟨rfl, hT5, hb⟩; have n0_ := Aside0.mk (HB.out.trans hb); clear HB hb; have HB := n0_; clear n0_; clear HT; have HT := Aside0.mk hT5; clear hT5; obtain ⟨ad2, e2, hx2⟩ := Kd.at_int (Kd.C_below K0.out HB.out) (i : Int) (by omega) (by omega); cases e2; rw [Int.toNat_natCast, HGY.out] at hx2))
            | (go_at_call 9; with_reducible refine (leave_at _ p g L1 6 L1 HT.out k y (E2.out y hy.1 HYW.out) W.heap.size HP.out HG.out).mono ?_; rintro e w6 ⟨rfl, hT6, hb⟩; have n0_ := Aside0.mk (HB.out.trans hb); clear HB hb; have HB := n0_; clear n0_; clear HT; have HT := Aside0.mk hT6; clear hT6))
          refine ⟨⟨i + 1, by omega, by omega, by push_cast; rfl, HB, HT⟩, ?_⟩
          show ws.length - ((i : Int) + 1).toNat < ws.length - (i : Int).toNat
          omega
      · have hd5 : decide ((i : Int) < 50) = false := decide_eq_false (by omega)
        go_wp2_with (first
          | (go_at_call 9; (with_reducible refine (leave_at _ p g L1 0 L2 HT.out k who E4.out W.heap.size HP.out HG.out).mono ?_; rintro e w7 ⟨rfl, hT7, hb⟩; have n0_ := Aside0.mk (HB.out.trans hb); clear HB hb; have HB := n0_; clear n0_))
          | (go_at_call 10; first | (with_reducible refine (owner_at _ p g L1 who HT.out k E3.out).mono ?_; rintro e w6 ⟨rfl, hn6⟩; have n0_ := Aside0.mk (show Below W.heap.size W w6 from by obtain ⟨n1, rfl⟩ := hn6; exact pw_below_drewN HB.out n1); have n1_ := Aside0.mk (show Tbl w6 p g L1 from by obtain ⟨n1, rfl⟩ := hn6; exact HT.out.drewN n1); clear HB HT hn6; have HB := n0_; have HT := n1_; clear n0_ n1_) | (with_reducible refine (owner_at _ p g L2 (-1) hT7 k E5.out).mono ?_; rintro e w8 ⟨rfl, n2, rfl⟩)))
        go_ret
        exact ⟨rfl, by repeat (first | exact HB.out | apply pw_below_drewN)⟩
    · have hd : decide ((i : Int) < (ws.length : Int)) = false := decide_eq_false (by omega)
      go_wp2_with (first
        | (go_at_call 9; (with_reducible refine (leave_at _ p g L1 0 L2 HT.out k who E4.out W.heap.size HP.out HG.out).mono ?_; rintro e w7 ⟨rfl, hT7, hb⟩; have n0_ := Aside0.mk (HB.out.trans hb); clear HB hb; have HB := n0_; clear n0_))
        | (go_at_call 10; first | (with_reducible refine (owner_at _ p g L1 who HT.out k E3.out).mono ?_; rintro e w6 ⟨rfl, hn6⟩; have n0_ := Aside0.mk (show Below W.heap.size W w6 from by obtain ⟨n1, rfl⟩ := hn6; exact pw_below_drewN HB.out n1); have n1_ := Aside0.mk (show Tbl w6 p g L1 from by obtain ⟨n1, rfl⟩ := hn6; exact HT.out.drewN n1); clear HB HT hn6; have HB := n0_; have HT := n1_; clear n0_ n1_) | (with_reducible refine (owner_at _ p g L2 (-1) hT7 k E5.out).mono ?_; rintro e w8 ⟨rfl, n2, rfl⟩)))
      go_ret
      exact ⟨rfl, by repeat (first | exact HB.out | apply pw_below_drewN)⟩
theorem rep_get (m i : Nat) (h : i < (List.replicate m (-1 : Int)).length) : (List.replicate m (-1 : Int)).getD i 0 = -1 := by
  rw [List.length_replicate] at h
  simp [h]
theorem set_get (L : List Int) (i : Nat) (v : Int) (h : i < L.length) : (L.set i v).getD i 0 = v := by simp [h]
theorem one_walk (n lock who : Int) (a0 : Option Addr) (len0 cap0 : Nat) (z0 : List Int) (W : World) (wn : (Lit.int .u8 n).wf = true) (wl : (Lit.int .u8 lock).wf = true) (ww : (Lit.int .u8 who).wf = true) (w0 : IsRow .u8 W a0 len0 cap0 z0) (y0 : len0 * 1 ≤ 140737488351232) :
    Calls Try.prog 3 #[.int .u8 n, .int .u8 lock, .int .u8 who, .slice a0 len0 cap0] W fun e w' => e = .returned (.bool true) ∧ Below W.heap.size W w' := by
  obtain ⟨ws, rfl, hr0, hm0, hw0, hc0⟩ := ReadsInt.ofRowC w0
  have k0 := Aside0.mk (Kd.C_of_reads (enc := Value.int .u8) (d := (0 : Int)) (h1 := fun _ => rfl) hr0)
  have hn := u8_wf wn
  have hl := u8_wf wl
  have hw := u8_wf ww
  have hm : 1 ≤ n % 16 + 1 ∧ n % 16 + 1 ≤ 16 := by omega
  have hk0 : 0 ≤ lock % (n % 16 + 1) := Int.emod_nonneg _ (by omega)
  have hk1 : lock % (n % 16 + 1) < n % 16 + 1 := Int.emod_lt_of_pos _ (by omega)
  generalize hM : n % 16 + 1 = m at hm hk0 hk1
  generalize hK : lock % m = k at hk0 hk1
  have hlen : (List.replicate m.toNat (-1 : Int)).length = m.toNat := List.length_replicate
  have hin : k.toNat < (List.replicate m.toNat (-1 : Int)).length := by omega
  refine one_at n lock who m k hn hl hw (Aside0.mk hM.symm) (Aside0.mk hK.symm) _ ((List.replicate m.toNat (-1)).set k.toNat who) (((List.replicate m.toNat (-1)).set k.toNat who).set k.toNat (-1)) (Aside0.mk rfl) (Aside0.mk ?_) (Aside0.mk fun o ho => ?_) (Aside0.mk fun o ho hne => ?_) (Aside0.mk ?_) (Aside0.mk ?_) (Aside0.mk ?_) a0 cap0 ws W k0 (Aside0.mk fun i hi => ?_) (by omega)
  · unfold takeR
    rw [if_pos ⟨hk0, by omega, hw.1⟩, if_pos (rep_get _ _ hin)]
  · unfold takeR
    rw [if_pos ⟨hk0, by simp; omega, ho⟩, set_get _ _ _ hin, if_neg (by omega)]
  · unfold leaveR
    rw [if_pos ⟨hk0, by simp; omega, ho⟩, set_get _ _ _ hin, if_neg (fun e => hne e.symm)]
  · unfold ownerV
    rw [if_pos ⟨hk0, by simp; omega⟩, set_get _ _ _ hin]
  · unfold leaveR
    rw [if_pos ⟨hk0, by simp; omega, hw.1⟩, set_get _ _ _ hin, if_pos rfl]
  · unfold ownerV
    rw [if_pos ⟨hk0, by simp; omega⟩, set_get _ _ _ (by simp; omega)]
  · have h3 := u8_wf (hw0 (rd ws (i : Int)) (by unfold rd; simp [hi]))
    exact h3
end Go.Proofs.Ytpefbnhicfflpaa.Lk
