/- PmemKeeps' walk. No condition beyond what the row gives. -/
import Derived.Test.YtpefbnhicfflpaaPm17
namespace Go.Proofs.Ytpefbnhicfflpaa.Pm
open Go.RowKit Go.Maps Go.ChangeMaps Go.MapKept Go.Proofs.YtpefbnhicfflpaaW.PrintWords Go.Proofs.YtpefbnhicfflpaaW.PrintLast Go.Proofs.YtpefbnhicfflpaaW.PrintMore
set_option linter.unusedSimpArgs false
set_option linter.unusedVariables false
structure OpV where
  (kd a x : Int)
  A : Option Addr
  (m c : Nat)
instance : Inhabited OpV := ⟨⟨0, 0, 0, none, 0, 0⟩⟩
/-- A list of operations that lies in memory ahead of block B. -/
def OL (W : World) (B : Nat) (a : Option Addr) (len : Nat) (F : Nat → OpV) : Prop := ∀ i, i < len → ∃ y, a = some y ∧ y.block < B ∧ W.cell? ((y.add (i * 4)).add 0) = some (.int .u8 (F i).kd) ∧ W.cell? ((y.add (i * 4)).add 1) = some (.int .i64 (F i).a) ∧ W.cell? ((y.add (i * 4)).add 2) = some (.int .u64 (F i).x) ∧ W.cell? ((y.add (i * 4)).add 3) = some (.slice (F i).A (F i).m (F i).c) ∧ 0 ≤ (F i).kd ∧ PL W B (F i).A (F i).m
theorem OL.kept {W W' : World} {B : Nat} {a : Option Addr} {len : Nat} {F : Nat → OpV} (h : OL W B a len F) (hb : ∀ k, k < B → W'.heap[k]? = W.heap[k]?) : OL W' B a len F := fun i hi => by
  obtain ⟨y, h1, h2, h3, h4, h5, h6, h7, h8⟩ := h i hi
  have hk : ∀ j, W'.cell? ((y.add (i * 4)).add j) = W.cell? ((y.add (i * 4)).add j) := fun j => World.cell?_of_block (hb _ (by rw [add_block, add_block]; exact h2))
  exact ⟨y, h1, h2, (hk 0).trans h3, (hk 1).trans h4, (hk 2).trans h5, (hk 3).trans h6, h7, h8.kept hb⟩
set_option maxHeartbeats 8000000 in
set_option maxRecDepth 100000 in
theorem keeps_at (W : World) (a1 : Option Addr) (len1 cap1 : Nat) (F1 : Nat → OpV) (OL1 : Aside0 (OL W W.heap.size a1 len1 F1)) (u x : Int) (hu : 0 ≤ u ∧ u < 256) (t : Nat) (HT : Aside0 (u % 64 = t)) (a2 : Option Addr) (len2 cap2 : Nat) (F2 : Nat → OpV) (OL2 : Aside0 (OL W W.heap.size a2 len2 F2)) (A : Option Addr) (m c : Nat) (PL0 : Aside0 (PL W W.heap.size A m)) (hlen1 : len1 ≤ 9223372036854775807) (hlen2 : len2 ≤ 9223372036854775807) :
    Calls Try.prog 5 #[.slice a1 len1 cap1, .int .u8 u, .int .u64 x, .slice a2 len2 cap2, .slice A m c] W fun e w' => e = .returned (.bool true) ∧ Below W.heap.size W w' := by
  go_enter Try.func5, Try.ntmps5
  go_wp2_with (first
    | (go_at_call 11; refine (alive_calls W).mono ?_; rintro e w1 ⟨rfl, hb⟩; have HB1 := Aside0.mk hb; clear hb)
    | (go_at_call 12; refine (new_St _ 64 (Or.inr rfl)).mono ?_; rintro e w2 ⟨⟨p, rfl, h2⟩, b2⟩; have HS0 := Aside0.mk (show St w2 W.heap.size p 64 _ _ _ 0 from let ⟨g1, g2, g3, g4, g5, g6, l1, l2, l3, l4⟩ := h2; ⟨g1, g2, g3, g4, g5, g6, by have := HB1.out.size; omega, by have := HB1.out.size; omega, by have := HB1.out.size; omega, by have := HB1.out.size; omega⟩); have HB0 := Aside0.mk (HB1.out.trans (b2.mono HB1.out.size)); clear h2 b2))
  go_loopw [12] (fun v wr => ∃ (i n : Nat) (S K : List Int) (D : DataW Unit), i ≤ len1 ∧ i ≤ 40 ∧ v = .int .i64 (i : Int) ∧ n ≤ i ∧ Aside0 (St wr W.heap.size p 64 S K D n) ∧ Aside0 (WFD 64 D) ∧ Aside0 (Below W.heap.size W wr)) (fun v _ => len1 - (intOf v).toNat)
  case atStart => exact ⟨0, 0, _, _, _, by omega, by omega, rfl, by omega, HS0, Aside0.mk (wfd_nil 64), HB0⟩
  case round =>
    clear HS0 HB0
    obtain ⟨i, n, S, K, D, hi, h40, rfl, hn, HS, HD, HB⟩ := hrel
    by_cases hgo : i < len1 ∧ i < 40
    · have hd : decide ((i : Int) < (len1 : Int)) = true := decide_eq_true (by omega)
      have hd5 : decide ((i : Int) < 40) = true := decide_eq_true (by omega)
      obtain ⟨y, e, hyb, hy0, hy1, hy2, hy3, hkd, hpl⟩ := (OL1.out.kept (fun k hk => HB.out.block k hk)) i hgo.1
      subst e
      obtain ⟨kd, hkd_⟩ : ∃ kd, kd = (F1 i).kd := ⟨_, rfl⟩
      obtain ⟨oa, hoa_⟩ : ∃ a, a = (F1 i).a := ⟨_, rfl⟩
      obtain ⟨ox, hox_⟩ : ∃ x, x = (F1 i).x := ⟨_, rfl⟩
      obtain ⟨oA, hoA_⟩ : ∃ A, A = (F1 i).A := ⟨_, rfl⟩
      obtain ⟨om, hom_⟩ : ∃ m, m = (F1 i).m := ⟨_, rfl⟩
      obtain ⟨oc, hoc_⟩ : ∃ c, c = (F1 i).c := ⟨_, rfl⟩
      rw [← hkd_] at hy0 hkd
      have hz0 : wr.cell? (y.add (i * 4)) = some (.int .u8 kd) := (congrArg _ (by unfold Addr.add; split <;> rfl)).trans hy0
      rw [← hoa_] at hy1
      rw [← hox_] at hy2
      rw [← hoA_, ← hom_, ← hoc_] at hy3
      rw [← hoA_, ← hom_] at hpl
      have hz1 : wr.cell? { block := (y.add (i * 4)).block, off := (y.add (i * 4)).off + 1 } = some (.int .i64 oa) := hy1
      have hz2 : wr.cell? { block := (y.add (i * 4)).block, off := (y.add (i * 4)).off + 2 } = some (.int .u64 ox) := hy2
      have hz3 : wr.cell? { block := (y.add (i * 4)).block, off := (y.add (i * 4)).off + 3 } = some (.slice oA om oc) := hy3
      clear hy0 hy1 hy2 hy3
      clear hkd_ hoa_ hox_ hoA_ hom_ hoc_
      have HPL := Aside0.mk hpl
      clear hpl
      have hi0 : (0 : Int) ≤ (i : Int) := by omega
      have hi1 : (i : Int) < (len1 : Int) := by omega
      go_wp2_with ((go_at_call 13; refine (do_calls _ HS.out HD.out (by decide) (by decide) (by decide) (by omega) HPL.out kd oa ox hkd).mono ?_; rintro e w3 ⟨⟨v3, rfl⟩, S', K', D', n', hS3, hn3, hD3, _, hb3⟩; have HS3 := Aside0.mk hS3; have HD3 := Aside0.mk hD3; have HB3 := Aside0.mk (HB.out.trans hb3); clear hS3 hD3 hb3))
      refine ⟨⟨i + 1, n', S', K', D', by omega, by omega, by push_cast; rfl, by omega, HS3, HD3, HB3⟩, ?_⟩
      show len1 - ((i : Int) + 1).toNat < len1 - (i : Int).toNat
      omega
    · have hul : 0 ≤ u := hu.1
      by_cases hlt : i < len1
      · have hd : decide ((i : Int) < (len1 : Int)) = true := decide_eq_true (by omega)
        have hd5 : decide ((i : Int) < 40) = false := decide_eq_false (by omega)
        go_upto_region 11 with fail
        rw [HT.out]
        have ht64 : t < 64 := by have := HT.out; omega
        go_wp2_with (first
          | (go_at_call 14; refine (store_ex _ HS.out t x ht64).mono ?_; rintro e w3 ⟨⟨v3, rfl⟩, ⟨S3, h3, hs3⟩, b3⟩; have HS3 := Aside0.mk h3; have HX3 := Aside0.mk hs3; have HB3 := Aside0.mk (HB.out.trans b3); clear h3 hs3 b3)
          | (go_at_call 15; refine (flush_ex _ HS3.out HD.out (by decide) (by decide) (by omega) t ht64).mono ?_; rintro e w4 ⟨⟨v4, rfl⟩, ⟨D4, h4, hd4, hp4⟩, b4⟩; have HS4 := Aside0.mk h4; have HD4 := Aside0.mk hd4; have HP4 := Aside0.mk hp4; have HB4 := Aside0.mk (HB3.out.trans b4); clear h4 hd4 hp4 b4)
          | (go_at_call 16; refine (step_fence _ HS4.out HD4.out (by decide) (by decide)).mono ?_; rintro e w5 ⟨⟨v5, rfl⟩, K5, h5, hK5, b5⟩; have HS5 := Aside0.mk h5; have HK5 := Aside0.mk (show Keep S3 K5 (.map []) t x from ⟨HX3.out, (hK5 t ht64).trans (by rw [HP4.out]; exact HX3.out), Or.inl (pend_nil t)⟩); have HB5 := Aside0.mk (HB4.out.trans b5); clear h5 hK5 b5))
        go_loopw [14] (fun v wr => ∃ (i n : Nat) (S K : List Int) (D : DataW Unit), i ≤ len2 ∧ i ≤ 40 ∧ v = .int .i64 (i : Int) ∧ n ≤ i ∧ Aside0 (St wr W.heap.size p 64 S K D n) ∧ Aside0 (WFD 64 D) ∧ Aside0 (Below W.heap.size W wr) ∧ Aside0 (Keep S K D t x)) (fun v _ => len2 - (intOf v).toNat)
        case atStart => exact ⟨0, 0, _, _, _, by omega, by omega, rfl, by omega, HS5, Aside0.mk (wfd_nil 64), HB5, HK5⟩
        case round =>
          clear HS HD HB HS3 HX3 HB3 HS4 HD4 HP4 HB4 HS5 HK5 HB5
          clear hi h40 hn hgo
          obtain ⟨i, n, S, K, D, hi, h40, rfl, hn, HS, HD, HB, HK⟩ := hrel
          by_cases hgo : i < len2 ∧ i < 40
          · have hd : decide ((i : Int) < (len2 : Int)) = true := decide_eq_true (by omega)
            have hd5 : decide ((i : Int) < 40) = true := decide_eq_true (by omega)
            obtain ⟨y, e, hyb, hy0, hy1, hy2, hy3, hkd, hpl⟩ := (OL2.out.kept (fun k hk => HB.out.block k hk)) i hgo.1
            subst e
            obtain ⟨kd, hkd_⟩ : ∃ kd, kd = (F2 i).kd := ⟨_, rfl⟩
            obtain ⟨oa, hoa_⟩ : ∃ a, a = (F2 i).a := ⟨_, rfl⟩
            obtain ⟨ox, hox_⟩ : ∃ x, x = (F2 i).x := ⟨_, rfl⟩
            obtain ⟨oA, hoA_⟩ : ∃ A, A = (F2 i).A := ⟨_, rfl⟩
            obtain ⟨om, hom_⟩ : ∃ m, m = (F2 i).m := ⟨_, rfl⟩
            obtain ⟨oc, hoc_⟩ : ∃ c, c = (F2 i).c := ⟨_, rfl⟩
            rw [← hkd_] at hy0 hkd
            have hz0 : wr.cell? (y.add (i * 4)) = some (.int .u8 kd) := (congrArg _ (by unfold Addr.add; split <;> rfl)).trans hy0
            rw [← hoa_] at hy1
            rw [← hox_] at hy2
            rw [← hoA_, ← hom_, ← hoc_] at hy3
            rw [← hoA_, ← hom_] at hpl
            have hz1 : wr.cell? { block := (y.add (i * 4)).block, off := (y.add (i * 4)).off + 1 } = some (.int .i64 oa) := hy1
            have hz2 : wr.cell? { block := (y.add (i * 4)).block, off := (y.add (i * 4)).off + 2 } = some (.int .u64 ox) := hy2
            have hz3 : wr.cell? { block := (y.add (i * 4)).block, off := (y.add (i * 4)).off + 3 } = some (.slice oA om oc) := hy3
            clear hy0 hy1 hy2 hy3
            clear hkd_ hoa_ hox_ hoA_ hom_ hoc_
            have HPL := Aside0.mk hpl
            clear hpl
            have hi0 : (0 : Int) ≤ (i : Int) := by omega
            have hi1 : (i : Int) < (len2 : Int) := by omega
            by_cases hne : oa = (t : Int)
            · have hq : (oa != (t : Int)) = false := by rw [hne]; simp
              clear hne
              by_cases hk2 : kd % 8 > 2
              · have hq2 : decide (kd % 8 > 2) = true := decide_eq_true hk2
                have HOK : Aside0 (kd % 8 > 2 ∨ (t : Int) ≠ oa) := Aside0.mk (Or.inl hk2)
                clear hk2
                go_upto_region 18 with fail
                go_wp2_with (go_at_call 13; refine (do_calls _ HS.out HD.out (by decide) (by decide) (by decide) (by omega) HPL.out kd oa ox hkd).mono ?_; rintro e w3 ⟨⟨v3, rfl⟩, S', K', D', n', hS3, hn3, hD3, hk3, hb3⟩; have HS3 := Aside0.mk hS3; have HD3 := Aside0.mk hD3; have HB3 := Aside0.mk (HB.out.trans hb3); have HK3 := Aside0.mk (hk3 t x ht64 HOK.out HK.out); clear hS3 hD3 hb3 hk3)
                refine ⟨⟨i + 1, n', S', K', D', by omega, by omega, by push_cast; rfl, by omega, HS3, HD3, HB3, HK3⟩, ?_⟩
                show len2 - ((i : Int) + 1).toNat < len2 - (i : Int).toNat
                omega
              · have hq2 : decide (kd % 8 > 2) = false := decide_eq_false hk2
                clear hk2
                go_wp2
                refine ⟨⟨i + 1, n, S, K, D, by omega, by omega, by push_cast; rfl, by omega, HS, HD, HB, HK⟩, ?_⟩
                show len2 - ((i : Int) + 1).toNat < len2 - (i : Int).toNat
                omega
            · have hq : (oa != (t : Int)) = true := by simp; exact hne
              have HOK : Aside0 (kd % 8 > 2 ∨ (t : Int) ≠ oa) := Aside0.mk (Or.inr (fun e => hne e.symm))
              clear hne
              go_upto_region 18 with fail
              go_wp2_with (go_at_call 13; refine (do_calls _ HS.out HD.out (by decide) (by decide) (by decide) (by omega) HPL.out kd oa ox hkd).mono ?_; rintro e w3 ⟨⟨v3, rfl⟩, S', K', D', n', hS3, hn3, hD3, hk3, hb3⟩; have HS3 := Aside0.mk hS3; have HD3 := Aside0.mk hD3; have HB3 := Aside0.mk (HB.out.trans hb3); have HK3 := Aside0.mk (hk3 t x ht64 HOK.out HK.out); clear hS3 hD3 hb3 hk3)
              refine ⟨⟨i + 1, n', S', K', D', by omega, by omega, by push_cast; rfl, by omega, HS3, HD3, HB3, HK3⟩, ?_⟩
              show len2 - ((i : Int) + 1).toNat < len2 - (i : Int).toNat
              omega
          · by_cases hlt2 : i < len2
            · have hd : decide ((i : Int) < (len2 : Int)) = true := decide_eq_true (by omega)
              have hd5 : decide ((i : Int) < 40) = false := decide_eq_false (by omega)
              go_wp2_with (first
                | (go_at_call 18; refine (picks_calls _ (PL0.out.kept (fun q hq => HB.out.block q hq)) HB.out.size).mono ?_; rintro e w4 ⟨bc, bl, rfl, hPk, hb4, hbc, hbl⟩; have PK := Aside0.mk hPk; have HB4 := Aside0.mk hb4; clear hPk hb4)
                | (go_at_call 17; refine (step_crash _ (by decide) (by decide) (by decide) PK.out _ HS.out hbc hbl HB4.out).mono ?_; rintro e w5 ⟨⟨v, rfl⟩, K5, hS5, _, hK5, hB5⟩; have HS5 := Aside0.mk hS5; have HX5 := Aside0.mk ((keep_crash HK.out (hK5 t ht64)).s); have HB5 := Aside0.mk ((HB.out.trans (HB4.out.mono HB.out.size)).trans hB5); clear hS5 hK5 hB5)
                | (go_at_call 19; refine (load_ex _ HS5.out t x ht64 HX5.out).mono ?_; rintro e w6 ⟨rfl, hS6, hB6⟩; have HB6 := Aside0.mk (HB5.out.trans hB6); clear hS6 hB6))
              go_ret
              exact ⟨rfl, HB6.out⟩
            · have hd : decide ((i : Int) < (len2 : Int)) = false := decide_eq_false (by omega)
              go_wp2_with (first
                | (go_at_call 18; refine (picks_calls _ (PL0.out.kept (fun q hq => HB.out.block q hq)) HB.out.size).mono ?_; rintro e w4 ⟨bc, bl, rfl, hPk, hb4, hbc, hbl⟩; have PK := Aside0.mk hPk; have HB4 := Aside0.mk hb4; clear hPk hb4)
                | (go_at_call 17; refine (step_crash _ (by decide) (by decide) (by decide) PK.out _ HS.out hbc hbl HB4.out).mono ?_; rintro e w5 ⟨⟨v, rfl⟩, K5, hS5, _, hK5, hB5⟩; have HS5 := Aside0.mk hS5; have HX5 := Aside0.mk ((keep_crash HK.out (hK5 t ht64)).s); have HB5 := Aside0.mk ((HB.out.trans (HB4.out.mono HB.out.size)).trans hB5); clear hS5 hK5 hB5)
                | (go_at_call 19; refine (load_ex _ HS5.out t x ht64 HX5.out).mono ?_; rintro e w6 ⟨rfl, hS6, hB6⟩; have HB6 := Aside0.mk (HB5.out.trans hB6); clear hS6 hB6))
              go_ret
              exact ⟨rfl, HB6.out⟩
      · have hd : decide ((i : Int) < (len1 : Int)) = false := decide_eq_false (by omega)
        go_upto_region 11 with fail
        rw [HT.out]
        have ht64 : t < 64 := by have := HT.out; omega
        go_wp2_with (first
          | (go_at_call 14; refine (store_ex _ HS.out t x ht64).mono ?_; rintro e w3 ⟨⟨v3, rfl⟩, ⟨S3, h3, hs3⟩, b3⟩; have HS3 := Aside0.mk h3; have HX3 := Aside0.mk hs3; have HB3 := Aside0.mk (HB.out.trans b3); clear h3 hs3 b3)
          | (go_at_call 15; refine (flush_ex _ HS3.out HD.out (by decide) (by decide) (by omega) t ht64).mono ?_; rintro e w4 ⟨⟨v4, rfl⟩, ⟨D4, h4, hd4, hp4⟩, b4⟩; have HS4 := Aside0.mk h4; have HD4 := Aside0.mk hd4; have HP4 := Aside0.mk hp4; have HB4 := Aside0.mk (HB3.out.trans b4); clear h4 hd4 hp4 b4)
          | (go_at_call 16; refine (step_fence _ HS4.out HD4.out (by decide) (by decide)).mono ?_; rintro e w5 ⟨⟨v5, rfl⟩, K5, h5, hK5, b5⟩; have HS5 := Aside0.mk h5; have HK5 := Aside0.mk (show Keep S3 K5 (.map []) t x from ⟨HX3.out, (hK5 t ht64).trans (by rw [HP4.out]; exact HX3.out), Or.inl (pend_nil t)⟩); have HB5 := Aside0.mk (HB4.out.trans b5); clear h5 hK5 b5))
        go_loopw [14] (fun v wr => ∃ (i n : Nat) (S K : List Int) (D : DataW Unit), i ≤ len2 ∧ i ≤ 40 ∧ v = .int .i64 (i : Int) ∧ n ≤ i ∧ Aside0 (St wr W.heap.size p 64 S K D n) ∧ Aside0 (WFD 64 D) ∧ Aside0 (Below W.heap.size W wr) ∧ Aside0 (Keep S K D t x)) (fun v _ => len2 - (intOf v).toNat)
        case atStart => exact ⟨0, 0, _, _, _, by omega, by omega, rfl, by omega, HS5, Aside0.mk (wfd_nil 64), HB5, HK5⟩
        case round =>
          clear HS HD HB HS3 HX3 HB3 HS4 HD4 HP4 HB4 HS5 HK5 HB5
          clear hi h40 hn hgo
          obtain ⟨i, n, S, K, D, hi, h40, rfl, hn, HS, HD, HB, HK⟩ := hrel
          by_cases hgo : i < len2 ∧ i < 40
          · have hd : decide ((i : Int) < (len2 : Int)) = true := decide_eq_true (by omega)
            have hd5 : decide ((i : Int) < 40) = true := decide_eq_true (by omega)
            obtain ⟨y, e, hyb, hy0, hy1, hy2, hy3, hkd, hpl⟩ := (OL2.out.kept (fun k hk => HB.out.block k hk)) i hgo.1
            subst e
            obtain ⟨kd, hkd_⟩ : ∃ kd, kd = (F2 i).kd := ⟨_, rfl⟩
            obtain ⟨oa, hoa_⟩ : ∃ a, a = (F2 i).a := ⟨_, rfl⟩
            obtain ⟨ox, hox_⟩ : ∃ x, x = (F2 i).x := ⟨_, rfl⟩
            obtain ⟨oA, hoA_⟩ : ∃ A, A = (F2 i).A := ⟨_, rfl⟩
            obtain ⟨om, hom_⟩ : ∃ m, m = (F2 i).m := ⟨_, rfl⟩
            obtain ⟨oc, hoc_⟩ : ∃ c, c = (F2 i).c := ⟨_, rfl⟩
            rw [← hkd_] at hy0 hkd
            have hz0 : wr.cell? (y.add (i * 4)) = some (.int .u8 kd) := (congrArg _ (by unfold Addr.add; split <;> rfl)).trans hy0
            rw [← hoa_] at hy1
            rw [← hox_] at hy2
            rw [← hoA_, ← hom_, ← hoc_] at hy3
            rw [← hoA_, ← hom_] at hpl
            have hz1 : wr.cell? { block := (y.add (i * 4)).block, off := (y.add (i * 4)).off + 1 } = some (.int .i64 oa) := hy1
            have hz2 : wr.cell? { block := (y.add (i * 4)).block, off := (y.add (i * 4)).off + 2 } = some (.int .u64 ox) := hy2
            have hz3 : wr.cell? { block := (y.add (i * 4)).block, off := (y.add (i * 4)).off + 3 } = some (.slice oA om oc) := hy3
            clear hy0 hy1 hy2 hy3
            clear hkd_ hoa_ hox_ hoA_ hom_ hoc_
            have HPL := Aside0.mk hpl
            clear hpl
            have hi0 : (0 : Int) ≤ (i : Int) := by omega
            have hi1 : (i : Int) < (len2 : Int) := by omega
            by_cases hne : oa = (t : Int)
            · have hq : (oa != (t : Int)) = false := by rw [hne]; simp
              clear hne
              by_cases hk2 : kd % 8 > 2
              · have hq2 : decide (kd % 8 > 2) = true := decide_eq_true hk2
                have HOK : Aside0 (kd % 8 > 2 ∨ (t : Int) ≠ oa) := Aside0.mk (Or.inl hk2)
                clear hk2
                go_upto_region 18 with fail
                go_wp2_with (go_at_call 13; refine (do_calls _ HS.out HD.out (by decide) (by decide) (by decide) (by omega) HPL.out kd oa ox hkd).mono ?_; rintro e w3 ⟨⟨v3, rfl⟩, S', K', D', n', hS3, hn3, hD3, hk3, hb3⟩; have HS3 := Aside0.mk hS3; have HD3 := Aside0.mk hD3; have HB3 := Aside0.mk (HB.out.trans hb3); have HK3 := Aside0.mk (hk3 t x ht64 HOK.out HK.out); clear hS3 hD3 hb3 hk3)
                refine ⟨⟨i + 1, n', S', K', D', by omega, by omega, by push_cast; rfl, by omega, HS3, HD3, HB3, HK3⟩, ?_⟩
                show len2 - ((i : Int) + 1).toNat < len2 - (i : Int).toNat
                omega
              · have hq2 : decide (kd % 8 > 2) = false := decide_eq_false hk2
                clear hk2
                go_wp2
                refine ⟨⟨i + 1, n, S, K, D, by omega, by omega, by push_cast; rfl, by omega, HS, HD, HB, HK⟩, ?_⟩
                show len2 - ((i : Int) + 1).toNat < len2 - (i : Int).toNat
                omega
            · have hq : (oa != (t : Int)) = true := by simp; exact hne
              have HOK : Aside0 (kd % 8 > 2 ∨ (t : Int) ≠ oa) := Aside0.mk (Or.inr (fun e => hne e.symm))
              clear hne
              go_upto_region 18 with fail
              go_wp2_with (go_at_call 13; refine (do_calls _ HS.out HD.out (by decide) (by decide) (by decide) (by omega) HPL.out kd oa ox hkd).mono ?_; rintro e w3 ⟨⟨v3, rfl⟩, S', K', D', n', hS3, hn3, hD3, hk3, hb3⟩; have HS3 := Aside0.mk hS3; have HD3 := Aside0.mk hD3; have HB3 := Aside0.mk (HB.out.trans hb3); have HK3 := Aside0.mk (hk3 t x ht64 HOK.out HK.out); clear hS3 hD3 hb3 hk3)
              refine ⟨⟨i + 1, n', S', K', D', by omega, by omega, by push_cast; rfl, by omega, HS3, HD3, HB3, HK3⟩, ?_⟩
              show len2 - ((i : Int) + 1).toNat < len2 - (i : Int).toNat
              omega
          · by_cases hlt2 : i < len2
            · have hd : decide ((i : Int) < (len2 : Int)) = true := decide_eq_true (by omega)
              have hd5 : decide ((i : Int) < 40) = false := decide_eq_false (by omega)
              go_wp2_with (first
                | (go_at_call 18; refine (picks_calls _ (PL0.out.kept (fun q hq => HB.out.block q hq)) HB.out.size).mono ?_; rintro e w4 ⟨bc, bl, rfl, hPk, hb4, hbc, hbl⟩; have PK := Aside0.mk hPk; have HB4 := Aside0.mk hb4; clear hPk hb4)
                | (go_at_call 17; refine (step_crash _ (by decide) (by decide) (by decide) PK.out _ HS.out hbc hbl HB4.out).mono ?_; rintro e w5 ⟨⟨v, rfl⟩, K5, hS5, _, hK5, hB5⟩; have HS5 := Aside0.mk hS5; have HX5 := Aside0.mk ((keep_crash HK.out (hK5 t ht64)).s); have HB5 := Aside0.mk ((HB.out.trans (HB4.out.mono HB.out.size)).trans hB5); clear hS5 hK5 hB5)
                | (go_at_call 19; refine (load_ex _ HS5.out t x ht64 HX5.out).mono ?_; rintro e w6 ⟨rfl, hS6, hB6⟩; have HB6 := Aside0.mk (HB5.out.trans hB6); clear hS6 hB6))
              go_ret
              exact ⟨rfl, HB6.out⟩
            · have hd : decide ((i : Int) < (len2 : Int)) = false := decide_eq_false (by omega)
              go_wp2_with (first
                | (go_at_call 18; refine (picks_calls _ (PL0.out.kept (fun q hq => HB.out.block q hq)) HB.out.size).mono ?_; rintro e w4 ⟨bc, bl, rfl, hPk, hb4, hbc, hbl⟩; have PK := Aside0.mk hPk; have HB4 := Aside0.mk hb4; clear hPk hb4)
                | (go_at_call 17; refine (step_crash _ (by decide) (by decide) (by decide) PK.out _ HS.out hbc hbl HB4.out).mono ?_; rintro e w5 ⟨⟨v, rfl⟩, K5, hS5, _, hK5, hB5⟩; have HS5 := Aside0.mk hS5; have HX5 := Aside0.mk ((keep_crash HK.out (hK5 t ht64)).s); have HB5 := Aside0.mk ((HB.out.trans (HB4.out.mono HB.out.size)).trans hB5); clear hS5 hK5 hB5)
                | (go_at_call 19; refine (load_ex _ HS5.out t x ht64 HX5.out).mono ?_; rintro e w6 ⟨rfl, hS6, hB6⟩; have HB6 := Aside0.mk (HB5.out.trans hB6); clear hS6 hB6))
              go_ret
              exact ⟨rfl, HB6.out⟩
end Go.Proofs.Ytpefbnhicfflpaa.Pm
