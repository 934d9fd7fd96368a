/- TextsPack, the parts. -/
import Derived.Test.YtbdedbhafciilaaPTextsPackx2
import Derived.Handy
import Derived.Lib.Hide
import Derived.StillTailTactics
namespace Go.Proofs.Ytbdedbhafciilaa.Tp
open Go.RowKit Go.Proofs.YtbdedbhafciilaaW.PrintWords Go.Proofs.YtbdedbhafciilaaW.PrintLast Go.Proofs.YtbdedbhafciilaaW.PrintMore Go.Proofs.Ytbdedbhafciilaa.PTextsPack
set_option linter.unusedVariables false

/-- One word with a byte more. -/
def orIn (x c : Int) (i : Nat) : Int := bits BinOp.or IntKind.u64 x (IntKind.u64.wrap (c * 2 ^ (8 * (i % 8))))
def packStep (out : List Int) (i : Nat) (c : Int) : List Int := out.set (1 + i / 8) (orIn (out.getD (1 + i / 8) 0) c i)
def packTo (bs : List Int) : Nat → List Int
  | 0 => (bs.length : Int) :: List.replicate ((bs.length + 7) / 8) 0
  | i + 1 => packStep (packTo bs i) i (bs.getD i 0)
def packL (bs : List Int) : List Int := packTo bs bs.length
theorem packTo_length (bs : List Int) : ∀ i, (packTo bs i).length = 1 + (bs.length + 7) / 8
  | 0 => by simp [packTo]; omega
  | i + 1 => by simp [packTo, packStep, packTo_length bs i]

/-- A store into a row of whole numbers of the call's own, and what it holds; the length under a name. -/
theorem row_at {k : IntKind} {e base g n cap : Nat} {ok : Nat → Prop} {W : World} {xs : List Int} (hn : xs.length = n) (h : Kd.R (Kd.int k) e W base ok (.slice (some ⟨g, 0, none⟩) n cap) xs) (i : Nat) (hi : i < n) :
    W.cell? ⟨g, i, none⟩ = some (.int k (xs.getD i 0)) ∧ W.frozen? ⟨g, i, none⟩ = false := by
  subst hn
  have := Kd.R_cell (d := (0 : Int)) h (i : Int) (by omega) (by omega)
  simpa [rdOf] using this
theorem row_put {k : IntKind} {e base g n cap : Nat} {ok : Nat → Prop} {W : World} {xs : List Int} (hn : xs.length = n) (h : Kd.R (Kd.int k) e W base ok (.slice (some ⟨g, 0, none⟩) n cap) xs) (i : Nat) (x : Int) :
    Kd.R (Kd.int k) e (W.setCell ⟨g, i, none⟩ (.int k x)) base ok (.slice (some ⟨g, 0, none⟩) n cap) (xs.set i x) := by
  subst hn
  have := (Kd.R_put (h1 := fun _ => rfl) h (i : Int) x).1
  rw [Int.toNat_natCast] at this
  exact this

set_option maxHeartbeats 400000 in
theorem put_calls (w : World) (B g n cap i : Nat) (c x : Int) (hB : w.cell? ⟨B, 0, none⟩ = some (.slice (some ⟨g, 0, none⟩) n cap)) (hg : w.cell? ⟨g, 1 + i / 8, none⟩ = some (.int .u64 x)) (hf : w.frozen? ⟨g, 1 + i / 8, none⟩ = false)
    (hi : 1 + i / 8 < n) (hn : n ≤ 1000) (h0 : 0 ≤ c) (h1 : c ≤ 255) :
    Calls Try.prog 23 #[.int .i64 i, .int .u8 c, .pointer (some ⟨B, 0, none⟩)] w fun e w' => e = .returned (.tuple #[]) ∧ w' = (w.setCell ⟨g, 1 + i / 8, none⟩ (.int .u64 (orIn x c i))).drew := by
  go_enter Try.func23, Try.ntmps23
  go_region
  all_goals (go_end0; exact ⟨rfl, rfl⟩)

set_option maxHeartbeats 400000 in
theorem pack_calls (A0 : Option Addr) (c0 : Nat) (l0 : List Int) (w : World) (hr0 : Kd.C (Kd.int .u8) w A0 l0.length l0) (hc0 : l0.length ≤ c0) (hlen : l0.length ≤ 2400) (hby : ∀ i, i < l0.length → 0 ≤ l0.getD i 0 ∧ l0.getD i 0 ≤ 255) :
    Calls Try.prog 17 #[.slice A0 l0.length c0] w fun e w' => ∃ v, e = .returned v ∧ Kd.R (Kd.int .u64) 39 w' w.heap.size (fun _ => True) v (packL l0) ∧ Below w.heap.size w w' := by
  have HR0 := Aside0.mk hr0
  have HBY := Aside0.mk hby
  clear hr0 hby
  go_enter Try.func17, Try.ntmps17
  go_wp2_with ((with_reducible refine gate_dst (N := 13) rfl ?_); refine Kd.R_make (Kd.int .u64) (w0 := w) w.heap.size 39 rfl (N := 13) rfl 30 (.tmp 12) (.tmp 12) rfl _ rfl rfl Try.underlying30 (.int .u64 0) 8 info39 rfl (by decide) (by omega) (0 : Int) (ok := fun _ => True) (okp := fun _ => False) rfl (fun _ h => h.elim) trivial ?h0 ?hl ?hB ?hs ?_; (case h0 => omega); (case hl => omega); (case hB => exact Below.refl _ _); (case hs => exact Nat.le_refl _); intro v1 w1 ho hb hg hat; clear hg hat; rw [show (1 + ((l0.length : Int) + 8 - 1) / 8).toNat = (l0.length + 7) / 8 + 1 from by omega] at ho; obtain ⟨g, cap, rfl, hgb, hgl, _⟩ := Kd.R_form ho (by simp); rw [List.length_replicate] at ho ⊢; have HO := Aside0.mk ho; have HB := Aside0.mk hb; have hf1 := (row_at (by simp) ho 0 (by omega)).2; have hc1 := (row_at (by simp) ho 0 (by omega)).1; clear ho hb)
  have HO0 := Aside0.mk (Kd.R_alloc (row_put (by simp) HO.out 0 (l0.length : Int)) (.cells #[.slice (some ⟨g, 0, none⟩) ((l0.length + 7) / 8 + 1) cap] 30))
  have HB0 := Aside0.mk (below_alloc (HB.out.setCell (p := ⟨g, 0, none⟩) hgb (.int .u64 (l0.length : Int))) (.cells #[.slice (some ⟨g, 0, none⟩) ((l0.length + 7) / 8 + 1) cap] 30))
  have hBs : w.heap.size ≤ w1.heap.size := HB.out.size
  clear HO HB hc1 hf1
  have hs0 : ((List.replicate ((l0.length + 7) / 8 + 1) (0 : Int)).set 0 (l0.length : Int)) = packTo l0 0 := by simp [packTo, List.replicate_succ]
  rw [hs0] at HO0
  clear hs0
  go_loopw [22] (fun v wr => ∃ i : Nat, i ≤ l0.length ∧ v = .int .i64 i ∧ Aside0 (Kd.R (Kd.int .u64) 39 wr w.heap.size (fun _ => True) (.slice (some ⟨g, 0, none⟩) ((l0.length + 7) / 8 + 1) cap) (packTo l0 i)) ∧ wr.cell? ⟨w1.heap.size, 0, none⟩ = some (.slice (some ⟨g, 0, none⟩) ((l0.length + 7) / 8 + 1) cap) ∧ Aside0 (Below w.heap.size w wr)) (fun v _ => l0.length - (intOf v).toNat)
  case atStart => exact ⟨0, by omega, rfl, HO0, by simp [go_sem], HB0⟩
  case round =>
    clear HO0 HB0
    obtain ⟨i, hi, rfl, HO, hcB, HB⟩ := hrel
    by_cases hlt : i < l0.length
    · obtain ⟨ad, e, hx⟩ := Kd.at_int HR0.out (i : Int) (by omega) (by omega)
      cases e
      replace hx := (HB.out.cell (World.block_lt_of_cell? w _ hx)).trans hx
      rw [Int.toNat_natCast] at hx
      have hby := HBY.out i hlt
      have hrd : rd l0 (i : Int) = l0.getD i 0 := by simp [rd]
      rw [hrd] at hx
      clear hrd
      have hix : 1 + i / 8 < (l0.length + 7) / 8 + 1 := by omega
      have hat := row_at (by rw [packTo_length]; omega) HO.out (1 + i / 8) hix
      have hnew := Aside0.mk (row_put (by rw [packTo_length]; omega) HO.out (1 + i / 8) (orIn ((packTo l0 i).getD (1 + i / 8) 0) (l0.getD i 0) i))
      have hput := Lib.hid (fun W (c x : Int) => put_calls W w1.heap.size g ((l0.length + 7) / 8 + 1) cap i c x)
      have hps : Aside0 (packTo l0 (i + 1) = (packTo l0 i).set (1 + i / 8) (orIn ((packTo l0 i).getD (1 + i / 8) 0) (l0.getD i 0) i)) := ⟨rfl⟩
      obtain ⟨x, hy⟩ : ∃ x, (packTo l0 i).getD (1 + i / 8) 0 = x := ⟨_, rfl⟩
      obtain ⟨c, hcc⟩ : ∃ c, l0.getD i 0 = c := ⟨_, rfl⟩
      rw [hy] at hat hnew hps
      rw [hcc] at hx hby hnew hps
      clear hy hcc
      obtain ⟨hat1, hat2⟩ := hat
      obtain ⟨hby0, hby1⟩ := hby
      clear HO
      go_wp2_with fail
      refine (hput.out wr c x hcB hat1 hat2 hix (by omega) hby0 hby1).mono ?_
      rintro e w2 ⟨rfl, rfl⟩
      go_wp2
      go_roundw
      case rel => exact ⟨i + 1, by omega, by go_num, ⟨by rw [hps.out]; exact Kd.R_drew hnew.out⟩, by rw [World.cell?_drew, World.cell?_setCell_other _ _ _ _ (by intro h; injection h; omega)]; exact hcB, ⟨below_drew (HB.out.setCell (p := ⟨g, 1 + i / 8, none⟩) hgb _)⟩⟩
      case measure => simp [intOf]; omega
    · obtain rfl : i = l0.length := by omega
      go_wp2
      go_ret
      exact ⟨_, rfl, HO.out, HB.out⟩
end Go.Proofs.Ytbdedbhafciilaa.Tp
