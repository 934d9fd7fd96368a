/- Pack: what the closure of Join does, what walk does with it, and Join. Conditions: the variables' cells are as each theorem says. -/
import Derived.Test.YtoooapknoobkiaaPk1
import Derived.Handy
import Derived.Lib.Hide
import Derived.StillTailTactics
import Derived.Deep.RegionHeld3
namespace Go.Proofs.Ytoooapknoobkiaa.Jo
open Go.RowKit Go.Proofs.YtoooapknoobkiaaW.PrintWords Go.Proofs.YtoooapknoobkiaaW.PrintLast Go.Proofs.YtoooapknoobkiaaW.PrintMore Go.Proofs.Ytoooapknoobkiaa.Pk
set_option linter.unusedVariables false
set_option linter.unusedSimpArgs false

/-- The variables of Join: fits, the values, the word. -/
structure Vars (B pf pv px : Nat) (b : Bool) (x : Int) (V : Value) (w0 w : World) : Prop where
  f : w.cell? ⟨pf, 0, none⟩ = some (.bool b)
  ff : w.frozen? ⟨pf, 0, none⟩ = false
  v : w.cell? ⟨pv, 0, none⟩ = some V
  x : w.cell? ⟨px, 0, none⟩ = some (.int .u64 x)
  fx : w.frozen? ⟨px, 0, none⟩ = false
  below : Below B w0 w

theorem Vars.drewN {B pf pv px : Nat} {b : Bool} {x : Int} {V : Value} {w0 w : World} (h : Vars B pf pv px b x V w0 w) (k : Nat) : Vars B pf pv px b x V w0 (w.drewN k) :=
  ⟨h.f, h.ff, h.v, h.x, h.fx, pw_below_drewN h.below k⟩
theorem ne_addr {a b i j : Nat} (h : a ≠ b) : (⟨a, i, none⟩ : Addr) ≠ ⟨b, j, none⟩ := fun e => h (congrArg Addr.block e)
theorem Vars.setF {B pf pv px : Nat} {b : Bool} {x : Int} {V : Value} {w0 w : World} (h : Vars B pf pv px b x V w0 w) (b' : Bool) (h1 : pf ≠ pv) (h2 : pf ≠ px) (hB : B ≤ pf) : Vars B pf pv px b' x V w0 (w.setCell ⟨pf, 0, none⟩ (.bool b')) :=
  ⟨World.cell?_setCell_same _ _ _ h.f, by rw [World.frozen?_setCell]; exact h.ff, by rw [World.cell?_setCell_other _ _ _ _ (ne_addr h1)]; exact h.v, by rw [World.cell?_setCell_other _ _ _ _ (ne_addr h2)]; exact h.x, by rw [World.frozen?_setCell]; exact h.fx, h.below.setCell (p := ⟨pf, 0, none⟩) hB _⟩
theorem Vars.setX {B pf pv px : Nat} {b : Bool} {x : Int} {V : Value} {w0 w : World} (h : Vars B pf pv px b x V w0 w) (x' : Int) (h1 : px ≠ pv) (h2 : px ≠ pf) (hB : B ≤ px) : Vars B pf pv px b x' V w0 (w.setCell ⟨px, 0, none⟩ (.int .u64 x')) :=
  ⟨by rw [World.cell?_setCell_other _ _ _ _ (ne_addr h2)]; exact h.f, by rw [World.frozen?_setCell]; exact h.ff, by rw [World.cell?_setCell_other _ _ _ _ (ne_addr h1)]; exact h.v, World.cell?_setCell_same _ _ _ h.x, by rw [World.frozen?_setCell]; exact h.fx, h.below.setCell (p := ⟨px, 0, none⟩) hB _⟩

set_option maxHeartbeats 400000 in
theorem do_true (w0 w : World) (B pf pv px : Nat) (ad : Addr) (n c i : Nat) (at_ wd x v m x' : Int) (hm : pack_mask.f wd = some m) (hp : pack_Put.f x at_ wd v = some x')
    (hS : Vars B pf pv px true x (.slice (some ad) n c) w0 w) (hfv : pf ≠ pv) (hfx : pf ≠ px) (hxv : px ≠ pv) (hBf : B ≤ pf) (hBx : B ≤ px) (hBw : B ≤ w0.heap.size)
    (hv0 : w0.cell? (ad.add i) = some (.int .u64 v)) (had : (ad.add i).block < B) (hi : i < n) (hn : n ≤ 9223372036854775807) :
    Calls Try.prog 26 #[.int .i64 i, .int .i64 at_, .int .i64 wd, .pointer (some ⟨pf, 0, none⟩), .pointer (some ⟨pv, 0, none⟩), .pointer (some ⟨px, 0, none⟩)] w fun e w' => e = .returned (.tuple #[]) ∧ Vars B pf pv px (decide (v ≤ m)) x' (.slice (some ad) n c) w0 w' := by
  have hv := (hS.below.cell had).trans hv0
  have HM := Aside0.mk hm
  have HP := Aside0.mk hp
  have hF := hS.f
  have hfF := hS.ff
  have hV := hS.v
  have HS := Aside0.mk hS
  have HN := Aside0.mk (And.intro hfv (And.intro hfx hxv))
  clear hm hp hS hfv hfx hxv
  have hi0 : (0 : Int) ≤ (i : Int) := by omega
  have hi1 : (i : Int) < (n : Int) := by omega
  go_enter Try.func26, Try.ntmps26
  go_wp2_with fail
  refine start_ (n := 11) (S := fun w' => w'.cell? ⟨pf, 0, none⟩ = some (.bool true) ∧ w'.cell? ⟨pv, 0, none⟩ = some (.slice (some ad) n c) ∧ w'.cell? (ad.add i) = some (.int .u64 v)) (ds := [10]) #[false, false, false, false, false, false, false, false, false, false, false] (by kernel_rfl) rfl rfl ⟨hF, hV, hv⟩ (fun hHeld => ?_)
  refine take_ (i := 0) (N := some 9) (v := ?_) (a' := ?_) #[true, false, false, false, false, false, false, false, false, false, false] rfl rfl (by kernel_rfl) (fun _ _ _ h => h) (Or.inl ⟨by rfl, ?_⟩) hHeld ?_ ?_
  rotate_left
  · rintro w' ⟨s0, s1, s2⟩
    go_simp
    with_reducible rfl
  rotate_left
  · simp only [Act.put, List.setIfInBounds_toArray, List.set_cons_zero, List.set_cons_succ, i64_w, i32_w]
    rfl
  refine pure_ (i := 1) (N := some 10) (v := ?_) (a' := ?_) #[true, true, false, false, false, false, false, false, false, false, false] rfl rfl (by kernel_rfl) (fun _ _ _ h => h) (Or.inl ⟨by rfl, ?_⟩) ?_ ?_
  rotate_left
  · intro w'
    go_simp
    with_reducible rfl
  rotate_left
  · simp only [Act.put, List.setIfInBounds_toArray, List.set_cons_zero, List.set_cons_succ, i64_w, i32_w]
    rfl
  refine pure_ (i := 3) (N := some 12) (v := ?_) (a' := ?_) #[true, true, false, true, false, false, false, false, false, false, false] rfl rfl (by kernel_rfl) (fun _ _ _ h => h) (Or.inl ⟨by rfl, ?_⟩) ?_ ?_
  rotate_left
  · intro w'
    go_simp
    with_reducible rfl
  rotate_left
  · simp only [Act.put, List.setIfInBounds_toArray, List.set_cons_zero, List.set_cons_succ, i64_w, i32_w]
    rfl
  refine pure_ (i := 6) (N := some 15) (v := ?_) (a' := ?_) #[true, true, false, true, false, false, true, false, false, false, false] rfl rfl (by kernel_rfl) (fun _ _ _ h => h) (Or.inl ⟨by rfl, ?_⟩) ?_ ?_
  rotate_left
  · intro w'
    go_simp
    with_reducible rfl
  rotate_left
  · simp only [Act.put, List.setIfInBounds_toArray, List.set_cons_zero, List.set_cons_succ, i64_w, i32_w]
    rfl
  refine take_ (i := 2) (N := some 11) (v := ?_) (a' := ?_) #[true, true, true, true, false, false, true, false, false, false, false] rfl rfl (by kernel_rfl) (fun _ _ _ h => h) (Or.inl ⟨by rfl, ?_⟩) hHeld ?_ ?_
  rotate_left
  · rintro w' ⟨s0, s1, s2⟩
    go_simp
    with_reducible rfl
  rotate_left
  · simp only [Act.put, List.setIfInBounds_toArray, List.set_cons_zero, List.set_cons_succ, i64_w, i32_w]
    rfl
  refine pure_ (i := 4) (N := some 13) (v := ?_) (a' := ?_) #[true, true, true, true, true, false, true, false, false, false, false] rfl rfl (by kernel_rfl) (fun _ _ _ h => h) (Or.inl ⟨by rfl, ?_⟩) ?_ ?_
  rotate_left
  · intro w'
    go_simp
    with_reducible rfl
  rotate_left
  · simp only [Act.put, List.setIfInBounds_toArray, List.set_cons_zero, List.set_cons_succ, i64_w, i32_w]
    rfl
  refine take_ (i := 5) (N := some 14) (v := ?_) (a' := ?_) #[true, true, true, true, true, true, true, false, false, false, false] rfl rfl (by kernel_rfl) (fun _ _ _ h => h) (Or.inl ⟨by rfl, ?_⟩) hHeld ?_ ?_
  rotate_left
  · rintro w' ⟨s0, s1, s2⟩
    go_simp
    with_reducible rfl
  rotate_left
  · simp only [Act.put, List.setIfInBounds_toArray, List.set_cons_zero, List.set_cons_succ, i64_w, i32_w]
    rfl
  refine one_ (i := 7) (N := some 16) #[true, true, true, true, true, true, true, true, false, false, false] rfl rfl (by kernel_rfl) (by decide) (fun K hK => ?_)
  refine goes_ Try.func27 (by kernel_rfl) rfl #[.int .i64 wd] (by rfl) rfl rfl (by simp only [List.map_toArray, List.map_cons, List.map_nil]; rfl) ?_
  with_reducible refine (pack_mask.calls wd m _ HM.out).mono ?_
  rintro e w3 ⟨rfl, ⟨nd, rfl⟩⟩
  refine ⟨_, rfl, ?_⟩
  refine hK.out _ _ ⟨hHeld.1, hHeld.2.1, hHeld.2.2⟩ (fun hHeld => ?_)
  clear hK K
  refine norm_ (a' := ?_) ?_ ?_
  rotate_left
  · show Act.put _ (some 16) _ = _
    simp only [Act.put, List.setIfInBounds_toArray, List.set_cons_zero, List.set_cons_succ, i64_w, i32_w]
    rfl
  refine pure_ (i := 8) (N := some 17) (v := ?_) (a' := ?_) #[true, true, true, true, true, true, true, true, true, false, false] rfl rfl (by kernel_rfl) (fun _ _ _ h => h) (Or.inl ⟨by rfl, ?_⟩) ?_ ?_
  rotate_left
  · intro w'
    go_simp
    with_reducible rfl
  rotate_left
  · simp only [Act.put, List.setIfInBounds_toArray, List.set_cons_zero, List.set_cons_succ, i64_w, i32_w]
    rfl
  refine pure_ (i := 9) (N := some 18) (v := ?_) (a' := ?_) #[true, true, true, true, true, true, true, true, true, true, false] rfl rfl (by kernel_rfl) (fun _ _ _ h => h) (Or.inl ⟨by rfl, ?_⟩) ?_ ?_
  rotate_left
  · intro w'
    go_simp
    with_reducible rfl
  rotate_left
  · simp only [Act.put, List.setIfInBounds_toArray, List.set_cons_zero, List.set_cons_succ, i64_w, i32_w]
    rfl
  refine last_ (i := 10) (N := none) #[true, true, true, true, true, true, true, true, true, true, true] rfl rfl (by kernel_rfl) (by decide) (fun K hK => ?_)
  refine skip_ (w1 := ?_) (by rfl) rfl ?_ ?_
  rotate_left
  · go_simp
    rfl
  refine hK.out _ _ ?_
  clear hK K
  refine done_ (by kernel_rfl) ?_
  have HS1 := (HS.out.drewN (1 + nd)).setF (decide (v ≤ m)) HN.out.1 HN.out.2.1 hBf
  generalize (w.drewN (1 + nd)).setCell ⟨pf, 0, none⟩ (Value.bool (decide (v ≤ m))) = W1 at HS1 ⊢
  clear hF hfF hV hv HS
  have hv1 := (HS1.below.cell had).trans hv0
  have hX1 := HS1.x
  have hfX := HS1.fx
  have hV1 := HS1.v
  have HS2 := Aside0.mk HS1
  clear HS1
  go_wp2_with fail
  refine start_ (n := 9) (S := fun w' => w'.cell? ⟨px, 0, none⟩ = some (.int .u64 x) ∧ w'.cell? ⟨pv, 0, none⟩ = some (.slice (some ad) n c) ∧ w'.cell? (ad.add i) = some (.int .u64 v)) (ds := [8]) #[false, false, false, false, false, false, false, false, false] (by kernel_rfl) rfl rfl ⟨hX1, hV1, hv1⟩ (fun hHeld => ?_)
  refine pure_ (i := 1) (N := some 20) (v := ?_) (a' := ?_) #[false, true, false, false, false, false, false, false, false] rfl rfl (by kernel_rfl) (fun _ _ _ h => h) (Or.inl ⟨by rfl, ?_⟩) ?_ ?_
  rotate_left
  · intro w'
    go_simp
    with_reducible rfl
  rotate_left
  · simp only [Act.put, List.setIfInBounds_toArray, List.set_cons_zero, List.set_cons_succ, i64_w, i32_w]
    rfl
  refine pure_ (i := 2) (N := some 21) (v := ?_) (a' := ?_) #[false, true, true, false, false, false, false, false, false] rfl rfl (by kernel_rfl) (fun _ _ _ h => h) (Or.inl ⟨by rfl, ?_⟩) ?_ ?_
  rotate_left
  · intro w'
    go_simp
    with_reducible rfl
  rotate_left
  · simp only [Act.put, List.setIfInBounds_toArray, List.set_cons_zero, List.set_cons_succ, i64_w, i32_w]
    rfl
  refine pure_ (i := 4) (N := some 23) (v := ?_) (a' := ?_) #[false, true, true, false, true, false, false, false, false] rfl rfl (by kernel_rfl) (fun _ _ _ h => h) (Or.inl ⟨by rfl, ?_⟩) ?_ ?_
  rotate_left
  · intro w'
    go_simp
    with_reducible rfl
  rotate_left
  · simp only [Act.put, List.setIfInBounds_toArray, List.set_cons_zero, List.set_cons_succ, i64_w, i32_w]
    rfl
  refine take_ (i := 0) (N := some 19) (v := ?_) (a' := ?_) #[true, true, true, false, true, false, false, false, false] rfl rfl (by kernel_rfl) (fun _ _ _ h => h) (Or.inl ⟨by rfl, ?_⟩) hHeld ?_ ?_
  rotate_left
  · rintro w' ⟨s0, s1, s2⟩
    go_simp
    with_reducible rfl
  rotate_left
  · simp only [Act.put, List.setIfInBounds_toArray, List.set_cons_zero, List.set_cons_succ, i64_w, i32_w]
    rfl
  refine take_ (i := 3) (N := some 22) (v := ?_) (a' := ?_) #[true, true, true, true, true, false, false, false, false] rfl rfl (by kernel_rfl) (fun _ _ _ h => h) (Or.inl ⟨by rfl, ?_⟩) hHeld ?_ ?_
  rotate_left
  · rintro w' ⟨s0, s1, s2⟩
    go_simp
    with_reducible rfl
  rotate_left
  · simp only [Act.put, List.setIfInBounds_toArray, List.set_cons_zero, List.set_cons_succ, i64_w, i32_w]
    rfl
  refine pure_ (i := 5) (N := some 24) (v := ?_) (a' := ?_) #[true, true, true, true, true, true, false, false, false] rfl rfl (by kernel_rfl) (fun _ _ _ h => h) (Or.inl ⟨by rfl, ?_⟩) ?_ ?_
  rotate_left
  · intro w'
    go_simp
    with_reducible rfl
  rotate_left
  · simp only [Act.put, List.setIfInBounds_toArray, List.set_cons_zero, List.set_cons_succ, i64_w, i32_w]
    rfl
  refine take_ (i := 6) (N := some 25) (v := ?_) (a' := ?_) #[true, true, true, true, true, true, true, false, false] rfl rfl (by kernel_rfl) (fun _ _ _ h => h) (Or.inl ⟨by rfl, ?_⟩) hHeld ?_ ?_
  rotate_left
  · rintro w' ⟨s0, s1, s2⟩
    go_simp
    with_reducible rfl
  rotate_left
  · simp only [Act.put, List.setIfInBounds_toArray, List.set_cons_zero, List.set_cons_succ, i64_w, i32_w]
    rfl
  refine one_ (i := 7) (N := some 26) #[true, true, true, true, true, true, true, true, false] rfl rfl (by kernel_rfl) (by decide) (fun K hK => ?_)
  refine goes_ Try.func28 (by kernel_rfl) rfl #[.int .u64 x, .int .i64 at_, .int .i64 wd, .int .u64 v] (by rfl) rfl rfl (by simp only [List.map_toArray, List.map_cons, List.map_nil]; rfl) ?_
  with_reducible refine (pack_Put.calls x at_ wd v x' _ HP.out).mono ?_
  rintro e w3 ⟨rfl, ⟨nd', rfl⟩⟩
  refine ⟨_, rfl, ?_⟩
  refine hK.out _ _ ⟨hHeld.1, hHeld.2.1, hHeld.2.2⟩ (fun hHeld => ?_)
  clear hK K
  refine norm_ (a' := ?_) ?_ ?_
  rotate_left
  · show Act.put _ (some 26) _ = _
    simp only [Act.put, List.setIfInBounds_toArray, List.set_cons_zero, List.set_cons_succ, i64_w, i32_w]
    rfl
  refine last_ (i := 8) (N := none) #[true, true, true, true, true, true, true, true, true] rfl rfl (by kernel_rfl) (by decide) (fun K hK => ?_)
  refine skip_ (w1 := ?_) (by rfl) rfl ?_ ?_
  rotate_left
  · go_simp
    rfl
  refine hK.out _ _ ?_
  clear hK K
  refine done_ (by kernel_rfl) ?_
  go_end0
  exact ⟨rfl, (HS2.out.drewN (1 + nd')).setX x' HN.out.2.2 (Ne.symm HN.out.2.1) hBx⟩

set_option maxHeartbeats 400000 in
theorem do_false (w0 w : World) (B pf pv px : Nat) (ad : Addr) (n c i : Nat) (at_ wd x v x' : Int) (hp : pack_Put.f x at_ wd v = some x')
    (hS : Vars B pf pv px false x (.slice (some ad) n c) w0 w) (hfv : pf ≠ pv) (hfx : pf ≠ px) (hxv : px ≠ pv) (hBf : B ≤ pf) (hBx : B ≤ px) (hBw : B ≤ w0.heap.size)
    (hv0 : w0.cell? (ad.add i) = some (.int .u64 v)) (had : (ad.add i).block < B) (hi : i < n) (hn : n ≤ 9223372036854775807) :
    Calls Try.prog 26 #[.int .i64 i, .int .i64 at_, .int .i64 wd, .pointer (some ⟨pf, 0, none⟩), .pointer (some ⟨pv, 0, none⟩), .pointer (some ⟨px, 0, none⟩)] w fun e w' => e = .returned (.tuple #[]) ∧ Vars B pf pv px false x' (.slice (some ad) n c) w0 w' := by
  have HP := Aside0.mk hp
  have hF := hS.f
  have hfF := hS.ff
  have HS := Aside0.mk hS
  have HN := Aside0.mk (And.intro hfv (And.intro hfx hxv))
  clear hp hS hfv hfx hxv
  have hi0 : (0 : Int) ≤ (i : Int) := by omega
  have hi1 : (i : Int) < (n : Int) := by omega
  go_enter Try.func26, Try.ntmps26
  go_wp2_with fail
  refine start_ (n := 11) (S := fun w' => w'.cell? ⟨pf, 0, none⟩ = some (.bool false)) (ds := [10]) #[false, false, false, false, false, false, false, false, false, false, false] (by kernel_rfl) rfl rfl (hF) (fun hHeld => ?_)
  refine take_ (i := 0) (N := some 9) (v := ?_) (a' := ?_) #[true, false, false, false, false, false, false, false, false, false, false] rfl rfl (by kernel_rfl) (fun _ _ _ h => h) (Or.inl ⟨by rfl, ?_⟩) hHeld ?_ ?_
  rotate_left
  · intro w' s0
    go_simp
    with_reducible rfl
  rotate_left
  · simp only [Act.put, List.setIfInBounds_toArray, List.set_cons_zero, List.set_cons_succ, i64_w, i32_w]
    rfl
  refine pure_ (i := 1) (N := some 10) (v := ?_) (a' := ?_) #[true, true, false, false, false, false, false, false, false, false, false] rfl rfl (by kernel_rfl) (fun _ _ _ h => h) (Or.inl ⟨by rfl, ?_⟩) ?_ ?_
  rotate_left
  · intro w'
    go_simp
    with_reducible rfl
  rotate_left
  · simp only [Act.put, List.setIfInBounds_toArray, List.set_cons_zero, List.set_cons_succ, i64_w, i32_w]
    rfl
  refine pure_ (i := 2) (N := some 11) (v := undef) (a' := ?_) #[true, true, true, false, false, false, false, false, false, false, false] rfl rfl (by kernel_rfl) (fun _ _ _ h => h) (Or.inr ⟨by rfl, rfl⟩) ?_ ?_
  rotate_left
  · simp only [Act.put, List.setIfInBounds_toArray, List.set_cons_zero, List.set_cons_succ, i64_w, i32_w]
    rfl
  refine pure_ (i := 3) (N := some 12) (v := undef) (a' := ?_) #[true, true, true, true, false, false, false, false, false, false, false] rfl rfl (by kernel_rfl) (fun _ _ _ h => h) (Or.inr ⟨by rfl, rfl⟩) ?_ ?_
  rotate_left
  · simp only [Act.put, List.setIfInBounds_toArray, List.set_cons_zero, List.set_cons_succ, i64_w, i32_w]
    rfl
  refine pure_ (i := 4) (N := some 13) (v := undef) (a' := ?_) #[true, true, true, true, true, false, false, false, false, false, false] rfl rfl (by kernel_rfl) (fun _ _ _ h => h) (Or.inr ⟨by rfl, rfl⟩) ?_ ?_
  rotate_left
  · simp only [Act.put, List.setIfInBounds_toArray, List.set_cons_zero, List.set_cons_succ, i64_w, i32_w]
    rfl
  refine pure_ (i := 5) (N := some 14) (v := undef) (a' := ?_) #[true, true, true, true, true, true, false, false, false, false, false] rfl rfl (by kernel_rfl) (fun _ _ _ h => h) (Or.inr ⟨by rfl, rfl⟩) ?_ ?_
  rotate_left
  · simp only [Act.put, List.setIfInBounds_toArray, List.set_cons_zero, List.set_cons_succ, i64_w, i32_w]
    rfl
  refine pure_ (i := 6) (N := some 15) (v := undef) (a' := ?_) #[true, true, true, true, true, true, true, false, false, false, false] rfl rfl (by kernel_rfl) (fun _ _ _ h => h) (Or.inr ⟨by rfl, rfl⟩) ?_ ?_
  rotate_left
  · simp only [Act.put, List.setIfInBounds_toArray, List.set_cons_zero, List.set_cons_succ, i64_w, i32_w]
    rfl
  refine pure_ (i := 7) (N := some 16) (v := undef) (a' := ?_) #[true, true, true, true, true, true, true, true, false, false, false] rfl rfl (by kernel_rfl) (fun _ _ _ h => h) (Or.inr ⟨by rfl, rfl⟩) ?_ ?_
  rotate_left
  · simp only [Act.put, List.setIfInBounds_toArray, List.set_cons_zero, List.set_cons_succ, i64_w, i32_w]
    rfl
  refine pure_ (i := 8) (N := some 17) (v := undef) (a' := ?_) #[true, true, true, true, true, true, true, true, true, false, false] rfl rfl (by kernel_rfl) (fun _ _ _ h => h) (Or.inr ⟨by rfl, rfl⟩) ?_ ?_
  rotate_left
  · simp only [Act.put, List.setIfInBounds_toArray, List.set_cons_zero, List.set_cons_succ, i64_w, i32_w]
    rfl
  refine pure_ (i := 9) (N := some 18) (v := ?_) (a' := ?_) #[true, true, true, true, true, true, true, true, true, true, false] rfl rfl (by kernel_rfl) (fun _ _ _ h => h) (Or.inl ⟨by rfl, ?_⟩) ?_ ?_
  rotate_left
  · intro w'
    go_simp
    with_reducible rfl
  rotate_left
  · simp only [Act.put, List.setIfInBounds_toArray, List.set_cons_zero, List.set_cons_succ, i64_w, i32_w]
    rfl
  refine last_ (i := 10) (N := none) #[true, true, true, true, true, true, true, true, true, true, true] rfl rfl (by kernel_rfl) (by decide) (fun K hK => ?_)
  refine skip_ (w1 := ?_) (by rfl) rfl ?_ ?_
  rotate_left
  · go_simp
    rfl
  refine hK.out _ _ ?_
  clear hK K
  refine done_ (by kernel_rfl) ?_
  have HS1 : Vars B pf pv px false x (.slice (some ad) n c) w0 (w.setCell ⟨pf, 0, none⟩ (.bool false)).drew := (HS.out.setF false HN.out.1 HN.out.2.1 hBf).drewN 1
  generalize (w.setCell ⟨pf, 0, none⟩ (Value.bool false)).drew = W1 at HS1 ⊢
  clear hF hfF HS
  have hv1 := (HS1.below.cell had).trans hv0
  have hX1 := HS1.x
  have hfX := HS1.fx
  have hV1 := HS1.v
  have HS2 := Aside0.mk HS1
  clear HS1
  go_wp2_with fail
  refine start_ (n := 9) (S := fun w' => w'.cell? ⟨px, 0, none⟩ = some (.int .u64 x) ∧ w'.cell? ⟨pv, 0, none⟩ = some (.slice (some ad) n c) ∧ w'.cell? (ad.add i) = some (.int .u64 v)) (ds := [8]) #[false, false, false, false, false, false, false, false, false] (by kernel_rfl) rfl rfl ⟨hX1, hV1, hv1⟩ (fun hHeld => ?_)
  refine pure_ (i := 1) (N := some 20) (v := ?_) (a' := ?_) #[false, true, false, false, false, false, false, false, false] rfl rfl (by kernel_rfl) (fun _ _ _ h => h) (Or.inl ⟨by rfl, ?_⟩) ?_ ?_
  rotate_left
  · intro w'
    go_simp
    with_reducible rfl
  rotate_left
  · simp only [Act.put, List.setIfInBounds_toArray, List.set_cons_zero, List.set_cons_succ, i64_w, i32_w]
    rfl
  refine pure_ (i := 2) (N := some 21) (v := ?_) (a' := ?_) #[false, true, true, false, false, false, false, false, false] rfl rfl (by kernel_rfl) (fun _ _ _ h => h) (Or.inl ⟨by rfl, ?_⟩) ?_ ?_
  rotate_left
  · intro w'
    go_simp
    with_reducible rfl
  rotate_left
  · simp only [Act.put, List.setIfInBounds_toArray, List.set_cons_zero, List.set_cons_succ, i64_w, i32_w]
    rfl
  refine pure_ (i := 4) (N := some 23) (v := ?_) (a' := ?_) #[false, true, true, false, true, false, false, false, false] rfl rfl (by kernel_rfl) (fun _ _ _ h => h) (Or.inl ⟨by rfl, ?_⟩) ?_ ?_
  rotate_left
  · intro w'
    go_simp
    with_reducible rfl
  rotate_left
  · simp only [Act.put, List.setIfInBounds_toArray, List.set_cons_zero, List.set_cons_succ, i64_w, i32_w]
    rfl
  refine take_ (i := 0) (N := some 19) (v := ?_) (a' := ?_) #[true, true, true, false, true, false, false, false, false] rfl rfl (by kernel_rfl) (fun _ _ _ h => h) (Or.inl ⟨by rfl, ?_⟩) hHeld ?_ ?_
  rotate_left
  · rintro w' ⟨s0, s1, s2⟩
    go_simp
    with_reducible rfl
  rotate_left
  · simp only [Act.put, List.setIfInBounds_toArray, List.set_cons_zero, List.set_cons_succ, i64_w, i32_w]
    rfl
  refine take_ (i := 3) (N := some 22) (v := ?_) (a' := ?_) #[true, true, true, true, true, false, false, false, false] rfl rfl (by kernel_rfl) (fun _ _ _ h => h) (Or.inl ⟨by rfl, ?_⟩) hHeld ?_ ?_
  rotate_left
  · rintro w' ⟨s0, s1, s2⟩
    go_simp
    with_reducible rfl
  rotate_left
  · simp only [Act.put, List.setIfInBounds_toArray, List.set_cons_zero, List.set_cons_succ, i64_w, i32_w]
    rfl
  refine pure_ (i := 5) (N := some 24) (v := ?_) (a' := ?_) #[true, true, true, true, true, true, false, false, false] rfl rfl (by kernel_rfl) (fun _ _ _ h => h) (Or.inl ⟨by rfl, ?_⟩) ?_ ?_
  rotate_left
  · intro w'
    go_simp
    with_reducible rfl
  rotate_left
  · simp only [Act.put, List.setIfInBounds_toArray, List.set_cons_zero, List.set_cons_succ, i64_w, i32_w]
    rfl
  refine take_ (i := 6) (N := some 25) (v := ?_) (a' := ?_) #[true, true, true, true, true, true, true, false, false] rfl rfl (by kernel_rfl) (fun _ _ _ h => h) (Or.inl ⟨by rfl, ?_⟩) hHeld ?_ ?_
  rotate_left
  · rintro w' ⟨s0, s1, s2⟩
    go_simp
    with_reducible rfl
  rotate_left
  · simp only [Act.put, List.setIfInBounds_toArray, List.set_cons_zero, List.set_cons_succ, i64_w, i32_w]
    rfl
  refine one_ (i := 7) (N := some 26) #[true, true, true, true, true, true, true, true, false] rfl rfl (by kernel_rfl) (by decide) (fun K hK => ?_)
  refine goes_ Try.func28 (by kernel_rfl) rfl #[.int .u64 x, .int .i64 at_, .int .i64 wd, .int .u64 v] (by rfl) rfl rfl (by simp only [List.map_toArray, List.map_cons, List.map_nil]; rfl) ?_
  with_reducible refine (pack_Put.calls x at_ wd v x' _ HP.out).mono ?_
  rintro e w3 ⟨rfl, ⟨nd', rfl⟩⟩
  refine ⟨_, rfl, ?_⟩
  refine hK.out _ _ ⟨hHeld.1, hHeld.2.1, hHeld.2.2⟩ (fun hHeld => ?_)
  clear hK K
  refine norm_ (a' := ?_) ?_ ?_
  rotate_left
  · show Act.put _ (some 26) _ = _
    simp only [Act.put, List.setIfInBounds_toArray, List.set_cons_zero, List.set_cons_succ, i64_w, i32_w]
    rfl
  refine last_ (i := 8) (N := none) #[true, true, true, true, true, true, true, true, true] rfl rfl (by kernel_rfl) (by decide) (fun K hK => ?_)
  refine skip_ (w1 := ?_) (by rfl) rfl ?_ ?_
  rotate_left
  · go_simp
    rfl
  refine hK.out _ _ ?_
  clear hK K
  refine done_ (by kernel_rfl) ?_
  go_end0
  exact ⟨rfl, (HS2.out.drewN (1 + nd')).setX x' HN.out.2.2 (Ne.symm HN.out.2.1) hBx⟩

/-! ### The fields, plainly -/
def fld (a n : Int) : Bool := decide (n ≥ 1 ∧ n ≤ 64 ∧ a ≥ 0 ∧ a ≤ 64 - n)
def mk (n : Int) : Int := (pack_mask.f n).getD 0
def pt (x a n v : Int) : Int := (pack_Put.f x a n v).getD 0
theorem fld_eq (a n : Int) (h0 : -9223372036854775808 ≤ n) (h1 : n ≤ 9223372036854775807) : pack_field.f a n = some (fld a n) := by
  unfold pack_field.f fld
  by_cases h : n ≥ 1
  · rw [if_pos h]
    by_cases h2 : n ≤ 64
    · rw [if_pos h2]
      have e : wrap64 (64 - n) = 64 - n := by unfold wrap64; omega
      rw [e]
      by_cases h3 : a ≥ 0
      · rw [if_pos h3]; simp [h, h2, h3]
      · rw [if_neg h3]; simp [h3]
    · rw [if_neg h2]; simp [h2]
  · rw [if_neg h]; simp [h]
theorem fld_range {a n : Int} (h : fld a n = true) : 1 ≤ n ∧ n ≤ 64 ∧ 0 ≤ a ∧ a ≤ 64 - n := by simpa [fld] using h
theorem mk_eq {a n : Int} (h : fld a n = true) : pack_mask.f n = some (mk n) := by
  have := fld_range h
  have e : wrap64 (64 - n) = 64 - n := by unfold wrap64; omega
  have : pack_mask.f n = some (shr .u64 18446744073709551615 (64 - n)) := by
    unfold pack_mask.f
    rw [e, if_pos (by omega)]
  unfold mk
  rw [this]; rfl
theorem pt_eq {a n : Int} (h : fld a n = true) (x v : Int) : pack_Put.f x a n v = some (pt x a n v) := by
  have hr := fld_range h
  have hf := fld_eq a n (by omega) (by omega)
  have hm := mk_eq h
  have : ∃ r, pack_Put.f x a n v = some r := by
    unfold pack_Put.f
    rw [hf, h]
    simp only [Option.bind_some, if_true]
    rw [hm]
    simp only [Option.bind_some]
    rw [if_pos (by omega)]
    exact ⟨_, rfl⟩
  obtain ⟨r, hr⟩ := this
  unfold pt
  rw [hr]; rfl
/-- What walk does with Join's closure: where the fields end, whether all fit, the word. -/
def joinL : List Int → List Int → Int → Bool → Int → Option (Int × Bool × Int)
  | [], _, a, b, x => some (a, b, x)
  | n :: r, vs, a, b, x => if fld a n = true then joinL r (vs.drop 1) (a + n) (b && decide (vs.getD 0 0 ≤ mk n)) (pt x a n (vs.getD 0 0)) else none

theorem joinL_step (ws vs : List Int) (i : Nat) (hlt : i < ws.length) (a : Int) (b : Bool) (x : Int) :
    joinL (ws.drop i) (vs.drop i) a b x = if fld a (ws.getD i 0) = true then joinL (ws.drop (i + 1)) (vs.drop (i + 1)) (a + ws.getD i 0) (b && decide (vs.getD i 0 ≤ mk (ws.getD i 0))) (pt x a (ws.getD i 0) (vs.getD i 0)) else none := by
  rw [List.drop_eq_getElem_cons hlt]
  simp only [joinL]
  rw [List.drop_drop]
  have e3 : (vs.drop i).getD 0 0 = vs.getD i 0 := by rw [List.getD_eq_getElem?_getD, List.getElem?_drop, ← List.getD_eq_getElem?_getD]; rfl
  have e4 : ws[i] = ws.getD i 0 := by rw [List.getD_eq_getElem?_getD, List.getElem?_eq_getElem hlt]; rfl
  rw [e3, e4]

theorem field_calls (a n : Int) (w : World) (h0 : -9223372036854775808 ≤ n) (h1 : n ≤ 9223372036854775807) :
    Calls Try.prog 32 #[.int .i64 a, .int .i64 n] w fun e w' => e = .returned (.bool (fld a n)) ∧ Drawn0 w w' :=
  pack_field.calls a n (fld a n) w (fld_eq a n h0 h1)

theorem do_calls (w0 w : World) (pf pv px : Nat) (ad : Addr) (n c i : Nat) (at_ wd x v : Int) (b : Bool) (hfd : fld at_ wd = true)
    (hS : Vars w0.heap.size pf pv px b x (.slice (some ad) n c) w0 w) (hfv : pf ≠ pv) (hfx : pf ≠ px) (hxv : px ≠ pv) (hBf : w0.heap.size ≤ pf) (hBx : w0.heap.size ≤ px)
    (hv0 : w0.cell? (ad.add i) = some (.int .u64 v)) (hi : i < n) (hn : n ≤ 9223372036854775807) :
    Calls Try.prog 26 #[.int .i64 i, .int .i64 at_, .int .i64 wd, .pointer (some ⟨pf, 0, none⟩), .pointer (some ⟨pv, 0, none⟩), .pointer (some ⟨px, 0, none⟩)] w fun e w' => e = .returned (.tuple #[]) ∧ Vars w0.heap.size pf pv px (b && decide (v ≤ mk wd)) (pt x at_ wd v) (.slice (some ad) n c) w0 w' := by
  cases b with
  | true => exact do_true w0 w w0.heap.size pf pv px ad n c i at_ wd x v (mk wd) (pt x at_ wd v) (mk_eq hfd) (pt_eq hfd x v) hS hfv hfx hxv hBf hBx (Nat.le_refl _) hv0 (World.block_lt_of_cell? w0 _ hv0) hi hn
  | false => exact do_false w0 w w0.heap.size pf pv px ad n c i at_ wd x v (pt x at_ wd v) (pt_eq hfd x v) hS hfv hfx hxv hBf hBx (Nat.le_refl _) hv0 (World.block_lt_of_cell? w0 _ hv0) hi hn

/-- What walk answers. -/
def Told (R : Option (Int × Bool × Int)) (pf pv px : Nat) (V : Value) (w0 : World) (e : Ending) (w' : World) : Prop :=
  match R with
  | none => e = .returned (.tuple #[.int .i64 0, .bool false]) ∧ ∃ b x, Vars w0.heap.size pf pv px b x V w0 w'
  | some (a, b, x) => e = .returned (.tuple #[.int .i64 a, .bool true]) ∧ Vars w0.heap.size pf pv px b x V w0 w'

set_option maxHeartbeats 1000000 in
theorem walk_calls (w0 w : World) (pf pv px : Nat) (A : Option Addr) (c : Nat) (ws : List Int) (A1 : Option Addr) (c1 : Nat) (vs : List Int) (hlen : vs.length = ws.length)
    (hws : Kd.C (Kd.int .i64) w0 A ws.length ws) (hvs : Kd.C (Kd.int .u64) w0 A1 ws.length vs) (hwf : ∀ i, -9223372036854775808 ≤ ws.getD i 0 ∧ ws.getD i 0 ≤ 9223372036854775807)
    (hS : Vars w0.heap.size pf pv px true 0 (.slice A1 ws.length c1) w0 w) (hfv : pf ≠ pv) (hfx : pf ≠ px) (hxv : px ≠ pv) (hBf : w0.heap.size ≤ pf) (hBx : w0.heap.size ≤ px) (hl : ws.length ≤ 9223372036854775800) :
    Calls Try.prog 25 #[.slice A ws.length c, .func (.func 26) #[] #[.pointer (some ⟨pf, 0, none⟩), .pointer (some ⟨pv, 0, none⟩), .pointer (some ⟨px, 0, none⟩)]] w (Told (joinL ws vs 0 true 0) pf pv px (.slice A1 ws.length c1) w0) := by
  have HWS := Aside0.mk hws
  have HVS := Aside0.mk hvs
  have HWF := Aside0.mk hwf
  have HS := Aside0.mk hS
  have HN := Aside0.mk (And.intro hfv (And.intro hfx hxv))
  obtain ⟨R, hR⟩ : ∃ R, joinL ws vs 0 true 0 = R := ⟨_, rfl⟩
  rw [hR]
  have HR := Aside0.mk hR
  clear hws hvs hwf hS hfv hfx hxv hR
  go_enter Try.func25, Try.ntmps25
  go_wp2_with fail
  go_loopw [6, 11] (fun v6 v11 wr => ∃ (i : Nat) (a : Int) (b : Bool) (x : Int), i ≤ ws.length ∧ v11 = .int .i64 i ∧ v6 = .int .i64 a ∧ 0 ≤ a ∧ a ≤ 64 ∧ Aside0 (joinL (ws.drop i) (vs.drop i) a b x = R) ∧ Aside0 (Vars w0.heap.size pf pv px b x (.slice A1 ws.length c1) w0 wr)) (fun _ v11 _ => ws.length - (intOf v11).toNat)
  case atStart => exact ⟨0, 0, true, 0, by omega, rfl, rfl, by omega, by omega, HR, HS⟩
  case round =>
    clear HS HR
    obtain ⟨i, a, b, x, hi, rfl, rfl, ha0, ha1, HR, HS⟩ := hrel
    by_cases hlt : i < ws.length
    · obtain ⟨ad, e, hx⟩ := Kd.at_int HWS.out (i : Int) (by omega) (by omega)
      cases e
      obtain ⟨ad1, e, hx1⟩ := Kd.at_int HVS.out (i : Int) (by omega) (by omega)
      cases e
      replace hx := (HS.out.below.cell (World.block_lt_of_cell? w0 _ hx)).trans hx
      rw [Int.toNat_natCast] at hx hx1
      have e1 : rd ws (i : Int) = ws.getD i 0 := by simp [rd]
      have e2 : rd vs (i : Int) = vs.getD i 0 := by simp [rd]
      rw [e1] at hx
      rw [e2] at hx1
      have hwd := HWF.out i
      have hrec := Aside0.mk (show joinL (ws.drop i) (vs.drop i) a b x = if fld a (ws.getD i 0) = true then joinL (ws.drop (i + 1)) (vs.drop (i + 1)) (a + ws.getD i 0) (b && decide (vs.getD i 0 ≤ mk (ws.getD i 0))) (pt x a (ws.getD i 0) (vs.getD i 0)) else none from by
        exact joinL_step ws vs i hlt a b x)
      obtain ⟨n, hn⟩ : ∃ n, ws.getD i 0 = n := ⟨_, rfl⟩
      obtain ⟨v, hv⟩ : ∃ v, vs.getD i 0 = v := ⟨_, rfl⟩
      rw [hn] at hx hwd hrec
      rw [hv] at hx1 hrec
      clear hn hv e1 e2
      obtain ⟨hwd0, hwd1⟩ := hwd
      have HX1 := Aside0.mk hx1
      clear hx1
      go_wp2_with fail
      refine (field_calls a n _ hwd0 hwd1).mono ?_
      rintro e w1 ⟨rfl, ⟨nd, rfl⟩⟩
      by_cases hfd : fld a n = true
      · have hr := hrec.out
        rw [if_pos hfd, HR.out] at hr
        have HR2 := Aside0.mk hr.symm
        have hrg := fld_range hfd
        have HF := Aside0.mk hfd
        rw [hfd]
        clear hfd hr HR hrec
        obtain ⟨r1, r2, r3, r4⟩ := hrg
        go_wp2_with fail
        refine (do_calls w0 _ pf pv px ad1 ws.length c1 i a n x v b HF.out (HS.out.drewN nd) HN.out.1 HN.out.2.1 HN.out.2.2 hBf hBx HX1.out hlt (by omega)).mono ?_
        rintro e w2 ⟨rfl, hS2⟩
        have HS2 := Aside0.mk hS2
        clear hS2 HS
        go_wp2
        go_roundw
        case rel => exact ⟨i + 1, a + n, _, _, by omega, by go_num, rfl, by omega, by omega, HR2, HS2⟩
        case measure => simp [intOf]; omega
      · have hfd' : fld a n = false := by simpa using hfd
        have hr := hrec.out
        rw [if_neg hfd, HR.out] at hr
        have HR2 := Aside0.mk hr
        rw [hfd']
        clear hfd hfd' hr HR hrec
        go_wp2
        go_ret2
        rw [HR2.out]
        exact ⟨rfl, _, _, HS.out.drewN nd⟩
    · obtain rfl : i = ws.length := by omega
      have hr := HR.out
      rw [List.drop_length] at hr
      have HR2 := Aside0.mk hr.symm
      clear hr HR
      go_wp2
      go_ret2
      rw [HR2.out]
      exact ⟨rfl, HS.out⟩
end Go.Proofs.Ytoooapknoobkiaa.Jo
