/- Parts of one proof, set together: En4, En5, En6. What each says stands at its head; no condition beyond theirs. -/
import Derived.Test.YtmolflmljneelaaEs7
import Derived.Deep.RegionWith
/- The methods of Env over what 'step' does: where it answers, where it panics. -/
namespace Go.Proofs.Ytmolflmljneelaa.En
open Go.RowKit Go.Proofs.YtmolflmljneelaaW.PrintWords Go.Proofs.YtmolflmljneelaaW.PrintLast Go.Proofs.YtmolflmljneelaaW.PrintMore
open Pm (Fr Rg Row thereB pendAt WFD) 
open Lk (Tbl takeR leaveR ownerV Only)
set_option linter.unusedSimpArgs false
set_option linter.unusedVariables false
theorem below_undrew {W w : World} (h : Below W.drew.heap.size W.drew w) : Below W.heap.size W w := ⟨h.os, h.tape, h.output, h.size, h.block⟩
/-- It answers nothing; of the world R speaks. -/
def Vd (R : World → Prop) (e : Ending) (w' : World) : Prop := e = .returned (.tuple #[]) ∧ R w'

set_option maxRecDepth 100000 in
set_option maxHeartbeats 4000000 in
theorem store_ret (W : World) (eb : Nat) (a x : Int) (X : Nat → Prop) (hX : ∀ b, X b → b < W.heap.size) (R : Int → World → Prop) (hst : ∀ W1 gf g3 g4 g5, Below W.heap.size W W1 → W.heap.size ≤ g3 → W.heap.size ≤ g4 → W.heap.size ≤ g5 → W1.heap[gf]? = some (.cells #[.func (.func 43) #[] #[.pointer (some ⟨g3, 0, none⟩), .pointer (some ⟨g4, 0, none⟩), .pointer (some ⟨g5, 0, none⟩)]] 80 (0, 0)) → W1.heap[g3]? = some (.cells #[.pointer (some ⟨eb, 0, none⟩)] 71 (0, 0)) → W1.heap[g4]? = some (.cells #[.int .i64 a] 3 (0, 0)) → W1.heap[g5]? = some (.cells #[.int .u64 x] 49 (0, 0)) → Calls Try.prog 41 #[.pointer (some ⟨eb, 0, none⟩), .func (.func 56) #[] #[.pointer (some ⟨gf, 0, none⟩)]] W1 (Ans fun y w' => R y w' ∧ Fr X W1 w')) :
    Calls Try.prog 22 #[.pointer (some ⟨eb, 0, none⟩), .int .i64 a, .int .u64 x] W (Vd fun w' => (∃ y, R y w') ∧ Fr X W w') := by
  have hmf := mkfunc
  have HST := Aside0.mk hst
  clear hst
  have HX := Aside0.mk hX
  clear hX
  obtain ⟨W3, hW3⟩ : ∃ W3, (((W.alloc (.cells #[.pointer (some ⟨eb, 0, none⟩)] 71)).alloc (.cells #[.int .i64 a] 3)).alloc (.cells #[.int .u64 x] 49)) = W3 := ⟨_, rfl⟩
  have HB := Aside0.mk (show Below W.heap.size W W3 from by rw [← hW3]; exact ((((Below.refl _ W).alloc (by first | exact Nat.le_refl _ | (simp; done) | (simp; omega)) _).alloc (by first | exact Nat.le_refl _ | (simp; done) | (simp; omega)) _).alloc (by first | exact Nat.le_refl _ | (simp; done) | (simp; omega)) _))
  have Bg3 := Aside0.mk (show W3.heap[W.heap.size]? = some (.cells #[.pointer (some ⟨eb, 0, none⟩)] 71 (0, 0)) from by rw [← hW3]; exact blk_alloc (blk_alloc (blk_new W _) _) _)
  have Bg4 := Aside0.mk (show W3.heap[(W.heap.size + 1)]? = some (.cells #[.int .i64 a] 3 (0, 0)) from by rw [← hW3]; exact blk_alloc ((by simpa using blk_new ((W).alloc (.cells #[.pointer (some ⟨eb, 0, none⟩)] 71)) _)) _)
  have Bg5 := Aside0.mk (show W3.heap[(W.heap.size + 1 + 1)]? = some (.cells #[.int .u64 x] 49 (0, 0)) from by rw [← hW3]; exact (by simpa using blk_new (((W).alloc (.cells #[.pointer (some ⟨eb, 0, none⟩)] 71)).alloc (.cells #[.int .i64 a] 3)) _))
  have hq := ptr_cell Bg3.out
  go_enter Try.func22, Try.ntmps22
  go_upto_region 1 with fail
  (try rw [hW3])
  clear hW3
  go_region_held3 (fun w' => w'.cell? ⟨W.heap.size, 0, none⟩ = some (.pointer (some ⟨eb, 0, none⟩))) (go_keep)
    (first | (go_at_call 42; refine (always_calls _ 43 #[.pointer (some ⟨W.heap.size, 0, none⟩), .pointer (some ⟨(W.heap.size + 1), 0, none⟩), .pointer (some ⟨(W.heap.size + 1 + 1), 0, none⟩)]).mono ?_; rintro e w4 ⟨gf, rfl, hgf, hcf, hb4'⟩; have hb4 := below_undrew hb4'; clear hb4'; have HB4 := Aside0.mk (HB.out.trans (hb4.mono HB.out.size)); have CF4 := Aside0.mk hcf; clear hcf hgf; have hq4 := ptr_cell (blk_below Bg3.out hb4); have HC4 := Aside0.mk hb4; clear hb4) | (go_at_call 41; refine (HST.out _ gf W.heap.size (W.heap.size + 1) (W.heap.size + 1 + 1) HB4.out (by omega) (by omega) (by omega) CF4.out (blk_below Bg3.out HC4.out) (blk_below Bg4.out HC4.out) (blk_below Bg5.out HC4.out)).mono ?_; rintro e w5 ⟨y, rfl, hR5, hF5⟩; have hq5 := ptr_cell (hF5.keeps (blk_below Bg3.out HC4.out) (fun hx => by have := HX.out _ hx; omega)); have HF5 := Aside0.mk hF5; have HR5 := Aside0.mk hR5; clear hF5 hR5))
  go_wp2_with fail
  go_end0
  exact ⟨rfl, ⟨_, HR5.out⟩, (Fr.of HB4.out).trans HF5.out⟩
set_option maxRecDepth 100000 in
set_option maxHeartbeats 4000000 in
theorem store_pan (W : World) (eb : Nat) (a x : Int) (ch : List PanicEntry) (R : World → Prop) (hst : ∀ W1 gf g3 g4 g5, Below W.heap.size W W1 → W.heap.size ≤ g3 → W.heap.size ≤ g4 → W.heap.size ≤ g5 → W1.heap[gf]? = some (.cells #[.func (.func 43) #[] #[.pointer (some ⟨g3, 0, none⟩), .pointer (some ⟨g4, 0, none⟩), .pointer (some ⟨g5, 0, none⟩)]] 80 (0, 0)) → W1.heap[g3]? = some (.cells #[.pointer (some ⟨eb, 0, none⟩)] 71 (0, 0)) → W1.heap[g4]? = some (.cells #[.int .i64 a] 3 (0, 0)) → W1.heap[g5]? = some (.cells #[.int .u64 x] 49 (0, 0)) → Calls Try.prog 41 #[.pointer (some ⟨eb, 0, none⟩), .func (.func 56) #[] #[.pointer (some ⟨gf, 0, none⟩)]] W1 fun e w' => e = .panicked ch ∧ R w') :
    Calls Try.prog 22 #[.pointer (some ⟨eb, 0, none⟩), .int .i64 a, .int .u64 x] W fun e w' => e = .panicked ch ∧ R w' := by
  have hmf := mkfunc
  have HST := Aside0.mk hst
  clear hst
  obtain ⟨W3, hW3⟩ : ∃ W3, (((W.alloc (.cells #[.pointer (some ⟨eb, 0, none⟩)] 71)).alloc (.cells #[.int .i64 a] 3)).alloc (.cells #[.int .u64 x] 49)) = W3 := ⟨_, rfl⟩
  have HB := Aside0.mk (show Below W.heap.size W W3 from by rw [← hW3]; exact ((((Below.refl _ W).alloc (by first | exact Nat.le_refl _ | (simp; done) | (simp; omega)) _).alloc (by first | exact Nat.le_refl _ | (simp; done) | (simp; omega)) _).alloc (by first | exact Nat.le_refl _ | (simp; done) | (simp; omega)) _))
  have Bg3 := Aside0.mk (show W3.heap[W.heap.size]? = some (.cells #[.pointer (some ⟨eb, 0, none⟩)] 71 (0, 0)) from by rw [← hW3]; exact blk_alloc (blk_alloc (blk_new W _) _) _)
  have Bg4 := Aside0.mk (show W3.heap[(W.heap.size + 1)]? = some (.cells #[.int .i64 a] 3 (0, 0)) from by rw [← hW3]; exact blk_alloc ((by simpa using blk_new ((W).alloc (.cells #[.pointer (some ⟨eb, 0, none⟩)] 71)) _)) _)
  have Bg5 := Aside0.mk (show W3.heap[(W.heap.size + 1 + 1)]? = some (.cells #[.int .u64 x] 49 (0, 0)) from by rw [← hW3]; exact (by simpa using blk_new (((W).alloc (.cells #[.pointer (some ⟨eb, 0, none⟩)] 71)).alloc (.cells #[.int .i64 a] 3)) _))
  have hq := ptr_cell Bg3.out
  go_enter Try.func22, Try.ntmps22
  go_upto_region 1 with fail
  (try rw [hW3])
  clear hW3
  refine wp_region_any (by kernel_rfl) ?_
  change wpAny _ _ _ _ _ _ _ (World.drew _)
  refine wpAny_ready (rs := [0, 1]) (by kernel_rfl) (by simp) ?_
  refine AllReady.cons rfl (fun K hK => ?_) (AllReady.cons rfl (fun K hK => ?_) (AllReady.nil))
  · go_simp
    refine hK _ _ ?_
    clear hK K
    refine wpAny_ready (rs := [1]) (by kernel_rfl) (by simp) ?_
    refine AllReady.cons rfl (fun K hK => ?_) (AllReady.nil)
    · go_simp
      refine hK _ _ ?_
      clear hK K
      refine wpAny_ready (rs := [2]) (by kernel_rfl) (by simp) ?_
      refine AllReady.cons rfl (fun K hK => ?_) (AllReady.nil)
      · go_simp
        (go_at_call 42; refine (always_calls _ 43 #[.pointer (some ⟨W.heap.size, 0, none⟩), .pointer (some ⟨(W.heap.size + 1), 0, none⟩), .pointer (some ⟨(W.heap.size + 1 + 1), 0, none⟩)]).mono ?_; rintro e w4 ⟨gf, rfl, hgf, hcf, hb4'⟩; have hb4 := below_undrew hb4'; clear hb4'; have HB4 := Aside0.mk (HB.out.trans (hb4.mono HB.out.size)); have CF4 := Aside0.mk hcf; clear hcf hgf; have hq4 := ptr_cell (blk_below Bg3.out hb4); have HC4 := Aside0.mk hb4; clear hb4)
        refine hK _ _ ?_
        clear hK K
        refine wpAny_ready (rs := [3]) (by kernel_rfl) (by simp) ?_
        refine AllReady.cons rfl (fun K hK => ?_) (AllReady.nil)
        · go_simp
          (go_at_call 41; refine (HST.out _ gf W.heap.size (W.heap.size + 1) (W.heap.size + 1 + 1) HB4.out (by omega) (by omega) (by omega) CF4.out (blk_below Bg3.out HC4.out) (blk_below Bg4.out HC4.out) (blk_below Bg5.out HC4.out)).mono ?_; rintro e w5 ⟨rfl, hR5⟩; exact ⟨rfl, rfl, hR5⟩)
  · go_simp
    refine hK _ _ ?_
    clear hK K
    refine wpAny_ready (rs := [0, 2]) (by kernel_rfl) (by simp) ?_
    refine AllReady.cons rfl (fun K hK => ?_) (AllReady.cons rfl (fun K hK => ?_) (AllReady.nil))
    · go_simp
      refine hK _ _ ?_
      clear hK K
      refine wpAny_ready (rs := [2]) (by kernel_rfl) (by simp) ?_
      refine AllReady.cons rfl (fun K hK => ?_) (AllReady.nil)
      · go_simp
        (go_at_call 42; refine (always_calls _ 43 #[.pointer (some ⟨W.heap.size, 0, none⟩), .pointer (some ⟨(W.heap.size + 1), 0, none⟩), .pointer (some ⟨(W.heap.size + 1 + 1), 0, none⟩)]).mono ?_; rintro e w4 ⟨gf, rfl, hgf, hcf, hb4'⟩; have hb4 := below_undrew hb4'; clear hb4'; have HB4 := Aside0.mk (HB.out.trans (hb4.mono HB.out.size)); have CF4 := Aside0.mk hcf; clear hcf hgf; have hq4 := ptr_cell (blk_below Bg3.out hb4); have HC4 := Aside0.mk hb4; clear hb4)
        refine hK _ _ ?_
        clear hK K
        refine wpAny_ready (rs := [3]) (by kernel_rfl) (by simp) ?_
        refine AllReady.cons rfl (fun K hK => ?_) (AllReady.nil)
        · go_simp
          (go_at_call 41; refine (HST.out _ gf W.heap.size (W.heap.size + 1) (W.heap.size + 1 + 1) HB4.out (by omega) (by omega) (by omega) CF4.out (blk_below Bg3.out HC4.out) (blk_below Bg4.out HC4.out) (blk_below Bg5.out HC4.out)).mono ?_; rintro e w5 ⟨rfl, hR5⟩; exact ⟨rfl, rfl, hR5⟩)
    · go_simp
      (go_at_call 42; refine (always_calls _ 43 #[.pointer (some ⟨W.heap.size, 0, none⟩), .pointer (some ⟨(W.heap.size + 1), 0, none⟩), .pointer (some ⟨(W.heap.size + 1 + 1), 0, none⟩)]).mono ?_; rintro e w4 ⟨gf, rfl, hgf, hcf, hb4'⟩; have hb4 := below_undrew hb4'; clear hb4'; have HB4 := Aside0.mk (HB.out.trans (hb4.mono HB.out.size)); have CF4 := Aside0.mk hcf; clear hcf hgf; have hq4 := ptr_cell (blk_below Bg3.out hb4); have HC4 := Aside0.mk hb4; clear hb4)
      refine hK _ _ ?_
      clear hK K
      refine wpAny_ready (rs := [0]) (by kernel_rfl) (by simp) ?_
      refine AllReady.cons rfl (fun K hK => ?_) (AllReady.nil)
      · go_simp
        refine hK _ _ ?_
        clear hK K
        refine wpAny_ready (rs := [3]) (by kernel_rfl) (by simp) ?_
        refine AllReady.cons rfl (fun K hK => ?_) (AllReady.nil)
        · go_simp
          (go_at_call 41; refine (HST.out _ gf W.heap.size (W.heap.size + 1) (W.heap.size + 1 + 1) HB4.out (by omega) (by omega) (by omega) CF4.out (blk_below Bg3.out HC4.out) (blk_below Bg4.out HC4.out) (blk_below Bg5.out HC4.out)).mono ?_; rintro e w5 ⟨rfl, hR5⟩; exact ⟨rfl, rfl, hR5⟩)
set_option maxRecDepth 100000 in
set_option maxHeartbeats 4000000 in
theorem load_ret (W : World) (eb : Nat) (a : Int) (X : Nat → Prop) (hX : ∀ b, X b → b < W.heap.size) (R : Int → World → Prop) (hst : ∀ W1 gf g3 g4, Below W.heap.size W W1 → W.heap.size ≤ g3 → W.heap.size ≤ g4 → W1.heap[gf]? = some (.cells #[.func (.func 45) #[] #[.pointer (some ⟨g3, 0, none⟩), .pointer (some ⟨g4, 0, none⟩)]] 80 (0, 0)) → W1.heap[g3]? = some (.cells #[.pointer (some ⟨eb, 0, none⟩)] 71 (0, 0)) → W1.heap[g4]? = some (.cells #[.int .i64 a] 3 (0, 0)) → Calls Try.prog 41 #[.pointer (some ⟨eb, 0, none⟩), .func (.func 56) #[] #[.pointer (some ⟨gf, 0, none⟩)]] W1 (Ans fun y w' => R y w' ∧ Fr X W1 w')) :
    Calls Try.prog 23 #[.pointer (some ⟨eb, 0, none⟩), .int .i64 a] W (Ans fun y w' => R y w' ∧ Fr X W w') := by
  have hmf := mkfunc
  have HST := Aside0.mk hst
  clear hst
  have HX := Aside0.mk hX
  clear hX
  obtain ⟨W3, hW3⟩ : ∃ W3, ((W.alloc (.cells #[.pointer (some ⟨eb, 0, none⟩)] 71)).alloc (.cells #[.int .i64 a] 3)) = W3 := ⟨_, rfl⟩
  have HB := Aside0.mk (show Below W.heap.size W W3 from by rw [← hW3]; exact (((Below.refl _ W).alloc (by first | exact Nat.le_refl _ | (simp; done) | (simp; omega)) _).alloc (by first | exact Nat.le_refl _ | (simp; done) | (simp; omega)) _))
  have Bg3 := Aside0.mk (show W3.heap[W.heap.size]? = some (.cells #[.pointer (some ⟨eb, 0, none⟩)] 71 (0, 0)) from by rw [← hW3]; exact blk_alloc (blk_new W _) _)
  have Bg4 := Aside0.mk (show W3.heap[(W.heap.size + 1)]? = some (.cells #[.int .i64 a] 3 (0, 0)) from by rw [← hW3]; exact (by simpa using blk_new ((W).alloc (.cells #[.pointer (some ⟨eb, 0, none⟩)] 71)) _))
  have hq := ptr_cell Bg3.out
  go_enter Try.func23, Try.ntmps23
  go_upto_region 1 with fail
  (try rw [hW3])
  clear hW3
  go_region_held3 (fun w' => w'.cell? ⟨W.heap.size, 0, none⟩ = some (.pointer (some ⟨eb, 0, none⟩))) (go_keep)
    (first | (go_at_call 42; refine (always_calls _ 45 #[.pointer (some ⟨W.heap.size, 0, none⟩), .pointer (some ⟨(W.heap.size + 1), 0, none⟩)]).mono ?_; rintro e w4 ⟨gf, rfl, hgf, hcf, hb4'⟩; have hb4 := below_undrew hb4'; clear hb4'; have HB4 := Aside0.mk (HB.out.trans (hb4.mono HB.out.size)); have CF4 := Aside0.mk hcf; clear hcf hgf; have hq4 := ptr_cell (blk_below Bg3.out hb4); have HC4 := Aside0.mk hb4; clear hb4) | (go_at_call 41; refine (HST.out _ gf W.heap.size (W.heap.size + 1) HB4.out (by omega) (by omega) CF4.out (blk_below Bg3.out HC4.out) (blk_below Bg4.out HC4.out)).mono ?_; rintro e w5 ⟨y, rfl, hR5, hF5⟩; have hq5 := ptr_cell (hF5.keeps (blk_below Bg3.out HC4.out) (fun hx => by have := HX.out _ hx; omega)); have HF5 := Aside0.mk hF5; have HR5 := Aside0.mk hR5; clear hF5 hR5))
  go_wp2_with fail
  go_ret
  exact ⟨_, rfl, HR5.out, (Fr.of HB4.out).trans HF5.out⟩
set_option maxRecDepth 100000 in
set_option maxHeartbeats 4000000 in
theorem load_pan (W : World) (eb : Nat) (a : Int) (ch : List PanicEntry) (R : World → Prop) (hst : ∀ W1 gf g3 g4, Below W.heap.size W W1 → W.heap.size ≤ g3 → W.heap.size ≤ g4 → W1.heap[gf]? = some (.cells #[.func (.func 45) #[] #[.pointer (some ⟨g3, 0, none⟩), .pointer (some ⟨g4, 0, none⟩)]] 80 (0, 0)) → W1.heap[g3]? = some (.cells #[.pointer (some ⟨eb, 0, none⟩)] 71 (0, 0)) → W1.heap[g4]? = some (.cells #[.int .i64 a] 3 (0, 0)) → Calls Try.prog 41 #[.pointer (some ⟨eb, 0, none⟩), .func (.func 56) #[] #[.pointer (some ⟨gf, 0, none⟩)]] W1 fun e w' => e = .panicked ch ∧ R w') :
    Calls Try.prog 23 #[.pointer (some ⟨eb, 0, none⟩), .int .i64 a] W fun e w' => e = .panicked ch ∧ R w' := by
  have hmf := mkfunc
  have HST := Aside0.mk hst
  clear hst
  obtain ⟨W3, hW3⟩ : ∃ W3, ((W.alloc (.cells #[.pointer (some ⟨eb, 0, none⟩)] 71)).alloc (.cells #[.int .i64 a] 3)) = W3 := ⟨_, rfl⟩
  have HB := Aside0.mk (show Below W.heap.size W W3 from by rw [← hW3]; exact (((Below.refl _ W).alloc (by first | exact Nat.le_refl _ | (simp; done) | (simp; omega)) _).alloc (by first | exact Nat.le_refl _ | (simp; done) | (simp; omega)) _))
  have Bg3 := Aside0.mk (show W3.heap[W.heap.size]? = some (.cells #[.pointer (some ⟨eb, 0, none⟩)] 71 (0, 0)) from by rw [← hW3]; exact blk_alloc (blk_new W _) _)
  have Bg4 := Aside0.mk (show W3.heap[(W.heap.size + 1)]? = some (.cells #[.int .i64 a] 3 (0, 0)) from by rw [← hW3]; exact (by simpa using blk_new ((W).alloc (.cells #[.pointer (some ⟨eb, 0, none⟩)] 71)) _))
  have hq := ptr_cell Bg3.out
  go_enter Try.func23, Try.ntmps23
  go_upto_region 1 with fail
  (try rw [hW3])
  clear hW3
  refine wp_region_any (by kernel_rfl) ?_
  change wpAny _ _ _ _ _ _ _ (World.drew _)
  refine wpAny_ready (rs := [0, 1]) (by kernel_rfl) (by simp) ?_
  refine AllReady.cons rfl (fun K hK => ?_) (AllReady.cons rfl (fun K hK => ?_) (AllReady.nil))
  · go_simp
    refine hK _ _ ?_
    clear hK K
    refine wpAny_ready (rs := [1]) (by kernel_rfl) (by simp) ?_
    refine AllReady.cons rfl (fun K hK => ?_) (AllReady.nil)
    · go_simp
      refine hK _ _ ?_
      clear hK K
      refine wpAny_ready (rs := [2]) (by kernel_rfl) (by simp) ?_
      refine AllReady.cons rfl (fun K hK => ?_) (AllReady.nil)
      · go_simp
        (go_at_call 42; refine (always_calls _ 45 #[.pointer (some ⟨W.heap.size, 0, none⟩), .pointer (some ⟨(W.heap.size + 1), 0, none⟩)]).mono ?_; rintro e w4 ⟨gf, rfl, hgf, hcf, hb4'⟩; have hb4 := below_undrew hb4'; clear hb4'; have HB4 := Aside0.mk (HB.out.trans (hb4.mono HB.out.size)); have CF4 := Aside0.mk hcf; clear hcf hgf; have hq4 := ptr_cell (blk_below Bg3.out hb4); have HC4 := Aside0.mk hb4; clear hb4)
        refine hK _ _ ?_
        clear hK K
        refine wpAny_ready (rs := [3]) (by kernel_rfl) (by simp) ?_
        refine AllReady.cons rfl (fun K hK => ?_) (AllReady.nil)
        · go_simp
          (go_at_call 41; refine (HST.out _ gf W.heap.size (W.heap.size + 1) HB4.out (by omega) (by omega) CF4.out (blk_below Bg3.out HC4.out) (blk_below Bg4.out HC4.out)).mono ?_; rintro e w5 ⟨rfl, hR5⟩; exact ⟨rfl, rfl, hR5⟩)
  · go_simp
    refine hK _ _ ?_
    clear hK K
    refine wpAny_ready (rs := [0, 2]) (by kernel_rfl) (by simp) ?_
    refine AllReady.cons rfl (fun K hK => ?_) (AllReady.cons rfl (fun K hK => ?_) (AllReady.nil))
    · go_simp
      refine hK _ _ ?_
      clear hK K
      refine wpAny_ready (rs := [2]) (by kernel_rfl) (by simp) ?_
      refine AllReady.cons rfl (fun K hK => ?_) (AllReady.nil)
      · go_simp
        (go_at_call 42; refine (always_calls _ 45 #[.pointer (some ⟨W.heap.size, 0, none⟩), .pointer (some ⟨(W.heap.size + 1), 0, none⟩)]).mono ?_; rintro e w4 ⟨gf, rfl, hgf, hcf, hb4'⟩; have hb4 := below_undrew hb4'; clear hb4'; have HB4 := Aside0.mk (HB.out.trans (hb4.mono HB.out.size)); have CF4 := Aside0.mk hcf; clear hcf hgf; have hq4 := ptr_cell (blk_below Bg3.out hb4); have HC4 := Aside0.mk hb4; clear hb4)
        refine hK _ _ ?_
        clear hK K
        refine wpAny_ready (rs := [3]) (by kernel_rfl) (by simp) ?_
        refine AllReady.cons rfl (fun K hK => ?_) (AllReady.nil)
        · go_simp
          (go_at_call 41; refine (HST.out _ gf W.heap.size (W.heap.size + 1) HB4.out (by omega) (by omega) CF4.out (blk_below Bg3.out HC4.out) (blk_below Bg4.out HC4.out)).mono ?_; rintro e w5 ⟨rfl, hR5⟩; exact ⟨rfl, rfl, hR5⟩)
    · go_simp
      (go_at_call 42; refine (always_calls _ 45 #[.pointer (some ⟨W.heap.size, 0, none⟩), .pointer (some ⟨(W.heap.size + 1), 0, none⟩)]).mono ?_; rintro e w4 ⟨gf, rfl, hgf, hcf, hb4'⟩; have hb4 := below_undrew hb4'; clear hb4'; have HB4 := Aside0.mk (HB.out.trans (hb4.mono HB.out.size)); have CF4 := Aside0.mk hcf; clear hcf hgf; have hq4 := ptr_cell (blk_below Bg3.out hb4); have HC4 := Aside0.mk hb4; clear hb4)
      refine hK _ _ ?_
      clear hK K
      refine wpAny_ready (rs := [0]) (by kernel_rfl) (by simp) ?_
      refine AllReady.cons rfl (fun K hK => ?_) (AllReady.nil)
      · go_simp
        refine hK _ _ ?_
        clear hK K
        refine wpAny_ready (rs := [3]) (by kernel_rfl) (by simp) ?_
        refine AllReady.cons rfl (fun K hK => ?_) (AllReady.nil)
        · go_simp
          (go_at_call 41; refine (HST.out _ gf W.heap.size (W.heap.size + 1) HB4.out (by omega) (by omega) CF4.out (blk_below Bg3.out HC4.out) (blk_below Bg4.out HC4.out)).mono ?_; rintro e w5 ⟨rfl, hR5⟩; exact ⟨rfl, rfl, hR5⟩)
set_option maxRecDepth 100000 in
set_option maxHeartbeats 4000000 in
theorem flush_ret (W : World) (eb : Nat) (a : Int) (X : Nat → Prop) (hX : ∀ b, X b → b < W.heap.size) (R : Int → World → Prop) (hst : ∀ W1 gf g3 g4, Below W.heap.size W W1 → W.heap.size ≤ g3 → W.heap.size ≤ g4 → W1.heap[gf]? = some (.cells #[.func (.func 47) #[] #[.pointer (some ⟨g3, 0, none⟩), .pointer (some ⟨g4, 0, none⟩)]] 80 (0, 0)) → W1.heap[g3]? = some (.cells #[.pointer (some ⟨eb, 0, none⟩)] 71 (0, 0)) → W1.heap[g4]? = some (.cells #[.int .i64 a] 3 (0, 0)) → Calls Try.prog 41 #[.pointer (some ⟨eb, 0, none⟩), .func (.func 56) #[] #[.pointer (some ⟨gf, 0, none⟩)]] W1 (Ans fun y w' => R y w' ∧ Fr X W1 w')) :
    Calls Try.prog 24 #[.pointer (some ⟨eb, 0, none⟩), .int .i64 a] W (Vd fun w' => (∃ y, R y w') ∧ Fr X W w') := by
  have hmf := mkfunc
  have HST := Aside0.mk hst
  clear hst
  have HX := Aside0.mk hX
  clear hX
  obtain ⟨W3, hW3⟩ : ∃ W3, ((W.alloc (.cells #[.pointer (some ⟨eb, 0, none⟩)] 71)).alloc (.cells #[.int .i64 a] 3)) = W3 := ⟨_, rfl⟩
  have HB := Aside0.mk (show Below W.heap.size W W3 from by rw [← hW3]; exact (((Below.refl _ W).alloc (by first | exact Nat.le_refl _ | (simp; done) | (simp; omega)) _).alloc (by first | exact Nat.le_refl _ | (simp; done) | (simp; omega)) _))
  have Bg3 := Aside0.mk (show W3.heap[W.heap.size]? = some (.cells #[.pointer (some ⟨eb, 0, none⟩)] 71 (0, 0)) from by rw [← hW3]; exact blk_alloc (blk_new W _) _)
  have Bg4 := Aside0.mk (show W3.heap[(W.heap.size + 1)]? = some (.cells #[.int .i64 a] 3 (0, 0)) from by rw [← hW3]; exact (by simpa using blk_new ((W).alloc (.cells #[.pointer (some ⟨eb, 0, none⟩)] 71)) _))
  have hq := ptr_cell Bg3.out
  go_enter Try.func24, Try.ntmps24
  go_upto_region 1 with fail
  (try rw [hW3])
  clear hW3
  go_region_held3 (fun w' => w'.cell? ⟨W.heap.size, 0, none⟩ = some (.pointer (some ⟨eb, 0, none⟩))) (go_keep)
    (first | (go_at_call 42; refine (always_calls _ 47 #[.pointer (some ⟨W.heap.size, 0, none⟩), .pointer (some ⟨(W.heap.size + 1), 0, none⟩)]).mono ?_; rintro e w4 ⟨gf, rfl, hgf, hcf, hb4'⟩; have hb4 := below_undrew hb4'; clear hb4'; have HB4 := Aside0.mk (HB.out.trans (hb4.mono HB.out.size)); have CF4 := Aside0.mk hcf; clear hcf hgf; have hq4 := ptr_cell (blk_below Bg3.out hb4); have HC4 := Aside0.mk hb4; clear hb4) | (go_at_call 41; refine (HST.out _ gf W.heap.size (W.heap.size + 1) HB4.out (by omega) (by omega) CF4.out (blk_below Bg3.out HC4.out) (blk_below Bg4.out HC4.out)).mono ?_; rintro e w5 ⟨y, rfl, hR5, hF5⟩; have hq5 := ptr_cell (hF5.keeps (blk_below Bg3.out HC4.out) (fun hx => by have := HX.out _ hx; omega)); have HF5 := Aside0.mk hF5; have HR5 := Aside0.mk hR5; clear hF5 hR5))
  go_wp2_with fail
  go_end0
  exact ⟨rfl, ⟨_, HR5.out⟩, (Fr.of HB4.out).trans HF5.out⟩
set_option maxRecDepth 100000 in
set_option maxHeartbeats 4000000 in
theorem flush_pan (W : World) (eb : Nat) (a : Int) (ch : List PanicEntry) (R : World → Prop) (hst : ∀ W1 gf g3 g4, Below W.heap.size W W1 → W.heap.size ≤ g3 → W.heap.size ≤ g4 → W1.heap[gf]? = some (.cells #[.func (.func 47) #[] #[.pointer (some ⟨g3, 0, none⟩), .pointer (some ⟨g4, 0, none⟩)]] 80 (0, 0)) → W1.heap[g3]? = some (.cells #[.pointer (some ⟨eb, 0, none⟩)] 71 (0, 0)) → W1.heap[g4]? = some (.cells #[.int .i64 a] 3 (0, 0)) → Calls Try.prog 41 #[.pointer (some ⟨eb, 0, none⟩), .func (.func 56) #[] #[.pointer (some ⟨gf, 0, none⟩)]] W1 fun e w' => e = .panicked ch ∧ R w') :
    Calls Try.prog 24 #[.pointer (some ⟨eb, 0, none⟩), .int .i64 a] W fun e w' => e = .panicked ch ∧ R w' := by
  have hmf := mkfunc
  have HST := Aside0.mk hst
  clear hst
  obtain ⟨W3, hW3⟩ : ∃ W3, ((W.alloc (.cells #[.pointer (some ⟨eb, 0, none⟩)] 71)).alloc (.cells #[.int .i64 a] 3)) = W3 := ⟨_, rfl⟩
  have HB := Aside0.mk (show Below W.heap.size W W3 from by rw [← hW3]; exact (((Below.refl _ W).alloc (by first | exact Nat.le_refl _ | (simp; done) | (simp; omega)) _).alloc (by first | exact Nat.le_refl _ | (simp; done) | (simp; omega)) _))
  have Bg3 := Aside0.mk (show W3.heap[W.heap.size]? = some (.cells #[.pointer (some ⟨eb, 0, none⟩)] 71 (0, 0)) from by rw [← hW3]; exact blk_alloc (blk_new W _) _)
  have Bg4 := Aside0.mk (show W3.heap[(W.heap.size + 1)]? = some (.cells #[.int .i64 a] 3 (0, 0)) from by rw [← hW3]; exact (by simpa using blk_new ((W).alloc (.cells #[.pointer (some ⟨eb, 0, none⟩)] 71)) _))
  have hq := ptr_cell Bg3.out
  go_enter Try.func24, Try.ntmps24
  go_upto_region 1 with fail
  (try rw [hW3])
  clear hW3
  refine wp_region_any (by kernel_rfl) ?_
  change wpAny _ _ _ _ _ _ _ (World.drew _)
  refine wpAny_ready (rs := [0, 1]) (by kernel_rfl) (by simp) ?_
  refine AllReady.cons rfl (fun K hK => ?_) (AllReady.cons rfl (fun K hK => ?_) (AllReady.nil))
  · go_simp
    refine hK _ _ ?_
    clear hK K
    refine wpAny_ready (rs := [1]) (by kernel_rfl) (by simp) ?_
    refine AllReady.cons rfl (fun K hK => ?_) (AllReady.nil)
    · go_simp
      refine hK _ _ ?_
      clear hK K
      refine wpAny_ready (rs := [2]) (by kernel_rfl) (by simp) ?_
      refine AllReady.cons rfl (fun K hK => ?_) (AllReady.nil)
      · go_simp
        (go_at_call 42; refine (always_calls _ 47 #[.pointer (some ⟨W.heap.size, 0, none⟩), .pointer (some ⟨(W.heap.size + 1), 0, none⟩)]).mono ?_; rintro e w4 ⟨gf, rfl, hgf, hcf, hb4'⟩; have hb4 := below_undrew hb4'; clear hb4'; have HB4 := Aside0.mk (HB.out.trans (hb4.mono HB.out.size)); have CF4 := Aside0.mk hcf; clear hcf hgf; have hq4 := ptr_cell (blk_below Bg3.out hb4); have HC4 := Aside0.mk hb4; clear hb4)
        refine hK _ _ ?_
        clear hK K
        refine wpAny_ready (rs := [3]) (by kernel_rfl) (by simp) ?_
        refine AllReady.cons rfl (fun K hK => ?_) (AllReady.nil)
        · go_simp
          (go_at_call 41; refine (HST.out _ gf W.heap.size (W.heap.size + 1) HB4.out (by omega) (by omega) CF4.out (blk_below Bg3.out HC4.out) (blk_below Bg4.out HC4.out)).mono ?_; rintro e w5 ⟨rfl, hR5⟩; exact ⟨rfl, rfl, hR5⟩)
  · go_simp
    refine hK _ _ ?_
    clear hK K
    refine wpAny_ready (rs := [0, 2]) (by kernel_rfl) (by simp) ?_
    refine AllReady.cons rfl (fun K hK => ?_) (AllReady.cons rfl (fun K hK => ?_) (AllReady.nil))
    · go_simp
      refine hK _ _ ?_
      clear hK K
      refine wpAny_ready (rs := [2]) (by kernel_rfl) (by simp) ?_
      refine AllReady.cons rfl (fun K hK => ?_) (AllReady.nil)
      · go_simp
        (go_at_call 42; refine (always_calls _ 47 #[.pointer (some ⟨W.heap.size, 0, none⟩), .pointer (some ⟨(W.heap.size + 1), 0, none⟩)]).mono ?_; rintro e w4 ⟨gf, rfl, hgf, hcf, hb4'⟩; have hb4 := below_undrew hb4'; clear hb4'; have HB4 := Aside0.mk (HB.out.trans (hb4.mono HB.out.size)); have CF4 := Aside0.mk hcf; clear hcf hgf; have hq4 := ptr_cell (blk_below Bg3.out hb4); have HC4 := Aside0.mk hb4; clear hb4)
        refine hK _ _ ?_
        clear hK K
        refine wpAny_ready (rs := [3]) (by kernel_rfl) (by simp) ?_
        refine AllReady.cons rfl (fun K hK => ?_) (AllReady.nil)
        · go_simp
          (go_at_call 41; refine (HST.out _ gf W.heap.size (W.heap.size + 1) HB4.out (by omega) (by omega) CF4.out (blk_below Bg3.out HC4.out) (blk_below Bg4.out HC4.out)).mono ?_; rintro e w5 ⟨rfl, hR5⟩; exact ⟨rfl, rfl, hR5⟩)
    · go_simp
      (go_at_call 42; refine (always_calls _ 47 #[.pointer (some ⟨W.heap.size, 0, none⟩), .pointer (some ⟨(W.heap.size + 1), 0, none⟩)]).mono ?_; rintro e w4 ⟨gf, rfl, hgf, hcf, hb4'⟩; have hb4 := below_undrew hb4'; clear hb4'; have HB4 := Aside0.mk (HB.out.trans (hb4.mono HB.out.size)); have CF4 := Aside0.mk hcf; clear hcf hgf; have hq4 := ptr_cell (blk_below Bg3.out hb4); have HC4 := Aside0.mk hb4; clear hb4)
      refine hK _ _ ?_
      clear hK K
      refine wpAny_ready (rs := [0]) (by kernel_rfl) (by simp) ?_
      refine AllReady.cons rfl (fun K hK => ?_) (AllReady.nil)
      · go_simp
        refine hK _ _ ?_
        clear hK K
        refine wpAny_ready (rs := [3]) (by kernel_rfl) (by simp) ?_
        refine AllReady.cons rfl (fun K hK => ?_) (AllReady.nil)
        · go_simp
          (go_at_call 41; refine (HST.out _ gf W.heap.size (W.heap.size + 1) HB4.out (by omega) (by omega) CF4.out (blk_below Bg3.out HC4.out) (blk_below Bg4.out HC4.out)).mono ?_; rintro e w5 ⟨rfl, hR5⟩; exact ⟨rfl, rfl, hR5⟩)
set_option maxRecDepth 100000 in
set_option maxHeartbeats 4000000 in
theorem fence_ret (W : World) (eb : Nat)  (X : Nat → Prop) (hX : ∀ b, X b → b < W.heap.size) (R : Int → World → Prop) (hst : ∀ W1 gf g3, Below W.heap.size W W1 → W.heap.size ≤ g3 → W1.heap[gf]? = some (.cells #[.func (.func 49) #[] #[.pointer (some ⟨g3, 0, none⟩)]] 80 (0, 0)) → W1.heap[g3]? = some (.cells #[.pointer (some ⟨eb, 0, none⟩)] 71 (0, 0)) → Calls Try.prog 41 #[.pointer (some ⟨eb, 0, none⟩), .func (.func 56) #[] #[.pointer (some ⟨gf, 0, none⟩)]] W1 (Ans fun y w' => R y w' ∧ Fr X W1 w')) :
    Calls Try.prog 25 #[.pointer (some ⟨eb, 0, none⟩)] W (Vd fun w' => (∃ y, R y w') ∧ Fr X W w') := by
  have hmf := mkfunc
  have HST := Aside0.mk hst
  clear hst
  have HX := Aside0.mk hX
  clear hX
  obtain ⟨W3, hW3⟩ : ∃ W3, (W.alloc (.cells #[.pointer (some ⟨eb, 0, none⟩)] 71)) = W3 := ⟨_, rfl⟩
  have HB := Aside0.mk (show Below W.heap.size W W3 from by rw [← hW3]; exact ((Below.refl _ W).alloc (by first | exact Nat.le_refl _ | (simp; done) | (simp; omega)) _))
  have Bg3 := Aside0.mk (show W3.heap[W.heap.size]? = some (.cells #[.pointer (some ⟨eb, 0, none⟩)] 71 (0, 0)) from by rw [← hW3]; exact blk_new W _)
  have hq := ptr_cell Bg3.out
  go_enter Try.func25, Try.ntmps25
  go_upto_region 1 with fail
  (try rw [hW3])
  clear hW3
  go_region_held3 (fun w' => w'.cell? ⟨W.heap.size, 0, none⟩ = some (.pointer (some ⟨eb, 0, none⟩))) (go_keep)
    (first | (go_at_call 42; refine (always_calls _ 49 #[.pointer (some ⟨W.heap.size, 0, none⟩)]).mono ?_; rintro e w4 ⟨gf, rfl, hgf, hcf, hb4'⟩; have hb4 := below_undrew hb4'; clear hb4'; have HB4 := Aside0.mk (HB.out.trans (hb4.mono HB.out.size)); have CF4 := Aside0.mk hcf; clear hcf hgf; have hq4 := ptr_cell (blk_below Bg3.out hb4); have HC4 := Aside0.mk hb4; clear hb4) | (go_at_call 41; refine (HST.out _ gf W.heap.size HB4.out (by omega) CF4.out (blk_below Bg3.out HC4.out)).mono ?_; rintro e w5 ⟨y, rfl, hR5, hF5⟩; have hq5 := ptr_cell (hF5.keeps (blk_below Bg3.out HC4.out) (fun hx => by have := HX.out _ hx; omega)); have HF5 := Aside0.mk hF5; have HR5 := Aside0.mk hR5; clear hF5 hR5))
  go_wp2_with fail
  go_end0
  exact ⟨rfl, ⟨_, HR5.out⟩, (Fr.of HB4.out).trans HF5.out⟩
set_option maxRecDepth 100000 in
set_option maxHeartbeats 4000000 in
theorem fence_pan (W : World) (eb : Nat)  (ch : List PanicEntry) (R : World → Prop) (hst : ∀ W1 gf g3, Below W.heap.size W W1 → W.heap.size ≤ g3 → W1.heap[gf]? = some (.cells #[.func (.func 49) #[] #[.pointer (some ⟨g3, 0, none⟩)]] 80 (0, 0)) → W1.heap[g3]? = some (.cells #[.pointer (some ⟨eb, 0, none⟩)] 71 (0, 0)) → Calls Try.prog 41 #[.pointer (some ⟨eb, 0, none⟩), .func (.func 56) #[] #[.pointer (some ⟨gf, 0, none⟩)]] W1 fun e w' => e = .panicked ch ∧ R w') :
    Calls Try.prog 25 #[.pointer (some ⟨eb, 0, none⟩)] W fun e w' => e = .panicked ch ∧ R w' := by
  have hmf := mkfunc
  have HST := Aside0.mk hst
  clear hst
  obtain ⟨W3, hW3⟩ : ∃ W3, (W.alloc (.cells #[.pointer (some ⟨eb, 0, none⟩)] 71)) = W3 := ⟨_, rfl⟩
  have HB := Aside0.mk (show Below W.heap.size W W3 from by rw [← hW3]; exact ((Below.refl _ W).alloc (by first | exact Nat.le_refl _ | (simp; done) | (simp; omega)) _))
  have Bg3 := Aside0.mk (show W3.heap[W.heap.size]? = some (.cells #[.pointer (some ⟨eb, 0, none⟩)] 71 (0, 0)) from by rw [← hW3]; exact blk_new W _)
  have hq := ptr_cell Bg3.out
  go_enter Try.func25, Try.ntmps25
  go_upto_region 1 with fail
  (try rw [hW3])
  clear hW3
  refine wp_region_any (by kernel_rfl) ?_
  change wpAny _ _ _ _ _ _ _ (World.drew _)
  refine wpAny_ready (rs := [0, 1]) (by kernel_rfl) (by simp) ?_
  refine AllReady.cons rfl (fun K hK => ?_) (AllReady.cons rfl (fun K hK => ?_) (AllReady.nil))
  · go_simp
    refine hK _ _ ?_
    clear hK K
    refine wpAny_ready (rs := [1]) (by kernel_rfl) (by simp) ?_
    refine AllReady.cons rfl (fun K hK => ?_) (AllReady.nil)
    · go_simp
      refine hK _ _ ?_
      clear hK K
      refine wpAny_ready (rs := [2]) (by kernel_rfl) (by simp) ?_
      refine AllReady.cons rfl (fun K hK => ?_) (AllReady.nil)
      · go_simp
        (go_at_call 42; refine (always_calls _ 49 #[.pointer (some ⟨W.heap.size, 0, none⟩)]).mono ?_; rintro e w4 ⟨gf, rfl, hgf, hcf, hb4'⟩; have hb4 := below_undrew hb4'; clear hb4'; have HB4 := Aside0.mk (HB.out.trans (hb4.mono HB.out.size)); have CF4 := Aside0.mk hcf; clear hcf hgf; have hq4 := ptr_cell (blk_below Bg3.out hb4); have HC4 := Aside0.mk hb4; clear hb4)
        refine hK _ _ ?_
        clear hK K
        refine wpAny_ready (rs := [3]) (by kernel_rfl) (by simp) ?_
        refine AllReady.cons rfl (fun K hK => ?_) (AllReady.nil)
        · go_simp
          (go_at_call 41; refine (HST.out _ gf W.heap.size HB4.out (by omega) CF4.out (blk_below Bg3.out HC4.out)).mono ?_; rintro e w5 ⟨rfl, hR5⟩; exact ⟨rfl, rfl, hR5⟩)
  · go_simp
    refine hK _ _ ?_
    clear hK K
    refine wpAny_ready (rs := [0, 2]) (by kernel_rfl) (by simp) ?_
    refine AllReady.cons rfl (fun K hK => ?_) (AllReady.cons rfl (fun K hK => ?_) (AllReady.nil))
    · go_simp
      refine hK _ _ ?_
      clear hK K
      refine wpAny_ready (rs := [2]) (by kernel_rfl) (by simp) ?_
      refine AllReady.cons rfl (fun K hK => ?_) (AllReady.nil)
      · go_simp
        (go_at_call 42; refine (always_calls _ 49 #[.pointer (some ⟨W.heap.size, 0, none⟩)]).mono ?_; rintro e w4 ⟨gf, rfl, hgf, hcf, hb4'⟩; have hb4 := below_undrew hb4'; clear hb4'; have HB4 := Aside0.mk (HB.out.trans (hb4.mono HB.out.size)); have CF4 := Aside0.mk hcf; clear hcf hgf; have hq4 := ptr_cell (blk_below Bg3.out hb4); have HC4 := Aside0.mk hb4; clear hb4)
        refine hK _ _ ?_
        clear hK K
        refine wpAny_ready (rs := [3]) (by kernel_rfl) (by simp) ?_
        refine AllReady.cons rfl (fun K hK => ?_) (AllReady.nil)
        · go_simp
          (go_at_call 41; refine (HST.out _ gf W.heap.size HB4.out (by omega) CF4.out (blk_below Bg3.out HC4.out)).mono ?_; rintro e w5 ⟨rfl, hR5⟩; exact ⟨rfl, rfl, hR5⟩)
    · go_simp
      (go_at_call 42; refine (always_calls _ 49 #[.pointer (some ⟨W.heap.size, 0, none⟩)]).mono ?_; rintro e w4 ⟨gf, rfl, hgf, hcf, hb4'⟩; have hb4 := below_undrew hb4'; clear hb4'; have HB4 := Aside0.mk (HB.out.trans (hb4.mono HB.out.size)); have CF4 := Aside0.mk hcf; clear hcf hgf; have hq4 := ptr_cell (blk_below Bg3.out hb4); have HC4 := Aside0.mk hb4; clear hb4)
      refine hK _ _ ?_
      clear hK K
      refine wpAny_ready (rs := [0]) (by kernel_rfl) (by simp) ?_
      refine AllReady.cons rfl (fun K hK => ?_) (AllReady.nil)
      · go_simp
        refine hK _ _ ?_
        clear hK K
        refine wpAny_ready (rs := [3]) (by kernel_rfl) (by simp) ?_
        refine AllReady.cons rfl (fun K hK => ?_) (AllReady.nil)
        · go_simp
          (go_at_call 41; refine (HST.out _ gf W.heap.size HB4.out (by omega) CF4.out (blk_below Bg3.out HC4.out)).mono ?_; rintro e w5 ⟨rfl, hR5⟩; exact ⟨rfl, rfl, hR5⟩)
set_option maxRecDepth 100000 in
set_option maxHeartbeats 4000000 in
theorem lock_ret (W : World) (eb : Nat) (a : Int) (X : Nat → Prop) (hX : ∀ b, X b → b < W.heap.size) (R : Int → World → Prop) (hst : ∀ W1 g3 g4, Below W.heap.size W W1 → W.heap.size ≤ g3 → W.heap.size ≤ g4 → W1.heap[g3]? = some (.cells #[.pointer (some ⟨eb, 0, none⟩)] 71 (0, 0)) → W1.heap[g4]? = some (.cells #[.int .i64 a] 3 (0, 0)) → Calls Try.prog 41 #[.pointer (some ⟨eb, 0, none⟩), .func (.func 51) #[] #[.pointer (some ⟨g3, 0, none⟩), .pointer (some ⟨g4, 0, none⟩)]] W1 (Ans fun y w' => R y w' ∧ Fr X W1 w')) :
    Calls Try.prog 26 #[.pointer (some ⟨eb, 0, none⟩), .int .i64 a] W (Vd fun w' => (∃ y, R y w') ∧ Fr X W w') := by
  have hmf := mkfunc
  have HST := Aside0.mk hst
  clear hst
  have HX := Aside0.mk hX
  clear hX
  obtain ⟨W3, hW3⟩ : ∃ W3, ((W.alloc (.cells #[.pointer (some ⟨eb, 0, none⟩)] 71)).alloc (.cells #[.int .i64 a] 3)) = W3 := ⟨_, rfl⟩
  have HB := Aside0.mk (show Below W.heap.size W W3 from by rw [← hW3]; exact (((Below.refl _ W).alloc (by first | exact Nat.le_refl _ | (simp; done) | (simp; omega)) _).alloc (by first | exact Nat.le_refl _ | (simp; done) | (simp; omega)) _))
  have Bg3 := Aside0.mk (show W3.heap[W.heap.size]? = some (.cells #[.pointer (some ⟨eb, 0, none⟩)] 71 (0, 0)) from by rw [← hW3]; exact blk_alloc (blk_new W _) _)
  have Bg4 := Aside0.mk (show W3.heap[(W.heap.size + 1)]? = some (.cells #[.int .i64 a] 3 (0, 0)) from by rw [← hW3]; exact (by simpa using blk_new ((W).alloc (.cells #[.pointer (some ⟨eb, 0, none⟩)] 71)) _))
  have hq := ptr_cell Bg3.out
  go_enter Try.func26, Try.ntmps26
  go_upto_region 1 with fail
  (try rw [hW3])
  clear hW3
  go_wp2_with (first | (go_at_call 41; refine (HST.out _ W.heap.size (W.heap.size + 1) HB.out (by omega) (by omega)  Bg3.out Bg4.out).mono ?_; rintro e w5 ⟨y, rfl, hR5, hF5⟩; have hq5 := ptr_cell (hF5.keeps Bg3.out (fun hx => by have := HX.out _ hx; omega)); have HF5 := Aside0.mk hF5; have HR5 := Aside0.mk hR5; clear hF5 hR5))
  go_end0
  exact ⟨rfl, ⟨_, HR5.out⟩, (Fr.of HB.out).trans HF5.out⟩
set_option maxRecDepth 100000 in
set_option maxHeartbeats 4000000 in
theorem lock_pan (W : World) (eb : Nat) (a : Int) (ch : List PanicEntry) (R : World → Prop) (hst : ∀ W1 g3 g4, Below W.heap.size W W1 → W.heap.size ≤ g3 → W.heap.size ≤ g4 → W1.heap[g3]? = some (.cells #[.pointer (some ⟨eb, 0, none⟩)] 71 (0, 0)) → W1.heap[g4]? = some (.cells #[.int .i64 a] 3 (0, 0)) → Calls Try.prog 41 #[.pointer (some ⟨eb, 0, none⟩), .func (.func 51) #[] #[.pointer (some ⟨g3, 0, none⟩), .pointer (some ⟨g4, 0, none⟩)]] W1 fun e w' => e = .panicked ch ∧ R w') :
    Calls Try.prog 26 #[.pointer (some ⟨eb, 0, none⟩), .int .i64 a] W fun e w' => e = .panicked ch ∧ R w' := by
  have hmf := mkfunc
  have HST := Aside0.mk hst
  clear hst
  obtain ⟨W3, hW3⟩ : ∃ W3, ((W.alloc (.cells #[.pointer (some ⟨eb, 0, none⟩)] 71)).alloc (.cells #[.int .i64 a] 3)) = W3 := ⟨_, rfl⟩
  have HB := Aside0.mk (show Below W.heap.size W W3 from by rw [← hW3]; exact (((Below.refl _ W).alloc (by first | exact Nat.le_refl _ | (simp; done) | (simp; omega)) _).alloc (by first | exact Nat.le_refl _ | (simp; done) | (simp; omega)) _))
  have Bg3 := Aside0.mk (show W3.heap[W.heap.size]? = some (.cells #[.pointer (some ⟨eb, 0, none⟩)] 71 (0, 0)) from by rw [← hW3]; exact blk_alloc (blk_new W _) _)
  have Bg4 := Aside0.mk (show W3.heap[(W.heap.size + 1)]? = some (.cells #[.int .i64 a] 3 (0, 0)) from by rw [← hW3]; exact (by simpa using blk_new ((W).alloc (.cells #[.pointer (some ⟨eb, 0, none⟩)] 71)) _))
  have hq := ptr_cell Bg3.out
  go_enter Try.func26, Try.ntmps26
  go_upto_region 1 with fail
  (try rw [hW3])
  clear hW3
  go_wp2_with (first | (go_at_call 41; refine (HST.out _ W.heap.size (W.heap.size + 1) HB.out (by omega) (by omega)  Bg3.out Bg4.out).mono ?_; rintro e w5 ⟨rfl, hR5⟩))
  exact ⟨rfl, rfl, hR5⟩
set_option maxRecDepth 100000 in
set_option maxHeartbeats 4000000 in
theorem unlock_ret (W : World) (eb : Nat) (a : Int) (X : Nat → Prop) (hX : ∀ b, X b → b < W.heap.size) (R : Int → World → Prop) (hst : ∀ W1 gf g3 g4, Below W.heap.size W W1 → W.heap.size ≤ g3 → W.heap.size ≤ g4 → W1.heap[gf]? = some (.cells #[.func (.func 53) #[] #[.pointer (some ⟨g3, 0, none⟩), .pointer (some ⟨g4, 0, none⟩)]] 80 (0, 0)) → W1.heap[g3]? = some (.cells #[.pointer (some ⟨eb, 0, none⟩)] 71 (0, 0)) → W1.heap[g4]? = some (.cells #[.int .i64 a] 3 (0, 0)) → Calls Try.prog 41 #[.pointer (some ⟨eb, 0, none⟩), .func (.func 56) #[] #[.pointer (some ⟨gf, 0, none⟩)]] W1 (Ans fun y w' => R y w' ∧ Fr X W1 w')) :
    Calls Try.prog 27 #[.pointer (some ⟨eb, 0, none⟩), .int .i64 a] W (Vd fun w' => (∃ y, R y w') ∧ Fr X W w') := by
  have hmf := mkfunc
  have HST := Aside0.mk hst
  clear hst
  have HX := Aside0.mk hX
  clear hX
  obtain ⟨W3, hW3⟩ : ∃ W3, ((W.alloc (.cells #[.pointer (some ⟨eb, 0, none⟩)] 71)).alloc (.cells #[.int .i64 a] 3)) = W3 := ⟨_, rfl⟩
  have HB := Aside0.mk (show Below W.heap.size W W3 from by rw [← hW3]; exact (((Below.refl _ W).alloc (by first | exact Nat.le_refl _ | (simp; done) | (simp; omega)) _).alloc (by first | exact Nat.le_refl _ | (simp; done) | (simp; omega)) _))
  have Bg3 := Aside0.mk (show W3.heap[W.heap.size]? = some (.cells #[.pointer (some ⟨eb, 0, none⟩)] 71 (0, 0)) from by rw [← hW3]; exact blk_alloc (blk_new W _) _)
  have Bg4 := Aside0.mk (show W3.heap[(W.heap.size + 1)]? = some (.cells #[.int .i64 a] 3 (0, 0)) from by rw [← hW3]; exact (by simpa using blk_new ((W).alloc (.cells #[.pointer (some ⟨eb, 0, none⟩)] 71)) _))
  have hq := ptr_cell Bg3.out
  go_enter Try.func27, Try.ntmps27
  go_upto_region 1 with fail
  (try rw [hW3])
  clear hW3
  go_region_held3 (fun w' => w'.cell? ⟨W.heap.size, 0, none⟩ = some (.pointer (some ⟨eb, 0, none⟩))) (go_keep)
    (first | (go_at_call 42; refine (always_calls _ 53 #[.pointer (some ⟨W.heap.size, 0, none⟩), .pointer (some ⟨(W.heap.size + 1), 0, none⟩)]).mono ?_; rintro e w4 ⟨gf, rfl, hgf, hcf, hb4'⟩; have hb4 := below_undrew hb4'; clear hb4'; have HB4 := Aside0.mk (HB.out.trans (hb4.mono HB.out.size)); have CF4 := Aside0.mk hcf; clear hcf hgf; have hq4 := ptr_cell (blk_below Bg3.out hb4); have HC4 := Aside0.mk hb4; clear hb4) | (go_at_call 41; refine (HST.out _ gf W.heap.size (W.heap.size + 1) HB4.out (by omega) (by omega) CF4.out (blk_below Bg3.out HC4.out) (blk_below Bg4.out HC4.out)).mono ?_; rintro e w5 ⟨y, rfl, hR5, hF5⟩; have hq5 := ptr_cell (hF5.keeps (blk_below Bg3.out HC4.out) (fun hx => by have := HX.out _ hx; omega)); have HF5 := Aside0.mk hF5; have HR5 := Aside0.mk hR5; clear hF5 hR5))
  go_wp2_with fail
  go_end0
  exact ⟨rfl, ⟨_, HR5.out⟩, (Fr.of HB4.out).trans HF5.out⟩
set_option maxRecDepth 100000 in
set_option maxHeartbeats 4000000 in
theorem unlock_pan (W : World) (eb : Nat) (a : Int) (ch : List PanicEntry) (R : World → Prop) (hst : ∀ W1 gf g3 g4, Below W.heap.size W W1 → W.heap.size ≤ g3 → W.heap.size ≤ g4 → W1.heap[gf]? = some (.cells #[.func (.func 53) #[] #[.pointer (some ⟨g3, 0, none⟩), .pointer (some ⟨g4, 0, none⟩)]] 80 (0, 0)) → W1.heap[g3]? = some (.cells #[.pointer (some ⟨eb, 0, none⟩)] 71 (0, 0)) → W1.heap[g4]? = some (.cells #[.int .i64 a] 3 (0, 0)) → Calls Try.prog 41 #[.pointer (some ⟨eb, 0, none⟩), .func (.func 56) #[] #[.pointer (some ⟨gf, 0, none⟩)]] W1 fun e w' => e = .panicked ch ∧ R w') :
    Calls Try.prog 27 #[.pointer (some ⟨eb, 0, none⟩), .int .i64 a] W fun e w' => e = .panicked ch ∧ R w' := by
  have hmf := mkfunc
  have HST := Aside0.mk hst
  clear hst
  obtain ⟨W3, hW3⟩ : ∃ W3, ((W.alloc (.cells #[.pointer (some ⟨eb, 0, none⟩)] 71)).alloc (.cells #[.int .i64 a] 3)) = W3 := ⟨_, rfl⟩
  have HB := Aside0.mk (show Below W.heap.size W W3 from by rw [← hW3]; exact (((Below.refl _ W).alloc (by first | exact Nat.le_refl _ | (simp; done) | (simp; omega)) _).alloc (by first | exact Nat.le_refl _ | (simp; done) | (simp; omega)) _))
  have Bg3 := Aside0.mk (show W3.heap[W.heap.size]? = some (.cells #[.pointer (some ⟨eb, 0, none⟩)] 71 (0, 0)) from by rw [← hW3]; exact blk_alloc (blk_new W _) _)
  have Bg4 := Aside0.mk (show W3.heap[(W.heap.size + 1)]? = some (.cells #[.int .i64 a] 3 (0, 0)) from by rw [← hW3]; exact (by simpa using blk_new ((W).alloc (.cells #[.pointer (some ⟨eb, 0, none⟩)] 71)) _))
  have hq := ptr_cell Bg3.out
  go_enter Try.func27, Try.ntmps27
  go_upto_region 1 with fail
  (try rw [hW3])
  clear hW3
  refine wp_region_any (by kernel_rfl) ?_
  change wpAny _ _ _ _ _ _ _ (World.drew _)
  refine wpAny_ready (rs := [0, 1]) (by kernel_rfl) (by simp) ?_
  refine AllReady.cons rfl (fun K hK => ?_) (AllReady.cons rfl (fun K hK => ?_) (AllReady.nil))
  · go_simp
    refine hK _ _ ?_
    clear hK K
    refine wpAny_ready (rs := [1]) (by kernel_rfl) (by simp) ?_
    refine AllReady.cons rfl (fun K hK => ?_) (AllReady.nil)
    · go_simp
      refine hK _ _ ?_
      clear hK K
      refine wpAny_ready (rs := [2]) (by kernel_rfl) (by simp) ?_
      refine AllReady.cons rfl (fun K hK => ?_) (AllReady.nil)
      · go_simp
        (go_at_call 42; refine (always_calls _ 53 #[.pointer (some ⟨W.heap.size, 0, none⟩), .pointer (some ⟨(W.heap.size + 1), 0, none⟩)]).mono ?_; rintro e w4 ⟨gf, rfl, hgf, hcf, hb4'⟩; have hb4 := below_undrew hb4'; clear hb4'; have HB4 := Aside0.mk (HB.out.trans (hb4.mono HB.out.size)); have CF4 := Aside0.mk hcf; clear hcf hgf; have hq4 := ptr_cell (blk_below Bg3.out hb4); have HC4 := Aside0.mk hb4; clear hb4)
        refine hK _ _ ?_
        clear hK K
        refine wpAny_ready (rs := [3]) (by kernel_rfl) (by simp) ?_
        refine AllReady.cons rfl (fun K hK => ?_) (AllReady.nil)
        · go_simp
          (go_at_call 41; refine (HST.out _ gf W.heap.size (W.heap.size + 1) HB4.out (by omega) (by omega) CF4.out (blk_below Bg3.out HC4.out) (blk_below Bg4.out HC4.out)).mono ?_; rintro e w5 ⟨rfl, hR5⟩; exact ⟨rfl, rfl, hR5⟩)
  · go_simp
    refine hK _ _ ?_
    clear hK K
    refine wpAny_ready (rs := [0, 2]) (by kernel_rfl) (by simp) ?_
    refine AllReady.cons rfl (fun K hK => ?_) (AllReady.cons rfl (fun K hK => ?_) (AllReady.nil))
    · go_simp
      refine hK _ _ ?_
      clear hK K
      refine wpAny_ready (rs := [2]) (by kernel_rfl) (by simp) ?_
      refine AllReady.cons rfl (fun K hK => ?_) (AllReady.nil)
      · go_simp
        (go_at_call 42; refine (always_calls _ 53 #[.pointer (some ⟨W.heap.size, 0, none⟩), .pointer (some ⟨(W.heap.size + 1), 0, none⟩)]).mono ?_; rintro e w4 ⟨gf, rfl, hgf, hcf, hb4'⟩; have hb4 := below_undrew hb4'; clear hb4'; have HB4 := Aside0.mk (HB.out.trans (hb4.mono HB.out.size)); have CF4 := Aside0.mk hcf; clear hcf hgf; have hq4 := ptr_cell (blk_below Bg3.out hb4); have HC4 := Aside0.mk hb4; clear hb4)
        refine hK _ _ ?_
        clear hK K
        refine wpAny_ready (rs := [3]) (by kernel_rfl) (by simp) ?_
        refine AllReady.cons rfl (fun K hK => ?_) (AllReady.nil)
        · go_simp
          (go_at_call 41; refine (HST.out _ gf W.heap.size (W.heap.size + 1) HB4.out (by omega) (by omega) CF4.out (blk_below Bg3.out HC4.out) (blk_below Bg4.out HC4.out)).mono ?_; rintro e w5 ⟨rfl, hR5⟩; exact ⟨rfl, rfl, hR5⟩)
    · go_simp
      (go_at_call 42; refine (always_calls _ 53 #[.pointer (some ⟨W.heap.size, 0, none⟩), .pointer (some ⟨(W.heap.size + 1), 0, none⟩)]).mono ?_; rintro e w4 ⟨gf, rfl, hgf, hcf, hb4'⟩; have hb4 := below_undrew hb4'; clear hb4'; have HB4 := Aside0.mk (HB.out.trans (hb4.mono HB.out.size)); have CF4 := Aside0.mk hcf; clear hcf hgf; have hq4 := ptr_cell (blk_below Bg3.out hb4); have HC4 := Aside0.mk hb4; clear hb4)
      refine hK _ _ ?_
      clear hK K
      refine wpAny_ready (rs := [0]) (by kernel_rfl) (by simp) ?_
      refine AllReady.cons rfl (fun K hK => ?_) (AllReady.nil)
      · go_simp
        refine hK _ _ ?_
        clear hK K
        refine wpAny_ready (rs := [3]) (by kernel_rfl) (by simp) ?_
        refine AllReady.cons rfl (fun K hK => ?_) (AllReady.nil)
        · go_simp
          (go_at_call 41; refine (HST.out _ gf W.heap.size (W.heap.size + 1) HB4.out (by omega) (by omega) CF4.out (blk_below Bg3.out HC4.out) (blk_below Bg4.out HC4.out)).mono ?_; rintro e w5 ⟨rfl, hR5⟩; exact ⟨rfl, rfl, hR5⟩)
set_option maxRecDepth 100000 in
set_option maxHeartbeats 4000000 in
theorem do_ret (W : World) (eb : Nat) (gc go : Nat) (X : Nat → Prop) (hX : ∀ b, X b → b < W.heap.size) (R : Int → World → Prop) (hst : ∀ W1 gf, Below W.heap.size W W1 → W1.heap[gf]? = some (.cells #[.func (.func 29) #[] #[.pointer (some ⟨gc, 0, none⟩), .pointer (some ⟨go, 0, none⟩)]] 80 (0, 0)) → Calls Try.prog 41 #[.pointer (some ⟨eb, 0, none⟩), .func (.func 56) #[] #[.pointer (some ⟨gf, 0, none⟩)]] W1 (Ans fun y w' => R y w' ∧ Fr X W1 w')) :
    Calls Try.prog 28 #[.pointer (some ⟨eb, 0, none⟩), .func (.func 29) #[] #[.pointer (some ⟨gc, 0, none⟩), .pointer (some ⟨go, 0, none⟩)]] W (Ans fun y w' => R y w' ∧ Fr X W w') := by
  have hmf := mkfunc
  have HST := Aside0.mk hst
  clear hst
  have HX := Aside0.mk hX
  clear hX
  have HB := Aside0.mk (Below.refl W.heap.size W)
  go_enter Try.func28, Try.ntmps28
  go_wp2_with (first | (go_at_call 42; refine (always_calls _ 29 #[.pointer (some ⟨gc, 0, none⟩), .pointer (some ⟨go, 0, none⟩)]).mono ?_; rintro e w4 ⟨gf, rfl, hgf, hcf, hb4⟩; have HB4 := Aside0.mk (HB.out.trans (hb4.mono HB.out.size)); have CF4 := Aside0.mk hcf; clear hcf hgf; have HC4 := Aside0.mk hb4; clear hb4) | (go_at_call 41; refine (HST.out _ gf HB4.out  CF4.out ).mono ?_; rintro e w5 ⟨y, rfl, hR5, hF5⟩; have HF5 := Aside0.mk hF5; have HR5 := Aside0.mk hR5; clear hF5 hR5))
  go_ret
  exact ⟨_, rfl, HR5.out, (Fr.of HB4.out).trans HF5.out⟩
set_option maxRecDepth 100000 in
set_option maxHeartbeats 4000000 in
theorem do_pan (W : World) (eb : Nat) (gc go : Nat) (ch : List PanicEntry) (R : World → Prop) (hst : ∀ W1 gf, Below W.heap.size W W1 → W1.heap[gf]? = some (.cells #[.func (.func 29) #[] #[.pointer (some ⟨gc, 0, none⟩), .pointer (some ⟨go, 0, none⟩)]] 80 (0, 0)) → Calls Try.prog 41 #[.pointer (some ⟨eb, 0, none⟩), .func (.func 56) #[] #[.pointer (some ⟨gf, 0, none⟩)]] W1 fun e w' => e = .panicked ch ∧ R w') :
    Calls Try.prog 28 #[.pointer (some ⟨eb, 0, none⟩), .func (.func 29) #[] #[.pointer (some ⟨gc, 0, none⟩), .pointer (some ⟨go, 0, none⟩)]] W fun e w' => e = .panicked ch ∧ R w' := by
  have hmf := mkfunc
  have HST := Aside0.mk hst
  clear hst
  have HB := Aside0.mk (Below.refl W.heap.size W)
  go_enter Try.func28, Try.ntmps28
  go_wp2_with (first | (go_at_call 42; refine (always_calls _ 29 #[.pointer (some ⟨gc, 0, none⟩), .pointer (some ⟨go, 0, none⟩)]).mono ?_; rintro e w4 ⟨gf, rfl, hgf, hcf, hb4⟩; have HB4 := Aside0.mk (HB.out.trans (hb4.mono HB.out.size)); have CF4 := Aside0.mk hcf; clear hcf hgf; have HC4 := Aside0.mk hb4; clear hb4) | (go_at_call 41; refine (HST.out _ gf HB4.out  CF4.out ).mono ?_; rintro e w5 ⟨rfl, hR5⟩))
  exact ⟨rfl, rfl, hR5⟩
end Go.Proofs.Ytmolflmljneelaa.En
/- Each method of Env in its modes: told again, stopped, done, blocked. -/
namespace Go.Proofs.Ytmolflmljneelaa.En
open Go.RowKit Go.Proofs.YtmolflmljneelaaW.PrintWords Go.Proofs.YtmolflmljneelaaW.PrintLast Go.Proofs.YtmolflmljneelaaW.PrintMore
open Pm (Fr Rg Row thereB pendAt WFD) 
open Lk (Tbl takeR leaveR ownerV Only)
set_option linter.unusedSimpArgs false
set_option linter.unusedVariables false
/-- A call of the method of kind k that answers: of the word that it tells, and of the world, R speaks. -/
def MRet (k : Nat) (eb gc go : Nat) (a x : Int) (W : World) (R : Int → World → Prop) : Prop :=
  match k with
  | 0 => Calls Try.prog 22 #[.pointer (some ⟨eb, 0, none⟩), .int .i64 a, .int .u64 x] W (Vd fun w' => ∃ y, R y w')
  | 1 => Calls Try.prog 23 #[.pointer (some ⟨eb, 0, none⟩), .int .i64 a] W (Ans R)
  | 2 => Calls Try.prog 24 #[.pointer (some ⟨eb, 0, none⟩), .int .i64 a] W (Vd fun w' => ∃ y, R y w')
  | 3 => Calls Try.prog 25 #[.pointer (some ⟨eb, 0, none⟩)] W (Vd fun w' => ∃ y, R y w')
  | 4 => Calls Try.prog 26 #[.pointer (some ⟨eb, 0, none⟩), .int .i64 a] W (Vd fun w' => ∃ y, R y w')
  | 5 => Calls Try.prog 27 #[.pointer (some ⟨eb, 0, none⟩), .int .i64 a] W (Vd fun w' => ∃ y, R y w')
  | _ => Calls Try.prog 28 #[.pointer (some ⟨eb, 0, none⟩), .func (.func 29) #[] #[.pointer (some ⟨gc, 0, none⟩), .pointer (some ⟨go, 0, none⟩)]] W (Ans R)
/-- One that panics. -/
def MPan (k : Nat) (eb gc go : Nat) (a x : Int) (W : World) (ch : List PanicEntry) (R : World → Prop) : Prop :=
  match k with
  | 0 => Calls Try.prog 22 #[.pointer (some ⟨eb, 0, none⟩), .int .i64 a, .int .u64 x] W fun e w' => e = .panicked ch ∧ R w'
  | 1 => Calls Try.prog 23 #[.pointer (some ⟨eb, 0, none⟩), .int .i64 a] W fun e w' => e = .panicked ch ∧ R w'
  | 2 => Calls Try.prog 24 #[.pointer (some ⟨eb, 0, none⟩), .int .i64 a] W fun e w' => e = .panicked ch ∧ R w'
  | 3 => Calls Try.prog 25 #[.pointer (some ⟨eb, 0, none⟩)] W fun e w' => e = .panicked ch ∧ R w'
  | 4 => Calls Try.prog 26 #[.pointer (some ⟨eb, 0, none⟩), .int .i64 a] W fun e w' => e = .panicked ch ∧ R w'
  | 5 => Calls Try.prog 27 #[.pointer (some ⟨eb, 0, none⟩), .int .i64 a] W fun e w' => e = .panicked ch ∧ R w'
  | _ => Calls Try.prog 28 #[.pointer (some ⟨eb, 0, none⟩), .func (.func 29) #[] #[.pointer (some ⟨gc, 0, none⟩), .pointer (some ⟨go, 0, none⟩)]] W fun e w' => e = .panicked ch ∧ R w'
def haltS (b : Bool) : List PanicEntry := [{ v := .iface 98 (.agg #[.bool b]), recovered := false }]
/-- What a deed of kind k by 'who' makes of the shared things; none: it is blocked. -/
def act (N k : Nat) (who a x : Int) (s : SS) : Option SS :=
  match k with
  | 0 => some (storeS N a x s)
  | 1 => some s
  | 2 => some (flushS N a s)
  | 3 => some (fenceS N s)
  | 4 => if (takeR s.L a who).1 = 0 then some { s with L := (takeR s.L a who).2 } else none
  | 5 => some { s with L := (leaveR s.L a who).2 }
  | _ => some { s with c := s.c + 1 }
/-- What it tells, if its kind tells something. -/
def tells (N k : Nat) (a x : Int) (s : SS) (y : Int) : Prop :=
  match k with
  | 0 => True
  | 1 => y = if thereB N a then s.S.getD a.toNat 0 else 0
  | 2 => True
  | 3 => True
  | 4 => True
  | 5 => True
  | _ => y = x
theorem enterK43 (caps : Array Value) (w : World) : (callFunc 43 caps).run Try.prog w = .ok (.enter 43 caps) w := by go_simp
theorem enterK45 (caps : Array Value) (w : World) : (callFunc 45 caps).run Try.prog w = .ok (.enter 45 caps) w := by go_simp
theorem enterK47 (caps : Array Value) (w : World) : (callFunc 47 caps).run Try.prog w = .ok (.enter 47 caps) w := by go_simp
theorem enterK49 (caps : Array Value) (w : World) : (callFunc 49 caps).run Try.prog w = .ok (.enter 49 caps) w := by go_simp
theorem enterK53 (caps : Array Value) (w : World) : (callFunc 53 caps).run Try.prog w = .ok (.enter 53 caps) w := by go_simp
theorem enterK29 (caps : Array Value) (w : World) : (callFunc 29 caps).run Try.prog w = .ok (.enter 29 caps) w := by go_simp
section
variable (W : World) {l : Loc} {s : SS} {B eb : Nat} {who : Int} {v : Value} {T : List Int}

theorem again0 (i left : Nat) (h : En W l B eb who v T i left) (hi : i < T.length) (h40 : T.length ≤ 40) (gc go : Nat) (a x : Int) : MRet 0 eb gc go a x W (fun y w' => (y = T.getD i 0 ∧ En w' l B eb who v T (i + 1) left) ∧ Fr (fun b => b = eb) W w') := by
  refine (store_ret W eb a x (fun b => b = eb) (fun b e => e ▸ blk_lt h.tp) (fun y w' => y = T.getD i 0 ∧ En w' l B eb who v T (i + 1) left) (fun W1 gf g3 g4 g5 hb sg3 sg4 sg5 hgf hg3 hg4 hg5 => (step_again W1 (h.below hb) hi h40 _).mono (fun e w' hh => ⟨_, hh.1, ⟨rfl, hh.2.1⟩, hh.2.2⟩))).mono ?_
  exact fun e w' h => by obtain ⟨h1, ⟨y, h2⟩, h3⟩ := h; exact ⟨h1, y, h2, h3⟩
theorem stop0 (h : En W l B eb who v T T.length 0) (h40 : T.length ≤ 40) (gc go : Nat) (a x : Int) : MPan 0 eb gc go a x W (haltS false) (fun w' => Below W.heap.size W w') :=
  store_pan W eb a x (haltS false) _ (fun W1 gf g3 g4 g5 hb sg3 sg4 sg5 hgf hg3 hg4 hg5 => (step_stop W1 (h.below hb) h40 _).mono (fun e w' hh => ⟨hh.1, hb.trans (hh.2.mono hb.size)⟩))
theorem done0 (hS : Sh W l s) (h : En W l B eb who v T T.length 1) (h40 : T.length < 40) (hB : B ≤ W.heap.size) (gc go : Nat) (a x : Int) : MRet 0 eb gc go a x W (fun y w' => Done W.heap.size l B eb who v T (storeS l.N a x s) (tells l.N 0 a x s) y w' ∧ Fr (StX l eb v) W w') := by
  have hX : ∀ b, StX l eb v b → b < W.heap.size := fun b hb => by
    rcases hb with hb | rfl | hb
    · exact hS.size b hb
    · exact blk_lt h.tp
    · exact (h.own.lt hb).2.1
  refine (store_ret W eb a x (StX l eb v) hX (Done W.heap.size l B eb who v T (storeS l.N a x s) (tells l.N 0 a x s)) (fun W1 gf g3 g4 g5 hb sg3 sg4 sg5 hgf hg3 hg4 hg5 => (step_done56 W1 (hS.below hb) (h.below hb) h40 (Nat.le_trans hB hb.size) gf 43 _ hgf (enterK43 _) (tells l.N 0 a x s) (storeS l.N a x s) (fun W2 hb2 => (store_cl W2 ((hS.below hb).below hb2) a x eb g3 g4 g5 _ _ _ _ _ (blk_below (blk_below h.tp hb) hb2) (blk_below hg3 hb2) (blk_below hg4 hb2) (blk_below hg5 hb2) (fun hx => by have := hS.size _ hx; omega) (fun hx => by have := hS.size _ hx; omega)).mono (fun e w' hh => by obtain ⟨y, h1, h2⟩ := hh; exact ⟨y, h1, trivial, h2⟩))).mono (fun e w' hh => by obtain ⟨y, h1, h2, h3⟩ := hh; exact ⟨y, h1, h2.mono hb.size, h3⟩))).mono ?_
  exact fun e w' h => by obtain ⟨h1, ⟨y, h2⟩, h3⟩ := h; exact ⟨h1, y, h2, h3⟩
theorem again1 (i left : Nat) (h : En W l B eb who v T i left) (hi : i < T.length) (h40 : T.length ≤ 40) (gc go : Nat) (a x : Int) : MRet 1 eb gc go a x W (fun y w' => (y = T.getD i 0 ∧ En w' l B eb who v T (i + 1) left) ∧ Fr (fun b => b = eb) W w') := by
  refine (load_ret W eb a (fun b => b = eb) (fun b e => e ▸ blk_lt h.tp) (fun y w' => y = T.getD i 0 ∧ En w' l B eb who v T (i + 1) left) (fun W1 gf g3 g4 hb sg3 sg4 hgf hg3 hg4 => (step_again W1 (h.below hb) hi h40 _).mono (fun e w' hh => ⟨_, hh.1, ⟨rfl, hh.2.1⟩, hh.2.2⟩))).mono ?_
  exact fun e w' h => by obtain ⟨y, h1, h2, h3⟩ := h; exact ⟨y, h1, h2, h3⟩
theorem stop1 (h : En W l B eb who v T T.length 0) (h40 : T.length ≤ 40) (gc go : Nat) (a x : Int) : MPan 1 eb gc go a x W (haltS false) (fun w' => Below W.heap.size W w') :=
  load_pan W eb a (haltS false) _ (fun W1 gf g3 g4 hb sg3 sg4 hgf hg3 hg4 => (step_stop W1 (h.below hb) h40 _).mono (fun e w' hh => ⟨hh.1, hb.trans (hh.2.mono hb.size)⟩))
theorem done1 (hS : Sh W l s) (h : En W l B eb who v T T.length 1) (h40 : T.length < 40) (hB : B ≤ W.heap.size) (gc go : Nat) (a x : Int) : MRet 1 eb gc go a x W (fun y w' => Done W.heap.size l B eb who v T s (tells l.N 1 a x s) y w' ∧ Fr (StX l eb v) W w') := by
  have hX : ∀ b, StX l eb v b → b < W.heap.size := fun b hb => by
    rcases hb with hb | rfl | hb
    · exact hS.size b hb
    · exact blk_lt h.tp
    · exact (h.own.lt hb).2.1
  refine (load_ret W eb a (StX l eb v) hX (Done W.heap.size l B eb who v T s (tells l.N 1 a x s)) (fun W1 gf g3 g4 hb sg3 sg4 hgf hg3 hg4 => (step_done56 W1 (hS.below hb) (h.below hb) h40 (Nat.le_trans hB hb.size) gf 45 _ hgf (enterK45 _) (tells l.N 1 a x s) s (fun W2 hb2 => (load_cl W2 ((hS.below hb).below hb2) a _ (Aside0.mk rfl) eb g3 g4 _ _ _ _ _ (blk_below (blk_below h.tp hb) hb2) (blk_below hg3 hb2) (blk_below hg4 hb2) (fun hx => by have := hS.size _ hx; omega)).mono (fun e w' hh => hh))).mono (fun e w' hh => by obtain ⟨y, h1, h2, h3⟩ := hh; exact ⟨y, h1, h2.mono hb.size, h3⟩))).mono ?_
  exact fun e w' h => by obtain ⟨y, h1, h2, h3⟩ := h; exact ⟨y, h1, h2, h3⟩
theorem again2 (i left : Nat) (h : En W l B eb who v T i left) (hi : i < T.length) (h40 : T.length ≤ 40) (gc go : Nat) (a x : Int) : MRet 2 eb gc go a x W (fun y w' => (y = T.getD i 0 ∧ En w' l B eb who v T (i + 1) left) ∧ Fr (fun b => b = eb) W w') := by
  refine (flush_ret W eb a (fun b => b = eb) (fun b e => e ▸ blk_lt h.tp) (fun y w' => y = T.getD i 0 ∧ En w' l B eb who v T (i + 1) left) (fun W1 gf g3 g4 hb sg3 sg4 hgf hg3 hg4 => (step_again W1 (h.below hb) hi h40 _).mono (fun e w' hh => ⟨_, hh.1, ⟨rfl, hh.2.1⟩, hh.2.2⟩))).mono ?_
  exact fun e w' h => by obtain ⟨h1, ⟨y, h2⟩, h3⟩ := h; exact ⟨h1, y, h2, h3⟩
theorem stop2 (h : En W l B eb who v T T.length 0) (h40 : T.length ≤ 40) (gc go : Nat) (a x : Int) : MPan 2 eb gc go a x W (haltS false) (fun w' => Below W.heap.size W w') :=
  flush_pan W eb a (haltS false) _ (fun W1 gf g3 g4 hb sg3 sg4 hgf hg3 hg4 => (step_stop W1 (h.below hb) h40 _).mono (fun e w' hh => ⟨hh.1, hb.trans (hh.2.mono hb.size)⟩))
theorem done2 (hS : Sh W l s) (h : En W l B eb who v T T.length 1) (h40 : T.length < 40) (hB : B ≤ W.heap.size) (hn : s.n ≤ 1000) (gc go : Nat) (a x : Int) : MRet 2 eb gc go a x W (fun y w' => Done W.heap.size l B eb who v T (flushS l.N a s) (tells l.N 2 a x s) y w' ∧ Fr (StX l eb v) W w') := by
  have hX : ∀ b, StX l eb v b → b < W.heap.size := fun b hb => by
    rcases hb with hb | rfl | hb
    · exact hS.size b hb
    · exact blk_lt h.tp
    · exact (h.own.lt hb).2.1
  refine (flush_ret W eb a (StX l eb v) hX (Done W.heap.size l B eb who v T (flushS l.N a s) (tells l.N 2 a x s)) (fun W1 gf g3 g4 hb sg3 sg4 hgf hg3 hg4 => (step_done56 W1 (hS.below hb) (h.below hb) h40 (Nat.le_trans hB hb.size) gf 47 _ hgf (enterK47 _) (tells l.N 2 a x s) (flushS l.N a s) (fun W2 hb2 => (flush_cl W2 ((hS.below hb).below hb2) hn a eb g3 g4 _ _ _ _ _ (blk_below (blk_below h.tp hb) hb2) (blk_below hg3 hb2) (blk_below hg4 hb2) (fun hx => by have := hS.size _ hx; omega)).mono (fun e w' hh => by obtain ⟨y, h1, h2⟩ := hh; exact ⟨y, h1, trivial, h2⟩))).mono (fun e w' hh => by obtain ⟨y, h1, h2, h3⟩ := hh; exact ⟨y, h1, h2.mono hb.size, h3⟩))).mono ?_
  exact fun e w' h => by obtain ⟨h1, ⟨y, h2⟩, h3⟩ := h; exact ⟨h1, y, h2, h3⟩
theorem again3 (i left : Nat) (h : En W l B eb who v T i left) (hi : i < T.length) (h40 : T.length ≤ 40) (gc go : Nat) (a x : Int) : MRet 3 eb gc go a x W (fun y w' => (y = T.getD i 0 ∧ En w' l B eb who v T (i + 1) left) ∧ Fr (fun b => b = eb) W w') := by
  refine (fence_ret W eb  (fun b => b = eb) (fun b e => e ▸ blk_lt h.tp) (fun y w' => y = T.getD i 0 ∧ En w' l B eb who v T (i + 1) left) (fun W1 gf g3 hb sg3 hgf hg3 => (step_again W1 (h.below hb) hi h40 _).mono (fun e w' hh => ⟨_, hh.1, ⟨rfl, hh.2.1⟩, hh.2.2⟩))).mono ?_
  exact fun e w' h => by obtain ⟨h1, ⟨y, h2⟩, h3⟩ := h; exact ⟨h1, y, h2, h3⟩
theorem stop3 (h : En W l B eb who v T T.length 0) (h40 : T.length ≤ 40) (gc go : Nat) (a x : Int) : MPan 3 eb gc go a x W (haltS false) (fun w' => Below W.heap.size W w') :=
  fence_pan W eb  (haltS false) _ (fun W1 gf g3 hb sg3 hgf hg3 => (step_stop W1 (h.below hb) h40 _).mono (fun e w' hh => ⟨hh.1, hb.trans (hh.2.mono hb.size)⟩))
theorem done3 (hS : Sh W l s) (h : En W l B eb who v T T.length 1) (h40 : T.length < 40) (hB : B ≤ W.heap.size) (gc go : Nat) (a x : Int) : MRet 3 eb gc go a x W (fun y w' => Done W.heap.size l B eb who v T (fenceS l.N s) (tells l.N 3 a x s) y w' ∧ Fr (StX l eb v) W w') := by
  have hX : ∀ b, StX l eb v b → b < W.heap.size := fun b hb => by
    rcases hb with hb | rfl | hb
    · exact hS.size b hb
    · exact blk_lt h.tp
    · exact (h.own.lt hb).2.1
  refine (fence_ret W eb  (StX l eb v) hX (Done W.heap.size l B eb who v T (fenceS l.N s) (tells l.N 3 a x s)) (fun W1 gf g3 hb sg3 hgf hg3 => (step_done56 W1 (hS.below hb) (h.below hb) h40 (Nat.le_trans hB hb.size) gf 49 _ hgf (enterK49 _) (tells l.N 3 a x s) (fenceS l.N s) (fun W2 hb2 => (fence_cl W2 ((hS.below hb).below hb2) eb g3 _ _ _ _ _ (blk_below (blk_below h.tp hb) hb2) (blk_below hg3 hb2)).mono (fun e w' hh => by obtain ⟨y, h1, h2⟩ := hh; exact ⟨y, h1, trivial, h2⟩))).mono (fun e w' hh => by obtain ⟨y, h1, h2, h3⟩ := hh; exact ⟨y, h1, h2.mono hb.size, h3⟩))).mono ?_
  exact fun e w' h => by obtain ⟨h1, ⟨y, h2⟩, h3⟩ := h; exact ⟨h1, y, h2, h3⟩
theorem again4 (i left : Nat) (h : En W l B eb who v T i left) (hi : i < T.length) (h40 : T.length ≤ 40) (gc go : Nat) (a x : Int) : MRet 4 eb gc go a x W (fun y w' => (y = T.getD i 0 ∧ En w' l B eb who v T (i + 1) left) ∧ Fr (fun b => b = eb) W w') := by
  refine (lock_ret W eb a (fun b => b = eb) (fun b e => e ▸ blk_lt h.tp) (fun y w' => y = T.getD i 0 ∧ En w' l B eb who v T (i + 1) left) (fun W1 g3 g4 hb sg3 sg4 hg3 hg4 => (step_again W1 (h.below hb) hi h40 _).mono (fun e w' hh => ⟨_, hh.1, ⟨rfl, hh.2.1⟩, hh.2.2⟩))).mono ?_
  exact fun e w' h => by obtain ⟨h1, ⟨y, h2⟩, h3⟩ := h; exact ⟨h1, y, h2, h3⟩
theorem stop4 (h : En W l B eb who v T T.length 0) (h40 : T.length ≤ 40) (gc go : Nat) (a x : Int) : MPan 4 eb gc go a x W (haltS false) (fun w' => Below W.heap.size W w') :=
  lock_pan W eb a (haltS false) _ (fun W1 g3 g4 hb sg3 sg4 hg3 hg4 => (step_stop W1 (h.below hb) h40 _).mono (fun e w' hh => ⟨hh.1, hb.trans (hh.2.mono hb.size)⟩))
theorem done4 (hS : Sh W l s) (h : En W l B eb who v T T.length 1) (h40 : T.length < 40) (hB : B ≤ W.heap.size) (gc go : Nat) (a x : Int) (hr : (takeR s.L a who).1 = 0) : MRet 4 eb gc go a x W (fun y w' => Done W.heap.size l B eb who v T { s with L := (takeR s.L a who).2 } (tells l.N 4 a x s) y w' ∧ Fr (StX l eb v) W w') := by
  have hX : ∀ b, StX l eb v b → b < W.heap.size := fun b hb => by
    rcases hb with hb | rfl | hb
    · exact hS.size b hb
    · exact blk_lt h.tp
    · exact (h.own.lt hb).2.1
  refine (lock_ret W eb a (StX l eb v) hX (Done W.heap.size l B eb who v T { s with L := (takeR s.L a who).2 } (tells l.N 4 a x s)) (fun W1 g3 g4 hb sg3 sg4 hg3 hg4 => (step_done51 W1 (hS.below hb) (h.below hb) h40 (Nat.le_trans hB hb.size) g3 g4 a hg3 hg4 (fun hx => by have := hS.size _ hx; omega) hr).mono (fun e w' hh => by obtain ⟨y, h1, h2, h3⟩ := hh; exact ⟨y, h1, h2.mono hb.size, h3⟩))).mono ?_
  exact fun e w' h => by obtain ⟨h1, ⟨y, h2⟩, h3⟩ := h; exact ⟨h1, y, h2, h3⟩
theorem block4 (hS : Sh W l s) (h : En W l B eb who v T T.length 1) (h40 : T.length < 40) (gc go : Nat) (a x : Int) (hr : (takeR s.L a who).1 ≠ 0) : MPan 4 eb gc go a x W (haltS true) (fun w' => Sh w' l s ∧ Fr l.X W w') :=
  lock_pan W eb a (haltS true) _ (fun W1 g3 g4 hb sg3 sg4 hg3 hg4 => (step_block51 W1 (hS.below hb) (h.below hb) h40 g3 g4 a hg3 hg4 (fun hx => by have := hS.size _ hx; omega) hr).mono (fun e w' hh => ⟨hh.1, hh.2.1, (Fr.of hb).trans hh.2.2⟩))
theorem again5 (i left : Nat) (h : En W l B eb who v T i left) (hi : i < T.length) (h40 : T.length ≤ 40) (gc go : Nat) (a x : Int) : MRet 5 eb gc go a x W (fun y w' => (y = T.getD i 0 ∧ En w' l B eb who v T (i + 1) left) ∧ Fr (fun b => b = eb) W w') := by
  refine (unlock_ret W eb a (fun b => b = eb) (fun b e => e ▸ blk_lt h.tp) (fun y w' => y = T.getD i 0 ∧ En w' l B eb who v T (i + 1) left) (fun W1 gf g3 g4 hb sg3 sg4 hgf hg3 hg4 => (step_again W1 (h.below hb) hi h40 _).mono (fun e w' hh => ⟨_, hh.1, ⟨rfl, hh.2.1⟩, hh.2.2⟩))).mono ?_
  exact fun e w' h => by obtain ⟨h1, ⟨y, h2⟩, h3⟩ := h; exact ⟨h1, y, h2, h3⟩
theorem stop5 (h : En W l B eb who v T T.length 0) (h40 : T.length ≤ 40) (gc go : Nat) (a x : Int) : MPan 5 eb gc go a x W (haltS false) (fun w' => Below W.heap.size W w') :=
  unlock_pan W eb a (haltS false) _ (fun W1 gf g3 g4 hb sg3 sg4 hgf hg3 hg4 => (step_stop W1 (h.below hb) h40 _).mono (fun e w' hh => ⟨hh.1, hb.trans (hh.2.mono hb.size)⟩))
theorem done5 (hS : Sh W l s) (h : En W l B eb who v T T.length 1) (h40 : T.length < 40) (hB : B ≤ W.heap.size) (gc go : Nat) (a x : Int) : MRet 5 eb gc go a x W (fun y w' => Done W.heap.size l B eb who v T { s with L := (leaveR s.L a who).2 } (tells l.N 5 a x s) y w' ∧ Fr (StX l eb v) W w') := by
  have hX : ∀ b, StX l eb v b → b < W.heap.size := fun b hb => by
    rcases hb with hb | rfl | hb
    · exact hS.size b hb
    · exact blk_lt h.tp
    · exact (h.own.lt hb).2.1
  refine (unlock_ret W eb a (StX l eb v) hX (Done W.heap.size l B eb who v T { s with L := (leaveR s.L a who).2 } (tells l.N 5 a x s)) (fun W1 gf g3 g4 hb sg3 sg4 hgf hg3 hg4 => (step_done56 W1 (hS.below hb) (h.below hb) h40 (Nat.le_trans hB hb.size) gf 53 _ hgf (enterK53 _) (tells l.N 5 a x s) { s with L := (leaveR s.L a who).2 } (fun W2 hb2 => (unlock_cl W2 ((hS.below hb).below hb2) a who eb g3 g4 _ _ _ _ (blk_below (blk_below h.tp hb) hb2) (blk_below hg3 hb2) (blk_below hg4 hb2) (fun hx => by have := hS.size _ hx; omega)).mono (fun e w' hh => by obtain ⟨y, h1, h2⟩ := hh; exact ⟨y, h1, trivial, h2⟩))).mono (fun e w' hh => by obtain ⟨y, h1, h2, h3⟩ := hh; exact ⟨y, h1, h2.mono hb.size, h3⟩))).mono ?_
  exact fun e w' h => by obtain ⟨h1, ⟨y, h2⟩, h3⟩ := h; exact ⟨h1, y, h2, h3⟩
theorem again6 (i left : Nat) (h : En W l B eb who v T i left) (hi : i < T.length) (h40 : T.length ≤ 40) (gc go : Nat) (a x : Int) : MRet 6 eb gc go a x W (fun y w' => (y = T.getD i 0 ∧ En w' l B eb who v T (i + 1) left) ∧ Fr (fun b => b = eb) W w') := by
  refine (do_ret W eb gc go (fun b => b = eb) (fun b e => e ▸ blk_lt h.tp) (fun y w' => y = T.getD i 0 ∧ En w' l B eb who v T (i + 1) left) (fun W1 gf hb hgf => (step_again W1 (h.below hb) hi h40 _).mono (fun e w' hh => ⟨_, hh.1, ⟨rfl, hh.2.1⟩, hh.2.2⟩))).mono ?_
  exact fun e w' h => by obtain ⟨y, h1, h2, h3⟩ := h; exact ⟨y, h1, h2, h3⟩
theorem stop6 (h : En W l B eb who v T T.length 0) (h40 : T.length ≤ 40) (gc go : Nat) (a x : Int) : MPan 6 eb gc go a x W (haltS false) (fun w' => Below W.heap.size W w') :=
  do_pan W eb gc go (haltS false) _ (fun W1 gf hb hgf => (step_stop W1 (h.below hb) h40 _).mono (fun e w' hh => ⟨hh.1, hb.trans (hh.2.mono hb.size)⟩))
theorem done6 (hS : Sh W l s) (h : En W l B eb who v T T.length 1) (h40 : T.length < 40) (hB : B ≤ W.heap.size) (hc : 0 ≤ s.c ∧ s.c ≤ 1000) (gc go : Nat) (a x : Int) (k0 a0 : Int) (hgc : W.heap[gc]? = some (.cells #[.pointer (some ⟨l.cb, 0, none⟩)] 34 (0, 0))) (hgo : W.heap[go]? = some (.cells #[.int .u8 k0, .int .i64 a0, .int .u64 x] 51 (0, 0))) : MRet 6 eb gc go a x W (fun y w' => Done W.heap.size l B eb who v T { s with c := s.c + 1 } (tells l.N 6 a x s) y w' ∧ Fr (StX l eb v) W w') := by
  have hX : ∀ b, StX l eb v b → b < W.heap.size := fun b hb => by
    rcases hb with hb | rfl | hb
    · exact hS.size b hb
    · exact blk_lt h.tp
    · exact (h.own.lt hb).2.1
  refine (do_ret W eb gc go (StX l eb v) hX (Done W.heap.size l B eb who v T { s with c := s.c + 1 } (tells l.N 6 a x s)) (fun W1 gf hb hgf => (step_done56 W1 (hS.below hb) (h.below hb) h40 (Nat.le_trans hB hb.size) gf 29 _ hgf (enterK29 _) (tells l.N 6 a x s) { s with c := s.c + 1 } (fun W2 hb2 => (do_cl W2 ((hS.below hb).below hb2) hc gc go k0 a0 x (blk_below (blk_below hgc hb) hb2) (blk_below (blk_below hgo hb) hb2)).mono (fun e w' hh => hh))).mono (fun e w' hh => by obtain ⟨y, h1, h2, h3⟩ := hh; exact ⟨y, h1, h2.mono hb.size, h3⟩))).mono ?_
  exact fun e w' h => by obtain ⟨y, h1, h2, h3⟩ := h; exact ⟨y, h1, h2, h3⟩
end
end Go.Proofs.Ytmolflmljneelaa.En
/- A deed's walk: its asks one by one, each by its method; where one panics, so does the deed. -/
namespace Go.Proofs.Ytmolflmljneelaa.En
open Go.RowKit Go.Proofs.YtmolflmljneelaaW.PrintWords Go.Proofs.YtmolflmljneelaaW.PrintLast Go.Proofs.YtmolflmljneelaaW.PrintMore
open Pm (Fr Rg Row thereB pendAt WFD) 
open Lk (Tbl takeR leaveR ownerV Only)
set_option linter.unusedSimpArgs false
set_option linter.unusedVariables false
/-- An ask. -/
structure AskN where
  (k a x : Int)
/-- A list of asks, as a slice: its cells; none of them is X's. -/
structure AskM (W : World) (X : Nat → Prop) (ad : Option Addr) (n : Nat) (A : Nat → AskN) : Prop where
  at_ : ∀ i, i < n → ∃ y, ad = some y ∧ y.block < W.heap.size ∧ ¬ X y.block ∧ W.cell? (y.add (i * 3)) = some (.int .u8 (A i).k) ∧ W.cell? ((y.add (i * 3)).add 1) = some (.int .i64 (A i).a) ∧ W.cell? ((y.add (i * 3)).add 2) = some (.int .u64 (A i).x)
  kd : ∀ i, i < n → 0 ≤ (A i).k ∧ (A i).k < 256
theorem add_block (y : Addr) (j : Nat) : (y.add j).block = y.block := by unfold Addr.add; split <;> rfl
theorem fr_cell {X : Nat → Prop} {W W' : World} (h : Fr X W W') {p : Addr} (hp : p.block < W.heap.size) (hx : ¬ X p.block) : W'.cell? p = W.cell? p := World.cell?_of_block (h.block p.block hp hx)
theorem AskM.fr {X : Nat → Prop} {W W' : World} {ad : Option Addr} {n : Nat} {A : Nat → AskN} (h : AskM W X ad n A) (hf : Fr X W W') : AskM W' X ad n A := by
  refine ⟨fun i hi => ?_, h.kd⟩
  obtain ⟨y, e, h1, h2, c0, c1, c2⟩ := h.at_ i hi
  have b : ∀ j, ((y.add (i * 3)).add j).block = y.block := fun j => by rw [add_block, add_block]
  exact ⟨y, e, Nat.lt_of_lt_of_le h1 hf.size, h2, (fr_cell hf (by rw [add_block]; exact h1) (by rw [add_block]; exact h2)).trans c0, (fr_cell hf (by rw [b]; exact h1) (by rw [b]; exact h2)).trans c1, (fr_cell hf (by rw [b]; exact h1) (by rw [b]; exact h2)).trans c2⟩
/-- x and all that was told so far. -/
def sumW (x : Int) (l : List Int) : Int := l.foldl (fun s y => IntKind.u64.wrap (s + y)) x
theorem sumW_snoc (x y : Int) (l : List Int) : sumW x (l ++ [y]) = IntKind.u64.wrap (sumW x l + y) := by simp [sumW]
theorem sum_next (x : Int) (l : List Int) (k : Nat) (h : k < l.length) : sumW x (l.take (k + 1)) = IntKind.u64.wrap (sumW x (l.take k) + l.getD k 0) := by
  rw [← sumW_snoc, List.take_add_one]
  simp [h]
theorem step_lt (i n : Nat) (h : i < n) : n - ((i : Int) + 1).toNat < n - (i : Int).toNat := by omega
/-- The word that a method is handed: with all that was told at kind 0. -/
def argW (q : AskN) (τ : List Int) : Int := if q.k % 7 = 0 then sumW q.x τ else q.x
theorem arg0 {kk aa xx : Int} {τ : List Int} (h : kk % 7 = 0) : argW ⟨kk, aa, xx⟩ τ = sumW xx τ := if_pos h
theorem argN {kk aa xx : Int} {τ : List Int} (h : ¬ kk % 7 = 0) : argW ⟨kk, aa, xx⟩ τ = xx := if_neg h
/-- What was told behind an ask of kind k that told y. -/
def Next (k : Nat) (τ τ' : List Int) (y : Int) : Prop := τ' = if k = 1 ∨ k = 6 then τ ++ [y] else τ
/-- A row that the call made, and the Env's row, are two. -/
def Two (v : Value) (o : Option Nat) : Prop := ∀ g, v.ownBlock = some g → o ≠ some g
/-- How a deed ends: it answers all that was told, or it was stopped at the m-th ask. -/
def DeedR (W : World) (X : Nat → Prop) (n m : Nat) (told : List Int) (J : Option Nat → World → Prop) (ch : List PanicEntry) (Pz : World → Prop) (e : Ending) (w' : World) : Prop :=
  (m = n ∧ ∃ v o, e = .returned v ∧ Wds w' W.heap.size v told ∧ J o w' ∧ Two v o ∧ Fr X W w') ∨ (m < n ∧ e = .panicked ch ∧ Pz w' ∧ Fr X W w')
/-- A step went from Env's row o to o'. -/
def Went (w : World) (o o' : Option Nat) : Prop := o' = o ∨ ∃ g, o' = some g ∧ w.heap.size ≤ g
theorem two_went {w : World} {B : Nat} {v : Value} {T : List Int} {o o' : Option Nat} (h : Two v o) (hO : Wds w B v T) (hw : Went w o o') : Two v o' := fun g hg e => by
  rcases hw with rfl | ⟨g', rfl, h1⟩
  · exact h g hg e
  · cases e
    have := (hO.lt hg).2.1
    omega
/-- What the walk knows of the state behind i asks. -/
structure Kn (W : World) (X : Nat → Prop) (J : Nat → Option Nat → World → Prop) : Prop where
  low : ∀ b, X b → b < W.heap.size
  lt : ∀ i o w g, J i o w → o = some g → g < w.heap.size
  fr : ∀ i o w w' Y, J i o w → Fr Y w w' → (∀ b, Y b → W.heap.size ≤ b ∧ o ≠ some b) → J i o w'
theorem Kn.below {W : World} {X : Nat → Prop} {J : Nat → Option Nat → World → Prop} (h : Kn W X J) {i : Nat} {o : Option Nat} {w w' : World} (hJ : J i o w) (hb : Below w.heap.size w w') : J i o w' := h.fr i o w w' (fun _ => False) hJ (Fr.of hb) (fun _ hb => hb.elim)
theorem plain_fin {W w2 w5 : World} {X : Nat → Prop} {i k : Nat} {J : Nat → Option Nat → World → Prop} (K : Kn W X J) {o : Option Nat} {RR : Int → World → Prop} {y : Int} {v : Value} {tau : Nat → List Int} (hRR : ∀ y w', RR y w' → (∃ o', J (i + 1) o' w' ∧ Went w2 o o') ∧ Fr X w2 w') (h : RR y w5) (hF : Fr X W w2) (hO : Wds w2 W.heap.size v (tau i)) (hT : Two v o) (hN : Next k (tau i) (tau (i + 1)) y)
    (hk : ¬ (k = 1 ∨ k = 6) := by decide) : Fr X W w5 ∧ Wds w5 W.heap.size v (tau (i + 1)) ∧ ∃ o', J (i + 1) o' w5 ∧ Two v o' := by
  obtain ⟨⟨o', h1, hw⟩, h2⟩ := hRR y w5 h
  unfold Next at hN
  rw [if_neg hk] at hN
  rw [hN]
  exact ⟨hF.trans h2, hO.fr h2 (fun g hg hx => by have := K.low g hx; have := (hO.lt hg).1; omega), o', h1, two_went hT hO hw⟩
theorem app_fin {W w2 w5 w4 : World} {X : Nat → Prop} {i k g4 cap4 vcap : Nat} {vad : Option Addr} {J : Nat → Option Nat → World → Prop} (K : Kn W X J) {o : Option Nat} {RR : Int → World → Prop} {y : Int} {tau : Nat → List Int} (hRR : ∀ y w', RR y w' → (∃ o', J (i + 1) o' w' ∧ Went w2 o o') ∧ Fr X w2 w') (h : RR y w5) (hF : Fr X W w2) (hO : Wds w2 W.heap.size (.slice vad (tau i).length vcap) (tau i)) (hT : Two (.slice vad (tau i).length vcap) o)
    (hs : W.heap.size ≤ w5.heap.size) (hg : (w5.alloc (.cells #[.int .u64 y] 49)).grownBy w4 (Value.slice vad (tau i).length vcap).ownBlock) (hO4 : w4.ownsRow W.heap.size 49 1 (.slice (some ⟨g4, 0, none⟩) ((tau i).length + 1) cap4) ((tau i).length + 1) (ints (tau i) ++ [.int .u64 y])) (hat : (Value.slice vad (tau i).length vcap).ownBlock = some g4 ∨ g4 = w5.heap.size + 1) (hN : Next k (tau i) (tau (i + 1)) y)
    (hk : k = 1 ∨ k = 6 := by decide) : Fr X W w4 ∧ Wds w4 W.heap.size (.slice (some ⟨g4, 0, none⟩) ((tau i).length + 1) cap4) (tau (i + 1)) ∧ ∃ o', J (i + 1) o' w4 ∧ Two (.slice (some ⟨g4, 0, none⟩) ((tau i).length + 1) cap4) o' := by
  obtain ⟨⟨o', h1, hw⟩, h2⟩ := hRR y w5 h
  unfold Next at hN
  rw [if_pos hk] at hN
  have hT' := two_went hT hO hw
  have hlow : ∀ g, (Value.slice vad (tau i).length vcap).ownBlock = some g → W.heap.size ≤ g := fun g hg => (hO.lt hg).1
  have f45 : Fr (fun b => (Value.slice vad (tau i).length vcap).ownBlock = some b) w5 w4 := ((Fr.refl _ w5).alloc (.cells #[.int .u64 y] 49)).grown hg (fun k e => .inl e)
  have hJ4 := K.fr _ _ _ _ _ h1 f45 (fun b hb => ⟨hlow b hb, hT' b hb⟩)
  refine ⟨(hF.trans h2).trans' f45 (fun b hb hy => absurd (hlow b hy) (by omega)), ?_, o', hJ4, ?_⟩
  · rw [hN]
    unfold Wds
    rw [List.length_append]
    simpa [ints] using hO4
  · intro g hg' e
    cases hg'
    rcases hat with hat | hat
    · exact hT' g4 hat e
    · have := K.lt _ _ _ g4 h1 e
      omega

set_option maxHeartbeats 16000000 in
set_option maxRecDepth 100000 in
theorem deed_walk (W : World) (X : Nat → Prop) (eb gl gc cb : Nat) (ad : Option Addr) (n cap m : Nat) (A : Nat → AskN) (tau : Nat → List Int) (J : Nat → Option Nat → World → Prop) (ch : List PanicEntry) (Pz : World → Prop)
    (hl : W.heap[gl]? = some (.cells #[.slice ad n cap] 39 (0, 0))) (hc : W.heap[gc]? = some (.cells #[.pointer (some ⟨cb, 0, none⟩)] 34 (0, 0))) (xl : ¬ X gl) (xc : ¬ X gc)
    (hA : AskM W X ad n A) (KN : Kn W X J) (hn : n ≤ 40) (hmn : m ≤ n) (ht0 : tau 0 = []) (ht : ∀ i, (tau i).length ≤ i) (oz : Option Nat) (hI0 : J 0 oz W)
    (hret : ∀ i, i < m → ∀ w go o, J i o w → w.heap[gc]? = some (.cells #[.pointer (some ⟨cb, 0, none⟩)] 34 (0, 0)) → w.heap[go]? = some (.cells #[.int .u8 (A i).k, .int .i64 (A i).a, .int .u64 (A i).x] 51 (0, 0)) → MRet ((A i).k % 7).toNat eb gc go (A i).a (argW (A i) (tau i)) w (fun y w' => (∃ o', J (i + 1) o' w' ∧ Went w o o') ∧ Fr X w w' ∧ Next ((A i).k % 7).toNat (tau i) (tau (i + 1)) y))
    (hpan : m < n → ∀ w go o, J m o w → w.heap[gc]? = some (.cells #[.pointer (some ⟨cb, 0, none⟩)] 34 (0, 0)) → w.heap[go]? = some (.cells #[.int .u8 (A m).k, .int .i64 (A m).a, .int .u64 (A m).x] 51 (0, 0)) → MPan ((A m).k % 7).toNat eb gc go (A m).a (argW (A m) (tau m)) w ch (fun w' => Pz w' ∧ Fr X w w')) :
    Calls Try.prog 21 #[.pointer (some ⟨eb, 0, none⟩), .pointer (some ⟨gl, 0, none⟩), .pointer (some ⟨gc, 0, none⟩)] W (DeedR W X n m (tau n) (J n) ch Pz) := by
  have c1 := ptr_cell hl
  have hu := Try.underlying51
  have HI0 := Aside0.mk hI0
  have HT0 := Aside0.mk ht0
  have HRET := Aside0.mk hret
  have HPAN := Aside0.mk hpan
  have HT := Aside0.mk ht
  have HAM := Aside0.mk hA
  have HL := Aside0.mk hl
  have HC := Aside0.mk hc
  clear hI0 ht0 hret hpan ht hA hl hc
  go_enter Try.func21, Try.ntmps21
  go_wp2_with fail
  go_loopw [5, 6] (fun v iv wr => ∃ i : Nat, i ≤ m ∧ iv = .int .i64 i ∧ Aside0 (Fr X W wr) ∧ Aside0 (Wds wr W.heap.size v (tau i)) ∧ Aside0 (∃ o, J i o wr ∧ Two v o)) (fun _ iv _ => n - (intOf iv).toNat)
  case atStart => exact ⟨0, by omega, rfl, Aside0.mk (Fr.refl X W), Aside0.mk (by rw [HT0.out]; exact Wds.nil W _), Aside0.mk ⟨oz, HI0.out, fun g hg => by cases hg⟩⟩
  case round =>
    clear HI0 HT0
    obtain ⟨i, hi, rfl, HF, HO, HII⟩ := hrel
    have hl1 : wr.cell? ⟨gl, 0, none⟩ = some (.slice ad n cap) := ptr_cell (HF.out.keeps HL.out xl)
    obtain ⟨vad, vcap, hv⟩ := HO.out.form
    subst hv
    obtain ⟨oe, hJ, hTW⟩ := HII.out
    have HJ := Aside0.mk hJ
    have HTW := Aside0.mk hTW
    clear HII hJ hTW
    have hti := HT.out i
    by_cases hlt : i < n
    · obtain ⟨y, e, hyl, hyx, y0, y1, y2⟩ := (HAM.out.fr HF.out).at_ i hlt
      cases e
      have hd : decide ((i : Int) < (n : Int)) = true := decide_eq_true (by omega)
      have hi0 : (0 : Int) ≤ (i : Int) := by omega
      have hi1 : (i : Int) < (n : Int) := by omega
      have y1' : wr.cell? { block := (y.add (i * 3)).block, off := (y.add (i * 3)).off + 1 } = some (.int .i64 (A i).a) := y1
      have y2' : wr.cell? { block := (y.add (i * 3)).block, off := (y.add (i * 3)).off + 2 } = some (.int .u64 (A i).x) := y2
      have hk := HAM.out.kd i hlt
      have HRi := Aside0.mk (fun h => HRET.out i h)
      have HPi := Aside0.mk (fun (h : i = m) => h ▸ HPAN.out)
      have hgc2 := HF.out.keeps HC.out xc
      have HGC2 := Aside0.mk hgc2
      clear hgc2 HRET HPAN
      obtain ⟨kk, aa, xx, hAi⟩ : ∃ kk aa xx, A i = ⟨kk, aa, xx⟩ := ⟨_, _, _, rfl⟩
      rw [hAi] at y0 y1' y2' hk HRi HPi
      clear y1 y2 hAi
      go_upto_region 6 with fail
      have HB2 := Aside0.mk ((Below.refl wr.heap.size wr).alloc (Nat.le_refl _) (.cells #[.int .u8 kk, .int .i64 aa, .int .u64 xx] 51))
      have BO := Aside0.mk (blk_new wr (.cells #[.int .u8 kk, .int .i64 aa, .int .u64 xx] 51))
      have F2 := Aside0.mk (HF.out.alloc (.cells #[.int .u8 kk, .int .i64 aa, .int .u64 xx] 51))
      have O2 := Aside0.mk (HO.out.below HB2.out)
      have GC2 := Aside0.mk (blk_below HGC2.out HB2.out)
      have I2 := Aside0.mk (KN.below HJ.out HB2.out)
      obtain ⟨go, hgo⟩ : ∃ go, wr.heap.size = go := ⟨_, rfl⟩
      generalize hw2 : wr.alloc (.cells #[.int .u8 kk, .int .i64 aa, .int .u64 xx] 51) = w2 at HB2 BO F2 O2 GC2 I2 ⊢
      rw [hgo] at BO ⊢
      clear hw2 hgo y0 y1' y2' hl1 HO HF HB2 HGC2 HJ
      have o0 : w2.cell? ⟨go, 0, none⟩ = some (.int .u8 kk) := (blk_cell BO.out 0).trans rfl
      have o1 : w2.cell? ⟨go, 1, none⟩ = some (.int .i64 aa) := (blk_cell BO.out 1).trans rfl
      have o2 : w2.cell? ⟨go, 2, none⟩ = some (.int .u64 xx) := (blk_cell BO.out 2).trans rfl
      go_wp2_with fail
      go_loop [8, 9] (fun sv kv => ∃ k : Nat, k ≤ (tau i).length ∧ kv = .int .i64 k ∧ sv = .int .u64 (sumW xx ((tau i).take k))) (fun _ kv => (tau i).length - (intOf kv).toNat)
      case atStart => exact ⟨0, by omega, rfl, rfl⟩
      case round =>
        obtain ⟨k, hk9, rfl, rfl⟩ := hrel
        by_cases hkt : k < (tau i).length
        · have hd9 : decide ((k : Int) < ((tau i).length : Int)) = true := decide_eq_true (by omega)
          obtain ⟨tg, tcap, e1, e2, e3, e4⟩ := O2.out.some (by omega)
          have e5 := e4 k hkt
          cases e1
          have htk := sum_next xx (tau i) k hkt
          clear e4
          generalize (tau i).getD k 0 = yk at e5 htk
          have HTK := Aside0.mk htk
          clear htk
          go_wp2_with fail
          go_round
          case rel => exact ⟨k + 1, by omega, by go_num, by rw [HTK.out]⟩
          case measure => exact step_lt k _ hkt
        · have hd9 : decide ((k : Int) < ((tau i).length : Int)) = false := decide_eq_false (by omega)
          obtain rfl : k = (tau i).length := by omega
          rw [List.take_length]
          by_cases him : i < m
          · have hm0 := HRi.out him w2 go oe I2.out GC2.out BO.out
            obtain ⟨RR, hRR, hRe⟩ : ∃ RR : Int → World → Prop, (∀ y w', RR y w' → (∃ o', J (i + 1) o' w' ∧ Went w2 oe o') ∧ Fr X w2 w') ∧ RR = (fun y w' => (∃ o', J (i + 1) o' w' ∧ Went w2 oe o') ∧ Fr X w2 w' ∧ Next (kk % 7).toNat (tau i) (tau (i + 1)) y) := ⟨_, fun y w' h => ⟨h.1, h.2.1⟩, rfl⟩
            have hNX : ∀ y w', RR y w' → Next (kk % 7).toNat (tau i) (tau (i + 1)) y := fun y w' h => by rw [hRe] at h; exact h.2.2
            have hm : MRet (kk % 7).toNat eb gc go aa (argW ⟨kk, aa, xx⟩ (tau i)) w2 RR := by rw [hRe]; exact hm0
            have HM := Aside0.mk hm
            have HNX0 := Aside0.mk hNX
            clear hm hm0 hRe hNX HRi HPi
            obtain ⟨sv, hsv⟩ : ∃ sv, sumW xx (tau i) = sv := ⟨_, rfl⟩
            rw [hsv]
            have HSV := Aside0.mk hsv
            clear hsv
            rcases (by omega : kk % 7 = 0 ∨ kk % 7 = 1 ∨ kk % 7 = 2 ∨ kk % 7 = 3 ∨ kk % 7 = 4 ∨ kk % 7 = 5 ∨ kk % 7 = 6) with hq | hq | hq | hq | hq | hq | hq
            · have hm : Calls Try.prog 22 #[.pointer (some ⟨eb, 0, none⟩), .int .i64 aa, .int .u64 sv] w2 (Vd fun w' => ∃ y, RR y w') := by
                have := HM.out
                rw [arg0 hq, HSV.out, hq] at this
                exact this
              have hnx : ∀ y w', RR y w' → Next 0 (tau i) (tau (i + 1)) y := fun y w' h => by
                have := HNX0.out y w' h
                rw [hq] at this
                exact this
              have HMM := Aside0.mk hm
              have HNX := Aside0.mk hnx
              have HRR := Aside0.mk hRR
              clear hm hnx hRR HM HNX0
              go_wp2_with (go_at_call 22; refine HMM.out.mono ?_; rintro e w5 ⟨rfl, y5, hR5⟩; have HR5 := Aside0.mk hR5; clear hR5)
              have hfin := plain_fin KN HRR.out HR5.out F2.out O2.out HTW.out (HNX.out _ _ HR5.out)
              exact ⟨⟨i + 1, by omega, rfl, Aside0.mk hfin.1, Aside0.mk hfin.2.1, Aside0.mk hfin.2.2⟩, step_lt i n hlt⟩
            · have hm : Calls Try.prog 23 #[.pointer (some ⟨eb, 0, none⟩), .int .i64 aa] w2 (Ans RR) := by
                have := HM.out
                rw [argN (by omega), hq] at this
                exact this
              have hnx : ∀ y w', RR y w' → Next 1 (tau i) (tau (i + 1)) y := fun y w' h => by
                have := HNX0.out y w' h
                rw [hq] at this
                exact this
              have HMM := Aside0.mk hm
              have HNX := Aside0.mk hnx
              have HRR := Aside0.mk hRR
              clear hm hnx hRR HM HNX0
              obtain ⟨i0, hi0_, hz0, hz1, hz2⟩ := info_parts info49
              go_wp2_with (first
                | (go_at_call 23; refine HMM.out.mono ?_; rintro e w5 ⟨y5, rfl, hR5⟩; have HR5 := Aside0.mk hR5; clear hR5; have OV5 := Aside0.mk (O2.out.fr (HRR.out _ _ HR5.out).2 (fun g hg hx => by have := KN.low g hx; have := (O2.out.lt hg).1; omega)); have HB5 := Aside0.mk (Nat.le_trans F2.out.size (HRR.out _ _ HR5.out).2.size))
                | (at_builtin; refine wpList_append_lies _ rfl _ _ _ rfl W.heap.size 49 i0 _ 1 8 Try.underlying31 hi0_ hz0 hz1 hz2 rfl (by omega) (.slice vad (tau i).length vcap) (tau i).length (ints (tau i)) (by rfl) (OV5.out.below ((Below.refl _ w5).alloc (Nat.le_refl _) _)) ⟨w5.heap.size, 0, none⟩ 1 1 [.int .u64 y5] (by rfl) (by rfl) (World.news_of_block (cs := #[.int .u64 y5]) (t := 49) (fr := (0, 0)) (heap_alloc_new w5 _)) (by simp [Value.oneCell']) (by omega) (by unfold maxLen; omega) (by omega) (by have := HB5.out; simp; omega) (w5.heap.size + 1) (by simp) ?_; intro g4 cap4 w4 hown4 hgrow4 hat4 hlt4; have O4 := Aside0.mk hown4; have G4 := Aside0.mk hgrow4; have A4 := Aside0.mk hat4; clear hown4 hgrow4 hat4))
              have hfin := app_fin KN HRR.out HR5.out F2.out O2.out HTW.out HB5.out G4.out O4.out A4.out (HNX.out _ _ HR5.out)
              exact ⟨⟨i + 1, by omega, rfl, Aside0.mk hfin.1, Aside0.mk hfin.2.1, Aside0.mk hfin.2.2⟩, step_lt i n hlt⟩
            · have hm : Calls Try.prog 24 #[.pointer (some ⟨eb, 0, none⟩), .int .i64 aa] w2 (Vd fun w' => ∃ y, RR y w') := by
                have := HM.out
                rw [argN (by omega), hq] at this
                exact this
              have hnx : ∀ y w', RR y w' → Next 2 (tau i) (tau (i + 1)) y := fun y w' h => by
                have := HNX0.out y w' h
                rw [hq] at this
                exact this
              have HMM := Aside0.mk hm
              have HNX := Aside0.mk hnx
              have HRR := Aside0.mk hRR
              clear hm hnx hRR HM HNX0
              go_wp2_with (go_at_call 24; refine HMM.out.mono ?_; rintro e w5 ⟨rfl, y5, hR5⟩; have HR5 := Aside0.mk hR5; clear hR5)
              have hfin := plain_fin KN HRR.out HR5.out F2.out O2.out HTW.out (HNX.out _ _ HR5.out)
              exact ⟨⟨i + 1, by omega, rfl, Aside0.mk hfin.1, Aside0.mk hfin.2.1, Aside0.mk hfin.2.2⟩, step_lt i n hlt⟩
            · have hm : Calls Try.prog 25 #[.pointer (some ⟨eb, 0, none⟩)] w2 (Vd fun w' => ∃ y, RR y w') := by
                have := HM.out
                rw [argN (by omega), hq] at this
                exact this
              have hnx : ∀ y w', RR y w' → Next 3 (tau i) (tau (i + 1)) y := fun y w' h => by
                have := HNX0.out y w' h
                rw [hq] at this
                exact this
              have HMM := Aside0.mk hm
              have HNX := Aside0.mk hnx
              have HRR := Aside0.mk hRR
              clear hm hnx hRR HM HNX0
              go_wp2_with (go_at_call 25; refine HMM.out.mono ?_; rintro e w5 ⟨rfl, y5, hR5⟩; have HR5 := Aside0.mk hR5; clear hR5)
              have hfin := plain_fin KN HRR.out HR5.out F2.out O2.out HTW.out (HNX.out _ _ HR5.out)
              exact ⟨⟨i + 1, by omega, rfl, Aside0.mk hfin.1, Aside0.mk hfin.2.1, Aside0.mk hfin.2.2⟩, step_lt i n hlt⟩
            · have hm : Calls Try.prog 26 #[.pointer (some ⟨eb, 0, none⟩), .int .i64 aa] w2 (Vd fun w' => ∃ y, RR y w') := by
                have := HM.out
                rw [argN (by omega), hq] at this
                exact this
              have hnx : ∀ y w', RR y w' → Next 4 (tau i) (tau (i + 1)) y := fun y w' h => by
                have := HNX0.out y w' h
                rw [hq] at this
                exact this
              have HMM := Aside0.mk hm
              have HNX := Aside0.mk hnx
              have HRR := Aside0.mk hRR
              clear hm hnx hRR HM HNX0
              go_wp2_with (go_at_call 26; refine HMM.out.mono ?_; rintro e w5 ⟨rfl, y5, hR5⟩; have HR5 := Aside0.mk hR5; clear hR5)
              have hfin := plain_fin KN HRR.out HR5.out F2.out O2.out HTW.out (HNX.out _ _ HR5.out)
              exact ⟨⟨i + 1, by omega, rfl, Aside0.mk hfin.1, Aside0.mk hfin.2.1, Aside0.mk hfin.2.2⟩, step_lt i n hlt⟩
            · have hm : Calls Try.prog 27 #[.pointer (some ⟨eb, 0, none⟩), .int .i64 aa] w2 (Vd fun w' => ∃ y, RR y w') := by
                have := HM.out
                rw [argN (by omega), hq] at this
                exact this
              have hnx : ∀ y w', RR y w' → Next 5 (tau i) (tau (i + 1)) y := fun y w' h => by
                have := HNX0.out y w' h
                rw [hq] at this
                exact this
              have HMM := Aside0.mk hm
              have HNX := Aside0.mk hnx
              have HRR := Aside0.mk hRR
              clear hm hnx hRR HM HNX0
              go_wp2_with (go_at_call 27; refine HMM.out.mono ?_; rintro e w5 ⟨rfl, y5, hR5⟩; have HR5 := Aside0.mk hR5; clear hR5)
              have hfin := plain_fin KN HRR.out HR5.out F2.out O2.out HTW.out (HNX.out _ _ HR5.out)
              exact ⟨⟨i + 1, by omega, rfl, Aside0.mk hfin.1, Aside0.mk hfin.2.1, Aside0.mk hfin.2.2⟩, step_lt i n hlt⟩
            · have hm : Calls Try.prog 28 #[.pointer (some ⟨eb, 0, none⟩), .func (.func 29) #[] #[.pointer (some ⟨gc, 0, none⟩), .pointer (some ⟨go, 0, none⟩)]] w2 (Ans RR) := by
                have := HM.out
                rw [argN (by omega), hq] at this
                exact this
              have hnx : ∀ y w', RR y w' → Next 6 (tau i) (tau (i + 1)) y := fun y w' h => by
                have := HNX0.out y w' h
                rw [hq] at this
                exact this
              have HMM := Aside0.mk hm
              have HNX := Aside0.mk hnx
              have HRR := Aside0.mk hRR
              clear hm hnx hRR HM HNX0
              obtain ⟨i0, hi0_, hz0, hz1, hz2⟩ := info_parts info49
              go_wp2_with (first
                | (go_at_call 28; refine HMM.out.mono ?_; rintro e w5 ⟨y5, rfl, hR5⟩; have HR5 := Aside0.mk hR5; clear hR5; have OV5 := Aside0.mk (O2.out.fr (HRR.out _ _ HR5.out).2 (fun g hg hx => by have := KN.low g hx; have := (O2.out.lt hg).1; omega)); have HB5 := Aside0.mk (Nat.le_trans F2.out.size (HRR.out _ _ HR5.out).2.size))
                | (at_builtin; refine wpList_append_lies _ rfl _ _ _ rfl W.heap.size 49 i0 _ 1 8 Try.underlying31 hi0_ hz0 hz1 hz2 rfl (by omega) (.slice vad (tau i).length vcap) (tau i).length (ints (tau i)) (by rfl) (OV5.out.below ((Below.refl _ w5).alloc (Nat.le_refl _) _)) ⟨w5.heap.size, 0, none⟩ 1 1 [.int .u64 y5] (by rfl) (by rfl) (World.news_of_block (cs := #[.int .u64 y5]) (t := 49) (fr := (0, 0)) (heap_alloc_new w5 _)) (by simp [Value.oneCell']) (by omega) (by unfold maxLen; omega) (by omega) (by have := HB5.out; simp; omega) (w5.heap.size + 1) (by simp) ?_; intro g4 cap4 w4 hown4 hgrow4 hat4 hlt4; have O4 := Aside0.mk hown4; have G4 := Aside0.mk hgrow4; have A4 := Aside0.mk hat4; clear hown4 hgrow4 hat4))
              have hfin := app_fin KN HRR.out HR5.out F2.out O2.out HTW.out HB5.out G4.out O4.out A4.out (HNX.out _ _ HR5.out)
              exact ⟨⟨i + 1, by omega, rfl, Aside0.mk hfin.1, Aside0.mk hfin.2.1, Aside0.mk hfin.2.2⟩, step_lt i n hlt⟩
          · obtain rfl : i = m := by omega
            have hm0 := HPi.out rfl hlt w2 go oe I2.out GC2.out BO.out
            obtain ⟨RP, hRP, hRe⟩ : ∃ RP : World → Prop, (∀ w', RP w' → Pz w' ∧ Fr X w2 w') ∧ RP = (fun w' => Pz w' ∧ Fr X w2 w') := ⟨_, fun w' h => h, rfl⟩
            have hm : MPan (kk % 7).toNat eb gc go aa (argW ⟨kk, aa, xx⟩ (tau i)) w2 ch RP := by rw [hRe]; exact hm0
            have HM := Aside0.mk hm
            clear hm hm0 hRe HRi HPi
            obtain ⟨sv, hsv⟩ : ∃ sv, sumW xx (tau i) = sv := ⟨_, rfl⟩
            rw [hsv]
            have HSV := Aside0.mk hsv
            clear hsv
            rcases (by omega : kk % 7 = 0 ∨ kk % 7 = 1 ∨ kk % 7 = 2 ∨ kk % 7 = 3 ∨ kk % 7 = 4 ∨ kk % 7 = 5 ∨ kk % 7 = 6) with hq | hq | hq | hq | hq | hq | hq
            · have hm : Calls Try.prog 22 #[.pointer (some ⟨eb, 0, none⟩), .int .i64 aa, .int .u64 sv] w2 (fun e w' => e = .panicked ch ∧ RP w') := by
                have := HM.out
                rw [arg0 hq, HSV.out, hq] at this
                exact this
              have HMM := Aside0.mk hm
              have HRP := Aside0.mk hRP
              clear hm HM hRP
              go_wp2_with (go_at_call 22; refine HMM.out.mono ?_; rintro e w5 ⟨rfl, hR5⟩; have hRR5 := HRP.out _ hR5)
              exact ⟨rfl, .inr ⟨hlt, rfl, hRR5.1, F2.out.trans hRR5.2⟩⟩
            · have hm : Calls Try.prog 23 #[.pointer (some ⟨eb, 0, none⟩), .int .i64 aa] w2 (fun e w' => e = .panicked ch ∧ RP w') := by
                have := HM.out
                rw [argN (by omega), hq] at this
                exact this
              have HMM := Aside0.mk hm
              have HRP := Aside0.mk hRP
              clear hm HM hRP
              go_wp2_with (go_at_call 23; refine HMM.out.mono ?_; rintro e w5 ⟨rfl, hR5⟩; have hRR5 := HRP.out _ hR5)
              exact ⟨rfl, .inr ⟨hlt, rfl, hRR5.1, F2.out.trans hRR5.2⟩⟩
            · have hm : Calls Try.prog 24 #[.pointer (some ⟨eb, 0, none⟩), .int .i64 aa] w2 (fun e w' => e = .panicked ch ∧ RP w') := by
                have := HM.out
                rw [argN (by omega), hq] at this
                exact this
              have HMM := Aside0.mk hm
              have HRP := Aside0.mk hRP
              clear hm HM hRP
              go_wp2_with (go_at_call 24; refine HMM.out.mono ?_; rintro e w5 ⟨rfl, hR5⟩; have hRR5 := HRP.out _ hR5)
              exact ⟨rfl, .inr ⟨hlt, rfl, hRR5.1, F2.out.trans hRR5.2⟩⟩
            · have hm : Calls Try.prog 25 #[.pointer (some ⟨eb, 0, none⟩)] w2 (fun e w' => e = .panicked ch ∧ RP w') := by
                have := HM.out
                rw [argN (by omega), hq] at this
                exact this
              have HMM := Aside0.mk hm
              have HRP := Aside0.mk hRP
              clear hm HM hRP
              go_wp2_with (go_at_call 25; refine HMM.out.mono ?_; rintro e w5 ⟨rfl, hR5⟩; have hRR5 := HRP.out _ hR5)
              exact ⟨rfl, .inr ⟨hlt, rfl, hRR5.1, F2.out.trans hRR5.2⟩⟩
            · have hm : Calls Try.prog 26 #[.pointer (some ⟨eb, 0, none⟩), .int .i64 aa] w2 (fun e w' => e = .panicked ch ∧ RP w') := by
                have := HM.out
                rw [argN (by omega), hq] at this
                exact this
              have HMM := Aside0.mk hm
              have HRP := Aside0.mk hRP
              clear hm HM hRP
              go_wp2_with (go_at_call 26; refine HMM.out.mono ?_; rintro e w5 ⟨rfl, hR5⟩; have hRR5 := HRP.out _ hR5)
              exact ⟨rfl, .inr ⟨hlt, rfl, hRR5.1, F2.out.trans hRR5.2⟩⟩
            · have hm : Calls Try.prog 27 #[.pointer (some ⟨eb, 0, none⟩), .int .i64 aa] w2 (fun e w' => e = .panicked ch ∧ RP w') := by
                have := HM.out
                rw [argN (by omega), hq] at this
                exact this
              have HMM := Aside0.mk hm
              have HRP := Aside0.mk hRP
              clear hm HM hRP
              go_wp2_with (go_at_call 27; refine HMM.out.mono ?_; rintro e w5 ⟨rfl, hR5⟩; have hRR5 := HRP.out _ hR5)
              exact ⟨rfl, .inr ⟨hlt, rfl, hRR5.1, F2.out.trans hRR5.2⟩⟩
            · have hm : Calls Try.prog 28 #[.pointer (some ⟨eb, 0, none⟩), .func (.func 29) #[] #[.pointer (some ⟨gc, 0, none⟩), .pointer (some ⟨go, 0, none⟩)]] w2 (fun e w' => e = .panicked ch ∧ RP w') := by
                have := HM.out
                rw [argN (by omega), hq] at this
                exact this
              have HMM := Aside0.mk hm
              have HRP := Aside0.mk hRP
              clear hm HM hRP
              go_wp2_with (go_at_call 28; refine HMM.out.mono ?_; rintro e w5 ⟨rfl, hR5⟩; have hRR5 := HRP.out _ hR5)
              exact ⟨rfl, .inr ⟨hlt, rfl, hRR5.1, F2.out.trans hRR5.2⟩⟩
    · obtain rfl : i = n := by omega
      obtain rfl : i = m := by omega
      have hd : decide ((i : Int) < (i : Int)) = false := decide_eq_false (by omega)
      go_wp2_with fail
      go_ret
      exact .inl ⟨rfl, _, _, rfl, HO.out, HJ.out, HTW.out, HF.out⟩
end Go.Proofs.Ytmolflmljneelaa.En
