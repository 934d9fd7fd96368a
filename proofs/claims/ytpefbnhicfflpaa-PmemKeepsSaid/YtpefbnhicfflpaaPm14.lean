/- Pmem: the picks. -/
import Derived.Test.YtpefbnhicfflpaaPm13
namespace Go.Proofs.Ytpefbnhicfflpaa.Pm
open Go.RowKit Go.Maps Go.ChangeMaps Go.MapKept Go.Proofs.YtpefbnhicfflpaaW.PrintWords Go.Proofs.YtpefbnhicfflpaaW.PrintLast Go.Proofs.YtpefbnhicfflpaaW.PrintMore
set_option linter.unusedSimpArgs false
set_option linter.unusedVariables false
theorem add_block (ad : Addr) (k : Nat) : (ad.add k).block = ad.block := by unfold Addr.add; split <;> rfl
/-- A list of picks that lies in memory ahead of block B. -/
structure PL (W : World) (B : Nat) (A : Option Addr) (m : Nat) : Prop where
  pos : 0 < m → ∃ ad, A = some ad
  row : ∀ ad, A = some ad → ∀ i, i < m → ad.block < B ∧ ∃ x, W.cell? (ad.add i) = some (.int .i64 x)
theorem PL.kept {W W' : World} {B : Nat} {A : Option Addr} {m : Nat} (h : PL W B A m) (hb : ∀ k, k < B → W'.heap[k]? = W.heap[k]?) : PL W' B A m := ⟨h.pos, fun ad ha i hi => by
  obtain ⟨h1, x, h2⟩ := h.row ad ha i hi
  exact ⟨h1, x, (World.cell?_of_block (hb _ (by rw [add_block]; exact h1))).trans h2⟩⟩
theorem PL.mono {W : World} {B B' : Nat} {A : Option Addr} {m : Nat} (h : PL W B A m) (hb : B ≤ B') : PL W B' A m := ⟨h.pos, fun ad ha i hi => ⟨Nat.lt_of_lt_of_le (h.row ad ha i hi).1 hb, (h.row ad ha i hi).2⟩⟩
/-- The picks' closure: its counter's block, its list's box, the list. -/
structure Pk (W : World) (B bc bl : Nat) (A : Option Addr) (m c k : Nat) : Prop where
  cnt : W.heap[bc]? = some (.cells #[.int .i64 (k : Int)] 3 (0, 0))
  box : W.heap[bl]? = some (.cells #[.slice A m c] 33 (0, 0))
  pl : PL W B A m
  ne : bc ≠ bl ∧ B ≤ bc ∧ B ≤ bl
theorem Pk.below {W W' : World} {B bc bl : Nat} {A : Option Addr} {m c k : Nat} (h : Pk W B bc bl A m c k) (hb : Below W.heap.size W W') : Pk W' B bc bl A m c k := ⟨blk_below h.cnt hb, blk_below h.box hb, h.pl.kept (fun k hk => hb.block k (by have := blk_lt h.cnt; have := h.ne.2.1; omega)), h.ne⟩
theorem Pk.far {W : World} {B bc bl : Nat} {A : Option Addr} {m c k : Nat} (h : Pk W B bc bl A m c k) {q : Addr} (h1 : bc ≠ q.block) (h2 : bl ≠ q.block) (h3 : B ≤ q.block) (v : Value) : Pk (W.setCell q v) B bc bl A m c k := ⟨blk_far h.cnt h1 v, blk_far h.box h2 v, h.pl.kept (fun k hk => Below.heap_setCell W q v k (by omega)), h.ne⟩
theorem Pk.drewN {W : World} {B bc bl : Nat} {A : Option Addr} {m c k : Nat} (h : Pk W B bc bl A m c k) (n : Nat) : Pk (W.drewN n) B bc bl A m c k := ⟨h.cnt, h.box, ⟨h.pl.pos, h.pl.row⟩, h.ne⟩
theorem Pk.next {W : World} {B bc bl : Nat} {A : Option Addr} {m c k : Nat} (h : Pk W B bc bl A m c k) : Pk (W.setCell ⟨bc, 0, none⟩ (.int .i64 ((k + 1 : Nat) : Int))) B bc bl A m c (k + 1) := ⟨blk_put h.cnt 0 _ rfl, blk_far h.box (p := ⟨bc, 0, none⟩) (fun e => h.ne.1 e.symm) _, h.pl.kept (fun k hk => Below.heap_setCell W _ _ k (by have := h.ne.2.1; show k ≠ bc; omega)), h.ne⟩
set_option maxHeartbeats 1000000 in
theorem pick_calls (W : World) {B bc bl : Nat} {A : Option Addr} {m c k : Nat} (h : Pk W B bc bl A m c k) (hk : k ≤ 1000) (y : Int) : Calls Try.prog 38 #[.int .i64 y, .pointer (some ⟨bc, 0, none⟩), .pointer (some ⟨bl, 0, none⟩)] W fun e w' => (∃ r : Int, e = .returned (.int .i64 r) ∧ (m = 0 → r = 0)) ∧ w' = W.setCell ⟨bc, 0, none⟩ (.int .i64 ((k + 1 : Nat) : Int)) := by
  have hc : W.cell? ⟨bc, 0, none⟩ = some (.int .i64 (k : Int)) := (blk_cell h.cnt 0).trans rfl
  have hf := blk_frozen h.cnt 0
  have hn := h.next
  have hkk : ((k + 1 : Nat) : Int) = (k : Int) + 1 := by push_cast; rfl
  rw [hkk] at hn ⊢
  have hc2 : (W.setCell ⟨bc, 0, none⟩ (.int .i64 ((k : Int) + 1))).cell? ⟨bc, 0, none⟩ = some (.int .i64 ((k : Int) + 1)) := (blk_cell (blk_put h.cnt 0 _ rfl) 0).trans rfl
  have hb2 : (W.setCell ⟨bc, 0, none⟩ (.int .i64 ((k : Int) + 1))).cell? ⟨bl, 0, none⟩ = some (.slice A m c) := (blk_cell hn.box 0).trans rfl
  have hpl := hn.pl
  have hw : (k : Int) + 1 < 9223372036854775807 := by omega
  clear hn hkk
  by_cases hkm : (k : Int) + 1 > m
  · have hd : decide ((k : Int) + 1 > m) = true := decide_eq_true hkm
    clear h hpl
    go_enter Try.func38, Try.ntmps38
    go_wp2
    go_ret
    exact ⟨⟨_, rfl, fun _ => rfl⟩, rfl⟩
  · have hd : decide ((k : Int) + 1 > m) = false := decide_eq_false hkm
    obtain ⟨ad, rfl⟩ := hpl.pos (by omega)
    obtain ⟨_, x, hel2⟩ := hpl.row ad rfl k (by omega)
    have hk0 : (0 : Int) ≤ (k : Int) := by omega
    have hk1 : (k : Int) < (m : Int) := by omega
    have hk2 : (k : Int) + 1 - 1 = k := by omega
    clear h hpl
    go_enter Try.func38, Try.ntmps38
    go_wp2
    go_ret
    exact ⟨⟨_, rfl, fun h0 => absurd h0 (by omega)⟩, rfl⟩
theorem picks_calls (W : World) {B : Nat} {A : Option Addr} {m c : Nat} (h : PL W B A m) (hB : B ≤ W.heap.size) : Calls Try.prog 18 #[.slice A m c] W fun e w' => ∃ bc bl, e = .returned (.func (.func 38) #[] #[.pointer (some ⟨bc, 0, none⟩), .pointer (some ⟨bl, 0, none⟩)]) ∧ Pk w' B bc bl A m c 0 ∧ Below W.heap.size W w' ∧ W.heap.size ≤ bc ∧ W.heap.size ≤ bl := by
  have hs : (W.alloc (.cells #[.slice A m c] 33)).heap.size = W.heap.size + 1 := by simp
  have hb1 := below_alloc (Below.refl W.heap.size W) (.cells #[.slice A m c] 33)
  have hb2 := below_alloc (Below.refl (W.alloc (.cells #[.slice A m c] 33)).heap.size (W.alloc (.cells #[.slice A m c] 33))) (.cells #[.int .i64 0] 3)
  have hbx := blk_below (blk_new W (.cells #[.slice A m c] 33)) hb2
  have hbc := blk_new (W.alloc (.cells #[.slice A m c] 33)) (.cells #[.int .i64 0] 3)
  rw [hs] at hbc
  have hb3 : Below W.heap.size W ((W.alloc (.cells #[.slice A m c] 33)).alloc (.cells #[.int .i64 0] 3)) := hb1.trans (hb2.mono (by omega))
  have hcc := (blk_cell hbc 0).trans (rfl : (#[Value.int .i64 0] : Array Value)[0]? = some (.int .i64 0))
  have hff := blk_frozen hbc 0
  have HPL := Aside0.mk h
  clear h
  go_enter Try.func18, Try.ntmps18
  go_wp2
  go_ret
  exact ⟨W.heap.size + 1, W.heap.size, rfl, ⟨hbc, hbx, HPL.out.kept (fun k hk => hb3.block k (by omega)), ⟨by omega, by omega, hB⟩⟩, hb3, by omega, Nat.le_refl _⟩
theorem Rg.farCell {W : World} {p gs gk bm N cs ck n : Nat} {S K : List Int} {D : DataW Unit} (h : Rg W p gs gk bm N cs ck n S K D) {q : Addr} (hq : p ≠ q.block ∧ gs ≠ q.block ∧ gk ≠ q.block ∧ bm ≠ q.block) (v : Value) : Rg (W.setCell q v) p gs gk bm N cs ck n S K D :=
  ⟨let ⟨st, h1⟩ := h.tp; ⟨st, blk_far h1 hq.1 v⟩, h.rs.far hq.2.1 v, h.rk.far hq.2.2.1 v, owns_far h.mp hq.2.2.2 v, h.ne⟩
theorem Rg.keep1 {W : World} {p gs gk bm N cs ck n : Nat} {S K : List Int} {D : DataW Unit} (h : Rg W p gs gk bm N cs ck n S K D) (i : Nat) (hi : i < N) (x : Int) : Rg (W.setCell ⟨gk, i, none⟩ (.int .u64 x)) p gs gk bm N cs ck n S (K.set i x) D := by
  obtain ⟨n1, n2, n3, n4, n5, n6⟩ := h.ne
  exact ⟨let ⟨st, h1⟩ := h.tp; ⟨st, blk_far h1 n2 _⟩, h.rs.far (p := ⟨gk, i, none⟩) n3 _, h.rk.put i hi x, owns_far h.mp (p := ⟨gk, i, none⟩) n6 _, h.ne⟩
theorem Rg.seen {W : World} {p gs gk bm N cs ck n g c : Nat} {S K T : List Int} {D : DataW Unit} (h : Rg W p gs gk bm N cs ck n S K D) (hg : Row W g N c T) (hne : p ≠ g ∧ g ≠ gk ∧ bm ≠ g) : Rg (W.setCell ⟨p, 0, none⟩ (.slice (some ⟨g, 0, none⟩) N c)) p g gk bm N c ck n T K D := by
  obtain ⟨n1, n2, n3, n4, n5, n6⟩ := h.ne
  refine ⟨?_, hg.far (p := ⟨p, 0, none⟩) (fun e => hne.1 e.symm) _, h.rk.far (p := ⟨p, 0, none⟩) (fun e => n2 e.symm) _, owns_far h.mp (p := ⟨p, 0, none⟩) n4 _, hne.1, n2, hne.2.1, n4, hne.2.2, n6⟩
  obtain ⟨st0, h1⟩ := h.tp
  exact ⟨st0, blk_put h1 0 _ rfl⟩
theorem waysL_len (S K : List Int) (D : DataW Unit) (j : Nat) : 1 ≤ (waysL S K D j).length ∧ (waysL S K D j).length ≤ 3 := by
  have h1 : ∀ (l : List Int) x, l.length ≤ (addW l x).length := fun l x => by unfold addW; split <;> simp
  unfold waysL
  split
  · rename_i x _
    have a := addW_len [K.getD j 0] x
    have b := addW_len (addW [K.getD j 0] x) (S.getD j 0)
    have c := h1 [K.getD j 0] x
    have d := h1 (addW [K.getD j 0] x) (S.getD j 0)
    simp only [List.length_singleton] at a c
    omega
  · have a := addW_len [K.getD j 0] (S.getD j 0)
    have c := h1 [K.getD j 0] (S.getD j 0)
    simp only [List.length_singleton] at a c
    omega
/-- What the loop has done to the kept words. -/
structure Done (m N : Nat) (S K K' : List Int) (D : DataW Unit) (i : Nat) : Prop where
  nil : m = 0 → ∀ j, K'.getD j 0 = K.getD j 0
  one : ∀ j, j < N → (waysL S K D j).length = 1 → K'.getD j 0 = K.getD j 0
  rest : ∀ j, i ≤ j → K'.getD j 0 = K.getD j 0
theorem waysL_eq {S K K' : List Int} {D : DataW Unit} {j : Nat} (h : K'.getD j 0 = K.getD j 0) : waysL S K' D j = waysL S K D j := by unfold waysL; rw [h]
theorem Done.skip {m N : Nat} {S K K' : List Int} {D : DataW Unit} {i : Nat} (h : Done m N S K K' D i) : Done m N S K K' D (i + 1) := ⟨h.nil, h.one, fun j hj => h.rest j (by omega)⟩
theorem Done.set {m N : Nat} {S K K' : List Int} {D : DataW Unit} {i : Nat} (h : Done m N S K K' D i) (hm : m ≠ 0) (hl : K'.length = N) (hi : i < N) (hw : ¬ (waysL S K D i).length = 1) (x : Int) : Done m N S K (K'.set i x) D (i + 1) := by
  have hs : ∀ j, j ≠ i → (K'.set i x).getD j 0 = K'.getD j 0 := fun j hj => by
    simp only [List.getD_eq_getElem?_getD, List.getElem?_set]
    rw [if_neg (fun e => hj e.symm)]
  refine ⟨fun e => absurd e hm, fun j hj h1 => ?_, fun j hj => ?_⟩
  · by_cases e : j = i
    · subst e
      exact absurd h1 hw
    · rw [hs j e]
      exact h.one j hj h1
  · rw [hs j (by omega)]
    exact h.rest j (by omega)
end Go.Proofs.Ytpefbnhicfflpaa.Pm
