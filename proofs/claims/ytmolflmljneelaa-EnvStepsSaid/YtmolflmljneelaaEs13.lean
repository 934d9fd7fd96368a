/- Parts of one proof, set together: En26, En29, En15, En21, En24. What each says stands at its head; no condition beyond theirs. -/
import Derived.Test.YtmolflmljneelaaEs12
import Derived.Deep.SlicePairs
import Derived.Deep.Strs
import Derived.Lib.SmallJoins
import Derived.OpenShut
import Derived.ProofKit
import Derived.WalkKit
/- The law's arguments, read: lists of asks, picks. No condition beyond the reading. -/
namespace Go.Proofs.Ytmolflmljneelaa.En
open Go.ChangeShapes Go.WideShapes Go.ChangeAt Go.RowKit Go.Deep Go.Joins
open Pm (Fr)
set_option linter.unusedSimpArgs false
set_option linter.unusedVariables false
/-- The deeds, as they came in: E says where each list lies, AA what it holds. -/
structure DeedsM (W : World) (a0 : Option Addr) (len0 : Nat) (E : Nat → Option Addr × Nat × Nat) (AA : Nat → Nat → AskN) : Prop where
  at_ : ∀ i, i < len0 → ∃ y, a0 = some y ∧ y.block < W.heap.size ∧ W.cell? (y.add i) = some (.slice (E i).1 (E i).2.1 (E i).2.2)
  asks : ∀ i, i < len0 → AskM W (fun b => W.heap.size ≤ b) (E i).1 (E i).2.1 (AA i)
instance : Inhabited AskN := ⟨⟨0, 0, 0⟩⟩
theorem add0 (z : Addr) : z.add 0 = z := by
  unfold Addr.add
  simp
theorem cell_lt {w : World} {a : Addr} {v : Value} (h : w.cell? a = some v) : a.block < w.heap.size := by
  rcases Nat.lt_or_ge a.block w.heap.size with h0 | h0
  · exact h0
  · have h3 : w.heap[a.block]? = none := Array.getElem?_eq_none h0
    simp [World.cell?, h3] at h
theorem open_asks {H : Type} {enc : TypeId × Value → H} {P : Program} {w : World} {t e : TypeId} {f0 f1 f2 : Field} {fuel : Nat} {v : Value} {x : DataW H × List MemPlace} (ht : P.underlying t = some (.slice e)) (he : P.underlying e = some (.struct #[f0, f1, f2]))
    (ce : P.cellsOf e = 3) (o0 : f0.offset = 0) (o1 : f1.offset = 1) (o2 : f2.offset = 2) (c0 : P.cellsOf f0.type = 1) (c1 : P.cellsOf f1.type = 1) (c2 : P.cellsOf f2.type = 1) (t0 : P.underlying f0.type = some (.int .u8)) (t1 : P.underlying f1.type = some (.int .i64)) (t2 : P.underlying f2.type = some (.int .u64))
    (h : DataW.trod enc P w 0 (fun _ => true) true fuel t [v] = some x) :
    ∃ a len cap A, v = .slice a len cap ∧ AskM w (fun b => w.heap.size ≤ b) a len A := by
  rcases open_slice ht h with ⟨hcs, _⟩ | ⟨y, l, c, m, n, D, Pl, hcs, hb, hl, hm, hmm, rfl, hx⟩
  · simp at hcs
    subst hcs
    exact ⟨none, 0, 0, fun _ => ⟨0, 0, 0⟩, rfl, fun i hi => absurd hi (by omega), fun i hi => absurd hi (by omega)⟩
  · simp at hcs
    subst hcs
    have each : ∀ i, i < l → ∃ q : AskN, w.cell? ((y.add (i * 3)).add 0) = some (.int .u8 q.k) ∧ w.cell? ((y.add (i * 3)).add 1) = some (.int .i64 q.a) ∧ w.cell? ((y.add (i * 3)).add 2) = some (.int .u64 q.x) ∧ 0 ≤ q.k ∧ q.k < 256 := by
      intro i hi
      obtain ⟨cs', h1, h2⟩ := hx i (by rw [hmm, if_pos rfl]; omega)
      rw [ce] at h1
      obtain ⟨_, hlen, hcell⟩ := World.cells?_some h1
      obtain ⟨y0, y1, y2, k, _, _, g0, g1, g2⟩ := trod_struct3 he h2
      match cs', hlen with
      | [v0, v1, v2], _ =>
        rw [o0, c0] at g0
        rw [o1, c1] at g1
        rw [o2, c2] at g2
        obtain ⟨b0, hv0, _, wf0⟩ := DataW.trod_int t0 g0
        obtain ⟨b1, hv1, _, _⟩ := DataW.trod_int t1 g1
        obtain ⟨b2, hv2, _, _⟩ := DataW.trod_int t2 g2
        have d0 := hcell 0 (by omega)
        have d1 := hcell 1 (by omega)
        have d2 := hcell 2 (by omega)
        simp at hv0 hv1 hv2 d0 d1 d2
        subst_vars
        have hk0 : 0 ≤ b0 ∧ b0 < 256 := by
          have := wf0
          simp [Lit.wf, IntKind.min, IntKind.max, IntKind.signed, IntKind.bits] at this
          omega
        exact ⟨⟨b0, b1, b2⟩, d0, d1, d2, hk0⟩
    obtain ⟨q, hq⟩ := choose_lt each
    refine ⟨some y, l, c, q, rfl, fun i hi => ?_, fun i hi => (hq i hi).2.2.2⟩
    obtain ⟨d0, d1, d2, _⟩ := hq i hi
    have hb := cell_lt d0
    rw [add_block, add_block] at hb
    rw [add0] at d0
    exact ⟨y, rfl, hb, by omega, d0, d1, d2⟩
theorem open_deeds {H : Type} {enc : TypeId × Value → H} {P : Program} {w : World} {t s e : TypeId} {f0 f1 f2 : Field} {fuel : Nat} {a : Option Addr} {len cap : Nat} {x : DataW H × List MemPlace} (hs : P.underlying s = some (.slice t)) (cs : P.cellsOf t = 1) (ht : P.underlying t = some (.slice e)) (he : P.underlying e = some (.struct #[f0, f1, f2]))
    (ce : P.cellsOf e = 3) (o0 : f0.offset = 0) (o1 : f1.offset = 1) (o2 : f2.offset = 2) (c0 : P.cellsOf f0.type = 1) (c1 : P.cellsOf f1.type = 1) (c2 : P.cellsOf f2.type = 1) (t0 : P.underlying f0.type = some (.int .u8)) (t1 : P.underlying f1.type = some (.int .i64)) (t2 : P.underlying f2.type = some (.int .u64))
    (h : DataW.trod enc P w 0 (fun _ => true) true fuel s [.slice a len cap] = some x) : (∃ E AA, DeedsM w a len E AA) ∧ (a = none → len = 0) := by
  rcases open_slice hs h with ⟨hcs, _⟩ | ⟨y, l, c, m, n, D, Pl, hcs, hb, hl, hm, hmm, rfl, hx⟩
  · simp at hcs
    obtain ⟨rfl, rfl, rfl⟩ := hcs
    exact ⟨⟨fun _ => (none, 0, 0), fun _ _ => ⟨0, 0, 0⟩, fun i hi => absurd hi (by omega), fun i hi => absurd hi (by omega)⟩, fun _ => rfl⟩
  · simp at hcs
    obtain ⟨rfl, rfl, rfl⟩ := hcs
    have each : ∀ i, i < len → ∃ q : (Option Addr × Nat × Nat) × (Nat → AskN), w.cell? (y.add i) = some (.slice q.1.1 q.1.2.1 q.1.2.2) ∧ AskM w (fun b => w.heap.size ≤ b) q.1.1 q.1.2.1 q.2 := by
      intro i hi
      obtain ⟨cs', h1, h2⟩ := hx i (by rw [hmm, if_pos rfl]; omega)
      rw [cs] at h1
      obtain ⟨_, hlen, hcell⟩ := World.cells?_some h1
      match cs', hlen with
      | [v0], _ =>
        obtain ⟨a2, l2, c2', A, rfl, hA⟩ := open_asks ht he ce o0 o1 o2 c0 c1 c2 t0 t1 t2 h2
        have d0 := hcell 0 (by omega)
        rw [add0, Nat.mul_one] at d0
        exact ⟨⟨(a2, l2, c2'), A⟩, by simpa using d0, hA⟩
    obtain ⟨q, hq⟩ := choose_lt each
    refine ⟨⟨fun i => (q i).1, fun i => (q i).2, fun i hi => ⟨y, rfl, ?_, (hq i hi).1⟩, fun i hi => (hq i hi).2⟩, fun e => by cases e⟩
    have := cell_lt (hq i hi).1
    rwa [add_block] at this
/-- The picks: small whole numbers. -/
def PicksM (W : World) (a1 : Option Addr) (len1 : Nat) : Prop := ∀ j, j < len1 → ∃ y1 q, a1 = some y1 ∧ y1.block < W.heap.size ∧ W.cell? (y1.add j) = some (.int .u8 q) ∧ 0 ≤ q ∧ q < 256
theorem open_picks {H : Type} {enc : TypeId × Value → H} {P : Program} {w : World} {t e : TypeId} {fuel : Nat} {a : Option Addr} {len cap : Nat} {x : DataW H × List MemPlace} (ht : P.underlying t = some (.slice e)) (he : P.underlying e = some (.int .u8)) (hc : P.cellsOf e = 1)
    (h : DataW.trod enc P w 0 (fun _ => true) true fuel t [.slice a len cap] = some x) : PicksM w a len := by
  rcases open_ints ht he hc h with ⟨hcs, _⟩ | ⟨ad, l, c, zs, hcs, _, hl, hm, hz, _, hcell, hwz⟩
  · simp at hcs
    obtain ⟨rfl, rfl, rfl⟩ := hcs
    exact fun j hj => absurd hj (by omega)
  · simp at hcs
    obtain ⟨rfl, rfl, rfl⟩ := hcs
    intro i hi
    have hzc : zs.length = cap := by simpa using hz
    have hi' : i < zs.length := by omega
    have hci := hcell i hi'
    have hw := hwz (zs.getD i 0) (by rw [List.getD_eq_getElem?_getD, List.getElem?_eq_getElem hi']; exact List.getElem_mem hi')
    refine ⟨ad, zs.getD i 0, rfl, ?_, hci, ?_⟩
    · have := cell_lt hci
      rwa [add_block] at this
    · simp [Lit.wf, IntKind.min, IntKind.max, IntKind.signed, IntKind.bits] at hw ⊢
      omega
end Go.Proofs.Ytmolflmljneelaa.En
/- Two steps of the law's second loop: it asks whether all is the same, and whether the answers are; neither turns what the law laid. -/
namespace Go.Proofs.Ytmolflmljneelaa.En
open Go.RowKit Go.Proofs.YtmolflmljneelaaW.PrintWords Go.Proofs.YtmolflmljneelaaW.PrintLast Go.Proofs.YtmolflmljneelaaW.PrintMore
open Pm (Fr Rg Row thereB pendAt WFD)
set_option linter.unusedSimpArgs false
set_option linter.unusedVariables false
def lft : Code → Code
  | .seq a _ => a
  | .block _ a => a
  | .loop a => a
  | .cond _ a _ => a
  | c => c
def rgt : Code → Code
  | .seq _ b => b
  | .cond _ _ b => b
  | c => c
/-- The second loop's body behind the two steps. -/
noncomputable def cTail : Code := rgt (rgt (rgt (rgt (lft (lft (rgt (lft (lft (rgt (lft (rgt (rgt (rgt (rgt (rgt (rgt (rgt (rgt (rgt (rgt (Try.f3.body.getD .skip)))))))))))))))))))))
noncomputable def c26 : Code := lft (lft cTail)
noncomputable def c28 : Code := lft (rgt cTail)
set_option maxHeartbeats 16000000 in
set_option maxRecDepth 100000 in
theorem at26 (W w : World) (y : Addr) (cap0 : Nat) (l : Loc) (r : RLoc) (fd m : Nat) (S : Nat → Sr) (R : Nat → Dr) (Q : Nat → Qr) (s : SS) (j g10 c10 g11 c11 k : Nat) (rr : Int) (hki : k < m) (hm4 : m ≤ 4) (hj : j ≤ 1000) (HLN : Aside0 (l.N = 16)) (HM6 : Aside0 (Mid W w l r fd m S R Q s j g10 c10 g11 c11)) (u1 u2 u3 u4 u13 u14 u16 u19 u20 u21 u22 u23 u24 u25 u26 u27 u28 u29 u30 u31 u32 u33 u34 u35 u36 u37 u38 u39 u40 u41 u42 u43 u44 u45 u46 u47 u48 u49 u50 u51 u52 u53 u54 u55 u56 u57 u58 u59 u60 u61 u62 u63 u64 u65 u66 u67 u68 u69 u70 u71 u72 u73 u74 u75 u76 u77 u78 u79 u80 u81 u82 u83 u84 u85 u86 u87 u88 u89 u90 u91 u92 u93 u94 u95 u96 u97 u98 u99 u100 u101 u102 u103 u104 u105 u106 u107 u108 u109 u110 u111 u112 u113 u114 u115 u116 u117 u118 u119 u120 u121 u122 u123 u124 u125 u126 u127 u128 u129 u130 u131 u132 u133 u134 u135 u136 u137 u138 u139 u140 u141 u142 u143 u144 u145 u146 u147 u148 u149 u150 u151 u152 u153 u154 u155 u156 u157 u158 u159 u160 u161 u162 u163 u164 u165 u166 u167 u168 u169 u170 u171 u172 u173 u174 u175 u176 u177 u178 u179 u180 u181 u182 u183 u184 u185 u186 u187 u188 u189 u190 u191 u192 u193 u194 u195 u196 u197 u198 u199 u200 u201 u202 u203 u204 u205 u206 u207 u208 u209 u210 u211 u212 u213 u214 u215 u216 u217 : Value) (Qx : Exit → Act → World → Prop)
    (hQ : ∀ (z131 z132 z133 z134 z135 z136 z137 z138 z139 z140 z141 z142 z143 z144 z145 z146 z147 z148 z149 z150 z151 z152 z153 z154 z155 z156 z157 z158 z159 z160 z161 z162 z163 : Value) (w8 : World), Aside0 (Mid W w8 l r fd m S R Q s j g10 c10 g11 c11) → Qx .normal ⟨List.toArray (.slice (some y) m cap0 :: u1 :: u2 :: u3 :: u4 :: .pointer (some ⟨l.p, 0, none⟩) :: .pointer (some ⟨l.tp, 0, none⟩) :: .pointer (some ⟨r.fp, 0, none⟩) :: .pointer (some ⟨r.up, 0, none⟩) :: .pointer (some ⟨l.cb, 0, none⟩) :: .slice (some ⟨g10, 0, none⟩) m c10 :: .slice (some ⟨g11, 0, none⟩) m c11 :: .int .i64 s.c :: u13 :: u14 :: .int .i64 k :: u16 :: .int .i64 rr :: .int .i64 rr :: u19 :: u20 :: u21 :: u22 :: u23 :: u24 :: u25 :: u26 :: u27 :: u28 :: u29 :: u30 :: u31 :: u32 :: u33 :: u34 :: u35 :: u36 :: u37 :: u38 :: u39 :: u40 :: u41 :: u42 :: u43 :: u44 :: u45 :: u46 :: u47 :: u48 :: u49 :: u50 :: u51 :: u52 :: u53 :: u54 :: u55 :: u56 :: u57 :: u58 :: u59 :: u60 :: u61 :: u62 :: u63 :: u64 :: u65 :: u66 :: u67 :: u68 :: u69 :: u70 :: u71 :: u72 :: u73 :: u74 :: u75 :: u76 :: u77 :: u78 :: u79 :: u80 :: u81 :: u82 :: u83 :: u84 :: u85 :: u86 :: u87 :: u88 :: u89 :: u90 :: u91 :: u92 :: u93 :: u94 :: u95 :: u96 :: u97 :: u98 :: u99 :: u100 :: u101 :: u102 :: u103 :: u104 :: u105 :: u106 :: u107 :: u108 :: u109 :: u110 :: u111 :: u112 :: u113 :: u114 :: u115 :: u116 :: u117 :: u118 :: u119 :: u120 :: u121 :: u122 :: u123 :: u124 :: u125 :: u126 :: u127 :: u128 :: u129 :: u130 :: z131 :: z132 :: z133 :: z134 :: z135 :: z136 :: z137 :: z138 :: z139 :: z140 :: z141 :: z142 :: z143 :: z144 :: z145 :: z146 :: z147 :: z148 :: z149 :: z150 :: z151 :: z152 :: z153 :: z154 :: z155 :: z156 :: z157 :: z158 :: z159 :: z160 :: z161 :: z162 :: z163 :: .bool false :: u165 :: u166 :: u167 :: u168 :: u169 :: u170 :: u171 :: u172 :: u173 :: u174 :: u175 :: u176 :: u177 :: u178 :: u179 :: u180 :: u181 :: u182 :: u183 :: u184 :: u185 :: u186 :: u187 :: u188 :: u189 :: u190 :: u191 :: u192 :: u193 :: u194 :: u195 :: u196 :: u197 :: u198 :: u199 :: u200 :: u201 :: u202 :: u203 :: u204 :: u205 :: u206 :: u207 :: u208 :: u209 :: u210 :: u211 :: u212 :: u213 :: u214 :: u215 :: u216 :: u217 :: []), []⟩ w8) : Code.wp Try.prog c26 Qx ⟨List.toArray (.slice (some y) m cap0 :: u1 :: u2 :: u3 :: u4 :: .pointer (some ⟨l.p, 0, none⟩) :: .pointer (some ⟨l.tp, 0, none⟩) :: .pointer (some ⟨r.fp, 0, none⟩) :: .pointer (some ⟨r.up, 0, none⟩) :: .pointer (some ⟨l.cb, 0, none⟩) :: .slice (some ⟨g10, 0, none⟩) m c10 :: .slice (some ⟨g11, 0, none⟩) m c11 :: .int .i64 s.c :: u13 :: u14 :: .int .i64 k :: u16 :: .int .i64 rr :: .int .i64 rr :: u19 :: u20 :: u21 :: u22 :: u23 :: u24 :: u25 :: u26 :: u27 :: u28 :: u29 :: u30 :: u31 :: u32 :: u33 :: u34 :: u35 :: u36 :: u37 :: u38 :: u39 :: u40 :: u41 :: u42 :: u43 :: u44 :: u45 :: u46 :: u47 :: u48 :: u49 :: u50 :: u51 :: u52 :: u53 :: u54 :: u55 :: u56 :: u57 :: u58 :: u59 :: u60 :: u61 :: u62 :: u63 :: u64 :: u65 :: u66 :: u67 :: u68 :: u69 :: u70 :: u71 :: u72 :: u73 :: u74 :: u75 :: u76 :: u77 :: u78 :: u79 :: u80 :: u81 :: u82 :: u83 :: u84 :: u85 :: u86 :: u87 :: u88 :: u89 :: u90 :: u91 :: u92 :: u93 :: u94 :: u95 :: u96 :: u97 :: u98 :: u99 :: u100 :: u101 :: u102 :: u103 :: u104 :: u105 :: u106 :: u107 :: u108 :: u109 :: u110 :: u111 :: u112 :: u113 :: u114 :: u115 :: u116 :: u117 :: u118 :: u119 :: u120 :: u121 :: u122 :: u123 :: u124 :: u125 :: u126 :: u127 :: u128 :: u129 :: u130 :: u131 :: u132 :: u133 :: u134 :: u135 :: u136 :: u137 :: u138 :: u139 :: u140 :: u141 :: u142 :: u143 :: u144 :: u145 :: u146 :: u147 :: u148 :: u149 :: u150 :: u151 :: u152 :: u153 :: u154 :: u155 :: u156 :: u157 :: u158 :: u159 :: u160 :: u161 :: u162 :: u163 :: u164 :: u165 :: u166 :: u167 :: u168 :: u169 :: u170 :: u171 :: u172 :: u173 :: u174 :: u175 :: u176 :: u177 :: u178 :: u179 :: u180 :: u181 :: u182 :: u183 :: u184 :: u185 :: u186 :: u187 :: u188 :: u189 :: u190 :: u191 :: u192 :: u193 :: u194 :: u195 :: u196 :: u197 :: u198 :: u199 :: u200 :: u201 :: u202 :: u203 :: u204 :: u205 :: u206 :: u207 :: u208 :: u209 :: u210 :: u211 :: u212 :: u213 :: u214 :: u215 :: u216 :: u217 :: []), []⟩ w := by
  conv => arg 2; whnf
  have hm0 : (0 : Int) < (m : Int) := by omega
  have hk0 : (0 : Int) ≤ (k : Int) := by omega
  have hk1 : (k : Int) < (m : Int) := by omega
  have hc0 : 0 ≤ s.c := HM6.out.c.1
  have hc1 : s.c ≤ 1000 := by have := HM6.out.c.2; omega
  have hn40 := (HM6.out.ls.asks k hki).2
  have hdn : (Q k).d ≤ (S k).n := by rw [(HM6.out.coh.run k hki).1]; exact (HM6.out.ls.run k hki).le
  obtain ⟨dd, hdd⟩ : ∃ dd, (Q k).d = dd := ⟨_, rfl⟩
  have HDS := Aside0.mk hdd
  rw [hdd] at hdn
  clear hdd
  have hdd0 : (0 : Int) ≤ (dd : Int) := by omega
  have hddn : (dd : Int) ≤ 1000 := by omega
  have hu46 := Try.underlying46
  have hTd : ((R k).T.length : Int) = dd := by have := (HM6.out.coh.run k hki).1; rw [HDS.out] at this; omega
  have HTD := Aside0.mk hTd
  have cr6 := ptr_cell2 HM6.out.rows hki
  have cq6 := ptr_cell2 HM6.out.refs hki
  have hq6 : w.cell? ⟨(S k).qb, 2, none⟩ = some (.int .i64 (dd : Int)) := by rw [← HDS.out]; exact (HM6.out.qcell hki).1
  have cc6 : w.cell? ⟨l.cb, 0, none⟩ = some (.int .i64 s.c) := ptr_cell HM6.out.ls.sh.cn
  have hu36 := Try.underlying36
  clear hTd
  go_region_held3 (fun w' => w'.cell? ⟨g10, k, none⟩ = some (.pointer (some ⟨(S k).rb, 0, none⟩)) ∧ w'.cell? ⟨g11, k, none⟩ = some (.pointer (some ⟨(S k).qb, 0, none⟩)) ∧ w'.cell? ⟨(S k).qb, 2, none⟩ = some (.int .i64 (dd : Int)) ∧ w'.cell? ⟨l.cb, 0, none⟩ = some (.int .i64 s.c)) (go_keep)
    ((first
      | (go_at_call 13; refine (steps_calls _ ((HM6.out.ls.run k hki).rn.below (Below.refl _ w).drew)).mono ?_; rw [HTD.out]; rintro e w7 ⟨rfl, hw7⟩; obtain rfl := hw7.symm; clear hw7)
      | (go_at_call 14; refine (same_calls _ (HM6.out.ls.sh.below (Below.refl _ w).drew) (HM6.out.ls.rsh.below (Below.refl _ w).drew) HLN.out (by have := HM6.out.L; omega)).mono ?_; rintro e w8 ⟨rfl, hb8⟩; have HM8 := Aside0.mk (HM6.out.bel (below_undrew hb8)); clear hb8; have cr8 := ptr_cell2 HM8.out.rows hki; have cq8 := ptr_cell2 HM8.out.refs hki; have cd8 : w8.cell? ⟨(S k).qb, 2, none⟩ = some (.int .i64 (dd : Int)) := (by rw [← HDS.out]; exact (HM8.out.qcell hki).1); have cc8 : w8.cell? ⟨l.cb, 0, none⟩ = some (.int .i64 s.c) := (ptr_cell HM8.out.ls.sh.cn))))
  exact hQ _ _ _ _ _ _ _ _ _ _ _ _ _ _ _ _ _ _ _ _ _ _ _ _ _ _ _ _ _ _ _ _ _ _ HM8
set_option maxHeartbeats 16000000 in
set_option maxRecDepth 100000 in
theorem at28 (W w : World) (y : Addr) (cap0 : Nat) (l : Loc) (r : RLoc) (fd m : Nat) (S : Nat → Sr) (R : Nat → Dr) (Q : Nat → Qr) (s : SS) (j g10 c10 g11 c11 k : Nat) (rr : Int) (hki : k < m) (hm4 : m ≤ 4) (hj : j ≤ 1000) (HLN : Aside0 (l.N = 16)) (HM6 : Aside0 (Mid W w l r fd m S R Q s j g10 c10 g11 c11)) (E : Nat → Option Addr × Nat × Nat) (AA : Nat → Nat → AskN) (HD : Aside0 (DeedsM W (some y) m E AA)) (HST : Aside0 (∀ i, i < m → (S i).ad = (E i).1 ∧ (S i).n = (E i).2.1 ∧ (S i).A = AA i)) (u1 u2 u3 u4 u13 u14 u16 u19 u20 u21 u22 u23 u24 u25 u26 u27 u28 u29 u30 u31 u32 u33 u34 u35 u36 u37 u38 u39 u40 u41 u42 u43 u44 u45 u46 u47 u48 u49 u50 u51 u52 u53 u54 u55 u56 u57 u58 u59 u60 u61 u62 u63 u64 u65 u66 u67 u68 u69 u70 u71 u72 u73 u74 u75 u76 u77 u78 u79 u80 u81 u82 u83 u84 u85 u86 u87 u88 u89 u90 u91 u92 u93 u94 u95 u96 u97 u98 u99 u100 u101 u102 u103 u104 u105 u106 u107 u108 u109 u110 u111 u112 u113 u114 u115 u116 u117 u118 u119 u120 u121 u122 u123 u124 u125 u126 u127 u128 u129 u130 u131 u132 u133 u134 u135 u136 u137 u138 u139 u140 u141 u142 u143 u144 u145 u146 u147 u148 u149 u150 u151 u152 u153 u154 u155 u156 u157 u158 u159 u160 u161 u162 u163 u164 u165 u166 u167 u168 u169 u170 u171 u172 u173 u174 u175 u176 u177 u178 u179 u180 u181 u182 u183 u184 u185 u186 u187 u188 u189 u190 u191 u192 u193 u194 u195 u196 u197 u198 u199 u200 u201 u202 u203 u204 u205 u206 u207 u208 u209 u210 u211 u212 u213 u214 u215 u216 u217 : Value) (Qx : Exit → Act → World → Prop)
    (hQ : ∀ (z165 z166 z167 z168 z169 z170 z171 z172 z173 z174 z175 z176 z177 z178 z179 z180 z181 z182 z183 z184 z185 z186 z187 z188 z189 z190 z191 z192 z193 z194 z195 z196 z197 z198 z199 z200 z201 z202 z203 z204 z205 z206 z207 z208 z209 z210 z211 z212 z213 z214 z215 z216 : Value) (w8 : World), Aside0 (Mid W w8 l r fd m S R Q s j g10 c10 g11 c11) → Qx .normal ⟨List.toArray (.slice (some y) m cap0 :: u1 :: u2 :: u3 :: u4 :: .pointer (some ⟨l.p, 0, none⟩) :: .pointer (some ⟨l.tp, 0, none⟩) :: .pointer (some ⟨r.fp, 0, none⟩) :: .pointer (some ⟨r.up, 0, none⟩) :: .pointer (some ⟨l.cb, 0, none⟩) :: .slice (some ⟨g10, 0, none⟩) m c10 :: .slice (some ⟨g11, 0, none⟩) m c11 :: .int .i64 s.c :: u13 :: u14 :: .int .i64 k :: u16 :: .int .i64 rr :: .int .i64 rr :: u19 :: u20 :: u21 :: u22 :: u23 :: u24 :: u25 :: u26 :: u27 :: u28 :: u29 :: u30 :: u31 :: u32 :: u33 :: u34 :: u35 :: u36 :: u37 :: u38 :: u39 :: u40 :: u41 :: u42 :: u43 :: u44 :: u45 :: u46 :: u47 :: u48 :: u49 :: u50 :: u51 :: u52 :: u53 :: u54 :: u55 :: u56 :: u57 :: u58 :: u59 :: u60 :: u61 :: u62 :: u63 :: u64 :: u65 :: u66 :: u67 :: u68 :: u69 :: u70 :: u71 :: u72 :: u73 :: u74 :: u75 :: u76 :: u77 :: u78 :: u79 :: u80 :: u81 :: u82 :: u83 :: u84 :: u85 :: u86 :: u87 :: u88 :: u89 :: u90 :: u91 :: u92 :: u93 :: u94 :: u95 :: u96 :: u97 :: u98 :: u99 :: u100 :: u101 :: u102 :: u103 :: u104 :: u105 :: u106 :: u107 :: u108 :: u109 :: u110 :: u111 :: u112 :: u113 :: u114 :: u115 :: u116 :: u117 :: u118 :: u119 :: u120 :: u121 :: u122 :: u123 :: u124 :: u125 :: u126 :: u127 :: u128 :: u129 :: u130 :: u131 :: u132 :: u133 :: u134 :: u135 :: u136 :: u137 :: u138 :: u139 :: u140 :: u141 :: u142 :: u143 :: u144 :: u145 :: u146 :: u147 :: u148 :: u149 :: u150 :: u151 :: u152 :: u153 :: u154 :: u155 :: u156 :: u157 :: u158 :: u159 :: u160 :: u161 :: u162 :: u163 :: u164 :: z165 :: z166 :: z167 :: z168 :: z169 :: z170 :: z171 :: z172 :: z173 :: z174 :: z175 :: z176 :: z177 :: z178 :: z179 :: z180 :: z181 :: z182 :: z183 :: z184 :: z185 :: z186 :: z187 :: z188 :: z189 :: z190 :: z191 :: z192 :: z193 :: z194 :: z195 :: z196 :: z197 :: z198 :: z199 :: z200 :: z201 :: z202 :: z203 :: z204 :: z205 :: z206 :: z207 :: z208 :: z209 :: z210 :: z211 :: z212 :: z213 :: z214 :: z215 :: z216 :: .bool false :: []), []⟩ w8) : Code.wp Try.prog c28 Qx ⟨List.toArray (.slice (some y) m cap0 :: u1 :: u2 :: u3 :: u4 :: .pointer (some ⟨l.p, 0, none⟩) :: .pointer (some ⟨l.tp, 0, none⟩) :: .pointer (some ⟨r.fp, 0, none⟩) :: .pointer (some ⟨r.up, 0, none⟩) :: .pointer (some ⟨l.cb, 0, none⟩) :: .slice (some ⟨g10, 0, none⟩) m c10 :: .slice (some ⟨g11, 0, none⟩) m c11 :: .int .i64 s.c :: u13 :: u14 :: .int .i64 k :: u16 :: .int .i64 rr :: .int .i64 rr :: u19 :: u20 :: u21 :: u22 :: u23 :: u24 :: u25 :: u26 :: u27 :: u28 :: u29 :: u30 :: u31 :: u32 :: u33 :: u34 :: u35 :: u36 :: u37 :: u38 :: u39 :: u40 :: u41 :: u42 :: u43 :: u44 :: u45 :: u46 :: u47 :: u48 :: u49 :: u50 :: u51 :: u52 :: u53 :: u54 :: u55 :: u56 :: u57 :: u58 :: u59 :: u60 :: u61 :: u62 :: u63 :: u64 :: u65 :: u66 :: u67 :: u68 :: u69 :: u70 :: u71 :: u72 :: u73 :: u74 :: u75 :: u76 :: u77 :: u78 :: u79 :: u80 :: u81 :: u82 :: u83 :: u84 :: u85 :: u86 :: u87 :: u88 :: u89 :: u90 :: u91 :: u92 :: u93 :: u94 :: u95 :: u96 :: u97 :: u98 :: u99 :: u100 :: u101 :: u102 :: u103 :: u104 :: u105 :: u106 :: u107 :: u108 :: u109 :: u110 :: u111 :: u112 :: u113 :: u114 :: u115 :: u116 :: u117 :: u118 :: u119 :: u120 :: u121 :: u122 :: u123 :: u124 :: u125 :: u126 :: u127 :: u128 :: u129 :: u130 :: u131 :: u132 :: u133 :: u134 :: u135 :: u136 :: u137 :: u138 :: u139 :: u140 :: u141 :: u142 :: u143 :: u144 :: u145 :: u146 :: u147 :: u148 :: u149 :: u150 :: u151 :: u152 :: u153 :: u154 :: u155 :: u156 :: u157 :: u158 :: u159 :: u160 :: u161 :: u162 :: u163 :: u164 :: u165 :: u166 :: u167 :: u168 :: u169 :: u170 :: u171 :: u172 :: u173 :: u174 :: u175 :: u176 :: u177 :: u178 :: u179 :: u180 :: u181 :: u182 :: u183 :: u184 :: u185 :: u186 :: u187 :: u188 :: u189 :: u190 :: u191 :: u192 :: u193 :: u194 :: u195 :: u196 :: u197 :: u198 :: u199 :: u200 :: u201 :: u202 :: u203 :: u204 :: u205 :: u206 :: u207 :: u208 :: u209 :: u210 :: u211 :: u212 :: u213 :: u214 :: u215 :: u216 :: u217 :: []), []⟩ w := by
  conv => arg 2; whnf
  have hm0 : (0 : Int) < (m : Int) := by omega
  have hk0 : (0 : Int) ≤ (k : Int) := by omega
  have hk1 : (k : Int) < (m : Int) := by omega
  have hc0 : 0 ≤ s.c := HM6.out.c.1
  have hc1 : s.c ≤ 1000 := by have := HM6.out.c.2; omega
  have hn40 := (HM6.out.ls.asks k hki).2
  have hdn : (Q k).d ≤ (S k).n := by rw [(HM6.out.coh.run k hki).1]; exact (HM6.out.ls.run k hki).le
  obtain ⟨dd, hdd⟩ : ∃ dd, (Q k).d = dd := ⟨_, rfl⟩
  have HDS := Aside0.mk hdd
  rw [hdd] at hdn
  clear hdd
  have hdd0 : (0 : Int) ≤ (dd : Int) := by omega
  have hddn : (dd : Int) ≤ 1000 := by omega
  have hu46 := Try.underlying46
  have cr8 := ptr_cell2 HM6.out.rows hki
  have cq8 := ptr_cell2 HM6.out.refs hki
  have cd8 : w.cell? ⟨(S k).qb, 2, none⟩ = some (.int .i64 (dd : Int)) := by rw [← HDS.out]; exact (HM6.out.qcell hki).1
  have cw8 := (HM6.out.qcell hki).2
  have hyk : w.cell? (y.add k) = some (.slice (E k).1 (E k).2.1 (E k).2.2) := by
    obtain ⟨y2, ey, hyl, hyc⟩ := HD.out.at_ k hki
    cases ey
    exact (HM6.out.below.cell (p := y.add k) (by rw [add_block]; exact hyl)).trans hyc
  cases hov : (R k).over
  · have HNO := Aside0.mk ((HM6.out.ls.run k hki).no hov).1
    have HOV := Aside0.mk hov
    clear hov cw8 hyk
    go_big_quiet (first
      | (go_at_call 15; exact Calls.quiet_of_same (tail_over HM6.out hki HOV.out _))
      | (go_at_call 17; exact Calls.quiet_of_same (tail_ans HM6.out hki HNO.out _)))
    exact hQ _ _ _ _ _ _ _ _ _ _ _ _ _ _ _ _ _ _ _ _ _ _ _ _ _ _ _ _ _ _ _ _ _ _ _ _ _ _ _ _ _ _ _ _ _ _ _ _ _ _ _ _ _ (Aside0.mk (HM6.out.bel (pw_below_drewN (Below.refl _ w) nq)))
  · obtain ⟨hdn, va, vac, vw, vwc, ln, hva, hvw, hws⟩ := tail_yes HM6.out hki hov
    rw [hvw] at cw8
    have HVA := Aside0.mk hva
    have HWS := Aside0.mk hws
    have HOV := Aside0.mk hov
    have hnE : (E k).2.1 = (S k).n := (HST.out k hki).2.1.symm
    have hlt28 : decide ((dd : Int) < ((E k).2.1 : Int)) = false := decide_eq_false (by rw [HDS.out] at hdn; rw [hnE]; omega)
    have hle28 : ((E k).2.1 : Int) ≤ (dd : Int) := by rw [HDS.out] at hdn; rw [hnE]; omega
    have hle29 : (E k).2.1 ≤ dd := by rw [HDS.out] at hdn; rw [hnE]; omega
    have hlt29 : decide (dd < (E k).2.1) = false := decide_eq_false (by omega)
    clear hov hva hvw hws hnE hdn
    go_big_quiet (first
      | (go_at_call 15; exact Calls.quiet_of_same (tail_over HM6.out hki HOV.out _))
      | (go_at_call 17; exact Calls.quiet_of_same (tail_ans HM6.out hki HVA.out _))
      | (go_at_call 16; exact Calls.quiet_of (HWS.out _)))
    exact hQ _ _ _ _ _ _ _ _ _ _ _ _ _ _ _ _ _ _ _ _ _ _ _ _ _ _ _ _ _ _ _ _ _ _ _ _ _ _ _ _ _ _ _ _ _ _ _ _ _ _ _ _ _ (Aside0.mk (HM6.out.bel (pw_below_drewN (Below.refl _ w) nq)))
end Go.Proofs.Ytmolflmljneelaa.En
/- The document's region and table made; words alike. -/
namespace Go.Proofs.Ytmolflmljneelaa.En
open Go.RowKit Go.Proofs.YtmolflmljneelaaW.PrintWords Go.Proofs.YtmolflmljneelaaW.PrintLast Go.Proofs.YtmolflmljneelaaW.PrintMore
open Pm (Fr Rg Row thereB pendAt WFD) 
open Lk (Tbl takeR leaveR ownerV Only)
set_option linter.unusedSimpArgs false
set_option linter.unusedVariables false
def Z16 : List Int := List.replicate 16 0
theorem own_empty {W : World} {B z : Nat} (h : W.heap[z]? = some (.cells #[] 49 (0, 0))) (hz : B ≤ z) : W.ownsRow B 49 1 (.slice (some ⟨z, 0, none⟩) 0 0) 0 [] := ⟨rfl, .inr ⟨z, 0, #[], rfl, hz, h, Nat.le_refl _, Nat.zero_le _, rfl, rfl⟩⟩
theorem row_news {W : World} {g N cap : Nat} {S : List Int} (h : Row W g N cap S) : ∀ j u, (ints S)[j]? = some u → W.cell? ((⟨g, 0, none⟩ : Addr).add j) = some u := by
  intro j u hu
  have hj : j < S.length := by
    rcases Nat.lt_or_ge j S.length with h1 | h1
    · exact h1
    · rw [List.getElem?_eq_none (by simpa [ints] using h1)] at hu; cases hu
  have e : (⟨g, 0, none⟩ : Addr).add j = ⟨g, j, none⟩ := by unfold Addr.add; split <;> simp_all
  rw [e, h.cell j (by rw [h.len] at hj; exact hj)]
  simp [ints, hj] at hu
  simp [hj, hu]
theorem at_empty {z g H : Nat} (h : (Value.slice (some ⟨z, 0, none⟩) 0 0).ownBlock = some g ∨ g = H) : g = z ∨ g = H := h.imp (fun e => by cases e; rfl) id
theorem row_own {W : World} {B g cap : Nat} (h : W.ownsRow B 49 1 (.slice (some ⟨g, 0, none⟩) (0 + 16) cap) (0 + 16) ([] ++ ints Z16)) : Row W g 16 cap Z16 := by
  obtain ⟨_, ⟨e, _⟩ | ⟨g', cap', cur, e, _, hg, h2, h3, h4, h5⟩⟩ := h
  · cases e
  · cases e
    refine ⟨rfl, cur, hg, by omega, h2, h3, fun i hi => ?_⟩
    have h6 : (cur.toList.take ((0 + 16) * 1))[i]? = ([] ++ ints Z16)[i]? := by rw [h5]
    rw [List.getElem?_take, if_pos (by omega)] at h6
    rw [← Array.getElem?_toList, h6]
    have hl : i < Z16.length := hi
    simp [ints, hl]
theorem _root_.Go.Proofs.Ytmolflmljneelaa.Pm.Row.below16 {W W' : World} {g N cap : Nat} {S : List Int} (h : Row W g N cap S) (hb : Below W.heap.size W W') : Row W' g N cap S := h.below hb
theorem _root_.Go.Proofs.Ytmolflmljneelaa.Pm.Row.grown16 {W W' : World} {g N cap : Nat} {S : List Int} {row : Option Nat} (h : Row W g N cap S) (hg : W.grownBy W' row) (hne : some g ≠ row) : Row W' g N cap S := ⟨h.len, let ⟨c, h1, h2⟩ := h.cur; ⟨c, blk_grown h1 hg hne, h2⟩⟩
theorem BRow.grown2 {W W' : World} {g N cap : Nat} {P : List Bool} {row : Option Nat} (h : BRow W g N cap P) (hg : W.grownBy W' row) (hne : some g ≠ row) : BRow W' g N cap P := ⟨h.len, let ⟨c, h1, h2⟩ := h.cur; ⟨c, blk_grown h1 hg hne, h2⟩⟩
theorem _root_.Go.Proofs.Ytmolflmljneelaa.Pm.Row.not_empty {W : World} {g cap z : Nat} {S : List Int} (h : Row W g 16 cap S) (hz : W.heap[z]? = some (.cells #[] 49 (0, 0))) : g ≠ z := fun e => by
  subst e
  obtain ⟨c, h1, h2, h3, _⟩ := h.cur
  rw [h1] at hz
  injection hz with hz
  injection hz with hz
  rw [hz] at h2
  simp at h2
  omega
theorem BRow.not_empty {W : World} {g N cap z : Nat} {P : List Bool} (h : BRow W g N cap P) (hz : W.heap[z]? = some (.cells #[] 49 (0, 0))) : g ≠ z := by
  obtain ⟨c, h1⟩ := h.blk
  exact type_ne h1 hz (by decide)
/-- The document's region, made of sixteen words. -/
def ROf (W : World) (e : Ending) (w' : World) : Prop := ∃ g17 g2 g5 g8 g12 c2 c5, e = .returned (.pointer (some ⟨g17, 0, none⟩)) ∧ Rf w' ⟨g17, g2, g5, g8, c2, c5, 16, 0, 0⟩ g12 2 Z16 Z16 Z16 [false, false] ∧ Below W.heap.size W w' ∧ W.heap.size ≤ g17 ∧ W.heap.size ≤ g2 ∧ W.heap.size ≤ g5 ∧ W.heap.size ≤ g8 ∧ W.heap.size ≤ g12
def g7.T1 : Bool × List (List Nat × List Nat) := (true, [([], []), ([], []), ([0, 1], [0, 1]), ([], []), ([], []), ([3, 4, 2], [3, 4]), ([], []), ([6], [6]), ([7, 7], [7]), ([], []), ([9], [9]), ([10], [10]), ([11, 11], [11]), ([2, 5, 8, 12], [2, 5, 8, 12]), ([13], [13]), ([14, 5, 0, 1, 2, 3, 4, 5, 6, 7, 8, 9, 10, 11, 12, 13, 14], [14])])
def g7.B1 : List Nat := [0, 0, 3, 0, 0, 31, 0, 64, 192, 0, 512, 1536, 3584, 8191, 16383, 32767]
theorem g7.tab1 : rtab .any (opsOf Try.f7 1) = g7.T1 := by kernel_rfl
theorem g7.bits1 : waitsOk g7.T1.2 g7.B1 = true := by kernel_rfl
set_option maxHeartbeats 16000000 in
set_option maxRecDepth 100000 in
theorem rof_calls (W : World) (gl cl : Nat) (h : Row W gl 16 cl Z16) : Calls Try.prog 7 #[.slice (some ⟨gl, 0, none⟩) 16 cl] W (ROf W) := by
  have HR := Aside0.mk (Below.refl W.heap.size W)
  have SRC := Aside0.mk h
  have hmk := made2
  have hmk16 := Pm.made16
  obtain ⟨i0, hi0_, hz0, hz1, hz2⟩ := info_parts info49
  clear h
  go_enter Try.func7, Try.ntmps7
  go_wp2_with fail
  refine start_ (n := 16) (S := fun w' => True) (ds := []) #[false, false, false, false, false, false, false, false, false, false, false, false, false, false, false, false] (by kernel_rfl) rfl rfl trivial (fun hHeld => ?_)
  refine with_tabW g7.tab1 g7.bits1 (fun HT_ HW_ => ?_)
  refine inv_at [0, 1, 2, 3, 4, 5, 6, 7, 8, 9, 10, 11, 12, 13, 14, 15] (fun a0_ b a w' => ∃ (z0 : Nat) (z3 : Nat) (g2 : Nat) (c2 : Nat) (g5 : Nat) (c5 : Nat) (g8 : Nat) (g12 : Nat) (g17 : Nat) (m0_ : Value) (m2_ : Value) (m3_ : Value) (m5_ : Value) (m8_ : Value) (m12_ : Value) (m13_ : Value) (m14_ : Value) (m15_ : Value), a = putSel a0_ b [(0, 3, m0_), (1, 4, .slice (some ⟨gl, 0, none⟩) 16 cl), (2, 5, m2_), (3, 6, m3_), (4, 7, .slice (some ⟨gl, 0, none⟩) 16 cl), (5, 8, m5_), (6, 9, .slice (some ⟨gl, 0, none⟩) 16 cl), (7, 10, .int .i64 16), (8, 11, m8_), (9, 12, .slice (some ⟨gl, 0, none⟩) 16 cl), (10, 13, .int .i64 16), (11, 14, .int .i64 2), (12, 15, m12_), (13, 16, m13_), (14, 17, m14_), (15, 2, m15_)] ∧ (Below W.heap.size W w') ∧ (b 0 = true → b 2 = false → w'.heap[z0]? = some (.cells #[] 49 (0, 0)) ∧ W.heap.size ≤ z0) ∧ (b 3 = true → b 5 = false → w'.heap[z3]? = some (.cells #[] 49 (0, 0)) ∧ W.heap.size ≤ z3) ∧ (b 0 = true → b 3 = true → b 2 = false → z0 ≠ z3) ∧ (b 2 = true → Row w' g2 16 c2 Z16 ∧ W.heap.size ≤ g2) ∧ (b 5 = true → Row w' g5 16 c5 Z16 ∧ W.heap.size ≤ g5) ∧ (b 8 = true → Row w' g8 16 16 Z16 ∧ W.heap.size ≤ g8) ∧ (b 12 = true → BRow w' g12 2 2 [false, false] ∧ W.heap.size ≤ g12) ∧ (b 2 = true → b 5 = true → g2 ≠ g5) ∧ (b 2 = true → b 8 = true → g2 ≠ g8) ∧ (b 5 = true → b 8 = true → g5 ≠ g8) ∧ (b 14 = true → w'.heap[g17]? = some (.cells #[.slice (some ⟨g2, 0, none⟩) 16 c2, .slice (some ⟨g5, 0, none⟩) 16 c5, .slice (some ⟨g8, 0, none⟩) 16 16, .slice (some ⟨g12, 0, none⟩) 2 2, .int .i64 0] 68 (0, 0)) ∧ W.heap.size ≤ g17) ∧ (b 0 = true → (m0_ : Value) = .slice (some ⟨z0, 0, none⟩) 0 0) ∧ (b 2 = true → (m2_ : Value) = .slice (some ⟨g2, 0, none⟩) 16 c2) ∧ (b 3 = true → (m3_ : Value) = .slice (some ⟨z3, 0, none⟩) 0 0) ∧ (b 5 = true → (m5_ : Value) = .slice (some ⟨g5, 0, none⟩) 16 c5) ∧ (b 8 = true → (m8_ : Value) = .slice (some ⟨g8, 0, none⟩) 16 16) ∧ (b 12 = true → (m12_ : Value) = .slice (some ⟨g12, 0, none⟩) 2 2) ∧ (b 13 = true → (m13_ : Value) = .agg #[.slice (some ⟨g2, 0, none⟩) 16 c2, .slice (some ⟨g5, 0, none⟩) 16 c5, .slice (some ⟨g8, 0, none⟩) 16 16, .slice (some ⟨g12, 0, none⟩) 2 2, .int .i64 0]) ∧ (b 14 = true → (m14_ : Value) = .pointer (some ⟨g17, 0, none⟩)) ∧ (b 15 = true → (m15_ : Value) = .pointer (some ⟨g17, 0, none⟩))) HT_.out HW_.out (by kernel_rfl) (by kernel_rfl) ?_ ?_ ?_
  · exact ⟨0, 0, 0, 0, 0, 0, 0, 0, 0, .bool false, .bool false, .bool false, .bool false, .bool false, .bool false, .bool false, .bool false, .bool false, by simp only [putSel, Bool.false_eq_true, if_false], (below_drew1 HR.out), fun h_ => absurd h_ (by decide), fun h_ => absurd h_ (by decide), fun h_ => absurd h_ (by decide), fun h_ => absurd h_ (by decide), fun h_ => absurd h_ (by decide), fun h_ => absurd h_ (by decide), fun h_ => absurd h_ (by decide), fun h_ => absurd h_ (by decide), fun h_ => absurd h_ (by decide), fun h_ => absurd h_ (by decide), fun h_ => absurd h_ (by decide), fun h_ => absurd h_ (by decide), fun h_ => absurd h_ (by decide), fun h_ => absurd h_ (by decide), fun h_ => absurd h_ (by decide), fun h_ => absurd h_ (by decide), fun h_ => absurd h_ (by decide), fun h_ => absurd h_ (by decide), fun h_ => absurd h_ (by decide), fun h_ => absurd h_ (by decide)⟩
  · skip
    clear HR
    refine steps_cons ?_ ?_
    · rintro b a w' ⟨z0, z3, g2, c2, g5, c5, g8, g12, g17, m0_, m2_, m3_, m5_, m8_, m12_, m13_, m14_, m15_, ha, Q_HR, Q_Z0, Q_Z3, Q_NE, Q_R2, Q_R5, Q_M8, Q_M12, Q_N25, Q_N28, Q_N58, Q_BX, Q_X0_, Q_X2_, Q_X3_, Q_X5_, Q_X8_, Q_X12_, Q_X13_, Q_X14_, Q_X15_⟩ hb_ hon hoff
      refine ⟨_, rfl, fun K hK => ?_⟩
      replace ha := Aside0.mk ha
      have HR := Aside0.mk Q_HR
      refine value_ (w1 := ?_) (v := ?_) (by rfl) rfl ?_ ?_
      rotate_left 2
      · go_simp
        constructor
        · rfl
        · rfl
      have hb := (Below.refl w'.heap.size w').alloc (Nat.le_refl _) (.cells #[] 49)
      refine hK.out _ _ ⟨w'.heap.size, z3, g2, c2, g5, c5, g8, g12, g17, (.slice (some ⟨w'.heap.size, 0, none⟩) 0 0), m2_, m3_, m5_, m8_, m12_, m13_, m14_, m15_, (by rw [ha.out]; exact putSel_upk 0 hb_ rfl rfl rfl), (below_step HR.out hb), fun _ _ => ⟨blk_new w' (.cells #[] 49), below_size HR.out⟩, fun h0_ h1_ => ⟨blk_below (Q_Z3 h0_ h1_).1 hb, (Q_Z3 h0_ h1_).2⟩, fun _ _ _ => (by rename_i u0 u1 u2; exact Nat.ne_of_gt (blk_lt (Q_Z3 u1 (hoff 5 (by kernel_rfl))).1)), fun h0_ => absurd ((hoff 2 (by kernel_rfl)).symm.trans h0_) (by decide), fun h0_ => absurd ((hoff 5 (by kernel_rfl)).symm.trans h0_) (by decide), fun h0_ => ⟨(Q_M8 h0_).1.below hb, (Q_M8 h0_).2⟩, fun h0_ => ⟨(Q_M12 h0_).1.fr (X := fun _ => False) (Fr.of hb) (fun h => h), (Q_M12 h0_).2⟩, fun h0_ _ => absurd ((hoff 2 (by kernel_rfl)).symm.trans h0_) (by decide), fun h0_ _ => absurd ((hoff 2 (by kernel_rfl)).symm.trans h0_) (by decide), fun h0_ _ => absurd ((hoff 5 (by kernel_rfl)).symm.trans h0_) (by decide), fun h0_ => absurd ((hoff 14 (by kernel_rfl)).symm.trans h0_) (by decide), fun _ => rfl, fun h0_ => absurd ((hoff 2 (by kernel_rfl)).symm.trans h0_) (by decide), Q_X3_, fun h0_ => absurd ((hoff 5 (by kernel_rfl)).symm.trans h0_) (by decide), Q_X8_, Q_X12_, fun h0_ => absurd ((hoff 13 (by kernel_rfl)).symm.trans h0_) (by decide), fun h0_ => absurd ((hoff 14 (by kernel_rfl)).symm.trans h0_) (by decide), fun h0_ => absurd ((hoff 15 (by kernel_rfl)).symm.trans h0_) (by decide)⟩
    refine steps_cons ?_ ?_
    · rintro b a w' ⟨z0, z3, g2, c2, g5, c5, g8, g12, g17, m0_, m2_, m3_, m5_, m8_, m12_, m13_, m14_, m15_, ha, Q_HR, Q_Z0, Q_Z3, Q_NE, Q_R2, Q_R5, Q_M8, Q_M12, Q_N25, Q_N28, Q_N58, Q_BX, Q_X0_, Q_X2_, Q_X3_, Q_X5_, Q_X8_, Q_X12_, Q_X13_, Q_X14_, Q_X15_⟩ hb_ hon hoff
      refine ⟨_, rfl, fun K hK => ?_⟩
      have e0 : a.tmps[0]? = some (.slice (some ⟨gl, 0, none⟩) 16 cl) := by rw [ha]; exact (putSel_off rfl).trans rfl
      replace ha := Aside0.mk ha
      have HR := Aside0.mk Q_HR
      refine value_ (w1 := w') (v := .slice (some ⟨gl, 0, none⟩) 16 cl) (by rfl) rfl ?_ ?_
      · go_simp
        (try simp only [i64_w])
        try rfl
      refine hK.out _ _ ⟨z0, z3, g2, c2, g5, c5, g8, g12, g17, m0_, m2_, m3_, m5_, m8_, m12_, m13_, m14_, m15_, (by rw [ha.out]; exact putSel_upk 1 hb_ rfl rfl rfl), Q_HR, Q_Z0, Q_Z3, Q_NE, fun h0_ => absurd ((hoff 2 (by kernel_rfl)).symm.trans h0_) (by decide), fun h0_ => absurd ((hoff 5 (by kernel_rfl)).symm.trans h0_) (by decide), Q_M8, Q_M12, fun h0_ _ => absurd ((hoff 2 (by kernel_rfl)).symm.trans h0_) (by decide), fun h0_ _ => absurd ((hoff 2 (by kernel_rfl)).symm.trans h0_) (by decide), fun h0_ _ => absurd ((hoff 5 (by kernel_rfl)).symm.trans h0_) (by decide), fun h0_ => absurd ((hoff 14 (by kernel_rfl)).symm.trans h0_) (by decide), Q_X0_, fun h0_ => absurd ((hoff 2 (by kernel_rfl)).symm.trans h0_) (by decide), Q_X3_, fun h0_ => absurd ((hoff 5 (by kernel_rfl)).symm.trans h0_) (by decide), Q_X8_, Q_X12_, fun h0_ => absurd ((hoff 13 (by kernel_rfl)).symm.trans h0_) (by decide), fun h0_ => absurd ((hoff 14 (by kernel_rfl)).symm.trans h0_) (by decide), fun h0_ => absurd ((hoff 15 (by kernel_rfl)).symm.trans h0_) (by decide)⟩
    refine steps_cons ?_ ?_
    · rintro b a w' ⟨z0, z3, g2, c2, g5, c5, g8, g12, g17, m0_, m2_, m3_, m5_, m8_, m12_, m13_, m14_, m15_, ha, Q_HR, Q_Z0, Q_Z3, Q_NE, Q_R2, Q_R5, Q_M8, Q_M12, Q_N25, Q_N28, Q_N58, Q_BX, Q_X0_, Q_X2_, Q_X3_, Q_X5_, Q_X8_, Q_X12_, Q_X13_, Q_X14_, Q_X15_⟩ hb_ hon hoff
      refine ⟨_, rfl, fun K hK => ?_⟩
      have e3 : a.tmps[3]? = some (m0_) := by rw [ha]; exact putSel_on (e := (0, 3, m0_)) 0 rfl rfl (hon 0 (by kernel_rfl)) rfl
      rw [Q_X0_ (hon 0 (by kernel_rfl))] at e3
      have e4 : a.tmps[4]? = some (.slice (some ⟨gl, 0, none⟩) 16 cl) := by rw [ha]; exact putSel_on (e := (1, 4, .slice (some ⟨gl, 0, none⟩) 16 cl)) 1 rfl rfl (hon 1 (by kernel_rfl)) rfl
      replace ha := Aside0.mk ha
      have HR := Aside0.mk Q_HR
      have Z0 := Aside0.mk (Q_Z0 (hon 0 (by kernel_rfl)) hb_)
      refine step_append_lies _ (by rfl) (.tmp 3) (.tmp 4) 31 (by rfl) W.heap.size 49 i0 _ 1 8 Try.underlying31 hi0_ hz0 hz1 hz2 rfl (by omega) (.slice (some ⟨z0, 0, none⟩) 0 0) 0 [] ?qs2 (own_empty Z0.out.1 Z0.out.2) ⟨gl, 0, none⟩ 16 cl (ints Z16) ?qx2 (by rfl) (row_news (SRC.out.below16 HR.out)) (by intro u hu; simp [ints, Z16] at hu; subst hu; rfl) (by omega) (by unfold maxLen; omega) (by omega) (below_size HR.out) w'.heap.size rfl ?_
      (case qs2 => simp [Act.eval, e3])
      (case qx2 => simp [Act.eval, e4])
      intro g9 cap9 w9 hown9 hgr9 hat9 hlt9
      have hat := at_empty hat9
      have hrow := row_own hown9
      have hgs : W.heap.size ≤ g9 := hat.elim (fun e => by rw [e]; exact Z0.out.2) (fun e => by rw [e]; exact below_size HR.out)
      refine hK.out _ _ ⟨z0, z3, g9, cap9, g5, c5, g8, g12, g17, m0_, (.slice (some ⟨g9, 0, none⟩) 16 cap9), m3_, m5_, m8_, m12_, m13_, m14_, m15_, (by rw [ha.out]; exact putSel_upk 2 hb_ rfl rfl rfl), (HR.out.grown hgr9 (below_size HR.out) (fun k e => by cases e; exact Z0.out.2)), fun _ h1_ => absurd ((up_self b 2).symm.trans h1_) (by decide), fun h0_ h1_ => ⟨(hgr9.block z3 (blk_lt (Q_Z3 h0_ h1_).1) (fun e => Q_NE (hon 0 (by kernel_rfl)) h0_ hb_ (Option.some.inj e).symm)).trans (Q_Z3 h0_ h1_).1, (Q_Z3 h0_ h1_).2⟩, fun _ _ h2_ => absurd ((up_self b 2).symm.trans h2_) (by decide), fun _ => ⟨hrow, hgs⟩, fun h0_ => absurd ((hoff 5 (by kernel_rfl)).symm.trans h0_) (by decide), fun h0_ => ⟨(Q_M8 h0_).1.grown16 hgr9 (fun e => (Q_M8 h0_).1.not_empty Z0.out.1 (Option.some.inj e)), (Q_M8 h0_).2⟩, fun h0_ => ⟨(Q_M12 h0_).1.grown2 hgr9 (fun e => (Q_M12 h0_).1.not_empty Z0.out.1 (Option.some.inj e)), (Q_M12 h0_).2⟩, fun _ h1_ => absurd ((hoff 5 (by kernel_rfl)).symm.trans h1_) (by decide), fun _ _ => (by rename_i u0 u1; have X_ := Q_M8 u1; exact hat.elim (fun e => by rw [e]; exact fun h => X_.1.not_empty Z0.out.1 h.symm) (fun e => by rw [e]; exact Nat.ne_of_gt X_.1.lt)), fun h0_ _ => absurd ((hoff 5 (by kernel_rfl)).symm.trans h0_) (by decide), fun h0_ => absurd ((hoff 14 (by kernel_rfl)).symm.trans h0_) (by decide), Q_X0_, fun _ => rfl, Q_X3_, fun h0_ => absurd ((hoff 5 (by kernel_rfl)).symm.trans h0_) (by decide), Q_X8_, Q_X12_, fun h0_ => absurd ((hoff 13 (by kernel_rfl)).symm.trans h0_) (by decide), fun h0_ => absurd ((hoff 14 (by kernel_rfl)).symm.trans h0_) (by decide), fun h0_ => absurd ((hoff 15 (by kernel_rfl)).symm.trans h0_) (by decide)⟩
    refine steps_cons ?_ ?_
    · rintro b a w' ⟨z0, z3, g2, c2, g5, c5, g8, g12, g17, m0_, m2_, m3_, m5_, m8_, m12_, m13_, m14_, m15_, ha, Q_HR, Q_Z0, Q_Z3, Q_NE, Q_R2, Q_R5, Q_M8, Q_M12, Q_N25, Q_N28, Q_N58, Q_BX, Q_X0_, Q_X2_, Q_X3_, Q_X5_, Q_X8_, Q_X12_, Q_X13_, Q_X14_, Q_X15_⟩ hb_ hon hoff
      refine ⟨_, rfl, fun K hK => ?_⟩
      replace ha := Aside0.mk ha
      have HR := Aside0.mk Q_HR
      refine value_ (w1 := ?_) (v := ?_) (by rfl) rfl ?_ ?_
      rotate_left 2
      · go_simp
        constructor
        · rfl
        · rfl
      have hb := (Below.refl w'.heap.size w').alloc (Nat.le_refl _) (.cells #[] 49)
      refine hK.out _ _ ⟨z0, w'.heap.size, g2, c2, g5, c5, g8, g12, g17, m0_, m2_, (.slice (some ⟨w'.heap.size, 0, none⟩) 0 0), m5_, m8_, m12_, m13_, m14_, m15_, (by rw [ha.out]; exact putSel_upk 3 hb_ rfl rfl rfl), (below_step HR.out hb), fun h0_ h1_ => ⟨blk_below (Q_Z0 h0_ h1_).1 hb, (Q_Z0 h0_ h1_).2⟩, fun _ _ => ⟨blk_new w' (.cells #[] 49), below_size HR.out⟩, fun _ _ _ => (by rename_i u0 u1 u2; exact Nat.ne_of_lt (blk_lt (Q_Z0 u0 u2).1)), fun h0_ => ⟨(Q_R2 h0_).1.below hb, (Q_R2 h0_).2⟩, fun h0_ => absurd ((hoff 5 (by kernel_rfl)).symm.trans h0_) (by decide), fun h0_ => ⟨(Q_M8 h0_).1.below hb, (Q_M8 h0_).2⟩, fun h0_ => ⟨(Q_M12 h0_).1.fr (X := fun _ => False) (Fr.of hb) (fun h => h), (Q_M12 h0_).2⟩, fun _ h1_ => absurd ((hoff 5 (by kernel_rfl)).symm.trans h1_) (by decide), Q_N28, fun h0_ _ => absurd ((hoff 5 (by kernel_rfl)).symm.trans h0_) (by decide), fun h0_ => absurd ((hoff 14 (by kernel_rfl)).symm.trans h0_) (by decide), Q_X0_, Q_X2_, fun _ => rfl, fun h0_ => absurd ((hoff 5 (by kernel_rfl)).symm.trans h0_) (by decide), Q_X8_, Q_X12_, fun h0_ => absurd ((hoff 13 (by kernel_rfl)).symm.trans h0_) (by decide), fun h0_ => absurd ((hoff 14 (by kernel_rfl)).symm.trans h0_) (by decide), fun h0_ => absurd ((hoff 15 (by kernel_rfl)).symm.trans h0_) (by decide)⟩
    refine steps_cons ?_ ?_
    · rintro b a w' ⟨z0, z3, g2, c2, g5, c5, g8, g12, g17, m0_, m2_, m3_, m5_, m8_, m12_, m13_, m14_, m15_, ha, Q_HR, Q_Z0, Q_Z3, Q_NE, Q_R2, Q_R5, Q_M8, Q_M12, Q_N25, Q_N28, Q_N58, Q_BX, Q_X0_, Q_X2_, Q_X3_, Q_X5_, Q_X8_, Q_X12_, Q_X13_, Q_X14_, Q_X15_⟩ hb_ hon hoff
      refine ⟨_, rfl, fun K hK => ?_⟩
      have e0 : a.tmps[0]? = some (.slice (some ⟨gl, 0, none⟩) 16 cl) := by rw [ha]; exact (putSel_off rfl).trans rfl
      replace ha := Aside0.mk ha
      have HR := Aside0.mk Q_HR
      refine value_ (w1 := w') (v := .slice (some ⟨gl, 0, none⟩) 16 cl) (by rfl) rfl ?_ ?_
      · go_simp
        (try simp only [i64_w])
        try rfl
      refine hK.out _ _ ⟨z0, z3, g2, c2, g5, c5, g8, g12, g17, m0_, m2_, m3_, m5_, m8_, m12_, m13_, m14_, m15_, (by rw [ha.out]; exact putSel_upk 4 hb_ rfl rfl rfl), Q_HR, Q_Z0, Q_Z3, Q_NE, Q_R2, fun h0_ => absurd ((hoff 5 (by kernel_rfl)).symm.trans h0_) (by decide), Q_M8, Q_M12, fun _ h1_ => absurd ((hoff 5 (by kernel_rfl)).symm.trans h1_) (by decide), Q_N28, fun h0_ _ => absurd ((hoff 5 (by kernel_rfl)).symm.trans h0_) (by decide), fun h0_ => absurd ((hoff 14 (by kernel_rfl)).symm.trans h0_) (by decide), Q_X0_, Q_X2_, Q_X3_, fun h0_ => absurd ((hoff 5 (by kernel_rfl)).symm.trans h0_) (by decide), Q_X8_, Q_X12_, fun h0_ => absurd ((hoff 13 (by kernel_rfl)).symm.trans h0_) (by decide), fun h0_ => absurd ((hoff 14 (by kernel_rfl)).symm.trans h0_) (by decide), fun h0_ => absurd ((hoff 15 (by kernel_rfl)).symm.trans h0_) (by decide)⟩
    refine steps_cons ?_ ?_
    · rintro b a w' ⟨z0, z3, g2, c2, g5, c5, g8, g12, g17, m0_, m2_, m3_, m5_, m8_, m12_, m13_, m14_, m15_, ha, Q_HR, Q_Z0, Q_Z3, Q_NE, Q_R2, Q_R5, Q_M8, Q_M12, Q_N25, Q_N28, Q_N58, Q_BX, Q_X0_, Q_X2_, Q_X3_, Q_X5_, Q_X8_, Q_X12_, Q_X13_, Q_X14_, Q_X15_⟩ hb_ hon hoff
      refine ⟨_, rfl, fun K hK => ?_⟩
      have e6 : a.tmps[6]? = some (m3_) := by rw [ha]; exact putSel_on (e := (3, 6, m3_)) 3 rfl rfl (hon 3 (by kernel_rfl)) rfl
      rw [Q_X3_ (hon 3 (by kernel_rfl))] at e6
      have e7 : a.tmps[7]? = some (.slice (some ⟨gl, 0, none⟩) 16 cl) := by rw [ha]; exact putSel_on (e := (4, 7, .slice (some ⟨gl, 0, none⟩) 16 cl)) 4 rfl rfl (hon 4 (by kernel_rfl)) rfl
      replace ha := Aside0.mk ha
      have HR := Aside0.mk Q_HR
      have Z3 := Aside0.mk (Q_Z3 (hon 3 (by kernel_rfl)) hb_)
      have R2 := Aside0.mk (Q_R2 (hon 2 (by kernel_rfl)))
      refine step_append_lies _ (by rfl) (.tmp 6) (.tmp 7) 31 (by rfl) W.heap.size 49 i0 _ 1 8 Try.underlying31 hi0_ hz0 hz1 hz2 rfl (by omega) (.slice (some ⟨z3, 0, none⟩) 0 0) 0 [] ?qs5 (own_empty Z3.out.1 Z3.out.2) ⟨gl, 0, none⟩ 16 cl (ints Z16) ?qx5 (by rfl) (row_news (SRC.out.below16 HR.out)) (by intro u hu; simp [ints, Z16] at hu; subst hu; rfl) (by omega) (by unfold maxLen; omega) (by omega) (below_size HR.out) w'.heap.size rfl ?_
      (case qs5 => simp [Act.eval, e6])
      (case qx5 => simp [Act.eval, e7])
      intro g9 cap9 w9 hown9 hgr9 hat9 hlt9
      have hat := at_empty hat9
      have hrow := row_own hown9
      have hgs : W.heap.size ≤ g9 := hat.elim (fun e => by rw [e]; exact Z3.out.2) (fun e => by rw [e]; exact below_size HR.out)
      refine hK.out _ _ ⟨z0, z3, g2, c2, g9, cap9, g8, g12, g17, m0_, m2_, m3_, (.slice (some ⟨g9, 0, none⟩) 16 cap9), m8_, m12_, m13_, m14_, m15_, (by rw [ha.out]; exact putSel_upk 5 hb_ rfl rfl rfl), (HR.out.grown hgr9 (below_size HR.out) (fun k e => by cases e; exact Z3.out.2)), fun _ h1_ => absurd ((hon 2 (by kernel_rfl)).symm.trans h1_) (by decide), fun _ h1_ => absurd ((up_self b 5).symm.trans h1_) (by decide), fun _ _ h2_ => absurd ((hon 2 (by kernel_rfl)).symm.trans h2_) (by decide), fun _ => ⟨R2.out.1.grown16 hgr9 (fun e => R2.out.1.not_empty Z3.out.1 (Option.some.inj e)), R2.out.2⟩, fun _ => ⟨hrow, hgs⟩, fun h0_ => ⟨(Q_M8 h0_).1.grown16 hgr9 (fun e => (Q_M8 h0_).1.not_empty Z3.out.1 (Option.some.inj e)), (Q_M8 h0_).2⟩, fun h0_ => ⟨(Q_M12 h0_).1.grown2 hgr9 (fun e => (Q_M12 h0_).1.not_empty Z3.out.1 (Option.some.inj e)), (Q_M12 h0_).2⟩, fun _ _ => (by have X_ := R2.out; exact hat.elim (fun e => by rw [e]; exact X_.1.not_empty Z3.out.1) (fun e => by rw [e]; exact Nat.ne_of_lt X_.1.lt)), Q_N28, fun _ _ => (by rename_i u0 u1; have X_ := Q_M8 u1; exact hat.elim (fun e => by rw [e]; exact fun h => X_.1.not_empty Z3.out.1 h.symm) (fun e => by rw [e]; exact Nat.ne_of_gt X_.1.lt)), fun h0_ => absurd ((hoff 14 (by kernel_rfl)).symm.trans h0_) (by decide), Q_X0_, Q_X2_, Q_X3_, fun _ => rfl, Q_X8_, Q_X12_, fun h0_ => absurd ((hoff 13 (by kernel_rfl)).symm.trans h0_) (by decide), fun h0_ => absurd ((hoff 14 (by kernel_rfl)).symm.trans h0_) (by decide), fun h0_ => absurd ((hoff 15 (by kernel_rfl)).symm.trans h0_) (by decide)⟩
    refine steps_cons ?_ ?_
    · rintro b a w' ⟨z0, z3, g2, c2, g5, c5, g8, g12, g17, m0_, m2_, m3_, m5_, m8_, m12_, m13_, m14_, m15_, ha, Q_HR, Q_Z0, Q_Z3, Q_NE, Q_R2, Q_R5, Q_M8, Q_M12, Q_N25, Q_N28, Q_N58, Q_BX, Q_X0_, Q_X2_, Q_X3_, Q_X5_, Q_X8_, Q_X12_, Q_X13_, Q_X14_, Q_X15_⟩ hb_ hon hoff
      refine ⟨_, rfl, fun K hK => ?_⟩
      have e0 : a.tmps[0]? = some (.slice (some ⟨gl, 0, none⟩) 16 cl) := by rw [ha]; exact (putSel_off rfl).trans rfl
      replace ha := Aside0.mk ha
      have HR := Aside0.mk Q_HR
      refine value_ (w1 := w') (v := .slice (some ⟨gl, 0, none⟩) 16 cl) (by rfl) rfl ?_ ?_
      · go_simp
        (try simp only [i64_w])
        try rfl
      refine hK.out _ _ ⟨z0, z3, g2, c2, g5, c5, g8, g12, g17, m0_, m2_, m3_, m5_, m8_, m12_, m13_, m14_, m15_, (by rw [ha.out]; exact putSel_upk 6 hb_ rfl rfl rfl), Q_HR, Q_Z0, Q_Z3, Q_NE, Q_R2, Q_R5, fun h0_ => absurd ((hoff 8 (by kernel_rfl)).symm.trans h0_) (by decide), Q_M12, Q_N25, fun _ h1_ => absurd ((hoff 8 (by kernel_rfl)).symm.trans h1_) (by decide), fun _ h1_ => absurd ((hoff 8 (by kernel_rfl)).symm.trans h1_) (by decide), fun h0_ => absurd ((hoff 14 (by kernel_rfl)).symm.trans h0_) (by decide), Q_X0_, Q_X2_, Q_X3_, Q_X5_, fun h0_ => absurd ((hoff 8 (by kernel_rfl)).symm.trans h0_) (by decide), Q_X12_, fun h0_ => absurd ((hoff 13 (by kernel_rfl)).symm.trans h0_) (by decide), fun h0_ => absurd ((hoff 14 (by kernel_rfl)).symm.trans h0_) (by decide), fun h0_ => absurd ((hoff 15 (by kernel_rfl)).symm.trans h0_) (by decide)⟩
    refine steps_cons ?_ ?_
    · rintro b a w' ⟨z0, z3, g2, c2, g5, c5, g8, g12, g17, m0_, m2_, m3_, m5_, m8_, m12_, m13_, m14_, m15_, ha, Q_HR, Q_Z0, Q_Z3, Q_NE, Q_R2, Q_R5, Q_M8, Q_M12, Q_N25, Q_N28, Q_N58, Q_BX, Q_X0_, Q_X2_, Q_X3_, Q_X5_, Q_X8_, Q_X12_, Q_X13_, Q_X14_, Q_X15_⟩ hb_ hon hoff
      refine ⟨_, rfl, fun K hK => ?_⟩
      have e9 : a.tmps[9]? = some (.slice (some ⟨gl, 0, none⟩) 16 cl) := by rw [ha]; exact putSel_on (e := (6, 9, .slice (some ⟨gl, 0, none⟩) 16 cl)) 6 rfl rfl (hon 6 (by kernel_rfl)) rfl
      replace ha := Aside0.mk ha
      have HR := Aside0.mk Q_HR
      refine value_ (w1 := w') (v := .int .i64 16) (by rfl) rfl ?_ ?_
      · go_simp
        (try simp only [i64_w])
        try rfl
      refine hK.out _ _ ⟨z0, z3, g2, c2, g5, c5, g8, g12, g17, m0_, m2_, m3_, m5_, m8_, m12_, m13_, m14_, m15_, (by rw [ha.out]; exact putSel_upk 7 hb_ rfl rfl rfl), Q_HR, Q_Z0, Q_Z3, Q_NE, Q_R2, Q_R5, fun h0_ => absurd ((hoff 8 (by kernel_rfl)).symm.trans h0_) (by decide), Q_M12, Q_N25, fun _ h1_ => absurd ((hoff 8 (by kernel_rfl)).symm.trans h1_) (by decide), fun _ h1_ => absurd ((hoff 8 (by kernel_rfl)).symm.trans h1_) (by decide), fun h0_ => absurd ((hoff 14 (by kernel_rfl)).symm.trans h0_) (by decide), Q_X0_, Q_X2_, Q_X3_, Q_X5_, fun h0_ => absurd ((hoff 8 (by kernel_rfl)).symm.trans h0_) (by decide), Q_X12_, fun h0_ => absurd ((hoff 13 (by kernel_rfl)).symm.trans h0_) (by decide), fun h0_ => absurd ((hoff 14 (by kernel_rfl)).symm.trans h0_) (by decide), fun h0_ => absurd ((hoff 15 (by kernel_rfl)).symm.trans h0_) (by decide)⟩
    refine steps_cons ?_ ?_
    · rintro b a w' ⟨z0, z3, g2, c2, g5, c5, g8, g12, g17, m0_, m2_, m3_, m5_, m8_, m12_, m13_, m14_, m15_, ha, Q_HR, Q_Z0, Q_Z3, Q_NE, Q_R2, Q_R5, Q_M8, Q_M12, Q_N25, Q_N28, Q_N58, Q_BX, Q_X0_, Q_X2_, Q_X3_, Q_X5_, Q_X8_, Q_X12_, Q_X13_, Q_X14_, Q_X15_⟩ hb_ hon hoff
      refine ⟨_, rfl, fun K hK => ?_⟩
      have e10 : a.tmps[10]? = some (.int .i64 16) := by rw [ha]; exact putSel_on (e := (7, 10, .int .i64 16)) 7 rfl rfl (hon 7 (by kernel_rfl)) rfl
      replace ha := Aside0.mk ha
      have HR := Aside0.mk Q_HR
      refine value_ (w1 := ?_) (v := ?_) (by rfl) rfl ?_ ?_
      rotate_left 2
      · go_simp
        constructor
        · rfl
        · rfl
      have hb := (Below.refl w'.heap.size w').alloc (Nat.le_refl _) (.cells (Array.replicate 16 (.int .u64 0)) 49)
      refine hK.out _ _ ⟨z0, z3, g2, c2, g5, c5, w'.heap.size, g12, g17, m0_, m2_, m3_, m5_, (.slice (some ⟨w'.heap.size, 0, none⟩) 16 16), m12_, m13_, m14_, m15_, (by rw [ha.out]; exact putSel_upk 8 hb_ rfl rfl rfl), (below_step HR.out hb), fun h0_ h1_ => ⟨blk_below (Q_Z0 h0_ h1_).1 hb, (Q_Z0 h0_ h1_).2⟩, fun h0_ h1_ => ⟨blk_below (Q_Z3 h0_ h1_).1 hb, (Q_Z3 h0_ h1_).2⟩, Q_NE, fun h0_ => ⟨(Q_R2 h0_).1.below hb, (Q_R2 h0_).2⟩, fun h0_ => ⟨(Q_R5 h0_).1.below hb, (Q_R5 h0_).2⟩, fun _ => ⟨Pm.row_made w' 16 (by omega), below_size HR.out⟩, fun h0_ => ⟨(Q_M12 h0_).1.fr (X := fun _ => False) (Fr.of hb) (fun h => h), (Q_M12 h0_).2⟩, Q_N25, fun _ _ => (by rename_i u0 u1; exact Nat.ne_of_lt (Q_R2 u0).1.lt), fun _ _ => (by rename_i u0 u1; exact Nat.ne_of_lt (Q_R5 u0).1.lt), fun h0_ => absurd ((hoff 14 (by kernel_rfl)).symm.trans h0_) (by decide), Q_X0_, Q_X2_, Q_X3_, Q_X5_, fun _ => rfl, Q_X12_, fun h0_ => absurd ((hoff 13 (by kernel_rfl)).symm.trans h0_) (by decide), fun h0_ => absurd ((hoff 14 (by kernel_rfl)).symm.trans h0_) (by decide), fun h0_ => absurd ((hoff 15 (by kernel_rfl)).symm.trans h0_) (by decide)⟩
    refine steps_cons ?_ ?_
    · rintro b a w' ⟨z0, z3, g2, c2, g5, c5, g8, g12, g17, m0_, m2_, m3_, m5_, m8_, m12_, m13_, m14_, m15_, ha, Q_HR, Q_Z0, Q_Z3, Q_NE, Q_R2, Q_R5, Q_M8, Q_M12, Q_N25, Q_N28, Q_N58, Q_BX, Q_X0_, Q_X2_, Q_X3_, Q_X5_, Q_X8_, Q_X12_, Q_X13_, Q_X14_, Q_X15_⟩ hb_ hon hoff
      refine ⟨_, rfl, fun K hK => ?_⟩
      have e0 : a.tmps[0]? = some (.slice (some ⟨gl, 0, none⟩) 16 cl) := by rw [ha]; exact (putSel_off rfl).trans rfl
      replace ha := Aside0.mk ha
      have HR := Aside0.mk Q_HR
      refine value_ (w1 := w') (v := .slice (some ⟨gl, 0, none⟩) 16 cl) (by rfl) rfl ?_ ?_
      · go_simp
        (try simp only [i64_w])
        try rfl
      refine hK.out _ _ ⟨z0, z3, g2, c2, g5, c5, g8, g12, g17, m0_, m2_, m3_, m5_, m8_, m12_, m13_, m14_, m15_, (by rw [ha.out]; exact putSel_upk 9 hb_ rfl rfl rfl), Q_HR, Q_Z0, Q_Z3, Q_NE, Q_R2, Q_R5, Q_M8, fun h0_ => absurd ((hoff 12 (by kernel_rfl)).symm.trans h0_) (by decide), Q_N25, Q_N28, Q_N58, fun h0_ => absurd ((hoff 14 (by kernel_rfl)).symm.trans h0_) (by decide), Q_X0_, Q_X2_, Q_X3_, Q_X5_, Q_X8_, fun h0_ => absurd ((hoff 12 (by kernel_rfl)).symm.trans h0_) (by decide), fun h0_ => absurd ((hoff 13 (by kernel_rfl)).symm.trans h0_) (by decide), fun h0_ => absurd ((hoff 14 (by kernel_rfl)).symm.trans h0_) (by decide), fun h0_ => absurd ((hoff 15 (by kernel_rfl)).symm.trans h0_) (by decide)⟩
    refine steps_cons ?_ ?_
    · rintro b a w' ⟨z0, z3, g2, c2, g5, c5, g8, g12, g17, m0_, m2_, m3_, m5_, m8_, m12_, m13_, m14_, m15_, ha, Q_HR, Q_Z0, Q_Z3, Q_NE, Q_R2, Q_R5, Q_M8, Q_M12, Q_N25, Q_N28, Q_N58, Q_BX, Q_X0_, Q_X2_, Q_X3_, Q_X5_, Q_X8_, Q_X12_, Q_X13_, Q_X14_, Q_X15_⟩ hb_ hon hoff
      refine ⟨_, rfl, fun K hK => ?_⟩
      have e12 : a.tmps[12]? = some (.slice (some ⟨gl, 0, none⟩) 16 cl) := by rw [ha]; exact putSel_on (e := (9, 12, .slice (some ⟨gl, 0, none⟩) 16 cl)) 9 rfl rfl (hon 9 (by kernel_rfl)) rfl
      replace ha := Aside0.mk ha
      have HR := Aside0.mk Q_HR
      refine value_ (w1 := w') (v := .int .i64 16) (by rfl) rfl ?_ ?_
      · go_simp
        (try simp only [i64_w])
        try rfl
      refine hK.out _ _ ⟨z0, z3, g2, c2, g5, c5, g8, g12, g17, m0_, m2_, m3_, m5_, m8_, m12_, m13_, m14_, m15_, (by rw [ha.out]; exact putSel_upk 10 hb_ rfl rfl rfl), Q_HR, Q_Z0, Q_Z3, Q_NE, Q_R2, Q_R5, Q_M8, fun h0_ => absurd ((hoff 12 (by kernel_rfl)).symm.trans h0_) (by decide), Q_N25, Q_N28, Q_N58, fun h0_ => absurd ((hoff 14 (by kernel_rfl)).symm.trans h0_) (by decide), Q_X0_, Q_X2_, Q_X3_, Q_X5_, Q_X8_, fun h0_ => absurd ((hoff 12 (by kernel_rfl)).symm.trans h0_) (by decide), fun h0_ => absurd ((hoff 13 (by kernel_rfl)).symm.trans h0_) (by decide), fun h0_ => absurd ((hoff 14 (by kernel_rfl)).symm.trans h0_) (by decide), fun h0_ => absurd ((hoff 15 (by kernel_rfl)).symm.trans h0_) (by decide)⟩
    refine steps_cons ?_ ?_
    · rintro b a w' ⟨z0, z3, g2, c2, g5, c5, g8, g12, g17, m0_, m2_, m3_, m5_, m8_, m12_, m13_, m14_, m15_, ha, Q_HR, Q_Z0, Q_Z3, Q_NE, Q_R2, Q_R5, Q_M8, Q_M12, Q_N25, Q_N28, Q_N58, Q_BX, Q_X0_, Q_X2_, Q_X3_, Q_X5_, Q_X8_, Q_X12_, Q_X13_, Q_X14_, Q_X15_⟩ hb_ hon hoff
      refine ⟨_, rfl, fun K hK => ?_⟩
      have e13 : a.tmps[13]? = some (.int .i64 16) := by rw [ha]; exact putSel_on (e := (10, 13, .int .i64 16)) 10 rfl rfl (hon 10 (by kernel_rfl)) rfl
      replace ha := Aside0.mk ha
      have HR := Aside0.mk Q_HR
      refine value_ (w1 := w') (v := .int .i64 2) (by rfl) rfl ?_ ?_
      · go_simp
        (try simp only [i64_w])
        first | rfl | (unfold wrap64; rfl) | (unfold wrap64; omega) | decide
      refine hK.out _ _ ⟨z0, z3, g2, c2, g5, c5, g8, g12, g17, m0_, m2_, m3_, m5_, m8_, m12_, m13_, m14_, m15_, (by rw [ha.out]; exact putSel_upk 11 hb_ rfl rfl rfl), HR.out, fun h0_ h1_ => (Q_Z0 h0_ h1_), fun h0_ h1_ => (Q_Z3 h0_ h1_), fun h0_ h1_ h2_ => (Q_NE h0_ h1_ h2_), fun h0_ => (Q_R2 h0_), fun h0_ => (Q_R5 h0_), fun h0_ => (Q_M8 h0_), fun h0_ => absurd ((hoff 12 (by kernel_rfl)).symm.trans h0_) (by decide), fun h0_ h1_ => (Q_N25 h0_ h1_), fun h0_ h1_ => (Q_N28 h0_ h1_), fun h0_ h1_ => (Q_N58 h0_ h1_), fun h0_ => absurd ((hoff 14 (by kernel_rfl)).symm.trans h0_) (by decide), Q_X0_, Q_X2_, Q_X3_, Q_X5_, Q_X8_, fun h0_ => absurd ((hoff 12 (by kernel_rfl)).symm.trans h0_) (by decide), fun h0_ => absurd ((hoff 13 (by kernel_rfl)).symm.trans h0_) (by decide), fun h0_ => absurd ((hoff 14 (by kernel_rfl)).symm.trans h0_) (by decide), fun h0_ => absurd ((hoff 15 (by kernel_rfl)).symm.trans h0_) (by decide)⟩
    refine steps_cons ?_ ?_
    · rintro b a w' ⟨z0, z3, g2, c2, g5, c5, g8, g12, g17, m0_, m2_, m3_, m5_, m8_, m12_, m13_, m14_, m15_, ha, Q_HR, Q_Z0, Q_Z3, Q_NE, Q_R2, Q_R5, Q_M8, Q_M12, Q_N25, Q_N28, Q_N58, Q_BX, Q_X0_, Q_X2_, Q_X3_, Q_X5_, Q_X8_, Q_X12_, Q_X13_, Q_X14_, Q_X15_⟩ hb_ hon hoff
      refine ⟨_, rfl, fun K hK => ?_⟩
      have e14 : a.tmps[14]? = some (.int .i64 2) := by rw [ha]; exact putSel_on (e := (11, 14, .int .i64 2)) 11 rfl rfl (hon 11 (by kernel_rfl)) rfl
      replace ha := Aside0.mk ha
      have HR := Aside0.mk Q_HR
      refine value_ (w1 := ?_) (v := ?_) (by rfl) rfl ?_ ?_
      rotate_left 2
      · go_simp
        constructor
        · rfl
        · rfl
      have hb := (Below.refl w'.heap.size w').alloc (Nat.le_refl _) (.cells #[.bool false, .bool false] 4)
      refine hK.out _ _ ⟨z0, z3, g2, c2, g5, c5, g8, w'.heap.size, g17, m0_, m2_, m3_, m5_, m8_, (.slice (some ⟨w'.heap.size, 0, none⟩) 2 2), m13_, m14_, m15_, (by rw [ha.out]; exact putSel_upk 12 hb_ rfl rfl rfl), (below_step HR.out hb), fun h0_ h1_ => ⟨blk_below (Q_Z0 h0_ h1_).1 hb, (Q_Z0 h0_ h1_).2⟩, fun h0_ h1_ => ⟨blk_below (Q_Z3 h0_ h1_).1 hb, (Q_Z3 h0_ h1_).2⟩, Q_NE, fun h0_ => ⟨(Q_R2 h0_).1.below hb, (Q_R2 h0_).2⟩, fun h0_ => ⟨(Q_R5 h0_).1.below hb, (Q_R5 h0_).2⟩, fun h0_ => ⟨(Q_M8 h0_).1.below hb, (Q_M8 h0_).2⟩, fun _ => ⟨brow_made w', below_size HR.out⟩, Q_N25, Q_N28, Q_N58, fun h0_ => absurd ((hoff 14 (by kernel_rfl)).symm.trans h0_) (by decide), Q_X0_, Q_X2_, Q_X3_, Q_X5_, Q_X8_, fun _ => rfl, fun h0_ => absurd ((hoff 13 (by kernel_rfl)).symm.trans h0_) (by decide), fun h0_ => absurd ((hoff 14 (by kernel_rfl)).symm.trans h0_) (by decide), fun h0_ => absurd ((hoff 15 (by kernel_rfl)).symm.trans h0_) (by decide)⟩
    refine steps_cons ?_ ?_
    · rintro b a w' ⟨z0, z3, g2, c2, g5, c5, g8, g12, g17, m0_, m2_, m3_, m5_, m8_, m12_, m13_, m14_, m15_, ha, Q_HR, Q_Z0, Q_Z3, Q_NE, Q_R2, Q_R5, Q_M8, Q_M12, Q_N25, Q_N28, Q_N58, Q_BX, Q_X0_, Q_X2_, Q_X3_, Q_X5_, Q_X8_, Q_X12_, Q_X13_, Q_X14_, Q_X15_⟩ hb_ hon hoff
      refine ⟨_, rfl, fun K hK => ?_⟩
      have e5 : a.tmps[5]? = some (m2_) := by rw [ha]; exact putSel_on (e := (2, 5, m2_)) 2 rfl rfl (hon 2 (by kernel_rfl)) rfl
      rw [Q_X2_ (hon 2 (by kernel_rfl))] at e5
      have e8 : a.tmps[8]? = some (m5_) := by rw [ha]; exact putSel_on (e := (5, 8, m5_)) 5 rfl rfl (hon 5 (by kernel_rfl)) rfl
      rw [Q_X5_ (hon 5 (by kernel_rfl))] at e8
      have e11 : a.tmps[11]? = some (m8_) := by rw [ha]; exact putSel_on (e := (8, 11, m8_)) 8 rfl rfl (hon 8 (by kernel_rfl)) rfl
      rw [Q_X8_ (hon 8 (by kernel_rfl))] at e11
      have e15 : a.tmps[15]? = some (m12_) := by rw [ha]; exact putSel_on (e := (12, 15, m12_)) 12 rfl rfl (hon 12 (by kernel_rfl)) rfl
      rw [Q_X12_ (hon 12 (by kernel_rfl))] at e15
      replace ha := Aside0.mk ha
      have HR := Aside0.mk Q_HR
      have R2 := Aside0.mk (Q_R2 (hon 2 (by kernel_rfl)))
      have R5 := Aside0.mk (Q_R5 (hon 5 (by kernel_rfl)))
      have M8 := Aside0.mk (Q_M8 (hon 8 (by kernel_rfl)))
      have M12 := Aside0.mk (Q_M12 (hon 12 (by kernel_rfl)))
      have N25 := Aside0.mk (Q_N25 (hon 2 (by kernel_rfl)) (hon 5 (by kernel_rfl)))
      have N28 := Aside0.mk (Q_N28 (hon 2 (by kernel_rfl)) (hon 8 (by kernel_rfl)))
      have N58 := Aside0.mk (Q_N58 (hon 5 (by kernel_rfl)) (hon 8 (by kernel_rfl)))
      refine value_ (w1 := w') (v := .agg #[.slice (some ⟨g2, 0, none⟩) 16 c2, .slice (some ⟨g5, 0, none⟩) 16 c5, .slice (some ⟨g8, 0, none⟩) 16 16, .slice (some ⟨g12, 0, none⟩) 2 2, .int .i64 0]) (by rfl) rfl ?_ ?_
      · go_simp
        (try simp only [i64_w])
        try rfl
      refine hK.out _ _ ⟨z0, z3, g2, c2, g5, c5, g8, g12, g17, m0_, m2_, m3_, m5_, m8_, m12_, (.agg #[.slice (some ⟨g2, 0, none⟩) 16 c2, .slice (some ⟨g5, 0, none⟩) 16 c5, .slice (some ⟨g8, 0, none⟩) 16 16, .slice (some ⟨g12, 0, none⟩) 2 2, .int .i64 0]), m14_, m15_, (by rw [ha.out]; exact putSel_upk 13 hb_ rfl rfl rfl), Q_HR, fun _ h1_ => absurd ((hon 2 (by kernel_rfl)).symm.trans h1_) (by decide), fun _ h1_ => absurd ((hon 5 (by kernel_rfl)).symm.trans h1_) (by decide), fun _ _ h2_ => absurd ((hon 2 (by kernel_rfl)).symm.trans h2_) (by decide), Q_R2, Q_R5, Q_M8, Q_M12, Q_N25, Q_N28, Q_N58, fun h0_ => absurd ((hoff 14 (by kernel_rfl)).symm.trans h0_) (by decide), Q_X0_, Q_X2_, Q_X3_, Q_X5_, Q_X8_, Q_X12_, fun _ => rfl, fun h0_ => absurd ((hoff 14 (by kernel_rfl)).symm.trans h0_) (by decide), fun h0_ => absurd ((hoff 15 (by kernel_rfl)).symm.trans h0_) (by decide)⟩
    refine steps_cons ?_ ?_
    · rintro b a w' ⟨z0, z3, g2, c2, g5, c5, g8, g12, g17, m0_, m2_, m3_, m5_, m8_, m12_, m13_, m14_, m15_, ha, Q_HR, Q_Z0, Q_Z3, Q_NE, Q_R2, Q_R5, Q_M8, Q_M12, Q_N25, Q_N28, Q_N58, Q_BX, Q_X0_, Q_X2_, Q_X3_, Q_X5_, Q_X8_, Q_X12_, Q_X13_, Q_X14_, Q_X15_⟩ hb_ hon hoff
      refine ⟨_, rfl, fun K hK => ?_⟩
      have e16 : a.tmps[16]? = some (m13_) := by rw [ha]; exact putSel_on (e := (13, 16, m13_)) 13 rfl rfl (hon 13 (by kernel_rfl)) rfl
      rw [Q_X13_ (hon 13 (by kernel_rfl))] at e16
      replace ha := Aside0.mk ha
      have HR := Aside0.mk Q_HR
      have R2 := Aside0.mk (Q_R2 (hon 2 (by kernel_rfl)))
      have R5 := Aside0.mk (Q_R5 (hon 5 (by kernel_rfl)))
      have M8 := Aside0.mk (Q_M8 (hon 8 (by kernel_rfl)))
      have M12 := Aside0.mk (Q_M12 (hon 12 (by kernel_rfl)))
      have N25 := Aside0.mk (Q_N25 (hon 2 (by kernel_rfl)) (hon 5 (by kernel_rfl)))
      have N28 := Aside0.mk (Q_N28 (hon 2 (by kernel_rfl)) (hon 8 (by kernel_rfl)))
      have N58 := Aside0.mk (Q_N58 (hon 5 (by kernel_rfl)) (hon 8 (by kernel_rfl)))
      refine value_ (w1 := ?_) (v := ?_) (by rfl) rfl ?_ ?_
      rotate_left 2
      · go_simp
        constructor
        · rfl
        · rfl
      have hb := (Below.refl w'.heap.size w').alloc (Nat.le_refl _) (.cells #[.slice (some ⟨g2, 0, none⟩) 16 c2, .slice (some ⟨g5, 0, none⟩) 16 c5, .slice (some ⟨g8, 0, none⟩) 16 16, .slice (some ⟨g12, 0, none⟩) 2 2, .int .i64 0] 68)
      refine hK.out _ _ ⟨z0, z3, g2, c2, g5, c5, g8, g12, w'.heap.size, m0_, m2_, m3_, m5_, m8_, m12_, m13_, (.pointer (some ⟨w'.heap.size, 0, none⟩)), m15_, (by rw [ha.out]; exact putSel_upk 14 hb_ rfl rfl rfl), (below_step HR.out hb), fun _ h1_ => absurd ((hon 2 (by kernel_rfl)).symm.trans h1_) (by decide), fun _ h1_ => absurd ((hon 5 (by kernel_rfl)).symm.trans h1_) (by decide), fun _ _ h2_ => absurd ((hon 2 (by kernel_rfl)).symm.trans h2_) (by decide), fun _ => ⟨R2.out.1.below hb, R2.out.2⟩, fun _ => ⟨R5.out.1.below hb, R5.out.2⟩, fun _ => ⟨M8.out.1.below hb, M8.out.2⟩, fun _ => ⟨M12.out.1.fr (X := fun _ => False) (Fr.of hb) (fun h => h), M12.out.2⟩, Q_N25, Q_N28, Q_N58, fun _ => ⟨blk_new w' (.cells #[.slice (some ⟨g2, 0, none⟩) 16 c2, .slice (some ⟨g5, 0, none⟩) 16 c5, .slice (some ⟨g8, 0, none⟩) 16 16, .slice (some ⟨g12, 0, none⟩) 2 2, .int .i64 0] 68), below_size HR.out⟩, Q_X0_, Q_X2_, Q_X3_, Q_X5_, Q_X8_, Q_X12_, Q_X13_, fun _ => rfl, fun h0_ => absurd ((hoff 15 (by kernel_rfl)).symm.trans h0_) (by decide)⟩
    refine steps_cons ?_ ?_
    · rintro b a w' ⟨z0, z3, g2, c2, g5, c5, g8, g12, g17, m0_, m2_, m3_, m5_, m8_, m12_, m13_, m14_, m15_, ha, Q_HR, Q_Z0, Q_Z3, Q_NE, Q_R2, Q_R5, Q_M8, Q_M12, Q_N25, Q_N28, Q_N58, Q_BX, Q_X0_, Q_X2_, Q_X3_, Q_X5_, Q_X8_, Q_X12_, Q_X13_, Q_X14_, Q_X15_⟩ hb_ hon hoff
      refine ⟨_, rfl, fun K hK => ?_⟩
      have e17 : a.tmps[17]? = some (m14_) := by rw [ha]; exact putSel_on (e := (14, 17, m14_)) 14 rfl rfl (hon 14 (by kernel_rfl)) rfl
      rw [Q_X14_ (hon 14 (by kernel_rfl))] at e17
      replace ha := Aside0.mk ha
      have HR := Aside0.mk Q_HR
      have R2 := Aside0.mk (Q_R2 (hon 2 (by kernel_rfl)))
      have R5 := Aside0.mk (Q_R5 (hon 5 (by kernel_rfl)))
      have M8 := Aside0.mk (Q_M8 (hon 8 (by kernel_rfl)))
      have M12 := Aside0.mk (Q_M12 (hon 12 (by kernel_rfl)))
      have N25 := Aside0.mk (Q_N25 (hon 2 (by kernel_rfl)) (hon 5 (by kernel_rfl)))
      have N28 := Aside0.mk (Q_N28 (hon 2 (by kernel_rfl)) (hon 8 (by kernel_rfl)))
      have N58 := Aside0.mk (Q_N58 (hon 5 (by kernel_rfl)) (hon 8 (by kernel_rfl)))
      have BX := Aside0.mk (Q_BX (hon 14 (by kernel_rfl)))
      refine value_ (w1 := w') (v := .pointer (some ⟨g17, 0, none⟩)) (by rfl) rfl ?_ ?_
      · go_simp
        (try simp only [i64_w])
        try rfl
      refine hK.out _ _ ⟨z0, z3, g2, c2, g5, c5, g8, g12, g17, m0_, m2_, m3_, m5_, m8_, m12_, m13_, m14_, (.pointer (some ⟨g17, 0, none⟩)), (by rw [ha.out]; exact putSel_upk 15 hb_ rfl rfl rfl), Q_HR, fun _ h1_ => absurd ((hon 2 (by kernel_rfl)).symm.trans h1_) (by decide), fun _ h1_ => absurd ((hon 5 (by kernel_rfl)).symm.trans h1_) (by decide), fun _ _ h2_ => absurd ((hon 2 (by kernel_rfl)).symm.trans h2_) (by decide), Q_R2, Q_R5, Q_M8, Q_M12, Q_N25, Q_N28, Q_N58, Q_BX, Q_X0_, Q_X2_, Q_X3_, Q_X5_, Q_X8_, Q_X12_, Q_X13_, Q_X14_, fun _ => rfl⟩
    exact steps_nil
  rintro b a wz hall ⟨z0, z3, g2, c2, g5, c5, g8, g12, g17, m0_, m2_, m3_, m5_, m8_, m12_, m13_, m14_, m15_, ha, Q_HR, Q_Z0, Q_Z3, Q_NE, Q_R2, Q_R5, Q_M8, Q_M12, Q_N25, Q_N28, Q_N58, Q_BX, Q_X0_, Q_X2_, Q_X3_, Q_X5_, Q_X8_, Q_X12_, Q_X13_, Q_X14_, Q_X15_⟩
  clear HR
  have hb0_ := hall 0 (by kernel_rfl)
  have hb1_ := hall 1 (by kernel_rfl)
  have hb2_ := hall 2 (by kernel_rfl)
  have hb3_ := hall 3 (by kernel_rfl)
  have hb4_ := hall 4 (by kernel_rfl)
  have hb5_ := hall 5 (by kernel_rfl)
  have hb6_ := hall 6 (by kernel_rfl)
  have hb7_ := hall 7 (by kernel_rfl)
  have hb8_ := hall 8 (by kernel_rfl)
  have hb9_ := hall 9 (by kernel_rfl)
  have hb10_ := hall 10 (by kernel_rfl)
  have hb11_ := hall 11 (by kernel_rfl)
  have hb12_ := hall 12 (by kernel_rfl)
  have hb13_ := hall 13 (by kernel_rfl)
  have hb14_ := hall 14 (by kernel_rfl)
  have hb15_ := hall 15 (by kernel_rfl)
  subst ha
  obtain rfl := Q_X0_ hb0_
  obtain rfl := Q_X2_ hb2_
  obtain rfl := Q_X3_ hb3_
  obtain rfl := Q_X5_ hb5_
  obtain rfl := Q_X8_ hb8_
  obtain rfl := Q_X12_ hb12_
  obtain rfl := Q_X13_ hb13_
  obtain rfl := Q_X14_ hb14_
  obtain rfl := Q_X15_ hb15_
  simp only [putSel, hb0_, hb1_, hb2_, hb3_, hb4_, hb5_, hb6_, hb7_, hb8_, hb9_, hb10_, hb11_, hb12_, hb13_, hb14_, hb15_, if_true, Act.put, List.setIfInBounds_toArray, List.set_cons_zero, List.set_cons_succ]
  have HR := Aside0.mk Q_HR
  clear Q_HR
  clear Q_Z0
  clear Q_Z3
  clear Q_NE
  have R2 := Aside0.mk (Q_R2 hb2_)
  clear Q_R2
  have R5 := Aside0.mk (Q_R5 hb5_)
  clear Q_R5
  have M8 := Aside0.mk (Q_M8 hb8_)
  clear Q_M8
  have M12 := Aside0.mk (Q_M12 hb12_)
  clear Q_M12
  have N25 := Aside0.mk (Q_N25 hb2_ hb5_)
  clear Q_N25
  have N28 := Aside0.mk (Q_N28 hb2_ hb8_)
  clear Q_N28
  have N58 := Aside0.mk (Q_N58 hb5_ hb8_)
  clear Q_N58
  have BX := Aside0.mk (Q_BX hb14_)
  clear Q_BX
  clear hall hb0_ hb1_ hb2_ hb3_ hb4_ hb5_ hb6_ hb7_ hb8_ hb9_ hb10_ hb11_ hb12_ hb13_ hb14_ hb15_
  go_wp2_with fail
  go_ret
  exact ⟨g17, g2, g5, g8, g12, c2, c5, rfl, ⟨⟨0, BX.out.1⟩, R2.out.1, R5.out.1, M8.out.1, M12.out.1, N25.out, N28.out, N58.out⟩, HR.out, BX.out.2, R2.out.2, R5.out.2, M8.out.2, M12.out.2⟩
end Go.Proofs.Ytmolflmljneelaa.En
/- The law's walk: what it lays ahead of the steps. -/
namespace Go.Proofs.Ytmolflmljneelaa.En
open Go.RowKit Go.Proofs.YtmolflmljneelaaW.PrintWords Go.Proofs.YtmolflmljneelaaW.PrintLast Go.Proofs.YtmolflmljneelaaW.PrintMore
open Pm (Fr Rg Row thereB pendAt WFD) 
open Lk (Tbl takeR leaveR ownerV Only)
set_option linter.unusedSimpArgs false
set_option linter.unusedVariables false
/-- What the law laid: the state, the rows of the runs. -/
structure Laid (W wr : World) (l : Loc) (r : RLoc) (fd m : Nat) (S : Nat → Sr) (E : Nat → Option Addr × Nat × Nat) (AA : Nat → Nat → AskN) (s : SS) (v10 v11 : Value) : Prop where
  ls : LS wr W.heap.size l r fd m S R0 Q0 s s
  rows : wr.ownsRow W.heap.size 40 1 v10 m (ptrs (fun j => (S j).rb) m)
  refs : wr.ownsRow W.heap.size 44 1 v11 m (ptrs (fun j => (S j).qb) m)
  below : Below W.heap.size W wr
  st : ∀ j, j < m → (S j).ad = (E j).1 ∧ (S j).n = (E j).2.1 ∧ (S j).A = AA j
def s00 : SS := ⟨Z16, Z16, fun _ => none, [-1, -1], 0, 0⟩
theorem ls0 {W w5 : World} {l : Loc} {r : RLoc} {fd : Nat} (hS : Sh w5 l s00) (hR : RSh w5 r fd s00) (h1 : ∀ b, l.X b → W.heap.size ≤ b) (h2 : ∀ b, (r.FX fd b ∨ r.UX b) → W.heap.size ≤ b) (hb : Below W.heap.size W w5) (S : Nat → Sr)
    (sep : Sep 0 (own l r S R0 Q0)) : LS w5 W.heap.size l r fd 0 S R0 Q0 s00 s00 :=
  ⟨hS, hR, fun i hi => absurd hi (by omega), fun i hi => absurd hi (by omega), sep, h1, h2, fun i hi => absurd hi (by omega), fun i hi => absurd hi (by omega), hb.size⟩
theorem Laid.add {W wr w' : World} {l : Loc} {r : RLoc} {fd i : Nat} {S : Nat → Sr} {E : Nat → Option Addr × Nat × Nat} {AA : Nat → Nat → AskN} {s : SS} {v10 v11 : Value} (h : Laid W wr l r fd i S E AA s v10 v11) (z : Sr) (hz : z.ad = (E i).1 ∧ z.n = (E i).2.1 ∧ z.A = AA i) {v10' v11' : Value}
    (h1 : LS w' W.heap.size l r fd (i + 1) (upd S i z) R0 Q0 s s) (h2 : w'.ownsRow W.heap.size 40 1 v10' (i + 1) (ptrs (fun j => (S j).rb) i ++ [.pointer (some ⟨z.rb, 0, none⟩)])) (h3 : w'.ownsRow W.heap.size 44 1 v11' (i + 1) (ptrs (fun j => (S j).qb) i ++ [.pointer (some ⟨z.qb, 0, none⟩)])) (hb : Below W.heap.size W w') :
    Laid W w' l r fd (i + 1) (upd S i z) E AA s v10' v11' := by
  refine ⟨h1, ?_, ?_, hb, fun j hj => ?_⟩
  · rw [ptrs_succ, ptrs_congr (g := fun j => (S j).rb) (fun j hj => by show (upd S i z j).rb = _; rw [upd_ne _ _ _ (by omega)])]
    show w'.ownsRow W.heap.size 40 1 v10' (i + 1) (ptrs (fun j => (S j).rb) i ++ [.pointer (some ⟨(upd S i z i).rb, 0, none⟩)])
    rw [upd_same]
    exact h2
  · rw [ptrs_succ, ptrs_congr (g := fun j => (S j).qb) (fun j hj => by show (upd S i z j).qb = _; rw [upd_ne _ _ _ (by omega)])]
    show w'.ownsRow W.heap.size 44 1 v11' (i + 1) (ptrs (fun j => (S j).qb) i ++ [.pointer (some ⟨(upd S i z i).qb, 0, none⟩)])
    rw [upd_same]
    exact h3
  · by_cases e : j = i
    · subst e
      rw [upd_same]
      exact hz
    · rw [upd_ne _ _ _ e]
      exact h.st j (by omega)
set_option maxHeartbeats 16000000 in
set_option maxRecDepth 100000 in
theorem law_at (W : World) (y : Addr) (len0 cap0 len1 cap1 : Nat) (a1 : Option Addr) (E : Nat → Option Addr × Nat × Nat) (AA : Nat → Nat → AskN) (hD : DeedsM W (some y) len0 E AA) (h1 : 1 ≤ len0) (h4 : len0 ≤ 4)
    (hPK : ∀ j, j < len1 → ∃ y1 q, a1 = some y1 ∧ y1.block < W.heap.size ∧ W.cell? (y1.add j) = some (.int .u8 q) ∧ 0 ≤ q ∧ q < 256)
    (halive : ∀ w : World, Calls Try.prog 4 #[] w fun e w' => e = .returned (.bool true) ∧ Below w.heap.size w w') :
    Calls Try.prog 3 #[.slice (some y) len0 cap0, .slice a1 len1 cap1] W fun e w' => e = .returned (.bool true) ∧ Below W.heap.size W w' := by
  have hd1 : decide ((len0 : Int) < 1) = false := decide_eq_false (by omega)
  have hd4 : decide ((len0 : Int) > 4) = false := decide_eq_false (by omega)
  have hmk := Pm.made16
  have HD := Aside0.mk hD
  have HPK := Aside0.mk hPK
  clear hD hPK
  go_enter Try.func3, Try.ntmps3
  go_upto_region 7 with (first
    | (go_at_call 4; refine (halive _).mono ?_; rintro e w1 ⟨rfl, hb⟩; have HB1 := Aside0.mk hb; clear hb)
    | (go_at_call 5; refine (Pm.new_calls _ 16 (.inr rfl)).mono ?_; rintro e w2 ⟨p, gs, gk, bm, cs, ck, rfl, hG, hb, l1, l2, l3, l4⟩; have HG := Aside0.mk hG; have HB2 := Aside0.mk (HB1.out.trans (hb.mono HB1.out.size)); have HL2 := Aside0.mk (And.intro (Nat.le_trans HB1.out.size l1) (And.intro (Nat.le_trans HB1.out.size l2) (And.intro (Nat.le_trans HB1.out.size l3) (Nat.le_trans HB1.out.size l4)))); clear hG hb l1 l2 l3 l4)
    | (go_at_call 6; refine (Lk.new_calls 2 (by omega) _).mono ?_; rintro e w3 ⟨tp, tg, rfl, l5, l6, hT, hb⟩; have HT := Aside0.mk hT; have HB3 := Aside0.mk (HB2.out.trans (hb.mono HB2.out.size)); have HL3 := Aside0.mk (And.intro (Nat.le_trans HB2.out.size l5) (Nat.le_trans HB2.out.size l6)); have HG3 := Aside0.mk (HG.out.below hb); clear hT hb l5 l6)
    | (go_at_call 7; refine (rof_calls _ _ _ (Pm.row_made w3 16 (by omega))).mono ?_; rintro e w4 ⟨g17, g2, g5, g8, g12, c2, c5, rfl, hRf, hb, l7, l8, l9, l10, l11⟩; have hs3 : w3.heap.size ≤ (w3.alloc (.cells (Array.replicate 16 (.int .u64 0)) 49)).heap.size := (by simp); have HRF := Aside0.mk hRf; have B34 := Aside0.mk (((Below.refl w3.heap.size w3).alloc (Nat.le_refl _) _).trans (hb.mono hs3)); have HL4 := Aside0.mk (And.intro (Nat.le_trans hs3 l7) (And.intro (Nat.le_trans hs3 l8) (And.intro (Nat.le_trans hs3 l9) (And.intro (Nat.le_trans hs3 l10) (Nat.le_trans hs3 l11))))); clear hRf hb l7 l8 l9 l10 l11 hs3)
    | (go_at_call 8; refine (rnew_calls w4).mono ?_; rintro e w5 ⟨rfl, hU, hV, hb⟩; have HU := Aside0.mk hU; have HV := Aside0.mk hV; have B45 := Aside0.mk hb; clear hU hV hb))
  go_upto_region 8 with fail
  have B56 := Aside0.mk ((Below.refl w5.heap.size w5).alloc (Nat.le_refl _) (.cells #[.int .i64 0] 36))
  have HC := Aside0.mk (blk_new w5 (.cells #[.int .i64 0] 36))
  obtain ⟨cb, hcb⟩ : ∃ cb, w5.heap.size = cb := ⟨_, rfl⟩
  generalize hw6 : w5.alloc (.cells #[.int .i64 0] 36) = w6 at B56 HC ⊢
  rw [hcb] at HC ⊢
  have hT2 : Tbl w3 tp tg [-1, -1] := HT.out
  have s56 := B56.out.size
  have s45 := B45.out.size
  have s34 := B34.out.size
  have B46 := B45.out.trans (B56.out.mono s45)
  have B36 := B34.out.trans (B46.mono s34)
  have BW := Aside0.mk (HB3.out.trans (B36.mono HB3.out.size))
  obtain ⟨l, hl⟩ : ∃ l : Loc, l = ⟨p, gs, gk, bm, 16, cs, ck, tp, tg, cb⟩ := ⟨_, rfl⟩
  obtain ⟨r, hr⟩ : ∃ r : RLoc, r = ⟨g17, g2, g5, g8, c2, c5, 16, w4.heap.size + 1, w4.heap.size⟩ := ⟨_, rfl⟩
  have hSh : Sh w6 l s00 := by
    rw [hl]
    exact ⟨⟨.map [], HG3.out.below B36, Pm.wfd_nil _, fun j _ => Pm.pend_nil j⟩, hT2.below B36, HC.out, by simp⟩
  have hRf6 : Rf w6 r g12 2 Z16 Z16 Z16 [false, false] := by
    rw [hr]
    have h6 := HRF.out.fr (X := fun _ => False) (Fr.of B46) (fun _ _ h => h)
    exact ⟨h6.tp, h6.rs, h6.rk, h6.rm, h6.rp, h6.ne⟩
  have hRT : RT w6 r [-1, -1] := by
    rw [hr]
    exact ⟨⟨0, blk_below HU.out B56.out⟩, blk_below HV.out B56.out, fun x hx => by simp at hx; omega⟩
  have hRSh : RSh w6 r g12 s00 := ⟨2, Z16, [false, false], hRf6, fun j hj => none_rel Z16 j hj, hRT⟩
  have hlX : ∀ b, l.X b → W.heap.size ≤ b ∧ b < w6.heap.size := fun b hb => by
    refine ⟨?_, hSh.size b hb⟩
    have e1 := HL2.out
    have e2 := HL3.out
    have e3 := HB3.out.size
    rw [hl] at hb
    rcases hb with e | e | e | e | e | e | e
    all_goals ((try dsimp only at e); omega)
  have hrX : ∀ b, (r.FX g12 b ∨ r.UX b) → W.heap.size ≤ b := fun b hb => by
    have e1 := HL4.out
    have e3 := HB3.out.size
    rw [hr] at hb
    rcases hb with (e | e | e | e | e) | (e | e)
    all_goals ((try dsimp only at e); omega)
  have hsep : ∀ S, Sep 0 (own l r S R0 Q0) := fun S => by
    have n1 := HG3.out.ne
    have n2 := HRF.out.ne
    have q1 := HG3.out.lt
    have q2 := hT2.tg
    have q3 := blk_lt q2
    obtain ⟨_, k1⟩ := HG3.out.rs.blk
    obtain ⟨_, k2⟩ := HG3.out.rk.blk
    have q4 := type_ne q2 k1 (by decide)
    have q5 := type_ne q2 k2 (by decide)
    have q6 := HL4.out
    have q7 := HRF.out.rs.lt
    have q8 := HRF.out.rk.lt
    have q9 := HRF.out.rm.lt
    simp only at n2 q7 q8 q9
    intro x y g hx hy ex ey
    cases x <;> cases y <;> first
      | rfl
      | exact absurd hx (Nat.not_lt_zero _)
      | exact absurd hy (Nat.not_lt_zero _)
      | (rw [hl, hr] at ex ey; simp [own] at ex ey; exfalso; omega)
  have HLD : ∀ S, Aside0 (Laid W w6 l r g12 0 S E AA s00 (.slice none 0 0) (.slice none 0 0)) := fun S => Aside0.mk ⟨ls0 hSh hRSh (fun b hb => (hlX b hb).1) hrX BW.out S (hsep S), ⟨rfl, .inl ⟨rfl, rfl⟩⟩, ⟨rfl, .inl ⟨rfl, rfl⟩⟩, BW.out, fun j hj => absurd hj (by omega)⟩
  have HLN := Aside0.mk (show l.N = 16 from by rw [hl])
  have e1 : p = l.p := by rw [hl]
  have e2 : tp = l.tp := by rw [hl]
  have e3 : cb = l.cb := by rw [hl]
  have e4 : g17 = r.fp := by rw [hr]
  have e5 : w4.heap.size + 1 = r.up := by rw [hr]
  rw [e1, e2, e3, e4, e5]
  clear e1 e2 e3 e4 e5 hl hr hSh hRf6 hRT hRSh hlX hrX hsep B46 B36 s56 s45 s34 hT2 hcb hw6 HG HT HG3 HL2 HL3 HL4 HB1 HB2 HB3 HRF B34 B45 B56 HU HV HC
  go_wp2_with fail
  go_loopw [10, 11, 13] (fun v10 v11 iv wr => ∃ (i : Nat) (S : Nat → Sr), i ≤ len0 ∧ iv = .int .i64 i ∧ Aside0 (Laid W wr l r g12 i S E AA s00 v10 v11)) (fun _ _ iv _ => len0 - (intOf iv).toNat)
  case atStart => exact ⟨0, fun _ => ⟨0, 0, 0, 0, 0, none, 0, 0, fun _ => ⟨0, 0, 0⟩⟩, by omega, rfl, HLD _⟩
  case round =>
    clear HLD
    obtain ⟨i, S, hi, rfl, HL⟩ := hrel
    by_cases hlt : i < len0
    · have hd : decide ((i : Int) < (len0 : Int)) = true := decide_eq_true (by omega)
      have hi0 : (0 : Int) ≤ (i : Int) := by omega
      have hi1 : (i : Int) < (len0 : Int) := by omega
      obtain ⟨y2, ey, hyl, hyc⟩ := HD.out.at_ i hlt
      cases ey
      have hask := HD.out.asks i hlt
      have hyr : wr.cell? (y.add i) = some (.slice (E i).1 (E i).2.1 (E i).2.2) := (HL.out.below.cell (p := y.add i) (by rw [add_block]; exact hyl)).trans hyc
      obtain ⟨ead, en, ec, hE⟩ : ∃ a n c, E i = (a, n, c) := ⟨_, _, _, rfl⟩
      rw [hE] at hyr hask
      have HE := Aside0.mk hE
      have HASK := Aside0.mk hask
      clear hyc hE hask
      simp only at hyr
      by_cases h40 : en ≤ 40
      · have hd40 : decide ((en : Int) > 40) = false := decide_eq_false (by omega)
        obtain ⟨a10, c10, h10⟩ := row_form HL.out.rows
        obtain ⟨a11, c11, h11⟩ := row_form HL.out.refs
        subst h10
        subst h11
        obtain ⟨i40, hi40, hz400, hz401, hz402⟩ := info_parts info40
        obtain ⟨i44, hi44, hz440, hz441, hz442⟩ := info_parts info44
        go_upto_region 17 with (first
          | (go_at_call 10; refine (deed_made wr ead en ec l.cb).mono ?_; rintro e w1 ⟨rfl, hgl, hgc, hb⟩; have HGL := Aside0.mk hgl; have HGC := Aside0.mk hgc; have HB1 := Aside0.mk hb; clear hgl hgc hb)
          | (go_at_call 9; refine (env_made w1 l.p l.tp wr.heap.size (wr.heap.size + 1) i).mono ?_; rintro e w2 ⟨rfl, hev, hrn, hb⟩; have HEV := Aside0.mk hev; have HRN := Aside0.mk hrn; have HB12 := Aside0.mk hb; have HB2 := Aside0.mk (HB1.out.trans (hb.mono HB1.out.size)); clear hev hrn hb)
          | (at_builtin; refine wpList_append_lies _ rfl _ _ _ rfl W.heap.size 40 i40 _ 1 8 Try.underlying37 hi40 hz400 hz401 hz402 rfl (by omega) (.slice a10 i c10) i (ptrs (fun j => (S j).rb) i) (by rfl) (row_fr HL.out.rows (X := fun _ => False) (Fr.of (HB2.out.alloc HB2.out.size (.cells #[.pointer (some ⟨w1.heap.size + 1, 0, none⟩)] 40))) (fun _ _ h => h)) ⟨w2.heap.size, 0, none⟩ 1 1 [.pointer (some ⟨w1.heap.size + 1, 0, none⟩)] (by rfl) (by rfl) (World.news_of_block (cs := #[.pointer (some ⟨w1.heap.size + 1, 0, none⟩)]) (t := 40) (fr := (0, 0)) (heap_alloc_new w2 _)) (by simp [Value.oneCell']) (by omega) (by unfold maxLen; omega) (by omega) (by have := HB2.out.size; have := HL.out.below.size; simp; omega) (w2.heap.size + 1) (by simp) ?_; intro g4 cap4 w4 hown4 hgrow4 hat4 hlt4; have O4 := Aside0.mk hown4; have G4 := Aside0.mk hgrow4; clear hown4 hgrow4 hat4))
        have X4 := Aside0.mk (((Fr.of (X := fun b => (Value.slice a10 i c10).ownBlock = some b) HB2.out).alloc (.cells #[.pointer (some ⟨w1.heap.size + 1, 0, none⟩)] 40)).grown G4.out (fun k e => .inl e))
        have Y24 := Aside0.mk (((Fr.refl (fun b => (Value.slice a10 i c10).ownBlock = some b) w2).alloc (.cells #[.pointer (some ⟨w1.heap.size + 1, 0, none⟩)] 40)).grown G4.out (fun k e => .inl e))
        have P4 : PtrX wr (fun b => (Value.slice a10 i c10).ownBlock = some b) := fun b hb => by
          obtain ⟨_, c, hc⟩ := row_blk HL.out.rows hb
          exact ⟨c, 40, hc, .inl rfl⟩
        have P5 : PtrX wr (fun b => (Value.slice a11 i c11).ownBlock = some b) := fun b hb => by
          obtain ⟨_, c, hc⟩ := row_blk HL.out.refs hb
          exact ⟨c, 44, hc, .inr rfl⟩
        have HP := Aside0.mk (And.intro P4 P5)
        have L4 := Aside0.mk (HL.out.ls.frP X4.out P4 (fun b hb => (row_blk HL.out.rows hb).1))
        have R11 := Aside0.mk (row_fr HL.out.refs X4.out (fun g hg hx => by
          obtain ⟨_, c, hc⟩ := row_blk HL.out.refs hg
          obtain ⟨_, c2, hc2⟩ := row_blk HL.out.rows hx
          exact type_ne hc hc2 (by decide) rfl))
        -- what the new run's blocks are at w4
        have far : ∀ {b : Nat} {c : Array Value} {t : Nat}, w2.heap[b]? = some (.cells c t (0, 0)) → wr.heap.size ≤ b → w4.heap[b]? = some (.cells c t (0, 0)) := fun {b c t} hb hge => Y24.out.keeps hb (fun e => by
          obtain ⟨_, c2, hc2⟩ := row_blk HL.out.rows e
          have := blk_lt hc2
          omega)
        have s12 := HB12.out.size
        have s1 := HB1.out.size
        have E4 := Aside0.mk (far HEV.out (by omega))
        have N4 := Aside0.mk (far HRN.out (by omega))
        have D4 := Aside0.mk (far (blk_below HGL.out HB12.out) (Nat.le_refl _))
        have C4 := Aside0.mk (far (blk_below HGC.out HB12.out) (by omega))
        have hs24 := Y24.out.size
        have SZ := Aside0.mk (show wr.heap.size ≤ w1.heap.size ∧ w1.heap.size ≤ w2.heap.size ∧ w2.heap.size ≤ w4.heap.size from ⟨s1, s12, hs24⟩)
        have B4 := Aside0.mk (show Below W.heap.size W w4 from HL.out.below.trans (X4.out.below (fun k hk => (row_blk HL.out.rows hk).1) HL.out.below.size))
        have hlb : (y.add i).block < W.heap.size := by rw [add_block]; exact hyl
        have hy4 : w4.cell? (y.add i) = some (.slice ead en ec) := (B4.out.cell (p := y.add i) hlb).trans ((HL.out.below.cell (p := y.add i) hlb).symm.trans hyr)
        clear P4 P5 far s12 s1 hs24 Y24 hlb
        have hov : wr.heap.size + 1 < w4.heap.size := blk_lt C4.out
        go_wp2_with (at_builtin; refine wpList_append_lies _ rfl _ _ _ rfl W.heap.size 44 i44 _ 1 8 Try.underlying38 hi44 hz440 hz441 hz442 rfl (by omega) (.slice a11 i c11) i (ptrs (fun j => (S j).qb) i) (by rfl) (row_fr R11.out (X := fun _ => False) (Fr.of (((Below.refl w4.heap.size w4).alloc (Nat.le_refl _) (.cells #[.slice ead en ec, .int .i64 i, .int .i64 0, .slice none 0 0] 46)).alloc (by simp) (.cells #[.pointer (some ⟨w4.heap.size, 0, none⟩)] 44))) (fun _ _ h => h)) ⟨w4.heap.size + 1, 0, none⟩ 1 1 [.pointer (some ⟨w4.heap.size, 0, none⟩)] (by rfl) (by rfl) (World.news_of_block (cs := #[.pointer (some ⟨w4.heap.size, 0, none⟩)]) (t := 44) (fr := (0, 0)) (by simpa using blk_new (w4.alloc (.cells #[.slice ead en ec, .int .i64 i, .int .i64 0, .slice none 0 0] 46)) (.cells #[.pointer (some ⟨w4.heap.size, 0, none⟩)] 44))) (by simp [Value.oneCell']) (by omega) (by unfold maxLen; omega) (by omega) (by have := B4.out.size; simp; omega) (w4.heap.size + 1 + 1) (by simp) ?_; intro g6 cap6 w6 hown6 hgrow6 hat6 hlt6; have O6 := Aside0.mk hown6; have G6 := Aside0.mk hgrow6; clear hown6 hgrow6 hat6)
        have B45 : Below w4.heap.size w4 ((w4.alloc (.cells #[.slice ead en ec, .int .i64 i, .int .i64 0, .slice none 0 0] 46)).alloc (.cells #[.pointer (some ⟨w4.heap.size, 0, none⟩)] 44)) := ((Below.refl w4.heap.size w4).alloc (Nat.le_refl _) _).alloc (by simp) _
        have X6 : Fr (fun b => (Value.slice a11 i c11).ownBlock = some b) w4 w6 := (Fr.of B45).grown G6.out (fun k e => .inl e)
        have P6 : PtrX w4 (fun b => (Value.slice a11 i c11).ownBlock = some b) := fun b hb => by
          obtain ⟨_, c, hc⟩ := row_blk R11.out hb
          exact ⟨c, 44, hc, .inr rfl⟩
        have low6 : ∀ b, (Value.slice a11 i c11).ownBlock = some b → W.heap.size ≤ b := fun b hb => (row_blk R11.out hb).1
        have L6 := L4.out.frP X6 P6 low6
        have Q6 : w6.heap[w4.heap.size]? = some (.cells #[.slice ead en ec, .int .i64 i, .int .i64 0, .slice none 0 0] 46 (0, 0)) := (blk_grown (blk_alloc (blk_new w4 (.cells #[.slice ead en ec, .int .i64 i, .int .i64 0, .slice none 0 0] 46)) _) G6.out (fun e => by
          obtain ⟨_, c, hc⟩ := row_blk R11.out e.symm
          have := blk_lt hc
          omega))
        have B6 : Below W.heap.size W w6 := B4.out.trans (X6.below low6 B4.out.size)
        have rows6 := row_fr O4.out X6 (fun g hg hx => by
          obtain ⟨_, c, hc⟩ := row_blk O4.out hg
          obtain ⟨_, c2, hc2⟩ := row_blk R11.out hx
          exact type_ne hc hc2 (by decide) rfl)
        have sz := SZ.out
        have LA := LS.add L6 (H := wr.heap.size) (HL.out.ls.lt) HL.out.ls.base ⟨w1.heap.size + 1, w1.heap.size, wr.heap.size, wr.heap.size + 1, w4.heap.size, ead, en, ec, AA i⟩
          (X6.keeps E4.out (P6.not E4.out (by decide) (by decide))) (X6.keeps N4.out (P6.not N4.out (by decide) (by decide))) (X6.keeps D4.out (P6.not D4.out (by decide) (by decide))) (X6.keeps C4.out (P6.not C4.out (by decide) (by decide))) Q6 sz.1 (by show wr.heap.size ≤ w1.heap.size + 1; omega) (by show wr.heap.size ≤ w4.heap.size; omega)
          (HASK.out.fr ((Fr.of (X := fun b => W.heap.size ≤ b) B6))) h40
        refine ⟨⟨i + 1, upd S i ⟨w1.heap.size + 1, w1.heap.size, wr.heap.size, wr.heap.size + 1, w4.heap.size, ead, en, ec, AA i⟩, by omega, by push_cast; rfl, Aside0.mk (HL.out.add _ ⟨by rw [HE.out], by rw [HE.out], rfl⟩ LA rows6 O6.out B6)⟩, step_lt i len0 hlt⟩
      · have hd40 : decide ((en : Int) > 40) = true := decide_eq_true (by omega)
        go_wp2_with fail
        go_ret
        exact ⟨rfl, HL.out.below⟩
    · obtain rfl : i = len0 := by omega
      have hd : decide ((i : Int) < (i : Int)) = false := decide_eq_false (by omega)
      obtain ⟨g10, c10, h10, _⟩ := ptr_row HL.out.rows (k := 0) (by omega)
      obtain ⟨g11, c11, h11, _⟩ := ptr_row HL.out.refs (k := 0) (by omega)
      subst h10
      subst h11
      have HM0 : Aside0 (Mid W wr l r g12 i S R0 Q0 s00 0 g10 c10 g11 c11) := Aside0.mk ⟨HL.out.ls, ⟨rfl, fun j hj => ⟨rfl, rfl⟩⟩, HL.out.rows, HL.out.refs, HL.out.below, by simp [s00], by simp [s00], rfl⟩
      have HST := Aside0.mk HL.out.st
      clear HL
      obtain ⟨wA, hwA⟩ : ∃ wA, wA = wr := ⟨_, rfl⟩
      subst hwA
      go_wp2_with fail
      go_loopw [12, 14] (fun want iv wq => ∃ (j : Nat) (R : Nat → Dr) (Q : Nat → Qr) (s : SS) (fd : Nat), j ≤ 120 ∧ j ≤ len1 ∧ iv = .int .i64 j ∧ want = .int .i64 s.c ∧ Aside0 (Mid W wq l r fd i S R Q s j g10 c10 g11 c11)) (fun _ iv _ => len1 - (intOf iv).toNat)
      case atStart => exact ⟨0, R0, Q0, s00, g12, by omega, by omega, rfl, rfl, HM0⟩
      case round =>
        clear HM0
        obtain ⟨j, R, Q, s, fd, hj, hj1, rfl, rfl, HM⟩ := hrel
        by_cases hjl : j < len1
        · have hdl : decide ((j : Int) < (len1 : Int)) = true := decide_eq_true (by omega)
          by_cases hj120 : j < 120
          · have hd120 : decide ((j : Int) < 120) = true := decide_eq_true (by omega)
            have hj0 : (0 : Int) ≤ (j : Int) := by omega
            have hj2 : (j : Int) < (len1 : Int) := by omega
            obtain ⟨y1, q, e1, hy1l, hy1c, hq0, hq1⟩ := HPK.out j hjl
            subst e1
            have hpk : wr.cell? (y1.add j) = some (.int .u8 q) := (HM.out.below.cell (p := y1.add j) (by rw [add_block]; exact hy1l)).trans hy1c
            obtain ⟨k, hk, hki⟩ : ∃ k : Nat, q % (i : Int) = (k : Int) ∧ k < i := ⟨(q % (i : Int)).toNat, by have := Int.emod_nonneg q (show (i : Int) ≠ 0 by omega); omega, by have := Int.emod_lt_of_pos q (show (0 : Int) < (i : Int) by omega); have := Int.emod_nonneg q (show (i : Int) ≠ 0 by omega); omega⟩
            have hkt : q.tmod (i : Int) = (k : Int) := by rw [Int.tmod_eq_emod_of_nonneg hq0]; exact hk
            have hi0' : (0 : Int) < (i : Int) := by omega
            have hk0 : (0 : Int) ≤ (k : Int) := by omega
            have hk1 : (k : Int) < (i : Int) := by omega
            have cr := ptr_cell2 HM.out.rows hki
            have cq := ptr_cell2 HM.out.refs hki
            have hq2 : wr.cell? ⟨(S k).qb, 2, none⟩ = some (.int .i64 (Q k).d) := (blk_cell (HM.out.ls.ref k hki).tp 2).trans rfl
            have hu46 := Try.underlying46
            clear hy1c
            go_upto_region 23 with fail
            obtain ⟨rr, hrr⟩ : ∃ rr, resR l.N k (S k).A (R k).T s (S k).n = rr := ⟨_, rfl⟩
            have HRR := Aside0.mk hrr
            have HNB := Aside0.mk (show s.n ≤ 1000 ∧ 0 ≤ s.c ∧ s.c ≤ 1000 from by have := HM.out.n; have := HM.out.c; omega)
            have HMd := Aside0.mk (HM.out.bel (Below.refl _ wr).drew)
            clear hrr hpk hq2 hkt
            have hc0 := HNB.out.2.1
            have hc1 := HNB.out.2.2
            go_region_held3 (fun w' => w'.cell? ⟨g10, k, none⟩ = some (.pointer (some ⟨(S k).rb, 0, none⟩)) ∧ w'.cell? ⟨g11, k, none⟩ = some (.pointer (some ⟨(S k).qb, 0, none⟩))) (go_keep)
              ((first
                | (go_at_call 11; refine (callA HMd.out.ls hki HNB.out.1 HNB.out.2 rr HRR.out).mono ?_; rintro e w5 ⟨rfl, hA⟩; have HA := Aside0.mk hA; clear hA; have cr5 := ptr_cell2 (row_kp HMd.out.rows HA.out.2 (.inl rfl)) hki; have cq5 := ptr_cell2 (row_kp HMd.out.refs HA.out.2 (.inr rfl)) hki)
                | (go_at_call 12; refine (callB HMd.out.ls HMd.out.coh HLN.out hki rr HRR.out HA.out).mono ?_; rintro e w6 ⟨rfl, hB⟩; have HB := Aside0.mk hB; clear hB; have cr6 := ptr_cell2 (row_kp HMd.out.rows HB.out.2 (.inl rfl)) hki; have cq6 := ptr_cell2 (row_kp HMd.out.refs HB.out.2 (.inr rfl)) hki)))
            obtain ⟨R', Q', s', fd', up, hB, hM'⟩ := HB.out.next HMd.out
            have HBO := Aside0.mk hB
            have HM6 := Aside0.mk hM'
            have hdQ := hB.d
            have hcS := hB.c
            clear hB hM' HA HB cr cq
            obtain ⟨dd, hdd⟩ : ∃ dd, (Q k).d = dd := ⟨_, rfl⟩
            have HDD := Aside0.mk hdd
            have HQ6 := Aside0.mk (HM6.out.qcell hki).1
            rw [hdd] at hdQ hcS ⊢
            clear hdd
            have hn40 := (HM6.out.ls.asks k hki).2
            cases up
            · have hdS : (Q' k).d = dd := hdQ
              replace hcS : s'.c = s.c := by rw [hcS]; exact if_neg (fun h => absurd h.1 (by decide))
              have hq6 : w6.cell? ⟨(S k).qb, 2, none⟩ = some (.int .i64 (dd : Int)) := by rw [← hdS]; exact HQ6.out
              have hgt : decide ((dd : Int) > (dd : Int)) = false := decide_eq_false (by omega)
              go_upto_region 26 with fail
              rw [← hcS]
              refine at26 W w6 y cap0 l r fd' i S R' Q' s' (j + 1) g10 c10 g11 c11 k rr hki h4 (by omega) HLN HM6 _ _ _ _ _ _ _ _ _ _ _ _ _ _ _ _ _ _ _ _ _ _ _ _ _ _ _ _ _ _ _ _ _ _ _ _ _ _ _ _ _ _ _ _ _ _ _ _ _ _ _ _ _ _ _ _ _ _ _ _ _ _ _ _ _ _ _ _ _ _ _ _ _ _ _ _ _ _ _ _ _ _ _ _ _ _ _ _ _ _ _ _ _ _ _ _ _ _ _ _ _ _ _ _ _ _ _ _ _ _ _ _ _ _ _ _ _ _ _ _ _ _ _ _ _ _ _ _ _ _ _ _ _ _ _ _ _ _ _ _ _ _ _ _ _ _ _ _ _ _ _ _ _ _ _ _ _ _ _ _ _ _ _ _ _ _ _ _ _ _ _ _ _ _ _ _ _ _ _ _ _ _ _ _ _ _ _ _ _ _ _ _ _ _ _ _ _ _ _ _ _ _ _ _ _ _ _ (fun z131 z132 z133 z134 z135 z136 z137 z138 z139 z140 z141 z142 z143 z144 z145 z146 z147 z148 z149 z150 z151 z152 z153 z154 z155 z156 z157 z158 z159 z160 z161 z162 z163 w8 HM8 => ?_)
              go_upto_region 28 with fail
              refine at28 W w8 y cap0 l r fd' i S R' Q' s' (j + 1) g10 c10 g11 c11 k rr hki h4 (by omega) HLN HM8 E AA HD HST _ _ _ _ _ _ _ _ _ _ _ _ _ _ _ _ _ _ _ _ _ _ _ _ _ _ _ _ _ _ _ _ _ _ _ _ _ _ _ _ _ _ _ _ _ _ _ _ _ _ _ _ _ _ _ _ _ _ _ _ _ _ _ _ _ _ _ _ _ _ _ _ _ _ _ _ _ _ _ _ _ _ _ _ _ _ _ _ _ _ _ _ _ _ _ _ _ _ _ _ _ _ _ _ _ _ _ _ _ _ _ _ _ _ _ _ _ _ _ _ _ _ _ _ _ _ _ _ _ _ _ _ _ _ _ _ _ _ _ _ _ _ _ _ _ _ _ _ _ _ _ _ _ _ _ _ _ _ _ _ _ _ _ _ _ _ _ _ _ _ _ _ _ _ _ _ _ _ _ _ _ _ _ _ _ _ _ _ _ _ _ _ _ _ _ _ _ _ _ _ _ _ _ _ _ _ _ (fun z165 z166 z167 z168 z169 z170 z171 z172 z173 z174 z175 z176 z177 z178 z179 z180 z181 z182 z183 z184 z185 z186 z187 z188 z189 z190 z191 z192 z193 z194 z195 z196 z197 z198 z199 z200 z201 z202 z203 z204 z205 z206 z207 z208 z209 z210 z211 z212 z213 z214 z215 z216 w9 HM9 => ?_)
              go_wp2_with fail
              exact ⟨⟨j + 1, R', Q', s', fd', by omega, by omega, by push_cast; rfl, rfl, HM9⟩, step_lt j len1 hjl⟩
            · have hdS : (Q' k).d = dd + 1 := hdQ
              have hltn := HBO.out.lt rfl
              rw [HDD.out] at hltn
              have HDN := Aside0.mk (show ((dd + 1 : Nat) : Int) = (dd : Int) + 1 from by push_cast; rfl)
              have hq6 : w6.cell? ⟨(S k).qb, 2, none⟩ = some (.int .i64 ((dd : Int) + 1)) := by rw [← HDN.out, ← hdS]; exact HQ6.out
              have hgt : decide ((dd : Int) + 1 > (dd : Int)) = true := decide_eq_true (by omega)
              obtain ⟨yA, eA, _, _, a0, _, _⟩ := (HM6.out.ls.asks k hki).1.at_ dd hltn
              have hsk := HST.out k hki
              have hEk : E k = (some yA, (S k).n, (E k).2.2) := by rw [← eA, hsk.1, hsk.2.1]
              have hyk6 : w6.cell? (y.add k) = some (.slice (some yA) (S k).n (E k).2.2) := by
                obtain ⟨y2, ey, hyl, hyc⟩ := HD.out.at_ k hki
                cases ey
                rw [hEk] at hyc
                exact (HM6.out.below.cell (p := y.add k) (by rw [add_block]; exact hyl)).trans hyc
              obtain ⟨kk, hkk⟩ : ∃ kk, ((S k).A dd).k = kk := ⟨_, rfl⟩
              rw [hkk] at a0 hcS
              have hkb := (HM6.out.ls.asks k hki).1.kd dd hltn
              rw [hkk] at hkb
              have hdd0 : (0 : Int) ≤ (dd : Int) := by omega
              have hdd1 : (dd : Int) < ((S k).n : Int) := by omega
              have hddn : (dd : Int) ≤ 1000 := by omega
              have hu51 := Try.underlying51
              clear eA hsk hEk hkk
              by_cases h6 : kk % 7 = 6
              · have hd6 : (kk % 7 == 6) = true := by simp [h6]
                replace hcS : s'.c = s.c + 1 := by rw [hcS]; exact if_pos ⟨rfl, h6⟩
                clear h6
                go_upto_region 26 with fail
                rw [← hcS]
                refine at26 W w6 y cap0 l r fd' i S R' Q' s' (j + 1) g10 c10 g11 c11 k rr hki h4 (by omega) HLN HM6 _ _ _ _ _ _ _ _ _ _ _ _ _ _ _ _ _ _ _ _ _ _ _ _ _ _ _ _ _ _ _ _ _ _ _ _ _ _ _ _ _ _ _ _ _ _ _ _ _ _ _ _ _ _ _ _ _ _ _ _ _ _ _ _ _ _ _ _ _ _ _ _ _ _ _ _ _ _ _ _ _ _ _ _ _ _ _ _ _ _ _ _ _ _ _ _ _ _ _ _ _ _ _ _ _ _ _ _ _ _ _ _ _ _ _ _ _ _ _ _ _ _ _ _ _ _ _ _ _ _ _ _ _ _ _ _ _ _ _ _ _ _ _ _ _ _ _ _ _ _ _ _ _ _ _ _ _ _ _ _ _ _ _ _ _ _ _ _ _ _ _ _ _ _ _ _ _ _ _ _ _ _ _ _ _ _ _ _ _ _ _ _ _ _ _ _ _ _ _ _ _ _ _ _ _ _ _ (fun z131 z132 z133 z134 z135 z136 z137 z138 z139 z140 z141 z142 z143 z144 z145 z146 z147 z148 z149 z150 z151 z152 z153 z154 z155 z156 z157 z158 z159 z160 z161 z162 z163 w8 HM8 => ?_)
                go_upto_region 28 with fail
                refine at28 W w8 y cap0 l r fd' i S R' Q' s' (j + 1) g10 c10 g11 c11 k rr hki h4 (by omega) HLN HM8 E AA HD HST _ _ _ _ _ _ _ _ _ _ _ _ _ _ _ _ _ _ _ _ _ _ _ _ _ _ _ _ _ _ _ _ _ _ _ _ _ _ _ _ _ _ _ _ _ _ _ _ _ _ _ _ _ _ _ _ _ _ _ _ _ _ _ _ _ _ _ _ _ _ _ _ _ _ _ _ _ _ _ _ _ _ _ _ _ _ _ _ _ _ _ _ _ _ _ _ _ _ _ _ _ _ _ _ _ _ _ _ _ _ _ _ _ _ _ _ _ _ _ _ _ _ _ _ _ _ _ _ _ _ _ _ _ _ _ _ _ _ _ _ _ _ _ _ _ _ _ _ _ _ _ _ _ _ _ _ _ _ _ _ _ _ _ _ _ _ _ _ _ _ _ _ _ _ _ _ _ _ _ _ _ _ _ _ _ _ _ _ _ _ _ _ _ _ _ _ _ _ _ _ _ _ _ _ _ _ _ (fun z165 z166 z167 z168 z169 z170 z171 z172 z173 z174 z175 z176 z177 z178 z179 z180 z181 z182 z183 z184 z185 z186 z187 z188 z189 z190 z191 z192 z193 z194 z195 z196 z197 z198 z199 z200 z201 z202 z203 z204 z205 z206 z207 z208 z209 z210 z211 z212 z213 z214 z215 z216 w9 HM9 => ?_)
                go_wp2_with fail
                exact ⟨⟨j + 1, R', Q', s', fd', by omega, by omega, by push_cast; rfl, rfl, HM9⟩, step_lt j len1 hjl⟩
              · have hd6 : (kk % 7 == 6) = false := by simp [h6]
                replace hcS : s'.c = s.c := by rw [hcS]; exact if_neg (fun h => h6 h.2)
                clear h6
                go_upto_region 26 with fail
                rw [← hcS]
                refine at26 W w6 y cap0 l r fd' i S R' Q' s' (j + 1) g10 c10 g11 c11 k rr hki h4 (by omega) HLN HM6 _ _ _ _ _ _ _ _ _ _ _ _ _ _ _ _ _ _ _ _ _ _ _ _ _ _ _ _ _ _ _ _ _ _ _ _ _ _ _ _ _ _ _ _ _ _ _ _ _ _ _ _ _ _ _ _ _ _ _ _ _ _ _ _ _ _ _ _ _ _ _ _ _ _ _ _ _ _ _ _ _ _ _ _ _ _ _ _ _ _ _ _ _ _ _ _ _ _ _ _ _ _ _ _ _ _ _ _ _ _ _ _ _ _ _ _ _ _ _ _ _ _ _ _ _ _ _ _ _ _ _ _ _ _ _ _ _ _ _ _ _ _ _ _ _ _ _ _ _ _ _ _ _ _ _ _ _ _ _ _ _ _ _ _ _ _ _ _ _ _ _ _ _ _ _ _ _ _ _ _ _ _ _ _ _ _ _ _ _ _ _ _ _ _ _ _ _ _ _ _ _ _ _ _ _ _ _ (fun z131 z132 z133 z134 z135 z136 z137 z138 z139 z140 z141 z142 z143 z144 z145 z146 z147 z148 z149 z150 z151 z152 z153 z154 z155 z156 z157 z158 z159 z160 z161 z162 z163 w8 HM8 => ?_)
                go_upto_region 28 with fail
                refine at28 W w8 y cap0 l r fd' i S R' Q' s' (j + 1) g10 c10 g11 c11 k rr hki h4 (by omega) HLN HM8 E AA HD HST _ _ _ _ _ _ _ _ _ _ _ _ _ _ _ _ _ _ _ _ _ _ _ _ _ _ _ _ _ _ _ _ _ _ _ _ _ _ _ _ _ _ _ _ _ _ _ _ _ _ _ _ _ _ _ _ _ _ _ _ _ _ _ _ _ _ _ _ _ _ _ _ _ _ _ _ _ _ _ _ _ _ _ _ _ _ _ _ _ _ _ _ _ _ _ _ _ _ _ _ _ _ _ _ _ _ _ _ _ _ _ _ _ _ _ _ _ _ _ _ _ _ _ _ _ _ _ _ _ _ _ _ _ _ _ _ _ _ _ _ _ _ _ _ _ _ _ _ _ _ _ _ _ _ _ _ _ _ _ _ _ _ _ _ _ _ _ _ _ _ _ _ _ _ _ _ _ _ _ _ _ _ _ _ _ _ _ _ _ _ _ _ _ _ _ _ _ _ _ _ _ _ _ _ _ _ _ (fun z165 z166 z167 z168 z169 z170 z171 z172 z173 z174 z175 z176 z177 z178 z179 z180 z181 z182 z183 z184 z185 z186 z187 z188 z189 z190 z191 z192 z193 z194 z195 z196 z197 z198 z199 z200 z201 z202 z203 z204 z205 z206 z207 z208 z209 z210 z211 z212 z213 z214 z215 z216 w9 HM9 => ?_)
                go_wp2_with fail
                exact ⟨⟨j + 1, R', Q', s', fd', by omega, by omega, by push_cast; rfl, rfl, HM9⟩, step_lt j len1 hjl⟩
          · have hd120 : decide ((j : Int) < 120) = false := decide_eq_false (by omega)
            go_wp2_with fail
            go_ret
            exact ⟨rfl, HM.out.below⟩
        · have hdl : decide ((j : Int) < (len1 : Int)) = false := decide_eq_false (by omega)
          go_wp2_with fail
          go_ret
          exact ⟨rfl, HM.out.below⟩
end Go.Proofs.Ytmolflmljneelaa.En
/- alive: one run of two asks. -/
namespace Go.Proofs.Ytmolflmljneelaa.En
open Go.RowKit Go.Proofs.YtmolflmljneelaaW.PrintWords Go.Proofs.YtmolflmljneelaaW.PrintLast Go.Proofs.YtmolflmljneelaaW.PrintMore
open Pm (Fr Rg Row thereB pendAt WFD) 
open Lk (Tbl takeR leaveR ownerV Only)
set_option linter.unusedSimpArgs false
set_option linter.unusedVariables false
def Z8 : List Int := List.replicate 8 0
def sA : SS := ⟨Z8, Z8, fun _ => none, [-1], 0, 0⟩
def A2 (i : Nat) : AskN := if i = 0 then ⟨0, 3, 7⟩ else ⟨1, 3, 0⟩
def sB : SS := storeS 8 3 7 sA
structure One (w : World) (B : Nat) (l : Loc) (ab rb eb gl gc : Nat) (v : Value) (T : List Int) (over : Bool) (av : Value) (U : List Int) (s : SS) : Prop where
  run : RunI w l B rb eb gl gc (some ⟨ab, 0, none⟩) 2 2 0 A2 v T over av U
  sh : Sh w l s
  asks : w.heap[ab]? = some (.cells #[.int .u8 0, .int .i64 3, .int .u64 7, .int .u8 1, .int .i64 3, .int .u64 0] 51 (0, 0))
  low : (∀ b, l.X b → B ≤ b) ∧ B ≤ eb ∧ B ≤ rb ∧ B ≤ w.heap.size
  N : l.N = 8
section
variable {w : World} {B : Nat} {l : Loc} {ab rb eb gl gc : Nat} {v : Value} {T : List Int} {over : Bool} {av : Value} {U : List Int} {s : SS}
theorem One.apart (h : One w B l ab rb eb gl gc v T over av U s) : ¬ StX l eb v ab := by
  obtain ⟨i, left, hE⟩ := h.run.rn.en
  rintro (e | e | e)
  · exact h.sh.apart h.asks (by decide) (by decide) (by decide) (by decide) (by decide) e
  · exact type_ne h.asks hE.tp (by decide) e
  · obtain ⟨_, _, c, hc⟩ := hE.own.lt e
    exact type_ne h.asks hc (by decide) rfl
theorem One.askM (h : One w B l ab rb eb gl gc v T over av U s) : AskM w (StX l eb v) (some ⟨ab, 0, none⟩) 2 A2 := by
  refine ⟨fun i hi => ⟨_, rfl, blk_lt h.asks, h.apart, ?_⟩, fun i hi => ?_⟩
  · rcases (by omega : i = 0 ∨ i = 1) with rfl | rfl
    · exact ⟨(blk_cell h.asks 0).trans rfl, (blk_cell h.asks 1).trans rfl, (blk_cell h.asks 2).trans rfl⟩
    · exact ⟨(blk_cell h.asks 3).trans rfl, (blk_cell h.asks 4).trans rfl, (blk_cell h.asks 5).trans rfl⟩
  · rcases (by omega : i = 0 ∨ i = 1) with rfl | rfl <;> exact ⟨by decide, by decide⟩
theorem One.bel {w' : World} (h : One w B l ab rb eb gl gc v T over av U s) (hb : Below w.heap.size w w') : One w' B l ab rb eb gl gc v T over av U s :=
  ⟨⟨h.run.rn.below hb, h.run.le, h.run.yes, h.run.no, h.run.two⟩, h.sh.below hb, blk_below h.asks hb, ⟨h.low.1, h.low.2.1, h.low.2.2.1, Nat.le_trans h.low.2.2.2 hb.size⟩, h.N⟩
theorem one_step (h : One w B l ab rb eb gl gc v T over av U s) (hn : s.n ≤ 1000) (hc : 0 ≤ s.c ∧ s.c ≤ 1000) : Calls Try.prog 11 #[.pointer (some ⟨rb, 0, none⟩)] w fun e w' =>
    e = .returned (.int .i64 (resR 8 0 A2 T s 2)) ∧ (∃ v' T' s' over' av' U', Turn w.heap.size l 2 0 A2 v T s v' T' s' over' ∧ One w' B l ab rb eb gl gc v' T' over' av' U' s') ∧ Below B w w' := by
  refine (step_run w h.run h.sh h.low.2.2.2 h.askM (by omega) hn hc).mono ?_
  rintro e w' ⟨rfl, ⟨v', T', s', over', av', U', h1, h2, h3, _⟩, hF⟩
  obtain ⟨i, left, hE⟩ := h.run.rn.en
  have lowX : ∀ b, RnX l eb v rb b → B ≤ b := by
    rintro b ((e | e | e) | e)
    · exact h.low.1 b e
    · rw [e]; exact h.low.2.1
    · exact (hE.own.lt e).1
    · rw [e]; exact h.low.2.2.1
  refine ⟨by rw [h.N], ⟨v', T', s', over', av', U', h1, ⟨h3, h2, hF.keeps h.asks ?_, ⟨h.low.1, h.low.2.1, h.low.2.2.1, Nat.le_trans h.low.2.2.2 hF.size⟩, h.N⟩⟩, hF.below lowX h.low.2.2.2⟩
  rintro (e | e)
  · exact h.apart e
  · exact type_ne h.asks h.run.rn.tp (by decide) e
end
variable {w : World} {B : Nat} {l : Loc} {ab rb eb gl gc : Nat}
theorem one1 (h : One w B l ab rb eb gl gc (.slice none 0 0) [] false (.slice none 0 0) [] sA) : Calls Try.prog 11 #[.pointer (some ⟨rb, 0, none⟩)] w fun e w' =>
    e = .returned (.int .i64 0) ∧ (∃ v y, One w' B l ab rb eb gl gc v [y] false (.slice none 0 0) [] sB) ∧ Below B w w' := by
  refine (one_step h (by decide) ⟨by decide, by decide⟩).mono ?_
  rintro e w' ⟨rfl, ⟨v', T', s', over', av', U', ht, hO⟩, hb⟩
  refine ⟨rfl, ?_, hb⟩
  rcases ht with ⟨e, _⟩ | ⟨_, e, _⟩ | ⟨_, e, ⟨y, g, cap, _, rfl, rfl, _⟩, e2⟩
  · cases e
  · rw [h.N] at e; cases e
  · rw [h.N] at e
    cases e
    cases over'
    · obtain ⟨rfl, rfl⟩ := hO.run.no rfl
      exact ⟨_, y, hO⟩
    · have := e2.1 rfl
      cases this
theorem one2 {v : Value} {y : Int} (h : One w B l ab rb eb gl gc v [y] false (.slice none 0 0) [] sB) : Calls Try.prog 11 #[.pointer (some ⟨rb, 0, none⟩)] w fun e w' =>
    e = .returned (.int .i64 0) ∧ (∃ v av, One w' B l ab rb eb gl gc v [y, 7] true av [7] sB) ∧ Below B w w' := by
  refine (one_step h (by decide) ⟨by decide, by decide⟩).mono ?_
  rintro e w' ⟨rfl, ⟨v', T', s', over', av', U', ht, hO⟩, hb⟩
  refine ⟨rfl, ?_, hb⟩
  rcases ht with ⟨e, _⟩ | ⟨_, e, _⟩ | ⟨_, e, ⟨y2, g, cap, hy, rfl, rfl, _⟩, e2⟩
  · cases e
  · rw [h.N] at e; cases e
  · rw [h.N] at e hy
    cases e
    have h7 : y2 = 7 := hy
    subst h7
    have := e2.2 rfl
    subst this
    obtain ⟨_, hU⟩ := hO.run.yes rfl
    have hU2 : U' = [7] := hU
    subst hU2
    exact ⟨_, _, hO⟩
theorem one3 {v av : Value} {y : Int} (h : One w B l ab rb eb gl gc v [y, 7] true av [7] sB) : Calls Try.prog 11 #[.pointer (some ⟨rb, 0, none⟩)] w fun e w' =>
    e = .returned (.int .i64 2) ∧ (∃ v av, One w' B l ab rb eb gl gc v [y, 7] true av [7] sB) ∧ Below B w w' := by
  refine (one_step h (by decide) ⟨by decide, by decide⟩).mono ?_
  rintro e w' ⟨rfl, ⟨v', T', s', over', av', U', ht, hO⟩, hb⟩
  refine ⟨rfl, ?_, hb⟩
  rcases ht with ⟨_, rfl, rfl, rfl, rfl⟩ | ⟨e, _⟩ | ⟨e, _⟩
  · obtain ⟨_, hU⟩ := hO.run.yes rfl
    have hU2 : U' = [7] := hU
    subst hU2
    exact ⟨_, _, hO⟩
  · exact absurd e (by simp)
  · exact absurd e (by simp)
theorem one4 {v av : Value} {y : Int} (h : One w B l ab rb eb gl gc v [y, 7] true av [7] sB) : Calls Try.prog 17 #[.pointer (some ⟨rb, 0, none⟩)] w fun e w' =>
    ∃ g c, e = .returned (.slice (some ⟨g, 0, none⟩) 1 c) ∧ w' = w ∧ w.cell? ⟨g, 0, none⟩ = some (.int .u64 7) := by
  refine (answer_calls w h.run.rn).mono ?_
  rintro e w' ⟨rfl, hw⟩
  obtain ⟨g, c, e, _, _, hc⟩ := h.run.rn.aw.some (by decide)
  exact ⟨g, c, by rw [e]; rfl, hw, hc 0 (by decide)⟩
end Go.Proofs.Ytmolflmljneelaa.En
