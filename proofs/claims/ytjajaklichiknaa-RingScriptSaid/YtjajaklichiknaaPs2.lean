/- Proved: what holds of a play: two rings, the document's, what was told. -/
import Derived.Test.YtjajaklichiknaaPs1
namespace Go.Proofs.Ytjajaklichiknaa.Rg
open Go.RowKit Go.Proofs.YtjajaklichiknaaW.PrintWords Go.Proofs.YtjajaklichiknaaW.PrintLast Go.Proofs.YtjajaklichiknaaW.PrintMore
set_option linter.unusedVariables false
set_option linter.unusedSimpArgs false

theorem own_lt' {w : World} {base n size : Nat} {e : TypeId} {v : Value} {xs : List Value} (h : w.ownsRow base e size v n xs) : ∀ k, v.ownBlock = some k → base ≤ k ∧ k < w.heap.size := by
  intro k hk
  rcases h.2 with ⟨rfl, _⟩ | ⟨g, cap, cur, rfl, hb, hg, _⟩
  · cases hk
  · cases hk
    exact ⟨hb, blk_lt hg⟩
theorem own_weak {w : World} {base b n size : Nat} {e : TypeId} {v : Value} {xs : List Value} (h : w.ownsRow base e size v n xs) (hb : b ≤ base) : w.ownsRow b e size v n xs :=
  ⟨h.1, h.2.imp id fun ⟨g, cap, cur, h1, h2, h3⟩ => ⟨g, cap, cur, h1, Nat.le_trans hb h2, h3⟩⟩
/-- A list that was told, in blocks of which U holds. -/
structure Rw (w : World) (B : Nat) (U : Nat → Prop) (v : Value) (l : List Int) : Prop where
  own : w.ownsRow B 3 1 v l.length (encs ei l)
  ok : ∀ k, v.ownBlock = some k → U k
theorem Rw.only {w w' : World} {B : Nat} {U U' T : Nat → Prop} {v : Value} {l : List Int} (h : Rw w B U v l) (hO : Only w w' T) (hT : ∀ k, U k → k < w.heap.size → ¬ T k ∧ U' k) : Rw w' B U' v l :=
  ⟨hO.own h.own (fun k hk => (hT k (h.ok k hk) (own_lt' h.own k hk).2).1), fun k hk => (hT k (h.ok k hk) (own_lt' h.own k hk).2).2⟩
/-- Blocks that the rings don't hold. -/
def Fr (Z0 Z1 : Nat → Prop) (p k : Nat) : Prop := ¬ Z0 k ∧ ¬ Z1 k ∧ k ≠ p
structure Pq (w0 w : World) (p g0 g1 d0 d1 : Nat) (Z0 Z1 : Nat → Prop) (vt vw : Value) (mt mw : Nat) (lt lw : List Value) : Prop where
  cp : w.heap[p]? = some (.cells #[.pointer (some ⟨g0, 0, none⟩), .pointer (some ⟨g1, 0, none⟩), .pointer (some ⟨d0, 0, none⟩), .pointer (some ⟨d1, 0, none⟩), vt, vw] 57 (0, 0))
  p0 : Pair w w0.heap.size g0 d0 Z0
  p1 : Pair w w0.heap.size g1 d1 Z1
  ap : ∀ k, Z0 k → ¬ Z1 k
  pz : ¬ Z0 p ∧ ¬ Z1 p ∧ w0.heap.size ≤ p
  ot : w.ownsRow w0.heap.size 22 1 vt mt lt
  ow : w.ownsRow w0.heap.size 22 1 vw mw lw
  sep : ∀ k, vt.ownBlock = some k → vw.ownBlock ≠ some k
  ft : ∀ k, vt.ownBlock = some k → Fr Z0 Z1 p k
  fw : ∀ k, vw.ownBlock = some k → Fr Z0 Z1 p k
  rows : mw ≤ mt ∧ ∀ i, i < mw → ∃ l, Rw w w0.heap.size (Fr Z0 Z1 p) (lt.getD i undef) l ∧ Rw w w0.heap.size (Fr Z0 Z1 p) (lw.getD i undef) l
  bel : Below w0.heap.size w0 w
section
variable {w0 w w' : World} {p g0 g1 d0 d1 : Nat} {Z0 Z1 Z0' Z1' : Nat → Prop} {vt vw : Value} {mt mw : Nat} {lt lw : List Value}
theorem Pq.gen {T : Nat → Prop} (h : Pq w0 w p g0 g1 d0 d1 Z0 Z1 vt vw mt mw lt lw) (hO : Only w w' T) (hT : ∀ k, T k → Z0 k ∨ Z1 k) (h0 : Pair w' w0.heap.size g0 d0 Z0') (h1 : Pair w' w0.heap.size g1 d1 Z1') (n0 : ∀ k, Z0' k → Z0 k ∨ w.heap.size ≤ k) (n1 : ∀ k, Z1' k → Z1 k ∨ w.heap.size ≤ k) (ap : ∀ k, Z0' k → ¬ Z1' k) : Pq w0 w' p g0 g1 d0 d1 Z0' Z1' vt vw mt mw lt lw := by
  have hF : ∀ k, Fr Z0 Z1 p k → k < w.heap.size → ¬ T k ∧ Fr Z0' Z1' p k := fun k hk hl =>
    ⟨fun e => (hT k e).elim hk.1 hk.2.1, fun e => (n0 k e).elim hk.1 (fun e => by omega), fun e => (n1 k e).elim hk.2.1 (fun e => by omega), hk.2.2⟩
  have hpl := blk_lt h.cp
  have hpT : ¬ T p := fun e => (hT p e).elim h.pz.1 h.pz.2.1
  refine ⟨hO.blk h.cp hpT, h0, h1, ap, ⟨fun e => (n0 p e).elim h.pz.1 (fun e => by omega), fun e => (n1 p e).elim h.pz.2.1 (fun e => by omega), h.pz.2.2⟩, hO.own h.ot (fun k hk => (hF k (h.ft k hk) (own_lt' h.ot k hk).2).1), hO.own h.ow (fun k hk => (hF k (h.fw k hk) (own_lt' h.ow k hk).2).1), h.sep,
    fun k hk => (hF k (h.ft k hk) (own_lt' h.ot k hk).2).2, fun k hk => (hF k (h.fw k hk) (own_lt' h.ow k hk).2).2, ⟨h.rows.1, fun i hi => ?_⟩, hO.below h.bel h.bel.size (fun k e => (hT k e).elim (fun e => (h.p0.lt k e).1) (fun e => (h.p1.lt k e).1))⟩
  obtain ⟨l, a, b⟩ := h.rows.2 i hi
  exact ⟨l, a.only hO hF, b.only hO hF⟩
theorem Pq.ring0 (h : Pq w0 w p g0 g1 d0 d1 Z0 Z1 vt vw mt mw lt lw) (h0 : Pair w' w0.heap.size g0 d0 Z0') (hn : Nx w w' Z0 Z0') : Pq w0 w' p g0 g1 d0 d1 Z0' Z1 vt vw mt mw lt lw :=
  h.gen hn.only (fun k e => .inl e) h0 (h.p1.only hn.only (fun k e e' => h.ap k e' e)) hn.new (fun k e => .inl e) (fun k e e' => (hn.new k e).elim (fun e => h.ap k e e') (fun e => by have := (h.p1.lt k e').2; omega))
theorem Pq.ring1 (h : Pq w0 w p g0 g1 d0 d1 Z0 Z1 vt vw mt mw lt lw) (h1 : Pair w' w0.heap.size g1 d1 Z1') (hn : Nx w w' Z1 Z1') : Pq w0 w' p g0 g1 d0 d1 Z0 Z1' vt vw mt mw lt lw :=
  h.gen hn.only (fun k e => .inr e) (h.p0.only hn.only (fun k e e' => h.ap k e e')) h1 (fun k e => .inl e) hn.new (fun k e e' => (hn.new k e').elim (fun e' => h.ap k e e') (fun e' => by have := (h.p0.lt k e).2; omega))
theorem Pq.below (h : Pq w0 w p g0 g1 d0 d1 Z0 Z1 vt vw mt mw lt lw) (hb : Below w.heap.size w w') : Pq w0 w' p g0 g1 d0 d1 Z0 Z1 vt vw mt mw lt lw :=
  h.gen (Only.of_below hb (fun _ => False)) (fun _ q => q.elim) (h.p0.below hb) (h.p1.below hb) (fun k e => .inl e) (fun k e => .inl e) h.ap
/-- Where another ring is laid at place 0. -/
theorem Pq.new0 {g d : Nat} {Z : Nat → Prop} (h : Pq w0 w p g0 g1 d0 d1 Z0 Z1 vt vw mt mw lt lw) (hp : Pair w' w.heap.size g d Z) (hc : w'.heap[p]? = some (.cells #[.pointer (some ⟨g, 0, none⟩), .pointer (some ⟨g1, 0, none⟩), .pointer (some ⟨d, 0, none⟩), .pointer (some ⟨d1, 0, none⟩), vt, vw] 57 (0, 0))) (hO : Only w w' (fun k => k = p)) : Pq w0 w' p g g1 d d1 Z Z1 vt vw mt mw lt lw := by
  have hpl := blk_lt h.cp
  have hF : ∀ k, Fr Z0 Z1 p k → k < w.heap.size → ¬ k = p ∧ Fr Z Z1 p k := fun k hk hl => ⟨hk.2.2, fun e => by have := (hp.lt k e).1; omega, hk.2.1, hk.2.2⟩
  have hs := h.bel.size
  obtain ⟨gt, n, S, q, hq, hd, hS, hB, rfl⟩ := hp.ex
  refine ⟨hc, ⟨gt, n, S, q, hq, hd.base hs, hS, ⟨by omega, by omega⟩, rfl⟩, h.p1.only hO (fun k e e' => h.pz.2.1 (e' ▸ e)), fun k e e' => by have := (hp.lt k e).1; have := (h.p1.lt k e').2; omega, ⟨fun e => by have := (hp.lt p e).1; omega, h.pz.2⟩, hO.own h.ot (fun k hk => (hF k (h.ft k hk) (own_lt' h.ot k hk).2).1), hO.own h.ow (fun k hk => (hF k (h.fw k hk) (own_lt' h.ow k hk).2).1), h.sep,
    fun k hk => (hF k (h.ft k hk) (own_lt' h.ot k hk).2).2, fun k hk => (hF k (h.fw k hk) (own_lt' h.ow k hk).2).2, ⟨h.rows.1, fun i hi => ?_⟩, hO.below h.bel h.bel.size (fun k e => e ▸ h.pz.2.2)⟩
  obtain ⟨l, a, b⟩ := h.rows.2 i hi
  exact ⟨l, a.only hO hF, b.only hO hF⟩
theorem Pq.new1 {g d : Nat} {Z : Nat → Prop} (h : Pq w0 w p g0 g1 d0 d1 Z0 Z1 vt vw mt mw lt lw) (hp : Pair w' w.heap.size g d Z) (hc : w'.heap[p]? = some (.cells #[.pointer (some ⟨g0, 0, none⟩), .pointer (some ⟨g, 0, none⟩), .pointer (some ⟨d0, 0, none⟩), .pointer (some ⟨d, 0, none⟩), vt, vw] 57 (0, 0))) (hO : Only w w' (fun k => k = p)) : Pq w0 w' p g0 g d0 d Z0 Z vt vw mt mw lt lw := by
  have hpl := blk_lt h.cp
  have hF : ∀ k, Fr Z0 Z1 p k → k < w.heap.size → ¬ k = p ∧ Fr Z0 Z p k := fun k hk hl => ⟨hk.2.2, hk.1, fun e => by have := (hp.lt k e).1; omega, hk.2.2⟩
  have hs := h.bel.size
  obtain ⟨gt, n, S, q, hq, hd, hS, hB, rfl⟩ := hp.ex
  refine ⟨hc, h.p0.only hO (fun k e e' => h.pz.1 (e' ▸ e)), ⟨gt, n, S, q, hq, hd.base hs, hS, ⟨by omega, by omega⟩, rfl⟩, fun k e e' => by have := (hp.lt k e').1; have := (h.p0.lt k e).2; omega, ⟨h.pz.1, fun e => by have := (hp.lt p e).1; omega, h.pz.2.2⟩, hO.own h.ot (fun k hk => (hF k (h.ft k hk) (own_lt' h.ot k hk).2).1), hO.own h.ow (fun k hk => (hF k (h.fw k hk) (own_lt' h.ow k hk).2).1), h.sep,
    fun k hk => (hF k (h.ft k hk) (own_lt' h.ot k hk).2).2, fun k hk => (hF k (h.fw k hk) (own_lt' h.ow k hk).2).2, ⟨h.rows.1, fun i hi => ?_⟩, hO.below h.bel h.bel.size (fun k e => e ▸ h.pz.2.2)⟩
  obtain ⟨l, a, b⟩ := h.rows.2 i hi
  exact ⟨l, a.only hO hF, b.only hO hF⟩
/-- What an append to a list of lists touches, then a store into the play. -/
def Tp (v : Value) (p k : Nat) : Prop := v.ownBlock = some k ∨ k = p
theorem tp_only {w1 : World} {v v1 : Value} {j : Nat} (hg : w.grownBy w1 v.ownBlock) : Only w (w1.setCell ⟨p, j, none⟩ v1) (Tp v p) :=
  Only.set ⟨hg.os, hg.tape, hg.output, hg.size, fun k hk hn => hg.block k hk (fun e => hn (.inl e.symm))⟩ (.inr rfl)
theorem rw_tp {B n : Nat} {v y : Value} {xs : List Value} {l : List Int} {U : Nat → Prop} (hy : Rw w B U y l) (ho : w.ownsRow w0.heap.size 22 1 v n xs) (hU : ∀ k, U k → k ≠ p) (hO : Only w w' (Tp v p)) : Rw w' B U y l :=
  ⟨hO.own hy.own (fun k hk e => e.elim (fun e => (own_type_ne hy.own ho (by decide)).elim (fun e1 => by rw [hk] at e1; cases e1) (fun e1 => e1 (by rw [e, hk]))) (fun e => hU k (hy.ok k hk) e)), hy.ok⟩
theorem getD_app (l : List Value) (y : Value) {i : Nat} (h : i < l.length) : (l ++ [y]).getD i undef = l.getD i undef := by
  rw [List.getD_eq_getElem?_getD, List.getD_eq_getElem?_getD, List.getElem?_append_left h]
theorem getD_app' (l : List Value) (y : Value) {i : Nat} (h : i = l.length) : (l ++ [y]).getD i undef = y := by
  subst h
  simp [List.getD_eq_getElem?_getD]
theorem Pq.told {w1 : World} {v1 y : Value} (h : Pq w0 w p g0 g1 d0 d1 Z0 Z1 vt vw mt mw lt lw) (ho : w1.ownsRow w0.heap.size 22 1 v1 (mt + 1) (lt ++ [y])) (hB : Below w0.heap.size w0 w1) (hg : w.grownBy w1 vt.ownBlock) (hat : v1.ownBlock = vt.ownBlock ∨ ∃ b, v1.ownBlock = some b ∧ w.heap.size ≤ b) :
    Pq w0 (w1.setCell ⟨p, 4, none⟩ v1) p g0 g1 d0 d1 Z0 Z1 v1 vw (mt + 1) mw (lt ++ [y]) lw := by
  have hO := tp_only (p := p) (v1 := v1) (j := 4) hg
  have hpl := blk_lt h.cp
  have hp1 : w1.heap[p]? = _ := (hg.block p hpl (fun e => (h.ft p e.symm).2.2 rfl)).trans h.cp
  have hv1 : ∀ k, v1.ownBlock = some k → Fr Z0 Z1 p k ∧ vw.ownBlock ≠ some k := fun k hk => by
    rcases hat with e | ⟨b, e, hb⟩
    · rw [e] at hk
      exact ⟨h.ft k hk, h.sep k hk⟩
    · rw [e] at hk
      injection hk with hk
      subst hk
      exact ⟨⟨fun e => by have := (h.p0.lt b e).2; omega, fun e => by have := (h.p1.lt b e).2; omega, by omega⟩, fun e => by have := (own_lt' h.ow b e).2; omega⟩
  have hlt : lt.length = mt := by have := h.ot.1; omega
  refine ⟨by simpa using blk_set hp1 4 v1, h.p0.only hO (fun k e e' => e'.elim (fun e' => (h.ft k e').1 e) (fun e' => h.pz.1 (e' ▸ e))), h.p1.only hO (fun k e e' => e'.elim (fun e' => (h.ft k e').2.1 e) (fun e' => h.pz.2.1 (e' ▸ e))), h.ap, h.pz, ?_, hO.own h.ow (fun k hk e => e.elim (fun e => h.sep k e hk) (fun e => (h.fw k hk).2.2 e)),
    fun k hk => (hv1 k hk).2, fun k hk => (hv1 k hk).1, h.fw, ⟨Nat.le_succ_of_le h.rows.1, fun i hi => ?_⟩, hB.setCell (p := ⟨p, 4, none⟩) h.pz.2.2 _⟩
  · exact (Only.set (Only.refl w1 (fun k => k = p)) (p := ⟨p, 4, none⟩) (v := v1) rfl).own ho (fun k hk e => (hv1 k hk).1.2.2 e)
  · obtain ⟨l, a, b⟩ := h.rows.2 i hi
    refine ⟨l, ?_, rw_tp (w0 := w0) b h.ot (fun k hk => hk.2.2) hO⟩
    rw [getD_app lt y (by have := h.rows.1; omega)]
    exact rw_tp (w0 := w0) a h.ot (fun k hk => hk.2.2) hO
theorem Pq.want {w1 : World} {v1 y : Value} {l : List Int} (h : Pq w0 w p g0 g1 d0 d1 Z0 Z1 vt vw (mw + 1) mw lt lw) (ho : w1.ownsRow w0.heap.size 22 1 v1 (mw + 1) (lw ++ [y])) (hB : Below w0.heap.size w0 w1) (hg : w.grownBy w1 vw.ownBlock) (hat : v1.ownBlock = vw.ownBlock ∨ ∃ b, v1.ownBlock = some b ∧ w.heap.size ≤ b)
    (ha : Rw w w0.heap.size (Fr Z0 Z1 p) (lt.getD mw undef) l) (hb : Rw w w0.heap.size (Fr Z0 Z1 p) y l) : Pq w0 (w1.setCell ⟨p, 5, none⟩ v1) p g0 g1 d0 d1 Z0 Z1 vt v1 (mw + 1) (mw + 1) lt (lw ++ [y]) := by
  have hO := tp_only (p := p) (v1 := v1) (j := 5) hg
  have hpl := blk_lt h.cp
  have hp1 : w1.heap[p]? = _ := (hg.block p hpl (fun e => (h.fw p e.symm).2.2 rfl)).trans h.cp
  have hv1 : ∀ k, v1.ownBlock = some k → Fr Z0 Z1 p k ∧ vt.ownBlock ≠ some k := fun k hk => by
    rcases hat with e | ⟨b, e, hb⟩
    · rw [e] at hk
      exact ⟨h.fw k hk, fun e => h.sep k e hk⟩
    · rw [e] at hk
      injection hk with hk
      subst hk
      exact ⟨⟨fun e => by have := (h.p0.lt b e).2; omega, fun e => by have := (h.p1.lt b e).2; omega, by omega⟩, fun e => by have := (own_lt' h.ot b e).2; omega⟩
  have hlt : lw.length = mw := by have := h.ow.1; omega
  refine ⟨by simpa using blk_set hp1 5 v1, h.p0.only hO (fun k e e' => e'.elim (fun e' => (h.fw k e').1 e) (fun e' => h.pz.1 (e' ▸ e))), h.p1.only hO (fun k e e' => e'.elim (fun e' => (h.fw k e').2.1 e) (fun e' => h.pz.2.1 (e' ▸ e))), h.ap, h.pz, hO.own h.ot (fun k hk e => e.elim (fun e => h.sep k hk e) (fun e => (h.ft k hk).2.2 e)), ?_,
    fun k hk e => (hv1 k e).2 hk, h.ft, fun k hk => (hv1 k hk).1, ⟨Nat.le_refl _, fun i hi => ?_⟩, hB.setCell (p := ⟨p, 5, none⟩) h.pz.2.2 _⟩
  · exact (Only.set (Only.refl w1 (fun k => k = p)) (p := ⟨p, 5, none⟩) (v := v1) rfl).own ho (fun k hk e => (hv1 k hk).1.2.2 e)
  · by_cases c : i = mw
    · subst c
      rw [getD_app' lw y hlt.symm]
      exact ⟨l, rw_tp (w0 := w0) ha h.ow (fun k hk => hk.2.2) hO, rw_tp (w0 := w0) hb h.ow (fun k hk => hk.2.2) hO⟩
    · obtain ⟨l, a, b⟩ := h.rows.2 i (by omega)
      refine ⟨l, rw_tp (w0 := w0) a h.ow (fun k hk => hk.2.2) hO, ?_⟩
      rw [getD_app lw y (by omega)]
      exact rw_tp (w0 := w0) b h.ow (fun k hk => hk.2.2) hO
end
/-- Behind a step: at most M lists were told. -/
def Step (w0 w : World) (p M : Nat) : Prop := ∃ g0 g1 d0 d1 Z0 Z1 vt vw m lt lw, m ≤ M ∧ Pq w0 w p g0 g1 d0 d1 Z0 Z1 vt vw m m lt lw
section
variable {w0 w w' : World} {p g0 g1 d0 d1 : Nat} {Z0 Z1 : Nat → Prop} {vt vw : Value} {m : Nat} {lt lw : List Value}
theorem Pq.step (h : Pq w0 w p g0 g1 d0 d1 Z0 Z1 vt vw m m lt lw) {M : Nat} (hM : m ≤ M) : Step w0 w p M := ⟨g0, g1, d0, d1, Z0, Z1, vt, vw, m, lt, lw, hM, h⟩
theorem Step.below {M : Nat} (h : Step w0 w p M) (hb : Below w.heap.size w w') : Step w0 w' p M := by
  obtain ⟨g0, g1, d0, d1, Z0, Z1, vt, vw, m, lt, lw, hM, h⟩ := h
  exact (h.below hb).step hM
theorem begin_pq0 (n : Int) (h : Pq w0 w p g0 g1 d0 d1 Z0 Z1 vt vw m m lt lw) : Calls Try.prog 23 #[.pointer (some ⟨p, 0, none⟩), .int .i64 0, .int .i64 n] w fun r w' => r = .returned (.bool true) ∧ Step w0 w' p m := by
  by_cases c : n < 1 ∨ 4096 < n
  · refine (begin_bad p 0 n c).mono ?_
    rintro r w' ⟨rfl, hb⟩
    exact ⟨rfl, (h.below hb).step (Nat.le_refl _)⟩
  · obtain ⟨j, rfl⟩ : ∃ j : Nat, n = j := ⟨n.toNat, by omega⟩
    refine (begin0 (n := j) (by omega) (by omega) h.cp).mono ?_
    rintro r w' ⟨rfl, g, gd, Z, hp, hc, hO⟩
    exact ⟨rfl, (h.new0 hp hc hO).step (Nat.le_refl _)⟩
theorem begin_pq1 (n : Int) (h : Pq w0 w p g0 g1 d0 d1 Z0 Z1 vt vw m m lt lw) : Calls Try.prog 23 #[.pointer (some ⟨p, 0, none⟩), .int .i64 1, .int .i64 n] w fun r w' => r = .returned (.bool true) ∧ Step w0 w' p m := by
  by_cases c : n < 1 ∨ 4096 < n
  · refine (begin_bad p 1 n c).mono ?_
    rintro r w' ⟨rfl, hb⟩
    exact ⟨rfl, (h.below hb).step (Nat.le_refl _)⟩
  · obtain ⟨j, rfl⟩ : ∃ j : Nat, n = j := ⟨n.toNat, by omega⟩
    refine (begin1 (n := j) (by omega) (by omega) h.cp).mono ?_
    rintro r w' ⟨rfl, g, gd, Z, hp, hc, hO⟩
    exact ⟨rfl, (h.new1 hp hc hO).step (Nat.le_refl _)⟩
end
end Go.Proofs.Ytjajaklichiknaa.Rg
