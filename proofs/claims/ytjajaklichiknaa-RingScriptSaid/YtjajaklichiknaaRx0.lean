/- Proved: ranged (f35), what holds between its rounds. -/
import Derived.Test.YtjajaklichiknaaItK
import Derived.Test.YtjajaklichiknaaRw
namespace Go.Proofs.Ytjajaklichiknaa.Rg
open Go.RowKit Go.Proofs.YtjajaklichiknaaW.PrintWords Go.Proofs.YtjajaklichiknaaW.PrintLast Go.Proofs.YtjajaklichiknaaW.PrintMore
set_option linter.unusedVariables false
set_option linter.unusedSimpArgs false

theorem Only.cell {w w' : World} {T : Nat → Prop} (h : Only w w' T) {a : Addr} {v : Value} (hn : ¬ T a.block) (hc : w.cell? a = some v) : w'.cell? a = some v := by
  have hb := World.block_lt_of_cell? w _ hc
  unfold World.cell? at hc ⊢
  rw [h.block _ hb hn]
  exact hc
theorem Only.frz {w w' : World} {T : Nat → Prop} (h : Only w w' T) {a : Addr} {v : Value} (hn : ¬ T a.block) (hc : w.cell? a = some v) : w'.frozen? a = w.frozen? a := by
  have hb := World.block_lt_of_cell? w _ hc
  unfold World.frozen?
  rw [h.block _ hb hn]
/-- What a turn's steps touch: the blocks of T and the document's; its blocks then. -/
structure Tr (W w : World) (T S S' : Nat → Prop) : Prop where
  only : Only W w (fun k => T k ∨ S k)
  new : ∀ k, S' k → S k ∨ W.heap.size ≤ k
theorem Tr.refl (W : World) (T S : Nat → Prop) : Tr W W T S S := ⟨Only.refl _ _, fun k h => .inl h⟩
theorem Tr.ring {W w w' : World} {T S S' : Nat → Prop} (h : Tr W w T S S') (k : Only w w' T) : Tr W w' T S S' := ⟨h.only.then (k.mono fun _ q => .inl q), h.new⟩
theorem Tr.drawn {W w w' : World} {T S S' : Nat → Prop} (h : Tr W w T S S') (k : Drawn0 w w') : Tr W w' T S S' := ⟨h.only.drawn k, h.new⟩
theorem Tr.below {W w w' : World} {T S S' : Nat → Prop} (h : Tr W w T S S') (k : Below w.heap.size w w') : Tr W w' T S S' := ⟨h.only.then (.of_below k _), h.new⟩
theorem Tr.drew {W w : World} {T S S' : Nat → Prop} (h : Tr W w T S S') : Tr W w.drew T S S' := ⟨h.only.drew, h.new⟩
theorem Tr.doc {W w w' : World} {T S S' S'' : Nat → Prop} (h : Tr W w T S S') (k : Only w w' S') (hn : ∀ k, S'' k → S' k ∨ w.heap.size ≤ k) : Tr W w' T S S'' := by
  refine ⟨⟨k.os.trans h.only.os, k.tape.trans h.only.tape, k.output.trans h.only.output, Nat.le_trans h.only.size k.size, fun j hj hs => ?_⟩, fun j hj => ?_⟩
  · refine (k.block j (Nat.lt_of_lt_of_le hj h.only.size) fun e => ?_).trans (h.only.block j hj hs)
    rcases h.new j e with h1 | h1
    · exact hs (.inr h1)
    · omega
  · rcases hn j hj with h1 | h1
    · exact h.new j h1
    · exact .inr (Nat.le_trans h.only.size h1)
/-- The list behind k rounds. -/
def rot (q : List Int) (k : Nat) : List Int := q.drop k ++ (q.take k).map (fun x => wrap64 (x + 1))
theorem rot_zero (q : List Int) : rot q 0 = q := by simp [rot]
theorem rot_len (q : List Int) (k : Nat) (h : k ≤ q.length) : (rot q k).length = q.length := by
  unfold rot
  rw [List.length_append, List.length_drop, List.length_map, List.length_take]
  omega
theorem rot_step (q : List Int) (k : Nat) (h : k < q.length) : ∃ r, rot q k = q.getD k 0 :: r ∧ r ++ [wrap64 (q.getD k 0 + 1)] = rot q (k + 1) ∧ r.length < q.length := by
  refine ⟨q.drop (k + 1) ++ (q.take k).map (fun x => wrap64 (x + 1)), ?_, ?_, ?_⟩
  · unfold rot
    rw [drop_cons q k h]
    rfl
  · unfold rot
    rw [← take_snoc q k h, List.map_append, List.append_assoc]
    rfl
  · rw [List.length_append, List.length_drop, List.length_map, List.length_take]
    omega
/-- Both rings hold the list qq; n tells m. -/
structure J3 (W0 : World) (bn B g gt gd n : Nat) (S0 : Nat → Prop) (m : Int) (qq : List Int) (W : World) : Prop where
  only : Only W0 W (fun k => k = bn ∨ k = g ∨ k = gt ∨ S0 k)
  cn : W.heap[bn]? = some (.cells #[.int .i64 m] 3 (0, 0))
  rq : RQ W g gt n qq
  rd : ∃ S, RD W B gd n S qq ∧ ∀ k, S k → S0 k ∨ W0.heap.size ≤ k
theorem RD.isCells {w : World} {B gd s : Nat} {S : Nat → Prop} {q : List Int} (h : RD w B gd s S q) {k : Nat} (hk : S k) : ∃ o, w.heap[k]? = some o ∧ o.isCells = true := by
  obtain ⟨v, h1, h2, h3, h4, h5, rfl⟩ := h.ex
  rcases hk with rfl | hk
  · exact ⟨_, h1, rfl⟩
  · rcases h2 with ⟨rfl, _⟩ | ⟨g, o, cap, cur, rfl, hb, hg, _⟩
    · cases hk
    · cases hk
      exact ⟨_, hg, rfl⟩
theorem J3.grown {W0 : World} {bn B g gt gd n : Nat} {S0 : Nat → Prop} {m : Int} {qq : List Int} {W W' : World} {row : Option Nat} (h : J3 W0 bn B g gt gd n S0 m qq W) (hg : W.grownBy W' row) (hr : ∀ r, row = some r → W0.heap.size ≤ r ∧ ∃ o : Obj, W.heap[r]? = some o ∧ o.isCells = false) : J3 W0 bn B g gt gd n S0 m qq W' := by
  have hO : Only W W' (fun k => row = some k) := ⟨hg.os, hg.tape, hg.output, hg.size, fun k hk hn => hg.block k hk (fun e => hn e.symm)⟩
  have hc : ∀ k o, W.heap[k]? = some o → o.isCells = true → ¬ row = some k := fun k o hk ho e => by
    obtain ⟨_, o', ho', hc'⟩ := hr k e
    rw [hk] at ho'
    injection ho' with e
    rw [e, hc'] at ho
    cases ho
  obtain ⟨S, hrd, hS⟩ := h.rd
  refine ⟨⟨hO.os.trans h.only.os, hO.tape.trans h.only.tape, hO.output.trans h.only.output, Nat.le_trans h.only.size hO.size, fun k hk hn => ?_⟩, hO.blk h.cn (hc _ _ h.cn rfl), ?_, S, hrd.only hO (fun k hk => let ⟨o, h1, h2⟩ := hrd.isCells hk; hc k o h1 h2), hS⟩
  · exact (hO.block k (Nat.lt_of_lt_of_le hk h.only.size) (fun e => Nat.lt_irrefl _ (Nat.lt_of_lt_of_le hk (hr k e).1))).trans (h.only.block k hk hn)
  · obtain ⟨xs, f, hC, hq⟩ := h.rq
    exact ⟨xs, f, hC.only hO (hc _ _ hC.hg rfl) (hc _ _ hC.ht rfl), hq⟩
abbrev I3 (W0 : World) (bn B g gt gd n : Nat) (S0 : Nat → Prop) (q : List Int) (pre : List (Int × Int)) (W : World) : Prop := (pre = (en q).take pre.length ∧ pre.length ≤ q.length) ∧ J3 W0 bn B g gt gd n S0 (pre.length : Int) (rot q pre.length) W
abbrev X3 (W0 : World) (bn B g gt gd n : Nat) (S0 : Nat → Prop) (q : List Int) (stop : Int) (c : Code) (pre : List (Int × Int)) (W : World) : Prop := (c = .ret ∧ ¬ pre <+: en q) ∨ (c = .exit 0 ∧ ∃ qq, J3 W0 bn B g gt gd n S0 stop qq W)
theorem I3.own {W0 : World} {bn B g gt gd n : Nat} {S0 : Nat → Prop} {q : List Int} : OwnFrom W0.heap.size (I3 W0 bn B g gt gd n S0 q) := fun s W W' row hs hg hr => ⟨hs.1, hs.2.grown hg hr⟩
theorem X3.own {W0 : World} {bn B g gt gd n : Nat} {S0 : Nat → Prop} {q : List Int} {stop : Int} (c : Code) : OwnFrom W0.heap.size (X3 W0 bn B g gt gd n S0 q stop c) := fun s W W' row hs hg hr => hs.imp id (fun ⟨e, qq, h⟩ => ⟨e, qq, h.grown hg hr⟩)
/-- The variables' places. -/
structure Bx (w : World) (br bd bt bs bw g gd : Nat) (stop : Int) (vw : Value) : Prop where
  cr : w.heap[br]? = some (.cells #[.pointer (some ⟨g, 0, none⟩)] 24 (0, 0))
  cd : w.heap[bd]? = some (.cells #[.pointer (some ⟨gd, 0, none⟩)] 53 (0, 0))
  ct : w.heap[bt]? = some (.cells #[.int .i64 stop] 3 (0, 0))
  cs : w.heap[bs]? = some (.cells #[.bool false] 4 (0, 0))
  cw : w.heap[bw]? = some (.cells #[vw] 22 (0, 0))
theorem Bx.only {w w' : World} {T : Nat → Prop} {br bd bt bs bw g gd : Nat} {stop : Int} {vw : Value} (h : Bx w br bd bt bs bw g gd stop vw) (hO : Only w w' T) (hT : ∀ k, (k = br ∨ k = bd ∨ k = bt ∨ k = bs ∨ k = bw) → ¬ T k) : Bx w' br bd bt bs bw g gd stop vw :=
  ⟨hO.blk h.cr (hT _ (.inl rfl)), hO.blk h.cd (hT _ (.inr (.inl rfl))), hO.blk h.ct (hT _ (.inr (.inr (.inl rfl)))), hO.blk h.cs (hT _ (.inr (.inr (.inr (.inl rfl))))), hO.blk h.cw (hT _ (.inr (.inr (.inr (.inr rfl)))))⟩
theorem Bx.below {w w' : World} {br bd bt bs bw g gd : Nat} {stop : Int} {vw : Value} (h : Bx w br bd bt bs bw g gd stop vw) (hb : Below w.heap.size w w') : Bx w' br bd bt bs bw g gd stop vw := h.only (.of_below hb (fun _ => False)) (fun _ _ q => q)
/-- A round is done. -/
theorem J3.step {W0 W W1 W2 : World} {bn B g gt gd n : Nat} {S0 S S' : Nat → Prop} {m m' : Int} {qq qq' : List Int} (h : J3 W0 bn B g gt gd n S0 m qq W) (hrd : RD W B gd n S qq) (hS : ∀ k, S k → S0 k ∨ W0.heap.size ≤ k) (hO : Only W W1 (fun k => k = bn)) (hcn : W1.heap[bn]? = some (.cells #[.int .i64 m'] 3 (0, 0)))
    (ht : Tr W1 W2 (fun k => k = g ∨ k = gt) S S') (hbg : bn ≠ g ∧ bn ≠ gt ∧ ¬ S bn) (hlt : bn < W0.heap.size ∧ g < W0.heap.size ∧ gt < W0.heap.size ∧ gd < W0.heap.size) (hq : RQ W2 g gt n qq') (hd : RD W2 B gd n S' qq') :
    J3 W0 bn B g gt gd n S0 m' qq' W2 ∧ KeepsFrom W0.heap.size W W2 ∧ KpD W0.heap.size gd W W2 := by
  have hO2 : Only W W2 (fun k => k = bn ∨ k = g ∨ k = gt ∨ S k) := (hO.mono (fun k e => .inl e)).then (ht.only.mono (fun k e => .inr (by rcases e with (e | e) | e <;> simp [e])))
  have hO3 : Only W0 W2 (fun k => k = bn ∨ k = g ∨ k = gt ∨ S0 k) := by
    refine ⟨hO2.os.trans h.only.os, hO2.tape.trans h.only.tape, hO2.output.trans h.only.output, Nat.le_trans h.only.size hO2.size, fun k hk hn => ?_⟩
    refine (hO2.block k (Nat.lt_of_lt_of_le hk h.only.size) fun e => ?_).trans (h.only.block k hk hn)
    rcases e with e | e | e | e
    · exact hn (.inl e)
    · exact hn (.inr (.inl e))
    · exact hn (.inr (.inr (.inl e)))
    · rcases hS k e with h1 | h1
      · exact hn (.inr (.inr (.inr h1)))
      · omega
  have hs1 := hO.size
  have hs0 := h.only.size
  refine ⟨⟨hO3, ht.only.blk hcn (fun e => ?_), hq, S', hd, fun k hk => ?_⟩, ⟨hO2.size, fun k o hB hk hc => hO2.blk hk fun e => ?_⟩, kpd_step hrd hd hO2 (fun k e => ?_) hlt.2.2.2 (fun k hk => (ht.new k hk).imp id (fun h1 => by omega))⟩
  · rcases e with (e | e) | e
    · exact hbg.1 e
    · exact hbg.2.1 e
    · exact hbg.2.2 e
  · rcases ht.new k hk with h1 | h1
    · exact hS k h1
    · exact .inr (by omega)
  · rcases e with e | e | e | e
    · omega
    · omega
    · omega
    · obtain ⟨o', ho', hc'⟩ := hrd.isCells e
      rw [hk] at ho'
      injection ho' with e'
      rw [e', hc'] at hc
      cases hc
  · rcases e with e | e | e | e
    · exact .inl (by omega)
    · exact .inl (by omega)
    · exact .inl (by omega)
    · exact .inr e
end Go.Proofs.Ytjajaklichiknaa.Rg
