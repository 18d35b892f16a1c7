/- Proved: a walk in a round of a range over a function, from a plain one; what is kept between rounds. -/
import Derived.Test.YtjajaklichiknaaAlive
import Derived.RangeFuncNested
import Derived.RangeFuncBound
import Derived.RangeFuncCalls
import Derived.RangeFuncLeaves
import Derived.Shelf.Abstract
import Derived.Shelf.RegionOpen
import Derived.WalkKit
import Derived.OwnWalkIn
import Derived.TacticsInMore
import Derived.LoopNIn
import Derived.LoopIn
import Derived.RegionIn
namespace Go.Proofs.Ytjajaklichiknaa.Rg
open Go.RowKit Go.Proofs.YtjajaklichiknaaW.PrintWords Go.Proofs.YtjajaklichiknaaW.PrintLast Go.Proofs.YtjajaklichiknaaW.PrintMore
set_option linter.unusedVariables false
set_option linter.unusedSimpArgs false

abbrev wideR (l : Nat) : Fence := Fence.wide.inRound l
section
variable {P : Program} {l n : Nat} {ops : Array Oper} {Q : Exit → Act → World → Prop}
theorem calls_inR {f : FuncId} {args : Array Value} {w : World} {R : Ending → World → Prop} (h : Calls P f args w R) : CallsIn (wideR l) n P f args w R := CallsIn.inRound l (callsIn_wide.2 h)
theorem rows_inR {row : String} {args : Array Value} {w : World} {R : Value → World → Prop} (h : Rows P row args w R) : RowsIn (wideR l) n P row args w R :=
  fun c cs _ => let ⟨v, w', r, s⟩ := h c cs; ⟨v, w', r, stepsIn_wide.2 s⟩
theorem op_inR {o : Oper} {a : Act} {w : World} {K : Act → World → Prop} (hd : ∀ c, o.op ≠ .defer c) (h : o.wp P a w K Q) : o.wpIn (wideR l) n P a w K Q := by
  refine ⟨fun _ _ => trivial, ?_⟩
  unfold Oper.wp at h
  rw [Oper.semAt_plain (wideR l) a.eval o hd]
  generalize (execOp a.eval o).run P w = r at h ⊢
  cases r with
  | ok x w' =>
    cases x with
    | value v => exact h
    | skip => exact h
    | defer d => exact h
    | enter f args => exact ⟨fun hq => by simp [Fence.wide] at hq, calls_inR h⟩
    | row row args => exact ⟨fun hq => by simp [Fence.wide] at hq, rows_inR h⟩
    | round _ _ _ _ _ => exact h.elim
    | _ => exact h.elim
  | halt x w' =>
    cases x with
    | panic v => exact h
    | _ => exact h.elim
theorem about_inR {o : Oper} {ρ : Operand → Value} {w : World} : ∀ f, o.about P w ρ = some f → (wideR l).fn f := fun _ _ => trivial
def noDefer (ops : Array Oper) : Bool := ops.all (fun o => match o.op with | .defer _ => false | _ => true)
theorem noDefer_at (h : noDefer ops = true) {i : Nat} {o : Oper} (ho : ops[i]? = some o) : ∀ c, o.op ≠ .defer c := fun c e => by
  obtain ⟨hi, he⟩ := Array.getElem?_eq_some_iff.1 ho
  have h2 := (Array.all_eq_true.1 h) i hi
  rw [he, e] at h2
  cases h2
theorem wpOp_inR {i : Nat} {a : Act} {w : World} {K : Act → World → Prop} (hd : noDefer ops = true) (hL : ¬ LetsOut Q) (h : wpOp P ops Q i K a w) : wpOpIn (wideR l) n P ops Q i K a w := by
  unfold wpOp at h
  unfold wpOpIn
  cases ho : ops[i]? with
  | none => rw [ho] at h; exact h
  | some o =>
    rw [ho] at h
    simp only at h ⊢
    split
    · rename_i hw
      rw [if_pos hw] at h
      exact op_inR (noDefer_at hd ho) (h.resolve_right (fun q => hL q.2))
    · rename_i hw
      rw [if_neg hw] at h
      exact ⟨about_inR, h⟩
theorem wpAny_inR (hd : noDefer ops = true) (hL : ¬ LetsOut Q) {md : Region.Mode} : ∀ (fuel : Nat) (listed : Array Bool) (a : Act) (w : World), wpAny P md ops Q fuel listed a w → wpAnyIn (wideR l) n P md ops Q fuel listed a w
  | 0, _, _, _, h => h
  | fuel + 1, listed, a, w, h => ⟨h.1, fun i hi => wpOpIn_mono (fun a w => wpAny_inR hd hL fuel _ a w) (wpOp_inR hd hL (h.2 i hi))⟩
/-- A region that draws its order, in a round: the plain steps serve. -/
theorem startR_ {S : World → Prop} {ds : List Nat} {id m : Nat} {a : Act} {w : World} (hd : noDefer ops = true) (hL : ¬ LetsOut Q) (l0 : Array Bool) (hm : P.follows .mixedOrders = true) (hn : ops.size = m) (hl : Array.replicate m false = l0) (hS : S w.drew)
    (h : S w.drew → wpAnyLast P .any ops Q S ds m l0 a w.drew) : (Code.region id ops true).wpIn (wideR l) n P Q a w := by
  subst hn
  subst hl
  exact wpIn_region_any hm (wpAny_inR hd hL _ _ _ _ (wpAny_of_last _ _ _ _ (h hS)))
theorem wpList_inR (hd : noDefer ops = true) (hL : ¬ LetsOut Q) : ∀ (rest : List Oper) (a : Act) (w : World), (∀ o ∈ rest, ∀ c, o.op ≠ .defer c) → wpList P ops Q rest a w → wpListIn (wideR l) n P ops Q rest a w
  | [], _, _, _, h => h
  | o :: rest, a, w, hr, h => by
    unfold wpListIn
    unfold wpList at h
    split
    · rename_i hw
      rw [if_pos hw] at h
      exact Oper.wpIn_mono (fun a w => wpList_inR hd hL rest a w (fun x hx => hr x (List.mem_cons_of_mem _ hx))) (op_inR (hr o List.mem_cons_self) (h.resolve_right (fun q => hL q.2)))
    · rename_i hw
      rw [if_neg hw] at h
      exact ⟨about_inR, wpList_inR hd hL rest _ _ (fun x hx => hr x (List.mem_cons_of_mem _ hx)) h⟩
/-- A region in its order, in a round. -/
theorem region_inR {id : Nat} {ls : List Oper} {a : Act} {w : World} (hd : noDefer ls.toArray = true) (hL : ¬ LetsOut Q) (h : wpList P ls.toArray Q ls a w) : (Code.region id ls.toArray false).wpIn (wideR l) n P Q a w :=
  wpIn_region_lit (wpList_inR hd hL ls a w (fun o ho c => by
    obtain ⟨i, hi, he⟩ := List.getElem_of_mem ho
    exact noDefer_at hd (i := i) (by simp [hi, he]) c) h)
end
/-- What a round leaves: cells that were made since the loop began stay as they are. -/
structure KpC (B : Nat) (W W' : World) : Prop where
  size : W.heap.size ≤ W'.heap.size
  cells : ∀ k o, B ≤ k → W.heap[k]? = some o → o.isCells = true → W'.heap[k]? = some o
theorem KpC.t {B : Nat} {X Y Z : World} (h : KpC B X Y) (k : KpC B Y Z) : KpC B X Z := ⟨Nat.le_trans h.size k.size, fun i o hB ho hc => k.cells i o hB (h.cells i o hB ho hc) hc⟩
theorem KpC.b {B : Nat} (W : World) (l : Nat) (o o' : Obj) (h : W.heap[l]? = some o) (hc : o.isCells = false) : KpC B W (W.putObj l o') := by
  refine ⟨by simp [World.putObj], fun k x hB hx hxc => ?_⟩
  have hne : k ≠ l := fun e => by
    subst e
    rw [h] at hx
    injection hx with hx
    rw [hx, hxc] at hc
    cases hc
  rw [World.putObj_heap_other hne]
  exact hx
/-- What touches low blocks alone keeps all the law asks. -/
theorem kpc_only {B : Nat} {W W' : World} {T : Nat → Prop} (h : Only W W' T) (hT : ∀ k, T k → k < B) : KpC B W W' := ⟨h.size, fun k o hB ho _ => h.blk ho (fun q => absurd (hT k q) (Nat.not_lt.mpr hB))⟩
theorem keeps_only {B : Nat} {W W' : World} {T : Nat → Prop} (h : Only W W' T) (hT : ∀ k, T k → k < B) : KeepsFrom B W W' := ⟨h.size, fun k o hB hk _ => h.blk hk (fun q => absurd (hT k q) (Nat.not_lt.mpr hB))⟩
/-- What speaks of blocks below B alone. -/
def Low {β : Type} (B : Nat) (I : β → World → Prop) : Prop := ∀ s W W', W'.os = W.os → W'.tape = W.tape → W'.output = W.output → W.heap.size ≤ W'.heap.size → (∀ k, k < B → k < W.heap.size → W'.heap[k]? = W.heap[k]?) → I s W → I s W'
theorem Low.own {β : Type} {B : Nat} {I : β → World → Prop} (h : Low B I) : OwnFrom B I := fun s W W' row hs hg hr =>
  h s W W' hg.os hg.tape hg.output hg.size (fun k hk hl => hg.block k hl (fun e => absurd (hr k e.symm).1 (Nat.not_le.mpr hk))) hs
theorem Low.and {β : Type} {B : Nat} {I J : β → World → Prop} (h : Low B I) (k : Low B J) : Low B (fun s W => I s W ∧ J s W) := fun s W W' a b c d e q => ⟨h s W W' a b c d e q.1, k s W W' a b c d e q.2⟩
theorem Low.pure {β : Type} (B : Nat) (p : β → Prop) : Low B (fun s (_ : World) => p s) := fun _ _ _ _ _ _ _ _ q => q
theorem low_only {β : Type} {B : Nat} {w0 : World} (hB : w0.heap.size ≤ B) (S : Nat → Prop) : Low B (fun (_ : β) W => Only w0 W S) := fun _ W W' a b c d e q =>
  ⟨a.trans q.os, b.trans q.tape, c.trans q.output, Nat.le_trans q.size d, fun k hk hs => (e k (Nat.lt_of_lt_of_le hk hB) (Nat.lt_of_lt_of_le hk q.size)).trans (q.block k hk hs)⟩
theorem low_blk {β : Type} {B : Nat} {b : Nat} (hb : b < B) (f : β → Obj) : Low B (fun s W => W.heap[b]? = some (f s)) := fun s W W' _ _ _ _ e q => (e b hb (blk_lt q)).trans q
theorem low_rq {β : Type} {B g gt n : Nat} (h1 : g < B) (h2 : gt < B) (f : β → List Int) : Low B (fun s W => RQ W g gt n (f s)) := fun s W W' _ _ _ _ e q => by
  obtain ⟨xs, f', hc, hq⟩ := q
  exact ⟨xs, f', ⟨(e g h1 (blk_lt hc.hg)).trans hc.hg, (e gt h2 (blk_lt hc.ht)).trans hc.ht, hc.hne, hc.hn, hc.n0, hc.n1, hc.hf, hc.hm⟩, hq⟩
end Go.Proofs.Ytjajaklichiknaa.Rg
