/- Proved: a ring and the document's beside it, as a pair: each thing that is done with both. -/
import Derived.Test.YtjajaklichiknaaRx
namespace Go.Proofs.Ytjajaklichiknaa.Rg
open Go.RowKit Go.Proofs.YtjajaklichiknaaW.PrintWords Go.Proofs.YtjajaklichiknaaW.PrintLast Go.Proofs.YtjajaklichiknaaW.PrintMore
set_option linter.unusedVariables false
set_option linter.unusedSimpArgs false

/-- The ring at g and the document's at gd hold the same; all of it lies in the blocks Z, from B on. -/
structure Pair (w : World) (B g gd : Nat) (Z : Nat → Prop) : Prop where
  ex : ∃ gt n S q, RQ w g gt n q ∧ RD w B gd n S q ∧ (¬ S g ∧ ¬ S gt) ∧ (B ≤ g ∧ B ≤ gt) ∧ Z = (fun k => (k = g ∨ k = gt) ∨ S k)
section
variable {w w' : World} {B g gd : Nat} {Z : Nat → Prop}
theorem Pair.lt (h : Pair w B g gd Z) : ∀ k, Z k → B ≤ k ∧ k < w.heap.size := by
  obtain ⟨gt, n, S, q, hq, hd, _, hB, rfl⟩ := h.ex
  rintro k ((rfl | rfl) | hk)
  · exact ⟨hB.1, hq.lt.1⟩
  · exact ⟨hB.2, hq.lt.2⟩
  · exact hd.lt k hk
theorem Pair.only {T : Nat → Prop} (h : Pair w B g gd Z) (hO : Only w w' T) (hT : ∀ k, Z k → ¬ T k) : Pair w' B g gd Z := by
  obtain ⟨gt, n, S, q, hq, hd, hS, hB, rfl⟩ := h.ex
  exact ⟨gt, n, S, q, hq.only hO (hT _ (.inl (.inl rfl))) (hT _ (.inl (.inr rfl))), hd.only hO (fun k hk => hT k (.inr hk)), hS, hB, rfl⟩
theorem Pair.below (h : Pair w B g gd Z) (hb : Below w.heap.size w w') : Pair w' B g gd Z := h.only (.of_below hb (fun _ => False)) (fun _ _ q => q)
theorem Pair.isCells (h : Pair w B g gd Z) : ∀ k, Z k → ∃ o, w.heap[k]? = some o ∧ o.isCells = true := by
  obtain ⟨gt, n, S, q, hq, hd, _, hB, rfl⟩ := h.ex
  obtain ⟨xs, f, hC, _⟩ := hq
  rintro k ((rfl | rfl) | hk)
  · exact ⟨_, hC.hg, rfl⟩
  · exact ⟨_, hC.ht, rfl⟩
  · exact hd.isCells hk
/-- Its memory goes on. -/
theorem Pair.mk' {gt n : Nat} {S S' : Nat → Prop} {q : List Int} (h0 : ∀ k, S k → k < w.heap.size) (hg : g < w.heap.size ∧ gt < w.heap.size) (hq : RQ w' g gt n q) (hd : RD w' B gd n S' q) (hS : ¬ S g ∧ ¬ S gt) (hB : B ≤ g ∧ B ≤ gt) (hT : Tr w w' (fun k => k = g ∨ k = gt) S S') : ∃ Z', Pair w' B g gd Z' ∧ Nx w w' (fun k => (k = g ∨ k = gt) ∨ S k) Z' := by
  refine ⟨_, ⟨gt, n, S', q, hq, hd, ⟨fun e => ?_, fun e => ?_⟩, hB, rfl⟩, hT.only, ?_⟩
  · rcases hT.new g e with h | h
    · exact hS.1 h
    · omega
  · rcases hT.new gt e with h | h
    · exact hS.2 h
    · omega
  · rintro k (e | e)
    · exact .inl (.inl e)
    · exact (hT.new k e).imp .inr id
theorem whole_pair (h : Pair w B g gd Z) : Calls Try.prog 25 #[.pointer (some ⟨g, 0, none⟩), .pointer (some ⟨gd, 0, none⟩)] w fun r w' => r = .returned (.bool true) ∧ Below w.heap.size w w' := by
  obtain ⟨gt, n, S, q, hq, hd, hS, hB, rfl⟩ := h.ex
  exact whole_calls hq hd
theorem ranged_pair (stop : Int) (h : Pair w B g gd Z) : Calls Try.prog 35 #[.pointer (some ⟨g, 0, none⟩), .pointer (some ⟨gd, 0, none⟩), .int .i64 stop] w fun r w' => r = .returned (.bool true) ∧ ∃ Z', Pair w' B g gd Z' ∧ Nx w w' Z Z' := by
  obtain ⟨gt, n, S, q, hq, hd, hS, hB, rfl⟩ := h.ex
  refine (ranged_calls stop hq hd hS).mono ?_
  rintro r w' ⟨rfl, qq, S', hq', hd', ht⟩
  exact ⟨rfl, Pair.mk' (fun k hk => (hd.lt k hk).2) hq.lt hq' hd' hS hB ht⟩
end
/-- The same is done with both, first with the ring; both tell v. -/
structure Two (w : World) (B g gd : Nat) (Z : Nat → Prop) (fa : FuncId) (aa : Array Value) (fd : FuncId) (ad : Array Value) (v : Value) (M : World → Prop) : Prop where
  drawn : ∀ w1 w2, M w1 → Drawn0 w1 w2 → M w2
  only : ∀ w1, M w1 → Only w w1 Z
  a : Calls Try.prog fa aa w fun r w1 => r = .returned v ∧ M w1
  d : ∀ w1, M w1 → Calls Try.prog fd ad w1 fun r w2 => r = .returned v ∧ ∃ Z', Pair w2 B g gd Z' ∧ Nx w w2 Z Z'
/-- Between the two: the ring holds q1, the document's q0. -/
structure Mid (w : World) (B g gd gt n : Nat) (S : Nat → Prop) (q0 q1 : List Int) (w1 : World) : Prop where
  rq : RQ w1 g gt n q1
  rd : RD w1 B gd n S q0
  only : Only w w1 (fun k => k = g ∨ k = gt)
section
variable {w : World} {B g gd gt n : Nat} {S : Nat → Prop} {q0 q1 : List Int}
theorem Mid.drawn (w1 w2 : World) (h : Mid w B g gd gt n S q0 q1 w1) (d : Drawn0 w1 w2) : Mid w B g gd gt n S q0 q1 w2 := ⟨h.rq.drawn d, h.rd.drawn d, h.only.drawn d⟩
theorem Mid.toZ (w1 : World) (h : Mid w B g gd gt n S q0 q1 w1) : Only w w1 (fun k => (k = g ∨ k = gt) ∨ S k) := h.only.mono (fun _ e => .inl e)
theorem Mid.of {w1 : World} (hd : RD w B gd n S q0) (hS : ¬ S g ∧ ¬ S gt) (hq : RQ w1 g gt n q1) (hO : Only w w1 (fun k => k = g ∨ k = gt)) : Mid w B g gd gt n S q0 q1 w1 :=
  ⟨hq, hd.only hO (fun k hk e => by rcases e with rfl | rfl; exact hS.1 hk; exact hS.2 hk), hO⟩
/-- The document's has gone after. -/
theorem Mid.done {w1 w2 : World} {S' : Nat → Prop} (h : Mid w B g gd gt n S q0 q1 w1) (hq : RQ w g gt n q0) (hd : RD w B gd n S q0) (hS : ¬ S g ∧ ¬ S gt) (hB : B ≤ g ∧ B ≤ gt) (hO : Only w1 w2 S) (hn : ∀ k, S' k → S k ∨ w1.heap.size ≤ k) (hd' : RD w2 B gd n S' q1) : ∃ Z', Pair w2 B g gd Z' ∧ Nx w w2 (fun k => (k = g ∨ k = gt) ∨ S k) Z' :=
  Pair.mk' (fun k hk => (hd.lt k hk).2) hq.lt (h.rq.only hO hS.1 hS.2) hd' hS hB (((Tr.refl w _ S).ring h.only).doc hO hn)
end
section
variable {w : World} {B g gd : Nat} {Z : Nat → Prop}
theorem two_push (x : Int) (h : Pair w B g gd Z) : ∃ (f : Int) (M : World → Prop), Two w B g gd Z 11 #[.pointer (some ⟨g, 0, none⟩), .int .i64 x] 31 #[.pointer (some ⟨gd, 0, none⟩), .int .i64 x] (.int .i64 f) M := by
  obtain ⟨gt, n, S, q, hq, hd, hS, hB, rfl⟩ := h.ex
  by_cases c : q.length < n
  · refine ⟨0, Mid w B g gd gt n S q (q ++ [x]), Mid.drawn, Mid.toZ, (pushq_room w hq x c).mono ?_, fun w1 hM => (rpush_room x hM.rd c).mono ?_⟩
    · rintro r w1 ⟨rfl, h1, h2⟩
      exact ⟨rfl, .of hd hS h1 h2⟩
    · rintro r w2 ⟨S', rfl, h1, h2⟩
      exact ⟨rfl, hM.done hq hd hS hB h2.only h2.new h1⟩
  · have e : q.length = n := by have := hq.len; omega
    refine ⟨111, Mid w B g gd gt n S q q, Mid.drawn, Mid.toZ, (pushq_full w hq x e).mono ?_, fun w1 hM => (rpush_full x hM.rd e).mono ?_⟩
    · rintro r w1 ⟨rfl, h1⟩
      exact ⟨rfl, .of hd hS (hq.drawn h1) (.of_below h1.below _)⟩
    · rintro r w2 ⟨rfl, h1⟩
      exact ⟨rfl, hM.done hq hd hS hB (.of_below h1.below _) (fun k e => .inl e) (hM.rd.drawn h1)⟩
theorem two_pop (h : Pair w B g gd Z) : ∃ (x : Int) (b : Bool) (M : World → Prop), Two w B g gd Z 13 #[.pointer (some ⟨g, 0, none⟩)] 32 #[.pointer (some ⟨gd, 0, none⟩)] (.tuple #[.int .i64 x, .bool b]) M := by
  obtain ⟨gt, n, S, q, hq, hd, hS, hB, rfl⟩ := h.ex
  cases q with
  | nil =>
    refine ⟨0, false, Mid w B g gd gt n S [] [], Mid.drawn, Mid.toZ, (popq_none w hq rfl).mono ?_, fun w1 hM => (rpop_none hM.rd).mono ?_⟩
    · rintro r w1 ⟨rfl, h1⟩
      exact ⟨rfl, .of hd hS (hq.drawn h1) (.of_below h1.below _)⟩
    · rintro r w2 ⟨rfl, rfl⟩
      exact ⟨rfl, hM.done hq hd hS hB (.refl _ _) (fun k e => .inl e) hM.rd⟩
  | cons x q =>
    refine ⟨x, true, Mid w B g gd gt n S (x :: q) q, Mid.drawn, Mid.toZ, (popq_some w hq x q rfl).mono ?_, fun w1 hM => (rpop_some hM.rd).mono ?_⟩
    · rintro r w1 ⟨rfl, h1, h2⟩
      exact ⟨rfl, .of hd hS h1 h2⟩
    · rintro r w2 ⟨rfl, h1, h2⟩
      exact ⟨rfl, hM.done hq hd hS hB h2 (fun k e => .inl e) h1⟩
theorem two_at (i : Int) (h : Pair w B g gd Z) : ∃ (x : Int) (b : Bool) (M : World → Prop), Two w B g gd Z 21 #[.pointer (some ⟨g, 0, none⟩), .int .i64 i] 33 #[.pointer (some ⟨gd, 0, none⟩), .int .i64 i] (.tuple #[.int .i64 x, .bool b]) M := by
  obtain ⟨gt, n, S, q, hq, hd, hS, hB, rfl⟩ := h.ex
  by_cases c : i < 0 ∨ (q.length : Int) ≤ i
  · refine ⟨0, false, Mid w B g gd gt n S q q, Mid.drawn, Mid.toZ, (atq_out w hq i c).mono ?_, fun w1 hM => (rat_out i hM.rd c).mono ?_⟩
    · rintro r w1 ⟨rfl, h1⟩
      exact ⟨rfl, .of hd hS (hq.drawn h1) (.of_below h1.below _)⟩
    · rintro r w2 ⟨rfl, rfl⟩
      exact ⟨rfl, hM.done hq hd hS hB (.refl _ _) (fun k e => .inl e) hM.rd⟩
  · obtain ⟨j, rfl⟩ : ∃ j : Nat, i = j := ⟨i.toNat, by omega⟩
    have hj : j < q.length := by omega
    refine ⟨q.getD j 0, true, Mid w B g gd gt n S q q, Mid.drawn, Mid.toZ, (atq_in w hq j hj).mono ?_, fun w1 hM => (rat_in j hM.rd hj).mono ?_⟩
    · rintro r w1 ⟨rfl, h1⟩
      exact ⟨rfl, .of hd hS (hq.drawn h1) (.of_below h1.below _)⟩
    · rintro r w2 ⟨rfl, rfl⟩
      exact ⟨rfl, hM.done hq hd hS hB (.refl _ _) (fun k e => .inl e) hM.rd⟩
/-- Take: both tell the same list, each in memory of its own. -/
theorem two_take (k : Int) (hk0 : -9223372036854775808 ≤ k) (hk1 : k ≤ 9223372036854775807) (h : Pair w B g gd Z) : ∃ (l : List Int) (M : World → Prop), (∀ w1, M w1 → Only w w1 Z) ∧
    (Calls Try.prog 12 #[.pointer (some ⟨g, 0, none⟩), .int .i64 k] w fun r w1 => ∃ v, r = .returned v ∧ w1.ownsRow w.heap.size 3 1 v l.length (encs ei l) ∧ M w1) ∧
    ∀ w1, M w1 → Calls Try.prog 34 #[.pointer (some ⟨gd, 0, none⟩), .int .i64 k] w1 fun r w2 => ∃ v, r = .returned v ∧ w2.ownsRow w1.heap.size 3 1 v l.length (encs ei l) ∧ Only w1 w2 Z ∧ Pair w2 B g gd Z := by
  obtain ⟨gt, n, S, q, hq, hd, hS, hB, rfl⟩ := h.ex
  refine ⟨q.take k.toNat, Mid w B g gd gt n S q (q.drop k.toNat), Mid.toZ, (take_calls w hq k hk0 hk1).mono ?_, fun w1 hM => (rtake_calls k hM.rd).mono ?_⟩
  · rintro r w1 ⟨v, rfl, h1⟩
    exact ⟨v, rfl, h1.own, .of hd hS h1.ring h1.only⟩
  · rintro r w2 ⟨v, rfl, h1, h2, h3⟩
    exact ⟨v, rfl, h1, h3.mono (fun _ e => .inr e), _, _, _, _, hM.rq.only h3 hS.1 hS.2, h2, hS, hB, rfl⟩
end
end Go.Proofs.Ytjajaklichiknaa.Rg
