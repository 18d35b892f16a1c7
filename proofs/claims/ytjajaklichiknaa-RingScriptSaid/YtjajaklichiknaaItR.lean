/- Proved: the law of a range over All, with its two variables, in a function and in a round of another. -/
import Derived.Test.YtjajaklichiknaaIt1
namespace Go.Proofs.Ytjajaklichiknaa.Rg
open Go.RowKit Go.Proofs.YtjajaklichiknaaW.PrintWords Go.Proofs.YtjajaklichiknaaW.PrintLast Go.Proofs.YtjajaklichiknaaW.PrintMore
set_option linter.unusedVariables false
set_option linter.unusedSimpArgs false

open Go.Shelf
attribute [local go_sem] Oper.semAt_some
/-- Where the two variables have been laid. -/
abbrev asg (t : Array Value) (p0 p1 q0 q1 : Tmp) (x : Int × Int) : Array Value := (((t.setIfInBounds p0 (.int .i64 x.1)).setIfInBounds p1 (.int .i64 x.2)).setIfInBounds q0 (.int .i64 x.1)).setIfInBounds q1 (.int .i64 x.2)
theorem zip2 (p0 p1 : Tmp) (v0 v1 : Value) (t : Array Value) : (#[p0, p1].zip #[v0, v1]).foldl (fun t (p, v) => t.setIfInBounds p v) t = (t.setIfInBounds p0 v0).setIfInBounds p1 v1 := by simp
theorem KpC.refl (B : Nat) (W : World) : KpC B W W := ⟨Nat.le_refl _, fun _ _ _ h _ => h⟩
theorem rangeH {assign body : Code} {Q : Exit → Act → World → Prop} {t : Array Value} {ds : List Deferred} {w : World} {bB g gt n : Nat} {q : List Int} (p0 p1 q0 q1 tm : Tmp)
    (hg : ({ tmps := t, defers := ds } : Act).eval (.tmp tm) = .func (.func 29) #[] #[.pointer (some ⟨bB, 0, none⟩)]) (hbB : w.heap[bB]? = some (.cells #[.pointer (some ⟨g, 0, none⟩)] 24 (0, 0))) (hQ : RQ w g gt n q)
    (I : List (Int × Int) → World → Prop) (Ix : Code → List (Int × Int) → World → Prop) (hI : OwnFrom w.heap.size I) (hIx : ∀ c, OwnFrom w.heap.size (Ix c)) (h0 : I [] w)
    (hassign : ∀ (l : Nat) (x : Int × Int) (W : World) (K : Act → World → Prop), K { tmps := asg t p0 p1 q0 q1 x, defers := [] } W → assign.wpIn (wideR l) 18 Try.prog (Exit.then K (fun _ _ _ => False)) { tmps := (t.setIfInBounds p0 (.int .i64 x.1)).setIfInBounds p1 (.int .i64 x.2), defers := [] } W)
    (hbody : ∀ (l : Nat) (pre : List (Int × Int)) (x : Int × Int) (W : World), w.heap.size ≤ l → (∃ r, W.heap[l]? = some (.loop r)) → I pre W → pre.length < q.length → body.wpIn (wideR l) 18 Try.prog (ownPostG w.heap.size (KpC w.heap.size) I Ix (pre ++ [x]) W) { tmps := asg t p0 p1 q0 q1 x, defers := [] } W)
    (hdone : ∀ (D : Nat) (W : World), w.heap.size ≤ D → I (en q) W → W.heap[D]? = some (.deferred (some [])) → Q .normal { tmps := t, defers := { target := .collected D, args := #[] } :: ds } W)
    (hstop : ∀ (D : Nat) (c : Code) (pre : List (Int × Int)) (W : World), w.heap.size ≤ D → pre <+: en q → Ix c pre W → W.heap[D]? = some (.deferred (some [])) → c.wp Try.prog Q { tmps := t, defers := { target := .collected D, args := #[] } :: ds } W) :
    (Code.rangeFunc (.tmp tm) #[p0, p1] assign body).wp Try.prog Q { tmps := t, defers := ds } w := by
  refine (wpIn_wide (n := 20)).1 (wpIn_rangeFunc_ownH rfl (by decide) (gf := 29) (lb := #[.pointer (some ⟨bB, 0, none⟩)]) hg trivial (enters_of Try.func29 (by kernel_rfl) rfl) (all_stops 19 bB w.heap.size w hbB hQ (Nat.le_refl _))
    KpC.t (fun W l o o' _ h hc _ => KpC.b W l o o' h hc) (Below.refl _ _) (fun _ => rfl) I Ix hI hIx h0 (fun x a' _ => a' = { tmps := asg t p0 p1 q0 q1 x, defers := [] }) (fun _ _ _ _ _ _ hs _ _ => hs) ?_ ?_ ?_ ?_)
  · intro l pre x W K hi hK
    rw [zip2]
    exact hassign l x W K (hK _ W (KeepsFrom.refl _ _) (KpC.refl _ _) hi rfl)
  · rintro l pre x a' W hl hr hi rfl hlt
    exact hbody l pre x W hl hr hi hlt
  · rintro D xs W hD rfl hi hk
    exact hdone D W hD hi hk
  · intro D c pre W hD hp hx hk
    exact wpIn_wide.2 (hstop D c pre W hD hp hx hk)
/-- In a round of the loop l0. -/
theorem rangeN {assign body : Code} {Q : Exit → Act → World → Prop} {t : Array Value} {ds : List Deferred} {w : World} {bB g gt n : Nat} {q : List Int} {l0 : Nat} {r0 : Loop} (p0 p1 q0 q1 tm : Tmp) (hl0 : w.heap[l0]? = some (.loop r0))
    (hg : ({ tmps := t, defers := ds } : Act).eval (.tmp tm) = .func (.func 29) #[] #[.pointer (some ⟨bB, 0, none⟩)]) (hbB : w.heap[bB]? = some (.cells #[.pointer (some ⟨g, 0, none⟩)] 24 (0, 0))) (hQ : RQ w g gt n q)
    (I : List (Int × Int) → World → Prop) (Ix : Code → List (Int × Int) → World → Prop) (hI : OwnFrom w.heap.size I) (hIx : ∀ c, OwnFrom w.heap.size (Ix c)) (h0 : I [] w)
    (hassign : ∀ (l : Nat) (x : Int × Int) (W : World) (K : Act → World → Prop), K { tmps := asg t p0 p1 q0 q1 x, defers := [] } W → assign.wpIn (wideR l) 16 Try.prog (Exit.then K (fun _ _ _ => False)) { tmps := (t.setIfInBounds p0 (.int .i64 x.1)).setIfInBounds p1 (.int .i64 x.2), defers := [] } W)
    (hbody : ∀ (l : Nat) (pre : List (Int × Int)) (x : Int × Int) (W : World), w.heap.size ≤ l → (∃ r, W.heap[l]? = some (.loop r)) → I pre W → pre.length < q.length → body.wpIn (wideR l) 16 Try.prog (ownPostG w.heap.size (KpC w.heap.size) I Ix (pre ++ [x]) W) { tmps := asg t p0 p1 q0 q1 x, defers := [] } W)
    (hdone : ∀ (W : World), I (en q) W → Q .normal { tmps := t, defers := ds } W)
    (hstop : ∀ (c : Code) (pre : List (Int × Int)) (W : World), pre <+: en q → Ix c pre W → c.wpIn (wideR l0) 18 Try.prog Q { tmps := t, defers := ds } W) :
    (Code.rangeFunc (.tmp tm) #[p0, p1] assign body).wpIn (wideR l0) 18 Try.prog Q { tmps := t, defers := ds } w := by
  refine wpIn_rangeFunc_ownN (l₀ := l0) (r₀ := r0) rfl hl0 (by decide) (gf := 29) (lb := #[.pointer (some ⟨bB, 0, none⟩)]) hg trivial (enters_of Try.func29 (by kernel_rfl) rfl) ((all_stops 17 bB w.heap.size w hbB hQ (Nat.le_refl _)).inRound l0)
    KpC.t (fun W l o o' _ h hc _ => KpC.b W l o o' h hc) (Below.refl _ _) (fun _ => rfl) I Ix hI hIx h0 (fun x a' _ => a' = { tmps := asg t p0 p1 q0 q1 x, defers := [] }) (fun _ _ _ _ _ _ hs _ _ => hs) ?_ ?_ ?_ ?_
  · intro l pre x W K hi hK
    rw [zip2]
    exact hassign l x W K (hK _ W (KeepsFrom.refl _ _) (KpC.refl _ _) hi rfl)
  · rintro l pre x a' W hl hr hi rfl hlt
    exact hbody l pre x W hl hr hi hlt
  · rintro xs W rfl hi
    exact hdone W hi
  · intro c pre W hp hx
    exact hstop c pre W hp hx
end Go.Proofs.Ytjajaklichiknaa.Rg
