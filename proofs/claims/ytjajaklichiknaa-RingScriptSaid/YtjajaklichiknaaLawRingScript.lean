/- Proved: the law RingScript answers true for every input, and its arguments read as before. No condition. -/
import Derived.Test.YtjajaklichiknaaRows
import Derived.Test.YtjajaklichiknaaRs1
import Derived.WalkKit
import Derived.ProofKit
import Derived.OpenShut
import Derived.ShutString
import Derived.ChangeOld
import Derived.Below
import Derived.SizedLaws
import Derived.JoinedCond
import Derived.Deep.Slices
import Derived.Deep.Strs
import Derived.Lib.SmallJoins
import Derived.Laws.Cover2
namespace Go.Proofs.Ytjajaklichiknaa.ringScript
open Go.ChangeShapes Go.WideShapes Go.ChangeAt Go.RowKit Go.Proofs.Ytjajaklichiknaa.Rg Go.Proofs.YtjajaklichiknaaW.PrintWords
open Go.ChangeMaps (open_string shut_string)
set_option linter.unusedVariables false
theorem own : ownKnob Try.prog.godebug = none := by kernel_rfl
theorem laidOut : laidOutB Try.prog = true := by kernel_rfl
/-- A slice that reads, of whatever elements: what is told of each element is told of the row. -/
theorem openRow {H : Type} {enc : TypeId × Value → H} {P : Program} {w : World} {base : Nat} {spare : Nat → Bool} {held : Bool} {α : Type} [Inhabited α] (d : Kd α) (Q : α → Prop) {t e : TypeId} {fuel : Nat} {A : Option Addr} {len cap : Nat} {x : DataW H × List MemPlace}
    (ht : P.underlying t = some (.slice e)) (hs : P.cellsOf e = d.sz) (hel : ∀ n cs y, DataW.trod enc P w base spare held n e cs = some y → ∃ a : α, d.K w a cs ∧ Q a)
    (h : DataW.trod enc P w base spare held fuel t [.slice A len cap] = some x) : ∃ l : List α, len = l.length ∧ Kd.C d w A l.length l ∧ (∀ a ∈ l, Q a) ∧ l.length ≤ cap ∧ l.length ≤ maxLen := by
  rcases Go.Deep.open_slice ht h with ⟨hc, _⟩ | ⟨a, len', cap', m, n, D, Pl, hc, _, hl, hm, hm', _, hcell⟩
  · simp only [List.cons.injEq, Value.slice.injEq, and_true] at hc
    obtain ⟨rfl, rfl, rfl⟩ := hc
    exact ⟨[], rfl, ⟨rfl, by simp, fun h0 => absurd h0 (by simp)⟩, by simp, by simp, by simp⟩
  · simp only [List.cons.injEq, Value.slice.injEq, and_true] at hc
    obtain ⟨rfl, rfl, rfl⟩ := hc
    have hle : len ≤ m := by rw [hm']; split <;> omega
    have hall : ∀ i, i < len → ∃ b : α, (∃ cs, w.cells? base (a.add (i * P.cellsOf e)) (P.cellsOf e) = some cs ∧ d.K w b cs) ∧ Q b := by
      intro i hi
      obtain ⟨cs, h1, h2⟩ := hcell i (by omega)
      obtain ⟨b, hk, hq⟩ := hel _ _ _ h2
      exact ⟨b, ⟨cs, h1, hk⟩, hq⟩
    obtain ⟨f, hf⟩ := Go.Deep.choose_lt hall
    refine ⟨(List.range len).map f, by simp, ⟨rfl, ?_, fun h0 => ⟨a, rfl, fun j p hp => ?_⟩⟩, fun b hb => ?_, by simp; omega, by simp; omega⟩
    · simp only [List.length_map, List.length_range]
      unfold maxLen at hm
      omega
    · have hj : j < len := by
        have := List.getElem?_eq_some_iff.1 hp
        simpa using this.1
      have hpe : f j = p := by simpa [hj] using hp
      subst hpe
      obtain ⟨⟨cs, h1, h2⟩, _⟩ := hf j hj
      refine ⟨cs, by rw [d.K_len h2], h2, fun i u hu => ?_⟩
      obtain ⟨_, hlen, hc2⟩ := World.cells?_some h1
      rw [hs] at hc2 hlen
      have hi : i < d.sz := by
        have := (List.getElem?_eq_some_iff.1 hu).1
        omega
      rw [← Go.Deep.add_add]
      rw [hc2 i hi, hu]
    · simp only [List.mem_map, List.mem_range] at hb
      obtain ⟨i, hi, rfl⟩ := hb
      exact (hf i hi).2

/-- The same where the value's shape isn't known yet. -/
theorem openRowAny {H : Type} {enc : TypeId × Value → H} {P : Program} {w : World} {base : Nat} {spare : Nat → Bool} {held : Bool} {α : Type} [Inhabited α] (d : Kd α) (Q : α → Prop) {t e : TypeId} {fuel : Nat} {cs : List Value} {x : DataW H × List MemPlace}
    (ht : P.underlying t = some (.slice e)) (hs : P.cellsOf e = d.sz) (hel : ∀ n cs y, DataW.trod enc P w base spare held n e cs = some y → ∃ a : α, d.K w a cs ∧ Q a)
    (h : DataW.trod enc P w base spare held fuel t cs = some x) : ∃ (A : Option Addr) (cap : Nat) (l : List α), cs = [.slice A l.length cap] ∧ Kd.C d w A l.length l ∧ (∀ a ∈ l, Q a) ∧ l.length ≤ cap ∧ l.length ≤ maxLen := by
  have hf : ∃ A len cap, cs = [.slice A len cap] := by
    rcases Go.Deep.open_slice ht h with ⟨hc, _⟩ | ⟨a, len', cap', m, n, D, Pl, hc, _⟩
    · exact ⟨_, _, _, hc⟩
    · exact ⟨_, _, _, hc⟩
  obtain ⟨A, len, cap, rfl⟩ := hf
  obtain ⟨l, rfl, h1, h2, h3, h4⟩ := openRow d Q ht hs hel h
  exact ⟨A, cap, l, rfl, h1, h2, h3, h4⟩


set_option maxRecDepth 100000 in
theorem lifted (os : Os) (started : os.Started) (H : Type) (enc : TypeId × Value → H) :
    ReturnsInHanded {} Try.checked os 7 .any (Rows.ringScriptSpec.pre6 enc Try.prog Try.f7 Rows.ringScriptRow.domain false) (Rows.ringScriptSpec.post enc Try.prog Try.f7 false true false false) := by
  refine returnsInHanded_of_change_sized (C := Try.checked) own started (by kernel_rfl) Try.func7
    (ChangeSpec.witness6 (enc := enc) (C := Try.checked) false ⟨#[], #[.int .i64 0, .slice none 0 0], []⟩ 8 (by kernel_rfl) (by kernel_rfl) (by kernel_rfl) (by kernel_rfl)) ?_
  intro W base args ds gs before hval0 hW hcnd hsz0 _
  have hsz : (DataW.weightsEach Try.prog (Try.f7.params.toList ++ Rows.ringScriptSpec.plain.varTypes Try.prog) (ds ++ gs)).all (· ≤ reachBytes) = true := hsz0
  have hval : ∀ (j : Nat) t v, Try.f7.params[j]? = some t → args[j]? = some v → Value.okWide Try.prog W .any base t v := hval0
  have hW' := hW
  obtain ⟨p, q, hA0, hV, rfl, hfz, hnd⟩ := hW
  have hA : DataW.TrodAll enc Try.prog W 0 (fun _ => true) true Try.f7.params.toList args.toList ds p := hA0
  rw [Try.params7] at hA hval hsz
  obtain ⟨v0, vs0, d0, ds0, p0, q0, hargs, rfl, rfl, h0, r0⟩ := trodAll_cons hA
  obtain ⟨v1, vs1, d1, ds1, p1, q1, rfl, rfl, rfl, h1, r1⟩ := trodAll_cons r0
  obtain ⟨rfl, rfl, rfl⟩ := trodAll_nil r1
  obtain rfl : args = #[v0, v1] := by cases args; simp_all
  obtain ⟨rfl, rfl⟩ := trodVars_none hV
  obtain ⟨a0, rfl, rfl, rfl, wf0⟩ := open_int Try.underlying3 (hval 0 3 v0 rfl rfl) h0
  have k1 := h1
  have lt1 : ∀ x ∈ p1, x.block < W.heap.size := by obtain ⟨m, hm⟩ := k1; exact DataW.trod_lt m _ _ _ hm
  obtain ⟨A1, len1, cap1, rfl⟩ := okWide_slice Try.underlying50 (hval 1 50 v1 rfl rfl)
  have hz1 : len1 * 24 ≤ 140737488355328 := by
    have hn : Go.Joins.sliceLen d1 = len1 := by
      obtain ⟨fuel, hf⟩ := k1
      exact Go.Joins.sliceLen_trod Try.underlying50 (by simpa [Value.cells] using hf)
    cases hd : d1 with
    | slice elems spare =>
      subst hd
      have := sized_slice hsz (j := 1) (t := 50) (e := 61) rfl rfl Try.underlying50
      rw [show Try.prog.bytesOf 61 = 24 by kernel_rfl] at this
      simp only [Go.Joins.sliceLen, reachBytes] at this hn
      omega
    | _ => subst hd; simp only [Go.Joins.sliceLen] at hn; omega
  obtain ⟨fuel, hf⟩ := h1
  obtain ⟨l1, hr1, hs1, el, hm1⟩ := trod_ops (by simpa [Value.cells] using hf)
  subst el
  clear hA0 hval0 hsz0
  obtain ⟨k, hk⟩ := (⟨0, trivial⟩ : ∃ k : Nat, True)
  refine (script.calls a0 A1 cap1 l1 hs1 W hr1 hz1).mono ?_
  rintro e W' ⟨rfl, bel⟩
  exact ⟨_, rfl, _, _, _, [], _, [], hW', trodAll_mk1 (shut_bool Try.underlying4 _), (trodAll_cons_mk (shut_int Try.underlying3 wf0) (trodAll_cons_mk (Below.trod laidOut (by kernel_rfl) (of_decide_eq_true (by kernel_rfl)) k1 bel lt1) trodAll_mk0)), rfl, bel.frame _, fun h => by cases h⟩
theorem over : Rows.ringScriptRow.holds Try.pinned (OpenSpec.ofChange Rows.ringScriptSpec) :=
  OpenClaim.holds_of_wide 7 Try.f7 rfl rfl rfl rfl rfl rfl rfl ⟨rfl, rfl, rfl, rfl, rfl⟩ rfl rfl rfl rfl rfl (by kernel_rfl) Try.func7 (by kernel_rfl)
    (of_decide_eq_true (by kernel_rfl)) (by unfold Func.isWrapper; first | (rw [if_pos (by decide +kernel)]; kernel_rfl) | (rw [if_neg (by decide +kernel)]; exact ⟨rfl, rfl⟩))
    (fun os started H enc _ => lifted os started H enc)
theorem proved : Rows.RingScriptSaid := over
#print axioms proved
end Go.Proofs.Ytjajaklichiknaa.ringScript
namespace Go.Proofs.Ytjajaklichiknaa
/-- The row, under a short name, for the claim. -/
theorem ringScript_holds : Rows.RingScriptSaid := ringScript.proved
end Go.Proofs.Ytjajaklichiknaa
