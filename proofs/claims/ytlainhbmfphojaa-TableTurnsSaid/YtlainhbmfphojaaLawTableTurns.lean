/- Proved: the law TableTurns answers true for every input, and its arguments read as before. No condition. -/
import Derived.Test.YtlainhbmfphojaaRows
import Derived.Test.YtlainhbmfphojaaTt6
import Derived.WalkKit
import Derived.ProofKit
import Derived.OpenShut
import Derived.ShutString
import Derived.ChangeOld
import Derived.Below
import Derived.SizedLaws
import Derived.JoinedCond
import Derived.Deep.Slices
import Derived.Deep.Strs
import Derived.Lib.SmallJoins
import Derived.Laws.Cover2
namespace Go.Proofs.Ytlainhbmfphojaa.tableTurns
open Go.ChangeShapes Go.WideShapes Go.ChangeAt Go.RowKit Go.Proofs.Ytlainhbmfphojaa.Tb Go.Proofs.YtlainhbmfphojaaW.PrintWords
open Go.ChangeMaps (open_string shut_string)
set_option linter.unusedVariables false
theorem own : ownKnob Try.prog.godebug = none := by kernel_rfl
theorem laidOut : laidOutB Try.prog = true := by kernel_rfl
/-- A slice that reads, of whatever elements: what is told of each element is told of the row. -/
theorem openRow {H : Type} {enc : TypeId × Value → H} {P : Program} {w : World} {base : Nat} {spare : Nat → Bool} {held : Bool} {α : Type} [Inhabited α] (d : Kd α) (Q : α → Prop) {t e : TypeId} {fuel : Nat} {A : Option Addr} {len cap : Nat} {x : DataW H × List MemPlace}
    (ht : P.underlying t = some (.slice e)) (hs : P.cellsOf e = d.sz) (hel : ∀ n cs y, DataW.trod enc P w base spare held n e cs = some y → ∃ a : α, d.K w a cs ∧ Q a)
    (h : DataW.trod enc P w base spare held fuel t [.slice A len cap] = some x) : ∃ l : List α, len = l.length ∧ Kd.C d w A l.length l ∧ (∀ a ∈ l, Q a) ∧ l.length ≤ cap ∧ l.length ≤ maxLen := by
  rcases Go.Deep.open_slice ht h with ⟨hc, _⟩ | ⟨a, len', cap', m, n, D, Pl, hc, _, hl, hm, hm', _, hcell⟩
  · simp only [List.cons.injEq, Value.slice.injEq, and_true] at hc
    obtain ⟨rfl, rfl, rfl⟩ := hc
    exact ⟨[], rfl, ⟨rfl, by simp, fun h0 => absurd h0 (by simp)⟩, by simp, by simp, by simp⟩
  · simp only [List.cons.injEq, Value.slice.injEq, and_true] at hc
    obtain ⟨rfl, rfl, rfl⟩ := hc
    have hle : len ≤ m := by rw [hm']; split <;> omega
    have hall : ∀ i, i < len → ∃ b : α, (∃ cs, w.cells? base (a.add (i * P.cellsOf e)) (P.cellsOf e) = some cs ∧ d.K w b cs) ∧ Q b := by
      intro i hi
      obtain ⟨cs, h1, h2⟩ := hcell i (by omega)
      obtain ⟨b, hk, hq⟩ := hel _ _ _ h2
      exact ⟨b, ⟨cs, h1, hk⟩, hq⟩
    obtain ⟨f, hf⟩ := Go.Deep.choose_lt hall
    refine ⟨(List.range len).map f, by simp, ⟨rfl, ?_, fun h0 => ⟨a, rfl, fun j p hp => ?_⟩⟩, fun b hb => ?_, by simp; omega, by simp; omega⟩
    · simp only [List.length_map, List.length_range]
      unfold maxLen at hm
      omega
    · have hj : j < len := by
        have := List.getElem?_eq_some_iff.1 hp
        simpa using this.1
      have hpe : f j = p := by simpa [hj] using hp
      subst hpe
      obtain ⟨⟨cs, h1, h2⟩, _⟩ := hf j hj
      refine ⟨cs, by rw [d.K_len h2], h2, fun i u hu => ?_⟩
      obtain ⟨_, hlen, hc2⟩ := World.cells?_some h1
      rw [hs] at hc2 hlen
      have hi : i < d.sz := by
        have := (List.getElem?_eq_some_iff.1 hu).1
        omega
      rw [← Go.Deep.add_add]
      rw [hc2 i hi, hu]
    · simp only [List.mem_map, List.mem_range] at hb
      obtain ⟨i, hi, rfl⟩ := hb
      exact (hf i hi).2

/-- The same where the value's shape isn't known yet. -/
theorem openRowAny {H : Type} {enc : TypeId × Value → H} {P : Program} {w : World} {base : Nat} {spare : Nat → Bool} {held : Bool} {α : Type} [Inhabited α] (d : Kd α) (Q : α → Prop) {t e : TypeId} {fuel : Nat} {cs : List Value} {x : DataW H × List MemPlace}
    (ht : P.underlying t = some (.slice e)) (hs : P.cellsOf e = d.sz) (hel : ∀ n cs y, DataW.trod enc P w base spare held n e cs = some y → ∃ a : α, d.K w a cs ∧ Q a)
    (h : DataW.trod enc P w base spare held fuel t cs = some x) : ∃ (A : Option Addr) (cap : Nat) (l : List α), cs = [.slice A l.length cap] ∧ Kd.C d w A l.length l ∧ (∀ a ∈ l, Q a) ∧ l.length ≤ cap ∧ l.length ≤ maxLen := by
  have hf : ∃ A len cap, cs = [.slice A len cap] := by
    rcases Go.Deep.open_slice ht h with ⟨hc, _⟩ | ⟨a, len', cap', m, n, D, Pl, hc, _⟩
    · exact ⟨_, _, _, hc⟩
    · exact ⟨_, _, _, hc⟩
  obtain ⟨A, len, cap, rfl⟩ := hf
  obtain ⟨l, rfl, h1, h2, h3, h4⟩ := openRow d Q ht hs hel h
  exact ⟨A, cap, l, rfl, h1, h2, h3, h4⟩


set_option maxRecDepth 100000 in
theorem lifted (os : Os) (started : os.Started) (H : Type) (enc : TypeId × Value → H) :
    ReturnsInHanded {} Try.checked os 6 .any (Rows.tableTurnsSpec.pre6 enc Try.prog Try.f6 Rows.tableTurnsRow.domain false) (Rows.tableTurnsSpec.post enc Try.prog Try.f6 false true false false) := by
  refine returnsInHanded_of_change_sized (C := Try.checked) own started (by kernel_rfl) Try.func6
    (ChangeSpec.witness6 (enc := enc) (C := Try.checked) false ⟨#[], #[.slice none 0 0, .int .i64 0, .string ⟨#[]⟩], []⟩ 8 (by kernel_rfl) (by kernel_rfl) (by kernel_rfl) (by kernel_rfl)) ?_
  intro W base args ds gs before hval0 hW hcnd hsz0 _
  have hsz : (DataW.weightsEach Try.prog (Try.f6.params.toList ++ Rows.tableTurnsSpec.plain.varTypes Try.prog) (ds ++ gs)).all (· ≤ reachBytes) = true := hsz0
  have hval : ∀ (j : Nat) t v, Try.f6.params[j]? = some t → args[j]? = some v → Value.okWide Try.prog W .any base t v := hval0
  have hW' := hW
  obtain ⟨p, q, hA0, hV, rfl, hfz, hnd⟩ := hW
  have hA : DataW.TrodAll enc Try.prog W 0 (fun _ => true) true Try.f6.params.toList args.toList ds p := hA0
  rw [Try.params6] at hA hval hsz
  obtain ⟨v0, vs0, d0, ds0, p0, q0, hargs, rfl, rfl, h0, r0⟩ := trodAll_cons hA
  obtain ⟨v1, vs1, d1, ds1, p1, q1, rfl, rfl, rfl, h1, r1⟩ := trodAll_cons r0
  obtain ⟨v2, vs2, d2, ds2, p2, q2, rfl, rfl, rfl, h2, r2⟩ := trodAll_cons r1
  obtain ⟨rfl, rfl, rfl⟩ := trodAll_nil r2
  obtain rfl : args = #[v0, v1, v2] := by cases args; simp_all
  obtain ⟨rfl, rfl⟩ := trodVars_none hV
  have k0 := h0
  have lt0 : ∀ x ∈ p0, x.block < W.heap.size := by obtain ⟨m, hm⟩ := k0; exact DataW.trod_lt m _ _ _ hm
  obtain ⟨A0, len0, cap0, rfl⟩ := okWide_slice Try.underlying22 (hval 0 22 v0 rfl rfl)
  obtain ⟨fuel, hf⟩ := h0
  obtain ⟨l0, hr0, hs0, el⟩ := trod_strs_sized (by simpa [Value.cells] using hf)
  subst el
  have hq0 : ∀ k, k < l0.length → (l0.getD k ByteArray.empty).size ≤ 140737488355328 := fun k hk => by
    have := List.all_eq_true.1 hsz _ (DataW.weights_mem_each (j := 0) (t := 22) rfl rfl _ (hs0 k hk))
    have this : (l0.getD k ByteArray.empty).data.toList.length ≤ reachBytes := by simpa using this
    simp only [reachBytes] at this
    have e : (l0.getD k ByteArray.empty).data.toList.length = (l0.getD k ByteArray.empty).size := Array.length_toList
    omega
  obtain ⟨a1, rfl, rfl, rfl, wf1⟩ := open_int Try.underlying3 (hval 1 3 v1 rfl rfl) h1
  have k2 := h2
  have lt2 : ∀ x ∈ p2, x.block < W.heap.size := by obtain ⟨m, hm⟩ := k2; exact DataW.trod_lt m _ _ _ hm
  obtain ⟨a2, rfl, rfl, rfl, ws2⟩ := open_string Try.underlying9 (hval 2 9 v2 rfl rfl) h2
  have hz2 : a2.size ≤ 140737488355328 := by
    have := sized_string hsz (j := 2) (t := 9) rfl rfl
    simp only [reachBytes] at this
    have e : a2.data.toList.length = a2.size := Array.length_toList
    omega
  clear hA0 hval0 hsz0
  obtain ⟨k, hk⟩ := (⟨0, trivial⟩ : ∃ k : Nat, True)
  refine (turns.calls l0 A0 cap0 a1 a2 W hr0 hq0 hz2).mono ?_
  rintro e W' ⟨rfl, bel⟩
  exact ⟨_, rfl, _, _, _, [], _, [], hW', trodAll_mk1 (shut_bool Try.underlying4 _), (trodAll_cons_mk (Below.trod laidOut (by kernel_rfl) (of_decide_eq_true (by kernel_rfl)) k0 bel lt0) (trodAll_cons_mk (shut_int Try.underlying3 wf1) (trodAll_cons_mk (Below.trod laidOut (by kernel_rfl) (of_decide_eq_true (by kernel_rfl)) k2 bel lt2) trodAll_mk0))), rfl, bel.frame _, fun h => by cases h⟩
theorem over : Rows.tableTurnsRow.holds Try.pinned (OpenSpec.ofChange Rows.tableTurnsSpec) :=
  OpenClaim.holds_of_wide 6 Try.f6 rfl rfl rfl rfl rfl rfl rfl ⟨rfl, rfl, rfl, rfl, rfl⟩ rfl rfl rfl rfl rfl (by kernel_rfl) Try.func6 (by kernel_rfl)
    (of_decide_eq_true (by kernel_rfl)) (by unfold Func.isWrapper; first | (rw [if_pos (by decide +kernel)]; kernel_rfl) | (rw [if_neg (by decide +kernel)]; exact ⟨rfl, rfl⟩))
    (fun os started H enc _ => lifted os started H enc)
theorem proved : Rows.TableTurnsSaid := over
#print axioms proved
end Go.Proofs.Ytlainhbmfphojaa.tableTurns
namespace Go.Proofs.Ytlainhbmfphojaa
/-- The row, under a short name, for the claim. -/
theorem tableTurns_holds : Rows.TableTurnsSaid := tableTurns.proved
end Go.Proofs.Ytlainhbmfphojaa
