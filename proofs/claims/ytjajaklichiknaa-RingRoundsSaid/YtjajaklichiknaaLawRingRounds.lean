/- Proved: the law RingRounds answers true for every input, and its arguments read as before. No condition. -/
import Derived.Test.YtjajaklichiknaaRows
import Derived.Test.YtjajaklichiknaaIt3
import Derived.WalkKit
import Derived.ProofKit
import Derived.OpenShut
import Derived.ShutString
import Derived.ChangeOld
import Derived.Below
import Derived.SizedLaws
import Derived.JoinedCond
import Derived.Deep.Slices
import Derived.Deep.Strs
import Derived.Lib.SmallJoins
namespace Go.Proofs.Ytjajaklichiknaa.ringRounds
open Go.ChangeShapes Go.WideShapes Go.ChangeAt Go.RowKit Go.Proofs.Ytjajaklichiknaa.Rg Go.Proofs.YtjajaklichiknaaW.PrintWords
open Go.ChangeMaps (open_string shut_string)
set_option linter.unusedVariables false
theorem own : ownKnob Try.prog.godebug = none := by kernel_rfl
theorem laidOut : laidOutB Try.prog = true := by kernel_rfl
/-- A slice that reads, of whatever elements: what is told of each element is told of the row. -/
theorem openRow {H : Type} {enc : TypeId × Value → H} {P : Program} {w : World} {base : Nat} {spare : Nat → Bool} {held : Bool} {α : Type} [Inhabited α] (d : Kd α) (Q : α → Prop) {t e : TypeId} {fuel : Nat} {A : Option Addr} {len cap : Nat} {x : DataW H × List MemPlace}
    (ht : P.underlying t = some (.slice e)) (hs : P.cellsOf e = d.sz) (hel : ∀ n cs y, DataW.trod enc P w base spare held n e cs = some y → ∃ a : α, d.K w a cs ∧ Q a)
    (h : DataW.trod enc P w base spare held fuel t [.slice A len cap] = some x) : ∃ l : List α, len = l.length ∧ Kd.C d w A l.length l ∧ (∀ a ∈ l, Q a) ∧ l.length ≤ cap ∧ l.length ≤ maxLen := by
  rcases Go.Deep.open_slice ht h with ⟨hc, _⟩ | ⟨a, len', cap', m, n, D, Pl, hc, _, hl, hm, hm', _, hcell⟩
  · simp only [List.cons.injEq, Value.slice.injEq, and_true] at hc
    obtain ⟨rfl, rfl, rfl⟩ := hc
    exact ⟨[], rfl, ⟨rfl, by simp, fun h0 => absurd h0 (by simp)⟩, by simp, by simp, by simp⟩
  · simp only [List.cons.injEq, Value.slice.injEq, and_true] at hc
    obtain ⟨rfl, rfl, rfl⟩ := hc
    have hle : len ≤ m := by rw [hm']; split <;> omega
    have hall : ∀ i, i < len → ∃ b : α, (∃ cs, w.cells? base (a.add (i * P.cellsOf e)) (P.cellsOf e) = some cs ∧ d.K w b cs) ∧ Q b := by
      intro i hi
      obtain ⟨cs, h1, h2⟩ := hcell i (by omega)
      obtain ⟨b, hk, hq⟩ := hel _ _ _ h2
      exact ⟨b, ⟨cs, h1, hk⟩, hq⟩
    obtain ⟨f, hf⟩ := Go.Deep.choose_lt hall
    refine ⟨(List.range len).map f, by simp, ⟨rfl, ?_, fun h0 => ⟨a, rfl, fun j p hp => ?_⟩⟩, fun b hb => ?_, by simp; omega, by simp; omega⟩
    · simp only [List.length_map, List.length_range]
      unfold maxLen at hm
      omega
    · have hj : j < len := by
        have := List.getElem?_eq_some_iff.1 hp
        simpa using this.1
      have hpe : f j = p := by simpa [hj] using hp
      subst hpe
      obtain ⟨⟨cs, h1, h2⟩, _⟩ := hf j hj
      refine ⟨cs, by rw [d.K_len h2], h2, fun i u hu => ?_⟩
      obtain ⟨_, hlen, hc2⟩ := World.cells?_some h1
      rw [hs] at hc2 hlen
      have hi : i < d.sz := by
        have := (List.getElem?_eq_some_iff.1 hu).1
        omega
      rw [← Go.Deep.add_add]
      rw [hc2 i hi, hu]
    · simp only [List.mem_map, List.mem_range] at hb
      obtain ⟨i, hi, rfl⟩ := hb
      exact (hf i hi).2

/-- The same where the value's shape isn't known yet. -/
theorem openRowAny {H : Type} {enc : TypeId × Value → H} {P : Program} {w : World} {base : Nat} {spare : Nat → Bool} {held : Bool} {α : Type} [Inhabited α] (d : Kd α) (Q : α → Prop) {t e : TypeId} {fuel : Nat} {cs : List Value} {x : DataW H × List MemPlace}
    (ht : P.underlying t = some (.slice e)) (hs : P.cellsOf e = d.sz) (hel : ∀ n cs y, DataW.trod enc P w base spare held n e cs = some y → ∃ a : α, d.K w a cs ∧ Q a)
    (h : DataW.trod enc P w base spare held fuel t cs = some x) : ∃ (A : Option Addr) (cap : Nat) (l : List α), cs = [.slice A l.length cap] ∧ Kd.C d w A l.length l ∧ (∀ a ∈ l, Q a) ∧ l.length ≤ cap ∧ l.length ≤ maxLen := by
  have hf : ∃ A len cap, cs = [.slice A len cap] := by
    rcases Go.Deep.open_slice ht h with ⟨hc, _⟩ | ⟨a, len', cap', m, n, D, Pl, hc, _⟩
    · exact ⟨_, _, _, hc⟩
    · exact ⟨_, _, _, hc⟩
  obtain ⟨A, len, cap, rfl⟩ := hf
  obtain ⟨l, rfl, h1, h2, h3, h4⟩ := openRow d Q ht hs hel h
  exact ⟨A, cap, l, rfl, h1, h2, h3, h4⟩

theorem eli64 {H : Type} {enc : TypeId × Value → H} {W : World} {base : Nat} {spare : Nat → Bool} {held : Bool} : ∀ n cs y, DataW.trod enc Try.prog W base spare held n 3 cs = some y → ∃ a : Int, (Kd.int .i64).K W a cs ∧ True := by
  intro n cs y h
  obtain ⟨a, ea, _, wa⟩ := DataW.trod_int Try.underlying3 h
  subst ea
  exact ⟨a, rfl, trivial⟩

set_option maxRecDepth 100000 in
theorem lifted (os : Os) (started : os.Started) (H : Type) (enc : TypeId × Value → H) :
    ReturnsInHanded {} Try.checked os 6 .any (Rows.ringRoundsSpec.pre6 enc Try.prog Try.f6 Rows.ringRoundsRow.domain false) (Rows.ringRoundsSpec.post enc Try.prog Try.f6 false true false false) := by
  refine returnsInHanded_of_change_sized (C := Try.checked) own started (by kernel_rfl) Try.func6
    (ChangeSpec.witness6 (enc := enc) (C := Try.checked) false ⟨#[], #[.slice none 0 0, .slice none 0 0], []⟩ 8 (by kernel_rfl) (by kernel_rfl) (by kernel_rfl) (by kernel_rfl)) ?_
  intro W base args ds gs before hval0 hW hcnd hsz0 _
  have hsz : (DataW.weightsEach Try.prog (Try.f6.params.toList ++ Rows.ringRoundsSpec.plain.varTypes Try.prog) (ds ++ gs)).all (· ≤ reachBytes) = true := hsz0
  have hval : ∀ (j : Nat) t v, Try.f6.params[j]? = some t → args[j]? = some v → Value.okWide Try.prog W .any base t v := hval0
  have hW' := hW
  obtain ⟨p, q, hA0, hV, rfl, hfz, hnd⟩ := hW
  have hA : DataW.TrodAll enc Try.prog W 0 (fun _ => true) true Try.f6.params.toList args.toList ds p := hA0
  rw [Try.params6] at hA hval hsz
  obtain ⟨v0, vs0, d0, ds0, p0, q0, hargs, rfl, rfl, h0, r0⟩ := trodAll_cons hA
  obtain ⟨v1, vs1, d1, ds1, p1, q1, rfl, rfl, rfl, h1, r1⟩ := trodAll_cons r0
  obtain ⟨rfl, rfl, rfl⟩ := trodAll_nil r1
  obtain rfl : args = #[v0, v1] := by cases args; simp_all
  obtain ⟨rfl, rfl⟩ := trodVars_none hV
  obtain ⟨A0, len0, cap0, rfl⟩ := okWide_slice Try.underlying22 (hval 0 22 v0 rfl rfl)
  have k0 := h0
  have lt0 : ∀ x ∈ p0, x.block < W.heap.size := by obtain ⟨m, hm⟩ := k0; exact DataW.trod_lt m _ _ _ hm
  have hz0 : len0 * 8 ≤ 140737488355328 := by
    have hn : Go.Joins.sliceLen d0 = len0 := by
      obtain ⟨fuel, hf⟩ := k0
      exact Go.Joins.sliceLen_trod Try.underlying22 (by simpa [Value.cells] using hf)
    cases hd : d0 with
    | slice elems spare =>
      subst hd
      have := sized_slice hsz (j := 0) (t := 22) (e := 3) rfl rfl Try.underlying22
      rw [show Try.prog.bytesOf 3 = 8 by kernel_rfl] at this
      simp only [Go.Joins.sliceLen, reachBytes] at this hn
      omega
    | _ => subst hd; simp only [Go.Joins.sliceLen] at hn; omega
  obtain ⟨l0, rfl, hr0, qs0, hc0, hm0⟩ : ∃ l : List _, len0 = l.length ∧ Kd.C (Kd.int .i64) W A0 l.length l ∧ (∀ a ∈ l, True) ∧ l.length ≤ cap0 ∧ l.length ≤ maxLen := by
    obtain ⟨fuel, hf⟩ := h0
    exact openRow (Kd.int .i64) (fun a => True) Try.underlying22 (by kernel_rfl) (eli64 (held := true)) (by simpa [Value.cells] using hf)
  obtain ⟨A1, len1, cap1, rfl⟩ := okWide_slice Try.underlying22 (hval 1 22 v1 rfl rfl)
  have k1 := h1
  have lt1 : ∀ x ∈ p1, x.block < W.heap.size := by obtain ⟨m, hm⟩ := k1; exact DataW.trod_lt m _ _ _ hm
  have hz1 : len1 * 8 ≤ 140737488355328 := by
    have hn : Go.Joins.sliceLen d1 = len1 := by
      obtain ⟨fuel, hf⟩ := k1
      exact Go.Joins.sliceLen_trod Try.underlying22 (by simpa [Value.cells] using hf)
    cases hd : d1 with
    | slice elems spare =>
      subst hd
      have := sized_slice hsz (j := 1) (t := 22) (e := 3) rfl rfl Try.underlying22
      rw [show Try.prog.bytesOf 3 = 8 by kernel_rfl] at this
      simp only [Go.Joins.sliceLen, reachBytes] at this hn
      omega
    | _ => subst hd; simp only [Go.Joins.sliceLen] at hn; omega
  obtain ⟨l1, rfl, hr1, qs1, hc1, hm1⟩ : ∃ l : List _, len1 = l.length ∧ Kd.C (Kd.int .i64) W A1 l.length l ∧ (∀ a ∈ l, True) ∧ l.length ≤ cap1 ∧ l.length ≤ maxLen := by
    obtain ⟨fuel, hf⟩ := h1
    exact openRow (Kd.int .i64) (fun a => True) Try.underlying22 (by kernel_rfl) (eli64 (held := true)) (by simpa [Value.cells] using hf)
  clear hA0 hval0 hsz0
  obtain ⟨k, hk⟩ := (⟨0, trivial⟩ : ∃ k : Nat, True)
  refine (rounds.calls l0 l1 A0 A1 cap0 cap1 W (Kd.reads_of_C hr0) (Kd.reads_of_C hr1) (by omega) (by omega)).mono ?_
  rintro e W' ⟨rfl, bel⟩
  exact ⟨_, rfl, _, _, _, [], _, [], hW', trodAll_mk1 (shut_bool Try.underlying4 _), (trodAll_cons_mk (Below.trod laidOut (by kernel_rfl) (of_decide_eq_true (by kernel_rfl)) k0 bel lt0) (trodAll_cons_mk (Below.trod laidOut (by kernel_rfl) (of_decide_eq_true (by kernel_rfl)) k1 bel lt1) trodAll_mk0)), rfl, bel.frame _, fun h => by cases h⟩
theorem over : Rows.ringRoundsRow.holds Try.pinned (OpenSpec.ofChange Rows.ringRoundsSpec) :=
  OpenClaim.holds_of_wide 6 Try.f6 rfl rfl rfl rfl rfl rfl rfl ⟨rfl, rfl, rfl, rfl, rfl⟩ rfl rfl rfl rfl rfl (by kernel_rfl) Try.func6 (by kernel_rfl)
    (of_decide_eq_true (by kernel_rfl)) (by unfold Func.isWrapper; first | (rw [if_pos (by decide +kernel)]; kernel_rfl) | (rw [if_neg (by decide +kernel)]; exact ⟨rfl, rfl⟩))
    (fun os started H enc _ => lifted os started H enc)
theorem proved : Rows.RingRoundsSaid := over
#print axioms proved
end Go.Proofs.Ytjajaklichiknaa.ringRounds
namespace Go.Proofs.Ytjajaklichiknaa
/-- The row, under a short name, for the claim. -/
theorem ringRounds_holds : Rows.RingRoundsSaid := ringRounds.proved
end Go.Proofs.Ytjajaklichiknaa
