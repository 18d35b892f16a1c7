/- Proved: the law RingOrder answers true for every input of bulk at most 1048576, and its arguments read as before. The row lets in what is of that bulk. -/
import Derived.Test.YtjajaklichiknaaRows
import Derived.Test.YtjajaklichiknaaOrder
import Derived.WalkKit
import Derived.ProofKit
import Derived.OpenShut
import Derived.ShutString
import Derived.ChangeOld
import Derived.Below
import Derived.SizedLaws
import Derived.JoinedCond
import Derived.Deep.Slices
import Derived.Deep.Strs
import Derived.Lib.SmallJoins
namespace Go.Proofs.Ytjajaklichiknaa.ringOrder
open Go.ChangeShapes Go.WideShapes Go.ChangeAt Go.RowKit Go.Proofs.Ytjajaklichiknaa.Rg Go.Proofs.YtjajaklichiknaaW.PrintWords
open Go.ChangeMaps (open_string shut_string)
set_option linter.unusedVariables false
theorem own : ownKnob Try.prog.godebug = none := by kernel_rfl
theorem laidOut : laidOutB Try.prog = true := by kernel_rfl
/-- A slice that reads, of whatever elements: what is told of each element is told of the row. -/
theorem openRow {H : Type} {enc : TypeId × Value → H} {P : Program} {w : World} {base : Nat} {spare : Nat → Bool} {held : Bool} {α : Type} [Inhabited α] (d : Kd α) (Q : α → Prop) {t e : TypeId} {fuel : Nat} {A : Option Addr} {len cap : Nat} {x : DataW H × List MemPlace}
    (ht : P.underlying t = some (.slice e)) (hs : P.cellsOf e = d.sz) (hel : ∀ n cs y, DataW.trod enc P w base spare held n e cs = some y → ∃ a : α, d.K w a cs ∧ Q a)
    (h : DataW.trod enc P w base spare held fuel t [.slice A len cap] = some x) : ∃ l : List α, len = l.length ∧ Kd.C d w A l.length l ∧ (∀ a ∈ l, Q a) ∧ l.length ≤ cap ∧ l.length ≤ maxLen := by
  rcases Go.Deep.open_slice ht h with ⟨hc, _⟩ | ⟨a, len', cap', m, n, D, Pl, hc, _, hl, hm, hm', _, hcell⟩
  · simp only [List.cons.injEq, Value.slice.injEq, and_true] at hc
    obtain ⟨rfl, rfl, rfl⟩ := hc
    exact ⟨[], rfl, ⟨rfl, by simp, fun h0 => absurd h0 (by simp)⟩, by simp, by simp, by simp⟩
  · simp only [List.cons.injEq, Value.slice.injEq, and_true] at hc
    obtain ⟨rfl, rfl, rfl⟩ := hc
    have hle : len ≤ m := by rw [hm']; split <;> omega
    have hall : ∀ i, i < len → ∃ b : α, (∃ cs, w.cells? base (a.add (i * P.cellsOf e)) (P.cellsOf e) = some cs ∧ d.K w b cs) ∧ Q b := by
      intro i hi
      obtain ⟨cs, h1, h2⟩ := hcell i (by omega)
      obtain ⟨b, hk, hq⟩ := hel _ _ _ h2
      exact ⟨b, ⟨cs, h1, hk⟩, hq⟩
    obtain ⟨f, hf⟩ := Go.Deep.choose_lt hall
    refine ⟨(List.range len).map f, by simp, ⟨rfl, ?_, fun h0 => ⟨a, rfl, fun j p hp => ?_⟩⟩, fun b hb => ?_, by simp; omega, by simp; omega⟩
    · simp only [List.length_map, List.length_range]
      unfold maxLen at hm
      omega
    · have hj : j < len := by
        have := List.getElem?_eq_some_iff.1 hp
        simpa using this.1
      have hpe : f j = p := by simpa [hj] using hp
      subst hpe
      obtain ⟨⟨cs, h1, h2⟩, _⟩ := hf j hj
      refine ⟨cs, by rw [d.K_len h2], h2, fun i u hu => ?_⟩
      obtain ⟨_, hlen, hc2⟩ := World.cells?_some h1
      rw [hs] at hc2 hlen
      have hi : i < d.sz := by
        have := (List.getElem?_eq_some_iff.1 hu).1
        omega
      rw [← Go.Deep.add_add]
      rw [hc2 i hi, hu]
    · simp only [List.mem_map, List.mem_range] at hb
      obtain ⟨i, hi, rfl⟩ := hb
      exact (hf i hi).2

/-- The same where the value's shape isn't known yet. -/
theorem openRowAny {H : Type} {enc : TypeId × Value → H} {P : Program} {w : World} {base : Nat} {spare : Nat → Bool} {held : Bool} {α : Type} [Inhabited α] (d : Kd α) (Q : α → Prop) {t e : TypeId} {fuel : Nat} {cs : List Value} {x : DataW H × List MemPlace}
    (ht : P.underlying t = some (.slice e)) (hs : P.cellsOf e = d.sz) (hel : ∀ n cs y, DataW.trod enc P w base spare held n e cs = some y → ∃ a : α, d.K w a cs ∧ Q a)
    (h : DataW.trod enc P w base spare held fuel t cs = some x) : ∃ (A : Option Addr) (cap : Nat) (l : List α), cs = [.slice A l.length cap] ∧ Kd.C d w A l.length l ∧ (∀ a ∈ l, Q a) ∧ l.length ≤ cap ∧ l.length ≤ maxLen := by
  have hf : ∃ A len cap, cs = [.slice A len cap] := by
    rcases Go.Deep.open_slice ht h with ⟨hc, _⟩ | ⟨a, len', cap', m, n, D, Pl, hc, _⟩
    · exact ⟨_, _, _, hc⟩
    · exact ⟨_, _, _, hc⟩
  obtain ⟨A, len, cap, rfl⟩ := hf
  obtain ⟨l, rfl, h1, h2, h3, h4⟩ := openRow d Q ht hs hel h
  exact ⟨A, cap, l, rfl, h1, h2, h3, h4⟩

/-- A slice that reads: how long its datum is. -/
theorem openLen {H : Type} {enc : TypeId × Value → H} {P : Program} {w : World} {base : Nat} {spare : Nat → Bool} {held : Bool} {t e : TypeId} {fuel : Nat} {A : Option Addr} {len cap : Nat} {x : DataW H × List MemPlace}
    (ht : P.underlying t = some (.slice e)) (h : DataW.trod enc P w base spare held fuel t [.slice A len cap] = some x) : (x.1 = .nil ∧ len = 0) ∨ ∃ el sp, x.1 = .slice el sp ∧ el.length = len := by
  rcases Go.Deep.open_slice ht h with ⟨hc, hx⟩ | ⟨a, len', cap', m, n, D, Pl, hc, _, hl, hm, hm', hx, _⟩
  · simp only [List.cons.injEq, Value.slice.injEq, and_true] at hc
    obtain ⟨rfl, rfl, rfl⟩ := hc
    exact .inl ⟨by rw [hx], rfl⟩
  · simp only [List.cons.injEq, Value.slice.injEq, and_true] at hc
    obtain ⟨rfl, rfl, rfl⟩ := hc
    exact .inr ⟨_, _, by rw [hx], by simp⟩

theorem bulk_pos {H : Type} (d : DataW H) : 1 ≤ Rows.uptoBulk d := by
  cases d with
  | lit l => cases l <;> simp [Rows.uptoBulk]
  | _ => simp [Rows.uptoBulk]

theorem bulk_all {H : Type} (ds : List (DataW H)) : ds.length ≤ Rows.uptoBulkAll ds := by
  induction ds with
  | nil => simp [Rows.uptoBulkAll]
  | cons d ds ih =>
    have := bulk_pos d
    simp only [Rows.uptoBulkAll, List.length_cons]
    omega

theorem len_bulk {H : Type} {d : DataW H} {n : Nat} (h : (d = .nil ∧ n = 0) ∨ ∃ el sp, d = .slice el sp ∧ el.length = n) : n ≤ Rows.uptoBulk d := by
  rcases h with ⟨_, rfl⟩ | ⟨el, sp, rfl, rfl⟩
  · exact Nat.zero_le _
  · have := bulk_all el
    simp only [Rows.uptoBulk]
    omega

theorem bulk_mem {H : Type} {d : DataW H} : ∀ {ds : List (DataW H)}, d ∈ ds → Rows.uptoBulk d ≤ Rows.uptoBulkAll ds
  | [], h => by cases h
  | a :: ds, h => by
    simp only [Rows.uptoBulkAll]
    rcases List.mem_cons.1 h with rfl | h
    · omega
    · have := bulk_mem h
      omega

theorem eli64 {H : Type} {enc : TypeId × Value → H} {W : World} {base : Nat} {spare : Nat → Bool} {held : Bool} : ∀ n cs y, DataW.trod enc Try.prog W base spare held n 3 cs = some y → ∃ a : Int, (Kd.int .i64).K W a cs ∧ True := by
  intro n cs y h
  obtain ⟨a, ea, _, wa⟩ := DataW.trod_int Try.underlying3 h
  subst ea
  exact ⟨a, rfl, trivial⟩

set_option maxRecDepth 100000 in
theorem lifted (os : Os) (started : os.Started) (H : Type) (enc : TypeId × Value → H) (F : Stop.Interp) :
    ReturnsInHanded {} Try.checked os 3 .any ((Rows.OpenSpec.upto Rows.ringOrderSpec).pre6 enc Try.prog Try.f3 Rows.ringOrderUptoRow.domain false) (((Rows.OpenSpec.upto Rows.ringOrderSpec).at F).post enc Try.prog Try.f3 false true false false) := by
  refine returnsInHanded_of_cond (C := Try.checked) (s := Rows.OpenSpec.upto Rows.ringOrderSpec) (k := Rows.uptoSmall) rfl own started (by kernel_rfl) Try.func3
    (OpenSpec.witness (enc := enc) (C := Try.checked) (s := Rows.OpenSpec.upto Rows.ringOrderSpec) (k := Rows.uptoSmall) rfl false ⟨#[], #[.int .i64 0, .slice none 0 0], []⟩ 8 (by kernel_rfl) (by kernel_rfl) (by kernel_rfl)
      (x := ([.lit (.int .i64 0), .nil], [], [])) (by kernel_rfl) rfl (by kernel_rfl)) ?_
  intro W base args ds gs before hval0 hW _ hk0 _
  have hval : ∀ (j : Nat) t v, Try.f3.params[j]? = some t → args[j]? = some v → Value.okWide Try.prog W .any base t v := hval0
  have hW' := hW
  obtain ⟨p, q, hA0, hV, rfl, hfz, hnd⟩ := hW
  have hA : DataW.TrodAll enc Try.prog W 0 (fun _ => true) true Try.f3.params.toList args.toList ds p := hA0
  rw [Try.params3] at hA hval
  obtain ⟨v0, vs0, d0, ds0, p0, q0, hargs, rfl, rfl, h0, r0⟩ := trodAll_cons hA
  obtain ⟨v1, vs1, d1, ds1, p1, q1, rfl, rfl, rfl, h1, r1⟩ := trodAll_cons r0
  obtain ⟨rfl, rfl, rfl⟩ := trodAll_nil r1
  obtain rfl : args = #[v0, v1] := by cases args; simp_all
  obtain ⟨rfl, rfl⟩ := trodVars_none hV
  obtain ⟨a0, rfl, rfl, rfl, wf0⟩ := open_int Try.underlying3 (hval 0 3 v0 rfl rfl) h0
  obtain ⟨A1, len1, cap1, rfl⟩ := okWide_slice Try.underlying22 (hval 1 22 v1 rfl rfl)
  have k1 := h1
  have lt1 : ∀ x ∈ p1, x.block < W.heap.size := by obtain ⟨m, hm⟩ := k1; exact DataW.trod_lt m _ _ _ hm
  obtain ⟨l1, rfl, hr1, qs1, hc1, hm1⟩ : ∃ l : List _, len1 = l.length ∧ Kd.C (Kd.int .i64) W A1 l.length l ∧ (∀ a ∈ l, True) ∧ l.length ≤ cap1 ∧ l.length ≤ maxLen := by
    obtain ⟨fuel, hf⟩ := h1
    exact openRow (Kd.int .i64) (fun a => True) Try.underlying22 (by kernel_rfl) (eli64 (held := true)) (by simpa [Value.cells] using hf)
  have hb1 : l1.length ≤ 1048576 := by
    have hall : Rows.uptoBulkAll [.lit (.int .i64 a0), d1] ≤ 1048576 := of_decide_eq_true hk0
    obtain ⟨fuel, hf⟩ := k1
    exact Nat.le_trans (len_bulk (openLen Try.underlying22 (by simpa [Value.cells] using hf))) (Nat.le_trans (bulk_mem (by simp)) hall)
  clear hA0 hval0
  obtain ⟨k, hk⟩ := (⟨0, trivial⟩ : ∃ k : Nat, True)
  refine (order.calls a0 A1 cap1 l1 hb1 W (Kd.reads_of_C hr1)).mono ?_
  rintro e W' ⟨rfl, bel⟩
  exact ⟨_, rfl, _, _, _, [], _, [], hW', trodAll_mk1 (shut_bool Try.underlying4 _), (trodAll_cons_mk (shut_int Try.underlying3 wf0) (trodAll_cons_mk (Below.trod laidOut (by kernel_rfl) (of_decide_eq_true (by kernel_rfl)) k1 bel lt1) trodAll_mk0)), rfl, bel.frame _, fun h => by cases h⟩
theorem over : Rows.RingOrderUptoSaid :=
  OpenClaim.holds_of_cond 3 Try.f3 rfl rfl rfl rfl rfl rfl rfl ⟨rfl, rfl, rfl, rfl, rfl⟩ rfl rfl rfl rfl rfl (by kernel_rfl) Try.func3 (by kernel_rfl)
    (of_decide_eq_true (by kernel_rfl)) (by unfold Func.isWrapper; first | (rw [if_pos (by decide +kernel)]; kernel_rfl) | (rw [if_neg (by decide +kernel)]; exact ⟨rfl, rfl⟩))
    (fun os started H enc _ F => lifted os started H enc F)
theorem proved : Rows.RingOrderUptoSaid := over
#print axioms proved
end Go.Proofs.Ytjajaklichiknaa.ringOrder
namespace Go.Proofs.Ytjajaklichiknaa
/-- The row, under a short name, for the claim. -/
theorem ringOrder_holds : Rows.RingOrderUptoSaid := ringOrder.proved
end Go.Proofs.Ytjajaklichiknaa
