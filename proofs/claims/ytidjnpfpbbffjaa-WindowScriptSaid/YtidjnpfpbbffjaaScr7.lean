/- Proved: what reads as a slice of things to do is a row of these, each of its kind. -/
import Derived.Test.YtidjnpfpbbffjaaScr5
import Derived.Laws.Cover2
import Derived.Lib.SmallJoins
import Derived.SizedLaws
import Derived.Deep.Slices
namespace Go.Proofs.Ytidjnpfpbbffjaa.Scr
open Go.ChangeShapes Go.WideShapes Go.ChangeAt Go.RowKit Go.Proofs.YtidjnpfpbbffjaaW.PrintWords
set_option linter.unusedVariables false
set_option linter.unusedSimpArgs false
section
variable {H : Type} {enc : TypeId × Value → H} {w : World} {base : Nat} {spare : Nat → Bool} {held : Bool} {fuel : Nat}
theorem row_cons {n : Nat} {l : List Value} (h : l.length = n + 1) : ∃ c r, l = c :: r ∧ r.length = n := by
  match l, h with
  | c :: r, h => exact ⟨c, r, rfl, by simpa using h⟩
theorem row_nil {l : List Value} (h : l.length = 0) : l = [] := List.eq_nil_of_length_eq_zero h
theorem cells3 : Try.prog.cellsOf 3 = 1 := by kernel_rfl
theorem cells4 : Try.prog.cellsOf 4 = 1 := by kernel_rfl
theorem cells24 : Try.prog.cellsOf 24 = 1 := by kernel_rfl
theorem cells34 : Try.prog.cellsOf 34 = 4 := by kernel_rfl
theorem wf_u64 {n : Int} (h : (Lit.int .u64 n).wf = true) : 0 ≤ n ∧ n ≤ 18446744073709551615 := bounds_u64 h
theorem trod_op {cs : List Value} {x : DataW H × List MemPlace} (h : DataW.trod enc Try.prog w base spare held fuel 34 cs = some x) : ∃ o : OpV, cs = o.cs ∧ o.seq < 18446744073709551616 := by
  obtain ⟨xs, n, _, rfl, hl, hlen, hf⟩ := DataW.trod_struct Try.underlying34 h
  rw [cells34] at hl
  obtain ⟨c0, r0, rfl, l0⟩ := row_cons hl
  obtain ⟨c1, r1, rfl, l1⟩ := row_cons l0
  obtain ⟨c2, r2, rfl, l2⟩ := row_cons l1
  obtain ⟨c3, r3, rfl, l3⟩ := row_cons l2
  obtain rfl := row_nil l3
  clear hl l0 l1 l2 l3
  have f0 : DataW.trod enc Try.prog w base spare held n 3 (([c0, c1, c2, c3].drop 0).take (Try.prog.cellsOf 3)) = xs[0]? := hf 0 _ rfl
  simp only [cells3, List.drop_succ_cons, List.drop_zero, List.take_succ_cons, List.take_zero] at f0
  cases e0 : xs[0]? with
  | none => rw [List.getElem?_eq_none_iff, hlen] at e0; simp at e0
  | some y0 =>
  rw [e0] at f0
  obtain ⟨pos, q0, _, wpos⟩ := DataW.trod_int Try.underlying3 f0
  simp only [List.cons.injEq, and_true] at q0
  have f1 : DataW.trod enc Try.prog w base spare held n 4 (([c0, c1, c2, c3].drop 1).take (Try.prog.cellsOf 4)) = xs[1]? := hf 1 _ rfl
  simp only [cells4, List.drop_succ_cons, List.drop_zero, List.take_succ_cons, List.take_zero] at f1
  cases e1 : xs[1]? with
  | none => rw [List.getElem?_eq_none_iff, hlen] at e1; simp at e1
  | some y1 =>
  rw [e1] at f1
  obtain ⟨look, q1, _⟩ := DataW.trod_bool Try.underlying4 f1
  simp only [List.cons.injEq, and_true] at q1
  have f2 : DataW.trod enc Try.prog w base spare held n 4 (([c0, c1, c2, c3].drop 2).take (Try.prog.cellsOf 4)) = xs[2]? := hf 2 _ rfl
  simp only [cells4, List.drop_succ_cons, List.drop_zero, List.take_succ_cons, List.take_zero] at f2
  cases e2 : xs[2]? with
  | none => rw [List.getElem?_eq_none_iff, hlen] at e2; simp at e2
  | some y2 =>
  rw [e2] at f2
  obtain ⟨copy, q2, _⟩ := DataW.trod_bool Try.underlying4 f2
  simp only [List.cons.injEq, and_true] at q2
  have f3 : DataW.trod enc Try.prog w base spare held n 24 (([c0, c1, c2, c3].drop 3).take (Try.prog.cellsOf 24)) = xs[3]? := hf 3 _ rfl
  simp only [cells24, List.drop_succ_cons, List.drop_zero, List.take_succ_cons, List.take_zero] at f3
  cases e3 : xs[3]? with
  | none => rw [List.getElem?_eq_none_iff, hlen] at e3; simp at e3
  | some y3 =>
  rw [e3] at f3
  obtain ⟨seq, q3, _, wseq⟩ := DataW.trod_int Try.underlying24 f3
  simp only [List.cons.injEq, and_true] at q3
  obtain ⟨b0, b1⟩ := wf_u64 wseq
  obtain ⟨s, rfl⟩ := Int.eq_ofNat_of_zero_le b0
  refine ⟨⟨pos, look, copy, s⟩, ?_, by show s < 18446744073709551616; omega⟩
  subst q0 q1 q2 q3
  rfl
theorem trod_ops {A : Option Addr} {n c : Nat} {x : DataW H × List MemPlace} (h : DataW.trod enc Try.prog w base spare held fuel 22 [.slice A n c] = some x) : ∃ l : List OpV, ORow w A l.length l ∧ (∀ k, k < l.length → (l.getD k default).seq < 18446744073709551616) ∧ n = l.length ∧ l.length ≤ 9223372036854775807 := by
  rcases Go.Deep.open_slice Try.underlying22 h with ⟨hc, _⟩ | ⟨a, len', cap', m, k, D, Pl, hc, _, hl, hm, hm', _, hcell⟩
  · simp only [List.cons.injEq, Value.slice.injEq, and_true] at hc
    obtain ⟨rfl, rfl, rfl⟩ := hc
    exact ⟨[], ⟨rfl, fun k hk => absurd hk (Nat.not_lt_zero k)⟩, fun k hk => absurd hk (Nat.not_lt_zero k), rfl, Nat.zero_le _⟩
  · simp only [List.cons.injEq, Value.slice.injEq, and_true] at hc
    obtain ⟨rfl, rfl, rfl⟩ := hc
    have hle : n ≤ m := by rw [hm']; split <;> omega
    have hall : ∀ i, i < n → ∃ o : OpV, At w (a.add (i * 4)) o.cs ∧ o.seq < 18446744073709551616 := by
      intro i hi
      obtain ⟨cs, h1, h2⟩ := hcell i (by omega)
      obtain ⟨o, rfl, b0⟩ := trod_op h2
      obtain ⟨_, hlen, hc2⟩ := World.cells?_some h1
      rw [cells34] at hc2
      refine ⟨o, ⟨fun j v hj => ?_⟩, b0⟩
      have hj4 : j < 4 := (List.getElem?_eq_some_iff.1 hj).1
      rw [hc2 j hj4]
      exact hj
    obtain ⟨f, hf⟩ := Go.Deep.choose_lt hall
    have hg : ∀ i, i < n → ((List.range n).map f).getD i default = f i := fun i hi => by simp [List.getD_eq_getElem?_getD, hi]
    have hln : ((List.range n).map f).length = n := by simp
    refine ⟨(List.range n).map f, ⟨rfl, fun k hk => ⟨a, rfl, ?_⟩⟩, fun k hk => ?_, hln.symm, ?_⟩
    · rw [hln] at hk
      rw [hg k hk]; exact (hf k hk).1
    · rw [hln] at hk
      rw [hg k hk]; exact (hf k hk).2
    · rw [hln]
      unfold maxLen at hm
      omega
end
end Go.Proofs.Ytidjnpfpbbffjaa.Scr
