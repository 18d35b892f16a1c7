/- Proved: what reads as a Car, a thing that is seen, is so many cells, each of its kind. -/
import Derived.Test.YtjffkidfoapbjaaProg
import Derived.Laws.Cover2
import Derived.Lib.SmallJoins
namespace Go.Proofs.Ytjffkidfoapbjaa.Fl
open Go.ChangeShapes Go.WideShapes Go.ChangeAt Go.RowKit
set_option linter.unusedVariables false
section
variable {H : Type} {enc : TypeId × Value → H} {w : World} {base : Nat} {spare : Nat → Bool} {held : Bool} {fuel : Nat}
theorem wf_i64 {n : Int} (h : (Lit.int .i64 n).wf = true) : -9223372036854775808 ≤ n ∧ n ≤ 9223372036854775807 := by
  simp [Lit.wf] at h
  exact ⟨h.1, h.2⟩
theorem f32_lt {n : Nat} (h : (Lit.float .f32 n).wf = true) : n < 4294967296 := by
  simp [Lit.wf] at h
  exact h
theorem row_cons {n : Nat} {l : List Value} (h : l.length = n + 1) : ∃ c r, l = c :: r ∧ r.length = n := by
  match l, h with
  | c :: r, h => exact ⟨c, r, rfl, by simpa using h⟩
theorem row_nil {l : List Value} (h : l.length = 0) : l = [] := List.eq_nil_of_length_eq_zero h
theorem cells2 : Try.prog.cellsOf 2 = 1 := by kernel_rfl
theorem cells3 : Try.prog.cellsOf 3 = 1 := by kernel_rfl
theorem cells9 : Try.prog.cellsOf 9 = 1 := by kernel_rfl
theorem cells22 : Try.prog.cellsOf 22 = 1 := by kernel_rfl
theorem cells38 : Try.prog.cellsOf 38 = 2 := by kernel_rfl
theorem cells40 : Try.prog.cellsOf 40 = 14 := by kernel_rfl
theorem cells44 : Try.prog.cellsOf 44 = 1 := by kernel_rfl
theorem cells45 : Try.prog.cellsOf 45 = 1 := by kernel_rfl
theorem cells47 : Try.prog.cellsOf 47 = 16 := by kernel_rfl
theorem cells55 : Try.prog.cellsOf 55 = 5 := by kernel_rfl
theorem trod_vec {cs : List Value} {x : DataW H × List MemPlace} (h : DataW.trod enc Try.prog w base spare held fuel 38 cs = some x) : ∃ (x : Int) (y : Int), cs = [.int .i64 x, .int .i64 y] := by
  obtain ⟨xs, n, _, rfl, hl, hlen, hf⟩ := DataW.trod_struct Try.underlying38 h
  rw [cells38] at hl
  obtain ⟨c0, r0, rfl, l0⟩ := row_cons hl
  obtain ⟨c1, r1, rfl, l1⟩ := row_cons l0
  obtain rfl := row_nil l1
  clear hl l0 l1
  have f0 : DataW.trod enc Try.prog w base spare held n 2 (([c0, c1].drop 0).take (Try.prog.cellsOf 2)) = xs[0]? := hf 0 _ rfl
  simp only [cells2, List.drop_zero, List.take_succ_cons, List.take_zero] at f0
  cases e0 : xs[0]? with
  | none => rw [List.getElem?_eq_none_iff, hlen] at e0; simp at e0
  | some y0 =>
  rw [e0] at f0
  obtain ⟨x, q0, _, wx⟩ := DataW.trod_int Try.underlying2 f0
  simp only [List.cons.injEq, and_true] at q0
  have f1 : DataW.trod enc Try.prog w base spare held n 2 (([c0, c1].drop 1).take (Try.prog.cellsOf 2)) = xs[1]? := hf 1 _ rfl
  simp only [cells2, List.drop_succ_cons, List.drop_zero, List.take_succ_cons, List.take_zero] at f1
  cases e1 : xs[1]? with
  | none => rw [List.getElem?_eq_none_iff, hlen] at e1; simp at e1
  | some y1 =>
  rw [e1] at f1
  obtain ⟨y, q1, _, wy⟩ := DataW.trod_int Try.underlying2 f1
  simp only [List.cons.injEq, and_true] at q1
  refine ⟨x, y, ?_⟩
  simp only [List.cons.injEq, and_true]
  exact ⟨q0, q1⟩
theorem trod_car {cs : List Value} {x : DataW H × List MemPlace} (h : DataW.trod enc Try.prog w base spare held fuel 40 cs = some x) : ∃ (pl : Int) (nm : ByteArray) (x : Int) (y : Int) (vx : Int) (vy : Int) (hd : Int) (he : Int) (en : Int) (am : Int) (co : Int) (wt : Int) (sp : Int) (sc : Int), cs = [.int .i64 pl, .string nm, .int .i64 x, .int .i64 y, .int .i64 vx, .int .i64 vy, .int .i64 hd, .int .i64 he, .int .i64 en, .int .i64 am, .int .i64 co, .int .i64 wt, .int .i64 sp, .int .i64 sc] ∧ (-9223372036854775808 ≤ hd ∧ hd ≤ 9223372036854775807) := by
  obtain ⟨xs, n, _, rfl, hl, hlen, hf⟩ := DataW.trod_struct Try.underlying40 h
  rw [cells40] at hl
  obtain ⟨c0, r0, rfl, l0⟩ := row_cons hl
  obtain ⟨c1, r1, rfl, l1⟩ := row_cons l0
  obtain ⟨c2, r2, rfl, l2⟩ := row_cons l1
  obtain ⟨c3, r3, rfl, l3⟩ := row_cons l2
  obtain ⟨c4, r4, rfl, l4⟩ := row_cons l3
  obtain ⟨c5, r5, rfl, l5⟩ := row_cons l4
  obtain ⟨c6, r6, rfl, l6⟩ := row_cons l5
  obtain ⟨c7, r7, rfl, l7⟩ := row_cons l6
  obtain ⟨c8, r8, rfl, l8⟩ := row_cons l7
  obtain ⟨c9, r9, rfl, l9⟩ := row_cons l8
  obtain ⟨c10, r10, rfl, l10⟩ := row_cons l9
  obtain ⟨c11, r11, rfl, l11⟩ := row_cons l10
  obtain ⟨c12, r12, rfl, l12⟩ := row_cons l11
  obtain ⟨c13, r13, rfl, l13⟩ := row_cons l12
  obtain rfl := row_nil l13
  clear hl l0 l1 l2 l3 l4 l5 l6 l7 l8 l9 l10 l11 l12 l13
  have f0 : DataW.trod enc Try.prog w base spare held n 3 (([c0, c1, c2, c3, c4, c5, c6, c7, c8, c9, c10, c11, c12, c13].drop 0).take (Try.prog.cellsOf 3)) = xs[0]? := hf 0 _ rfl
  simp only [cells3, List.drop_zero, List.take_succ_cons, List.take_zero] at f0
  cases e0 : xs[0]? with
  | none => rw [List.getElem?_eq_none_iff, hlen] at e0; simp at e0
  | some y0 =>
  rw [e0] at f0
  obtain ⟨pl, q0, _, wpl⟩ := DataW.trod_int Try.underlying3 f0
  simp only [List.cons.injEq, and_true] at q0
  have f1 : DataW.trod enc Try.prog w base spare held n 9 (([c0, c1, c2, c3, c4, c5, c6, c7, c8, c9, c10, c11, c12, c13].drop 1).take (Try.prog.cellsOf 9)) = xs[1]? := hf 1 _ rfl
  simp only [cells9, List.drop_succ_cons, List.drop_zero, List.take_succ_cons, List.take_zero] at f1
  cases e1 : xs[1]? with
  | none => rw [List.getElem?_eq_none_iff, hlen] at e1; simp at e1
  | some y1 =>
  rw [e1] at f1
  obtain ⟨nm, q1, _, _⟩ := DataW.trod_string Try.underlying9 f1
  simp only [List.cons.injEq, and_true] at q1
  have f2 : DataW.trod enc Try.prog w base spare held n 38 (([c0, c1, c2, c3, c4, c5, c6, c7, c8, c9, c10, c11, c12, c13].drop 2).take (Try.prog.cellsOf 38)) = xs[2]? := hf 2 _ rfl
  simp only [cells38, List.drop_succ_cons, List.drop_zero, List.take_succ_cons, List.take_zero] at f2
  cases e2 : xs[2]? with
  | none => rw [List.getElem?_eq_none_iff, hlen] at e2; simp at e2
  | some y2 =>
  rw [e2] at f2
  obtain ⟨x, y, q2⟩ := trod_vec f2
  simp only [List.cons.injEq, and_true] at q2
  have f3 : DataW.trod enc Try.prog w base spare held n 38 (([c0, c1, c2, c3, c4, c5, c6, c7, c8, c9, c10, c11, c12, c13].drop 4).take (Try.prog.cellsOf 38)) = xs[3]? := hf 3 _ rfl
  simp only [cells38, List.drop_succ_cons, List.drop_zero, List.take_succ_cons, List.take_zero] at f3
  cases e3 : xs[3]? with
  | none => rw [List.getElem?_eq_none_iff, hlen] at e3; simp at e3
  | some y3 =>
  rw [e3] at f3
  obtain ⟨vx, vy, q3⟩ := trod_vec f3
  simp only [List.cons.injEq, and_true] at q3
  have f4 : DataW.trod enc Try.prog w base spare held n 3 (([c0, c1, c2, c3, c4, c5, c6, c7, c8, c9, c10, c11, c12, c13].drop 6).take (Try.prog.cellsOf 3)) = xs[4]? := hf 4 _ rfl
  simp only [cells3, List.drop_succ_cons, List.drop_zero, List.take_succ_cons, List.take_zero] at f4
  cases e4 : xs[4]? with
  | none => rw [List.getElem?_eq_none_iff, hlen] at e4; simp at e4
  | some y4 =>
  rw [e4] at f4
  obtain ⟨hd, q4, _, whd⟩ := DataW.trod_int Try.underlying3 f4
  simp only [List.cons.injEq, and_true] at q4
  have f5 : DataW.trod enc Try.prog w base spare held n 3 (([c0, c1, c2, c3, c4, c5, c6, c7, c8, c9, c10, c11, c12, c13].drop 7).take (Try.prog.cellsOf 3)) = xs[5]? := hf 5 _ rfl
  simp only [cells3, List.drop_succ_cons, List.drop_zero, List.take_succ_cons, List.take_zero] at f5
  cases e5 : xs[5]? with
  | none => rw [List.getElem?_eq_none_iff, hlen] at e5; simp at e5
  | some y5 =>
  rw [e5] at f5
  obtain ⟨he, q5, _, whe⟩ := DataW.trod_int Try.underlying3 f5
  simp only [List.cons.injEq, and_true] at q5
  have f6 : DataW.trod enc Try.prog w base spare held n 3 (([c0, c1, c2, c3, c4, c5, c6, c7, c8, c9, c10, c11, c12, c13].drop 8).take (Try.prog.cellsOf 3)) = xs[6]? := hf 6 _ rfl
  simp only [cells3, List.drop_succ_cons, List.drop_zero, List.take_succ_cons, List.take_zero] at f6
  cases e6 : xs[6]? with
  | none => rw [List.getElem?_eq_none_iff, hlen] at e6; simp at e6
  | some y6 =>
  rw [e6] at f6
  obtain ⟨en, q6, _, wen⟩ := DataW.trod_int Try.underlying3 f6
  simp only [List.cons.injEq, and_true] at q6
  have f7 : DataW.trod enc Try.prog w base spare held n 3 (([c0, c1, c2, c3, c4, c5, c6, c7, c8, c9, c10, c11, c12, c13].drop 9).take (Try.prog.cellsOf 3)) = xs[7]? := hf 7 _ rfl
  simp only [cells3, List.drop_succ_cons, List.drop_zero, List.take_succ_cons, List.take_zero] at f7
  cases e7 : xs[7]? with
  | none => rw [List.getElem?_eq_none_iff, hlen] at e7; simp at e7
  | some y7 =>
  rw [e7] at f7
  obtain ⟨am, q7, _, wam⟩ := DataW.trod_int Try.underlying3 f7
  simp only [List.cons.injEq, and_true] at q7
  have f8 : DataW.trod enc Try.prog w base spare held n 3 (([c0, c1, c2, c3, c4, c5, c6, c7, c8, c9, c10, c11, c12, c13].drop 10).take (Try.prog.cellsOf 3)) = xs[8]? := hf 8 _ rfl
  simp only [cells3, List.drop_succ_cons, List.drop_zero, List.take_succ_cons, List.take_zero] at f8
  cases e8 : xs[8]? with
  | none => rw [List.getElem?_eq_none_iff, hlen] at e8; simp at e8
  | some y8 =>
  rw [e8] at f8
  obtain ⟨co, q8, _, wco⟩ := DataW.trod_int Try.underlying3 f8
  simp only [List.cons.injEq, and_true] at q8
  have f9 : DataW.trod enc Try.prog w base spare held n 3 (([c0, c1, c2, c3, c4, c5, c6, c7, c8, c9, c10, c11, c12, c13].drop 11).take (Try.prog.cellsOf 3)) = xs[9]? := hf 9 _ rfl
  simp only [cells3, List.drop_succ_cons, List.drop_zero, List.take_succ_cons, List.take_zero] at f9
  cases e9 : xs[9]? with
  | none => rw [List.getElem?_eq_none_iff, hlen] at e9; simp at e9
  | some y9 =>
  rw [e9] at f9
  obtain ⟨wt, q9, _, wwt⟩ := DataW.trod_int Try.underlying3 f9
  simp only [List.cons.injEq, and_true] at q9
  have f10 : DataW.trod enc Try.prog w base spare held n 3 (([c0, c1, c2, c3, c4, c5, c6, c7, c8, c9, c10, c11, c12, c13].drop 12).take (Try.prog.cellsOf 3)) = xs[10]? := hf 10 _ rfl
  simp only [cells3, List.drop_succ_cons, List.drop_zero, List.take_succ_cons, List.take_zero] at f10
  cases e10 : xs[10]? with
  | none => rw [List.getElem?_eq_none_iff, hlen] at e10; simp at e10
  | some y10 =>
  rw [e10] at f10
  obtain ⟨sp, q10, _, wsp⟩ := DataW.trod_int Try.underlying3 f10
  simp only [List.cons.injEq, and_true] at q10
  have f11 : DataW.trod enc Try.prog w base spare held n 3 (([c0, c1, c2, c3, c4, c5, c6, c7, c8, c9, c10, c11, c12, c13].drop 13).take (Try.prog.cellsOf 3)) = xs[11]? := hf 11 _ rfl
  simp only [cells3, List.drop_succ_cons, List.drop_zero, List.take_succ_cons, List.take_zero] at f11
  cases e11 : xs[11]? with
  | none => rw [List.getElem?_eq_none_iff, hlen] at e11; simp at e11
  | some y11 =>
  rw [e11] at f11
  obtain ⟨sc, q11, _, wsc⟩ := DataW.trod_int Try.underlying3 f11
  simp only [List.cons.injEq, and_true] at q11
  refine ⟨pl, nm, x, y, vx, vy, hd, he, en, am, co, wt, sp, sc, ?_, wf_i64 whd⟩
  simp only [List.cons.injEq, and_true]
  exact ⟨q0, q1, q2.1, q2.2, q3.1, q3.2, q4, q5, q6, q7, q8, q9, q10, q11⟩
theorem trod_seen {cs : List Value} {x : DataW H × List MemPlace} (h : DataW.trod enc Try.prog w base spare held fuel 55 cs = some x) : ∃ (ki : Int) (id : Int) (x : Int) (y : Int) (hd : Int), cs = [.int .i64 ki, .int .i64 id, .int .i64 x, .int .i64 y, .int .i64 hd] ∧ (-9223372036854775808 ≤ hd ∧ hd ≤ 9223372036854775807) := by
  obtain ⟨xs, n, _, rfl, hl, hlen, hf⟩ := DataW.trod_struct Try.underlying55 h
  rw [cells55] at hl
  obtain ⟨c0, r0, rfl, l0⟩ := row_cons hl
  obtain ⟨c1, r1, rfl, l1⟩ := row_cons l0
  obtain ⟨c2, r2, rfl, l2⟩ := row_cons l1
  obtain ⟨c3, r3, rfl, l3⟩ := row_cons l2
  obtain ⟨c4, r4, rfl, l4⟩ := row_cons l3
  obtain rfl := row_nil l4
  clear hl l0 l1 l2 l3 l4
  have f0 : DataW.trod enc Try.prog w base spare held n 3 (([c0, c1, c2, c3, c4].drop 0).take (Try.prog.cellsOf 3)) = xs[0]? := hf 0 _ rfl
  simp only [cells3, List.drop_zero, List.take_succ_cons, List.take_zero] at f0
  cases e0 : xs[0]? with
  | none => rw [List.getElem?_eq_none_iff, hlen] at e0; simp at e0
  | some y0 =>
  rw [e0] at f0
  obtain ⟨ki, q0, _, wki⟩ := DataW.trod_int Try.underlying3 f0
  simp only [List.cons.injEq, and_true] at q0
  have f1 : DataW.trod enc Try.prog w base spare held n 3 (([c0, c1, c2, c3, c4].drop 1).take (Try.prog.cellsOf 3)) = xs[1]? := hf 1 _ rfl
  simp only [cells3, List.drop_succ_cons, List.drop_zero, List.take_succ_cons, List.take_zero] at f1
  cases e1 : xs[1]? with
  | none => rw [List.getElem?_eq_none_iff, hlen] at e1; simp at e1
  | some y1 =>
  rw [e1] at f1
  obtain ⟨id, q1, _, wid⟩ := DataW.trod_int Try.underlying3 f1
  simp only [List.cons.injEq, and_true] at q1
  have f2 : DataW.trod enc Try.prog w base spare held n 38 (([c0, c1, c2, c3, c4].drop 2).take (Try.prog.cellsOf 38)) = xs[2]? := hf 2 _ rfl
  simp only [cells38, List.drop_succ_cons, List.drop_zero, List.take_succ_cons, List.take_zero] at f2
  cases e2 : xs[2]? with
  | none => rw [List.getElem?_eq_none_iff, hlen] at e2; simp at e2
  | some y2 =>
  rw [e2] at f2
  obtain ⟨x, y, q2⟩ := trod_vec f2
  simp only [List.cons.injEq, and_true] at q2
  have f3 : DataW.trod enc Try.prog w base spare held n 3 (([c0, c1, c2, c3, c4].drop 4).take (Try.prog.cellsOf 3)) = xs[3]? := hf 3 _ rfl
  simp only [cells3, List.drop_succ_cons, List.drop_zero, List.take_succ_cons, List.take_zero] at f3
  cases e3 : xs[3]? with
  | none => rw [List.getElem?_eq_none_iff, hlen] at e3; simp at e3
  | some y3 =>
  rw [e3] at f3
  obtain ⟨hd, q3, _, whd⟩ := DataW.trod_int Try.underlying3 f3
  simp only [List.cons.injEq, and_true] at q3
  refine ⟨ki, id, x, y, hd, ?_, wf_i64 whd⟩
  simp only [List.cons.injEq, and_true]
  exact ⟨q0, q1, q2.1, q2.2, q3⟩
end
end Go.Proofs.Ytjffkidfoapbjaa.Fl
