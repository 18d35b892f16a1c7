/- Proved: what reads as a View, with the bounds of all its places. -/
import Derived.Test.YtjffkidfoapbjaaOpenView
namespace Go.Proofs.Ytjffkidfoapbjaa.Fl
open Go.ChangeShapes Go.WideShapes Go.ChangeAt Go.RowKit
set_option linter.unusedVariables false
/-- An int of 64 bits. -/
structure I64 (n : Int) : Prop where
  lo : -9223372036854775808 ≤ n
  hi : n ≤ 9223372036854775807
theorem I64.of {n : Int} (h : (Lit.int .i64 n).wf = true) : I64 n := ⟨(wf_i64 h).1, (wf_i64 h).2⟩
/-- Headings and places are ints. -/
structure Bnds (l : List S5) : Prop where mk :: (out : ∀ k, k < l.length → I64 (l.getD k default).hd ∧ I64 (l.getD k default).x ∧ I64 (l.getD k default).y)
section
variable {H : Type} {enc : TypeId × Value → H} {w : World} {base : Nat} {spare : Nat → Bool} {held : Bool} {fuel : Nat}
theorem trod_vec2 {cs : List Value} {x : DataW H × List MemPlace} (h : DataW.trod enc Try.prog w base spare held fuel 38 cs = some x) : ∃ (x : Int) (y : Int), cs = [.int .i64 x, .int .i64 y] ∧ I64 x ∧ I64 y := by
  obtain ⟨xs, n, _, rfl, hl, hlen, hf⟩ := DataW.trod_struct Try.underlying38 h
  rw [cells38] at hl
  obtain ⟨c0, r0, rfl, l0⟩ := row_cons hl
  obtain ⟨c1, r1, rfl, l1⟩ := row_cons l0
  obtain rfl := row_nil l1
  clear hl l0 l1
  have f0 : DataW.trod enc Try.prog w base spare held n 2 (([c0, c1].drop 0).take (Try.prog.cellsOf 2)) = xs[0]? := hf 0 _ rfl
  simp only [cells2, List.drop_zero, List.take_succ_cons, List.take_zero] at f0
  cases e0 : xs[0]? with
  | none => rw [List.getElem?_eq_none_iff, hlen] at e0; simp at e0
  | some y0 =>
  rw [e0] at f0
  obtain ⟨x, q0, _, wx⟩ := DataW.trod_int Try.underlying2 f0
  simp only [List.cons.injEq, and_true] at q0
  have f1 : DataW.trod enc Try.prog w base spare held n 2 (([c0, c1].drop 1).take (Try.prog.cellsOf 2)) = xs[1]? := hf 1 _ rfl
  simp only [cells2, List.drop_succ_cons, List.drop_zero, List.take_succ_cons, List.take_zero] at f1
  cases e1 : xs[1]? with
  | none => rw [List.getElem?_eq_none_iff, hlen] at e1; simp at e1
  | some y1 =>
  rw [e1] at f1
  obtain ⟨y, q1, _, wy⟩ := DataW.trod_int Try.underlying2 f1
  simp only [List.cons.injEq, and_true] at q1
  refine ⟨x, y, ?_, I64.of wx, I64.of wy⟩
  simp only [List.cons.injEq, and_true]
  exact ⟨q0, q1⟩
theorem trod_car2 {cs : List Value} {x : DataW H × List MemPlace} (h : DataW.trod enc Try.prog w base spare held fuel 40 cs = some x) : ∃ (pl : Int) (nm : ByteArray) (x : Int) (y : Int) (vx : Int) (vy : Int) (hd : Int) (he : Int) (en : Int) (am : Int) (co : Int) (wt : Int) (sp : Int) (sc : Int), cs = [.int .i64 pl, .string nm, .int .i64 x, .int .i64 y, .int .i64 vx, .int .i64 vy, .int .i64 hd, .int .i64 he, .int .i64 en, .int .i64 am, .int .i64 co, .int .i64 wt, .int .i64 sp, .int .i64 sc] ∧ I64 hd ∧ I64 x ∧ I64 y ∧ I64 pl := by
  obtain ⟨xs, n, _, rfl, hl, hlen, hf⟩ := DataW.trod_struct Try.underlying40 h
  rw [cells40] at hl
  obtain ⟨c0, r0, rfl, l0⟩ := row_cons hl
  obtain ⟨c1, r1, rfl, l1⟩ := row_cons l0
  obtain ⟨c2, r2, rfl, l2⟩ := row_cons l1
  obtain ⟨c3, r3, rfl, l3⟩ := row_cons l2
  obtain ⟨c4, r4, rfl, l4⟩ := row_cons l3
  obtain ⟨c5, r5, rfl, l5⟩ := row_cons l4
  obtain ⟨c6, r6, rfl, l6⟩ := row_cons l5
  obtain ⟨c7, r7, rfl, l7⟩ := row_cons l6
  obtain ⟨c8, r8, rfl, l8⟩ := row_cons l7
  obtain ⟨c9, r9, rfl, l9⟩ := row_cons l8
  obtain ⟨c10, r10, rfl, l10⟩ := row_cons l9
  obtain ⟨c11, r11, rfl, l11⟩ := row_cons l10
  obtain ⟨c12, r12, rfl, l12⟩ := row_cons l11
  obtain ⟨c13, r13, rfl, l13⟩ := row_cons l12
  obtain rfl := row_nil l13
  clear hl l0 l1 l2 l3 l4 l5 l6 l7 l8 l9 l10 l11 l12 l13
  have f0 : DataW.trod enc Try.prog w base spare held n 3 (([c0, c1, c2, c3, c4, c5, c6, c7, c8, c9, c10, c11, c12, c13].drop 0).take (Try.prog.cellsOf 3)) = xs[0]? := hf 0 _ rfl
  simp only [cells3, List.drop_zero, List.take_succ_cons, List.take_zero] at f0
  cases e0 : xs[0]? with
  | none => rw [List.getElem?_eq_none_iff, hlen] at e0; simp at e0
  | some y0 =>
  rw [e0] at f0
  obtain ⟨pl, q0, _, wpl⟩ := DataW.trod_int Try.underlying3 f0
  simp only [List.cons.injEq, and_true] at q0
  have f1 : DataW.trod enc Try.prog w base spare held n 9 (([c0, c1, c2, c3, c4, c5, c6, c7, c8, c9, c10, c11, c12, c13].drop 1).take (Try.prog.cellsOf 9)) = xs[1]? := hf 1 _ rfl
  simp only [cells9, List.drop_succ_cons, List.drop_zero, List.take_succ_cons, List.take_zero] at f1
  cases e1 : xs[1]? with
  | none => rw [List.getElem?_eq_none_iff, hlen] at e1; simp at e1
  | some y1 =>
  rw [e1] at f1
  obtain ⟨nm, q1, _, _⟩ := DataW.trod_string Try.underlying9 f1
  simp only [List.cons.injEq, and_true] at q1
  have f2 : DataW.trod enc Try.prog w base spare held n 38 (([c0, c1, c2, c3, c4, c5, c6, c7, c8, c9, c10, c11, c12, c13].drop 2).take (Try.prog.cellsOf 38)) = xs[2]? := hf 2 _ rfl
  simp only [cells38, List.drop_succ_cons, List.drop_zero, List.take_succ_cons, List.take_zero] at f2
  cases e2 : xs[2]? with
  | none => rw [List.getElem?_eq_none_iff, hlen] at e2; simp at e2
  | some y2 =>
  rw [e2] at f2
  obtain ⟨x, y, q2, Bx, By⟩ := trod_vec2 f2
  simp only [List.cons.injEq, and_true] at q2
  have f3 : DataW.trod enc Try.prog w base spare held n 38 (([c0, c1, c2, c3, c4, c5, c6, c7, c8, c9, c10, c11, c12, c13].drop 4).take (Try.prog.cellsOf 38)) = xs[3]? := hf 3 _ rfl
  simp only [cells38, List.drop_succ_cons, List.drop_zero, List.take_succ_cons, List.take_zero] at f3
  cases e3 : xs[3]? with
  | none => rw [List.getElem?_eq_none_iff, hlen] at e3; simp at e3
  | some y3 =>
  rw [e3] at f3
  obtain ⟨vx, vy, q3, Bvx, Bvy⟩ := trod_vec2 f3
  simp only [List.cons.injEq, and_true] at q3
  have f4 : DataW.trod enc Try.prog w base spare held n 3 (([c0, c1, c2, c3, c4, c5, c6, c7, c8, c9, c10, c11, c12, c13].drop 6).take (Try.prog.cellsOf 3)) = xs[4]? := hf 4 _ rfl
  simp only [cells3, List.drop_succ_cons, List.drop_zero, List.take_succ_cons, List.take_zero] at f4
  cases e4 : xs[4]? with
  | none => rw [List.getElem?_eq_none_iff, hlen] at e4; simp at e4
  | some y4 =>
  rw [e4] at f4
  obtain ⟨hd, q4, _, whd⟩ := DataW.trod_int Try.underlying3 f4
  simp only [List.cons.injEq, and_true] at q4
  have f5 : DataW.trod enc Try.prog w base spare held n 3 (([c0, c1, c2, c3, c4, c5, c6, c7, c8, c9, c10, c11, c12, c13].drop 7).take (Try.prog.cellsOf 3)) = xs[5]? := hf 5 _ rfl
  simp only [cells3, List.drop_succ_cons, List.drop_zero, List.take_succ_cons, List.take_zero] at f5
  cases e5 : xs[5]? with
  | none => rw [List.getElem?_eq_none_iff, hlen] at e5; simp at e5
  | some y5 =>
  rw [e5] at f5
  obtain ⟨he, q5, _, whe⟩ := DataW.trod_int Try.underlying3 f5
  simp only [List.cons.injEq, and_true] at q5
  have f6 : DataW.trod enc Try.prog w base spare held n 3 (([c0, c1, c2, c3, c4, c5, c6, c7, c8, c9, c10, c11, c12, c13].drop 8).take (Try.prog.cellsOf 3)) = xs[6]? := hf 6 _ rfl
  simp only [cells3, List.drop_succ_cons, List.drop_zero, List.take_succ_cons, List.take_zero] at f6
  cases e6 : xs[6]? with
  | none => rw [List.getElem?_eq_none_iff, hlen] at e6; simp at e6
  | some y6 =>
  rw [e6] at f6
  obtain ⟨en, q6, _, wen⟩ := DataW.trod_int Try.underlying3 f6
  simp only [List.cons.injEq, and_true] at q6
  have f7 : DataW.trod enc Try.prog w base spare held n 3 (([c0, c1, c2, c3, c4, c5, c6, c7, c8, c9, c10, c11, c12, c13].drop 9).take (Try.prog.cellsOf 3)) = xs[7]? := hf 7 _ rfl
  simp only [cells3, List.drop_succ_cons, List.drop_zero, List.take_succ_cons, List.take_zero] at f7
  cases e7 : xs[7]? with
  | none => rw [List.getElem?_eq_none_iff, hlen] at e7; simp at e7
  | some y7 =>
  rw [e7] at f7
  obtain ⟨am, q7, _, wam⟩ := DataW.trod_int Try.underlying3 f7
  simp only [List.cons.injEq, and_true] at q7
  have f8 : DataW.trod enc Try.prog w base spare held n 3 (([c0, c1, c2, c3, c4, c5, c6, c7, c8, c9, c10, c11, c12, c13].drop 10).take (Try.prog.cellsOf 3)) = xs[8]? := hf 8 _ rfl
  simp only [cells3, List.drop_succ_cons, List.drop_zero, List.take_succ_cons, List.take_zero] at f8
  cases e8 : xs[8]? with
  | none => rw [List.getElem?_eq_none_iff, hlen] at e8; simp at e8
  | some y8 =>
  rw [e8] at f8
  obtain ⟨co, q8, _, wco⟩ := DataW.trod_int Try.underlying3 f8
  simp only [List.cons.injEq, and_true] at q8
  have f9 : DataW.trod enc Try.prog w base spare held n 3 (([c0, c1, c2, c3, c4, c5, c6, c7, c8, c9, c10, c11, c12, c13].drop 11).take (Try.prog.cellsOf 3)) = xs[9]? := hf 9 _ rfl
  simp only [cells3, List.drop_succ_cons, List.drop_zero, List.take_succ_cons, List.take_zero] at f9
  cases e9 : xs[9]? with
  | none => rw [List.getElem?_eq_none_iff, hlen] at e9; simp at e9
  | some y9 =>
  rw [e9] at f9
  obtain ⟨wt, q9, _, wwt⟩ := DataW.trod_int Try.underlying3 f9
  simp only [List.cons.injEq, and_true] at q9
  have f10 : DataW.trod enc Try.prog w base spare held n 3 (([c0, c1, c2, c3, c4, c5, c6, c7, c8, c9, c10, c11, c12, c13].drop 12).take (Try.prog.cellsOf 3)) = xs[10]? := hf 10 _ rfl
  simp only [cells3, List.drop_succ_cons, List.drop_zero, List.take_succ_cons, List.take_zero] at f10
  cases e10 : xs[10]? with
  | none => rw [List.getElem?_eq_none_iff, hlen] at e10; simp at e10
  | some y10 =>
  rw [e10] at f10
  obtain ⟨sp, q10, _, wsp⟩ := DataW.trod_int Try.underlying3 f10
  simp only [List.cons.injEq, and_true] at q10
  have f11 : DataW.trod enc Try.prog w base spare held n 3 (([c0, c1, c2, c3, c4, c5, c6, c7, c8, c9, c10, c11, c12, c13].drop 13).take (Try.prog.cellsOf 3)) = xs[11]? := hf 11 _ rfl
  simp only [cells3, List.drop_succ_cons, List.drop_zero, List.take_succ_cons, List.take_zero] at f11
  cases e11 : xs[11]? with
  | none => rw [List.getElem?_eq_none_iff, hlen] at e11; simp at e11
  | some y11 =>
  rw [e11] at f11
  obtain ⟨sc, q11, _, wsc⟩ := DataW.trod_int Try.underlying3 f11
  simp only [List.cons.injEq, and_true] at q11
  refine ⟨pl, nm, x, y, vx, vy, hd, he, en, am, co, wt, sp, sc, ?_, I64.of whd, Bx, By, I64.of wpl⟩
  simp only [List.cons.injEq, and_true]
  exact ⟨q0, q1, q2.1, q2.2, q3.1, q3.2, q4, q5, q6, q7, q8, q9, q10, q11⟩
theorem trod_seen2 {cs : List Value} {x : DataW H × List MemPlace} (h : DataW.trod enc Try.prog w base spare held fuel 55 cs = some x) : ∃ (ki : Int) (id : Int) (x : Int) (y : Int) (hd : Int), cs = [.int .i64 ki, .int .i64 id, .int .i64 x, .int .i64 y, .int .i64 hd] ∧ I64 hd ∧ I64 x ∧ I64 y := by
  obtain ⟨xs, n, _, rfl, hl, hlen, hf⟩ := DataW.trod_struct Try.underlying55 h
  rw [cells55] at hl
  obtain ⟨c0, r0, rfl, l0⟩ := row_cons hl
  obtain ⟨c1, r1, rfl, l1⟩ := row_cons l0
  obtain ⟨c2, r2, rfl, l2⟩ := row_cons l1
  obtain ⟨c3, r3, rfl, l3⟩ := row_cons l2
  obtain ⟨c4, r4, rfl, l4⟩ := row_cons l3
  obtain rfl := row_nil l4
  clear hl l0 l1 l2 l3 l4
  have f0 : DataW.trod enc Try.prog w base spare held n 3 (([c0, c1, c2, c3, c4].drop 0).take (Try.prog.cellsOf 3)) = xs[0]? := hf 0 _ rfl
  simp only [cells3, List.drop_zero, List.take_succ_cons, List.take_zero] at f0
  cases e0 : xs[0]? with
  | none => rw [List.getElem?_eq_none_iff, hlen] at e0; simp at e0
  | some y0 =>
  rw [e0] at f0
  obtain ⟨ki, q0, _, wki⟩ := DataW.trod_int Try.underlying3 f0
  simp only [List.cons.injEq, and_true] at q0
  have f1 : DataW.trod enc Try.prog w base spare held n 3 (([c0, c1, c2, c3, c4].drop 1).take (Try.prog.cellsOf 3)) = xs[1]? := hf 1 _ rfl
  simp only [cells3, List.drop_succ_cons, List.drop_zero, List.take_succ_cons, List.take_zero] at f1
  cases e1 : xs[1]? with
  | none => rw [List.getElem?_eq_none_iff, hlen] at e1; simp at e1
  | some y1 =>
  rw [e1] at f1
  obtain ⟨id, q1, _, wid⟩ := DataW.trod_int Try.underlying3 f1
  simp only [List.cons.injEq, and_true] at q1
  have f2 : DataW.trod enc Try.prog w base spare held n 38 (([c0, c1, c2, c3, c4].drop 2).take (Try.prog.cellsOf 38)) = xs[2]? := hf 2 _ rfl
  simp only [cells38, List.drop_succ_cons, List.drop_zero, List.take_succ_cons, List.take_zero] at f2
  cases e2 : xs[2]? with
  | none => rw [List.getElem?_eq_none_iff, hlen] at e2; simp at e2
  | some y2 =>
  rw [e2] at f2
  obtain ⟨x, y, q2, Bx, By⟩ := trod_vec2 f2
  simp only [List.cons.injEq, and_true] at q2
  have f3 : DataW.trod enc Try.prog w base spare held n 3 (([c0, c1, c2, c3, c4].drop 4).take (Try.prog.cellsOf 3)) = xs[3]? := hf 3 _ rfl
  simp only [cells3, List.drop_succ_cons, List.drop_zero, List.take_succ_cons, List.take_zero] at f3
  cases e3 : xs[3]? with
  | none => rw [List.getElem?_eq_none_iff, hlen] at e3; simp at e3
  | some y3 =>
  rw [e3] at f3
  obtain ⟨hd, q3, _, whd⟩ := DataW.trod_int Try.underlying3 f3
  simp only [List.cons.injEq, and_true] at q3
  refine ⟨ki, id, x, y, hd, ?_, I64.of whd, Bx, By⟩
  simp only [List.cons.injEq, and_true]
  exact ⟨q0, q1, q2.1, q2.2, q3⟩
theorem trod_seens2 {A : Option Addr} {n c : Nat} {x : DataW H × List MemPlace} (h : DataW.trod enc Try.prog w base spare held fuel 45 [.slice A n c] = some x) : ∃ l : List S5, SRow w A n l ∧ Bnds l ∧ n ≤ c := by
  rcases Go.Deep.open_slice Try.underlying45 h with ⟨hc, _⟩ | ⟨a, len', cap', m, k, D, Pl, hc, _, hl, hm, hm', _, hcell⟩
  · simp only [List.cons.injEq, Value.slice.injEq, and_true] at hc
    obtain ⟨rfl, rfl, rfl⟩ := hc
    exact ⟨[], SRow.nil w none, ⟨fun k hk => absurd hk (Nat.not_lt_zero k)⟩, Nat.le_refl _⟩
  · simp only [List.cons.injEq, Value.slice.injEq, and_true] at hc
    obtain ⟨rfl, rfl, rfl⟩ := hc
    have hle : n ≤ m := by rw [hm']; split <;> omega
    have hall : ∀ i, i < n → ∃ s : S5, At w (a.add (i * 5)) s.cs ∧ (I64 s.hd ∧ I64 s.x ∧ I64 s.y) := by
      intro i hi
      obtain ⟨cs, h1, h2⟩ := hcell i (by omega)
      obtain ⟨ki, id, x, y, hd, rfl, b0⟩ := trod_seen2 h2
      obtain ⟨_, hlen, hc2⟩ := World.cells?_some h1
      rw [cells55] at hc2
      refine ⟨⟨ki, id, x, y, hd⟩, ⟨fun j v hj => ?_⟩, b0⟩
      have hj5 : j < 5 := (List.getElem?_eq_some_iff.1 hj).1
      rw [hc2 j hj5]
      exact hj
    obtain ⟨f, hf⟩ := Go.Deep.choose_lt hall
    have hg : ∀ i, i < n → ((List.range n).map f).getD i default = f i := fun i hi => by simp [List.getD_eq_getElem?_getD, hi]
    refine ⟨(List.range n).map f, ⟨by simp, fun k hk => ⟨a, rfl, ?_⟩⟩, ⟨fun k hk => ?_⟩, hl⟩
    · rw [hg k hk]; exact (hf k hk).1
    · have hk' : k < n := by simpa using hk
      rw [hg k hk']; exact (hf k hk').2
theorem trod_view2 {cs : List Value} {x : DataW H × List MemPlace} (h : DataW.trod enc Try.prog w base spare held fuel 47 cs = some x) : ∃ (tk pl u v vx vy hd he en am co wt sp sc : Int) (nm : ByteArray) (A : Option Addr) (n c : Nat) (l : List S5) (d0 d1 d2 : DataW H), cs = [.int .u64 tk, .int .i64 pl, .string nm, .int .i64 u, .int .i64 v, .int .i64 vx, .int .i64 vy, .int .i64 hd, .int .i64 he, .int .i64 en, .int .i64 am, .int .i64 co, .int .i64 wt, .int .i64 sp, .int .i64 sc, .slice A n c] ∧ (I64 hd ∧ I64 u ∧ I64 v ∧ I64 pl) ∧ SRow w A n l ∧ Bnds l ∧ n ≤ c ∧ x.1 = .agg [d0, d1, d2] ∧ Go.Joins.sliceLen d2 = n := by
  obtain ⟨xs, m, _, rfl, hl, hlen, hf⟩ := DataW.trod_struct Try.underlying47 h
  rw [cells47] at hl
  obtain ⟨c0, r0, rfl, l0⟩ := row_cons hl
  obtain ⟨c1, r1, rfl, l1⟩ := row_cons l0
  obtain ⟨c2, r2, rfl, l2⟩ := row_cons l1
  obtain ⟨c3, r3, rfl, l3⟩ := row_cons l2
  obtain ⟨c4, r4, rfl, l4⟩ := row_cons l3
  obtain ⟨c5, r5, rfl, l5⟩ := row_cons l4
  obtain ⟨c6, r6, rfl, l6⟩ := row_cons l5
  obtain ⟨c7, r7, rfl, l7⟩ := row_cons l6
  obtain ⟨c8, r8, rfl, l8⟩ := row_cons l7
  obtain ⟨c9, r9, rfl, l9⟩ := row_cons l8
  obtain ⟨c10, r10, rfl, l10⟩ := row_cons l9
  obtain ⟨c11, r11, rfl, l11⟩ := row_cons l10
  obtain ⟨c12, r12, rfl, l12⟩ := row_cons l11
  obtain ⟨c13, r13, rfl, l13⟩ := row_cons l12
  obtain ⟨c14, r14, rfl, l14⟩ := row_cons l13
  obtain ⟨c15, r15, rfl, l15⟩ := row_cons l14
  obtain rfl := row_nil l15
  clear hl l0 l1 l2 l3 l4 l5 l6 l7 l8 l9 l10 l11 l12 l13 l14 l15
  have f0 : DataW.trod enc Try.prog w base spare held m 44 (([c0, c1, c2, c3, c4, c5, c6, c7, c8, c9, c10, c11, c12, c13, c14, c15].drop 0).take (Try.prog.cellsOf 44)) = xs[0]? := hf 0 _ rfl
  have f1 : DataW.trod enc Try.prog w base spare held m 40 (([c0, c1, c2, c3, c4, c5, c6, c7, c8, c9, c10, c11, c12, c13, c14, c15].drop 1).take (Try.prog.cellsOf 40)) = xs[1]? := hf 1 _ rfl
  have f2 : DataW.trod enc Try.prog w base spare held m 45 (([c0, c1, c2, c3, c4, c5, c6, c7, c8, c9, c10, c11, c12, c13, c14, c15].drop 15).take (Try.prog.cellsOf 45)) = xs[2]? := hf 2 _ rfl
  simp only [cells44, List.drop_zero, List.take_succ_cons, List.take_zero] at f0
  simp only [cells40, List.drop_succ_cons, List.drop_zero, List.take_succ_cons, List.take_zero] at f1
  simp only [cells45, List.drop_succ_cons, List.drop_zero, List.take_succ_cons, List.take_zero] at f2
  match xs, hlen with
  | [y0, y1, y2], _ =>
  simp only [List.getElem?_cons_zero, List.getElem?_cons_succ] at f0 f1 f2
  obtain ⟨tk, q0, _, _⟩ := DataW.trod_int Try.underlying44 f0
  obtain ⟨pl, nm, u, v, vx, vy, hd, he, en, am, co, wt, sp, sc, q1, b0⟩ := trod_car2 f1
  simp only [List.cons.injEq, and_true] at q0 q1
  obtain ⟨s0, s1, s2, s3, s4, s5, s6, s7, s8, s9, s10, s11, s12, s13⟩ := q1
  subst q0 s0 s1 s2 s3 s4 s5 s6 s7 s8 s9 s10 s11 s12 s13
  have hsl : ∃ A n c, c15 = .slice A n c := by
    rcases Go.Deep.open_slice Try.underlying45 f2 with ⟨hc, _⟩ | ⟨a, len', cap', m', k, D, Pl, hc, _⟩
    · simp only [List.cons.injEq, and_true] at hc
      exact ⟨_, _, _, hc⟩
    · simp only [List.cons.injEq, and_true] at hc
      exact ⟨_, _, _, hc⟩
  obtain ⟨A, n, c, rfl⟩ := hsl
  obtain ⟨l, hr, hh, hc⟩ := trod_seens2 f2
  exact ⟨tk, pl, u, v, vx, vy, hd, he, en, am, co, wt, sp, sc, nm, A, n, c, l, y0.1, y1.1, y2.1, rfl, b0, hr, hh, hc, rfl, Go.Joins.sliceLen_trod Try.underlying45 f2⟩
end
end Go.Proofs.Ytjffkidfoapbjaa.Fl
