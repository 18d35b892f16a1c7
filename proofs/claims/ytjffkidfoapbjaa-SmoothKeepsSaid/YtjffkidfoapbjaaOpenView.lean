/- Proved: what reads as a View is so many cells, and its slice a row of things seen, within the reach. -/
import Derived.Test.YtjffkidfoapbjaaRefBetw
import Derived.Test.YtjffkidfoapbjaaOpenCar
import Derived.SizedLaws
import Derived.Deep.Slices
namespace Go.Proofs.Ytjffkidfoapbjaa.Fl
open Go.ChangeShapes Go.WideShapes Go.ChangeAt Go.RowKit
set_option linter.unusedVariables false
theorem bytes55 : Try.prog.bytesOf 55 = 40 := by kernel_rfl
section
variable {H : Type} {enc : TypeId × Value → H} {w : World} {base : Nat} {spare : Nat → Bool} {held : Bool} {fuel : Nat}
theorem trod_seens {A : Option Addr} {n c : Nat} {x : DataW H × List MemPlace} (h : DataW.trod enc Try.prog w base spare held fuel 45 [.slice A n c] = some x) : ∃ l : List S5, SRow w A n l ∧ Hds l ∧ n ≤ c := by
  rcases Go.Deep.open_slice Try.underlying45 h with ⟨hc, _⟩ | ⟨a, len', cap', m, k, D, Pl, hc, _, hl, hm, hm', _, hcell⟩
  · simp only [List.cons.injEq, Value.slice.injEq, and_true] at hc
    obtain ⟨rfl, rfl, rfl⟩ := hc
    exact ⟨[], SRow.nil w none, ⟨fun k hk => absurd hk (Nat.not_lt_zero k), fun k hk => absurd hk (Nat.not_lt_zero k)⟩, Nat.le_refl _⟩
  · simp only [List.cons.injEq, Value.slice.injEq, and_true] at hc
    obtain ⟨rfl, rfl, rfl⟩ := hc
    have hle : n ≤ m := by rw [hm']; split <;> omega
    have hall : ∀ i, i < n → ∃ s : S5, At w (a.add (i * 5)) s.cs ∧ -9223372036854775808 ≤ s.hd ∧ s.hd ≤ 9223372036854775807 := by
      intro i hi
      obtain ⟨cs, h1, h2⟩ := hcell i (by omega)
      obtain ⟨ki, id, x, y, hd, rfl, b0, b1⟩ := trod_seen h2
      obtain ⟨_, hlen, hc2⟩ := World.cells?_some h1
      rw [cells55] at hc2
      refine ⟨⟨ki, id, x, y, hd⟩, ⟨fun j v hj => ?_⟩, b0, b1⟩
      have hj5 : j < 5 := (List.getElem?_eq_some_iff.1 hj).1
      rw [hc2 j hj5]
      exact hj
    obtain ⟨f, hf⟩ := Go.Deep.choose_lt hall
    have hg : ∀ i, i < n → ((List.range n).map f).getD i default = f i := fun i hi => by simp [List.getD_eq_getElem?_getD, hi]
    refine ⟨(List.range n).map f, ⟨by simp, fun k hk => ⟨a, rfl, ?_⟩⟩, ⟨fun k hk => ?_, fun k hk => ?_⟩, hl⟩
    · rw [hg k hk]; exact (hf k hk).1
    · have hk' : k < n := by simpa using hk
      rw [hg k hk']; exact (hf k hk').2.1
    · have hk' : k < n := by simpa using hk
      rw [hg k hk']; exact (hf k hk').2.2
theorem trod_view {cs : List Value} {x : DataW H × List MemPlace} (h : DataW.trod enc Try.prog w base spare held fuel 47 cs = some x) : ∃ (tk pl u v vx vy hd he en am co wt sp sc : Int) (nm : ByteArray) (A : Option Addr) (n c : Nat) (l : List S5) (d0 d1 d2 : DataW H), cs = [.int .u64 tk, .int .i64 pl, .string nm, .int .i64 u, .int .i64 v, .int .i64 vx, .int .i64 vy, .int .i64 hd, .int .i64 he, .int .i64 en, .int .i64 am, .int .i64 co, .int .i64 wt, .int .i64 sp, .int .i64 sc, .slice A n c] ∧ (-9223372036854775808 ≤ hd ∧ hd ≤ 9223372036854775807) ∧ SRow w A n l ∧ Hds l ∧ n ≤ c ∧ x.1 = .agg [d0, d1, d2] ∧ Go.Joins.sliceLen d2 = n := by
  obtain ⟨xs, m, _, rfl, hl, hlen, hf⟩ := DataW.trod_struct Try.underlying47 h
  rw [cells47] at hl
  obtain ⟨c0, r0, rfl, l0⟩ := row_cons hl
  obtain ⟨c1, r1, rfl, l1⟩ := row_cons l0
  obtain ⟨c2, r2, rfl, l2⟩ := row_cons l1
  obtain ⟨c3, r3, rfl, l3⟩ := row_cons l2
  obtain ⟨c4, r4, rfl, l4⟩ := row_cons l3
  obtain ⟨c5, r5, rfl, l5⟩ := row_cons l4
  obtain ⟨c6, r6, rfl, l6⟩ := row_cons l5
  obtain ⟨c7, r7, rfl, l7⟩ := row_cons l6
  obtain ⟨c8, r8, rfl, l8⟩ := row_cons l7
  obtain ⟨c9, r9, rfl, l9⟩ := row_cons l8
  obtain ⟨c10, r10, rfl, l10⟩ := row_cons l9
  obtain ⟨c11, r11, rfl, l11⟩ := row_cons l10
  obtain ⟨c12, r12, rfl, l12⟩ := row_cons l11
  obtain ⟨c13, r13, rfl, l13⟩ := row_cons l12
  obtain ⟨c14, r14, rfl, l14⟩ := row_cons l13
  obtain ⟨c15, r15, rfl, l15⟩ := row_cons l14
  obtain rfl := row_nil l15
  clear hl l0 l1 l2 l3 l4 l5 l6 l7 l8 l9 l10 l11 l12 l13 l14 l15
  have f0 : DataW.trod enc Try.prog w base spare held m 44 (([c0, c1, c2, c3, c4, c5, c6, c7, c8, c9, c10, c11, c12, c13, c14, c15].drop 0).take (Try.prog.cellsOf 44)) = xs[0]? := hf 0 _ rfl
  have f1 : DataW.trod enc Try.prog w base spare held m 40 (([c0, c1, c2, c3, c4, c5, c6, c7, c8, c9, c10, c11, c12, c13, c14, c15].drop 1).take (Try.prog.cellsOf 40)) = xs[1]? := hf 1 _ rfl
  have f2 : DataW.trod enc Try.prog w base spare held m 45 (([c0, c1, c2, c3, c4, c5, c6, c7, c8, c9, c10, c11, c12, c13, c14, c15].drop 15).take (Try.prog.cellsOf 45)) = xs[2]? := hf 2 _ rfl
  simp only [cells44, List.drop_zero, List.take_succ_cons, List.take_zero] at f0
  simp only [cells40, List.drop_succ_cons, List.drop_zero, List.take_succ_cons, List.take_zero] at f1
  simp only [cells45, List.drop_succ_cons, List.drop_zero, List.take_succ_cons, List.take_zero] at f2
  match xs, hlen with
  | [y0, y1, y2], _ =>
  simp only [List.getElem?_cons_zero, List.getElem?_cons_succ] at f0 f1 f2
  obtain ⟨tk, q0, _, _⟩ := DataW.trod_int Try.underlying44 f0
  obtain ⟨pl, nm, u, v, vx, vy, hd, he, en, am, co, wt, sp, sc, q1, b0, b1⟩ := trod_car f1
  simp only [List.cons.injEq, and_true] at q0 q1
  obtain ⟨s0, s1, s2, s3, s4, s5, s6, s7, s8, s9, s10, s11, s12, s13⟩ := q1
  subst q0 s0 s1 s2 s3 s4 s5 s6 s7 s8 s9 s10 s11 s12 s13
  have hsl : ∃ A n c, c15 = .slice A n c := by
    rcases Go.Deep.open_slice Try.underlying45 f2 with ⟨hc, _⟩ | ⟨a, len', cap', m', k, D, Pl, hc, _⟩
    · simp only [List.cons.injEq, and_true] at hc
      exact ⟨_, _, _, hc⟩
    · simp only [List.cons.injEq, and_true] at hc
      exact ⟨_, _, _, hc⟩
  obtain ⟨A, n, c, rfl⟩ := hsl
  obtain ⟨l, hr, hh, hc⟩ := trod_seens f2
  exact ⟨tk, pl, u, v, vx, vy, hd, he, en, am, co, wt, sp, sc, nm, A, n, c, l, y0.1, y1.1, y2.1, rfl, ⟨b0, b1⟩, hr, hh, hc, rfl, Go.Joins.sliceLen_trod Try.underlying45 f2⟩
theorem view_size {ts : List TypeId} {ds : List (DataW H)} (h : (DataW.weightsEach Try.prog ts ds).all (· ≤ reachBytes) = true) {j n : Nat} {d0 d1 d2 : DataW H} (ht : ts[j]? = some 47) (hd : ds[j]? = some (.agg [d0, d1, d2])) (hn : Go.Joins.sliceLen d2 = n) : n * 40 ≤ 140737488351232 := by
  cases d2 with
  | slice e s =>
    have := List.all_eq_true.1 h _ (DataW.weights_mem_each ht hd ((e.length + s.length) * 40) (by simp [DataW.weights, Try.underlying47, Try.underlying45, DataW.weightsEach, bytes55]))
    have this : (e.length + s.length) * 40 ≤ reachBytes := by simpa using this
    simp only [reachBytes] at this
    simp only [Go.Joins.sliceLen] at hn
    omega
  | _ => simp only [Go.Joins.sliceLen] at hn; omega
end
end Go.Proofs.Ytjffkidfoapbjaa.Fl
