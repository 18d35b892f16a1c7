-- Printed by a program of this session, a changed copy of the print
import Derived.Test.YtidjnpfpbbffjaaPBucketPlaysx0
namespace Go.Proofs.Ytidjnpfpbbffjaa.PBucketPlays
open Go.RowKit Go.Proofs.YtidjnpfpbbffjaaW.PrintWords Go.Proofs.YtidjnpfpbbffjaaW.PrintLast Go.Proofs.YtidjnpfpbbffjaaW.PrintMore
attribute [local go_sem] max2_int min2_int max_two min_two max_three min_three max_four min_four   -- for this text's walks alone
set_option linter.unusedVariables false
set_option linter.unusedSimpArgs false

/-! ### bucket_New: function 22 -/
def bucket_New.f (a0 : Int) (a1 : Int) : Option (Int × Int × Int × Int) := if a0 < 0 then (some (0, 0, 0, 110)) else (if a0 > 1000 then (some (0, 0, 0, 110)) else (if a1 < 1 then (some (0, 0, 0, 110)) else (if a1 > 1000 then (some (0, 0, 0, 110)) else (some (a0, wrap64 (16 * a1), wrap64 (16 * a1), 0)))))
set_option maxHeartbeats 8000000 in
set_option maxRecDepth 100000 in
theorem bucket_New.calls (a0 : Int) (a1 : Int) (r1 : Int) (r2 : Int) (r3 : Int) (r4 : Int) (w : World) (h : bucket_New.f a0 a1 = some (r1, r2, r3, r4)) :
    Calls Try.prog 22 #[.int .i64 a0, .int .i64 a1] w fun e w' => e = .returned (.tuple #[.agg #[.int .i64 r1, .int .i64 r2, .int .i64 r3], .int .i64 r4]) ∧ Below w.heap.size w w' := by
  have hu52 := Try.underlying52
  have HB := Aside0.mk (Below.refl w.heap.size w)
  have H : (if a0 < 0 then (some (0, 0, 0, 110)) else (if a0 > 1000 then (some (0, 0, 0, 110)) else (if a1 < 1 then (some (0, 0, 0, 110)) else (if a1 > 1000 then (some (0, 0, 0, 110)) else (some (a0, wrap64 (16 * a1), wrap64 (16 * a1), 0)))))) = some (r1, r2, r3, r4) := h
  clear h
  by_cases c3 : a0 < 0
  · rw [if_pos c3] at H
    have c3b0 : decide (a0 < 0) = true := decide_eq_true c3
    clear c3
    simp only [Option.some.injEq, Prod.mk.injEq] at H
    obtain ⟨rfl, rfl, rfl, rfl⟩ := H
    go_enter Try.func22, Try.ntmps22
    go_wp2_with (first | ((with_reducible refine gate_dst (N := 4) rfl ?_); refine box_event ?hg (N := 4) ?hd (cs := #[.int .i64 0, .int .i64 0, .int .i64 0]) (t := 52) ?hr ?_; (case hd => rfl); (case hg => rfl); (case hr => first | (go_simp; done) | (go_simp; rfl)); intro gb101 hg w4 hbox hb; have n0_ := Aside0.mk (below_step (by repeat (first | (with_reducible first | exact HB.out | apply below_alloc | apply pw_below_drewN | apply below_drew1) | exact HB.out)) hb); have n1_ := Aside0.mk (hbox); have n2_ := Aside0.mk ((by rw [hg]; exact (below_size (by repeat (first | (with_reducible first | exact HB.out | apply below_alloc | apply pw_below_drewN | apply below_drew1) | exact HB.out))) : w.heap.size ≤ gb101)); have n3_ := Aside0.mk ((by rw [hg]; exact (below_size (by repeat (first | (with_reducible first | exact HB.out | apply below_alloc | apply pw_below_drewN | apply below_drew1) | exact HB.out))) : w.heap.size ≤ gb101)); clear HB; have HB := n0_; have BK101 := n1_; have GW101 := n2_; have GE101 := n3_; clear n0_ n1_ n2_ n3_; clear hb hbox hg; have hcz5_0 : w4.cell? ⟨gb101, 0, none⟩ = some (.int .i64 0) := (blk_cell BK101.out 0).trans rfl; have hcz5_1 : w4.cell? ⟨gb101, 1, none⟩ = some (.int .i64 0) := (blk_cell BK101.out 1).trans rfl; have hcz5_2 : w4.cell? ⟨gb101, 2, none⟩ = some (.int .i64 0) := (blk_cell BK101.out 2).trans rfl; have hfz5_0 := blk_frozen BK101.out 0; have hfz5_1 := blk_frozen BK101.out 1; have hfz5_2 := blk_frozen BK101.out 2))
    refine bodyPost_ret (results_ct rfl _ _ gb101 52 #[.int .i64 0, .int .i64 0, .int .i64 0] (0, 0) _ rfl (by (with_reducible repeat (first | refine blk_drewN ?_ _ | refine blk_drew ?_ | refine blk_alloc ?_ _)); refine blk_put (cs := #[.int .i64 0, .int .i64 0, .int .i64 0]) ?_ 2 _ rfl; (with_reducible repeat (first | refine blk_drewN ?_ _ | refine blk_drew ?_ | refine blk_alloc ?_ _)); refine blk_put (cs := #[.int .i64 0, .int .i64 0, .int .i64 0]) ?_ 1 _ rfl; (with_reducible repeat (first | refine blk_drewN ?_ _ | refine blk_drew ?_ | refine blk_alloc ?_ _)); refine blk_put (cs := #[.int .i64 0, .int .i64 0, .int .i64 0]) ?_ 0 _ rfl; (with_reducible repeat (first | refine blk_drewN ?_ _ | refine blk_drew ?_ | refine blk_alloc ?_ _)); exact BK101.out) Try.underlying52 rfl (by kernel_rfl)) rfl ?_
    exact ⟨by first | rfl | (simp [errW_none, errW_some] <;> rfl) | (simp [*, errW_none, errW_some] <;> rfl), by repeat (first | (with_reducible first | exact HB.out | apply below_alloc | apply pw_below_drewN | apply below_drew1 | refine below_set ?_ GE101.out) | exact HB.out)⟩
  · rw [if_neg c3] at H
    have c3b0 : decide (a0 < 0) = false := decide_eq_false c3
    clear c3
    by_cases c6 : a0 > 1000
    · rw [if_pos c6] at H
      have c6b0 : decide (1000 < a0) = true := decide_eq_true c6
      clear c6
      simp only [Option.some.injEq, Prod.mk.injEq] at H
      obtain ⟨rfl, rfl, rfl, rfl⟩ := H
      go_enter Try.func22, Try.ntmps22
      go_wp2_with (first | ((with_reducible refine gate_dst (N := 4) rfl ?_); refine box_event ?hg (N := 4) ?hd (cs := #[.int .i64 0, .int .i64 0, .int .i64 0]) (t := 52) ?hr ?_; (case hd => rfl); (case hg => rfl); (case hr => first | (go_simp; done) | (go_simp; rfl)); intro gb101 hg w7 hbox hb; have n0_ := Aside0.mk (below_step (by repeat (first | (with_reducible first | exact HB.out | apply below_alloc | apply pw_below_drewN | apply below_drew1) | exact HB.out)) hb); have n1_ := Aside0.mk (hbox); have n2_ := Aside0.mk ((by rw [hg]; exact (below_size (by repeat (first | (with_reducible first | exact HB.out | apply below_alloc | apply pw_below_drewN | apply below_drew1) | exact HB.out))) : w.heap.size ≤ gb101)); have n3_ := Aside0.mk ((by rw [hg]; exact (below_size (by repeat (first | (with_reducible first | exact HB.out | apply below_alloc | apply pw_below_drewN | apply below_drew1) | exact HB.out))) : w.heap.size ≤ gb101)); clear HB; have HB := n0_; have BK101 := n1_; have GW101 := n2_; have GE101 := n3_; clear n0_ n1_ n2_ n3_; clear hb hbox hg; have hcz8_0 : w7.cell? ⟨gb101, 0, none⟩ = some (.int .i64 0) := (blk_cell BK101.out 0).trans rfl; have hcz8_1 : w7.cell? ⟨gb101, 1, none⟩ = some (.int .i64 0) := (blk_cell BK101.out 1).trans rfl; have hcz8_2 : w7.cell? ⟨gb101, 2, none⟩ = some (.int .i64 0) := (blk_cell BK101.out 2).trans rfl; have hfz8_0 := blk_frozen BK101.out 0; have hfz8_1 := blk_frozen BK101.out 1; have hfz8_2 := blk_frozen BK101.out 2))
      refine bodyPost_ret (results_ct rfl _ _ gb101 52 #[.int .i64 0, .int .i64 0, .int .i64 0] (0, 0) _ rfl (by (with_reducible repeat (first | refine blk_drewN ?_ _ | refine blk_drew ?_ | refine blk_alloc ?_ _)); refine blk_put (cs := #[.int .i64 0, .int .i64 0, .int .i64 0]) ?_ 2 _ rfl; (with_reducible repeat (first | refine blk_drewN ?_ _ | refine blk_drew ?_ | refine blk_alloc ?_ _)); refine blk_put (cs := #[.int .i64 0, .int .i64 0, .int .i64 0]) ?_ 1 _ rfl; (with_reducible repeat (first | refine blk_drewN ?_ _ | refine blk_drew ?_ | refine blk_alloc ?_ _)); refine blk_put (cs := #[.int .i64 0, .int .i64 0, .int .i64 0]) ?_ 0 _ rfl; (with_reducible repeat (first | refine blk_drewN ?_ _ | refine blk_drew ?_ | refine blk_alloc ?_ _)); exact BK101.out) Try.underlying52 rfl (by kernel_rfl)) rfl ?_
      exact ⟨by first | rfl | (simp [errW_none, errW_some] <;> rfl) | (simp [*, errW_none, errW_some] <;> rfl), by repeat (first | (with_reducible first | exact HB.out | apply below_alloc | apply pw_below_drewN | apply below_drew1 | refine below_set ?_ GE101.out) | exact HB.out)⟩
    · rw [if_neg c6] at H
      have c6b0 : decide (1000 < a0) = false := decide_eq_false c6
      clear c6
      by_cases c9 : a1 < 1
      · rw [if_pos c9] at H
        have c9b0 : decide (a1 < 1) = true := decide_eq_true c9
        clear c9
        simp only [Option.some.injEq, Prod.mk.injEq] at H
        obtain ⟨rfl, rfl, rfl, rfl⟩ := H
        go_enter Try.func22, Try.ntmps22
        go_wp2_with (first | ((with_reducible refine gate_dst (N := 4) rfl ?_); refine box_event ?hg (N := 4) ?hd (cs := #[.int .i64 0, .int .i64 0, .int .i64 0]) (t := 52) ?hr ?_; (case hd => rfl); (case hg => rfl); (case hr => first | (go_simp; done) | (go_simp; rfl)); intro gb101 hg w10 hbox hb; have n0_ := Aside0.mk (below_step (by repeat (first | (with_reducible first | exact HB.out | apply below_alloc | apply pw_below_drewN | apply below_drew1) | exact HB.out)) hb); have n1_ := Aside0.mk (hbox); have n2_ := Aside0.mk ((by rw [hg]; exact (below_size (by repeat (first | (with_reducible first | exact HB.out | apply below_alloc | apply pw_below_drewN | apply below_drew1) | exact HB.out))) : w.heap.size ≤ gb101)); have n3_ := Aside0.mk ((by rw [hg]; exact (below_size (by repeat (first | (with_reducible first | exact HB.out | apply below_alloc | apply pw_below_drewN | apply below_drew1) | exact HB.out))) : w.heap.size ≤ gb101)); clear HB; have HB := n0_; have BK101 := n1_; have GW101 := n2_; have GE101 := n3_; clear n0_ n1_ n2_ n3_; clear hb hbox hg; have hcz11_0 : w10.cell? ⟨gb101, 0, none⟩ = some (.int .i64 0) := (blk_cell BK101.out 0).trans rfl; have hcz11_1 : w10.cell? ⟨gb101, 1, none⟩ = some (.int .i64 0) := (blk_cell BK101.out 1).trans rfl; have hcz11_2 : w10.cell? ⟨gb101, 2, none⟩ = some (.int .i64 0) := (blk_cell BK101.out 2).trans rfl; have hfz11_0 := blk_frozen BK101.out 0; have hfz11_1 := blk_frozen BK101.out 1; have hfz11_2 := blk_frozen BK101.out 2))
        refine bodyPost_ret (results_ct rfl _ _ gb101 52 #[.int .i64 0, .int .i64 0, .int .i64 0] (0, 0) _ rfl (by (with_reducible repeat (first | refine blk_drewN ?_ _ | refine blk_drew ?_ | refine blk_alloc ?_ _)); refine blk_put (cs := #[.int .i64 0, .int .i64 0, .int .i64 0]) ?_ 2 _ rfl; (with_reducible repeat (first | refine blk_drewN ?_ _ | refine blk_drew ?_ | refine blk_alloc ?_ _)); refine blk_put (cs := #[.int .i64 0, .int .i64 0, .int .i64 0]) ?_ 1 _ rfl; (with_reducible repeat (first | refine blk_drewN ?_ _ | refine blk_drew ?_ | refine blk_alloc ?_ _)); refine blk_put (cs := #[.int .i64 0, .int .i64 0, .int .i64 0]) ?_ 0 _ rfl; (with_reducible repeat (first | refine blk_drewN ?_ _ | refine blk_drew ?_ | refine blk_alloc ?_ _)); exact BK101.out) Try.underlying52 rfl (by kernel_rfl)) rfl ?_
        exact ⟨by first | rfl | (simp [errW_none, errW_some] <;> rfl) | (simp [*, errW_none, errW_some] <;> rfl), by repeat (first | (with_reducible first | exact HB.out | apply below_alloc | apply pw_below_drewN | apply below_drew1 | refine below_set ?_ GE101.out) | exact HB.out)⟩
      · rw [if_neg c9] at H
        have c9b0 : decide (a1 < 1) = false := decide_eq_false c9
        clear c9
        by_cases c12 : a1 > 1000
        · rw [if_pos c12] at H
          have c12b0 : decide (1000 < a1) = true := decide_eq_true c12
          clear c12
          simp only [Option.some.injEq, Prod.mk.injEq] at H
          obtain ⟨rfl, rfl, rfl, rfl⟩ := H
          go_enter Try.func22, Try.ntmps22
          go_wp2_with (first | ((with_reducible refine gate_dst (N := 4) rfl ?_); refine box_event ?hg (N := 4) ?hd (cs := #[.int .i64 0, .int .i64 0, .int .i64 0]) (t := 52) ?hr ?_; (case hd => rfl); (case hg => rfl); (case hr => first | (go_simp; done) | (go_simp; rfl)); intro gb101 hg w13 hbox hb; have n0_ := Aside0.mk (below_step (by repeat (first | (with_reducible first | exact HB.out | apply below_alloc | apply pw_below_drewN | apply below_drew1) | exact HB.out)) hb); have n1_ := Aside0.mk (hbox); have n2_ := Aside0.mk ((by rw [hg]; exact (below_size (by repeat (first | (with_reducible first | exact HB.out | apply below_alloc | apply pw_below_drewN | apply below_drew1) | exact HB.out))) : w.heap.size ≤ gb101)); have n3_ := Aside0.mk ((by rw [hg]; exact (below_size (by repeat (first | (with_reducible first | exact HB.out | apply below_alloc | apply pw_below_drewN | apply below_drew1) | exact HB.out))) : w.heap.size ≤ gb101)); clear HB; have HB := n0_; have BK101 := n1_; have GW101 := n2_; have GE101 := n3_; clear n0_ n1_ n2_ n3_; clear hb hbox hg; have hcz14_0 : w13.cell? ⟨gb101, 0, none⟩ = some (.int .i64 0) := (blk_cell BK101.out 0).trans rfl; have hcz14_1 : w13.cell? ⟨gb101, 1, none⟩ = some (.int .i64 0) := (blk_cell BK101.out 1).trans rfl; have hcz14_2 : w13.cell? ⟨gb101, 2, none⟩ = some (.int .i64 0) := (blk_cell BK101.out 2).trans rfl; have hfz14_0 := blk_frozen BK101.out 0; have hfz14_1 := blk_frozen BK101.out 1; have hfz14_2 := blk_frozen BK101.out 2))
          refine bodyPost_ret (results_ct rfl _ _ gb101 52 #[.int .i64 0, .int .i64 0, .int .i64 0] (0, 0) _ rfl (by (with_reducible repeat (first | refine blk_drewN ?_ _ | refine blk_drew ?_ | refine blk_alloc ?_ _)); refine blk_put (cs := #[.int .i64 0, .int .i64 0, .int .i64 0]) ?_ 2 _ rfl; (with_reducible repeat (first | refine blk_drewN ?_ _ | refine blk_drew ?_ | refine blk_alloc ?_ _)); refine blk_put (cs := #[.int .i64 0, .int .i64 0, .int .i64 0]) ?_ 1 _ rfl; (with_reducible repeat (first | refine blk_drewN ?_ _ | refine blk_drew ?_ | refine blk_alloc ?_ _)); refine blk_put (cs := #[.int .i64 0, .int .i64 0, .int .i64 0]) ?_ 0 _ rfl; (with_reducible repeat (first | refine blk_drewN ?_ _ | refine blk_drew ?_ | refine blk_alloc ?_ _)); exact BK101.out) Try.underlying52 rfl (by kernel_rfl)) rfl ?_
          exact ⟨by first | rfl | (simp [errW_none, errW_some] <;> rfl) | (simp [*, errW_none, errW_some] <;> rfl), by repeat (first | (with_reducible first | exact HB.out | apply below_alloc | apply pw_below_drewN | apply below_drew1 | refine below_set ?_ GE101.out) | exact HB.out)⟩
        · rw [if_neg c12] at H
          have c12b0 : decide (1000 < a1) = false := decide_eq_false c12
          clear c12
          simp only [Option.some.injEq, Prod.mk.injEq] at H
          obtain ⟨rfl, rfl, rfl, rfl⟩ := H
          go_enter Try.func22, Try.ntmps22
          go_wp2_with (first | ((with_reducible refine gate_dst (N := 4) rfl ?_); refine box_event ?hg (N := 4) ?hd (cs := #[.int .i64 0, .int .i64 0, .int .i64 0]) (t := 52) ?hr ?_; (case hd => rfl); (case hg => rfl); (case hr => first | (go_simp; done) | (go_simp; rfl)); intro gb101 hg w15 hbox hb; have n0_ := Aside0.mk (below_step (by repeat (first | (with_reducible first | exact HB.out | apply below_alloc | apply pw_below_drewN | apply below_drew1) | exact HB.out)) hb); have n1_ := Aside0.mk (hbox); have n2_ := Aside0.mk ((by rw [hg]; exact (below_size (by repeat (first | (with_reducible first | exact HB.out | apply below_alloc | apply pw_below_drewN | apply below_drew1) | exact HB.out))) : w.heap.size ≤ gb101)); have n3_ := Aside0.mk ((by rw [hg]; exact (below_size (by repeat (first | (with_reducible first | exact HB.out | apply below_alloc | apply pw_below_drewN | apply below_drew1) | exact HB.out))) : w.heap.size ≤ gb101)); clear HB; have HB := n0_; have BK101 := n1_; have GW101 := n2_; have GE101 := n3_; clear n0_ n1_ n2_ n3_; clear hb hbox hg; have hcz16_0 : w15.cell? ⟨gb101, 0, none⟩ = some (.int .i64 0) := (blk_cell BK101.out 0).trans rfl; have hcz16_1 : w15.cell? ⟨gb101, 1, none⟩ = some (.int .i64 0) := (blk_cell BK101.out 1).trans rfl; have hcz16_2 : w15.cell? ⟨gb101, 2, none⟩ = some (.int .i64 0) := (blk_cell BK101.out 2).trans rfl; have hfz16_0 := blk_frozen BK101.out 0; have hfz16_1 := blk_frozen BK101.out 1; have hfz16_2 := blk_frozen BK101.out 2))
          refine bodyPost_ret (results_ct rfl _ _ gb101 52 #[.int .i64 a0, .int .i64 (wrap64 (16 * a1)), .int .i64 (wrap64 (16 * a1))] (0, 0) _ rfl (by (with_reducible repeat (first | refine blk_drewN ?_ _ | refine blk_drew ?_ | refine blk_alloc ?_ _)); refine blk_put (cs := #[.int .i64 a0, .int .i64 (wrap64 (16 * a1)), .int .i64 0]) ?_ 2 _ rfl; (with_reducible repeat (first | refine blk_drewN ?_ _ | refine blk_drew ?_ | refine blk_alloc ?_ _)); refine blk_put (cs := #[.int .i64 a0, .int .i64 0, .int .i64 0]) ?_ 1 _ rfl; (with_reducible repeat (first | refine blk_drewN ?_ _ | refine blk_drew ?_ | refine blk_alloc ?_ _)); refine blk_put (cs := #[.int .i64 0, .int .i64 0, .int .i64 0]) ?_ 0 _ rfl; (with_reducible repeat (first | refine blk_drewN ?_ _ | refine blk_drew ?_ | refine blk_alloc ?_ _)); exact BK101.out) Try.underlying52 rfl (by kernel_rfl)) rfl ?_
          exact ⟨by first | rfl | (simp [errW_none, errW_some] <;> rfl) | (simp [*, errW_none, errW_some] <;> rfl), by repeat (first | (with_reducible first | exact HB.out | apply below_alloc | apply pw_below_drewN | apply below_drew1 | refine below_set ?_ GE101.out) | exact HB.out)⟩

/-- A state of type 52 at block g of W; what its slices lead to came in by w0. -/
def IsS52 (w0 W : World) (g : Nat) (f0 : Int) (f1 : Int) (f2 : Int) : Prop := W.heap[g]? = some (.cells #[.int .i64 f0, .int .i64 f1, .int .i64 f2] 52 (0, 0)) ∧ w0.heap.size ≤ g
theorem IsS52.grown {w0 W : World} {g : Nat} {f0 : Int} {f1 : Int} {f2 : Int} {W1 : World} {row : Option Nat} (h : IsS52 w0 W g f0 f1 f2) (hw : W.grownBy W1 row) (hne : some g ≠ row) : IsS52 w0 W1 g f0 f1 f2 := by
  obtain ⟨hb, hg⟩ := h
  exact ⟨blk_grown hb hw hne, hg⟩
theorem IsS52.own_neN {w0 W : World} {g : Nat} {f0 : Int} {f1 : Int} {f2 : Int} {α : Type} {d : Kd α} {e : Nat} {base : Nat} {ok : Nat → Prop} {v : Value} {xs : List α} (h : IsS52 w0 W g f0 f1 f2) (ho : Kd.N d e W base ok v xs) (ht : e ≠ 52) : some g ≠ v.ownBlock := by
  obtain ⟨hb, hg⟩ := h
  exact Kd.N_ne ho hb ht
theorem IsS52.fresh {w0 W : World} {g : Nat} {f0 : Int} {f1 : Int} {f2 : Int} (h : IsS52 w0 W g f0 f1 f2) : ∀ k, W.heap.size ≤ k → k ≠ g := by
  obtain ⟨hb, hg⟩ := h
  exact Kd.freshB hb
theorem IsS52.kept {w0 W : World} {g : Nat} {f0 : Int} {f1 : Int} {f2 : Int} {W1 : World} {S : Nat → Prop} (h : IsS52 w0 W g f0 f1 f2) (hk : Kept W W1 S) (hne : ¬ S g) : IsS52 w0 W1 g f0 f1 f2 := by
  obtain ⟨hb, hg⟩ := h
  exact ⟨blk_kept hb hk hne, hg⟩
theorem IsS52.below {w0 W : World} {g : Nat} {f0 : Int} {f1 : Int} {f2 : Int} {W1 : World} (h : IsS52 w0 W g f0 f1 f2) (hw : Below W.heap.size W W1) : IsS52 w0 W1 g f0 f1 f2 := h.grown (grown_of_below hw none) (by simp)
theorem IsS52.alloc {w0 W : World} {g : Nat} {f0 : Int} {f1 : Int} {f2 : Int} (h : IsS52 w0 W g f0 f1 f2) (o : Obj) : IsS52 w0 (W.alloc o) g f0 f1 f2 := h.below (below_alloc (Below.refl _ _) o)
theorem IsS52.drewN {w0 W : World} {g : Nat} {f0 : Int} {f1 : Int} {f2 : Int} (h : IsS52 w0 W g f0 f1 f2) (m : Nat) : IsS52 w0 (W.drewN m) g f0 f1 f2 := h
theorem IsS52.drew {w0 W : World} {g : Nat} {f0 : Int} {f1 : Int} {f2 : Int} (h : IsS52 w0 W g f0 f1 f2) : IsS52 w0 W.drew g f0 f1 f2 := h
theorem IsS52.at_ {w0 W : World} {g : Nat} {f0 : Int} {f1 : Int} {f2 : Int} {w' : World} {m : Nat} (hq : W.drewN m = w') (h : IsS52 w0 W g f0 f1 f2) : IsS52 w0 w' g f0 f1 f2 := by subst hq; exact IsS52.drewN h m
theorem IsS52.apart {w0 W : World} {g : Nat} {f0 : Int} {f1 : Int} {f2 : Int} {α : Type} {d : Kd α} {e : Nat} {base : Nat} {ok : Nat → Prop} {v : Value} {xs : List α} (h : IsS52 w0 W g f0 f1 f2) (ho : d.R e W base ok v xs) (ht : ∀ q, q ∈ e :: d.E → q ≠ 52) : d.R e W base (fun k => ok k ∧ k ≠ g) v xs := by
  obtain ⟨hb, hg⟩ := h
  exact Kd.R_types ho hb ht
theorem IsS52.own_ne {w0 W : World} {g : Nat} {f0 : Int} {f1 : Int} {f2 : Int} {α : Type} {d : Kd α} {e : Nat} {base : Nat} {ok : Nat → Prop} {v : Value} {xs : List α} (h : IsS52 w0 W g f0 f1 f2) (ho : d.R e W base ok v xs) (ht : e ≠ 52) : some g ≠ v.ownBlock := by
  obtain ⟨hb, hg⟩ := h
  exact Kd.R_ne ho hb ht
theorem IsS52.apartQ {w0 W : World} {g : Nat} {f0 : Int} {f1 : Int} {f2 : Int} {α : Type} {d : Kd α} {e : Nat} {base : Nat} {ok : Nat → Prop} {v : Value} {xs : List α} (h : IsS52 w0 W g f0 f1 f2) (ho : d.Q e W base ok v xs) (ht : ∀ q, q ∈ e :: d.E → q ≠ 52) : d.Q e W base (fun k => ok k ∧ k ≠ g) v xs := by
  obtain ⟨hb, hg⟩ := h
  exact Kd.Q_types ho hb ht
theorem IsS52.own_neQ {w0 W : World} {g : Nat} {f0 : Int} {f1 : Int} {f2 : Int} {α : Type} {d : Kd α} {e : Nat} {base : Nat} {ok : Nat → Prop} {v : Value} {xs : List α} (h : IsS52 w0 W g f0 f1 f2) (ho : d.Q e W base ok v xs) (ht : e ≠ 52) : some g ≠ v.ownBlock := by
  obtain ⟨hb, hg⟩ := h
  exact Kd.Q_ne ho hb ht
theorem IsS52.apartS {w0 W : World} {g : Nat} {f0 : Int} {f1 : Int} {f2 : Int} {α : Type} {d : Kd α} {e : Nat} {base : Nat} {ok : Nat → Prop} {v : Value} {xs : List α} (h : IsS52 w0 W g f0 f1 f2) (ho : d.S e W base ok v xs) (ht : ∀ q, q ∈ e :: d.E → q ≠ 52) : d.S e W base (fun k => ok k ∧ k ≠ g) v xs := by
  obtain ⟨hb, hg⟩ := h
  exact Kd.S_types ho hb ht
theorem IsS52.own_neS {w0 W : World} {g : Nat} {f0 : Int} {f1 : Int} {f2 : Int} {α : Type} {d : Kd α} {e : Nat} {base : Nat} {ok : Nat → Prop} {v : Value} {xs : List α} (h : IsS52 w0 W g f0 f1 f2) (ho : d.S e W base ok v xs) (ht : e ≠ 52) : some g ≠ v.ownBlock := by
  obtain ⟨hb, hg⟩ := h
  exact Kd.S_ne ho hb ht
theorem IsS52.mk_ {w0 W : World} {g : Nat} {f0 : Int} {f1 : Int} {f2 : Int} (hb : W.heap[g]? = some (.cells #[.int .i64 f0, .int .i64 f1, .int .i64 f2] 52 (0, 0))) (hg : w0.heap.size ≤ g) : IsS52 w0 W g f0 f1 f2 := ⟨hb, hg⟩
theorem IsS52.lt {w0 W : World} {g : Nat} {f0 : Int} {f1 : Int} {f2 : Int} (h : IsS52 w0 W g f0 f1 f2) : g < W.heap.size := by
  obtain ⟨hb, hg⟩ := h
  exact blk_lt hb
theorem IsS52.ge {w0 W : World} {g : Nat} {f0 : Int} {f1 : Int} {f2 : Int} (h : IsS52 w0 W g f0 f1 f2) : w0.heap.size ≤ g := by
  obtain ⟨hb, hg⟩ := h
  exact hg
theorem IsS52.ne_blk {w0 W : World} {g : Nat} {f0 : Int} {f1 : Int} {f2 : Int} {a : Nat} {cs : Array Value} {t : TypeId} {fr : Nat × Nat} (h : IsS52 w0 W g f0 f1 f2) (hb2 : W.heap[a]? = some (.cells cs t fr)) (ht : t ≠ 52) : g ≠ a := by
  obtain ⟨hb, hg⟩ := h
  rintro rfl
  rw [hb] at hb2
  injection hb2 with hb2
  injection hb2 with _ ht2
  exact ht ht2.symm
theorem IsS52.far {w0 W : World} {g : Nat} {f0 : Int} {f1 : Int} {f2 : Int} {p : Addr} (h : IsS52 w0 W g f0 f1 f2) (hne : g ≠ p.block) (u : Value) : IsS52 w0 (W.setCell p u) g f0 f1 f2 := by
  obtain ⟨hb, hg⟩ := h
  exact ⟨blk_far hb hne u, hg⟩
theorem cellS52_0 {W : World} {g : Nat} {f0 : Int} {f1 : Int} {f2 : Int} (h : W.heap[g]? = some (.cells #[.int .i64 f0, .int .i64 f1, .int .i64 f2] 52 (0, 0))) : W.cell? ⟨g, 0, none⟩ = some (.int .i64 f0) := (blk_cell h 0).trans rfl
theorem IsS52.set_0 {w0 W : World} {g : Nat} {f0 : Int} {f1 : Int} {f2 : Int} (h : IsS52 w0 W g f0 f1 f2) (x : Int) : IsS52 w0 (W.setCell ⟨g, 0, none⟩ (.int .i64 x)) g x f1 f2 := by
  obtain ⟨hb, hg⟩ := h
  exact ⟨by simpa using blk_set hb 0 (.int .i64 x), hg⟩
theorem cellS52_1 {W : World} {g : Nat} {f0 : Int} {f1 : Int} {f2 : Int} (h : W.heap[g]? = some (.cells #[.int .i64 f0, .int .i64 f1, .int .i64 f2] 52 (0, 0))) : W.cell? ⟨g, 1, none⟩ = some (.int .i64 f1) := (blk_cell h 1).trans rfl
theorem IsS52.set_1 {w0 W : World} {g : Nat} {f0 : Int} {f1 : Int} {f2 : Int} (h : IsS52 w0 W g f0 f1 f2) (x : Int) : IsS52 w0 (W.setCell ⟨g, 1, none⟩ (.int .i64 x)) g f0 x f2 := by
  obtain ⟨hb, hg⟩ := h
  exact ⟨by simpa using blk_set hb 1 (.int .i64 x), hg⟩
theorem cellS52_2 {W : World} {g : Nat} {f0 : Int} {f1 : Int} {f2 : Int} (h : W.heap[g]? = some (.cells #[.int .i64 f0, .int .i64 f1, .int .i64 f2] 52 (0, 0))) : W.cell? ⟨g, 2, none⟩ = some (.int .i64 f2) := (blk_cell h 2).trans rfl
theorem IsS52.set_2 {w0 W : World} {g : Nat} {f0 : Int} {f1 : Int} {f2 : Int} (h : IsS52 w0 W g f0 f1 f2) (x : Int) : IsS52 w0 (W.setCell ⟨g, 2, none⟩ (.int .i64 x)) g f0 f1 x := by
  obtain ⟨hb, hg⟩ := h
  exact ⟨by simpa using blk_set hb 2 (.int .i64 x), hg⟩
theorem IsS52.new (w0 W : World) (f0 : Int) (f1 : Int) (f2 : Int) (hB : Below w0.heap.size w0 W) : IsS52 w0 (W.alloc (.cells #[.int .i64 f0, .int .i64 f1, .int .i64 f2] 52)) W.heap.size f0 f1 f2 := ⟨by simpa using heap_alloc_new W _, hB.size⟩

/-! ### bucket_Bucket_Take: function 24 -/
def bucket_Bucket_Take.f (s0_0 : Int) (s0_1 : Int) (s0_2 : Int) : Option (Int × Int × Int × Int) := if s0_2 < 16 then (some (80, s0_0, s0_1, s0_2)) else (some (0, s0_0, s0_1, wrap64 (s0_2 - 16)))
set_option maxHeartbeats 8000000 in
set_option maxRecDepth 100000 in
theorem bucket_Bucket_Take.calls (g : Nat) (s0_0 : Int) (s0_1 : Int) (s0_2 : Int) (r1 : Int) (r2 : Int) (r3 : Int) (r4 : Int) (w0 w : World) (hI : IsS52 w0 w g s0_0 s0_1 s0_2) (hB : Below w0.heap.size w0 w) (h : bucket_Bucket_Take.f s0_0 s0_1 s0_2 = some (r1, r2, r3, r4)) :
    Calls Try.prog 24 #[.pointer (some ⟨g, 0, none⟩)] w fun e w' => e = .returned (.int .i64 r1) ∧ IsS52 w0 w' g r2 r3 r4 ∧ Below w0.heap.size w0 w' ∧ KeepBut w w' g none := by
  have HI0 := Aside0.mk hI
  have HK := Aside0.mk (KeepBut.refl w g none)
  have HL := Aside0.mk hB.size
  clear hI
  have HW0 := Aside0.mk hB.size
  have HB := Aside0.mk hB
  clear hB
  have H : (if s0_2 < 16 then (some (80, s0_0, s0_1, s0_2)) else (some (0, s0_0, s0_1, wrap64 (s0_2 - 16)))) = some (r1, r2, r3, r4) := h
  clear h
  by_cases c2 : s0_2 < 16
  · rw [if_pos c2] at H
    have c2b0 : decide (s0_2 < 16) = true := decide_eq_true c2
    clear c2
    simp only [Option.some.injEq, Prod.mk.injEq] at H
    obtain ⟨rfl, rfl, rfl, rfl⟩ := H
    obtain ⟨HGz3, hgz3⟩ := HI0.out
    have hcz3_0 := cellS52_0 HGz3
    have hcz3_1 := cellS52_1 HGz3
    have hcz3_2 := cellS52_2 HGz3
    have hfz3_0 := blk_frozen HGz3 0
    have hfz3_1 := blk_frozen HGz3 1
    have hfz3_2 := blk_frozen HGz3 2
    clear HGz3 hgz3
    go_enter Try.func24, Try.ntmps24
    go_wp2
    go_ret
    exact ⟨by first | rfl | (simp [errW_none, errW_some] <;> rfl) | (simp [*, errW_none, errW_some] <;> rfl), by repeat (first | (with_reducible first | exact HI0.out | apply IsS52.alloc | apply IsS52.drewN | apply IsS52.drew | apply IsS52.set_0 | apply IsS52.set_1 | apply IsS52.set_2) | exact HI0.out), by repeat (first | (with_reducible first | exact HB.out | apply below_alloc | apply pw_below_drewN | apply below_drew1 | refine below_set ?_ (IsS52.ge HI0.out)) | exact HB.out), by repeat (first | (with_reducible first | exact HK.out | apply KeepBut.set_ | apply keep_drewN | apply keep_drew | apply keep_alloc) | exact HK.out)⟩
  · rw [if_neg c2] at H
    have c2b0 : decide (s0_2 < 16) = false := decide_eq_false c2
    clear c2
    simp only [Option.some.injEq, Prod.mk.injEq] at H
    obtain ⟨rfl, rfl, rfl, rfl⟩ := H
    obtain ⟨HGz4, hgz4⟩ := HI0.out
    have hcz4_0 := cellS52_0 HGz4
    have hcz4_1 := cellS52_1 HGz4
    have hcz4_2 := cellS52_2 HGz4
    have hfz4_0 := blk_frozen HGz4 0
    have hfz4_1 := blk_frozen HGz4 1
    have hfz4_2 := blk_frozen HGz4 2
    clear HGz4 hgz4
    go_enter Try.func24, Try.ntmps24
    go_wp2
    go_ret
    exact ⟨by first | rfl | (simp [errW_none, errW_some] <;> rfl) | (simp [*, errW_none, errW_some] <;> rfl), by repeat (first | (with_reducible first | exact HI0.out | apply IsS52.alloc | apply IsS52.drewN | apply IsS52.drew | apply IsS52.set_0 | apply IsS52.set_1 | apply IsS52.set_2) | exact HI0.out), by repeat (first | (with_reducible first | exact HB.out | apply below_alloc | apply pw_below_drewN | apply below_drew1 | refine below_set ?_ (IsS52.ge HI0.out)) | exact HB.out), by repeat (first | (with_reducible first | exact HK.out | apply KeepBut.set_ | apply keep_drewN | apply keep_drew | apply keep_alloc) | exact HK.out)⟩

/-! ### bucket_Bucket_Ticks: function 28 -/
def bucket_Bucket_Ticks.f (s0_0 : Int) (s0_1 : Int) (s0_2 : Int) (a1 : Int) : Option (Int × Int × Int) := some (s0_0, s0_1, mn (wrap64 (s0_2 + (wrap64 (s0_0 * (wrap64 (mn a1 16000)))))) s0_1)
def bucket_Bucket_Ticks.T1 : Bool × List (List Nat × List Nat) := (true, [([], []), ([], []), ([1], [1]), ([2], [2]), ([3], [3]), ([], []), ([5], [5]), ([6], [6]), ([7], [7]), ([], []), ([9], [9]), ([8, 10], [8, 10]), ([4, 11], [4, 11]), ([], []), ([13], [13]), ([14], [14]), ([15], [15]), ([12, 16], [12, 16]), ([0, 0, 1, 2, 3, 4, 5, 6, 7, 8, 9, 10, 11, 12, 13, 14, 15, 16, 17], [0]), ([18, 0, 1, 2, 3, 4, 5, 6, 7, 8, 9, 10, 11, 12, 13, 14, 15, 16, 17], [18]), ([19, 17, 0, 1, 2, 3, 4, 5, 6, 7, 8, 9, 10, 11, 12, 13, 14, 15, 16, 17], [17, 19])])
def bucket_Bucket_Ticks.B1 : List Nat := [0, 0, 2, 6, 14, 0, 32, 96, 224, 0, 512, 2016, 4094, 0, 8192, 24576, 57344, 131070, 262143, 524287, 1048575]
theorem bucket_Bucket_Ticks.tab1 : rtab .any (opsOf Try.f28 1) = bucket_Bucket_Ticks.T1 := by kernel_rfl
theorem bucket_Bucket_Ticks.bits1 : waitsOk bucket_Bucket_Ticks.T1.2 bucket_Bucket_Ticks.B1 = true := by kernel_rfl
set_option maxHeartbeats 8000000 in
set_option maxRecDepth 100000 in
theorem bucket_Bucket_Ticks.calls (g : Nat) (s0_0 : Int) (s0_1 : Int) (s0_2 : Int) (a1 : Int) (r1 : Int) (r2 : Int) (r3 : Int) (w0 w : World) (hI : IsS52 w0 w g s0_0 s0_1 s0_2) (hB : Below w0.heap.size w0 w) (h : bucket_Bucket_Ticks.f s0_0 s0_1 s0_2 a1 = some (r1, r2, r3)) :
    Calls Try.prog 28 #[.pointer (some ⟨g, 0, none⟩), .int .u64 a1] w fun e w' => e = .returned (.tuple #[]) ∧ IsS52 w0 w' g r1 r2 r3 ∧ Below w0.heap.size w0 w' ∧ KeepBut w w' g none := by
  have HI0 := Aside0.mk hI
  have HK := Aside0.mk (KeepBut.refl w g none)
  have HL := Aside0.mk hB.size
  clear hI
  have HW0 := Aside0.mk hB.size
  have HB := Aside0.mk hB
  clear hB
  have H : (some (s0_0, s0_1, mn (wrap64 (s0_2 + (wrap64 (s0_0 * (wrap64 (mn a1 16000)))))) s0_1)) = some (r1, r2, r3) := h
  clear h
  obtain ⟨ji3, hji3⟩ : ∃ j_ : Int, (mn a1 16000) = j_ := ⟨_, rfl⟩
  replace H : (some (s0_0, s0_1, mn (wrap64 (s0_2 + (wrap64 (s0_0 * (wrap64 (ji3)))))) s0_1)) = some (r1, r2, r3) := by first | (rw [hji3] at H; exact H) | (simp only [hji3] at H ⊢; exact H)
  (try (have hji3h : ji3 ≤ 16000 := by (rw [← hji3]; unfold mn; (repeat' split) <;> omega)))
  (try (have hji3g : ji3 ≤ 64 := by omega))
  have hji3_ : (if 16000 < a1 then 16000 else a1) = ji3 := hji3
  obtain ⟨ji4, hji4⟩ : ∃ j_ : Int, (mn (wrap64 (s0_2 + (wrap64 (s0_0 * (wrap64 (ji3)))))) s0_1) = j_ := ⟨_, rfl⟩
  replace H : (some (s0_0, s0_1, ji4)) = some (r1, r2, r3) := by first | (rw [hji4] at H; exact H) | (simp only [hji4] at H ⊢; exact H)
  have hji4_ : (if s0_1 < (wrap64 (s0_2 + (wrap64 (s0_0 * (wrap64 (ji3)))))) then s0_1 else (wrap64 (s0_2 + (wrap64 (s0_0 * (wrap64 (ji3))))))) = ji4 := hji4
  simp only [Option.some.injEq, Prod.mk.injEq] at H
  obtain ⟨rfl, rfl, rfl⟩ := H
  go_enter Try.func28, Try.ntmps28
  try go_wp2
  have n0_ := Aside0.mk (IsS52.drew HI0.out)
  have n1_ := Aside0.mk (keep_drew HK.out)
  have n2_ := Aside0.mk (below_drew1 HB.out)
  clear HI0
  clear HK
  clear HB
  have HI0 := n0_
  have HK := n1_
  have HB := n2_
  clear n0_ n1_ n2_
  refine start_ (n := 21) (S := fun w' => w'.cell? ⟨g, 0, none⟩ = some (.int .i64 s0_0) ∧ w'.cell? ⟨g, 1, none⟩ = some (.int .i64 s0_1) ∧ w'.cell? ⟨g, 2, none⟩ = some (.int .i64 s0_2)) (ds := [20]) #[false, false, false, false, false, false, false, false, false, false, false, false, false, false, false, false, false, false, false, false, false] (by kernel_rfl) rfl rfl ⟨(blk_cell HI0.out.1 0).trans rfl, (blk_cell HI0.out.1 1).trans rfl, (blk_cell HI0.out.1 2).trans rfl⟩ (fun hHeld => ?_); refine with_tabW bucket_Bucket_Ticks.tab1 bucket_Bucket_Ticks.bits1 (fun HT_ HW_ => ?_)
  generalize w.drew = w5 at HI0 HK HB hHeld ⊢
  refine pure_ (i := 0) (N := some 6) (v := ?_) (a' := ?_) #[true, false, false, false, false, false, false, false, false, false, false, false, false, false, false, false, false, false, false, false, false] rfl rfl (any_of HT_.out (by kernel_rfl)) (fun _ _ _ h => h) (Or.inl ⟨by rfl, ?_⟩) ?_ ?_
  rotate_left
  · intro w'
    go_simp
    with_reducible rfl
  rotate_left
  · simp only [Act.put, List.setIfInBounds_toArray, List.set_cons_zero, List.set_cons_succ, i64_w, i32_w]
    rfl
  refine pure_ (i := 1) (N := some 7) (v := ?_) (a' := ?_) #[true, true, false, false, false, false, false, false, false, false, false, false, false, false, false, false, false, false, false, false, false] rfl rfl (any_of HT_.out (by kernel_rfl)) (fun _ _ _ h => h) (Or.inl ⟨by rfl, ?_⟩) ?_ ?_
  rotate_left
  · intro w'
    go_simp
    with_reducible rfl
  rotate_left
  · simp only [Act.put, List.setIfInBounds_toArray, List.set_cons_zero, List.set_cons_succ, i64_w, i32_w]
    rfl
  refine pure_ (i := 2) (N := some 8) (v := ?_) (a' := ?_) #[true, true, true, false, false, false, false, false, false, false, false, false, false, false, false, false, false, false, false, false, false] rfl rfl (any_of HT_.out (by kernel_rfl)) (fun _ _ _ h => h) (Or.inl ⟨by rfl, ?_⟩) ?_ ?_
  rotate_left
  · intro w'
    go_simp
    with_reducible rfl
  rotate_left
  · simp only [Act.put, List.setIfInBounds_toArray, List.set_cons_zero, List.set_cons_succ, i64_w, i32_w]
    rfl
  refine pure_ (i := 3) (N := some 9) (v := ?_) (a' := ?_) #[true, true, true, true, false, false, false, false, false, false, false, false, false, false, false, false, false, false, false, false, false] rfl rfl (any_of HT_.out (by kernel_rfl)) (fun _ _ _ h => h) (Or.inl ⟨by rfl, ?_⟩) ?_ ?_
  rotate_left
  · intro w'
    go_simp
    with_reducible rfl
  rotate_left
  · simp only [Act.put, List.setIfInBounds_toArray, List.set_cons_zero, List.set_cons_succ, i64_w, i32_w]
    rfl
  refine pure_ (i := 5) (N := some 11) (v := ?_) (a' := ?_) #[true, true, true, true, false, true, false, false, false, false, false, false, false, false, false, false, false, false, false, false, false] rfl rfl (any_of HT_.out (by kernel_rfl)) (fun _ _ _ h => h) (Or.inl ⟨by rfl, ?_⟩) ?_ ?_
  rotate_left
  · intro w'
    go_simp
    with_reducible rfl
  rotate_left
  · simp only [Act.put, List.setIfInBounds_toArray, List.set_cons_zero, List.set_cons_succ, i64_w, i32_w]
    rfl
  refine pure_ (i := 6) (N := some 12) (v := ?_) (a' := ?_) #[true, true, true, true, false, true, true, false, false, false, false, false, false, false, false, false, false, false, false, false, false] rfl rfl (any_of HT_.out (by kernel_rfl)) (fun _ _ _ h => h) (Or.inl ⟨by rfl, ?_⟩) ?_ ?_
  rotate_left
  · intro w'
    go_simp
    with_reducible rfl
  rotate_left
  · simp only [Act.put, List.setIfInBounds_toArray, List.set_cons_zero, List.set_cons_succ, i64_w, i32_w]
    rfl
  refine pure_ (i := 7) (N := some 13) (v := ?_) (a' := ?_) #[true, true, true, true, false, true, true, true, false, false, false, false, false, false, false, false, false, false, false, false, false] rfl rfl (any_of HT_.out (by kernel_rfl)) (fun _ _ _ h => h) (Or.inl ⟨by rfl, ?_⟩) ?_ ?_
  rotate_left
  · intro w'
    go_simp
    with_reducible rfl
  rotate_left
  · simp only [Act.put, List.setIfInBounds_toArray, List.set_cons_zero, List.set_cons_succ, i64_w, i32_w]
    rfl
  refine pure_ (i := 9) (N := some 15) (v := ?_) (a' := ?_) #[true, true, true, true, false, true, true, true, false, true, false, false, false, false, false, false, false, false, false, false, false] rfl rfl (any_of HT_.out (by kernel_rfl)) (fun _ _ _ h => h) (Or.inl ⟨by rfl, ?_⟩) ?_ ?_
  rotate_left
  · intro w'
    go_simp
    with_reducible rfl
  rotate_left
  · simp only [Act.put, List.setIfInBounds_toArray, List.set_cons_zero, List.set_cons_succ, i64_w, i32_w]
    rfl
  refine pure_ (i := 10) (N := some 16) (v := ?_) (a' := ?_) #[true, true, true, true, false, true, true, true, false, true, true, false, false, false, false, false, false, false, false, false, false] rfl rfl (any_of HT_.out (by kernel_rfl)) (fun _ _ _ h => h) (Or.inl ⟨by rfl, ?_⟩) ?_ ?_
  rotate_left
  · intro w'
    go_simp
    with_reducible rfl
  rotate_left
  · simp only [Act.put, List.setIfInBounds_toArray, List.set_cons_zero, List.set_cons_succ, i64_w, i32_w]
    rfl
  refine pure_ (i := 13) (N := some 19) (v := ?_) (a' := ?_) #[true, true, true, true, false, true, true, true, false, true, true, false, false, true, false, false, false, false, false, false, false] rfl rfl (any_of HT_.out (by kernel_rfl)) (fun _ _ _ h => h) (Or.inl ⟨by rfl, ?_⟩) ?_ ?_
  rotate_left
  · intro w'
    go_simp
    with_reducible rfl
  rotate_left
  · simp only [Act.put, List.setIfInBounds_toArray, List.set_cons_zero, List.set_cons_succ, i64_w, i32_w]
    rfl
  refine pure_ (i := 14) (N := some 20) (v := ?_) (a' := ?_) #[true, true, true, true, false, true, true, true, false, true, true, false, false, true, true, false, false, false, false, false, false] rfl rfl (any_of HT_.out (by kernel_rfl)) (fun _ _ _ h => h) (Or.inl ⟨by rfl, ?_⟩) ?_ ?_
  rotate_left
  · intro w'
    go_simp
    with_reducible rfl
  rotate_left
  · simp only [Act.put, List.setIfInBounds_toArray, List.set_cons_zero, List.set_cons_succ, i64_w, i32_w]
    rfl
  refine pure_ (i := 15) (N := some 21) (v := ?_) (a' := ?_) #[true, true, true, true, false, true, true, true, false, true, true, false, false, true, true, true, false, false, false, false, false] rfl rfl (any_of HT_.out (by kernel_rfl)) (fun _ _ _ h => h) (Or.inl ⟨by rfl, ?_⟩) ?_ ?_
  rotate_left
  · intro w'
    go_simp
    with_reducible rfl
  rotate_left
  · simp only [Act.put, List.setIfInBounds_toArray, List.set_cons_zero, List.set_cons_succ, i64_w, i32_w]
    rfl
  refine take_ (i := 4) (N := some 10) (v := ?_) (a' := ?_) #[true, true, true, true, true, true, true, true, false, true, true, false, false, true, true, true, false, false, false, false, false] rfl rfl (take_ofW HT_.out HW_.out (by kernel_rfl)) (fun _ _ _ h => h) (Or.inl ⟨by rfl, ?_⟩) hHeld ?_ ?_
  rotate_left
  · rintro w' ⟨s0, s1, s2⟩
    go_simp
    with_reducible rfl
  rotate_left
  · simp only [Act.put, List.setIfInBounds_toArray, List.set_cons_zero, List.set_cons_succ, i64_w, i32_w]
    rfl
  refine take_ (i := 8) (N := some 14) (v := ?_) (a' := ?_) #[true, true, true, true, true, true, true, true, true, true, true, false, false, true, true, true, false, false, false, false, false] rfl rfl (take_ofW HT_.out HW_.out (by kernel_rfl)) (fun _ _ _ h => h) (Or.inl ⟨by rfl, ?_⟩) hHeld ?_ ?_
  rotate_left
  · rintro w' ⟨s0, s1, s2⟩
    go_simp
    with_reducible rfl
  rotate_left
  · simp only [Act.put, List.setIfInBounds_toArray, List.set_cons_zero, List.set_cons_succ, i64_w, i32_w]
    rfl
  refine pure_ (i := 11) (N := some 17) (v := ?_) (a' := ?_) #[true, true, true, true, true, true, true, true, true, true, true, true, false, true, true, true, false, false, false, false, false] rfl rfl (any_of HT_.out (by kernel_rfl)) (fun _ _ _ h => h) (Or.inl ⟨by rfl, ?_⟩) ?_ ?_
  rotate_left
  · intro w'
    go_simp
    with_reducible rfl
  rotate_left
  · simp only [Act.put, List.setIfInBounds_toArray, List.set_cons_zero, List.set_cons_succ, i64_w, i32_w]
    rfl
  refine pure_ (i := 12) (N := some 18) (v := ?_) (a' := ?_) #[true, true, true, true, true, true, true, true, true, true, true, true, true, true, true, true, false, false, false, false, false] rfl rfl (any_of HT_.out (by kernel_rfl)) (fun _ _ _ h => h) (Or.inl ⟨by rfl, ?_⟩) ?_ ?_
  rotate_left
  · intro w'
    go_simp
    with_reducible rfl
  rotate_left
  · simp only [Act.put, List.setIfInBounds_toArray, List.set_cons_zero, List.set_cons_succ, i64_w, i32_w]
    rfl
  refine take_ (i := 16) (N := some 22) (v := ?_) (a' := ?_) #[true, true, true, true, true, true, true, true, true, true, true, true, true, true, true, true, true, false, false, false, false] rfl rfl (take_ofW HT_.out HW_.out (by kernel_rfl)) (fun _ _ _ h => h) (Or.inl ⟨by rfl, ?_⟩) hHeld ?_ ?_
  rotate_left
  · rintro w' ⟨s0, s1, s2⟩
    go_simp
    with_reducible rfl
  rotate_left
  · simp only [Act.put, List.setIfInBounds_toArray, List.set_cons_zero, List.set_cons_succ, i64_w, i32_w]
    rfl
  refine pure_ (i := 17) (N := some 23) (v := ?_) (a' := ?_) #[true, true, true, true, true, true, true, true, true, true, true, true, true, true, true, true, true, true, false, false, false] rfl rfl (any_of HT_.out (by kernel_rfl)) (fun _ _ _ h => h) (Or.inl ⟨by rfl, ?_⟩) ?_ ?_
  rotate_left
  · intro w'
    go_simp
    with_reducible rfl
  rotate_left
  · simp only [Act.put, List.setIfInBounds_toArray, List.set_cons_zero, List.set_cons_succ, i64_w, i32_w]
    rfl
  refine pure_ (i := 18) (N := some 24) (v := ?_) (a' := ?_) #[true, true, true, true, true, true, true, true, true, true, true, true, true, true, true, true, true, true, true, false, false] rfl rfl (any_of HT_.out (by kernel_rfl)) (fun _ _ _ h => h) (Or.inl ⟨by rfl, ?_⟩) ?_ ?_
  rotate_left
  · intro w'
    go_simp
    with_reducible rfl
  rotate_left
  · simp only [Act.put, List.setIfInBounds_toArray, List.set_cons_zero, List.set_cons_succ, i64_w, i32_w]
    rfl
  refine pure_ (i := 19) (N := some 25) (v := ?_) (a' := ?_) #[true, true, true, true, true, true, true, true, true, true, true, true, true, true, true, true, true, true, true, true, false] rfl rfl (any_of HT_.out (by kernel_rfl)) (fun _ _ _ h => h) (Or.inl ⟨by rfl, ?_⟩) ?_ ?_
  rotate_left
  · intro w'
    go_simp
    with_reducible rfl
  rotate_left
  · simp only [Act.put, List.setIfInBounds_toArray, List.set_cons_zero, List.set_cons_succ, i64_w, i32_w]
    rfl
  refine last_ (i := 20) (N := none) #[true, true, true, true, true, true, true, true, true, true, true, true, true, true, true, true, true, true, true, true, true] rfl rfl (one_of HT_.out (by kernel_rfl)) (by decide) (fun K hK => ?_)
  have hs6 : w5.cell? ⟨g, 2, none⟩ = some (.int .i64 s0_2) := (blk_cell HI0.out.1 2).trans rfl
  have hfs6 := blk_frozen HI0.out.1 2
  refine skip_ (w1 := ?_) (by rfl) rfl ?_ ?_
  rotate_left
  · go_simp
    rfl
  refine hK.out _ _ ?_
  clear hK K
  refine done_ (done_of HT_.out (by kernel_rfl)) ?_
  try go_wp2
  first | go_end0 | ((try simp only [Exit.inBlock, Exit.then]); refine bodyPost_ret (results_none rfl _ _ _) rfl ?_)
  exact ⟨by first | rfl | (simp [errW_none, errW_some] <;> rfl) | (simp only [← hji3, ← hji4]; first | rfl | (simp [errW_none, errW_some] <;> rfl)) | (simp [*, errW_none, errW_some] <;> rfl), by repeat (first | (with_reducible first | exact HI0.out | apply IsS52.alloc | apply IsS52.drewN | apply IsS52.drew | apply IsS52.set_0 | apply IsS52.set_1 | apply IsS52.set_2) | exact HI0.out), by repeat (first | (with_reducible first | exact HB.out | apply below_alloc | apply pw_below_drewN | apply below_drew1 | refine below_set ?_ (IsS52.ge HI0.out)) | exact HB.out), by repeat (first | (with_reducible first | exact HK.out | apply KeepBut.set_ | apply keep_drewN | apply keep_drew | apply keep_alloc) | exact HK.out)⟩

/-! ### bucket_Bucket_Tick: function 26 -/
def bucket_Bucket_Tick.f (s0_0 : Int) (s0_1 : Int) (s0_2 : Int) : Option (Int × Int × Int) := (bucket_Bucket_Ticks.f s0_0 s0_1 s0_2 1).bind fun bt102 => (some (bt102.1, bt102.2.1, bt102.2.2))
set_option maxHeartbeats 8000000 in
set_option maxRecDepth 100000 in
theorem bucket_Bucket_Tick.calls (g : Nat) (s0_0 : Int) (s0_1 : Int) (s0_2 : Int) (r1 : Int) (r2 : Int) (r3 : Int) (w0 w : World) (hI : IsS52 w0 w g s0_0 s0_1 s0_2) (hB : Below w0.heap.size w0 w) (h : bucket_Bucket_Tick.f s0_0 s0_1 s0_2 = some (r1, r2, r3)) :
    Calls Try.prog 26 #[.pointer (some ⟨g, 0, none⟩)] w fun e w' => e = .returned (.tuple #[]) ∧ IsS52 w0 w' g r1 r2 r3 ∧ Below w0.heap.size w0 w' ∧ KeepBut w w' g none := by
  have HI0 := Aside0.mk hI
  have HK := Aside0.mk (KeepBut.refl w g none)
  have HL := Aside0.mk hB.size
  clear hI
  have HW0 := Aside0.mk hB.size
  have HB := Aside0.mk hB
  clear hB
  have H : ((bucket_Bucket_Ticks.f s0_0 s0_1 s0_2 1).bind fun bt102 => (some (bt102.1, bt102.2.1, bt102.2.2))) = some (r1, r2, r3) := h
  clear h
  replace H := Option.bind_eq_some_iff.mp H
  obtain ⟨⟨t102, t103, t104⟩, A20, H⟩ := H
  replace H : (some (t102, t103, t104)) = some (r1, r2, r3) := H
  have A2 := Aside0.mk A20
  clear A20
  simp only [Option.some.injEq, Prod.mk.injEq] at H
  obtain ⟨rfl, rfl, rfl⟩ := H
  go_enter Try.func26, Try.ntmps26
  go_wp2_with (first | ((with_reducible refine gate_callee (f := 28) rfl ?_); refine goesL_ (some 3) rfl rfl Try.func28 (by kernel_rfl) rfl #[.pointer (some ⟨g, 0, none⟩), .int .u64 1] rfl (by (try simp only [List.map_toArray, List.map_cons, List.map_nil]); first | done | rfl | (simp only [List.length_drop, List.length_take]; rfl)) ?_; (with_reducible refine (bucket_Bucket_Ticks.calls g s0_0 s0_1 s0_2 1 t102 t103 t104 w0 _ ?side1 ?side2 A2.out).mono ?_); (case side1 => repeat (first | (with_reducible first | exact HI0.out | apply IsS52.alloc | apply IsS52.drewN | apply IsS52.drew | apply IsS52.set_0 | apply IsS52.set_1 | apply IsS52.set_2) | exact HI0.out)); (case side2 => repeat (first | (with_reducible first | exact HB.out | apply below_alloc | apply pw_below_drewN | apply below_drew1 | refine below_set ?_ (IsS52.ge HI0.out)) | exact HB.out)); rintro e w3 ⟨rfl, hi, hb, hk⟩; refine ⟨_, rfl, ?_⟩; have n0_ := Aside0.mk (KeepBut.trans (by repeat (first | (with_reducible first | exact HK.out | apply KeepBut.set_ | apply keep_drewN | apply keep_drew | apply keep_alloc) | exact HK.out)) hk (.inl rfl)); have n1_ := Aside0.mk (hb); have n2_ := Aside0.mk (hi); clear HK; clear HB; clear HI0; have HK := n0_; have HB := n1_; have HI0 := n2_; clear n0_ n1_ n2_; (try clear hb); (try clear hb2); (try clear hk); (try clear hi)))
  first | go_end0 | ((try simp only [Exit.inBlock, Exit.then]); refine bodyPost_ret (results_none rfl _ _ _) rfl ?_)
  exact ⟨by first | rfl | (simp [errW_none, errW_some] <;> rfl) | (simp [*, errW_none, errW_some] <;> rfl), by repeat (first | (with_reducible first | exact HI0.out | apply IsS52.alloc | apply IsS52.drewN | apply IsS52.drew | apply IsS52.set_0 | apply IsS52.set_1 | apply IsS52.set_2) | exact HI0.out), by repeat (first | (with_reducible first | exact HB.out | apply below_alloc | apply pw_below_drewN | apply below_drew1 | refine below_set ?_ (IsS52.ge HI0.out)) | exact HB.out), by repeat (first | (with_reducible first | exact HK.out | apply KeepBut.set_ | apply keep_drewN | apply keep_drew | apply keep_alloc) | exact HK.out)⟩

/-! ### bucket_Bucket_Left: function 30 -/
def bucket_Bucket_Left.f (s0_0 : Int) (s0_1 : Int) (s0_2 : Int) : Option (Int × Int × Int × Int) := some (wrap64 (Int.tdiv s0_2 16), s0_0, s0_1, s0_2)
set_option maxHeartbeats 8000000 in
set_option maxRecDepth 100000 in
theorem bucket_Bucket_Left.calls (g : Nat) (s0_0 : Int) (s0_1 : Int) (s0_2 : Int) (r1 : Int) (r2 : Int) (r3 : Int) (r4 : Int) (w0 w : World) (hI : IsS52 w0 w g s0_0 s0_1 s0_2) (hB : Below w0.heap.size w0 w) (h : bucket_Bucket_Left.f s0_0 s0_1 s0_2 = some (r1, r2, r3, r4)) :
    Calls Try.prog 30 #[.pointer (some ⟨g, 0, none⟩)] w fun e w' => e = .returned (.int .i64 r1) ∧ IsS52 w0 w' g r2 r3 r4 ∧ Below w0.heap.size w0 w' ∧ KeepBut w w' g none := by
  have HI0 := Aside0.mk hI
  have HK := Aside0.mk (KeepBut.refl w g none)
  have HL := Aside0.mk hB.size
  clear hI
  have HW0 := Aside0.mk hB.size
  have HB := Aside0.mk hB
  clear hB
  have H : (some (wrap64 (Int.tdiv s0_2 16), s0_0, s0_1, s0_2)) = some (r1, r2, r3, r4) := h
  clear h
  simp only [Option.some.injEq, Prod.mk.injEq] at H
  obtain ⟨rfl, rfl, rfl, rfl⟩ := H
  obtain ⟨HGz2, hgz2⟩ := HI0.out
  have hcz2_0 := cellS52_0 HGz2
  have hcz2_1 := cellS52_1 HGz2
  have hcz2_2 := cellS52_2 HGz2
  have hfz2_0 := blk_frozen HGz2 0
  have hfz2_1 := blk_frozen HGz2 1
  have hfz2_2 := blk_frozen HGz2 2
  clear HGz2 hgz2
  go_enter Try.func30, Try.ntmps30
  go_wp2
  go_ret
  exact ⟨by first | rfl | (simp [errW_none, errW_some] <;> rfl) | (simp [*, errW_none, errW_some] <;> rfl), by repeat (first | (with_reducible first | exact HI0.out | apply IsS52.alloc | apply IsS52.drewN | apply IsS52.drew | apply IsS52.set_0 | apply IsS52.set_1 | apply IsS52.set_2) | exact HI0.out), by repeat (first | (with_reducible first | exact HB.out | apply below_alloc | apply pw_below_drewN | apply below_drew1 | refine below_set ?_ (IsS52.ge HI0.out)) | exact HB.out), by repeat (first | (with_reducible first | exact HK.out | apply KeepBut.set_ | apply keep_drewN | apply keep_drew | apply keep_alloc) | exact HK.out)⟩
theorem bucket_Bucket_Left.calls_at (p : Addr) (s0_0 : Int) (s0_1 : Int) (s0_2 : Int) (r1 : Int) (r2 : Int) (r3 : Int) (r4 : Int) (w : World) (h0 : w.cell? p = some (.int .i64 s0_0)) (h1 : w.cell? ⟨p.block, p.off + 1, none⟩ = some (.int .i64 s0_1)) (h2 : w.cell? ⟨p.block, p.off + 2, none⟩ = some (.int .i64 s0_2)) (h : bucket_Bucket_Left.f s0_0 s0_1 s0_2 = some (r1, r2, r3, r4)) : Calls Try.prog 30 #[.pointer (some p)] w fun e w' => e = .returned (.int .i64 r1) ∧ Drawn0 w w' := by
  have hu_ := Try.underlying52
  simp only [bucket_Bucket_Left.f, Option.some.injEq, Prod.mk.injEq] at h
  obtain ⟨rfl, rfl, rfl, rfl⟩ := h
  go_enter Try.func30, Try.ntmps30
  go_wp2
  go_ret
  exact ⟨by first | rfl | (simp; done) | (simp [*]; done), by repeat (first | exact Drawn0.refl _ | apply Drawn0.step)⟩
theorem bucket_Bucket_Left.ro {g : Nat} {s0_0 : Int} {s0_1 : Int} {s0_2 : Int} {r1 : Int} {r2 : Int} {r3 : Int} {r4 : Int} {w0 w_ : World} (h : bucket_Bucket_Left.f s0_0 s0_1 s0_2 = some (r1, r2, r3, r4)) (hi : IsS52 w0 w_ g r2 r3 r4) : IsS52 w0 w_ g s0_0 s0_1 s0_2 := by
  have e_ : r2 = s0_0 ∧ r3 = s0_1 ∧ r4 = s0_2 := by simp only [bucket_Bucket_Left.f] at h; (repeat' split at h) <;> simp_all
  obtain ⟨rfl, rfl, rfl⟩ := e_
  exact hi

/-! ### joustlaw08_fixed: function 21 -/
def joustlaw08_fixed.j0 : Nat → Bool → Int → Int → Int → Option (Bool)
  | 0, _, _, _, _ => none
  | k + 1, x39, x110000, x110001, x110002 => if x39 = true then (some false) else ((bucket_Bucket_Tick.f x110000 x110001 x110002).bind fun bt135 => ((bucket_Bucket_Ticks.f bt135.1 bt135.2.1 bt135.2.2 1).bind fun bt139 => ((bucket_Bucket_Left.f bt135.1 bt135.2.1 bt135.2.2).bind fun bt142 => (if bt142.1 = 2 then ((bucket_Bucket_Left.f bt139.1 bt139.2.1 bt139.2.2).bind fun bt146 => (some (bt146.1 == 3))) else (some false)))))
def joustlaw08_fixed.f (k : Nat)  : Option (Bool) := (bucket_New.f 32 3).bind fun bt105 => ((bucket_New.f 0 0).bind fun bt110 => (if bt105.2.2.2 = 0 then (if bt110.2.2.2 = 110 then ((bucket_Bucket_Left.f bt105.1 bt105.2.1 bt105.2.2.1).bind fun bt115 => (if bt115.1 = 3 then ((bucket_Bucket_Take.f bt105.1 bt105.2.1 bt105.2.2.1).bind fun bt119 => (if bt119.1 = 0 then ((bucket_Bucket_Take.f bt119.2.1 bt119.2.2.1 bt119.2.2.2).bind fun bt123 => (if bt123.1 = 0 then ((bucket_Bucket_Take.f bt123.2.1 bt123.2.2.1 bt123.2.2.2).bind fun bt127 => (if bt127.1 = 0 then ((bucket_Bucket_Take.f bt127.2.1 bt127.2.2.1 bt127.2.2.2).bind fun bt131 => (joustlaw08_fixed.j0 k (bt131.1 != 80) bt131.2.1 bt131.2.2.1 bt131.2.2.2)) else (joustlaw08_fixed.j0 k true bt127.2.1 bt127.2.2.1 bt127.2.2.2))) else (joustlaw08_fixed.j0 k true bt123.2.1 bt123.2.2.1 bt123.2.2.2))) else (joustlaw08_fixed.j0 k true bt119.2.1 bt119.2.2.1 bt119.2.2.2))) else (joustlaw08_fixed.j0 k true bt105.1 bt105.2.1 bt105.2.2.1))) else (joustlaw08_fixed.j0 k true bt105.1 bt105.2.1 bt105.2.2.1)) else (joustlaw08_fixed.j0 k true bt105.1 bt105.2.1 bt105.2.2.1)))
theorem joustlaw08_fixed.mono_l : ∀ k, (∀ y0 y1 y2 y3, LeO (joustlaw08_fixed.j0 k y0 y1 y2 y3) (joustlaw08_fixed.j0 (k + 1) y0 y1 y2 y3))
  | 0 => fun _ _ _ _ r h => by simp [joustlaw08_fixed.j0] at h
  | k + 1 => by
    have ih0 := joustlaw08_fixed.mono_l k
    · intro y0 y1 y2 y3
      unfold joustlaw08_fixed.j0
      repeat' first
      | (with_reducible exact ih0 _ _ _ _)
      | (with_reducible exact LeO.refl _)
      | (with_reducible exact LeO.none _)
      | (with_reducible refine LeO.ite ?_ ?_)
      | (with_reducible refine LeO.bind ?_ (fun _ => ?_))
      | exact ih0 _ _ _ _
      | exact LeO.none _
      | refine LeO.ite ?_ ?_
      | refine LeO.bind ?_ (fun _ => ?_)
theorem joustlaw08_fixed.mono : ∀ k, LeO (joustlaw08_fixed.f k ) (joustlaw08_fixed.f (k + 1) ) := by
  intro  k
  have ih0 := joustlaw08_fixed.mono_l k
  unfold joustlaw08_fixed.f
  repeat' first
      | (with_reducible exact ih0 _ _ _ _)
      | (with_reducible exact LeO.refl _)
      | (with_reducible exact LeO.none _)
      | (with_reducible refine LeO.ite ?_ ?_)
      | (with_reducible refine LeO.bind ?_ (fun _ => ?_))
      | exact ih0 _ _ _ _
      | exact LeO.none _
      | refine LeO.ite ?_ ?_
      | refine LeO.bind ?_ (fun _ => ?_)
set_option maxHeartbeats 8000000 in
set_option maxRecDepth 100000 in
theorem joustlaw08_fixed.calls (k : Nat)  (r : Bool) (w : World) (h : joustlaw08_fixed.f k  = some r) :
    Calls Try.prog 21 #[] w fun e w' => e = .returned (.bool r) ∧ Below w.heap.size w w' := by
  have hu52 := Try.underlying52
  have HB := Aside0.mk (Below.refl w.heap.size w)
  have H : ((bucket_New.f 32 3).bind fun bt105 => ((bucket_New.f 0 0).bind fun bt110 => (if bt105.2.2.2 = 0 then (if bt110.2.2.2 = 110 then ((bucket_Bucket_Left.f bt105.1 bt105.2.1 bt105.2.2.1).bind fun bt115 => (if bt115.1 = 3 then ((bucket_Bucket_Take.f bt105.1 bt105.2.1 bt105.2.2.1).bind fun bt119 => (if bt119.1 = 0 then ((bucket_Bucket_Take.f bt119.2.1 bt119.2.2.1 bt119.2.2.2).bind fun bt123 => (if bt123.1 = 0 then ((bucket_Bucket_Take.f bt123.2.1 bt123.2.2.1 bt123.2.2.2).bind fun bt127 => (if bt127.1 = 0 then ((bucket_Bucket_Take.f bt127.2.1 bt127.2.2.1 bt127.2.2.2).bind fun bt131 => (joustlaw08_fixed.j0 k (bt131.1 != 80) bt131.2.1 bt131.2.2.1 bt131.2.2.2)) else (joustlaw08_fixed.j0 k true bt127.2.1 bt127.2.2.1 bt127.2.2.2))) else (joustlaw08_fixed.j0 k true bt123.2.1 bt123.2.2.1 bt123.2.2.2))) else (joustlaw08_fixed.j0 k true bt119.2.1 bt119.2.2.1 bt119.2.2.2))) else (joustlaw08_fixed.j0 k true bt105.1 bt105.2.1 bt105.2.2.1))) else (joustlaw08_fixed.j0 k true bt105.1 bt105.2.1 bt105.2.2.1)) else (joustlaw08_fixed.j0 k true bt105.1 bt105.2.1 bt105.2.2.1)))) = some r := h
  clear h
  replace H := Option.bind_eq_some_iff.mp H
  obtain ⟨⟨t105, t106, t107, t108⟩, A10, H⟩ := H
  replace H : ((bucket_New.f 0 0).bind fun bt110 => (if t108 = 0 then (if bt110.2.2.2 = 110 then ((bucket_Bucket_Left.f t105 t106 t107).bind fun bt115 => (if bt115.1 = 3 then ((bucket_Bucket_Take.f t105 t106 t107).bind fun bt119 => (if bt119.1 = 0 then ((bucket_Bucket_Take.f bt119.2.1 bt119.2.2.1 bt119.2.2.2).bind fun bt123 => (if bt123.1 = 0 then ((bucket_Bucket_Take.f bt123.2.1 bt123.2.2.1 bt123.2.2.2).bind fun bt127 => (if bt127.1 = 0 then ((bucket_Bucket_Take.f bt127.2.1 bt127.2.2.1 bt127.2.2.2).bind fun bt131 => (joustlaw08_fixed.j0 k (bt131.1 != 80) bt131.2.1 bt131.2.2.1 bt131.2.2.2)) else (joustlaw08_fixed.j0 k true bt127.2.1 bt127.2.2.1 bt127.2.2.2))) else (joustlaw08_fixed.j0 k true bt123.2.1 bt123.2.2.1 bt123.2.2.2))) else (joustlaw08_fixed.j0 k true bt119.2.1 bt119.2.2.1 bt119.2.2.2))) else (joustlaw08_fixed.j0 k true t105 t106 t107))) else (joustlaw08_fixed.j0 k true t105 t106 t107)) else (joustlaw08_fixed.j0 k true t105 t106 t107))) = some r := H
  have A1 := Aside0.mk A10
  clear A10
  replace H := Option.bind_eq_some_iff.mp H
  obtain ⟨⟨t110, t111, t112, t113⟩, A20, H⟩ := H
  replace H : (if t108 = 0 then (if t113 = 110 then ((bucket_Bucket_Left.f t105 t106 t107).bind fun bt115 => (if bt115.1 = 3 then ((bucket_Bucket_Take.f t105 t106 t107).bind fun bt119 => (if bt119.1 = 0 then ((bucket_Bucket_Take.f bt119.2.1 bt119.2.2.1 bt119.2.2.2).bind fun bt123 => (if bt123.1 = 0 then ((bucket_Bucket_Take.f bt123.2.1 bt123.2.2.1 bt123.2.2.2).bind fun bt127 => (if bt127.1 = 0 then ((bucket_Bucket_Take.f bt127.2.1 bt127.2.2.1 bt127.2.2.2).bind fun bt131 => (joustlaw08_fixed.j0 k (bt131.1 != 80) bt131.2.1 bt131.2.2.1 bt131.2.2.2)) else (joustlaw08_fixed.j0 k true bt127.2.1 bt127.2.2.1 bt127.2.2.2))) else (joustlaw08_fixed.j0 k true bt123.2.1 bt123.2.2.1 bt123.2.2.2))) else (joustlaw08_fixed.j0 k true bt119.2.1 bt119.2.2.1 bt119.2.2.2))) else (joustlaw08_fixed.j0 k true t105 t106 t107))) else (joustlaw08_fixed.j0 k true t105 t106 t107)) else (joustlaw08_fixed.j0 k true t105 t106 t107)) = some r := H
  have A2 := Aside0.mk A20
  clear A20
  have HC3 := Aside0.mk H
  clear H
  go_enter Try.func21, Try.ntmps21
  go_upto_region 3 with (first | ((with_reducible refine gate_callee (f := 22) rfl ?_); refine goesL_ (some 7) rfl rfl Try.func22 (by kernel_rfl) rfl #[.int .i64 32, .int .i64 3] rfl (by (try simp only [List.map_toArray, List.map_cons, List.map_nil]); first | done | rfl | (simp only [List.length_drop, List.length_take]; rfl)) ?_; (with_reducible refine (bucket_New.calls 32 3 t105 t106 t107 t108 _ A1.out).mono ?_); rintro e w4 ⟨rfl, hb⟩; refine ⟨_, rfl, ?_⟩; have n0_ := Aside0.mk (below_step (by repeat (first | (with_reducible first | exact HB.out | apply below_alloc | apply pw_below_drewN | apply below_drew1) | exact HB.out)) hb); clear HB; have HB := n0_; clear n0_; (try clear hb); (try clear hb2); (try clear hk); (try clear hi)) | ((with_reducible refine gate_dst (N := 1) rfl ?_); refine box_event ?hg (N := 1) ?hd (cs := #[.int .i64 0, .int .i64 0, .int .i64 0]) (t := 52) ?hr ?_; (case hd => rfl); (case hg => rfl); (case hr => first | (go_simp; done) | (go_simp; rfl)); intro gb109 hg w5 hbox hb; have n0_ := Aside0.mk (below_step (by repeat (first | (with_reducible first | exact HB.out | apply below_alloc | apply pw_below_drewN | apply below_drew1) | exact HB.out)) hb); have n1_ := Aside0.mk (hbox); have n2_ := Aside0.mk ((by rw [hg]; exact (below_size (by repeat (first | (with_reducible first | exact HB.out | apply below_alloc | apply pw_below_drewN | apply below_drew1) | exact HB.out))) : w.heap.size ≤ gb109)); have n3_ := Aside0.mk ((by rw [hg]; exact (below_size (by repeat (first | (with_reducible first | exact HB.out | apply below_alloc | apply pw_below_drewN | apply below_drew1) | exact HB.out))) : w.heap.size ≤ gb109)); clear HB; have HB := n0_; have BK109 := n1_; have GW109 := n2_; have GE109 := n3_; clear n0_ n1_ n2_ n3_; clear hb hbox hg; have hcz6_0 : w5.cell? ⟨gb109, 0, none⟩ = some (.int .i64 0) := (blk_cell BK109.out 0).trans rfl; have hcz6_1 : w5.cell? ⟨gb109, 1, none⟩ = some (.int .i64 0) := (blk_cell BK109.out 1).trans rfl; have hcz6_2 : w5.cell? ⟨gb109, 2, none⟩ = some (.int .i64 0) := (blk_cell BK109.out 2).trans rfl; have hfz6_0 := blk_frozen BK109.out 0; have hfz6_1 := blk_frozen BK109.out 1; have hfz6_2 := blk_frozen BK109.out 2) | ((with_reducible refine gate_callee (f := 22) rfl ?_); refine goesL_ (some 11) rfl rfl Try.func22 (by kernel_rfl) rfl #[.int .i64 0, .int .i64 0] rfl (by (try simp only [List.map_toArray, List.map_cons, List.map_nil]); first | done | rfl | (simp only [List.length_drop, List.length_take]; rfl)) ?_; (with_reducible refine (bucket_New.calls 0 0 t110 t111 t112 t113 _ A2.out).mono ?_); rintro e w7 ⟨rfl, hb⟩; refine ⟨_, rfl, ?_⟩; have n0_ := Aside0.mk (blk_below (g := gb109) (o := .cells #[.int .i64 t105, .int .i64 t106, .int .i64 t107] 52 (0, 0)) (by (with_reducible repeat (first | refine blk_drewN ?_ _ | refine blk_drew ?_ | refine blk_alloc ?_ _)); refine blk_put (cs := #[.int .i64 t105, .int .i64 t106, .int .i64 0]) ?_ 2 _ rfl; (with_reducible repeat (first | refine blk_drewN ?_ _ | refine blk_drew ?_ | refine blk_alloc ?_ _)); refine blk_put (cs := #[.int .i64 t105, .int .i64 0, .int .i64 0]) ?_ 1 _ rfl; (with_reducible repeat (first | refine blk_drewN ?_ _ | refine blk_drew ?_ | refine blk_alloc ?_ _)); refine blk_put (cs := #[.int .i64 0, .int .i64 0, .int .i64 0]) ?_ 0 _ rfl; (with_reducible repeat (first | refine blk_drewN ?_ _ | refine blk_drew ?_ | refine blk_alloc ?_ _)); exact BK109.out) hb); have n1_ := Aside0.mk (below_step (by repeat (first | (with_reducible first | exact HB.out | apply below_alloc | apply pw_below_drewN | apply below_drew1 | refine below_set ?_ GE109.out) | exact HB.out)) hb); clear BK109; clear HB; have BK109 := n0_; have HB := n1_; clear n0_ n1_; (try clear hb); (try clear hb2); (try clear hk); (try clear hi)) | ((with_reducible refine gate_dst (N := 3) rfl ?_); refine box_event ?hg (N := 3) ?hd (cs := #[.int .i64 0, .int .i64 0, .int .i64 0]) (t := 52) ?hr ?_; (case hd => rfl); (case hg => rfl); (case hr => first | (go_simp; done) | (go_simp; rfl)); intro gb114 hg w8 hbox hb; have n0_ := Aside0.mk (blk_below (g := gb109) (o := .cells #[.int .i64 t105, .int .i64 t106, .int .i64 t107] 52 (0, 0)) (by (with_reducible repeat (first | refine blk_drewN ?_ _ | refine blk_drew ?_ | refine blk_alloc ?_ _)); exact BK109.out) hb); have n1_ := Aside0.mk (below_step (by repeat (first | (with_reducible first | exact HB.out | apply below_alloc | apply pw_below_drewN | apply below_drew1 | refine below_set ?_ GE109.out) | exact HB.out)) hb); have n2_ := Aside0.mk (hbox); have n3_ := Aside0.mk ((by rw [hg]; exact (below_size (by repeat (first | (with_reducible first | exact HB.out | apply below_alloc | apply pw_below_drewN | apply below_drew1 | refine below_set ?_ GE109.out) | exact HB.out))) : w.heap.size ≤ gb114)); have n4_ := Aside0.mk ((by rw [hg]; exact (below_size (by repeat (first | (with_reducible first | exact HB.out | apply below_alloc | apply pw_below_drewN | apply below_drew1 | refine below_set ?_ GE109.out) | exact HB.out))) : w.heap.size ≤ gb114)); have n5_ := Aside0.mk ((by rw [hg]; exact Nat.ne_of_lt (blk_lt (g := gb109) (o := .cells #[.int .i64 t105, .int .i64 t106, .int .i64 t107] 52 (0, 0)) (by (with_reducible repeat (first | refine blk_drewN ?_ _ | refine blk_drew ?_ | refine blk_alloc ?_ _)); exact BK109.out)) : gb109 ≠ gb114)); have n6_ := Aside0.mk ((by rw [hg]; exact Nat.ne_of_gt (blk_lt (g := gb109) (o := .cells #[.int .i64 t105, .int .i64 t106, .int .i64 t107] 52 (0, 0)) (by (with_reducible repeat (first | refine blk_drewN ?_ _ | refine blk_drew ?_ | refine blk_alloc ?_ _)); exact BK109.out)) : gb114 ≠ gb109)); clear BK109; clear HB; have BK109 := n0_; have HB := n1_; have BK114 := n2_; have GW114 := n3_; have GE114 := n4_; have NB109_114 := n5_; have NB114_109 := n6_; clear n0_ n1_ n2_ n3_ n4_ n5_ n6_; clear hb hbox hg; have hnb9 := NB114_109.out; have hnc9 := NB109_114.out; have hcz10_0 : w8.cell? ⟨gb114, 0, none⟩ = some (.int .i64 0) := (blk_cell BK114.out 0).trans rfl; have hcz10_1 : w8.cell? ⟨gb114, 1, none⟩ = some (.int .i64 0) := (blk_cell BK114.out 1).trans rfl; have hcz10_2 : w8.cell? ⟨gb114, 2, none⟩ = some (.int .i64 0) := (blk_cell BK114.out 2).trans rfl; have hfz10_0 := blk_frozen BK114.out 0; have hfz10_1 := blk_frozen BK114.out 1; have hfz10_2 := blk_frozen BK114.out 2))
  (try simp only [Act.put, List.setIfInBounds_toArray, List.set_cons_zero, List.set_cons_succ])
  go_cut [39] (fun v39 wc => ∃ (kq : Nat) (x39_2 : Bool) (x110000_2 : Int) (x110001_2 : Int) (x110002_2 : Int), v39 = .bool x39_2 ∧ Aside0 (joustlaw08_fixed.j0 kq x39_2 x110000_2 x110001_2 x110002_2 = some r) ∧ Aside0 (kq ≤ k) ∧ Aside0 (wc.heap[gb109]? = some (.cells #[.int .i64 x110000_2, .int .i64 x110001_2, .int .i64 x110002_2] 52 (0, 0))) ∧ Aside0 (wc.heap[gb114]? = some (.cells #[.int .i64 t110, .int .i64 t111, .int .i64 t112] 52 (0, 0))) ∧ Aside0 (Below w.heap.size w wc))
  case first =>
    have H := HC3.out
    clear HC3
    by_cases c11 : t108 = 0
    · rw [if_pos c11] at H
      have c11b0 : (t108 == 0) = true := beq_iff_eq.mpr c11
      have c11b1 : (t108 != 0) = false := bne_eq_false_iff_eq.mpr c11
      clear c11
      (first | rw [c11b0] | (simp only [i64_w, i32_w]; rw [c11b0]) | skip)
      by_cases c12 : t113 = 110
      · rw [if_pos c12] at H
        have c12b0 : (t113 == 110) = true := beq_iff_eq.mpr c12
        have c12b1 : (t113 != 110) = false := bne_eq_false_iff_eq.mpr c12
        clear c12
        replace H := Option.bind_eq_some_iff.mp H
        obtain ⟨⟨t115, t116, t117, t118⟩, A130, H⟩ := H
        replace H : (if t115 = 3 then ((bucket_Bucket_Take.f t105 t106 t107).bind fun bt119 => (if bt119.1 = 0 then ((bucket_Bucket_Take.f bt119.2.1 bt119.2.2.1 bt119.2.2.2).bind fun bt123 => (if bt123.1 = 0 then ((bucket_Bucket_Take.f bt123.2.1 bt123.2.2.1 bt123.2.2.2).bind fun bt127 => (if bt127.1 = 0 then ((bucket_Bucket_Take.f bt127.2.1 bt127.2.2.1 bt127.2.2.2).bind fun bt131 => (joustlaw08_fixed.j0 k (bt131.1 != 80) bt131.2.1 bt131.2.2.1 bt131.2.2.2)) else (joustlaw08_fixed.j0 k true bt127.2.1 bt127.2.2.1 bt127.2.2.2))) else (joustlaw08_fixed.j0 k true bt123.2.1 bt123.2.2.1 bt123.2.2.2))) else (joustlaw08_fixed.j0 k true bt119.2.1 bt119.2.2.1 bt119.2.2.2))) else (joustlaw08_fixed.j0 k true t105 t106 t107)) = some r := H
        have A13 := Aside0.mk A130
        clear A130
        by_cases c14 : t115 = 3
        · rw [if_pos c14] at H
          have c14b0 : (t115 == 3) = true := beq_iff_eq.mpr c14
          have c14b1 : (t115 != 3) = false := bne_eq_false_iff_eq.mpr c14
          clear c14
          replace H := Option.bind_eq_some_iff.mp H
          obtain ⟨⟨t119, t120, t121, t122⟩, A150, H⟩ := H
          replace H : (if t119 = 0 then ((bucket_Bucket_Take.f t120 t121 t122).bind fun bt123 => (if bt123.1 = 0 then ((bucket_Bucket_Take.f bt123.2.1 bt123.2.2.1 bt123.2.2.2).bind fun bt127 => (if bt127.1 = 0 then ((bucket_Bucket_Take.f bt127.2.1 bt127.2.2.1 bt127.2.2.2).bind fun bt131 => (joustlaw08_fixed.j0 k (bt131.1 != 80) bt131.2.1 bt131.2.2.1 bt131.2.2.2)) else (joustlaw08_fixed.j0 k true bt127.2.1 bt127.2.2.1 bt127.2.2.2))) else (joustlaw08_fixed.j0 k true bt123.2.1 bt123.2.2.1 bt123.2.2.2))) else (joustlaw08_fixed.j0 k true t120 t121 t122)) = some r := H
          have A15 := Aside0.mk A150
          clear A150
          by_cases c16 : t119 = 0
          · rw [if_pos c16] at H
            have c16b0 : (t119 == 0) = true := beq_iff_eq.mpr c16
            have c16b1 : (t119 != 0) = false := bne_eq_false_iff_eq.mpr c16
            clear c16
            replace H := Option.bind_eq_some_iff.mp H
            obtain ⟨⟨t123, t124, t125, t126⟩, A170, H⟩ := H
            replace H : (if t123 = 0 then ((bucket_Bucket_Take.f t124 t125 t126).bind fun bt127 => (if bt127.1 = 0 then ((bucket_Bucket_Take.f bt127.2.1 bt127.2.2.1 bt127.2.2.2).bind fun bt131 => (joustlaw08_fixed.j0 k (bt131.1 != 80) bt131.2.1 bt131.2.2.1 bt131.2.2.2)) else (joustlaw08_fixed.j0 k true bt127.2.1 bt127.2.2.1 bt127.2.2.2))) else (joustlaw08_fixed.j0 k true t124 t125 t126)) = some r := H
            have A17 := Aside0.mk A170
            clear A170
            by_cases c18 : t123 = 0
            · rw [if_pos c18] at H
              have c18b0 : (t123 == 0) = true := beq_iff_eq.mpr c18
              have c18b1 : (t123 != 0) = false := bne_eq_false_iff_eq.mpr c18
              clear c18
              replace H := Option.bind_eq_some_iff.mp H
              obtain ⟨⟨t127, t128, t129, t130⟩, A190, H⟩ := H
              replace H : (if t127 = 0 then ((bucket_Bucket_Take.f t128 t129 t130).bind fun bt131 => (joustlaw08_fixed.j0 k (bt131.1 != 80) bt131.2.1 bt131.2.2.1 bt131.2.2.2)) else (joustlaw08_fixed.j0 k true t128 t129 t130)) = some r := H
              have A19 := Aside0.mk A190
              clear A190
              by_cases c20 : t127 = 0
              · rw [if_pos c20] at H
                have c20b0 : (t127 == 0) = true := beq_iff_eq.mpr c20
                have c20b1 : (t127 != 0) = false := bne_eq_false_iff_eq.mpr c20
                clear c20
                replace H := Option.bind_eq_some_iff.mp H
                obtain ⟨⟨t131, t132, t133, t134⟩, A210, H⟩ := H
                replace H : (joustlaw08_fixed.j0 k (t131 != 80) t132 t133 t134) = some r := H
                have A21 := Aside0.mk A210
                clear A210
                have H' := Aside0.mk H
                clear H
                go_wp2_with (first | (go_at_call 30; (with_reducible refine (bucket_Bucket_Left.calls gb109 t105 t106 t107 t115 t116 t117 t118 w _ ?side1 ?side2 A13.out).mono ?_); (case side1 => repeat (first | (with_reducible first | exact (Aside0.mk (IsS52.mk_ BK109.out GE109.out)).out | apply IsS52.alloc | apply IsS52.drewN | apply IsS52.drew | apply IsS52.set_0 | apply IsS52.set_1 | apply IsS52.set_2 | refine IsS52.far ?_ NB109_114.out _) | exact (Aside0.mk (IsS52.mk_ BK109.out GE109.out)).out)); (case side2 => repeat (first | (with_reducible first | exact HB.out | apply below_alloc | apply pw_below_drewN | apply below_drew1 | refine below_set ?_ (IsS52.ge (Aside0.mk (IsS52.mk_ BK109.out GE109.out)).out) | refine below_set ?_ GE114.out) | exact HB.out)); rintro e w22 ⟨rfl, hi, hb, hk⟩; replace hi := bucket_Bucket_Left.ro A13.out hi; have n0_ := Aside0.mk (KeepBut.blk hk (g' := gb114) (o := .cells #[.int .i64 t110, .int .i64 t111, .int .i64 t112] 52 (0, 0)) (by (with_reducible repeat (first | refine blk_drewN ?_ _ | refine blk_drew ?_ | refine blk_alloc ?_ _)); refine blk_put (cs := #[.int .i64 t110, .int .i64 t111, .int .i64 0]) ?_ 2 _ rfl; (with_reducible repeat (first | refine blk_drewN ?_ _ | refine blk_drew ?_ | refine blk_alloc ?_ _)); refine blk_put (cs := #[.int .i64 t110, .int .i64 0, .int .i64 0]) ?_ 1 _ rfl; (with_reducible repeat (first | refine blk_drewN ?_ _ | refine blk_drew ?_ | refine blk_alloc ?_ _)); refine blk_put (cs := #[.int .i64 0, .int .i64 0, .int .i64 0]) ?_ 0 _ rfl; (with_reducible repeat (first | refine blk_drewN ?_ _ | refine blk_drew ?_ | refine blk_alloc ?_ _)); exact BK114.out) NB114_109.out (by simp)); have n1_ := Aside0.mk (hb); have n2_ := Aside0.mk (hi.1); clear BK114; clear HB; clear BK109; have BK114 := n0_; have HB := n1_; have BK109 := n2_; clear n0_ n1_ n2_; (try clear hb); (try clear hb2); (try clear hk); (try clear hi); clear A13) | (go_at_call 24; (with_reducible refine (bucket_Bucket_Take.calls gb109 t105 t106 t107 t119 t120 t121 t122 w _ ?side1 ?side2 A15.out).mono ?_); (case side1 => repeat (first | (with_reducible first | exact (Aside0.mk (IsS52.mk_ BK109.out GE109.out)).out | apply IsS52.alloc | apply IsS52.drewN | apply IsS52.drew | apply IsS52.set_0 | apply IsS52.set_1 | apply IsS52.set_2 | refine IsS52.far ?_ NB109_114.out _) | exact (Aside0.mk (IsS52.mk_ BK109.out GE109.out)).out)); (case side2 => repeat (first | (with_reducible first | exact HB.out | apply below_alloc | apply pw_below_drewN | apply below_drew1 | refine below_set ?_ (IsS52.ge (Aside0.mk (IsS52.mk_ BK109.out GE109.out)).out) | refine below_set ?_ GE114.out) | exact HB.out)); rintro e w23 ⟨rfl, hi, hb, hk⟩; have n0_ := Aside0.mk (KeepBut.blk hk (g' := gb114) (o := .cells #[.int .i64 t110, .int .i64 t111, .int .i64 t112] 52 (0, 0)) (by (with_reducible repeat (first | refine blk_drewN ?_ _ | refine blk_drew ?_ | refine blk_alloc ?_ _)); exact BK114.out) NB114_109.out (by simp)); have n1_ := Aside0.mk (hb); have n2_ := Aside0.mk (hi.1); clear BK114; clear HB; clear BK109; have BK114 := n0_; have HB := n1_; have BK109 := n2_; clear n0_ n1_ n2_; (try clear hb); (try clear hb2); (try clear hk); (try clear hi)) | (go_at_call 24; (with_reducible refine (bucket_Bucket_Take.calls gb109 t120 t121 t122 t123 t124 t125 t126 w _ ?side1 ?side2 A17.out).mono ?_); (case side1 => repeat (first | (with_reducible first | exact (Aside0.mk (IsS52.mk_ BK109.out GE109.out)).out | apply IsS52.alloc | apply IsS52.drewN | apply IsS52.drew | apply IsS52.set_0 | apply IsS52.set_1 | apply IsS52.set_2 | refine IsS52.far ?_ NB109_114.out _) | exact (Aside0.mk (IsS52.mk_ BK109.out GE109.out)).out)); (case side2 => repeat (first | (with_reducible first | exact HB.out | apply below_alloc | apply pw_below_drewN | apply below_drew1 | refine below_set ?_ (IsS52.ge (Aside0.mk (IsS52.mk_ BK109.out GE109.out)).out) | refine below_set ?_ GE114.out) | exact HB.out)); rintro e w24 ⟨rfl, hi, hb, hk⟩; have n0_ := Aside0.mk (KeepBut.blk hk (g' := gb114) (o := .cells #[.int .i64 t110, .int .i64 t111, .int .i64 t112] 52 (0, 0)) (by (with_reducible repeat (first | refine blk_drewN ?_ _ | refine blk_drew ?_ | refine blk_alloc ?_ _)); exact BK114.out) NB114_109.out (by simp)); have n1_ := Aside0.mk (hb); have n2_ := Aside0.mk (hi.1); clear BK114; clear HB; clear BK109; have BK114 := n0_; have HB := n1_; have BK109 := n2_; clear n0_ n1_ n2_; (try clear hb); (try clear hb2); (try clear hk); (try clear hi)) | (go_at_call 24; (with_reducible refine (bucket_Bucket_Take.calls gb109 t124 t125 t126 t127 t128 t129 t130 w _ ?side1 ?side2 A19.out).mono ?_); (case side1 => repeat (first | (with_reducible first | exact (Aside0.mk (IsS52.mk_ BK109.out GE109.out)).out | apply IsS52.alloc | apply IsS52.drewN | apply IsS52.drew | apply IsS52.set_0 | apply IsS52.set_1 | apply IsS52.set_2 | refine IsS52.far ?_ NB109_114.out _) | exact (Aside0.mk (IsS52.mk_ BK109.out GE109.out)).out)); (case side2 => repeat (first | (with_reducible first | exact HB.out | apply below_alloc | apply pw_below_drewN | apply below_drew1 | refine below_set ?_ (IsS52.ge (Aside0.mk (IsS52.mk_ BK109.out GE109.out)).out) | refine below_set ?_ GE114.out) | exact HB.out)); rintro e w25 ⟨rfl, hi, hb, hk⟩; have n0_ := Aside0.mk (KeepBut.blk hk (g' := gb114) (o := .cells #[.int .i64 t110, .int .i64 t111, .int .i64 t112] 52 (0, 0)) (by (with_reducible repeat (first | refine blk_drewN ?_ _ | refine blk_drew ?_ | refine blk_alloc ?_ _)); exact BK114.out) NB114_109.out (by simp)); have n1_ := Aside0.mk (hb); have n2_ := Aside0.mk (hi.1); clear BK114; clear HB; clear BK109; have BK114 := n0_; have HB := n1_; have BK109 := n2_; clear n0_ n1_ n2_; (try clear hb); (try clear hb2); (try clear hk); (try clear hi)) | (go_at_call 24; (with_reducible refine (bucket_Bucket_Take.calls gb109 t128 t129 t130 t131 t132 t133 t134 w _ ?side1 ?side2 A21.out).mono ?_); (case side1 => repeat (first | (with_reducible first | exact (Aside0.mk (IsS52.mk_ BK109.out GE109.out)).out | apply IsS52.alloc | apply IsS52.drewN | apply IsS52.drew | apply IsS52.set_0 | apply IsS52.set_1 | apply IsS52.set_2 | refine IsS52.far ?_ NB109_114.out _) | exact (Aside0.mk (IsS52.mk_ BK109.out GE109.out)).out)); (case side2 => repeat (first | (with_reducible first | exact HB.out | apply below_alloc | apply pw_below_drewN | apply below_drew1 | refine below_set ?_ (IsS52.ge (Aside0.mk (IsS52.mk_ BK109.out GE109.out)).out) | refine below_set ?_ GE114.out) | exact HB.out)); rintro e w26 ⟨rfl, hi, hb, hk⟩; have n0_ := Aside0.mk (KeepBut.blk hk (g' := gb114) (o := .cells #[.int .i64 t110, .int .i64 t111, .int .i64 t112] 52 (0, 0)) (by (with_reducible repeat (first | refine blk_drewN ?_ _ | refine blk_drew ?_ | refine blk_alloc ?_ _)); exact BK114.out) NB114_109.out (by simp)); have n1_ := Aside0.mk (hb); have n2_ := Aside0.mk (hi.1); clear BK114; clear HB; clear BK109; have BK114 := n0_; have HB := n1_; have BK109 := n2_; clear n0_ n1_ n2_; (try clear hb); (try clear hb2); (try clear hk); (try clear hi)))
                go_meet
                case rel => exact ⟨_, ((t131 != 80)), (t132), (t133), (t134), (by first | rfl | (simp; done) | (simp [*]; done)), H', ⟨by first | omega | exact Nat.le_refl _⟩, ⟨by (with_reducible repeat (first | refine blk_drewN ?_ _ | refine blk_drew ?_ | refine blk_alloc ?_ _)); exact BK109.out⟩, ⟨by (with_reducible repeat (first | refine blk_drewN ?_ _ | refine blk_drew ?_ | refine blk_alloc ?_ _)); exact BK114.out⟩, ⟨by repeat (first | (with_reducible first | exact HB.out | apply below_alloc | apply pw_below_drewN | apply below_drew1 | refine below_set ?_ GE109.out | refine below_set ?_ GE114.out) | exact HB.out)⟩⟩
              · rw [if_neg c20] at H
                have c20b0 : (t127 == 0) = false := beq_eq_false_iff_ne.mpr c20
                have c20b1 : (t127 != 0) = true := bne_iff_ne.mpr c20
                have H' := Aside0.mk H
                clear H
                go_wp2_with (first | (go_at_call 30; (with_reducible refine (bucket_Bucket_Left.calls gb109 t105 t106 t107 t115 t116 t117 t118 w _ ?side1 ?side2 A13.out).mono ?_); (case side1 => repeat (first | (with_reducible first | exact (Aside0.mk (IsS52.mk_ BK109.out GE109.out)).out | apply IsS52.alloc | apply IsS52.drewN | apply IsS52.drew | apply IsS52.set_0 | apply IsS52.set_1 | apply IsS52.set_2 | refine IsS52.far ?_ NB109_114.out _) | exact (Aside0.mk (IsS52.mk_ BK109.out GE109.out)).out)); (case side2 => repeat (first | (with_reducible first | exact HB.out | apply below_alloc | apply pw_below_drewN | apply below_drew1 | refine below_set ?_ (IsS52.ge (Aside0.mk (IsS52.mk_ BK109.out GE109.out)).out) | refine below_set ?_ GE114.out) | exact HB.out)); rintro e w27 ⟨rfl, hi, hb, hk⟩; replace hi := bucket_Bucket_Left.ro A13.out hi; have n0_ := Aside0.mk (KeepBut.blk hk (g' := gb114) (o := .cells #[.int .i64 t110, .int .i64 t111, .int .i64 t112] 52 (0, 0)) (by (with_reducible repeat (first | refine blk_drewN ?_ _ | refine blk_drew ?_ | refine blk_alloc ?_ _)); refine blk_put (cs := #[.int .i64 t110, .int .i64 t111, .int .i64 0]) ?_ 2 _ rfl; (with_reducible repeat (first | refine blk_drewN ?_ _ | refine blk_drew ?_ | refine blk_alloc ?_ _)); refine blk_put (cs := #[.int .i64 t110, .int .i64 0, .int .i64 0]) ?_ 1 _ rfl; (with_reducible repeat (first | refine blk_drewN ?_ _ | refine blk_drew ?_ | refine blk_alloc ?_ _)); refine blk_put (cs := #[.int .i64 0, .int .i64 0, .int .i64 0]) ?_ 0 _ rfl; (with_reducible repeat (first | refine blk_drewN ?_ _ | refine blk_drew ?_ | refine blk_alloc ?_ _)); exact BK114.out) NB114_109.out (by simp)); have n1_ := Aside0.mk (hb); have n2_ := Aside0.mk (hi.1); clear BK114; clear HB; clear BK109; have BK114 := n0_; have HB := n1_; have BK109 := n2_; clear n0_ n1_ n2_; (try clear hb); (try clear hb2); (try clear hk); (try clear hi); clear A13) | (go_at_call 24; (with_reducible refine (bucket_Bucket_Take.calls gb109 t105 t106 t107 t119 t120 t121 t122 w _ ?side1 ?side2 A15.out).mono ?_); (case side1 => repeat (first | (with_reducible first | exact (Aside0.mk (IsS52.mk_ BK109.out GE109.out)).out | apply IsS52.alloc | apply IsS52.drewN | apply IsS52.drew | apply IsS52.set_0 | apply IsS52.set_1 | apply IsS52.set_2 | refine IsS52.far ?_ NB109_114.out _) | exact (Aside0.mk (IsS52.mk_ BK109.out GE109.out)).out)); (case side2 => repeat (first | (with_reducible first | exact HB.out | apply below_alloc | apply pw_below_drewN | apply below_drew1 | refine below_set ?_ (IsS52.ge (Aside0.mk (IsS52.mk_ BK109.out GE109.out)).out) | refine below_set ?_ GE114.out) | exact HB.out)); rintro e w28 ⟨rfl, hi, hb, hk⟩; have n0_ := Aside0.mk (KeepBut.blk hk (g' := gb114) (o := .cells #[.int .i64 t110, .int .i64 t111, .int .i64 t112] 52 (0, 0)) (by (with_reducible repeat (first | refine blk_drewN ?_ _ | refine blk_drew ?_ | refine blk_alloc ?_ _)); exact BK114.out) NB114_109.out (by simp)); have n1_ := Aside0.mk (hb); have n2_ := Aside0.mk (hi.1); clear BK114; clear HB; clear BK109; have BK114 := n0_; have HB := n1_; have BK109 := n2_; clear n0_ n1_ n2_; (try clear hb); (try clear hb2); (try clear hk); (try clear hi)) | (go_at_call 24; (with_reducible refine (bucket_Bucket_Take.calls gb109 t120 t121 t122 t123 t124 t125 t126 w _ ?side1 ?side2 A17.out).mono ?_); (case side1 => repeat (first | (with_reducible first | exact (Aside0.mk (IsS52.mk_ BK109.out GE109.out)).out | apply IsS52.alloc | apply IsS52.drewN | apply IsS52.drew | apply IsS52.set_0 | apply IsS52.set_1 | apply IsS52.set_2 | refine IsS52.far ?_ NB109_114.out _) | exact (Aside0.mk (IsS52.mk_ BK109.out GE109.out)).out)); (case side2 => repeat (first | (with_reducible first | exact HB.out | apply below_alloc | apply pw_below_drewN | apply below_drew1 | refine below_set ?_ (IsS52.ge (Aside0.mk (IsS52.mk_ BK109.out GE109.out)).out) | refine below_set ?_ GE114.out) | exact HB.out)); rintro e w29 ⟨rfl, hi, hb, hk⟩; have n0_ := Aside0.mk (KeepBut.blk hk (g' := gb114) (o := .cells #[.int .i64 t110, .int .i64 t111, .int .i64 t112] 52 (0, 0)) (by (with_reducible repeat (first | refine blk_drewN ?_ _ | refine blk_drew ?_ | refine blk_alloc ?_ _)); exact BK114.out) NB114_109.out (by simp)); have n1_ := Aside0.mk (hb); have n2_ := Aside0.mk (hi.1); clear BK114; clear HB; clear BK109; have BK114 := n0_; have HB := n1_; have BK109 := n2_; clear n0_ n1_ n2_; (try clear hb); (try clear hb2); (try clear hk); (try clear hi)) | (go_at_call 24; (with_reducible refine (bucket_Bucket_Take.calls gb109 t124 t125 t126 t127 t128 t129 t130 w _ ?side1 ?side2 A19.out).mono ?_); (case side1 => repeat (first | (with_reducible first | exact (Aside0.mk (IsS52.mk_ BK109.out GE109.out)).out | apply IsS52.alloc | apply IsS52.drewN | apply IsS52.drew | apply IsS52.set_0 | apply IsS52.set_1 | apply IsS52.set_2 | refine IsS52.far ?_ NB109_114.out _) | exact (Aside0.mk (IsS52.mk_ BK109.out GE109.out)).out)); (case side2 => repeat (first | (with_reducible first | exact HB.out | apply below_alloc | apply pw_below_drewN | apply below_drew1 | refine below_set ?_ (IsS52.ge (Aside0.mk (IsS52.mk_ BK109.out GE109.out)).out) | refine below_set ?_ GE114.out) | exact HB.out)); rintro e w30 ⟨rfl, hi, hb, hk⟩; have n0_ := Aside0.mk (KeepBut.blk hk (g' := gb114) (o := .cells #[.int .i64 t110, .int .i64 t111, .int .i64 t112] 52 (0, 0)) (by (with_reducible repeat (first | refine blk_drewN ?_ _ | refine blk_drew ?_ | refine blk_alloc ?_ _)); exact BK114.out) NB114_109.out (by simp)); have n1_ := Aside0.mk (hb); have n2_ := Aside0.mk (hi.1); clear BK114; clear HB; clear BK109; have BK114 := n0_; have HB := n1_; have BK109 := n2_; clear n0_ n1_ n2_; (try clear hb); (try clear hb2); (try clear hk); (try clear hi)))
                go_meet
                case rel => exact ⟨_, (true), (t128), (t129), (t130), (by first | rfl | (simp; done) | (simp [*]; done)), H', ⟨by first | omega | exact Nat.le_refl _⟩, ⟨by (with_reducible repeat (first | refine blk_drewN ?_ _ | refine blk_drew ?_ | refine blk_alloc ?_ _)); exact BK109.out⟩, ⟨by (with_reducible repeat (first | refine blk_drewN ?_ _ | refine blk_drew ?_ | refine blk_alloc ?_ _)); exact BK114.out⟩, ⟨by repeat (first | (with_reducible first | exact HB.out | apply below_alloc | apply pw_below_drewN | apply below_drew1 | refine below_set ?_ GE109.out | refine below_set ?_ GE114.out) | exact HB.out)⟩⟩
            · rw [if_neg c18] at H
              have c18b0 : (t123 == 0) = false := beq_eq_false_iff_ne.mpr c18
              have c18b1 : (t123 != 0) = true := bne_iff_ne.mpr c18
              have H' := Aside0.mk H
              clear H
              go_wp2_with (first | (go_at_call 30; (with_reducible refine (bucket_Bucket_Left.calls gb109 t105 t106 t107 t115 t116 t117 t118 w _ ?side1 ?side2 A13.out).mono ?_); (case side1 => repeat (first | (with_reducible first | exact (Aside0.mk (IsS52.mk_ BK109.out GE109.out)).out | apply IsS52.alloc | apply IsS52.drewN | apply IsS52.drew | apply IsS52.set_0 | apply IsS52.set_1 | apply IsS52.set_2 | refine IsS52.far ?_ NB109_114.out _) | exact (Aside0.mk (IsS52.mk_ BK109.out GE109.out)).out)); (case side2 => repeat (first | (with_reducible first | exact HB.out | apply below_alloc | apply pw_below_drewN | apply below_drew1 | refine below_set ?_ (IsS52.ge (Aside0.mk (IsS52.mk_ BK109.out GE109.out)).out) | refine below_set ?_ GE114.out) | exact HB.out)); rintro e w31 ⟨rfl, hi, hb, hk⟩; replace hi := bucket_Bucket_Left.ro A13.out hi; have n0_ := Aside0.mk (KeepBut.blk hk (g' := gb114) (o := .cells #[.int .i64 t110, .int .i64 t111, .int .i64 t112] 52 (0, 0)) (by (with_reducible repeat (first | refine blk_drewN ?_ _ | refine blk_drew ?_ | refine blk_alloc ?_ _)); refine blk_put (cs := #[.int .i64 t110, .int .i64 t111, .int .i64 0]) ?_ 2 _ rfl; (with_reducible repeat (first | refine blk_drewN ?_ _ | refine blk_drew ?_ | refine blk_alloc ?_ _)); refine blk_put (cs := #[.int .i64 t110, .int .i64 0, .int .i64 0]) ?_ 1 _ rfl; (with_reducible repeat (first | refine blk_drewN ?_ _ | refine blk_drew ?_ | refine blk_alloc ?_ _)); refine blk_put (cs := #[.int .i64 0, .int .i64 0, .int .i64 0]) ?_ 0 _ rfl; (with_reducible repeat (first | refine blk_drewN ?_ _ | refine blk_drew ?_ | refine blk_alloc ?_ _)); exact BK114.out) NB114_109.out (by simp)); have n1_ := Aside0.mk (hb); have n2_ := Aside0.mk (hi.1); clear BK114; clear HB; clear BK109; have BK114 := n0_; have HB := n1_; have BK109 := n2_; clear n0_ n1_ n2_; (try clear hb); (try clear hb2); (try clear hk); (try clear hi); clear A13) | (go_at_call 24; (with_reducible refine (bucket_Bucket_Take.calls gb109 t105 t106 t107 t119 t120 t121 t122 w _ ?side1 ?side2 A15.out).mono ?_); (case side1 => repeat (first | (with_reducible first | exact (Aside0.mk (IsS52.mk_ BK109.out GE109.out)).out | apply IsS52.alloc | apply IsS52.drewN | apply IsS52.drew | apply IsS52.set_0 | apply IsS52.set_1 | apply IsS52.set_2 | refine IsS52.far ?_ NB109_114.out _) | exact (Aside0.mk (IsS52.mk_ BK109.out GE109.out)).out)); (case side2 => repeat (first | (with_reducible first | exact HB.out | apply below_alloc | apply pw_below_drewN | apply below_drew1 | refine below_set ?_ (IsS52.ge (Aside0.mk (IsS52.mk_ BK109.out GE109.out)).out) | refine below_set ?_ GE114.out) | exact HB.out)); rintro e w32 ⟨rfl, hi, hb, hk⟩; have n0_ := Aside0.mk (KeepBut.blk hk (g' := gb114) (o := .cells #[.int .i64 t110, .int .i64 t111, .int .i64 t112] 52 (0, 0)) (by (with_reducible repeat (first | refine blk_drewN ?_ _ | refine blk_drew ?_ | refine blk_alloc ?_ _)); exact BK114.out) NB114_109.out (by simp)); have n1_ := Aside0.mk (hb); have n2_ := Aside0.mk (hi.1); clear BK114; clear HB; clear BK109; have BK114 := n0_; have HB := n1_; have BK109 := n2_; clear n0_ n1_ n2_; (try clear hb); (try clear hb2); (try clear hk); (try clear hi)) | (go_at_call 24; (with_reducible refine (bucket_Bucket_Take.calls gb109 t120 t121 t122 t123 t124 t125 t126 w _ ?side1 ?side2 A17.out).mono ?_); (case side1 => repeat (first | (with_reducible first | exact (Aside0.mk (IsS52.mk_ BK109.out GE109.out)).out | apply IsS52.alloc | apply IsS52.drewN | apply IsS52.drew | apply IsS52.set_0 | apply IsS52.set_1 | apply IsS52.set_2 | refine IsS52.far ?_ NB109_114.out _) | exact (Aside0.mk (IsS52.mk_ BK109.out GE109.out)).out)); (case side2 => repeat (first | (with_reducible first | exact HB.out | apply below_alloc | apply pw_below_drewN | apply below_drew1 | refine below_set ?_ (IsS52.ge (Aside0.mk (IsS52.mk_ BK109.out GE109.out)).out) | refine below_set ?_ GE114.out) | exact HB.out)); rintro e w33 ⟨rfl, hi, hb, hk⟩; have n0_ := Aside0.mk (KeepBut.blk hk (g' := gb114) (o := .cells #[.int .i64 t110, .int .i64 t111, .int .i64 t112] 52 (0, 0)) (by (with_reducible repeat (first | refine blk_drewN ?_ _ | refine blk_drew ?_ | refine blk_alloc ?_ _)); exact BK114.out) NB114_109.out (by simp)); have n1_ := Aside0.mk (hb); have n2_ := Aside0.mk (hi.1); clear BK114; clear HB; clear BK109; have BK114 := n0_; have HB := n1_; have BK109 := n2_; clear n0_ n1_ n2_; (try clear hb); (try clear hb2); (try clear hk); (try clear hi)))
              go_meet
              case rel => exact ⟨_, (true), (t124), (t125), (t126), (by first | rfl | (simp; done) | (simp [*]; done)), H', ⟨by first | omega | exact Nat.le_refl _⟩, ⟨by (with_reducible repeat (first | refine blk_drewN ?_ _ | refine blk_drew ?_ | refine blk_alloc ?_ _)); exact BK109.out⟩, ⟨by (with_reducible repeat (first | refine blk_drewN ?_ _ | refine blk_drew ?_ | refine blk_alloc ?_ _)); exact BK114.out⟩, ⟨by repeat (first | (with_reducible first | exact HB.out | apply below_alloc | apply pw_below_drewN | apply below_drew1 | refine below_set ?_ GE109.out | refine below_set ?_ GE114.out) | exact HB.out)⟩⟩
          · rw [if_neg c16] at H
            have c16b0 : (t119 == 0) = false := beq_eq_false_iff_ne.mpr c16
            have c16b1 : (t119 != 0) = true := bne_iff_ne.mpr c16
            have H' := Aside0.mk H
            clear H
            go_wp2_with (first | (go_at_call 30; (with_reducible refine (bucket_Bucket_Left.calls gb109 t105 t106 t107 t115 t116 t117 t118 w _ ?side1 ?side2 A13.out).mono ?_); (case side1 => repeat (first | (with_reducible first | exact (Aside0.mk (IsS52.mk_ BK109.out GE109.out)).out | apply IsS52.alloc | apply IsS52.drewN | apply IsS52.drew | apply IsS52.set_0 | apply IsS52.set_1 | apply IsS52.set_2 | refine IsS52.far ?_ NB109_114.out _) | exact (Aside0.mk (IsS52.mk_ BK109.out GE109.out)).out)); (case side2 => repeat (first | (with_reducible first | exact HB.out | apply below_alloc | apply pw_below_drewN | apply below_drew1 | refine below_set ?_ (IsS52.ge (Aside0.mk (IsS52.mk_ BK109.out GE109.out)).out) | refine below_set ?_ GE114.out) | exact HB.out)); rintro e w34 ⟨rfl, hi, hb, hk⟩; replace hi := bucket_Bucket_Left.ro A13.out hi; have n0_ := Aside0.mk (KeepBut.blk hk (g' := gb114) (o := .cells #[.int .i64 t110, .int .i64 t111, .int .i64 t112] 52 (0, 0)) (by (with_reducible repeat (first | refine blk_drewN ?_ _ | refine blk_drew ?_ | refine blk_alloc ?_ _)); refine blk_put (cs := #[.int .i64 t110, .int .i64 t111, .int .i64 0]) ?_ 2 _ rfl; (with_reducible repeat (first | refine blk_drewN ?_ _ | refine blk_drew ?_ | refine blk_alloc ?_ _)); refine blk_put (cs := #[.int .i64 t110, .int .i64 0, .int .i64 0]) ?_ 1 _ rfl; (with_reducible repeat (first | refine blk_drewN ?_ _ | refine blk_drew ?_ | refine blk_alloc ?_ _)); refine blk_put (cs := #[.int .i64 0, .int .i64 0, .int .i64 0]) ?_ 0 _ rfl; (with_reducible repeat (first | refine blk_drewN ?_ _ | refine blk_drew ?_ | refine blk_alloc ?_ _)); exact BK114.out) NB114_109.out (by simp)); have n1_ := Aside0.mk (hb); have n2_ := Aside0.mk (hi.1); clear BK114; clear HB; clear BK109; have BK114 := n0_; have HB := n1_; have BK109 := n2_; clear n0_ n1_ n2_; (try clear hb); (try clear hb2); (try clear hk); (try clear hi); clear A13) | (go_at_call 24; (with_reducible refine (bucket_Bucket_Take.calls gb109 t105 t106 t107 t119 t120 t121 t122 w _ ?side1 ?side2 A15.out).mono ?_); (case side1 => repeat (first | (with_reducible first | exact (Aside0.mk (IsS52.mk_ BK109.out GE109.out)).out | apply IsS52.alloc | apply IsS52.drewN | apply IsS52.drew | apply IsS52.set_0 | apply IsS52.set_1 | apply IsS52.set_2 | refine IsS52.far ?_ NB109_114.out _) | exact (Aside0.mk (IsS52.mk_ BK109.out GE109.out)).out)); (case side2 => repeat (first | (with_reducible first | exact HB.out | apply below_alloc | apply pw_below_drewN | apply below_drew1 | refine below_set ?_ (IsS52.ge (Aside0.mk (IsS52.mk_ BK109.out GE109.out)).out) | refine below_set ?_ GE114.out) | exact HB.out)); rintro e w35 ⟨rfl, hi, hb, hk⟩; have n0_ := Aside0.mk (KeepBut.blk hk (g' := gb114) (o := .cells #[.int .i64 t110, .int .i64 t111, .int .i64 t112] 52 (0, 0)) (by (with_reducible repeat (first | refine blk_drewN ?_ _ | refine blk_drew ?_ | refine blk_alloc ?_ _)); exact BK114.out) NB114_109.out (by simp)); have n1_ := Aside0.mk (hb); have n2_ := Aside0.mk (hi.1); clear BK114; clear HB; clear BK109; have BK114 := n0_; have HB := n1_; have BK109 := n2_; clear n0_ n1_ n2_; (try clear hb); (try clear hb2); (try clear hk); (try clear hi)))
            go_meet
            case rel => exact ⟨_, (true), (t120), (t121), (t122), (by first | rfl | (simp; done) | (simp [*]; done)), H', ⟨by first | omega | exact Nat.le_refl _⟩, ⟨by (with_reducible repeat (first | refine blk_drewN ?_ _ | refine blk_drew ?_ | refine blk_alloc ?_ _)); exact BK109.out⟩, ⟨by (with_reducible repeat (first | refine blk_drewN ?_ _ | refine blk_drew ?_ | refine blk_alloc ?_ _)); exact BK114.out⟩, ⟨by repeat (first | (with_reducible first | exact HB.out | apply below_alloc | apply pw_below_drewN | apply below_drew1 | refine below_set ?_ GE109.out | refine below_set ?_ GE114.out) | exact HB.out)⟩⟩
        · rw [if_neg c14] at H
          have c14b0 : (t115 == 3) = false := beq_eq_false_iff_ne.mpr c14
          have c14b1 : (t115 != 3) = true := bne_iff_ne.mpr c14
          have H' := Aside0.mk H
          clear H
          go_wp2_with (first | (go_at_call 30; (with_reducible refine (bucket_Bucket_Left.calls gb109 t105 t106 t107 t115 t116 t117 t118 w _ ?side1 ?side2 A13.out).mono ?_); (case side1 => repeat (first | (with_reducible first | exact (Aside0.mk (IsS52.mk_ BK109.out GE109.out)).out | apply IsS52.alloc | apply IsS52.drewN | apply IsS52.drew | apply IsS52.set_0 | apply IsS52.set_1 | apply IsS52.set_2 | refine IsS52.far ?_ NB109_114.out _) | exact (Aside0.mk (IsS52.mk_ BK109.out GE109.out)).out)); (case side2 => repeat (first | (with_reducible first | exact HB.out | apply below_alloc | apply pw_below_drewN | apply below_drew1 | refine below_set ?_ (IsS52.ge (Aside0.mk (IsS52.mk_ BK109.out GE109.out)).out) | refine below_set ?_ GE114.out) | exact HB.out)); rintro e w36 ⟨rfl, hi, hb, hk⟩; replace hi := bucket_Bucket_Left.ro A13.out hi; have n0_ := Aside0.mk (KeepBut.blk hk (g' := gb114) (o := .cells #[.int .i64 t110, .int .i64 t111, .int .i64 t112] 52 (0, 0)) (by (with_reducible repeat (first | refine blk_drewN ?_ _ | refine blk_drew ?_ | refine blk_alloc ?_ _)); refine blk_put (cs := #[.int .i64 t110, .int .i64 t111, .int .i64 0]) ?_ 2 _ rfl; (with_reducible repeat (first | refine blk_drewN ?_ _ | refine blk_drew ?_ | refine blk_alloc ?_ _)); refine blk_put (cs := #[.int .i64 t110, .int .i64 0, .int .i64 0]) ?_ 1 _ rfl; (with_reducible repeat (first | refine blk_drewN ?_ _ | refine blk_drew ?_ | refine blk_alloc ?_ _)); refine blk_put (cs := #[.int .i64 0, .int .i64 0, .int .i64 0]) ?_ 0 _ rfl; (with_reducible repeat (first | refine blk_drewN ?_ _ | refine blk_drew ?_ | refine blk_alloc ?_ _)); exact BK114.out) NB114_109.out (by simp)); have n1_ := Aside0.mk (hb); have n2_ := Aside0.mk (hi.1); clear BK114; clear HB; clear BK109; have BK114 := n0_; have HB := n1_; have BK109 := n2_; clear n0_ n1_ n2_; (try clear hb); (try clear hb2); (try clear hk); (try clear hi); clear A13))
          go_meet
          case rel => exact ⟨_, (true), (t105), (t106), (t107), (by first | rfl | (simp; done) | (simp [*]; done)), H', ⟨by first | omega | exact Nat.le_refl _⟩, ⟨by (with_reducible repeat (first | refine blk_drewN ?_ _ | refine blk_drew ?_ | refine blk_alloc ?_ _)); exact BK109.out⟩, ⟨by (with_reducible repeat (first | refine blk_drewN ?_ _ | refine blk_drew ?_ | refine blk_alloc ?_ _)); exact BK114.out⟩, ⟨by repeat (first | (with_reducible first | exact HB.out | apply below_alloc | apply pw_below_drewN | apply below_drew1 | refine below_set ?_ GE109.out | refine below_set ?_ GE114.out) | exact HB.out)⟩⟩
      · rw [if_neg c12] at H
        have c12b0 : (t113 == 110) = false := beq_eq_false_iff_ne.mpr c12
        have c12b1 : (t113 != 110) = true := bne_iff_ne.mpr c12
        have H' := Aside0.mk H
        clear H
        go_wp2
        go_meet
        case rel => exact ⟨_, (true), (t105), (t106), (t107), (by first | rfl | (simp; done) | (simp [*]; done)), H', ⟨by first | omega | exact Nat.le_refl _⟩, ⟨by (with_reducible repeat (first | refine blk_drewN ?_ _ | refine blk_drew ?_ | refine blk_alloc ?_ _)); refine blk_far ?_ NB109_114.out _; (with_reducible repeat (first | refine blk_drewN ?_ _ | refine blk_drew ?_ | refine blk_alloc ?_ _)); refine blk_far ?_ NB109_114.out _; (with_reducible repeat (first | refine blk_drewN ?_ _ | refine blk_drew ?_ | refine blk_alloc ?_ _)); refine blk_far ?_ NB109_114.out _; (with_reducible repeat (first | refine blk_drewN ?_ _ | refine blk_drew ?_ | refine blk_alloc ?_ _)); exact BK109.out⟩, ⟨by (with_reducible repeat (first | refine blk_drewN ?_ _ | refine blk_drew ?_ | refine blk_alloc ?_ _)); refine blk_put (cs := #[.int .i64 t110, .int .i64 t111, .int .i64 0]) ?_ 2 _ rfl; (with_reducible repeat (first | refine blk_drewN ?_ _ | refine blk_drew ?_ | refine blk_alloc ?_ _)); refine blk_put (cs := #[.int .i64 t110, .int .i64 0, .int .i64 0]) ?_ 1 _ rfl; (with_reducible repeat (first | refine blk_drewN ?_ _ | refine blk_drew ?_ | refine blk_alloc ?_ _)); refine blk_put (cs := #[.int .i64 0, .int .i64 0, .int .i64 0]) ?_ 0 _ rfl; (with_reducible repeat (first | refine blk_drewN ?_ _ | refine blk_drew ?_ | refine blk_alloc ?_ _)); exact BK114.out⟩, ⟨by repeat (first | (with_reducible first | exact HB.out | apply below_alloc | apply pw_below_drewN | apply below_drew1 | refine below_set ?_ GE109.out | refine below_set ?_ GE114.out) | exact HB.out)⟩⟩
    · rw [if_neg c11] at H
      have c11b0 : (t108 == 0) = false := beq_eq_false_iff_ne.mpr c11
      have c11b1 : (t108 != 0) = true := bne_iff_ne.mpr c11
      (first | rw [c11b0] | (simp only [i64_w, i32_w]; rw [c11b0]) | skip)
      have H' := Aside0.mk H
      clear H
      go_wp2
      go_meet
      case rel => exact ⟨_, (true), (t105), (t106), (t107), (by first | rfl | (simp; done) | (simp [*]; done)), H', ⟨by first | omega | exact Nat.le_refl _⟩, ⟨by (with_reducible repeat (first | refine blk_drewN ?_ _ | refine blk_drew ?_ | refine blk_alloc ?_ _)); refine blk_far ?_ NB109_114.out _; (with_reducible repeat (first | refine blk_drewN ?_ _ | refine blk_drew ?_ | refine blk_alloc ?_ _)); refine blk_far ?_ NB109_114.out _; (with_reducible repeat (first | refine blk_drewN ?_ _ | refine blk_drew ?_ | refine blk_alloc ?_ _)); refine blk_far ?_ NB109_114.out _; (with_reducible repeat (first | refine blk_drewN ?_ _ | refine blk_drew ?_ | refine blk_alloc ?_ _)); exact BK109.out⟩, ⟨by (with_reducible repeat (first | refine blk_drewN ?_ _ | refine blk_drew ?_ | refine blk_alloc ?_ _)); refine blk_put (cs := #[.int .i64 t110, .int .i64 t111, .int .i64 0]) ?_ 2 _ rfl; (with_reducible repeat (first | refine blk_drewN ?_ _ | refine blk_drew ?_ | refine blk_alloc ?_ _)); refine blk_put (cs := #[.int .i64 t110, .int .i64 0, .int .i64 0]) ?_ 1 _ rfl; (with_reducible repeat (first | refine blk_drewN ?_ _ | refine blk_drew ?_ | refine blk_alloc ?_ _)); refine blk_put (cs := #[.int .i64 0, .int .i64 0, .int .i64 0]) ?_ 0 _ rfl; (with_reducible repeat (first | refine blk_drewN ?_ _ | refine blk_drew ?_ | refine blk_alloc ?_ _)); exact BK114.out⟩, ⟨by repeat (first | (with_reducible first | exact HB.out | apply below_alloc | apply pw_below_drewN | apply below_drew1 | refine below_set ?_ GE109.out | refine below_set ?_ GE114.out) | exact HB.out)⟩⟩
  case rest =>
    clear HC3
    try clear c1
    try clear c2
    try clear p2
    try clear c9
    try clear c11
    try clear c11b0
    try clear c11b1
    try clear c12
    try clear c12b0
    try clear c12b1
    try clear c14
    try clear c14b0
    try clear c14b1
    try clear c16
    try clear c16b0
    try clear c16b1
    try clear c18
    try clear c18b0
    try clear c18b1
    try clear c20
    try clear c20b0
    try clear c20b1
    try clear c21
    try clear c22
    try clear hcz10_0
    try clear hcz10_1
    try clear hcz10_2
    try clear hcz6_0
    try clear hcz6_1
    try clear hcz6_2
    try clear hfz10_0
    try clear hfz10_1
    try clear hfz10_2
    try clear hfz6_0
    try clear hfz6_1
    try clear hfz6_2
    obtain ⟨kq, x39_2, x110000_2, x110001_2, x110002_2, rfl, HA, HJ2, BK109, BK114, HB⟩ := hcut
    cases kq with
    | zero => exact absurd HA.out (by simp [joustlaw08_fixed.j0])
    | succ kj2 =>
      have H := HA.out
      clear HA
      simp only [joustlaw08_fixed.j0] at H
      by_cases c37 : x39_2 = true
      · subst c37
        have H1 : (some false) = some r := by rw [if_pos rfl] at H; exact H
        clear H
        have H := H1
        clear H1
        obtain rfl := Option.some.inj H
        go_wp2
        go_ret
        exact ⟨by first | rfl | (simp [errW_none, errW_some] <;> rfl) | (simp [*, errW_none, errW_some] <;> rfl), by repeat (first | (with_reducible first | exact HB.out | apply below_alloc | apply pw_below_drewN | apply below_drew1 | refine below_set ?_ GE109.out | refine below_set ?_ GE114.out) | exact HB.out)⟩
      · replace c37 := Bool.eq_false_iff.mpr c37
        subst c37
        have H1 : ((bucket_Bucket_Tick.f x110000_2 x110001_2 x110002_2).bind fun bt135 => ((bucket_Bucket_Ticks.f bt135.1 bt135.2.1 bt135.2.2 1).bind fun bt139 => ((bucket_Bucket_Left.f bt135.1 bt135.2.1 bt135.2.2).bind fun bt142 => (if bt142.1 = 2 then ((bucket_Bucket_Left.f bt139.1 bt139.2.1 bt139.2.2).bind fun bt146 => (some (bt146.1 == 3))) else (some false))))) = some r := by rw [if_neg (show ¬ (false = true) by decide)] at H; exact H
        clear H
        have H := H1
        clear H1
        replace H := Option.bind_eq_some_iff.mp H
        obtain ⟨⟨t135, t136, t137⟩, A380, H⟩ := H
        replace H : ((bucket_Bucket_Ticks.f t135 t136 t137 1).bind fun bt139 => ((bucket_Bucket_Left.f t135 t136 t137).bind fun bt142 => (if bt142.1 = 2 then ((bucket_Bucket_Left.f bt139.1 bt139.2.1 bt139.2.2).bind fun bt146 => (some (bt146.1 == 3))) else (some false)))) = some r := H
        have A38 := Aside0.mk A380
        clear A380
        replace H := Option.bind_eq_some_iff.mp H
        obtain ⟨⟨t139, t140, t141⟩, A390, H⟩ := H
        replace H : ((bucket_Bucket_Left.f t135 t136 t137).bind fun bt142 => (if bt142.1 = 2 then ((bucket_Bucket_Left.f t139 t140 t141).bind fun bt146 => (some (bt146.1 == 3))) else (some false))) = some r := H
        have A39 := Aside0.mk A390
        clear A390
        replace H := Option.bind_eq_some_iff.mp H
        obtain ⟨⟨t142, t143, t144, t145⟩, A400, H⟩ := H
        replace H : (if t142 = 2 then ((bucket_Bucket_Left.f t139 t140 t141).bind fun bt146 => (some (bt146.1 == 3))) else (some false)) = some r := H
        have A40 := Aside0.mk A400
        clear A400
        by_cases c41 : t142 = 2
        · rw [if_pos c41] at H
          have c41b0 : (t142 == 2) = true := beq_iff_eq.mpr c41
          have c41b1 : (t142 != 2) = false := bne_eq_false_iff_eq.mpr c41
          clear c41
          replace H := Option.bind_eq_some_iff.mp H
          obtain ⟨⟨t146, t147, t148, t149⟩, A420, H⟩ := H
          replace H : (some (t146 == 3)) = some r := H
          have A42 := Aside0.mk A420
          clear A420
          obtain rfl := Option.some.inj H
          go_wp2_with (first | ((with_reducible refine gate_callee (f := 26) rfl ?_); refine goesL_ (some 40) rfl rfl Try.func26 (by kernel_rfl) rfl #[.pointer (some ⟨gb109, 0, none⟩)] rfl (by (try simp only [List.map_toArray, List.map_cons, List.map_nil]); first | done | rfl | (simp only [List.length_drop, List.length_take]; rfl)) ?_; (with_reducible refine (bucket_Bucket_Tick.calls gb109 x110000_2 x110001_2 x110002_2 t135 t136 t137 w _ ?side1 ?side2 A38.out).mono ?_); (case side1 => repeat (first | (with_reducible first | exact (Aside0.mk (IsS52.mk_ BK109.out GE109.out)).out | apply IsS52.alloc | apply IsS52.drewN | apply IsS52.drew | apply IsS52.set_0 | apply IsS52.set_1 | apply IsS52.set_2 | refine IsS52.far ?_ NB109_114.out _) | exact (Aside0.mk (IsS52.mk_ BK109.out GE109.out)).out)); (case side2 => repeat (first | (with_reducible first | exact HB.out | apply below_alloc | apply pw_below_drewN | apply below_drew1 | refine below_set ?_ (IsS52.ge (Aside0.mk (IsS52.mk_ BK109.out GE109.out)).out) | refine below_set ?_ GE114.out) | exact HB.out)); rintro e w43 ⟨rfl, hi, hb, hk⟩; refine ⟨_, rfl, ?_⟩; have n0_ := Aside0.mk (KeepBut.blk hk (g' := gb114) (o := .cells #[.int .i64 t110, .int .i64 t111, .int .i64 t112] 52 (0, 0)) (by (with_reducible repeat (first | refine blk_drewN ?_ _ | refine blk_drew ?_ | refine blk_alloc ?_ _)); exact BK114.out) NB114_109.out (by simp)); have n1_ := Aside0.mk (hb); have n2_ := Aside0.mk (hi.1); clear BK114; clear HB; clear BK109; have BK114 := n0_; have HB := n1_; have BK109 := n2_; clear n0_ n1_ n2_; (try clear hb); (try clear hb2); (try clear hk); (try clear hi); have hnb44 := NB109_114.out; have hnc44 := NB114_109.out; have hcz45_0 : w43.cell? ⟨gb109, 0, none⟩ = some (.int .i64 t135) := (blk_cell BK109.out 0).trans rfl; have hcz45_1 : w43.cell? ⟨gb109, 1, none⟩ = some (.int .i64 t136) := (blk_cell BK109.out 1).trans rfl; have hcz45_2 : w43.cell? ⟨gb109, 2, none⟩ = some (.int .i64 t137) := (blk_cell BK109.out 2).trans rfl; have hfz45_0 := blk_frozen BK109.out 0; have hfz45_1 := blk_frozen BK109.out 1; have hfz45_2 := blk_frozen BK109.out 2) | ((with_reducible refine gate_dst (N := 5) rfl ?_); refine box_event ?hg (N := 5) ?hd (cs := #[.int .i64 0, .int .i64 0, .int .i64 0]) (t := 52) ?hr ?_; (case hd => rfl); (case hg => rfl); (case hr => first | (go_simp; done) | (go_simp; rfl)); intro gb138 hg w46 hbox hb; have n0_ := Aside0.mk (blk_below (g := gb109) (o := .cells #[.int .i64 t135, .int .i64 t136, .int .i64 t137] 52 (0, 0)) (by (with_reducible repeat (first | refine blk_drewN ?_ _ | refine blk_drew ?_ | refine blk_alloc ?_ _)); exact BK109.out) hb); have n1_ := Aside0.mk (blk_below (g := gb114) (o := .cells #[.int .i64 t110, .int .i64 t111, .int .i64 t112] 52 (0, 0)) (by (with_reducible repeat (first | refine blk_drewN ?_ _ | refine blk_drew ?_ | refine blk_alloc ?_ _)); exact BK114.out) hb); have n2_ := Aside0.mk (below_step (by repeat (first | (with_reducible first | exact HB.out | apply below_alloc | apply pw_below_drewN | apply below_drew1 | refine below_set ?_ GE109.out | refine below_set ?_ GE114.out) | exact HB.out)) hb); have n3_ := Aside0.mk (hbox); have n4_ := Aside0.mk ((by rw [hg]; exact (below_size (by repeat (first | (with_reducible first | exact HB.out | apply below_alloc | apply pw_below_drewN | apply below_drew1 | refine below_set ?_ GE109.out | refine below_set ?_ GE114.out) | exact HB.out))) : w.heap.size ≤ gb138)); have n5_ := Aside0.mk ((by rw [hg]; exact (below_size (by repeat (first | (with_reducible first | exact HB.out | apply below_alloc | apply pw_below_drewN | apply below_drew1 | refine below_set ?_ GE109.out | refine below_set ?_ GE114.out) | exact HB.out))) : w.heap.size ≤ gb138)); have n6_ := Aside0.mk ((by rw [hg]; exact Nat.ne_of_lt (blk_lt (g := gb109) (o := .cells #[.int .i64 t135, .int .i64 t136, .int .i64 t137] 52 (0, 0)) (by (with_reducible repeat (first | refine blk_drewN ?_ _ | refine blk_drew ?_ | refine blk_alloc ?_ _)); exact BK109.out)) : gb109 ≠ gb138)); have n7_ := Aside0.mk ((by rw [hg]; exact Nat.ne_of_gt (blk_lt (g := gb109) (o := .cells #[.int .i64 t135, .int .i64 t136, .int .i64 t137] 52 (0, 0)) (by (with_reducible repeat (first | refine blk_drewN ?_ _ | refine blk_drew ?_ | refine blk_alloc ?_ _)); exact BK109.out)) : gb138 ≠ gb109)); have n8_ := Aside0.mk ((by rw [hg]; exact Nat.ne_of_lt (blk_lt (g := gb114) (o := .cells #[.int .i64 t110, .int .i64 t111, .int .i64 t112] 52 (0, 0)) (by (with_reducible repeat (first | refine blk_drewN ?_ _ | refine blk_drew ?_ | refine blk_alloc ?_ _)); exact BK114.out)) : gb114 ≠ gb138)); have n9_ := Aside0.mk ((by rw [hg]; exact Nat.ne_of_gt (blk_lt (g := gb114) (o := .cells #[.int .i64 t110, .int .i64 t111, .int .i64 t112] 52 (0, 0)) (by (with_reducible repeat (first | refine blk_drewN ?_ _ | refine blk_drew ?_ | refine blk_alloc ?_ _)); exact BK114.out)) : gb138 ≠ gb114)); clear BK109; clear BK114; clear HB; have BK109 := n0_; have BK114 := n1_; have HB := n2_; have BK138 := n3_; have GW138 := n4_; have GE138 := n5_; have NB109_138 := n6_; have NB138_109 := n7_; have NB114_138 := n8_; have NB138_114 := n9_; clear n0_ n1_ n2_ n3_ n4_ n5_ n6_ n7_ n8_ n9_; clear hb hbox hg; have hnb47 := NB138_109.out; have hnc47 := NB109_138.out; have hnb48 := NB138_114.out; have hnc48 := NB114_138.out; have hcz49_0 : w46.cell? ⟨gb138, 0, none⟩ = some (.int .i64 0) := (blk_cell BK138.out 0).trans rfl; have hcz49_1 : w46.cell? ⟨gb138, 1, none⟩ = some (.int .i64 0) := (blk_cell BK138.out 1).trans rfl; have hcz49_2 : w46.cell? ⟨gb138, 2, none⟩ = some (.int .i64 0) := (blk_cell BK138.out 2).trans rfl; have hfz49_0 := blk_frozen BK138.out 0; have hfz49_1 := blk_frozen BK138.out 1; have hfz49_2 := blk_frozen BK138.out 2) | ((with_reducible refine gate_callee (f := 28) rfl ?_); refine goesL_ (some 42) rfl rfl Try.func28 (by kernel_rfl) rfl #[.pointer (some ⟨gb138, 0, none⟩), .int .u64 1] rfl (by (try simp only [List.map_toArray, List.map_cons, List.map_nil]); first | done | rfl | (simp only [List.length_drop, List.length_take]; rfl)) ?_; (with_reducible refine (bucket_Bucket_Ticks.calls gb138 t135 t136 t137 1 t139 t140 t141 w _ ?side1 ?side2 A39.out).mono ?_); (case side1 => repeat (first | (with_reducible first | exact (Aside0.mk (IsS52.mk_ BK138.out GE138.out)).out | apply IsS52.alloc | apply IsS52.drewN | apply IsS52.drew | apply IsS52.set_0 | apply IsS52.set_1 | apply IsS52.set_2 | refine IsS52.far ?_ NB138_109.out _ | refine IsS52.far ?_ NB138_114.out _) | exact (Aside0.mk (IsS52.mk_ BK138.out GE138.out)).out)); (case side2 => repeat (first | (with_reducible first | exact HB.out | apply below_alloc | apply pw_below_drewN | apply below_drew1 | refine below_set ?_ (IsS52.ge (Aside0.mk (IsS52.mk_ BK138.out GE138.out)).out) | refine below_set ?_ GE109.out | refine below_set ?_ GE114.out) | exact HB.out)); rintro e w50 ⟨rfl, hi, hb, hk⟩; refine ⟨_, rfl, ?_⟩; have n0_ := Aside0.mk (KeepBut.blk hk (g' := gb109) (o := .cells #[.int .i64 t135, .int .i64 t136, .int .i64 t137] 52 (0, 0)) (by (with_reducible repeat (first | refine blk_drewN ?_ _ | refine blk_drew ?_ | refine blk_alloc ?_ _)); refine blk_far ?_ NB109_138.out _; (with_reducible repeat (first | refine blk_drewN ?_ _ | refine blk_drew ?_ | refine blk_alloc ?_ _)); refine blk_far ?_ NB109_138.out _; (with_reducible repeat (first | refine blk_drewN ?_ _ | refine blk_drew ?_ | refine blk_alloc ?_ _)); refine blk_far ?_ NB109_138.out _; (with_reducible repeat (first | refine blk_drewN ?_ _ | refine blk_drew ?_ | refine blk_alloc ?_ _)); exact BK109.out) NB109_138.out (by simp)); have n1_ := Aside0.mk (KeepBut.blk hk (g' := gb114) (o := .cells #[.int .i64 t110, .int .i64 t111, .int .i64 t112] 52 (0, 0)) (by (with_reducible repeat (first | refine blk_drewN ?_ _ | refine blk_drew ?_ | refine blk_alloc ?_ _)); refine blk_far ?_ NB114_138.out _; (with_reducible repeat (first | refine blk_drewN ?_ _ | refine blk_drew ?_ | refine blk_alloc ?_ _)); refine blk_far ?_ NB114_138.out _; (with_reducible repeat (first | refine blk_drewN ?_ _ | refine blk_drew ?_ | refine blk_alloc ?_ _)); refine blk_far ?_ NB114_138.out _; (with_reducible repeat (first | refine blk_drewN ?_ _ | refine blk_drew ?_ | refine blk_alloc ?_ _)); exact BK114.out) NB114_138.out (by simp)); have n2_ := Aside0.mk (hb); have n3_ := Aside0.mk (hi.1); clear BK109; clear BK114; clear HB; clear BK138; have BK109 := n0_; have BK114 := n1_; have HB := n2_; have BK138 := n3_; clear n0_ n1_ n2_ n3_; (try clear hb); (try clear hb2); (try clear hk); (try clear hi)) | ((with_reducible refine gate_callee (f := 30) rfl ?_); refine goesL_ (some 43) rfl rfl Try.func30 (by kernel_rfl) rfl #[.pointer (some ⟨gb109, 0, none⟩)] rfl (by (try simp only [List.map_toArray, List.map_cons, List.map_nil]); first | done | rfl | (simp only [List.length_drop, List.length_take]; rfl)) ?_; (with_reducible refine (bucket_Bucket_Left.calls gb109 t135 t136 t137 t142 t143 t144 t145 w _ ?side1 ?side2 A40.out).mono ?_); (case side1 => repeat (first | (with_reducible first | exact (Aside0.mk (IsS52.mk_ BK109.out GE109.out)).out | apply IsS52.alloc | apply IsS52.drewN | apply IsS52.drew | apply IsS52.set_0 | apply IsS52.set_1 | apply IsS52.set_2 | refine IsS52.far ?_ NB109_114.out _ | refine IsS52.far ?_ NB109_138.out _) | exact (Aside0.mk (IsS52.mk_ BK109.out GE109.out)).out)); (case side2 => repeat (first | (with_reducible first | exact HB.out | apply below_alloc | apply pw_below_drewN | apply below_drew1 | refine below_set ?_ (IsS52.ge (Aside0.mk (IsS52.mk_ BK109.out GE109.out)).out) | refine below_set ?_ GE114.out | refine below_set ?_ GE138.out) | exact HB.out)); rintro e w51 ⟨rfl, hi, hb, hk⟩; refine ⟨_, rfl, ?_⟩; replace hi := bucket_Bucket_Left.ro A40.out hi; have n0_ := Aside0.mk (KeepBut.blk hk (g' := gb114) (o := .cells #[.int .i64 t110, .int .i64 t111, .int .i64 t112] 52 (0, 0)) (by (with_reducible repeat (first | refine blk_drewN ?_ _ | refine blk_drew ?_ | refine blk_alloc ?_ _)); exact BK114.out) NB114_109.out (by simp)); have n1_ := Aside0.mk (KeepBut.blk hk (g' := gb138) (o := .cells #[.int .i64 t139, .int .i64 t140, .int .i64 t141] 52 (0, 0)) (by (with_reducible repeat (first | refine blk_drewN ?_ _ | refine blk_drew ?_ | refine blk_alloc ?_ _)); exact BK138.out) NB138_109.out (by simp)); have n2_ := Aside0.mk (hb); have n3_ := Aside0.mk (hi.1); clear BK114; clear BK138; clear HB; clear BK109; have BK114 := n0_; have BK138 := n1_; have HB := n2_; have BK109 := n3_; clear n0_ n1_ n2_ n3_; (try clear hb); (try clear hb2); (try clear hk); (try clear hi); clear A40) | (go_at_call 30; (with_reducible refine (bucket_Bucket_Left.calls gb138 t139 t140 t141 t146 t147 t148 t149 w _ ?side1 ?side2 A42.out).mono ?_); (case side1 => repeat (first | (with_reducible first | exact (Aside0.mk (IsS52.mk_ BK138.out GE138.out)).out | apply IsS52.alloc | apply IsS52.drewN | apply IsS52.drew | apply IsS52.set_0 | apply IsS52.set_1 | apply IsS52.set_2 | refine IsS52.far ?_ NB138_109.out _ | refine IsS52.far ?_ NB138_114.out _) | exact (Aside0.mk (IsS52.mk_ BK138.out GE138.out)).out)); (case side2 => repeat (first | (with_reducible first | exact HB.out | apply below_alloc | apply pw_below_drewN | apply below_drew1 | refine below_set ?_ (IsS52.ge (Aside0.mk (IsS52.mk_ BK138.out GE138.out)).out) | refine below_set ?_ GE109.out | refine below_set ?_ GE114.out) | exact HB.out)); rintro e w52 ⟨rfl, hi, hb, hk⟩; replace hi := bucket_Bucket_Left.ro A42.out hi; have n0_ := Aside0.mk (KeepBut.blk hk (g' := gb109) (o := .cells #[.int .i64 t135, .int .i64 t136, .int .i64 t137] 52 (0, 0)) (by (with_reducible repeat (first | refine blk_drewN ?_ _ | refine blk_drew ?_ | refine blk_alloc ?_ _)); exact BK109.out) NB109_138.out (by simp)); have n1_ := Aside0.mk (KeepBut.blk hk (g' := gb114) (o := .cells #[.int .i64 t110, .int .i64 t111, .int .i64 t112] 52 (0, 0)) (by (with_reducible repeat (first | refine blk_drewN ?_ _ | refine blk_drew ?_ | refine blk_alloc ?_ _)); exact BK114.out) NB114_138.out (by simp)); have n2_ := Aside0.mk (hb); have n3_ := Aside0.mk (hi.1); clear BK109; clear BK114; clear HB; clear BK138; have BK109 := n0_; have BK114 := n1_; have HB := n2_; have BK138 := n3_; clear n0_ n1_ n2_ n3_; (try clear hb); (try clear hb2); (try clear hk); (try clear hi); clear A42))
          go_ret
          exact ⟨by first | rfl | (simp [errW_none, errW_some] <;> rfl) | (simp [*, errW_none, errW_some] <;> rfl), by repeat (first | (with_reducible first | exact HB.out | apply below_alloc | apply pw_below_drewN | apply below_drew1 | refine below_set ?_ GE109.out | refine below_set ?_ GE114.out | refine below_set ?_ GE138.out) | exact HB.out)⟩
        · rw [if_neg c41] at H
          have c41b0 : (t142 == 2) = false := beq_eq_false_iff_ne.mpr c41
          have c41b1 : (t142 != 2) = true := bne_iff_ne.mpr c41
          obtain rfl := Option.some.inj H
          go_wp2_with (first | ((with_reducible refine gate_callee (f := 26) rfl ?_); refine goesL_ (some 40) rfl rfl Try.func26 (by kernel_rfl) rfl #[.pointer (some ⟨gb109, 0, none⟩)] rfl (by (try simp only [List.map_toArray, List.map_cons, List.map_nil]); first | done | rfl | (simp only [List.length_drop, List.length_take]; rfl)) ?_; (with_reducible refine (bucket_Bucket_Tick.calls gb109 x110000_2 x110001_2 x110002_2 t135 t136 t137 w _ ?side1 ?side2 A38.out).mono ?_); (case side1 => repeat (first | (with_reducible first | exact (Aside0.mk (IsS52.mk_ BK109.out GE109.out)).out | apply IsS52.alloc | apply IsS52.drewN | apply IsS52.drew | apply IsS52.set_0 | apply IsS52.set_1 | apply IsS52.set_2 | refine IsS52.far ?_ NB109_114.out _) | exact (Aside0.mk (IsS52.mk_ BK109.out GE109.out)).out)); (case side2 => repeat (first | (with_reducible first | exact HB.out | apply below_alloc | apply pw_below_drewN | apply below_drew1 | refine below_set ?_ (IsS52.ge (Aside0.mk (IsS52.mk_ BK109.out GE109.out)).out) | refine below_set ?_ GE114.out) | exact HB.out)); rintro e w53 ⟨rfl, hi, hb, hk⟩; refine ⟨_, rfl, ?_⟩; have n0_ := Aside0.mk (KeepBut.blk hk (g' := gb114) (o := .cells #[.int .i64 t110, .int .i64 t111, .int .i64 t112] 52 (0, 0)) (by (with_reducible repeat (first | refine blk_drewN ?_ _ | refine blk_drew ?_ | refine blk_alloc ?_ _)); exact BK114.out) NB114_109.out (by simp)); have n1_ := Aside0.mk (hb); have n2_ := Aside0.mk (hi.1); clear BK114; clear HB; clear BK109; have BK114 := n0_; have HB := n1_; have BK109 := n2_; clear n0_ n1_ n2_; (try clear hb); (try clear hb2); (try clear hk); (try clear hi); have hnb54 := NB109_114.out; have hnc54 := NB114_109.out; have hcz55_0 : w53.cell? ⟨gb109, 0, none⟩ = some (.int .i64 t135) := (blk_cell BK109.out 0).trans rfl; have hcz55_1 : w53.cell? ⟨gb109, 1, none⟩ = some (.int .i64 t136) := (blk_cell BK109.out 1).trans rfl; have hcz55_2 : w53.cell? ⟨gb109, 2, none⟩ = some (.int .i64 t137) := (blk_cell BK109.out 2).trans rfl; have hfz55_0 := blk_frozen BK109.out 0; have hfz55_1 := blk_frozen BK109.out 1; have hfz55_2 := blk_frozen BK109.out 2) | ((with_reducible refine gate_dst (N := 5) rfl ?_); refine box_event ?hg (N := 5) ?hd (cs := #[.int .i64 0, .int .i64 0, .int .i64 0]) (t := 52) ?hr ?_; (case hd => rfl); (case hg => rfl); (case hr => first | (go_simp; done) | (go_simp; rfl)); intro gb138 hg w56 hbox hb; have n0_ := Aside0.mk (blk_below (g := gb109) (o := .cells #[.int .i64 t135, .int .i64 t136, .int .i64 t137] 52 (0, 0)) (by (with_reducible repeat (first | refine blk_drewN ?_ _ | refine blk_drew ?_ | refine blk_alloc ?_ _)); exact BK109.out) hb); have n1_ := Aside0.mk (blk_below (g := gb114) (o := .cells #[.int .i64 t110, .int .i64 t111, .int .i64 t112] 52 (0, 0)) (by (with_reducible repeat (first | refine blk_drewN ?_ _ | refine blk_drew ?_ | refine blk_alloc ?_ _)); exact BK114.out) hb); have n2_ := Aside0.mk (below_step (by repeat (first | (with_reducible first | exact HB.out | apply below_alloc | apply pw_below_drewN | apply below_drew1 | refine below_set ?_ GE109.out | refine below_set ?_ GE114.out) | exact HB.out)) hb); have n3_ := Aside0.mk (hbox); have n4_ := Aside0.mk ((by rw [hg]; exact (below_size (by repeat (first | (with_reducible first | exact HB.out | apply below_alloc | apply pw_below_drewN | apply below_drew1 | refine below_set ?_ GE109.out | refine below_set ?_ GE114.out) | exact HB.out))) : w.heap.size ≤ gb138)); have n5_ := Aside0.mk ((by rw [hg]; exact (below_size (by repeat (first | (with_reducible first | exact HB.out | apply below_alloc | apply pw_below_drewN | apply below_drew1 | refine below_set ?_ GE109.out | refine below_set ?_ GE114.out) | exact HB.out))) : w.heap.size ≤ gb138)); have n6_ := Aside0.mk ((by rw [hg]; exact Nat.ne_of_lt (blk_lt (g := gb109) (o := .cells #[.int .i64 t135, .int .i64 t136, .int .i64 t137] 52 (0, 0)) (by (with_reducible repeat (first | refine blk_drewN ?_ _ | refine blk_drew ?_ | refine blk_alloc ?_ _)); exact BK109.out)) : gb109 ≠ gb138)); have n7_ := Aside0.mk ((by rw [hg]; exact Nat.ne_of_gt (blk_lt (g := gb109) (o := .cells #[.int .i64 t135, .int .i64 t136, .int .i64 t137] 52 (0, 0)) (by (with_reducible repeat (first | refine blk_drewN ?_ _ | refine blk_drew ?_ | refine blk_alloc ?_ _)); exact BK109.out)) : gb138 ≠ gb109)); have n8_ := Aside0.mk ((by rw [hg]; exact Nat.ne_of_lt (blk_lt (g := gb114) (o := .cells #[.int .i64 t110, .int .i64 t111, .int .i64 t112] 52 (0, 0)) (by (with_reducible repeat (first | refine blk_drewN ?_ _ | refine blk_drew ?_ | refine blk_alloc ?_ _)); exact BK114.out)) : gb114 ≠ gb138)); have n9_ := Aside0.mk ((by rw [hg]; exact Nat.ne_of_gt (blk_lt (g := gb114) (o := .cells #[.int .i64 t110, .int .i64 t111, .int .i64 t112] 52 (0, 0)) (by (with_reducible repeat (first | refine blk_drewN ?_ _ | refine blk_drew ?_ | refine blk_alloc ?_ _)); exact BK114.out)) : gb138 ≠ gb114)); clear BK109; clear BK114; clear HB; have BK109 := n0_; have BK114 := n1_; have HB := n2_; have BK138 := n3_; have GW138 := n4_; have GE138 := n5_; have NB109_138 := n6_; have NB138_109 := n7_; have NB114_138 := n8_; have NB138_114 := n9_; clear n0_ n1_ n2_ n3_ n4_ n5_ n6_ n7_ n8_ n9_; clear hb hbox hg; have hnb57 := NB138_109.out; have hnc57 := NB109_138.out; have hnb58 := NB138_114.out; have hnc58 := NB114_138.out; have hcz59_0 : w56.cell? ⟨gb138, 0, none⟩ = some (.int .i64 0) := (blk_cell BK138.out 0).trans rfl; have hcz59_1 : w56.cell? ⟨gb138, 1, none⟩ = some (.int .i64 0) := (blk_cell BK138.out 1).trans rfl; have hcz59_2 : w56.cell? ⟨gb138, 2, none⟩ = some (.int .i64 0) := (blk_cell BK138.out 2).trans rfl; have hfz59_0 := blk_frozen BK138.out 0; have hfz59_1 := blk_frozen BK138.out 1; have hfz59_2 := blk_frozen BK138.out 2) | ((with_reducible refine gate_callee (f := 28) rfl ?_); refine goesL_ (some 42) rfl rfl Try.func28 (by kernel_rfl) rfl #[.pointer (some ⟨gb138, 0, none⟩), .int .u64 1] rfl (by (try simp only [List.map_toArray, List.map_cons, List.map_nil]); first | done | rfl | (simp only [List.length_drop, List.length_take]; rfl)) ?_; (with_reducible refine (bucket_Bucket_Ticks.calls gb138 t135 t136 t137 1 t139 t140 t141 w _ ?side1 ?side2 A39.out).mono ?_); (case side1 => repeat (first | (with_reducible first | exact (Aside0.mk (IsS52.mk_ BK138.out GE138.out)).out | apply IsS52.alloc | apply IsS52.drewN | apply IsS52.drew | apply IsS52.set_0 | apply IsS52.set_1 | apply IsS52.set_2 | refine IsS52.far ?_ NB138_109.out _ | refine IsS52.far ?_ NB138_114.out _) | exact (Aside0.mk (IsS52.mk_ BK138.out GE138.out)).out)); (case side2 => repeat (first | (with_reducible first | exact HB.out | apply below_alloc | apply pw_below_drewN | apply below_drew1 | refine below_set ?_ (IsS52.ge (Aside0.mk (IsS52.mk_ BK138.out GE138.out)).out) | refine below_set ?_ GE109.out | refine below_set ?_ GE114.out) | exact HB.out)); rintro e w60 ⟨rfl, hi, hb, hk⟩; refine ⟨_, rfl, ?_⟩; have n0_ := Aside0.mk (KeepBut.blk hk (g' := gb109) (o := .cells #[.int .i64 t135, .int .i64 t136, .int .i64 t137] 52 (0, 0)) (by (with_reducible repeat (first | refine blk_drewN ?_ _ | refine blk_drew ?_ | refine blk_alloc ?_ _)); refine blk_far ?_ NB109_138.out _; (with_reducible repeat (first | refine blk_drewN ?_ _ | refine blk_drew ?_ | refine blk_alloc ?_ _)); refine blk_far ?_ NB109_138.out _; (with_reducible repeat (first | refine blk_drewN ?_ _ | refine blk_drew ?_ | refine blk_alloc ?_ _)); refine blk_far ?_ NB109_138.out _; (with_reducible repeat (first | refine blk_drewN ?_ _ | refine blk_drew ?_ | refine blk_alloc ?_ _)); exact BK109.out) NB109_138.out (by simp)); have n1_ := Aside0.mk (KeepBut.blk hk (g' := gb114) (o := .cells #[.int .i64 t110, .int .i64 t111, .int .i64 t112] 52 (0, 0)) (by (with_reducible repeat (first | refine blk_drewN ?_ _ | refine blk_drew ?_ | refine blk_alloc ?_ _)); refine blk_far ?_ NB114_138.out _; (with_reducible repeat (first | refine blk_drewN ?_ _ | refine blk_drew ?_ | refine blk_alloc ?_ _)); refine blk_far ?_ NB114_138.out _; (with_reducible repeat (first | refine blk_drewN ?_ _ | refine blk_drew ?_ | refine blk_alloc ?_ _)); refine blk_far ?_ NB114_138.out _; (with_reducible repeat (first | refine blk_drewN ?_ _ | refine blk_drew ?_ | refine blk_alloc ?_ _)); exact BK114.out) NB114_138.out (by simp)); have n2_ := Aside0.mk (hb); have n3_ := Aside0.mk (hi.1); clear BK109; clear BK114; clear HB; clear BK138; have BK109 := n0_; have BK114 := n1_; have HB := n2_; have BK138 := n3_; clear n0_ n1_ n2_ n3_; (try clear hb); (try clear hb2); (try clear hk); (try clear hi)) | ((with_reducible refine gate_callee (f := 30) rfl ?_); refine goesL_ (some 43) rfl rfl Try.func30 (by kernel_rfl) rfl #[.pointer (some ⟨gb109, 0, none⟩)] rfl (by (try simp only [List.map_toArray, List.map_cons, List.map_nil]); first | done | rfl | (simp only [List.length_drop, List.length_take]; rfl)) ?_; (with_reducible refine (bucket_Bucket_Left.calls gb109 t135 t136 t137 t142 t143 t144 t145 w _ ?side1 ?side2 A40.out).mono ?_); (case side1 => repeat (first | (with_reducible first | exact (Aside0.mk (IsS52.mk_ BK109.out GE109.out)).out | apply IsS52.alloc | apply IsS52.drewN | apply IsS52.drew | apply IsS52.set_0 | apply IsS52.set_1 | apply IsS52.set_2 | refine IsS52.far ?_ NB109_114.out _ | refine IsS52.far ?_ NB109_138.out _) | exact (Aside0.mk (IsS52.mk_ BK109.out GE109.out)).out)); (case side2 => repeat (first | (with_reducible first | exact HB.out | apply below_alloc | apply pw_below_drewN | apply below_drew1 | refine below_set ?_ (IsS52.ge (Aside0.mk (IsS52.mk_ BK109.out GE109.out)).out) | refine below_set ?_ GE114.out | refine below_set ?_ GE138.out) | exact HB.out)); rintro e w61 ⟨rfl, hi, hb, hk⟩; refine ⟨_, rfl, ?_⟩; replace hi := bucket_Bucket_Left.ro A40.out hi; have n0_ := Aside0.mk (KeepBut.blk hk (g' := gb114) (o := .cells #[.int .i64 t110, .int .i64 t111, .int .i64 t112] 52 (0, 0)) (by (with_reducible repeat (first | refine blk_drewN ?_ _ | refine blk_drew ?_ | refine blk_alloc ?_ _)); exact BK114.out) NB114_109.out (by simp)); have n1_ := Aside0.mk (KeepBut.blk hk (g' := gb138) (o := .cells #[.int .i64 t139, .int .i64 t140, .int .i64 t141] 52 (0, 0)) (by (with_reducible repeat (first | refine blk_drewN ?_ _ | refine blk_drew ?_ | refine blk_alloc ?_ _)); exact BK138.out) NB138_109.out (by simp)); have n2_ := Aside0.mk (hb); have n3_ := Aside0.mk (hi.1); clear BK114; clear BK138; clear HB; clear BK109; have BK114 := n0_; have BK138 := n1_; have HB := n2_; have BK109 := n3_; clear n0_ n1_ n2_ n3_; (try clear hb); (try clear hb2); (try clear hk); (try clear hi); clear A40))
          go_ret
          exact ⟨by first | rfl | (simp [errW_none, errW_some] <;> rfl) | (simp [*, errW_none, errW_some] <;> rfl), by repeat (first | (with_reducible first | exact HB.out | apply below_alloc | apply pw_below_drewN | apply below_drew1 | refine below_set ?_ GE109.out | refine below_set ?_ GE114.out | refine below_set ?_ GE138.out) | exact HB.out)⟩

/-! ### joustref08_New: function 23 -/
def joustref08_New.f (a0 : Int) (a1 : Int) : Option (Int × Int × Int × Int) := if a0 < 0 then (some (0, 0, 0, 110)) else (if a0 > 1000 then (some (0, 0, 0, 110)) else (if a1 < 1 then (some (0, 0, 0, 110)) else (if a1 > 1000 then (some (0, 0, 0, 110)) else (some (a0, wrap64 (16 * a1), wrap64 (16 * a1), 0)))))
set_option maxHeartbeats 8000000 in
set_option maxRecDepth 100000 in
theorem joustref08_New.calls (a0 : Int) (a1 : Int) (r1 : Int) (r2 : Int) (r3 : Int) (r4 : Int) (w : World) (h : joustref08_New.f a0 a1 = some (r1, r2, r3, r4)) :
    Calls Try.prog 23 #[.int .i64 a0, .int .i64 a1] w fun e w' => e = .returned (.tuple #[.agg #[.int .i64 r1, .int .i64 r2, .int .i64 r3], .int .i64 r4]) ∧ Below w.heap.size w w' := by
  have hu56 := Try.underlying56
  have HB := Aside0.mk (Below.refl w.heap.size w)
  have H : (if a0 < 0 then (some (0, 0, 0, 110)) else (if a0 > 1000 then (some (0, 0, 0, 110)) else (if a1 < 1 then (some (0, 0, 0, 110)) else (if a1 > 1000 then (some (0, 0, 0, 110)) else (some (a0, wrap64 (16 * a1), wrap64 (16 * a1), 0)))))) = some (r1, r2, r3, r4) := h
  clear h
  by_cases c3 : a0 < 0
  · rw [if_pos c3] at H
    have c3b0 : decide (a0 < 0) = true := decide_eq_true c3
    clear c3
    simp only [Option.some.injEq, Prod.mk.injEq] at H
    obtain ⟨rfl, rfl, rfl, rfl⟩ := H
    go_enter Try.func23, Try.ntmps23
    go_wp2_with (first | ((with_reducible refine gate_dst (N := 4) rfl ?_); refine box_event ?hg (N := 4) ?hd (cs := #[.int .i64 0, .int .i64 0, .int .i64 0]) (t := 56) ?hr ?_; (case hd => rfl); (case hg => rfl); (case hr => first | (go_simp; done) | (go_simp; rfl)); intro gb150 hg w4 hbox hb; have n0_ := Aside0.mk (below_step (by repeat (first | (with_reducible first | exact HB.out | apply below_alloc | apply pw_below_drewN | apply below_drew1) | exact HB.out)) hb); have n1_ := Aside0.mk (hbox); have n2_ := Aside0.mk ((by rw [hg]; exact (below_size (by repeat (first | (with_reducible first | exact HB.out | apply below_alloc | apply pw_below_drewN | apply below_drew1) | exact HB.out))) : w.heap.size ≤ gb150)); have n3_ := Aside0.mk ((by rw [hg]; exact (below_size (by repeat (first | (with_reducible first | exact HB.out | apply below_alloc | apply pw_below_drewN | apply below_drew1) | exact HB.out))) : w.heap.size ≤ gb150)); clear HB; have HB := n0_; have BK150 := n1_; have GW150 := n2_; have GE150 := n3_; clear n0_ n1_ n2_ n3_; clear hb hbox hg; have hcz5_0 : w4.cell? ⟨gb150, 0, none⟩ = some (.int .i64 0) := (blk_cell BK150.out 0).trans rfl; have hcz5_1 : w4.cell? ⟨gb150, 1, none⟩ = some (.int .i64 0) := (blk_cell BK150.out 1).trans rfl; have hcz5_2 : w4.cell? ⟨gb150, 2, none⟩ = some (.int .i64 0) := (blk_cell BK150.out 2).trans rfl; have hfz5_0 := blk_frozen BK150.out 0; have hfz5_1 := blk_frozen BK150.out 1; have hfz5_2 := blk_frozen BK150.out 2))
    refine bodyPost_ret (results_ct rfl _ _ gb150 56 #[.int .i64 0, .int .i64 0, .int .i64 0] (0, 0) _ rfl (by (with_reducible repeat (first | refine blk_drewN ?_ _ | refine blk_drew ?_ | refine blk_alloc ?_ _)); refine blk_put (cs := #[.int .i64 0, .int .i64 0, .int .i64 0]) ?_ 2 _ rfl; (with_reducible repeat (first | refine blk_drewN ?_ _ | refine blk_drew ?_ | refine blk_alloc ?_ _)); refine blk_put (cs := #[.int .i64 0, .int .i64 0, .int .i64 0]) ?_ 1 _ rfl; (with_reducible repeat (first | refine blk_drewN ?_ _ | refine blk_drew ?_ | refine blk_alloc ?_ _)); refine blk_put (cs := #[.int .i64 0, .int .i64 0, .int .i64 0]) ?_ 0 _ rfl; (with_reducible repeat (first | refine blk_drewN ?_ _ | refine blk_drew ?_ | refine blk_alloc ?_ _)); exact BK150.out) Try.underlying56 rfl (by kernel_rfl)) rfl ?_
    exact ⟨by first | rfl | (simp [errW_none, errW_some] <;> rfl) | (simp [*, errW_none, errW_some] <;> rfl), by repeat (first | (with_reducible first | exact HB.out | apply below_alloc | apply pw_below_drewN | apply below_drew1 | refine below_set ?_ GE150.out) | exact HB.out)⟩
  · rw [if_neg c3] at H
    have c3b0 : decide (a0 < 0) = false := decide_eq_false c3
    clear c3
    by_cases c6 : a0 > 1000
    · rw [if_pos c6] at H
      have c6b0 : decide (1000 < a0) = true := decide_eq_true c6
      clear c6
      simp only [Option.some.injEq, Prod.mk.injEq] at H
      obtain ⟨rfl, rfl, rfl, rfl⟩ := H
      go_enter Try.func23, Try.ntmps23
      go_wp2_with (first | ((with_reducible refine gate_dst (N := 4) rfl ?_); refine box_event ?hg (N := 4) ?hd (cs := #[.int .i64 0, .int .i64 0, .int .i64 0]) (t := 56) ?hr ?_; (case hd => rfl); (case hg => rfl); (case hr => first | (go_simp; done) | (go_simp; rfl)); intro gb150 hg w7 hbox hb; have n0_ := Aside0.mk (below_step (by repeat (first | (with_reducible first | exact HB.out | apply below_alloc | apply pw_below_drewN | apply below_drew1) | exact HB.out)) hb); have n1_ := Aside0.mk (hbox); have n2_ := Aside0.mk ((by rw [hg]; exact (below_size (by repeat (first | (with_reducible first | exact HB.out | apply below_alloc | apply pw_below_drewN | apply below_drew1) | exact HB.out))) : w.heap.size ≤ gb150)); have n3_ := Aside0.mk ((by rw [hg]; exact (below_size (by repeat (first | (with_reducible first | exact HB.out | apply below_alloc | apply pw_below_drewN | apply below_drew1) | exact HB.out))) : w.heap.size ≤ gb150)); clear HB; have HB := n0_; have BK150 := n1_; have GW150 := n2_; have GE150 := n3_; clear n0_ n1_ n2_ n3_; clear hb hbox hg; have hcz8_0 : w7.cell? ⟨gb150, 0, none⟩ = some (.int .i64 0) := (blk_cell BK150.out 0).trans rfl; have hcz8_1 : w7.cell? ⟨gb150, 1, none⟩ = some (.int .i64 0) := (blk_cell BK150.out 1).trans rfl; have hcz8_2 : w7.cell? ⟨gb150, 2, none⟩ = some (.int .i64 0) := (blk_cell BK150.out 2).trans rfl; have hfz8_0 := blk_frozen BK150.out 0; have hfz8_1 := blk_frozen BK150.out 1; have hfz8_2 := blk_frozen BK150.out 2))
      refine bodyPost_ret (results_ct rfl _ _ gb150 56 #[.int .i64 0, .int .i64 0, .int .i64 0] (0, 0) _ rfl (by (with_reducible repeat (first | refine blk_drewN ?_ _ | refine blk_drew ?_ | refine blk_alloc ?_ _)); refine blk_put (cs := #[.int .i64 0, .int .i64 0, .int .i64 0]) ?_ 2 _ rfl; (with_reducible repeat (first | refine blk_drewN ?_ _ | refine blk_drew ?_ | refine blk_alloc ?_ _)); refine blk_put (cs := #[.int .i64 0, .int .i64 0, .int .i64 0]) ?_ 1 _ rfl; (with_reducible repeat (first | refine blk_drewN ?_ _ | refine blk_drew ?_ | refine blk_alloc ?_ _)); refine blk_put (cs := #[.int .i64 0, .int .i64 0, .int .i64 0]) ?_ 0 _ rfl; (with_reducible repeat (first | refine blk_drewN ?_ _ | refine blk_drew ?_ | refine blk_alloc ?_ _)); exact BK150.out) Try.underlying56 rfl (by kernel_rfl)) rfl ?_
      exact ⟨by first | rfl | (simp [errW_none, errW_some] <;> rfl) | (simp [*, errW_none, errW_some] <;> rfl), by repeat (first | (with_reducible first | exact HB.out | apply below_alloc | apply pw_below_drewN | apply below_drew1 | refine below_set ?_ GE150.out) | exact HB.out)⟩
    · rw [if_neg c6] at H
      have c6b0 : decide (1000 < a0) = false := decide_eq_false c6
      clear c6
      by_cases c9 : a1 < 1
      · rw [if_pos c9] at H
        have c9b0 : decide (a1 < 1) = true := decide_eq_true c9
        clear c9
        simp only [Option.some.injEq, Prod.mk.injEq] at H
        obtain ⟨rfl, rfl, rfl, rfl⟩ := H
        go_enter Try.func23, Try.ntmps23
        go_wp2_with (first | ((with_reducible refine gate_dst (N := 4) rfl ?_); refine box_event ?hg (N := 4) ?hd (cs := #[.int .i64 0, .int .i64 0, .int .i64 0]) (t := 56) ?hr ?_; (case hd => rfl); (case hg => rfl); (case hr => first | (go_simp; done) | (go_simp; rfl)); intro gb150 hg w10 hbox hb; have n0_ := Aside0.mk (below_step (by repeat (first | (with_reducible first | exact HB.out | apply below_alloc | apply pw_below_drewN | apply below_drew1) | exact HB.out)) hb); have n1_ := Aside0.mk (hbox); have n2_ := Aside0.mk ((by rw [hg]; exact (below_size (by repeat (first | (with_reducible first | exact HB.out | apply below_alloc | apply pw_below_drewN | apply below_drew1) | exact HB.out))) : w.heap.size ≤ gb150)); have n3_ := Aside0.mk ((by rw [hg]; exact (below_size (by repeat (first | (with_reducible first | exact HB.out | apply below_alloc | apply pw_below_drewN | apply below_drew1) | exact HB.out))) : w.heap.size ≤ gb150)); clear HB; have HB := n0_; have BK150 := n1_; have GW150 := n2_; have GE150 := n3_; clear n0_ n1_ n2_ n3_; clear hb hbox hg; have hcz11_0 : w10.cell? ⟨gb150, 0, none⟩ = some (.int .i64 0) := (blk_cell BK150.out 0).trans rfl; have hcz11_1 : w10.cell? ⟨gb150, 1, none⟩ = some (.int .i64 0) := (blk_cell BK150.out 1).trans rfl; have hcz11_2 : w10.cell? ⟨gb150, 2, none⟩ = some (.int .i64 0) := (blk_cell BK150.out 2).trans rfl; have hfz11_0 := blk_frozen BK150.out 0; have hfz11_1 := blk_frozen BK150.out 1; have hfz11_2 := blk_frozen BK150.out 2))
        refine bodyPost_ret (results_ct rfl _ _ gb150 56 #[.int .i64 0, .int .i64 0, .int .i64 0] (0, 0) _ rfl (by (with_reducible repeat (first | refine blk_drewN ?_ _ | refine blk_drew ?_ | refine blk_alloc ?_ _)); refine blk_put (cs := #[.int .i64 0, .int .i64 0, .int .i64 0]) ?_ 2 _ rfl; (with_reducible repeat (first | refine blk_drewN ?_ _ | refine blk_drew ?_ | refine blk_alloc ?_ _)); refine blk_put (cs := #[.int .i64 0, .int .i64 0, .int .i64 0]) ?_ 1 _ rfl; (with_reducible repeat (first | refine blk_drewN ?_ _ | refine blk_drew ?_ | refine blk_alloc ?_ _)); refine blk_put (cs := #[.int .i64 0, .int .i64 0, .int .i64 0]) ?_ 0 _ rfl; (with_reducible repeat (first | refine blk_drewN ?_ _ | refine blk_drew ?_ | refine blk_alloc ?_ _)); exact BK150.out) Try.underlying56 rfl (by kernel_rfl)) rfl ?_
        exact ⟨by first | rfl | (simp [errW_none, errW_some] <;> rfl) | (simp [*, errW_none, errW_some] <;> rfl), by repeat (first | (with_reducible first | exact HB.out | apply below_alloc | apply pw_below_drewN | apply below_drew1 | refine below_set ?_ GE150.out) | exact HB.out)⟩
      · rw [if_neg c9] at H
        have c9b0 : decide (a1 < 1) = false := decide_eq_false c9
        clear c9
        by_cases c12 : a1 > 1000
        · rw [if_pos c12] at H
          have c12b0 : decide (1000 < a1) = true := decide_eq_true c12
          clear c12
          simp only [Option.some.injEq, Prod.mk.injEq] at H
          obtain ⟨rfl, rfl, rfl, rfl⟩ := H
          go_enter Try.func23, Try.ntmps23
          go_wp2_with (first | ((with_reducible refine gate_dst (N := 4) rfl ?_); refine box_event ?hg (N := 4) ?hd (cs := #[.int .i64 0, .int .i64 0, .int .i64 0]) (t := 56) ?hr ?_; (case hd => rfl); (case hg => rfl); (case hr => first | (go_simp; done) | (go_simp; rfl)); intro gb150 hg w13 hbox hb; have n0_ := Aside0.mk (below_step (by repeat (first | (with_reducible first | exact HB.out | apply below_alloc | apply pw_below_drewN | apply below_drew1) | exact HB.out)) hb); have n1_ := Aside0.mk (hbox); have n2_ := Aside0.mk ((by rw [hg]; exact (below_size (by repeat (first | (with_reducible first | exact HB.out | apply below_alloc | apply pw_below_drewN | apply below_drew1) | exact HB.out))) : w.heap.size ≤ gb150)); have n3_ := Aside0.mk ((by rw [hg]; exact (below_size (by repeat (first | (with_reducible first | exact HB.out | apply below_alloc | apply pw_below_drewN | apply below_drew1) | exact HB.out))) : w.heap.size ≤ gb150)); clear HB; have HB := n0_; have BK150 := n1_; have GW150 := n2_; have GE150 := n3_; clear n0_ n1_ n2_ n3_; clear hb hbox hg; have hcz14_0 : w13.cell? ⟨gb150, 0, none⟩ = some (.int .i64 0) := (blk_cell BK150.out 0).trans rfl; have hcz14_1 : w13.cell? ⟨gb150, 1, none⟩ = some (.int .i64 0) := (blk_cell BK150.out 1).trans rfl; have hcz14_2 : w13.cell? ⟨gb150, 2, none⟩ = some (.int .i64 0) := (blk_cell BK150.out 2).trans rfl; have hfz14_0 := blk_frozen BK150.out 0; have hfz14_1 := blk_frozen BK150.out 1; have hfz14_2 := blk_frozen BK150.out 2))
          refine bodyPost_ret (results_ct rfl _ _ gb150 56 #[.int .i64 0, .int .i64 0, .int .i64 0] (0, 0) _ rfl (by (with_reducible repeat (first | refine blk_drewN ?_ _ | refine blk_drew ?_ | refine blk_alloc ?_ _)); refine blk_put (cs := #[.int .i64 0, .int .i64 0, .int .i64 0]) ?_ 2 _ rfl; (with_reducible repeat (first | refine blk_drewN ?_ _ | refine blk_drew ?_ | refine blk_alloc ?_ _)); refine blk_put (cs := #[.int .i64 0, .int .i64 0, .int .i64 0]) ?_ 1 _ rfl; (with_reducible repeat (first | refine blk_drewN ?_ _ | refine blk_drew ?_ | refine blk_alloc ?_ _)); refine blk_put (cs := #[.int .i64 0, .int .i64 0, .int .i64 0]) ?_ 0 _ rfl; (with_reducible repeat (first | refine blk_drewN ?_ _ | refine blk_drew ?_ | refine blk_alloc ?_ _)); exact BK150.out) Try.underlying56 rfl (by kernel_rfl)) rfl ?_
          exact ⟨by first | rfl | (simp [errW_none, errW_some] <;> rfl) | (simp [*, errW_none, errW_some] <;> rfl), by repeat (first | (with_reducible first | exact HB.out | apply below_alloc | apply pw_below_drewN | apply below_drew1 | refine below_set ?_ GE150.out) | exact HB.out)⟩
        · rw [if_neg c12] at H
          have c12b0 : decide (1000 < a1) = false := decide_eq_false c12
          clear c12
          simp only [Option.some.injEq, Prod.mk.injEq] at H
          obtain ⟨rfl, rfl, rfl, rfl⟩ := H
          go_enter Try.func23, Try.ntmps23
          go_wp2_with (first | ((with_reducible refine gate_dst (N := 4) rfl ?_); refine box_event ?hg (N := 4) ?hd (cs := #[.int .i64 0, .int .i64 0, .int .i64 0]) (t := 56) ?hr ?_; (case hd => rfl); (case hg => rfl); (case hr => first | (go_simp; done) | (go_simp; rfl)); intro gb150 hg w15 hbox hb; have n0_ := Aside0.mk (below_step (by repeat (first | (with_reducible first | exact HB.out | apply below_alloc | apply pw_below_drewN | apply below_drew1) | exact HB.out)) hb); have n1_ := Aside0.mk (hbox); have n2_ := Aside0.mk ((by rw [hg]; exact (below_size (by repeat (first | (with_reducible first | exact HB.out | apply below_alloc | apply pw_below_drewN | apply below_drew1) | exact HB.out))) : w.heap.size ≤ gb150)); have n3_ := Aside0.mk ((by rw [hg]; exact (below_size (by repeat (first | (with_reducible first | exact HB.out | apply below_alloc | apply pw_below_drewN | apply below_drew1) | exact HB.out))) : w.heap.size ≤ gb150)); clear HB; have HB := n0_; have BK150 := n1_; have GW150 := n2_; have GE150 := n3_; clear n0_ n1_ n2_ n3_; clear hb hbox hg; have hcz16_0 : w15.cell? ⟨gb150, 0, none⟩ = some (.int .i64 0) := (blk_cell BK150.out 0).trans rfl; have hcz16_1 : w15.cell? ⟨gb150, 1, none⟩ = some (.int .i64 0) := (blk_cell BK150.out 1).trans rfl; have hcz16_2 : w15.cell? ⟨gb150, 2, none⟩ = some (.int .i64 0) := (blk_cell BK150.out 2).trans rfl; have hfz16_0 := blk_frozen BK150.out 0; have hfz16_1 := blk_frozen BK150.out 1; have hfz16_2 := blk_frozen BK150.out 2))
          refine bodyPost_ret (results_ct rfl _ _ gb150 56 #[.int .i64 a0, .int .i64 (wrap64 (16 * a1)), .int .i64 (wrap64 (16 * a1))] (0, 0) _ rfl (by (with_reducible repeat (first | refine blk_drewN ?_ _ | refine blk_drew ?_ | refine blk_alloc ?_ _)); refine blk_put (cs := #[.int .i64 a0, .int .i64 (wrap64 (16 * a1)), .int .i64 0]) ?_ 2 _ rfl; (with_reducible repeat (first | refine blk_drewN ?_ _ | refine blk_drew ?_ | refine blk_alloc ?_ _)); refine blk_put (cs := #[.int .i64 a0, .int .i64 0, .int .i64 0]) ?_ 1 _ rfl; (with_reducible repeat (first | refine blk_drewN ?_ _ | refine blk_drew ?_ | refine blk_alloc ?_ _)); refine blk_put (cs := #[.int .i64 0, .int .i64 0, .int .i64 0]) ?_ 0 _ rfl; (with_reducible repeat (first | refine blk_drewN ?_ _ | refine blk_drew ?_ | refine blk_alloc ?_ _)); exact BK150.out) Try.underlying56 rfl (by kernel_rfl)) rfl ?_
          exact ⟨by first | rfl | (simp [errW_none, errW_some] <;> rfl) | (simp [*, errW_none, errW_some] <;> rfl), by repeat (first | (with_reducible first | exact HB.out | apply below_alloc | apply pw_below_drewN | apply below_drew1 | refine below_set ?_ GE150.out) | exact HB.out)⟩

/-! ### joustref08_Take: function 25 -/
def joustref08_Take.f (a0_0 : Int) (a0_1 : Int) (a0_2 : Int) : Option (Int × Int × Int × Int) := if a0_2 < 16 then (some (a0_0, a0_1, a0_2, 80)) else (some (a0_0, a0_1, wrap64 (a0_2 - 16), 0))
set_option maxHeartbeats 8000000 in
set_option maxRecDepth 100000 in
theorem joustref08_Take.calls (a0_0 : Int) (a0_1 : Int) (a0_2 : Int) (r1 : Int) (r2 : Int) (r3 : Int) (r4 : Int) (w : World) (h : joustref08_Take.f a0_0 a0_1 a0_2 = some (r1, r2, r3, r4)) :
    Calls Try.prog 25 #[.agg #[.int .i64 a0_0, .int .i64 a0_1, .int .i64 a0_2]] w fun e w' => e = .returned (.tuple #[.agg #[.int .i64 r1, .int .i64 r2, .int .i64 r3], .int .i64 r4]) ∧ Below w.heap.size w w' := by
  have hu56 := Try.underlying56
  have HB := Aside0.mk (Below.refl w.heap.size w)
  have H : (if a0_2 < 16 then (some (a0_0, a0_1, a0_2, 80)) else (some (a0_0, a0_1, wrap64 (a0_2 - 16), 0))) = some (r1, r2, r3, r4) := h
  clear h
  by_cases c2 : a0_2 < 16
  · rw [if_pos c2] at H
    have c2b0 : decide (a0_2 < 16) = true := decide_eq_true c2
    clear c2
    simp only [Option.some.injEq, Prod.mk.injEq] at H
    obtain ⟨rfl, rfl, rfl, rfl⟩ := H
    go_enter Try.func25, Try.ntmps25
    go_wp2_with (first | ((with_reducible refine gate_dst (N := 1) rfl ?_); refine box_event ?hg (N := 1) ?hd (cs := #[.int .i64 a0_0, .int .i64 a0_1, .int .i64 a0_2]) (t := 56) ?hr ?_; (case hd => rfl); (case hg => rfl); (case hr => first | (go_simp; done) | (go_simp; rfl)); intro gb151 hg w3 hbox hb; have n0_ := Aside0.mk (below_step (by repeat (first | (with_reducible first | exact HB.out | apply below_alloc | apply pw_below_drewN | apply below_drew1) | exact HB.out)) hb); have n1_ := Aside0.mk (hbox); have n2_ := Aside0.mk ((by rw [hg]; exact (below_size (by repeat (first | (with_reducible first | exact HB.out | apply below_alloc | apply pw_below_drewN | apply below_drew1) | exact HB.out))) : w.heap.size ≤ gb151)); have n3_ := Aside0.mk ((by rw [hg]; exact (below_size (by repeat (first | (with_reducible first | exact HB.out | apply below_alloc | apply pw_below_drewN | apply below_drew1) | exact HB.out))) : w.heap.size ≤ gb151)); clear HB; have HB := n0_; have BK151 := n1_; have GW151 := n2_; have GE151 := n3_; clear n0_ n1_ n2_ n3_; clear hb hbox hg) | ((with_reducible refine gate_dst (N := 2) rfl ?_); refine box_event ?hg (N := 2) ?hd (cs := #[.int .i64 0, .int .i64 0, .int .i64 0]) (t := 56) ?hr ?_; (case hd => rfl); (case hg => rfl); (case hr => first | (go_simp; done) | (go_simp; rfl)); intro gb152 hg w4 hbox hb; have n0_ := Aside0.mk (blk_below (g := gb151) (o := .cells #[.int .i64 a0_0, .int .i64 a0_1, .int .i64 a0_2] 56 (0, 0)) (by (with_reducible repeat (first | refine blk_drewN ?_ _ | refine blk_drew ?_ | refine blk_alloc ?_ _)); exact BK151.out) hb); have n1_ := Aside0.mk (below_step (by repeat (first | (with_reducible first | exact HB.out | apply below_alloc | apply pw_below_drewN | apply below_drew1 | refine below_set ?_ GE151.out) | exact HB.out)) hb); have n2_ := Aside0.mk (hbox); have n3_ := Aside0.mk ((by rw [hg]; exact (below_size (by repeat (first | (with_reducible first | exact HB.out | apply below_alloc | apply pw_below_drewN | apply below_drew1 | refine below_set ?_ GE151.out) | exact HB.out))) : w.heap.size ≤ gb152)); have n4_ := Aside0.mk ((by rw [hg]; exact (below_size (by repeat (first | (with_reducible first | exact HB.out | apply below_alloc | apply pw_below_drewN | apply below_drew1 | refine below_set ?_ GE151.out) | exact HB.out))) : w.heap.size ≤ gb152)); have n5_ := Aside0.mk ((by rw [hg]; exact Nat.ne_of_lt (blk_lt (g := gb151) (o := .cells #[.int .i64 a0_0, .int .i64 a0_1, .int .i64 a0_2] 56 (0, 0)) (by (with_reducible repeat (first | refine blk_drewN ?_ _ | refine blk_drew ?_ | refine blk_alloc ?_ _)); exact BK151.out)) : gb151 ≠ gb152)); have n6_ := Aside0.mk ((by rw [hg]; exact Nat.ne_of_gt (blk_lt (g := gb151) (o := .cells #[.int .i64 a0_0, .int .i64 a0_1, .int .i64 a0_2] 56 (0, 0)) (by (with_reducible repeat (first | refine blk_drewN ?_ _ | refine blk_drew ?_ | refine blk_alloc ?_ _)); exact BK151.out)) : gb152 ≠ gb151)); clear BK151; clear HB; have BK151 := n0_; have HB := n1_; have BK152 := n2_; have GW152 := n3_; have GE152 := n4_; have NB151_152 := n5_; have NB152_151 := n6_; clear n0_ n1_ n2_ n3_ n4_ n5_ n6_; clear hb hbox hg; have hnb5 := NB151_152.out; have hnc5 := NB152_151.out; have hcz6_0 : w4.cell? ⟨gb151, 0, none⟩ = some (.int .i64 a0_0) := (blk_cell BK151.out 0).trans rfl; have hcz6_1 : w4.cell? ⟨gb151, 1, none⟩ = some (.int .i64 a0_1) := (blk_cell BK151.out 1).trans rfl; have hcz6_2 : w4.cell? ⟨gb151, 2, none⟩ = some (.int .i64 a0_2) := (blk_cell BK151.out 2).trans rfl; have hfz6_0 := blk_frozen BK151.out 0; have hfz6_1 := blk_frozen BK151.out 1; have hfz6_2 := blk_frozen BK151.out 2; have hcz7_0 : w4.cell? ⟨gb152, 0, none⟩ = some (.int .i64 0) := (blk_cell BK152.out 0).trans rfl; have hcz7_1 : w4.cell? ⟨gb152, 1, none⟩ = some (.int .i64 0) := (blk_cell BK152.out 1).trans rfl; have hcz7_2 : w4.cell? ⟨gb152, 2, none⟩ = some (.int .i64 0) := (blk_cell BK152.out 2).trans rfl; have hfz7_0 := blk_frozen BK152.out 0; have hfz7_1 := blk_frozen BK152.out 1; have hfz7_2 := blk_frozen BK152.out 2))
    refine bodyPost_ret (results_ct rfl _ _ gb152 56 #[.int .i64 a0_0, .int .i64 a0_1, .int .i64 a0_2] (0, 0) _ rfl (by (with_reducible repeat (first | refine blk_drewN ?_ _ | refine blk_drew ?_ | refine blk_alloc ?_ _)); refine blk_put (cs := #[.int .i64 a0_0, .int .i64 a0_1, .int .i64 0]) ?_ 2 _ rfl; (with_reducible repeat (first | refine blk_drewN ?_ _ | refine blk_drew ?_ | refine blk_alloc ?_ _)); refine blk_put (cs := #[.int .i64 a0_0, .int .i64 0, .int .i64 0]) ?_ 1 _ rfl; (with_reducible repeat (first | refine blk_drewN ?_ _ | refine blk_drew ?_ | refine blk_alloc ?_ _)); refine blk_put (cs := #[.int .i64 0, .int .i64 0, .int .i64 0]) ?_ 0 _ rfl; (with_reducible repeat (first | refine blk_drewN ?_ _ | refine blk_drew ?_ | refine blk_alloc ?_ _)); exact BK152.out) Try.underlying56 rfl (by kernel_rfl)) rfl ?_
    exact ⟨by first | rfl | (simp [errW_none, errW_some] <;> rfl) | (simp [*, errW_none, errW_some] <;> rfl), by repeat (first | (with_reducible first | exact HB.out | apply below_alloc | apply pw_below_drewN | apply below_drew1 | refine below_set ?_ GE151.out | refine below_set ?_ GE152.out) | exact HB.out)⟩
  · rw [if_neg c2] at H
    have c2b0 : decide (a0_2 < 16) = false := decide_eq_false c2
    clear c2
    simp only [Option.some.injEq, Prod.mk.injEq] at H
    obtain ⟨rfl, rfl, rfl, rfl⟩ := H
    go_enter Try.func25, Try.ntmps25
    go_wp2_with (first | ((with_reducible refine gate_dst (N := 1) rfl ?_); refine box_event ?hg (N := 1) ?hd (cs := #[.int .i64 a0_0, .int .i64 a0_1, .int .i64 a0_2]) (t := 56) ?hr ?_; (case hd => rfl); (case hg => rfl); (case hr => first | (go_simp; done) | (go_simp; rfl)); intro gb151 hg w8 hbox hb; have n0_ := Aside0.mk (below_step (by repeat (first | (with_reducible first | exact HB.out | apply below_alloc | apply pw_below_drewN | apply below_drew1) | exact HB.out)) hb); have n1_ := Aside0.mk (hbox); have n2_ := Aside0.mk ((by rw [hg]; exact (below_size (by repeat (first | (with_reducible first | exact HB.out | apply below_alloc | apply pw_below_drewN | apply below_drew1) | exact HB.out))) : w.heap.size ≤ gb151)); have n3_ := Aside0.mk ((by rw [hg]; exact (below_size (by repeat (first | (with_reducible first | exact HB.out | apply below_alloc | apply pw_below_drewN | apply below_drew1) | exact HB.out))) : w.heap.size ≤ gb151)); clear HB; have HB := n0_; have BK151 := n1_; have GW151 := n2_; have GE151 := n3_; clear n0_ n1_ n2_ n3_; clear hb hbox hg) | ((with_reducible refine gate_dst (N := 2) rfl ?_); refine box_event ?hg (N := 2) ?hd (cs := #[.int .i64 0, .int .i64 0, .int .i64 0]) (t := 56) ?hr ?_; (case hd => rfl); (case hg => rfl); (case hr => first | (go_simp; done) | (go_simp; rfl)); intro gb152 hg w9 hbox hb; have n0_ := Aside0.mk (blk_below (g := gb151) (o := .cells #[.int .i64 a0_0, .int .i64 a0_1, .int .i64 a0_2] 56 (0, 0)) (by (with_reducible repeat (first | refine blk_drewN ?_ _ | refine blk_drew ?_ | refine blk_alloc ?_ _)); exact BK151.out) hb); have n1_ := Aside0.mk (below_step (by repeat (first | (with_reducible first | exact HB.out | apply below_alloc | apply pw_below_drewN | apply below_drew1 | refine below_set ?_ GE151.out) | exact HB.out)) hb); have n2_ := Aside0.mk (hbox); have n3_ := Aside0.mk ((by rw [hg]; exact (below_size (by repeat (first | (with_reducible first | exact HB.out | apply below_alloc | apply pw_below_drewN | apply below_drew1 | refine below_set ?_ GE151.out) | exact HB.out))) : w.heap.size ≤ gb152)); have n4_ := Aside0.mk ((by rw [hg]; exact (below_size (by repeat (first | (with_reducible first | exact HB.out | apply below_alloc | apply pw_below_drewN | apply below_drew1 | refine below_set ?_ GE151.out) | exact HB.out))) : w.heap.size ≤ gb152)); have n5_ := Aside0.mk ((by rw [hg]; exact Nat.ne_of_lt (blk_lt (g := gb151) (o := .cells #[.int .i64 a0_0, .int .i64 a0_1, .int .i64 a0_2] 56 (0, 0)) (by (with_reducible repeat (first | refine blk_drewN ?_ _ | refine blk_drew ?_ | refine blk_alloc ?_ _)); exact BK151.out)) : gb151 ≠ gb152)); have n6_ := Aside0.mk ((by rw [hg]; exact Nat.ne_of_gt (blk_lt (g := gb151) (o := .cells #[.int .i64 a0_0, .int .i64 a0_1, .int .i64 a0_2] 56 (0, 0)) (by (with_reducible repeat (first | refine blk_drewN ?_ _ | refine blk_drew ?_ | refine blk_alloc ?_ _)); exact BK151.out)) : gb152 ≠ gb151)); clear BK151; clear HB; have BK151 := n0_; have HB := n1_; have BK152 := n2_; have GW152 := n3_; have GE152 := n4_; have NB151_152 := n5_; have NB152_151 := n6_; clear n0_ n1_ n2_ n3_ n4_ n5_ n6_; clear hb hbox hg; have hnb10 := NB151_152.out; have hnc10 := NB152_151.out; have hcz11_0 : w9.cell? ⟨gb151, 0, none⟩ = some (.int .i64 a0_0) := (blk_cell BK151.out 0).trans rfl; have hcz11_1 : w9.cell? ⟨gb151, 1, none⟩ = some (.int .i64 a0_1) := (blk_cell BK151.out 1).trans rfl; have hcz11_2 : w9.cell? ⟨gb151, 2, none⟩ = some (.int .i64 a0_2) := (blk_cell BK151.out 2).trans rfl; have hfz11_0 := blk_frozen BK151.out 0; have hfz11_1 := blk_frozen BK151.out 1; have hfz11_2 := blk_frozen BK151.out 2; have hcz12_0 : w9.cell? ⟨gb152, 0, none⟩ = some (.int .i64 0) := (blk_cell BK152.out 0).trans rfl; have hcz12_1 : w9.cell? ⟨gb152, 1, none⟩ = some (.int .i64 0) := (blk_cell BK152.out 1).trans rfl; have hcz12_2 : w9.cell? ⟨gb152, 2, none⟩ = some (.int .i64 0) := (blk_cell BK152.out 2).trans rfl; have hfz12_0 := blk_frozen BK152.out 0; have hfz12_1 := blk_frozen BK152.out 1; have hfz12_2 := blk_frozen BK152.out 2))
    refine bodyPost_ret (results_ct rfl _ _ gb152 56 #[.int .i64 a0_0, .int .i64 a0_1, .int .i64 (wrap64 (a0_2 - 16))] (0, 0) _ rfl (by (with_reducible repeat (first | refine blk_drewN ?_ _ | refine blk_drew ?_ | refine blk_alloc ?_ _)); refine blk_put (cs := #[.int .i64 a0_0, .int .i64 a0_1, .int .i64 0]) ?_ 2 _ rfl; (with_reducible repeat (first | refine blk_drewN ?_ _ | refine blk_drew ?_ | refine blk_alloc ?_ _)); refine blk_put (cs := #[.int .i64 a0_0, .int .i64 0, .int .i64 0]) ?_ 1 _ rfl; (with_reducible repeat (first | refine blk_drewN ?_ _ | refine blk_drew ?_ | refine blk_alloc ?_ _)); refine blk_put (cs := #[.int .i64 0, .int .i64 0, .int .i64 0]) ?_ 0 _ rfl; (with_reducible repeat (first | refine blk_drewN ?_ _ | refine blk_drew ?_ | refine blk_alloc ?_ _)); refine blk_far ?_ NB152_151.out _; (with_reducible repeat (first | refine blk_drewN ?_ _ | refine blk_drew ?_ | refine blk_alloc ?_ _)); exact BK152.out) Try.underlying56 rfl (by kernel_rfl)) rfl ?_
    exact ⟨by first | rfl | (simp [errW_none, errW_some] <;> rfl) | (simp [*, errW_none, errW_some] <;> rfl), by repeat (first | (with_reducible first | exact HB.out | apply below_alloc | apply pw_below_drewN | apply below_drew1 | refine below_set ?_ GE151.out | refine below_set ?_ GE152.out) | exact HB.out)⟩

/-! ### joustref08_Tick: function 27 -/
def joustref08_Tick.f (a0_0 : Int) (a0_1 : Int) (a0_2 : Int) : Option (Int × Int × Int) := if (wrap64 (a0_2 + a0_0)) > a0_1 then (some (a0_0, a0_1, a0_1)) else (some (a0_0, a0_1, wrap64 (a0_2 + a0_0)))
set_option maxHeartbeats 8000000 in
set_option maxRecDepth 100000 in
theorem joustref08_Tick.calls (a0_0 : Int) (a0_1 : Int) (a0_2 : Int) (r1 : Int) (r2 : Int) (r3 : Int) (w : World) (h : joustref08_Tick.f a0_0 a0_1 a0_2 = some (r1, r2, r3)) :
    Calls Try.prog 27 #[.agg #[.int .i64 a0_0, .int .i64 a0_1, .int .i64 a0_2]] w fun e w' => e = .returned (.agg #[.int .i64 r1, .int .i64 r2, .int .i64 r3]) ∧ Below w.heap.size w w' := by
  have hu56 := Try.underlying56
  have HB := Aside0.mk (Below.refl w.heap.size w)
  have H : (if (wrap64 (a0_2 + a0_0)) > a0_1 then (some (a0_0, a0_1, a0_1)) else (some (a0_0, a0_1, wrap64 (a0_2 + a0_0)))) = some (r1, r2, r3) := h
  clear h
  by_cases c2 : (wrap64 (a0_2 + a0_0)) > a0_1
  · rw [if_pos c2] at H
    have c2b0 : decide (a0_1 < (wrap64 (a0_2 + a0_0))) = true := decide_eq_true c2
    clear c2
    simp only [Option.some.injEq, Prod.mk.injEq] at H
    obtain ⟨rfl, rfl, rfl⟩ := H
    go_enter Try.func27, Try.ntmps27
    go_wp2_with (first | ((with_reducible refine gate_dst (N := 1) rfl ?_); refine box_event ?hg (N := 1) ?hd (cs := #[.int .i64 a0_0, .int .i64 a0_1, .int .i64 a0_2]) (t := 56) ?hr ?_; (case hd => rfl); (case hg => rfl); (case hr => first | (go_simp; done) | (go_simp; rfl)); intro gb153 hg w3 hbox hb; have n0_ := Aside0.mk (below_step (by repeat (first | (with_reducible first | exact HB.out | apply below_alloc | apply pw_below_drewN | apply below_drew1) | exact HB.out)) hb); have n1_ := Aside0.mk (hbox); have n2_ := Aside0.mk ((by rw [hg]; exact (below_size (by repeat (first | (with_reducible first | exact HB.out | apply below_alloc | apply pw_below_drewN | apply below_drew1) | exact HB.out))) : w.heap.size ≤ gb153)); have n3_ := Aside0.mk ((by rw [hg]; exact (below_size (by repeat (first | (with_reducible first | exact HB.out | apply below_alloc | apply pw_below_drewN | apply below_drew1) | exact HB.out))) : w.heap.size ≤ gb153)); clear HB; have HB := n0_; have BK153 := n1_; have GW153 := n2_; have GE153 := n3_; clear n0_ n1_ n2_ n3_; clear hb hbox hg) | ((with_reducible refine gate_dst (N := 2) rfl ?_); refine box_event ?hg (N := 2) ?hd (cs := #[.int .i64 0, .int .i64 0, .int .i64 0]) (t := 56) ?hr ?_; (case hd => rfl); (case hg => rfl); (case hr => first | (go_simp; done) | (go_simp; rfl)); intro gb154 hg w4 hbox hb; have n0_ := Aside0.mk (blk_below (g := gb153) (o := .cells #[.int .i64 a0_0, .int .i64 a0_1, .int .i64 a0_2] 56 (0, 0)) (by (with_reducible repeat (first | refine blk_drewN ?_ _ | refine blk_drew ?_ | refine blk_alloc ?_ _)); exact BK153.out) hb); have n1_ := Aside0.mk (below_step (by repeat (first | (with_reducible first | exact HB.out | apply below_alloc | apply pw_below_drewN | apply below_drew1 | refine below_set ?_ GE153.out) | exact HB.out)) hb); have n2_ := Aside0.mk (hbox); have n3_ := Aside0.mk ((by rw [hg]; exact (below_size (by repeat (first | (with_reducible first | exact HB.out | apply below_alloc | apply pw_below_drewN | apply below_drew1 | refine below_set ?_ GE153.out) | exact HB.out))) : w.heap.size ≤ gb154)); have n4_ := Aside0.mk ((by rw [hg]; exact (below_size (by repeat (first | (with_reducible first | exact HB.out | apply below_alloc | apply pw_below_drewN | apply below_drew1 | refine below_set ?_ GE153.out) | exact HB.out))) : w.heap.size ≤ gb154)); have n5_ := Aside0.mk ((by rw [hg]; exact Nat.ne_of_lt (blk_lt (g := gb153) (o := .cells #[.int .i64 a0_0, .int .i64 a0_1, .int .i64 a0_2] 56 (0, 0)) (by (with_reducible repeat (first | refine blk_drewN ?_ _ | refine blk_drew ?_ | refine blk_alloc ?_ _)); exact BK153.out)) : gb153 ≠ gb154)); have n6_ := Aside0.mk ((by rw [hg]; exact Nat.ne_of_gt (blk_lt (g := gb153) (o := .cells #[.int .i64 a0_0, .int .i64 a0_1, .int .i64 a0_2] 56 (0, 0)) (by (with_reducible repeat (first | refine blk_drewN ?_ _ | refine blk_drew ?_ | refine blk_alloc ?_ _)); exact BK153.out)) : gb154 ≠ gb153)); clear BK153; clear HB; have BK153 := n0_; have HB := n1_; have BK154 := n2_; have GW154 := n3_; have GE154 := n4_; have NB153_154 := n5_; have NB154_153 := n6_; clear n0_ n1_ n2_ n3_ n4_ n5_ n6_; clear hb hbox hg; have hnb5 := NB153_154.out; have hnc5 := NB154_153.out; have hcz6_0 : w4.cell? ⟨gb153, 0, none⟩ = some (.int .i64 a0_0) := (blk_cell BK153.out 0).trans rfl; have hcz6_1 : w4.cell? ⟨gb153, 1, none⟩ = some (.int .i64 a0_1) := (blk_cell BK153.out 1).trans rfl; have hcz6_2 : w4.cell? ⟨gb153, 2, none⟩ = some (.int .i64 a0_2) := (blk_cell BK153.out 2).trans rfl; have hfz6_0 := blk_frozen BK153.out 0; have hfz6_1 := blk_frozen BK153.out 1; have hfz6_2 := blk_frozen BK153.out 2; have hcz7_0 : w4.cell? ⟨gb154, 0, none⟩ = some (.int .i64 0) := (blk_cell BK154.out 0).trans rfl; have hcz7_1 : w4.cell? ⟨gb154, 1, none⟩ = some (.int .i64 0) := (blk_cell BK154.out 1).trans rfl; have hcz7_2 : w4.cell? ⟨gb154, 2, none⟩ = some (.int .i64 0) := (blk_cell BK154.out 2).trans rfl; have hfz7_0 := blk_frozen BK154.out 0; have hfz7_1 := blk_frozen BK154.out 1; have hfz7_2 := blk_frozen BK154.out 2))
    refine bodyPost_ret (results_cell_row rfl _ _ gb154 56 #[.int .i64 a0_0, .int .i64 a0_1, .int .i64 a0_1] (0, 0) _ rfl (by (with_reducible repeat (first | refine blk_drewN ?_ _ | refine blk_drew ?_ | refine blk_alloc ?_ _)); refine blk_put (cs := #[.int .i64 a0_0, .int .i64 a0_1, .int .i64 0]) ?_ 2 _ rfl; (with_reducible repeat (first | refine blk_drewN ?_ _ | refine blk_drew ?_ | refine blk_alloc ?_ _)); refine blk_put (cs := #[.int .i64 a0_0, .int .i64 0, .int .i64 0]) ?_ 1 _ rfl; (with_reducible repeat (first | refine blk_drewN ?_ _ | refine blk_drew ?_ | refine blk_alloc ?_ _)); refine blk_put (cs := #[.int .i64 0, .int .i64 0, .int .i64 0]) ?_ 0 _ rfl; (with_reducible repeat (first | refine blk_drewN ?_ _ | refine blk_drew ?_ | refine blk_alloc ?_ _)); refine blk_far ?_ NB154_153.out _; (with_reducible repeat (first | refine blk_drewN ?_ _ | refine blk_drew ?_ | refine blk_alloc ?_ _)); refine blk_far ?_ NB154_153.out _; (with_reducible repeat (first | refine blk_drewN ?_ _ | refine blk_drew ?_ | refine blk_alloc ?_ _)); exact BK154.out) Try.underlying56 rfl (by kernel_rfl)) rfl ?_
    exact ⟨by first | rfl | (simp [errW_none, errW_some] <;> rfl) | (simp [*, errW_none, errW_some] <;> rfl), by repeat (first | (with_reducible first | exact HB.out | apply below_alloc | apply pw_below_drewN | apply below_drew1 | refine below_set ?_ GE153.out | refine below_set ?_ GE154.out) | exact HB.out)⟩
  · rw [if_neg c2] at H
    have c2b0 : decide (a0_1 < (wrap64 (a0_2 + a0_0))) = false := decide_eq_false c2
    clear c2
    simp only [Option.some.injEq, Prod.mk.injEq] at H
    obtain ⟨rfl, rfl, rfl⟩ := H
    go_enter Try.func27, Try.ntmps27
    go_wp2_with (first | ((with_reducible refine gate_dst (N := 1) rfl ?_); refine box_event ?hg (N := 1) ?hd (cs := #[.int .i64 a0_0, .int .i64 a0_1, .int .i64 a0_2]) (t := 56) ?hr ?_; (case hd => rfl); (case hg => rfl); (case hr => first | (go_simp; done) | (go_simp; rfl)); intro gb153 hg w8 hbox hb; have n0_ := Aside0.mk (below_step (by repeat (first | (with_reducible first | exact HB.out | apply below_alloc | apply pw_below_drewN | apply below_drew1) | exact HB.out)) hb); have n1_ := Aside0.mk (hbox); have n2_ := Aside0.mk ((by rw [hg]; exact (below_size (by repeat (first | (with_reducible first | exact HB.out | apply below_alloc | apply pw_below_drewN | apply below_drew1) | exact HB.out))) : w.heap.size ≤ gb153)); have n3_ := Aside0.mk ((by rw [hg]; exact (below_size (by repeat (first | (with_reducible first | exact HB.out | apply below_alloc | apply pw_below_drewN | apply below_drew1) | exact HB.out))) : w.heap.size ≤ gb153)); clear HB; have HB := n0_; have BK153 := n1_; have GW153 := n2_; have GE153 := n3_; clear n0_ n1_ n2_ n3_; clear hb hbox hg) | ((with_reducible refine gate_dst (N := 2) rfl ?_); refine box_event ?hg (N := 2) ?hd (cs := #[.int .i64 0, .int .i64 0, .int .i64 0]) (t := 56) ?hr ?_; (case hd => rfl); (case hg => rfl); (case hr => first | (go_simp; done) | (go_simp; rfl)); intro gb154 hg w9 hbox hb; have n0_ := Aside0.mk (blk_below (g := gb153) (o := .cells #[.int .i64 a0_0, .int .i64 a0_1, .int .i64 a0_2] 56 (0, 0)) (by (with_reducible repeat (first | refine blk_drewN ?_ _ | refine blk_drew ?_ | refine blk_alloc ?_ _)); exact BK153.out) hb); have n1_ := Aside0.mk (below_step (by repeat (first | (with_reducible first | exact HB.out | apply below_alloc | apply pw_below_drewN | apply below_drew1 | refine below_set ?_ GE153.out) | exact HB.out)) hb); have n2_ := Aside0.mk (hbox); have n3_ := Aside0.mk ((by rw [hg]; exact (below_size (by repeat (first | (with_reducible first | exact HB.out | apply below_alloc | apply pw_below_drewN | apply below_drew1 | refine below_set ?_ GE153.out) | exact HB.out))) : w.heap.size ≤ gb154)); have n4_ := Aside0.mk ((by rw [hg]; exact (below_size (by repeat (first | (with_reducible first | exact HB.out | apply below_alloc | apply pw_below_drewN | apply below_drew1 | refine below_set ?_ GE153.out) | exact HB.out))) : w.heap.size ≤ gb154)); have n5_ := Aside0.mk ((by rw [hg]; exact Nat.ne_of_lt (blk_lt (g := gb153) (o := .cells #[.int .i64 a0_0, .int .i64 a0_1, .int .i64 a0_2] 56 (0, 0)) (by (with_reducible repeat (first | refine blk_drewN ?_ _ | refine blk_drew ?_ | refine blk_alloc ?_ _)); exact BK153.out)) : gb153 ≠ gb154)); have n6_ := Aside0.mk ((by rw [hg]; exact Nat.ne_of_gt (blk_lt (g := gb153) (o := .cells #[.int .i64 a0_0, .int .i64 a0_1, .int .i64 a0_2] 56 (0, 0)) (by (with_reducible repeat (first | refine blk_drewN ?_ _ | refine blk_drew ?_ | refine blk_alloc ?_ _)); exact BK153.out)) : gb154 ≠ gb153)); clear BK153; clear HB; have BK153 := n0_; have HB := n1_; have BK154 := n2_; have GW154 := n3_; have GE154 := n4_; have NB153_154 := n5_; have NB154_153 := n6_; clear n0_ n1_ n2_ n3_ n4_ n5_ n6_; clear hb hbox hg; have hnb10 := NB153_154.out; have hnc10 := NB154_153.out; have hcz11_0 : w9.cell? ⟨gb153, 0, none⟩ = some (.int .i64 a0_0) := (blk_cell BK153.out 0).trans rfl; have hcz11_1 : w9.cell? ⟨gb153, 1, none⟩ = some (.int .i64 a0_1) := (blk_cell BK153.out 1).trans rfl; have hcz11_2 : w9.cell? ⟨gb153, 2, none⟩ = some (.int .i64 a0_2) := (blk_cell BK153.out 2).trans rfl; have hfz11_0 := blk_frozen BK153.out 0; have hfz11_1 := blk_frozen BK153.out 1; have hfz11_2 := blk_frozen BK153.out 2; have hcz12_0 : w9.cell? ⟨gb154, 0, none⟩ = some (.int .i64 0) := (blk_cell BK154.out 0).trans rfl; have hcz12_1 : w9.cell? ⟨gb154, 1, none⟩ = some (.int .i64 0) := (blk_cell BK154.out 1).trans rfl; have hcz12_2 : w9.cell? ⟨gb154, 2, none⟩ = some (.int .i64 0) := (blk_cell BK154.out 2).trans rfl; have hfz12_0 := blk_frozen BK154.out 0; have hfz12_1 := blk_frozen BK154.out 1; have hfz12_2 := blk_frozen BK154.out 2))
    refine bodyPost_ret (results_cell_row rfl _ _ gb154 56 #[.int .i64 a0_0, .int .i64 a0_1, .int .i64 (wrap64 (a0_2 + a0_0))] (0, 0) _ rfl (by (with_reducible repeat (first | refine blk_drewN ?_ _ | refine blk_drew ?_ | refine blk_alloc ?_ _)); refine blk_put (cs := #[.int .i64 a0_0, .int .i64 a0_1, .int .i64 0]) ?_ 2 _ rfl; (with_reducible repeat (first | refine blk_drewN ?_ _ | refine blk_drew ?_ | refine blk_alloc ?_ _)); refine blk_put (cs := #[.int .i64 a0_0, .int .i64 0, .int .i64 0]) ?_ 1 _ rfl; (with_reducible repeat (first | refine blk_drewN ?_ _ | refine blk_drew ?_ | refine blk_alloc ?_ _)); refine blk_put (cs := #[.int .i64 0, .int .i64 0, .int .i64 0]) ?_ 0 _ rfl; (with_reducible repeat (first | refine blk_drewN ?_ _ | refine blk_drew ?_ | refine blk_alloc ?_ _)); refine blk_far ?_ NB154_153.out _; (with_reducible repeat (first | refine blk_drewN ?_ _ | refine blk_drew ?_ | refine blk_alloc ?_ _)); exact BK154.out) Try.underlying56 rfl (by kernel_rfl)) rfl ?_
    exact ⟨by first | rfl | (simp [errW_none, errW_some] <;> rfl) | (simp [*, errW_none, errW_some] <;> rfl), by repeat (first | (with_reducible first | exact HB.out | apply below_alloc | apply pw_below_drewN | apply below_drew1 | refine below_set ?_ GE153.out | refine below_set ?_ GE154.out) | exact HB.out)⟩

end Go.Proofs.Ytidjnpfpbbffjaa.PBucketPlays
