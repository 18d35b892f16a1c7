-- Printed by a program of this session, a changed copy of the print
import Derived.Test.YtidjnpfpbbffjaaPBucketPlaysx0
import Derived.Test.YtidjnpfpbbffjaaPBucketPlaysx1
namespace Go.Proofs.Ytidjnpfpbbffjaa.PBucketPlays
open Go.RowKit Go.Proofs.YtidjnpfpbbffjaaW.PrintWords Go.Proofs.YtidjnpfpbbffjaaW.PrintLast Go.Proofs.YtidjnpfpbbffjaaW.PrintMore
attribute [local go_sem] max2_int min2_int max_two min_two max_three min_three max_four min_four   -- for this text's walks alone
set_option linter.unusedVariables false
set_option linter.unusedSimpArgs false

/-! ### joustref08_Ticks: function 29 -/
def joustref08_Ticks.l0 : Nat → Int → Int → Int → Int → Int → Option (Int × Int × Int)
  | 0, _, _, _, _, _ => none
  | k + 1, x1, x5, x156000, x156001, x156002 => if x5 < x1 then (if x156000 > 0 then (if x156002 < x156001 then ((joustref08_Tick.f x156000 x156001 x156002).bind fun bt157 => (joustref08_Ticks.l0 k x1 (IntKind.u64.wrap (x5 + 1)) bt157.1 bt157.2.1 bt157.2.2)) else (some (x156000, x156001, x156002))) else (some (x156000, x156001, x156002))) else (some (x156000, x156001, x156002))
def joustref08_Ticks.f (k : Nat) (a0_0 : Int) (a0_1 : Int) (a0_2 : Int) (a1 : Int) : Option (Int × Int × Int) := joustref08_Ticks.l0 k a1 0 a0_0 a0_1 a0_2
theorem joustref08_Ticks.mono_l : ∀ k, (∀ y0 y1 y2 y3 y4, LeO (joustref08_Ticks.l0 k y0 y1 y2 y3 y4) (joustref08_Ticks.l0 (k + 1) y0 y1 y2 y3 y4))
  | 0 => fun _ _ _ _ _ r h => by simp [joustref08_Ticks.l0] at h
  | k + 1 => by
    have ih0 := joustref08_Ticks.mono_l k
    · intro y0 y1 y2 y3 y4
      unfold joustref08_Ticks.l0
      repeat' first
      | (with_reducible exact ih0 _ _ _ _ _)
      | (with_reducible exact LeO.refl _)
      | (with_reducible exact LeO.none _)
      | (with_reducible refine LeO.ite ?_ ?_)
      | (with_reducible refine LeO.bind ?_ (fun _ => ?_))
      | exact ih0 _ _ _ _ _
      | exact LeO.none _
      | refine LeO.ite ?_ ?_
      | refine LeO.bind ?_ (fun _ => ?_)
theorem joustref08_Ticks.mono : ∀ a0 a1 a2 a3 k, LeO (joustref08_Ticks.f k a0 a1 a2 a3) (joustref08_Ticks.f (k + 1) a0 a1 a2 a3) := by
  intro a0 a1 a2 a3 k
  have ih0 := joustref08_Ticks.mono_l k
  unfold joustref08_Ticks.f
  repeat' first
      | (with_reducible exact ih0 _ _ _ _ _)
      | (with_reducible exact LeO.refl _)
      | (with_reducible exact LeO.none _)
      | (with_reducible refine LeO.ite ?_ ?_)
      | (with_reducible refine LeO.bind ?_ (fun _ => ?_))
      | exact ih0 _ _ _ _ _
      | exact LeO.none _
      | refine LeO.ite ?_ ?_
      | refine LeO.bind ?_ (fun _ => ?_)
set_option maxHeartbeats 8000000 in
set_option maxRecDepth 100000 in
theorem joustref08_Ticks.calls (k : Nat) (a0_0 : Int) (a0_1 : Int) (a0_2 : Int) (a1 : Int) (r1 : Int) (r2 : Int) (r3 : Int) (w : World) (h : joustref08_Ticks.f k a0_0 a0_1 a0_2 a1 = some (r1, r2, r3)) :
    Calls Try.prog 29 #[.agg #[.int .i64 a0_0, .int .i64 a0_1, .int .i64 a0_2], .int .u64 a1] w fun e w' => e = .returned (.agg #[.int .i64 r1, .int .i64 r2, .int .i64 r3]) ∧ Below w.heap.size w w' := by
  have hu56 := Try.underlying56
  have HB := Aside0.mk (Below.refl w.heap.size w)
  have H : (joustref08_Ticks.l0 k a1 0 a0_0 a0_1 a0_2) = some (r1, r2, r3) := h
  clear h
  have H' := Aside0.mk H
  clear H
  go_enter Try.func29, Try.ntmps29
  go_wp2_with (first | ((with_reducible refine gate_dst (N := 2) rfl ?_); refine box_event ?hg (N := 2) ?hd (cs := #[.int .i64 a0_0, .int .i64 a0_1, .int .i64 a0_2]) (t := 56) ?hr ?_; (case hd => rfl); (case hg => rfl); (case hr => first | (go_simp; done) | (go_simp; rfl)); intro gb155 hg w3 hbox hb; have n0_ := Aside0.mk (below_step (by repeat (first | (with_reducible first | exact HB.out | apply below_alloc | apply pw_below_drewN | apply below_drew1) | exact HB.out)) hb); have n1_ := Aside0.mk (hbox); have n2_ := Aside0.mk ((by rw [hg]; exact (below_size (by repeat (first | (with_reducible first | exact HB.out | apply below_alloc | apply pw_below_drewN | apply below_drew1) | exact HB.out))) : w.heap.size ≤ gb155)); have n3_ := Aside0.mk ((by rw [hg]; exact (below_size (by repeat (first | (with_reducible first | exact HB.out | apply below_alloc | apply pw_below_drewN | apply below_drew1) | exact HB.out))) : w.heap.size ≤ gb155)); clear HB; have HB := n0_; have BK155 := n1_; have GW155 := n2_; have GE155 := n3_; clear n0_ n1_ n2_ n3_; clear hb hbox hg) | ((with_reducible refine gate_dst (N := 4) rfl ?_); refine box_event ?hg (N := 4) ?hd (cs := #[.int .i64 0, .int .i64 0, .int .i64 0]) (t := 56) ?hr ?_; (case hd => rfl); (case hg => rfl); (case hr => first | (go_simp; done) | (go_simp; rfl)); intro gb156 hg w4 hbox hb; have n0_ := Aside0.mk (blk_below (g := gb155) (o := .cells #[.int .i64 a0_0, .int .i64 a0_1, .int .i64 a0_2] 56 (0, 0)) (by (with_reducible repeat (first | refine blk_drewN ?_ _ | refine blk_drew ?_ | refine blk_alloc ?_ _)); exact BK155.out) hb); have n1_ := Aside0.mk (below_step (by repeat (first | (with_reducible first | exact HB.out | apply below_alloc | apply pw_below_drewN | apply below_drew1 | refine below_set ?_ GE155.out) | exact HB.out)) hb); have n2_ := Aside0.mk (hbox); have n3_ := Aside0.mk ((by rw [hg]; exact (below_size (by repeat (first | (with_reducible first | exact HB.out | apply below_alloc | apply pw_below_drewN | apply below_drew1 | refine below_set ?_ GE155.out) | exact HB.out))) : w.heap.size ≤ gb156)); have n4_ := Aside0.mk ((by rw [hg]; exact (below_size (by repeat (first | (with_reducible first | exact HB.out | apply below_alloc | apply pw_below_drewN | apply below_drew1 | refine below_set ?_ GE155.out) | exact HB.out))) : w.heap.size ≤ gb156)); have n5_ := Aside0.mk ((by rw [hg]; exact Nat.ne_of_lt (blk_lt (g := gb155) (o := .cells #[.int .i64 a0_0, .int .i64 a0_1, .int .i64 a0_2] 56 (0, 0)) (by (with_reducible repeat (first | refine blk_drewN ?_ _ | refine blk_drew ?_ | refine blk_alloc ?_ _)); exact BK155.out)) : gb155 ≠ gb156)); have n6_ := Aside0.mk ((by rw [hg]; exact Nat.ne_of_gt (blk_lt (g := gb155) (o := .cells #[.int .i64 a0_0, .int .i64 a0_1, .int .i64 a0_2] 56 (0, 0)) (by (with_reducible repeat (first | refine blk_drewN ?_ _ | refine blk_drew ?_ | refine blk_alloc ?_ _)); exact BK155.out)) : gb156 ≠ gb155)); clear BK155; clear HB; have BK155 := n0_; have HB := n1_; have BK156 := n2_; have GW156 := n3_; have GE156 := n4_; have NB155_156 := n5_; have NB156_155 := n6_; clear n0_ n1_ n2_ n3_ n4_ n5_ n6_; clear hb hbox hg))
  go_loopg [5] k (fun kq v5 w' => ∃ (x5_1 : Int) (x156000_1 : Int) (x156001_1 : Int) (x156002_1 : Int), v5 = .int .u64 x5_1 ∧ Aside0 (joustref08_Ticks.l0 kq a1 x5_1 x156000_1 x156001_1 x156002_1 = some (r1, r2, r3)) ∧ Aside0 (kq ≤ k) ∧ Aside0 (w'.heap[gb155]? = some (.cells #[.int .i64 x156000_1, .int .i64 x156001_1, .int .i64 x156002_1] 56 (0, 0))) ∧ Aside0 (w'.heap[gb156]? = some (.cells #[.int .i64 0, .int .i64 0, .int .i64 0] 56 (0, 0))) ∧ Aside0 (Below w.heap.size w w'))
  case atStart => exact ⟨(0), (a0_0), (a0_1), (a0_2), (by first | rfl | (simp; done) | (simp [*]; done)), H', ⟨Nat.le_refl _⟩, ⟨by (with_reducible repeat (first | refine blk_drewN ?_ _ | refine blk_drew ?_ | refine blk_alloc ?_ _)); exact BK155.out⟩, ⟨by (with_reducible repeat (first | refine blk_drewN ?_ _ | refine blk_drew ?_ | refine blk_alloc ?_ _)); exact BK156.out⟩, ⟨by repeat (first | (with_reducible first | exact HB.out | apply below_alloc | apply pw_below_drewN | apply below_drew1 | refine below_set ?_ GE155.out | refine below_set ?_ GE156.out) | exact HB.out)⟩⟩
  case round =>
    clear H'
    try clear c2
    try clear p2
    obtain ⟨x5_1, x156000_1, x156001_1, x156002_1, rfl, HA, HK1, BK155, BK156, HB⟩ := hrel
    cases gk with
    | zero => exact absurd HA.out (by simp [joustref08_Ticks.l0])
    | succ k1 =>
      have H := HA.out
      clear HA
      simp only [joustref08_Ticks.l0] at H
      by_cases c5 : x5_1 < a1
      · rw [if_pos c5] at H
        have c5b0 : decide (x5_1 < a1) = true := decide_eq_true c5
        clear c5
        by_cases c6 : x156000_1 > 0
        · rw [if_pos c6] at H
          have c6b0 : decide (0 < x156000_1) = true := decide_eq_true c6
          clear c6
          by_cases c7 : x156002_1 < x156001_1
          · rw [if_pos c7] at H
            have c7b0 : decide (x156002_1 < x156001_1) = true := decide_eq_true c7
            clear c7
            replace H := Option.bind_eq_some_iff.mp H
            obtain ⟨⟨t157, t158, t159⟩, A80, H⟩ := H
            replace H : (joustref08_Ticks.l0 k1 a1 (IntKind.u64.wrap (x5_1 + 1)) t157 t158 t159) = some (r1, r2, r3) := H
            have A8 := Aside0.mk A80
            clear A80
            have H' := Aside0.mk H
            clear H
            have hnb9 := NB155_156.out
            have hnc9 := NB156_155.out
            have hcz10_0 : wr.cell? ⟨gb155, 0, none⟩ = some (.int .i64 x156000_1) := (blk_cell BK155.out 0).trans rfl
            have hcz10_1 : wr.cell? ⟨gb155, 1, none⟩ = some (.int .i64 x156001_1) := (blk_cell BK155.out 1).trans rfl
            have hcz10_2 : wr.cell? ⟨gb155, 2, none⟩ = some (.int .i64 x156002_1) := (blk_cell BK155.out 2).trans rfl
            have hfz10_0 := blk_frozen BK155.out 0
            have hfz10_1 := blk_frozen BK155.out 1
            have hfz10_2 := blk_frozen BK155.out 2
            go_wp2_with (first | ((with_reducible refine gate_callee (f := 27) rfl ?_); refine goesL_ (some 24) rfl rfl Try.func27 (by kernel_rfl) rfl #[.agg #[.int .i64 x156000_1, .int .i64 x156001_1, .int .i64 x156002_1]] rfl (by (try simp only [List.map_toArray, List.map_cons, List.map_nil]); first | done | rfl | (simp only [List.length_drop, List.length_take]; rfl)) ?_; (with_reducible refine (joustref08_Tick.calls x156000_1 x156001_1 x156002_1 t157 t158 t159 _ A8.out).mono ?_); rintro e w11 ⟨rfl, hb⟩; refine ⟨_, rfl, ?_⟩; have n0_ := Aside0.mk (blk_below (g := gb155) (o := .cells #[.int .i64 x156000_1, .int .i64 x156001_1, .int .i64 x156002_1] 56 (0, 0)) (by (with_reducible repeat (first | refine blk_drewN ?_ _ | refine blk_drew ?_ | refine blk_alloc ?_ _)); exact BK155.out) hb); have n1_ := Aside0.mk (blk_below (g := gb156) (o := .cells #[.int .i64 0, .int .i64 0, .int .i64 0] 56 (0, 0)) (by (with_reducible repeat (first | refine blk_drewN ?_ _ | refine blk_drew ?_ | refine blk_alloc ?_ _)); exact BK156.out) hb); have n2_ := Aside0.mk (below_step (by repeat (first | (with_reducible first | exact HB.out | apply below_alloc | apply pw_below_drewN | apply below_drew1 | refine below_set ?_ GE155.out | refine below_set ?_ GE156.out) | exact HB.out)) hb); clear BK155; clear BK156; clear HB; have BK155 := n0_; have BK156 := n1_; have HB := n2_; clear n0_ n1_ n2_; (try clear hb); (try clear hb2); (try clear hk); (try clear hi); have hcz12_0 : w11.cell? ⟨gb155, 0, none⟩ = some (.int .i64 x156000_1) := (blk_cell BK155.out 0).trans rfl; have hcz12_1 : w11.cell? ⟨gb155, 1, none⟩ = some (.int .i64 x156001_1) := (blk_cell BK155.out 1).trans rfl; have hcz12_2 : w11.cell? ⟨gb155, 2, none⟩ = some (.int .i64 x156002_1) := (blk_cell BK155.out 2).trans rfl; have hfz12_0 := blk_frozen BK155.out 0; have hfz12_1 := blk_frozen BK155.out 1; have hfz12_2 := blk_frozen BK155.out 2))
            go_roundg k1
            case measure => have := HK1.out; omega
            case rel => exact ⟨(IntKind.u64.wrap (x5_1 + 1)), (t157), (t158), (t159), (by first | rfl | (simp; done) | (simp [*]; done)), H', ⟨by have := HK1.out; omega⟩, ⟨by (with_reducible repeat (first | refine blk_drewN ?_ _ | refine blk_drew ?_ | refine blk_alloc ?_ _)); refine blk_put (cs := #[.int .i64 t157, .int .i64 t158, .int .i64 x156002_1]) ?_ 2 _ rfl; (with_reducible repeat (first | refine blk_drewN ?_ _ | refine blk_drew ?_ | refine blk_alloc ?_ _)); refine blk_put (cs := #[.int .i64 t157, .int .i64 x156001_1, .int .i64 x156002_1]) ?_ 1 _ rfl; (with_reducible repeat (first | refine blk_drewN ?_ _ | refine blk_drew ?_ | refine blk_alloc ?_ _)); refine blk_put (cs := #[.int .i64 x156000_1, .int .i64 x156001_1, .int .i64 x156002_1]) ?_ 0 _ rfl; (with_reducible repeat (first | refine blk_drewN ?_ _ | refine blk_drew ?_ | refine blk_alloc ?_ _)); exact BK155.out⟩, ⟨by (with_reducible repeat (first | refine blk_drewN ?_ _ | refine blk_drew ?_ | refine blk_alloc ?_ _)); refine blk_far ?_ NB156_155.out _; (with_reducible repeat (first | refine blk_drewN ?_ _ | refine blk_drew ?_ | refine blk_alloc ?_ _)); refine blk_far ?_ NB156_155.out _; (with_reducible repeat (first | refine blk_drewN ?_ _ | refine blk_drew ?_ | refine blk_alloc ?_ _)); refine blk_far ?_ NB156_155.out _; (with_reducible repeat (first | refine blk_drewN ?_ _ | refine blk_drew ?_ | refine blk_alloc ?_ _)); exact BK156.out⟩, ⟨by repeat (first | (with_reducible first | exact HB.out | apply below_alloc | apply pw_below_drewN | apply below_drew1 | refine below_set ?_ GE155.out | refine below_set ?_ GE156.out) | exact HB.out)⟩⟩
          · rw [if_neg c7] at H
            have c7b0 : decide (x156002_1 < x156001_1) = false := decide_eq_false c7
            clear c7
            simp only [Option.some.injEq, Prod.mk.injEq] at H
            obtain ⟨rfl, rfl, rfl⟩ := H
            have hnb13 := NB155_156.out
            have hnc13 := NB156_155.out
            have hcz14_0 : wr.cell? ⟨gb155, 0, none⟩ = some (.int .i64 x156000_1) := (blk_cell BK155.out 0).trans rfl
            have hcz14_1 : wr.cell? ⟨gb155, 1, none⟩ = some (.int .i64 x156001_1) := (blk_cell BK155.out 1).trans rfl
            have hcz14_2 : wr.cell? ⟨gb155, 2, none⟩ = some (.int .i64 x156002_1) := (blk_cell BK155.out 2).trans rfl
            have hfz14_0 := blk_frozen BK155.out 0
            have hfz14_1 := blk_frozen BK155.out 1
            have hfz14_2 := blk_frozen BK155.out 2
            have hcz15_0 : wr.cell? ⟨gb156, 0, none⟩ = some (.int .i64 0) := (blk_cell BK156.out 0).trans rfl
            have hcz15_1 : wr.cell? ⟨gb156, 1, none⟩ = some (.int .i64 0) := (blk_cell BK156.out 1).trans rfl
            have hcz15_2 : wr.cell? ⟨gb156, 2, none⟩ = some (.int .i64 0) := (blk_cell BK156.out 2).trans rfl
            have hfz15_0 := blk_frozen BK156.out 0
            have hfz15_1 := blk_frozen BK156.out 1
            have hfz15_2 := blk_frozen BK156.out 2
            go_wp2
            refine bodyPost_ret (results_cell_row rfl _ _ gb156 56 #[.int .i64 x156000_1, .int .i64 x156001_1, .int .i64 x156002_1] (0, 0) _ rfl (by (with_reducible repeat (first | refine blk_drewN ?_ _ | refine blk_drew ?_ | refine blk_alloc ?_ _)); refine blk_put (cs := #[.int .i64 x156000_1, .int .i64 x156001_1, .int .i64 0]) ?_ 2 _ rfl; (with_reducible repeat (first | refine blk_drewN ?_ _ | refine blk_drew ?_ | refine blk_alloc ?_ _)); refine blk_put (cs := #[.int .i64 x156000_1, .int .i64 0, .int .i64 0]) ?_ 1 _ rfl; (with_reducible repeat (first | refine blk_drewN ?_ _ | refine blk_drew ?_ | refine blk_alloc ?_ _)); refine blk_put (cs := #[.int .i64 0, .int .i64 0, .int .i64 0]) ?_ 0 _ rfl; (with_reducible repeat (first | refine blk_drewN ?_ _ | refine blk_drew ?_ | refine blk_alloc ?_ _)); exact BK156.out) Try.underlying56 rfl (by kernel_rfl)) rfl ?_
            exact ⟨by first | rfl | (simp [errW_none, errW_some] <;> rfl) | (simp [*, errW_none, errW_some] <;> rfl), by repeat (first | (with_reducible first | exact HB.out | apply below_alloc | apply pw_below_drewN | apply below_drew1 | refine below_set ?_ GE155.out | refine below_set ?_ GE156.out) | exact HB.out)⟩
        · rw [if_neg c6] at H
          have c6b0 : decide (0 < x156000_1) = false := decide_eq_false c6
          clear c6
          simp only [Option.some.injEq, Prod.mk.injEq] at H
          obtain ⟨rfl, rfl, rfl⟩ := H
          have hnb16 := NB155_156.out
          have hnc16 := NB156_155.out
          have hcz17_0 : wr.cell? ⟨gb155, 0, none⟩ = some (.int .i64 x156000_1) := (blk_cell BK155.out 0).trans rfl
          have hcz17_1 : wr.cell? ⟨gb155, 1, none⟩ = some (.int .i64 x156001_1) := (blk_cell BK155.out 1).trans rfl
          have hcz17_2 : wr.cell? ⟨gb155, 2, none⟩ = some (.int .i64 x156002_1) := (blk_cell BK155.out 2).trans rfl
          have hfz17_0 := blk_frozen BK155.out 0
          have hfz17_1 := blk_frozen BK155.out 1
          have hfz17_2 := blk_frozen BK155.out 2
          have hcz18_0 : wr.cell? ⟨gb156, 0, none⟩ = some (.int .i64 0) := (blk_cell BK156.out 0).trans rfl
          have hcz18_1 : wr.cell? ⟨gb156, 1, none⟩ = some (.int .i64 0) := (blk_cell BK156.out 1).trans rfl
          have hcz18_2 : wr.cell? ⟨gb156, 2, none⟩ = some (.int .i64 0) := (blk_cell BK156.out 2).trans rfl
          have hfz18_0 := blk_frozen BK156.out 0
          have hfz18_1 := blk_frozen BK156.out 1
          have hfz18_2 := blk_frozen BK156.out 2
          go_wp2
          refine bodyPost_ret (results_cell_row rfl _ _ gb156 56 #[.int .i64 x156000_1, .int .i64 x156001_1, .int .i64 x156002_1] (0, 0) _ rfl (by (with_reducible repeat (first | refine blk_drewN ?_ _ | refine blk_drew ?_ | refine blk_alloc ?_ _)); refine blk_put (cs := #[.int .i64 x156000_1, .int .i64 x156001_1, .int .i64 0]) ?_ 2 _ rfl; (with_reducible repeat (first | refine blk_drewN ?_ _ | refine blk_drew ?_ | refine blk_alloc ?_ _)); refine blk_put (cs := #[.int .i64 x156000_1, .int .i64 0, .int .i64 0]) ?_ 1 _ rfl; (with_reducible repeat (first | refine blk_drewN ?_ _ | refine blk_drew ?_ | refine blk_alloc ?_ _)); refine blk_put (cs := #[.int .i64 0, .int .i64 0, .int .i64 0]) ?_ 0 _ rfl; (with_reducible repeat (first | refine blk_drewN ?_ _ | refine blk_drew ?_ | refine blk_alloc ?_ _)); exact BK156.out) Try.underlying56 rfl (by kernel_rfl)) rfl ?_
          exact ⟨by first | rfl | (simp [errW_none, errW_some] <;> rfl) | (simp [*, errW_none, errW_some] <;> rfl), by repeat (first | (with_reducible first | exact HB.out | apply below_alloc | apply pw_below_drewN | apply below_drew1 | refine below_set ?_ GE155.out | refine below_set ?_ GE156.out) | exact HB.out)⟩
      · rw [if_neg c5] at H
        have c5b0 : decide (x5_1 < a1) = false := decide_eq_false c5
        clear c5
        simp only [Option.some.injEq, Prod.mk.injEq] at H
        obtain ⟨rfl, rfl, rfl⟩ := H
        have hnb19 := NB155_156.out
        have hnc19 := NB156_155.out
        have hcz20_0 : wr.cell? ⟨gb155, 0, none⟩ = some (.int .i64 x156000_1) := (blk_cell BK155.out 0).trans rfl
        have hcz20_1 : wr.cell? ⟨gb155, 1, none⟩ = some (.int .i64 x156001_1) := (blk_cell BK155.out 1).trans rfl
        have hcz20_2 : wr.cell? ⟨gb155, 2, none⟩ = some (.int .i64 x156002_1) := (blk_cell BK155.out 2).trans rfl
        have hfz20_0 := blk_frozen BK155.out 0
        have hfz20_1 := blk_frozen BK155.out 1
        have hfz20_2 := blk_frozen BK155.out 2
        have hcz21_0 : wr.cell? ⟨gb156, 0, none⟩ = some (.int .i64 0) := (blk_cell BK156.out 0).trans rfl
        have hcz21_1 : wr.cell? ⟨gb156, 1, none⟩ = some (.int .i64 0) := (blk_cell BK156.out 1).trans rfl
        have hcz21_2 : wr.cell? ⟨gb156, 2, none⟩ = some (.int .i64 0) := (blk_cell BK156.out 2).trans rfl
        have hfz21_0 := blk_frozen BK156.out 0
        have hfz21_1 := blk_frozen BK156.out 1
        have hfz21_2 := blk_frozen BK156.out 2
        go_wp2
        refine bodyPost_ret (results_cell_row rfl _ _ gb156 56 #[.int .i64 x156000_1, .int .i64 x156001_1, .int .i64 x156002_1] (0, 0) _ rfl (by (with_reducible repeat (first | refine blk_drewN ?_ _ | refine blk_drew ?_ | refine blk_alloc ?_ _)); refine blk_put (cs := #[.int .i64 x156000_1, .int .i64 x156001_1, .int .i64 0]) ?_ 2 _ rfl; (with_reducible repeat (first | refine blk_drewN ?_ _ | refine blk_drew ?_ | refine blk_alloc ?_ _)); refine blk_put (cs := #[.int .i64 x156000_1, .int .i64 0, .int .i64 0]) ?_ 1 _ rfl; (with_reducible repeat (first | refine blk_drewN ?_ _ | refine blk_drew ?_ | refine blk_alloc ?_ _)); refine blk_put (cs := #[.int .i64 0, .int .i64 0, .int .i64 0]) ?_ 0 _ rfl; (with_reducible repeat (first | refine blk_drewN ?_ _ | refine blk_drew ?_ | refine blk_alloc ?_ _)); exact BK156.out) Try.underlying56 rfl (by kernel_rfl)) rfl ?_
        exact ⟨by first | rfl | (simp [errW_none, errW_some] <;> rfl) | (simp [*, errW_none, errW_some] <;> rfl), by repeat (first | (with_reducible first | exact HB.out | apply below_alloc | apply pw_below_drewN | apply below_drew1 | refine below_set ?_ GE155.out | refine below_set ?_ GE156.out) | exact HB.out)⟩

/-! ### joustref08_Left: function 31 -/
def joustref08_Left.f (a0_0 : Int) (a0_1 : Int) (a0_2 : Int) : Option (Int) := some (wrap64 (Int.tdiv a0_2 16))
set_option maxHeartbeats 8000000 in
set_option maxRecDepth 100000 in
theorem joustref08_Left.calls (a0_0 : Int) (a0_1 : Int) (a0_2 : Int) (r : Int) (w : World) (h : joustref08_Left.f a0_0 a0_1 a0_2 = some r) :
    Calls Try.prog 31 #[.agg #[.int .i64 a0_0, .int .i64 a0_1, .int .i64 a0_2]] w fun e w' => e = .returned (.int .i64 r) ∧ Below w.heap.size w w' := by
  have hu56 := Try.underlying56
  have HB := Aside0.mk (Below.refl w.heap.size w)
  have H : (some (wrap64 (Int.tdiv a0_2 16))) = some r := h
  clear h
  obtain rfl := Option.some.inj H
  go_enter Try.func31, Try.ntmps31
  go_wp2_with (first | ((with_reducible refine gate_dst (N := 1) rfl ?_); refine box_event ?hg (N := 1) ?hd (cs := #[.int .i64 a0_0, .int .i64 a0_1, .int .i64 a0_2]) (t := 56) ?hr ?_; (case hd => rfl); (case hg => rfl); (case hr => first | (go_simp; done) | (go_simp; rfl)); intro gb160 hg w2 hbox hb; have n0_ := Aside0.mk (below_step (by repeat (first | (with_reducible first | exact HB.out | apply below_alloc | apply pw_below_drewN | apply below_drew1) | exact HB.out)) hb); have n1_ := Aside0.mk (hbox); have n2_ := Aside0.mk ((by rw [hg]; exact (below_size (by repeat (first | (with_reducible first | exact HB.out | apply below_alloc | apply pw_below_drewN | apply below_drew1) | exact HB.out))) : w.heap.size ≤ gb160)); have n3_ := Aside0.mk ((by rw [hg]; exact (below_size (by repeat (first | (with_reducible first | exact HB.out | apply below_alloc | apply pw_below_drewN | apply below_drew1) | exact HB.out))) : w.heap.size ≤ gb160)); clear HB; have HB := n0_; have BK160 := n1_; have GW160 := n2_; have GE160 := n3_; clear n0_ n1_ n2_ n3_; clear hb hbox hg; have hcz3_0 : w2.cell? ⟨gb160, 0, none⟩ = some (.int .i64 a0_0) := (blk_cell BK160.out 0).trans rfl; have hcz3_1 : w2.cell? ⟨gb160, 1, none⟩ = some (.int .i64 a0_1) := (blk_cell BK160.out 1).trans rfl; have hcz3_2 : w2.cell? ⟨gb160, 2, none⟩ = some (.int .i64 a0_2) := (blk_cell BK160.out 2).trans rfl; have hfz3_0 := blk_frozen BK160.out 0; have hfz3_1 := blk_frozen BK160.out 1; have hfz3_2 := blk_frozen BK160.out 2))
  go_ret
  exact ⟨by first | rfl | (simp [errW_none, errW_some] <;> rfl) | (simp [*, errW_none, errW_some] <;> rfl), by repeat (first | (with_reducible first | exact HB.out | apply below_alloc | apply pw_below_drewN | apply below_drew1 | refine below_set ?_ GE160.out) | exact HB.out)⟩

end Go.Proofs.Ytidjnpfpbbffjaa.PBucketPlays
