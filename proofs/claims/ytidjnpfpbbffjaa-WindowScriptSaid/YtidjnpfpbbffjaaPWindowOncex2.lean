-- Printed by a program of this session, a changed copy of the print
import Derived.Test.YtidjnpfpbbffjaaPWindowOncex0
import Derived.Test.YtidjnpfpbbffjaaPWindowOncex1
namespace Go.Proofs.Ytidjnpfpbbffjaa.PWindowOnce
open Go.RowKit Go.Proofs.YtidjnpfpbbffjaaW.PrintWords Go.Proofs.YtidjnpfpbbffjaaW.PrintLast Go.Proofs.YtidjnpfpbbffjaaW.PrintMore
attribute [local go_sem] max2_int min2_int max_two min_two max_three min_three max_four min_four   -- for this text's walks alone
set_option linter.unusedVariables false
set_option linter.unusedSimpArgs false

/-! ### joustlaw09_alive: function 11 -/
def joustlaw09_alive.j0 : Nat → Bool → Int → Int → Option (Bool)
  | 0, _, _, _ => none
  | k + 1, x32, x106000, x106001 => if x32 = true then (some false) else ((window_Window_High.f x106000 x106001).bind fun t124 => (if t124 = 3 then ((window_Window_Bits.f x106000 x106001).bind fun t125 => (if t125 = 5 then ((window_Window_Mark.f k x106000 x106001 67).bind fun bt126 => ((joustlaw09_num.f bt126.1).bind fun t129 => (if t129 = 0 then ((window_Window_Bits.f bt126.2.1 bt126.2.2).bind fun t130 => (if t130 = 1 then ((window_Window_Check.f k bt126.2.1 bt126.2.2 3).bind fun t131 => ((joustlaw09_num.f t131).bind fun t132 => (if t132 = 90 then ((window_Window_Mark.f k bt126.2.1 bt126.2.2 4).bind fun bt133 => ((joustlaw09_num.f bt133.1).bind fun t136 => (if t136 = 0 then ((window_Window_Bits.f bt133.2.1 bt133.2.2).bind fun t137 => (some (t137 == 9223372036854775809))) else (some false)))) else (some false)))) else (some false))) else (some false)))) else (some false))) else (some false)))
def joustlaw09_alive.f (k : Nat)  : Option (Bool) := (window_Window_Check.f k 0 0 0).bind fun t106 => ((joustlaw09_num.f t106).bind fun t107 => (if t107 = 90 then ((window_Window_Check.f k 0 0 64).bind fun t108 => ((joustlaw09_num.f t108).bind fun t109 => (if t109 = 0 then ((window_Window_Check.f k 0 0 65).bind fun t110 => ((joustlaw09_num.f t110).bind fun t111 => (if t111 = 92 then ((window_Window_Mark.f k 0 0 3).bind fun bt112 => ((joustlaw09_num.f bt112.1).bind fun t115 => (if t115 = 0 then ((window_Window_Mark.f k bt112.2.1 bt112.2.2 3).bind fun bt116 => ((joustlaw09_num.f bt116.1).bind fun t119 => (if t119 = 91 then ((window_Window_Mark.f k bt116.2.1 bt116.2.2 1).bind fun bt120 => ((joustlaw09_num.f bt120.1).bind fun t123 => (joustlaw09_alive.j0 k (t123 != 0) bt120.2.1 bt120.2.2))) else (joustlaw09_alive.j0 k true bt116.2.1 bt116.2.2)))) else (joustlaw09_alive.j0 k true bt112.2.1 bt112.2.2)))) else (joustlaw09_alive.j0 k true 0 0)))) else (joustlaw09_alive.j0 k true 0 0)))) else (joustlaw09_alive.j0 k true 0 0)))
theorem joustlaw09_alive.mono_l : ∀ k, (∀ y0 y1 y2, LeO (joustlaw09_alive.j0 k y0 y1 y2) (joustlaw09_alive.j0 (k + 1) y0 y1 y2))
  | 0 => fun _ _ _ r h => by simp [joustlaw09_alive.j0] at h
  | k + 1 => by
    have ih0 := joustlaw09_alive.mono_l k
    · intro y0 y1 y2
      unfold joustlaw09_alive.j0
      repeat' first
      | (with_reducible exact ih0 _ _ _)
      | (with_reducible exact window_Window_Check.mono _ _ _ _)
      | (with_reducible exact window_Window_Mark.mono _ _ _ _)
      | (with_reducible exact LeO.refl _)
      | (with_reducible exact LeO.none _)
      | (with_reducible refine LeO.ite ?_ ?_)
      | (with_reducible refine LeO.bind ?_ (fun _ => ?_))
      | exact ih0 _ _ _
      | exact window_Window_Check.mono _ _ _ _
      | exact window_Window_Mark.mono _ _ _ _
      | exact LeO.none _
      | refine LeO.ite ?_ ?_
      | refine LeO.bind ?_ (fun _ => ?_)
theorem joustlaw09_alive.mono : ∀ k, LeO (joustlaw09_alive.f k ) (joustlaw09_alive.f (k + 1) ) := by
  intro  k
  have ih0 := joustlaw09_alive.mono_l k
  unfold joustlaw09_alive.f
  repeat' first
      | (with_reducible exact ih0 _ _ _)
      | (with_reducible exact window_Window_Check.mono _ _ _ _)
      | (with_reducible exact window_Window_Mark.mono _ _ _ _)
      | (with_reducible exact LeO.refl _)
      | (with_reducible exact LeO.none _)
      | (with_reducible refine LeO.ite ?_ ?_)
      | (with_reducible refine LeO.bind ?_ (fun _ => ?_))
      | exact ih0 _ _ _
      | exact window_Window_Check.mono _ _ _ _
      | exact window_Window_Mark.mono _ _ _ _
      | exact LeO.none _
      | refine LeO.ite ?_ ?_
      | refine LeO.bind ?_ (fun _ => ?_)
set_option maxHeartbeats 8000000 in
set_option maxRecDepth 100000 in
theorem joustlaw09_alive.calls (k : Nat)  (r : Bool) (w : World) (h : joustlaw09_alive.f k  = some r) :
    Calls Try.prog 11 #[] w fun e w' => e = .returned (.bool r) ∧ Below w.heap.size w w' := by
  have hu26 := Try.underlying26
  have HB := Aside0.mk (Below.refl w.heap.size w)
  have H : ((window_Window_Check.f k 0 0 0).bind fun t106 => ((joustlaw09_num.f t106).bind fun t107 => (if t107 = 90 then ((window_Window_Check.f k 0 0 64).bind fun t108 => ((joustlaw09_num.f t108).bind fun t109 => (if t109 = 0 then ((window_Window_Check.f k 0 0 65).bind fun t110 => ((joustlaw09_num.f t110).bind fun t111 => (if t111 = 92 then ((window_Window_Mark.f k 0 0 3).bind fun bt112 => ((joustlaw09_num.f bt112.1).bind fun t115 => (if t115 = 0 then ((window_Window_Mark.f k bt112.2.1 bt112.2.2 3).bind fun bt116 => ((joustlaw09_num.f bt116.1).bind fun t119 => (if t119 = 91 then ((window_Window_Mark.f k bt116.2.1 bt116.2.2 1).bind fun bt120 => ((joustlaw09_num.f bt120.1).bind fun t123 => (joustlaw09_alive.j0 k (t123 != 0) bt120.2.1 bt120.2.2))) else (joustlaw09_alive.j0 k true bt116.2.1 bt116.2.2)))) else (joustlaw09_alive.j0 k true bt112.2.1 bt112.2.2)))) else (joustlaw09_alive.j0 k true 0 0)))) else (joustlaw09_alive.j0 k true 0 0)))) else (joustlaw09_alive.j0 k true 0 0)))) = some r := h
  clear h
  have HC1 := Aside0.mk H
  clear H
  go_enter Try.func11, Try.ntmps11
  go_upto_region 2 with (first | ((with_reducible refine gate_dst (N := 1) rfl ?_); refine box_event ?hg (N := 1) ?hd (cs := #[.int .u64 0, .int .u64 0]) (t := 26) ?hr ?_; (case hd => rfl); (case hg => rfl); (case hr => first | (go_simp; done) | (go_simp; rfl)); intro gb105 hg w2 hbox hb; have n0_ := Aside0.mk (below_step (by repeat (first | (with_reducible first | exact HB.out | apply below_alloc | apply pw_below_drewN | apply below_drew1) | exact HB.out)) hb); have n1_ := Aside0.mk (hbox); have n2_ := Aside0.mk ((by rw [hg]; exact (below_size (by repeat (first | (with_reducible first | exact HB.out | apply below_alloc | apply pw_below_drewN | apply below_drew1) | exact HB.out))) : w.heap.size ≤ gb105)); have n3_ := Aside0.mk ((by rw [hg]; exact (below_size (by repeat (first | (with_reducible first | exact HB.out | apply below_alloc | apply pw_below_drewN | apply below_drew1) | exact HB.out))) : w.heap.size ≤ gb105)); clear HB; have HB := n0_; have BK105 := n1_; have GW105 := n2_; have GE105 := n3_; clear n0_ n1_ n2_ n3_; clear hb hbox hg))
  (try simp only [Act.put, List.setIfInBounds_toArray, List.set_cons_zero, List.set_cons_succ])
  go_cut [32] (fun v32 wc => ∃ (kq : Nat) (x32_0 : Bool) (x106000_0 : Int) (x106001_0 : Int), v32 = .bool x32_0 ∧ Aside0 (joustlaw09_alive.j0 kq x32_0 x106000_0 x106001_0 = some r) ∧ Aside0 (kq ≤ k) ∧ Aside0 (wc.heap[gb105]? = some (.cells #[.int .u64 x106000_0, .int .u64 x106001_0] 26 (0, 0))) ∧ Aside0 (Below w.heap.size w wc))
  case first =>
    have H := HC1.out
    clear HC1
    replace H := Option.bind_eq_some_iff.mp H
    obtain ⟨t106, A30, H⟩ := H
    replace H : ((joustlaw09_num.f t106).bind fun t107 => (if t107 = 90 then ((window_Window_Check.f k 0 0 64).bind fun t108 => ((joustlaw09_num.f t108).bind fun t109 => (if t109 = 0 then ((window_Window_Check.f k 0 0 65).bind fun t110 => ((joustlaw09_num.f t110).bind fun t111 => (if t111 = 92 then ((window_Window_Mark.f k 0 0 3).bind fun bt112 => ((joustlaw09_num.f bt112.1).bind fun t115 => (if t115 = 0 then ((window_Window_Mark.f k bt112.2.1 bt112.2.2 3).bind fun bt116 => ((joustlaw09_num.f bt116.1).bind fun t119 => (if t119 = 91 then ((window_Window_Mark.f k bt116.2.1 bt116.2.2 1).bind fun bt120 => ((joustlaw09_num.f bt120.1).bind fun t123 => (joustlaw09_alive.j0 k (t123 != 0) bt120.2.1 bt120.2.2))) else (joustlaw09_alive.j0 k true bt116.2.1 bt116.2.2)))) else (joustlaw09_alive.j0 k true bt112.2.1 bt112.2.2)))) else (joustlaw09_alive.j0 k true 0 0)))) else (joustlaw09_alive.j0 k true 0 0)))) else (joustlaw09_alive.j0 k true 0 0))) = some r := H
    have A3 := Aside0.mk A30
    clear A30
    replace H := Option.bind_eq_some_iff.mp H
    obtain ⟨t107, A40, H⟩ := H
    replace H : (if t107 = 90 then ((window_Window_Check.f k 0 0 64).bind fun t108 => ((joustlaw09_num.f t108).bind fun t109 => (if t109 = 0 then ((window_Window_Check.f k 0 0 65).bind fun t110 => ((joustlaw09_num.f t110).bind fun t111 => (if t111 = 92 then ((window_Window_Mark.f k 0 0 3).bind fun bt112 => ((joustlaw09_num.f bt112.1).bind fun t115 => (if t115 = 0 then ((window_Window_Mark.f k bt112.2.1 bt112.2.2 3).bind fun bt116 => ((joustlaw09_num.f bt116.1).bind fun t119 => (if t119 = 91 then ((window_Window_Mark.f k bt116.2.1 bt116.2.2 1).bind fun bt120 => ((joustlaw09_num.f bt120.1).bind fun t123 => (joustlaw09_alive.j0 k (t123 != 0) bt120.2.1 bt120.2.2))) else (joustlaw09_alive.j0 k true bt116.2.1 bt116.2.2)))) else (joustlaw09_alive.j0 k true bt112.2.1 bt112.2.2)))) else (joustlaw09_alive.j0 k true 0 0)))) else (joustlaw09_alive.j0 k true 0 0)))) else (joustlaw09_alive.j0 k true 0 0)) = some r := H
    have A4 := Aside0.mk A40
    clear A40
    by_cases c5 : t107 = 90
    · rw [if_pos c5] at H
      have c5b0 : (t107 == 90) = true := beq_iff_eq.mpr c5
      have c5b1 : (t107 != 90) = false := bne_eq_false_iff_eq.mpr c5
      clear c5
      (first | rw [c5b0] | (simp only [i64_w, i32_w]; rw [c5b0]) | skip)
      replace H := Option.bind_eq_some_iff.mp H
      obtain ⟨t108, A60, H⟩ := H
      replace H : ((joustlaw09_num.f t108).bind fun t109 => (if t109 = 0 then ((window_Window_Check.f k 0 0 65).bind fun t110 => ((joustlaw09_num.f t110).bind fun t111 => (if t111 = 92 then ((window_Window_Mark.f k 0 0 3).bind fun bt112 => ((joustlaw09_num.f bt112.1).bind fun t115 => (if t115 = 0 then ((window_Window_Mark.f k bt112.2.1 bt112.2.2 3).bind fun bt116 => ((joustlaw09_num.f bt116.1).bind fun t119 => (if t119 = 91 then ((window_Window_Mark.f k bt116.2.1 bt116.2.2 1).bind fun bt120 => ((joustlaw09_num.f bt120.1).bind fun t123 => (joustlaw09_alive.j0 k (t123 != 0) bt120.2.1 bt120.2.2))) else (joustlaw09_alive.j0 k true bt116.2.1 bt116.2.2)))) else (joustlaw09_alive.j0 k true bt112.2.1 bt112.2.2)))) else (joustlaw09_alive.j0 k true 0 0)))) else (joustlaw09_alive.j0 k true 0 0))) = some r := H
      have A6 := Aside0.mk A60
      clear A60
      replace H := Option.bind_eq_some_iff.mp H
      obtain ⟨t109, A70, H⟩ := H
      replace H : (if t109 = 0 then ((window_Window_Check.f k 0 0 65).bind fun t110 => ((joustlaw09_num.f t110).bind fun t111 => (if t111 = 92 then ((window_Window_Mark.f k 0 0 3).bind fun bt112 => ((joustlaw09_num.f bt112.1).bind fun t115 => (if t115 = 0 then ((window_Window_Mark.f k bt112.2.1 bt112.2.2 3).bind fun bt116 => ((joustlaw09_num.f bt116.1).bind fun t119 => (if t119 = 91 then ((window_Window_Mark.f k bt116.2.1 bt116.2.2 1).bind fun bt120 => ((joustlaw09_num.f bt120.1).bind fun t123 => (joustlaw09_alive.j0 k (t123 != 0) bt120.2.1 bt120.2.2))) else (joustlaw09_alive.j0 k true bt116.2.1 bt116.2.2)))) else (joustlaw09_alive.j0 k true bt112.2.1 bt112.2.2)))) else (joustlaw09_alive.j0 k true 0 0)))) else (joustlaw09_alive.j0 k true 0 0)) = some r := H
      have A7 := Aside0.mk A70
      clear A70
      by_cases c8 : t109 = 0
      · rw [if_pos c8] at H
        have c8b0 : (t109 == 0) = true := beq_iff_eq.mpr c8
        have c8b1 : (t109 != 0) = false := bne_eq_false_iff_eq.mpr c8
        clear c8
        replace H := Option.bind_eq_some_iff.mp H
        obtain ⟨t110, A90, H⟩ := H
        replace H : ((joustlaw09_num.f t110).bind fun t111 => (if t111 = 92 then ((window_Window_Mark.f k 0 0 3).bind fun bt112 => ((joustlaw09_num.f bt112.1).bind fun t115 => (if t115 = 0 then ((window_Window_Mark.f k bt112.2.1 bt112.2.2 3).bind fun bt116 => ((joustlaw09_num.f bt116.1).bind fun t119 => (if t119 = 91 then ((window_Window_Mark.f k bt116.2.1 bt116.2.2 1).bind fun bt120 => ((joustlaw09_num.f bt120.1).bind fun t123 => (joustlaw09_alive.j0 k (t123 != 0) bt120.2.1 bt120.2.2))) else (joustlaw09_alive.j0 k true bt116.2.1 bt116.2.2)))) else (joustlaw09_alive.j0 k true bt112.2.1 bt112.2.2)))) else (joustlaw09_alive.j0 k true 0 0))) = some r := H
        have A9 := Aside0.mk A90
        clear A90
        replace H := Option.bind_eq_some_iff.mp H
        obtain ⟨t111, A100, H⟩ := H
        replace H : (if t111 = 92 then ((window_Window_Mark.f k 0 0 3).bind fun bt112 => ((joustlaw09_num.f bt112.1).bind fun t115 => (if t115 = 0 then ((window_Window_Mark.f k bt112.2.1 bt112.2.2 3).bind fun bt116 => ((joustlaw09_num.f bt116.1).bind fun t119 => (if t119 = 91 then ((window_Window_Mark.f k bt116.2.1 bt116.2.2 1).bind fun bt120 => ((joustlaw09_num.f bt120.1).bind fun t123 => (joustlaw09_alive.j0 k (t123 != 0) bt120.2.1 bt120.2.2))) else (joustlaw09_alive.j0 k true bt116.2.1 bt116.2.2)))) else (joustlaw09_alive.j0 k true bt112.2.1 bt112.2.2)))) else (joustlaw09_alive.j0 k true 0 0)) = some r := H
        have A10 := Aside0.mk A100
        clear A100
        by_cases c11 : t111 = 92
        · rw [if_pos c11] at H
          have c11b0 : (t111 == 92) = true := beq_iff_eq.mpr c11
          have c11b1 : (t111 != 92) = false := bne_eq_false_iff_eq.mpr c11
          clear c11
          replace H := Option.bind_eq_some_iff.mp H
          obtain ⟨⟨t112, t113, t114⟩, A120, H⟩ := H
          replace H : ((joustlaw09_num.f t112).bind fun t115 => (if t115 = 0 then ((window_Window_Mark.f k t113 t114 3).bind fun bt116 => ((joustlaw09_num.f bt116.1).bind fun t119 => (if t119 = 91 then ((window_Window_Mark.f k bt116.2.1 bt116.2.2 1).bind fun bt120 => ((joustlaw09_num.f bt120.1).bind fun t123 => (joustlaw09_alive.j0 k (t123 != 0) bt120.2.1 bt120.2.2))) else (joustlaw09_alive.j0 k true bt116.2.1 bt116.2.2)))) else (joustlaw09_alive.j0 k true t113 t114))) = some r := H
          have A12 := Aside0.mk A120
          clear A120
          replace H := Option.bind_eq_some_iff.mp H
          obtain ⟨t115, A130, H⟩ := H
          replace H : (if t115 = 0 then ((window_Window_Mark.f k t113 t114 3).bind fun bt116 => ((joustlaw09_num.f bt116.1).bind fun t119 => (if t119 = 91 then ((window_Window_Mark.f k bt116.2.1 bt116.2.2 1).bind fun bt120 => ((joustlaw09_num.f bt120.1).bind fun t123 => (joustlaw09_alive.j0 k (t123 != 0) bt120.2.1 bt120.2.2))) else (joustlaw09_alive.j0 k true bt116.2.1 bt116.2.2)))) else (joustlaw09_alive.j0 k true t113 t114)) = some r := H
          have A13 := Aside0.mk A130
          clear A130
          by_cases c14 : t115 = 0
          · rw [if_pos c14] at H
            have c14b0 : (t115 == 0) = true := beq_iff_eq.mpr c14
            have c14b1 : (t115 != 0) = false := bne_eq_false_iff_eq.mpr c14
            clear c14
            replace H := Option.bind_eq_some_iff.mp H
            obtain ⟨⟨t116, t117, t118⟩, A150, H⟩ := H
            replace H : ((joustlaw09_num.f t116).bind fun t119 => (if t119 = 91 then ((window_Window_Mark.f k t117 t118 1).bind fun bt120 => ((joustlaw09_num.f bt120.1).bind fun t123 => (joustlaw09_alive.j0 k (t123 != 0) bt120.2.1 bt120.2.2))) else (joustlaw09_alive.j0 k true t117 t118))) = some r := H
            have A15 := Aside0.mk A150
            clear A150
            replace H := Option.bind_eq_some_iff.mp H
            obtain ⟨t119, A160, H⟩ := H
            replace H : (if t119 = 91 then ((window_Window_Mark.f k t117 t118 1).bind fun bt120 => ((joustlaw09_num.f bt120.1).bind fun t123 => (joustlaw09_alive.j0 k (t123 != 0) bt120.2.1 bt120.2.2))) else (joustlaw09_alive.j0 k true t117 t118)) = some r := H
            have A16 := Aside0.mk A160
            clear A160
            by_cases c17 : t119 = 91
            · rw [if_pos c17] at H
              have c17b0 : (t119 == 91) = true := beq_iff_eq.mpr c17
              have c17b1 : (t119 != 91) = false := bne_eq_false_iff_eq.mpr c17
              clear c17
              replace H := Option.bind_eq_some_iff.mp H
              obtain ⟨⟨t120, t121, t122⟩, A180, H⟩ := H
              replace H : ((joustlaw09_num.f t120).bind fun t123 => (joustlaw09_alive.j0 k (t123 != 0) t121 t122)) = some r := H
              have A18 := Aside0.mk A180
              clear A180
              replace H := Option.bind_eq_some_iff.mp H
              obtain ⟨t123, A190, H⟩ := H
              replace H : (joustlaw09_alive.j0 k (t123 != 0) t121 t122) = some r := H
              have A19 := Aside0.mk A190
              clear A190
              have H' := Aside0.mk H
              clear H
              have hcz20_0 : w2.cell? ⟨gb105, 0, none⟩ = some (.int .u64 0) := (blk_cell BK105.out 0).trans rfl
              have hcz20_1 : w2.cell? ⟨gb105, 1, none⟩ = some (.int .u64 0) := (blk_cell BK105.out 1).trans rfl
              have hfz20_0 := blk_frozen BK105.out 0
              have hfz20_1 := blk_frozen BK105.out 1
              go_wp2_with (first | ((with_reducible refine gate_callee (f := 13) rfl ?_); refine goesL_ (some 3) rfl rfl Try.func13 (by kernel_rfl) rfl #[.agg #[.int .u64 0, .int .u64 0], .int .u64 0] rfl (by (try simp only [List.map_toArray, List.map_cons, List.map_nil]); first | done | rfl | (simp only [List.length_drop, List.length_take]; rfl)) ?_; (with_reducible refine (window_Window_Check.calls k 0 0 0 t106 _ A3.out).mono ?_); rintro e w21 ⟨rfl, hb⟩; refine ⟨_, rfl, ?_⟩; have n0_ := Aside0.mk (blk_below (g := gb105) (o := .cells #[.int .u64 0, .int .u64 0] 26 (0, 0)) (by (with_reducible repeat (first | refine blk_drewN ?_ _ | refine blk_drew ?_ | refine blk_alloc ?_ _)); exact BK105.out) hb); have n1_ := Aside0.mk (below_step (by repeat (first | (with_reducible first | exact HB.out | apply below_alloc | apply pw_below_drewN | apply below_drew1 | refine below_set ?_ GE105.out) | exact HB.out)) hb); clear BK105; clear HB; have BK105 := n0_; have HB := n1_; clear n0_ n1_; (try clear hb); (try clear hb2); (try clear hk); (try clear hi)) | ((with_reducible refine gate_callee (f := 12) rfl ?_); refine goesL_ (some 4) rfl rfl Try.func12 (by kernel_rfl) rfl #[.int .i64 t106] rfl (by (try simp only [List.map_toArray, List.map_cons, List.map_nil]); first | done | rfl | (simp only [List.length_drop, List.length_take]; rfl)) ?_; (with_reducible refine (joustlaw09_num.calls t106 t107 _ A4.out).mono ?_); rintro e w' ⟨rfl, ⟨nd, rfl⟩⟩; refine ⟨_, rfl, ?_⟩; have hcz22_0 : w21.cell? ⟨gb105, 0, none⟩ = some (.int .u64 0) := (blk_cell BK105.out 0).trans rfl; have hcz22_1 : w21.cell? ⟨gb105, 1, none⟩ = some (.int .u64 0) := (blk_cell BK105.out 1).trans rfl; have hfz22_0 := blk_frozen BK105.out 0; have hfz22_1 := blk_frozen BK105.out 1) | (go_at_call 13; (with_reducible refine (window_Window_Check.calls k 0 0 64 t108 _ A6.out).mono ?_); rintro e w23 ⟨rfl, hb⟩; have n0_ := Aside0.mk (blk_below (g := gb105) (o := .cells #[.int .u64 0, .int .u64 0] 26 (0, 0)) (by (with_reducible repeat (first | refine blk_drewN ?_ _ | refine blk_drew ?_ | refine blk_alloc ?_ _)); exact BK105.out) hb); have n1_ := Aside0.mk (below_step (by repeat (first | (with_reducible first | exact HB.out | apply below_alloc | apply pw_below_drewN | apply below_drew1 | refine below_set ?_ GE105.out) | exact HB.out)) hb); clear BK105; clear HB; have BK105 := n0_; have HB := n1_; clear n0_ n1_; (try clear hb); (try clear hb2); (try clear hk); (try clear hi)) | (go_at_call 12; (with_reducible refine (joustlaw09_num.calls t108 t109 _ A7.out).mono ?_); rintro e w' ⟨rfl, ⟨nd, rfl⟩⟩; have hcz24_0 : w23.cell? ⟨gb105, 0, none⟩ = some (.int .u64 0) := (blk_cell BK105.out 0).trans rfl; have hcz24_1 : w23.cell? ⟨gb105, 1, none⟩ = some (.int .u64 0) := (blk_cell BK105.out 1).trans rfl; have hfz24_0 := blk_frozen BK105.out 0; have hfz24_1 := blk_frozen BK105.out 1) | (go_at_call 13; (with_reducible refine (window_Window_Check.calls k 0 0 65 t110 _ A9.out).mono ?_); rintro e w25 ⟨rfl, hb⟩; have n0_ := Aside0.mk (blk_below (g := gb105) (o := .cells #[.int .u64 0, .int .u64 0] 26 (0, 0)) (by (with_reducible repeat (first | refine blk_drewN ?_ _ | refine blk_drew ?_ | refine blk_alloc ?_ _)); exact BK105.out) hb); have n1_ := Aside0.mk (below_step (by repeat (first | (with_reducible first | exact HB.out | apply below_alloc | apply pw_below_drewN | apply below_drew1 | refine below_set ?_ GE105.out) | exact HB.out)) hb); clear BK105; clear HB; have BK105 := n0_; have HB := n1_; clear n0_ n1_; (try clear hb); (try clear hb2); (try clear hk); (try clear hi)) | (go_at_call 12; (with_reducible refine (joustlaw09_num.calls t110 t111 _ A10.out).mono ?_); rintro e w' ⟨rfl, ⟨nd, rfl⟩⟩) | (go_at_call 16; (with_reducible refine (window_Window_Mark.calls k gb105 0 0 3 t112 t113 t114 w _ ?side1 ?side2 A12.out).mono ?_); (case side1 => repeat (first | (with_reducible first | exact (Aside0.mk (IsS26.mk_ BK105.out GE105.out)).out | apply IsS26.alloc | apply IsS26.drewN | apply IsS26.drew | apply IsS26.set_0 | apply IsS26.set_1) | exact (Aside0.mk (IsS26.mk_ BK105.out GE105.out)).out)); (case side2 => repeat (first | (with_reducible first | exact HB.out | apply below_alloc | apply pw_below_drewN | apply below_drew1 | refine below_set ?_ (IsS26.ge (Aside0.mk (IsS26.mk_ BK105.out GE105.out)).out)) | exact HB.out)); rintro e w26 ⟨rfl, hi, hb, hk⟩; have n0_ := Aside0.mk (hb); have n1_ := Aside0.mk (hi.1); clear HB; clear BK105; have HB := n0_; have BK105 := n1_; clear n0_ n1_; (try clear hb); (try clear hb2); (try clear hk); (try clear hi)) | (go_at_call 12; (with_reducible refine (joustlaw09_num.calls t112 t115 _ A13.out).mono ?_); rintro e w' ⟨rfl, ⟨nd, rfl⟩⟩) | (go_at_call 16; (with_reducible refine (window_Window_Mark.calls k gb105 t113 t114 3 t116 t117 t118 w _ ?side1 ?side2 A15.out).mono ?_); (case side1 => repeat (first | (with_reducible first | exact (Aside0.mk (IsS26.mk_ BK105.out GE105.out)).out | apply IsS26.alloc | apply IsS26.drewN | apply IsS26.drew | apply IsS26.set_0 | apply IsS26.set_1) | exact (Aside0.mk (IsS26.mk_ BK105.out GE105.out)).out)); (case side2 => repeat (first | (with_reducible first | exact HB.out | apply below_alloc | apply pw_below_drewN | apply below_drew1 | refine below_set ?_ (IsS26.ge (Aside0.mk (IsS26.mk_ BK105.out GE105.out)).out)) | exact HB.out)); rintro e w27 ⟨rfl, hi, hb, hk⟩; have n0_ := Aside0.mk (hb); have n1_ := Aside0.mk (hi.1); clear HB; clear BK105; have HB := n0_; have BK105 := n1_; clear n0_ n1_; (try clear hb); (try clear hb2); (try clear hk); (try clear hi)) | (go_at_call 12; (with_reducible refine (joustlaw09_num.calls t116 t119 _ A16.out).mono ?_); rintro e w' ⟨rfl, ⟨nd, rfl⟩⟩) | (go_at_call 16; (with_reducible refine (window_Window_Mark.calls k gb105 t117 t118 1 t120 t121 t122 w _ ?side1 ?side2 A18.out).mono ?_); (case side1 => repeat (first | (with_reducible first | exact (Aside0.mk (IsS26.mk_ BK105.out GE105.out)).out | apply IsS26.alloc | apply IsS26.drewN | apply IsS26.drew | apply IsS26.set_0 | apply IsS26.set_1) | exact (Aside0.mk (IsS26.mk_ BK105.out GE105.out)).out)); (case side2 => repeat (first | (with_reducible first | exact HB.out | apply below_alloc | apply pw_below_drewN | apply below_drew1 | refine below_set ?_ (IsS26.ge (Aside0.mk (IsS26.mk_ BK105.out GE105.out)).out)) | exact HB.out)); rintro e w28 ⟨rfl, hi, hb, hk⟩; have n0_ := Aside0.mk (hb); have n1_ := Aside0.mk (hi.1); clear HB; clear BK105; have HB := n0_; have BK105 := n1_; clear n0_ n1_; (try clear hb); (try clear hb2); (try clear hk); (try clear hi)) | (go_at_call 12; (with_reducible refine (joustlaw09_num.calls t120 t123 _ A19.out).mono ?_); rintro e w' ⟨rfl, ⟨nd, rfl⟩⟩))
              go_meet
              case rel => exact ⟨_, ((t123 != 0)), (t121), (t122), (by first | rfl | (simp; done) | (simp [*]; done)), H', ⟨by first | omega | exact Nat.le_refl _⟩, ⟨by (with_reducible repeat (first | refine blk_drewN ?_ _ | refine blk_drew ?_ | refine blk_alloc ?_ _)); exact BK105.out⟩, ⟨by repeat (first | (with_reducible first | exact HB.out | apply below_alloc | apply pw_below_drewN | apply below_drew1 | refine below_set ?_ GE105.out) | exact HB.out)⟩⟩
            · rw [if_neg c17] at H
              have c17b0 : (t119 == 91) = false := beq_eq_false_iff_ne.mpr c17
              have c17b1 : (t119 != 91) = true := bne_iff_ne.mpr c17
              have H' := Aside0.mk H
              clear H
              have hcz29_0 : w2.cell? ⟨gb105, 0, none⟩ = some (.int .u64 0) := (blk_cell BK105.out 0).trans rfl
              have hcz29_1 : w2.cell? ⟨gb105, 1, none⟩ = some (.int .u64 0) := (blk_cell BK105.out 1).trans rfl
              have hfz29_0 := blk_frozen BK105.out 0
              have hfz29_1 := blk_frozen BK105.out 1
              go_wp2_with (first | ((with_reducible refine gate_callee (f := 13) rfl ?_); refine goesL_ (some 3) rfl rfl Try.func13 (by kernel_rfl) rfl #[.agg #[.int .u64 0, .int .u64 0], .int .u64 0] rfl (by (try simp only [List.map_toArray, List.map_cons, List.map_nil]); first | done | rfl | (simp only [List.length_drop, List.length_take]; rfl)) ?_; (with_reducible refine (window_Window_Check.calls k 0 0 0 t106 _ A3.out).mono ?_); rintro e w30 ⟨rfl, hb⟩; refine ⟨_, rfl, ?_⟩; have n0_ := Aside0.mk (blk_below (g := gb105) (o := .cells #[.int .u64 0, .int .u64 0] 26 (0, 0)) (by (with_reducible repeat (first | refine blk_drewN ?_ _ | refine blk_drew ?_ | refine blk_alloc ?_ _)); exact BK105.out) hb); have n1_ := Aside0.mk (below_step (by repeat (first | (with_reducible first | exact HB.out | apply below_alloc | apply pw_below_drewN | apply below_drew1 | refine below_set ?_ GE105.out) | exact HB.out)) hb); clear BK105; clear HB; have BK105 := n0_; have HB := n1_; clear n0_ n1_; (try clear hb); (try clear hb2); (try clear hk); (try clear hi)) | ((with_reducible refine gate_callee (f := 12) rfl ?_); refine goesL_ (some 4) rfl rfl Try.func12 (by kernel_rfl) rfl #[.int .i64 t106] rfl (by (try simp only [List.map_toArray, List.map_cons, List.map_nil]); first | done | rfl | (simp only [List.length_drop, List.length_take]; rfl)) ?_; (with_reducible refine (joustlaw09_num.calls t106 t107 _ A4.out).mono ?_); rintro e w' ⟨rfl, ⟨nd, rfl⟩⟩; refine ⟨_, rfl, ?_⟩; have hcz31_0 : w30.cell? ⟨gb105, 0, none⟩ = some (.int .u64 0) := (blk_cell BK105.out 0).trans rfl; have hcz31_1 : w30.cell? ⟨gb105, 1, none⟩ = some (.int .u64 0) := (blk_cell BK105.out 1).trans rfl; have hfz31_0 := blk_frozen BK105.out 0; have hfz31_1 := blk_frozen BK105.out 1) | (go_at_call 13; (with_reducible refine (window_Window_Check.calls k 0 0 64 t108 _ A6.out).mono ?_); rintro e w32 ⟨rfl, hb⟩; have n0_ := Aside0.mk (blk_below (g := gb105) (o := .cells #[.int .u64 0, .int .u64 0] 26 (0, 0)) (by (with_reducible repeat (first | refine blk_drewN ?_ _ | refine blk_drew ?_ | refine blk_alloc ?_ _)); exact BK105.out) hb); have n1_ := Aside0.mk (below_step (by repeat (first | (with_reducible first | exact HB.out | apply below_alloc | apply pw_below_drewN | apply below_drew1 | refine below_set ?_ GE105.out) | exact HB.out)) hb); clear BK105; clear HB; have BK105 := n0_; have HB := n1_; clear n0_ n1_; (try clear hb); (try clear hb2); (try clear hk); (try clear hi)) | (go_at_call 12; (with_reducible refine (joustlaw09_num.calls t108 t109 _ A7.out).mono ?_); rintro e w' ⟨rfl, ⟨nd, rfl⟩⟩; have hcz33_0 : w32.cell? ⟨gb105, 0, none⟩ = some (.int .u64 0) := (blk_cell BK105.out 0).trans rfl; have hcz33_1 : w32.cell? ⟨gb105, 1, none⟩ = some (.int .u64 0) := (blk_cell BK105.out 1).trans rfl; have hfz33_0 := blk_frozen BK105.out 0; have hfz33_1 := blk_frozen BK105.out 1) | (go_at_call 13; (with_reducible refine (window_Window_Check.calls k 0 0 65 t110 _ A9.out).mono ?_); rintro e w34 ⟨rfl, hb⟩; have n0_ := Aside0.mk (blk_below (g := gb105) (o := .cells #[.int .u64 0, .int .u64 0] 26 (0, 0)) (by (with_reducible repeat (first | refine blk_drewN ?_ _ | refine blk_drew ?_ | refine blk_alloc ?_ _)); exact BK105.out) hb); have n1_ := Aside0.mk (below_step (by repeat (first | (with_reducible first | exact HB.out | apply below_alloc | apply pw_below_drewN | apply below_drew1 | refine below_set ?_ GE105.out) | exact HB.out)) hb); clear BK105; clear HB; have BK105 := n0_; have HB := n1_; clear n0_ n1_; (try clear hb); (try clear hb2); (try clear hk); (try clear hi)) | (go_at_call 12; (with_reducible refine (joustlaw09_num.calls t110 t111 _ A10.out).mono ?_); rintro e w' ⟨rfl, ⟨nd, rfl⟩⟩) | (go_at_call 16; (with_reducible refine (window_Window_Mark.calls k gb105 0 0 3 t112 t113 t114 w _ ?side1 ?side2 A12.out).mono ?_); (case side1 => repeat (first | (with_reducible first | exact (Aside0.mk (IsS26.mk_ BK105.out GE105.out)).out | apply IsS26.alloc | apply IsS26.drewN | apply IsS26.drew | apply IsS26.set_0 | apply IsS26.set_1) | exact (Aside0.mk (IsS26.mk_ BK105.out GE105.out)).out)); (case side2 => repeat (first | (with_reducible first | exact HB.out | apply below_alloc | apply pw_below_drewN | apply below_drew1 | refine below_set ?_ (IsS26.ge (Aside0.mk (IsS26.mk_ BK105.out GE105.out)).out)) | exact HB.out)); rintro e w35 ⟨rfl, hi, hb, hk⟩; have n0_ := Aside0.mk (hb); have n1_ := Aside0.mk (hi.1); clear HB; clear BK105; have HB := n0_; have BK105 := n1_; clear n0_ n1_; (try clear hb); (try clear hb2); (try clear hk); (try clear hi)) | (go_at_call 12; (with_reducible refine (joustlaw09_num.calls t112 t115 _ A13.out).mono ?_); rintro e w' ⟨rfl, ⟨nd, rfl⟩⟩) | (go_at_call 16; (with_reducible refine (window_Window_Mark.calls k gb105 t113 t114 3 t116 t117 t118 w _ ?side1 ?side2 A15.out).mono ?_); (case side1 => repeat (first | (with_reducible first | exact (Aside0.mk (IsS26.mk_ BK105.out GE105.out)).out | apply IsS26.alloc | apply IsS26.drewN | apply IsS26.drew | apply IsS26.set_0 | apply IsS26.set_1) | exact (Aside0.mk (IsS26.mk_ BK105.out GE105.out)).out)); (case side2 => repeat (first | (with_reducible first | exact HB.out | apply below_alloc | apply pw_below_drewN | apply below_drew1 | refine below_set ?_ (IsS26.ge (Aside0.mk (IsS26.mk_ BK105.out GE105.out)).out)) | exact HB.out)); rintro e w36 ⟨rfl, hi, hb, hk⟩; have n0_ := Aside0.mk (hb); have n1_ := Aside0.mk (hi.1); clear HB; clear BK105; have HB := n0_; have BK105 := n1_; clear n0_ n1_; (try clear hb); (try clear hb2); (try clear hk); (try clear hi)) | (go_at_call 12; (with_reducible refine (joustlaw09_num.calls t116 t119 _ A16.out).mono ?_); rintro e w' ⟨rfl, ⟨nd, rfl⟩⟩))
              go_meet
              case rel => exact ⟨_, (true), (t117), (t118), (by first | rfl | (simp; done) | (simp [*]; done)), H', ⟨by first | omega | exact Nat.le_refl _⟩, ⟨by (with_reducible repeat (first | refine blk_drewN ?_ _ | refine blk_drew ?_ | refine blk_alloc ?_ _)); exact BK105.out⟩, ⟨by repeat (first | (with_reducible first | exact HB.out | apply below_alloc | apply pw_below_drewN | apply below_drew1 | refine below_set ?_ GE105.out) | exact HB.out)⟩⟩
          · rw [if_neg c14] at H
            have c14b0 : (t115 == 0) = false := beq_eq_false_iff_ne.mpr c14
            have c14b1 : (t115 != 0) = true := bne_iff_ne.mpr c14
            have H' := Aside0.mk H
            clear H
            have hcz37_0 : w2.cell? ⟨gb105, 0, none⟩ = some (.int .u64 0) := (blk_cell BK105.out 0).trans rfl
            have hcz37_1 : w2.cell? ⟨gb105, 1, none⟩ = some (.int .u64 0) := (blk_cell BK105.out 1).trans rfl
            have hfz37_0 := blk_frozen BK105.out 0
            have hfz37_1 := blk_frozen BK105.out 1
            go_wp2_with (first | ((with_reducible refine gate_callee (f := 13) rfl ?_); refine goesL_ (some 3) rfl rfl Try.func13 (by kernel_rfl) rfl #[.agg #[.int .u64 0, .int .u64 0], .int .u64 0] rfl (by (try simp only [List.map_toArray, List.map_cons, List.map_nil]); first | done | rfl | (simp only [List.length_drop, List.length_take]; rfl)) ?_; (with_reducible refine (window_Window_Check.calls k 0 0 0 t106 _ A3.out).mono ?_); rintro e w38 ⟨rfl, hb⟩; refine ⟨_, rfl, ?_⟩; have n0_ := Aside0.mk (blk_below (g := gb105) (o := .cells #[.int .u64 0, .int .u64 0] 26 (0, 0)) (by (with_reducible repeat (first | refine blk_drewN ?_ _ | refine blk_drew ?_ | refine blk_alloc ?_ _)); exact BK105.out) hb); have n1_ := Aside0.mk (below_step (by repeat (first | (with_reducible first | exact HB.out | apply below_alloc | apply pw_below_drewN | apply below_drew1 | refine below_set ?_ GE105.out) | exact HB.out)) hb); clear BK105; clear HB; have BK105 := n0_; have HB := n1_; clear n0_ n1_; (try clear hb); (try clear hb2); (try clear hk); (try clear hi)) | ((with_reducible refine gate_callee (f := 12) rfl ?_); refine goesL_ (some 4) rfl rfl Try.func12 (by kernel_rfl) rfl #[.int .i64 t106] rfl (by (try simp only [List.map_toArray, List.map_cons, List.map_nil]); first | done | rfl | (simp only [List.length_drop, List.length_take]; rfl)) ?_; (with_reducible refine (joustlaw09_num.calls t106 t107 _ A4.out).mono ?_); rintro e w' ⟨rfl, ⟨nd, rfl⟩⟩; refine ⟨_, rfl, ?_⟩; have hcz39_0 : w38.cell? ⟨gb105, 0, none⟩ = some (.int .u64 0) := (blk_cell BK105.out 0).trans rfl; have hcz39_1 : w38.cell? ⟨gb105, 1, none⟩ = some (.int .u64 0) := (blk_cell BK105.out 1).trans rfl; have hfz39_0 := blk_frozen BK105.out 0; have hfz39_1 := blk_frozen BK105.out 1) | (go_at_call 13; (with_reducible refine (window_Window_Check.calls k 0 0 64 t108 _ A6.out).mono ?_); rintro e w40 ⟨rfl, hb⟩; have n0_ := Aside0.mk (blk_below (g := gb105) (o := .cells #[.int .u64 0, .int .u64 0] 26 (0, 0)) (by (with_reducible repeat (first | refine blk_drewN ?_ _ | refine blk_drew ?_ | refine blk_alloc ?_ _)); exact BK105.out) hb); have n1_ := Aside0.mk (below_step (by repeat (first | (with_reducible first | exact HB.out | apply below_alloc | apply pw_below_drewN | apply below_drew1 | refine below_set ?_ GE105.out) | exact HB.out)) hb); clear BK105; clear HB; have BK105 := n0_; have HB := n1_; clear n0_ n1_; (try clear hb); (try clear hb2); (try clear hk); (try clear hi)) | (go_at_call 12; (with_reducible refine (joustlaw09_num.calls t108 t109 _ A7.out).mono ?_); rintro e w' ⟨rfl, ⟨nd, rfl⟩⟩; have hcz41_0 : w40.cell? ⟨gb105, 0, none⟩ = some (.int .u64 0) := (blk_cell BK105.out 0).trans rfl; have hcz41_1 : w40.cell? ⟨gb105, 1, none⟩ = some (.int .u64 0) := (blk_cell BK105.out 1).trans rfl; have hfz41_0 := blk_frozen BK105.out 0; have hfz41_1 := blk_frozen BK105.out 1) | (go_at_call 13; (with_reducible refine (window_Window_Check.calls k 0 0 65 t110 _ A9.out).mono ?_); rintro e w42 ⟨rfl, hb⟩; have n0_ := Aside0.mk (blk_below (g := gb105) (o := .cells #[.int .u64 0, .int .u64 0] 26 (0, 0)) (by (with_reducible repeat (first | refine blk_drewN ?_ _ | refine blk_drew ?_ | refine blk_alloc ?_ _)); exact BK105.out) hb); have n1_ := Aside0.mk (below_step (by repeat (first | (with_reducible first | exact HB.out | apply below_alloc | apply pw_below_drewN | apply below_drew1 | refine below_set ?_ GE105.out) | exact HB.out)) hb); clear BK105; clear HB; have BK105 := n0_; have HB := n1_; clear n0_ n1_; (try clear hb); (try clear hb2); (try clear hk); (try clear hi)) | (go_at_call 12; (with_reducible refine (joustlaw09_num.calls t110 t111 _ A10.out).mono ?_); rintro e w' ⟨rfl, ⟨nd, rfl⟩⟩) | (go_at_call 16; (with_reducible refine (window_Window_Mark.calls k gb105 0 0 3 t112 t113 t114 w _ ?side1 ?side2 A12.out).mono ?_); (case side1 => repeat (first | (with_reducible first | exact (Aside0.mk (IsS26.mk_ BK105.out GE105.out)).out | apply IsS26.alloc | apply IsS26.drewN | apply IsS26.drew | apply IsS26.set_0 | apply IsS26.set_1) | exact (Aside0.mk (IsS26.mk_ BK105.out GE105.out)).out)); (case side2 => repeat (first | (with_reducible first | exact HB.out | apply below_alloc | apply pw_below_drewN | apply below_drew1 | refine below_set ?_ (IsS26.ge (Aside0.mk (IsS26.mk_ BK105.out GE105.out)).out)) | exact HB.out)); rintro e w43 ⟨rfl, hi, hb, hk⟩; have n0_ := Aside0.mk (hb); have n1_ := Aside0.mk (hi.1); clear HB; clear BK105; have HB := n0_; have BK105 := n1_; clear n0_ n1_; (try clear hb); (try clear hb2); (try clear hk); (try clear hi)) | (go_at_call 12; (with_reducible refine (joustlaw09_num.calls t112 t115 _ A13.out).mono ?_); rintro e w' ⟨rfl, ⟨nd, rfl⟩⟩))
            go_meet
            case rel => exact ⟨_, (true), (t113), (t114), (by first | rfl | (simp; done) | (simp [*]; done)), H', ⟨by first | omega | exact Nat.le_refl _⟩, ⟨by (with_reducible repeat (first | refine blk_drewN ?_ _ | refine blk_drew ?_ | refine blk_alloc ?_ _)); exact BK105.out⟩, ⟨by repeat (first | (with_reducible first | exact HB.out | apply below_alloc | apply pw_below_drewN | apply below_drew1 | refine below_set ?_ GE105.out) | exact HB.out)⟩⟩
        · rw [if_neg c11] at H
          have c11b0 : (t111 == 92) = false := beq_eq_false_iff_ne.mpr c11
          have c11b1 : (t111 != 92) = true := bne_iff_ne.mpr c11
          have H' := Aside0.mk H
          clear H
          have hcz44_0 : w2.cell? ⟨gb105, 0, none⟩ = some (.int .u64 0) := (blk_cell BK105.out 0).trans rfl
          have hcz44_1 : w2.cell? ⟨gb105, 1, none⟩ = some (.int .u64 0) := (blk_cell BK105.out 1).trans rfl
          have hfz44_0 := blk_frozen BK105.out 0
          have hfz44_1 := blk_frozen BK105.out 1
          go_wp2_with (first | ((with_reducible refine gate_callee (f := 13) rfl ?_); refine goesL_ (some 3) rfl rfl Try.func13 (by kernel_rfl) rfl #[.agg #[.int .u64 0, .int .u64 0], .int .u64 0] rfl (by (try simp only [List.map_toArray, List.map_cons, List.map_nil]); first | done | rfl | (simp only [List.length_drop, List.length_take]; rfl)) ?_; (with_reducible refine (window_Window_Check.calls k 0 0 0 t106 _ A3.out).mono ?_); rintro e w45 ⟨rfl, hb⟩; refine ⟨_, rfl, ?_⟩; have n0_ := Aside0.mk (blk_below (g := gb105) (o := .cells #[.int .u64 0, .int .u64 0] 26 (0, 0)) (by (with_reducible repeat (first | refine blk_drewN ?_ _ | refine blk_drew ?_ | refine blk_alloc ?_ _)); exact BK105.out) hb); have n1_ := Aside0.mk (below_step (by repeat (first | (with_reducible first | exact HB.out | apply below_alloc | apply pw_below_drewN | apply below_drew1 | refine below_set ?_ GE105.out) | exact HB.out)) hb); clear BK105; clear HB; have BK105 := n0_; have HB := n1_; clear n0_ n1_; (try clear hb); (try clear hb2); (try clear hk); (try clear hi)) | ((with_reducible refine gate_callee (f := 12) rfl ?_); refine goesL_ (some 4) rfl rfl Try.func12 (by kernel_rfl) rfl #[.int .i64 t106] rfl (by (try simp only [List.map_toArray, List.map_cons, List.map_nil]); first | done | rfl | (simp only [List.length_drop, List.length_take]; rfl)) ?_; (with_reducible refine (joustlaw09_num.calls t106 t107 _ A4.out).mono ?_); rintro e w' ⟨rfl, ⟨nd, rfl⟩⟩; refine ⟨_, rfl, ?_⟩; have hcz46_0 : w45.cell? ⟨gb105, 0, none⟩ = some (.int .u64 0) := (blk_cell BK105.out 0).trans rfl; have hcz46_1 : w45.cell? ⟨gb105, 1, none⟩ = some (.int .u64 0) := (blk_cell BK105.out 1).trans rfl; have hfz46_0 := blk_frozen BK105.out 0; have hfz46_1 := blk_frozen BK105.out 1) | (go_at_call 13; (with_reducible refine (window_Window_Check.calls k 0 0 64 t108 _ A6.out).mono ?_); rintro e w47 ⟨rfl, hb⟩; have n0_ := Aside0.mk (blk_below (g := gb105) (o := .cells #[.int .u64 0, .int .u64 0] 26 (0, 0)) (by (with_reducible repeat (first | refine blk_drewN ?_ _ | refine blk_drew ?_ | refine blk_alloc ?_ _)); exact BK105.out) hb); have n1_ := Aside0.mk (below_step (by repeat (first | (with_reducible first | exact HB.out | apply below_alloc | apply pw_below_drewN | apply below_drew1 | refine below_set ?_ GE105.out) | exact HB.out)) hb); clear BK105; clear HB; have BK105 := n0_; have HB := n1_; clear n0_ n1_; (try clear hb); (try clear hb2); (try clear hk); (try clear hi)) | (go_at_call 12; (with_reducible refine (joustlaw09_num.calls t108 t109 _ A7.out).mono ?_); rintro e w' ⟨rfl, ⟨nd, rfl⟩⟩; have hcz48_0 : w47.cell? ⟨gb105, 0, none⟩ = some (.int .u64 0) := (blk_cell BK105.out 0).trans rfl; have hcz48_1 : w47.cell? ⟨gb105, 1, none⟩ = some (.int .u64 0) := (blk_cell BK105.out 1).trans rfl; have hfz48_0 := blk_frozen BK105.out 0; have hfz48_1 := blk_frozen BK105.out 1) | (go_at_call 13; (with_reducible refine (window_Window_Check.calls k 0 0 65 t110 _ A9.out).mono ?_); rintro e w49 ⟨rfl, hb⟩; have n0_ := Aside0.mk (blk_below (g := gb105) (o := .cells #[.int .u64 0, .int .u64 0] 26 (0, 0)) (by (with_reducible repeat (first | refine blk_drewN ?_ _ | refine blk_drew ?_ | refine blk_alloc ?_ _)); exact BK105.out) hb); have n1_ := Aside0.mk (below_step (by repeat (first | (with_reducible first | exact HB.out | apply below_alloc | apply pw_below_drewN | apply below_drew1 | refine below_set ?_ GE105.out) | exact HB.out)) hb); clear BK105; clear HB; have BK105 := n0_; have HB := n1_; clear n0_ n1_; (try clear hb); (try clear hb2); (try clear hk); (try clear hi)) | (go_at_call 12; (with_reducible refine (joustlaw09_num.calls t110 t111 _ A10.out).mono ?_); rintro e w' ⟨rfl, ⟨nd, rfl⟩⟩))
          go_meet
          case rel => exact ⟨_, (true), (0), (0), (by first | rfl | (simp; done) | (simp [*]; done)), H', ⟨by first | omega | exact Nat.le_refl _⟩, ⟨by (with_reducible repeat (first | refine blk_drewN ?_ _ | refine blk_drew ?_ | refine blk_alloc ?_ _)); exact BK105.out⟩, ⟨by repeat (first | (with_reducible first | exact HB.out | apply below_alloc | apply pw_below_drewN | apply below_drew1 | refine below_set ?_ GE105.out) | exact HB.out)⟩⟩
      · rw [if_neg c8] at H
        have c8b0 : (t109 == 0) = false := beq_eq_false_iff_ne.mpr c8
        have c8b1 : (t109 != 0) = true := bne_iff_ne.mpr c8
        have H' := Aside0.mk H
        clear H
        have hcz50_0 : w2.cell? ⟨gb105, 0, none⟩ = some (.int .u64 0) := (blk_cell BK105.out 0).trans rfl
        have hcz50_1 : w2.cell? ⟨gb105, 1, none⟩ = some (.int .u64 0) := (blk_cell BK105.out 1).trans rfl
        have hfz50_0 := blk_frozen BK105.out 0
        have hfz50_1 := blk_frozen BK105.out 1
        go_wp2_with (first | ((with_reducible refine gate_callee (f := 13) rfl ?_); refine goesL_ (some 3) rfl rfl Try.func13 (by kernel_rfl) rfl #[.agg #[.int .u64 0, .int .u64 0], .int .u64 0] rfl (by (try simp only [List.map_toArray, List.map_cons, List.map_nil]); first | done | rfl | (simp only [List.length_drop, List.length_take]; rfl)) ?_; (with_reducible refine (window_Window_Check.calls k 0 0 0 t106 _ A3.out).mono ?_); rintro e w51 ⟨rfl, hb⟩; refine ⟨_, rfl, ?_⟩; have n0_ := Aside0.mk (blk_below (g := gb105) (o := .cells #[.int .u64 0, .int .u64 0] 26 (0, 0)) (by (with_reducible repeat (first | refine blk_drewN ?_ _ | refine blk_drew ?_ | refine blk_alloc ?_ _)); exact BK105.out) hb); have n1_ := Aside0.mk (below_step (by repeat (first | (with_reducible first | exact HB.out | apply below_alloc | apply pw_below_drewN | apply below_drew1 | refine below_set ?_ GE105.out) | exact HB.out)) hb); clear BK105; clear HB; have BK105 := n0_; have HB := n1_; clear n0_ n1_; (try clear hb); (try clear hb2); (try clear hk); (try clear hi)) | ((with_reducible refine gate_callee (f := 12) rfl ?_); refine goesL_ (some 4) rfl rfl Try.func12 (by kernel_rfl) rfl #[.int .i64 t106] rfl (by (try simp only [List.map_toArray, List.map_cons, List.map_nil]); first | done | rfl | (simp only [List.length_drop, List.length_take]; rfl)) ?_; (with_reducible refine (joustlaw09_num.calls t106 t107 _ A4.out).mono ?_); rintro e w' ⟨rfl, ⟨nd, rfl⟩⟩; refine ⟨_, rfl, ?_⟩; have hcz52_0 : w51.cell? ⟨gb105, 0, none⟩ = some (.int .u64 0) := (blk_cell BK105.out 0).trans rfl; have hcz52_1 : w51.cell? ⟨gb105, 1, none⟩ = some (.int .u64 0) := (blk_cell BK105.out 1).trans rfl; have hfz52_0 := blk_frozen BK105.out 0; have hfz52_1 := blk_frozen BK105.out 1) | (go_at_call 13; (with_reducible refine (window_Window_Check.calls k 0 0 64 t108 _ A6.out).mono ?_); rintro e w53 ⟨rfl, hb⟩; have n0_ := Aside0.mk (blk_below (g := gb105) (o := .cells #[.int .u64 0, .int .u64 0] 26 (0, 0)) (by (with_reducible repeat (first | refine blk_drewN ?_ _ | refine blk_drew ?_ | refine blk_alloc ?_ _)); exact BK105.out) hb); have n1_ := Aside0.mk (below_step (by repeat (first | (with_reducible first | exact HB.out | apply below_alloc | apply pw_below_drewN | apply below_drew1 | refine below_set ?_ GE105.out) | exact HB.out)) hb); clear BK105; clear HB; have BK105 := n0_; have HB := n1_; clear n0_ n1_; (try clear hb); (try clear hb2); (try clear hk); (try clear hi)) | (go_at_call 12; (with_reducible refine (joustlaw09_num.calls t108 t109 _ A7.out).mono ?_); rintro e w' ⟨rfl, ⟨nd, rfl⟩⟩))
        go_meet
        case rel => exact ⟨_, (true), (0), (0), (by first | rfl | (simp; done) | (simp [*]; done)), H', ⟨by first | omega | exact Nat.le_refl _⟩, ⟨by (with_reducible repeat (first | refine blk_drewN ?_ _ | refine blk_drew ?_ | refine blk_alloc ?_ _)); exact BK105.out⟩, ⟨by repeat (first | (with_reducible first | exact HB.out | apply below_alloc | apply pw_below_drewN | apply below_drew1 | refine below_set ?_ GE105.out) | exact HB.out)⟩⟩
    · rw [if_neg c5] at H
      have c5b0 : (t107 == 90) = false := beq_eq_false_iff_ne.mpr c5
      have c5b1 : (t107 != 90) = true := bne_iff_ne.mpr c5
      (first | rw [c5b0] | (simp only [i64_w, i32_w]; rw [c5b0]) | skip)
      have H' := Aside0.mk H
      clear H
      have hcz54_0 : w2.cell? ⟨gb105, 0, none⟩ = some (.int .u64 0) := (blk_cell BK105.out 0).trans rfl
      have hcz54_1 : w2.cell? ⟨gb105, 1, none⟩ = some (.int .u64 0) := (blk_cell BK105.out 1).trans rfl
      have hfz54_0 := blk_frozen BK105.out 0
      have hfz54_1 := blk_frozen BK105.out 1
      go_wp2_with (first | ((with_reducible refine gate_callee (f := 13) rfl ?_); refine goesL_ (some 3) rfl rfl Try.func13 (by kernel_rfl) rfl #[.agg #[.int .u64 0, .int .u64 0], .int .u64 0] rfl (by (try simp only [List.map_toArray, List.map_cons, List.map_nil]); first | done | rfl | (simp only [List.length_drop, List.length_take]; rfl)) ?_; (with_reducible refine (window_Window_Check.calls k 0 0 0 t106 _ A3.out).mono ?_); rintro e w55 ⟨rfl, hb⟩; refine ⟨_, rfl, ?_⟩; have n0_ := Aside0.mk (blk_below (g := gb105) (o := .cells #[.int .u64 0, .int .u64 0] 26 (0, 0)) (by (with_reducible repeat (first | refine blk_drewN ?_ _ | refine blk_drew ?_ | refine blk_alloc ?_ _)); exact BK105.out) hb); have n1_ := Aside0.mk (below_step (by repeat (first | (with_reducible first | exact HB.out | apply below_alloc | apply pw_below_drewN | apply below_drew1 | refine below_set ?_ GE105.out) | exact HB.out)) hb); clear BK105; clear HB; have BK105 := n0_; have HB := n1_; clear n0_ n1_; (try clear hb); (try clear hb2); (try clear hk); (try clear hi)) | ((with_reducible refine gate_callee (f := 12) rfl ?_); refine goesL_ (some 4) rfl rfl Try.func12 (by kernel_rfl) rfl #[.int .i64 t106] rfl (by (try simp only [List.map_toArray, List.map_cons, List.map_nil]); first | done | rfl | (simp only [List.length_drop, List.length_take]; rfl)) ?_; (with_reducible refine (joustlaw09_num.calls t106 t107 _ A4.out).mono ?_); rintro e w' ⟨rfl, ⟨nd, rfl⟩⟩; refine ⟨_, rfl, ?_⟩))
      go_meet
      case rel => exact ⟨_, (true), (0), (0), (by first | rfl | (simp; done) | (simp [*]; done)), H', ⟨by first | omega | exact Nat.le_refl _⟩, ⟨by (with_reducible repeat (first | refine blk_drewN ?_ _ | refine blk_drew ?_ | refine blk_alloc ?_ _)); exact BK105.out⟩, ⟨by repeat (first | (with_reducible first | exact HB.out | apply below_alloc | apply pw_below_drewN | apply below_drew1 | refine below_set ?_ GE105.out) | exact HB.out)⟩⟩
  case rest =>
    clear HC1
    try clear c1
    try clear p2
    try clear c5
    try clear c5b0
    try clear c5b1
    try clear c8
    try clear c8b0
    try clear c8b1
    try clear c11
    try clear c11b0
    try clear c11b1
    try clear c12
    try clear c13
    try clear c14
    try clear c14b0
    try clear c14b1
    try clear c17
    try clear c17b0
    try clear c17b1
    try clear hcz20_0
    try clear hcz20_1
    try clear hcz22_0
    try clear hcz22_1
    try clear hcz24_0
    try clear hcz24_1
    try clear hcz29_0
    try clear hcz29_1
    try clear hcz31_0
    try clear hcz31_1
    try clear hcz33_0
    try clear hcz33_1
    try clear hcz37_0
    try clear hcz37_1
    try clear hcz39_0
    try clear hcz39_1
    try clear hcz41_0
    try clear hcz41_1
    try clear hcz44_0
    try clear hcz44_1
    try clear hcz46_0
    try clear hcz46_1
    try clear hcz48_0
    try clear hcz48_1
    try clear hcz50_0
    try clear hcz50_1
    try clear hcz52_0
    try clear hcz52_1
    try clear hcz54_0
    try clear hcz54_1
    try clear hfz20_0
    try clear hfz20_1
    try clear hfz22_0
    try clear hfz22_1
    try clear hfz24_0
    try clear hfz24_1
    try clear hfz29_0
    try clear hfz29_1
    try clear hfz31_0
    try clear hfz31_1
    try clear hfz33_0
    try clear hfz33_1
    try clear hfz37_0
    try clear hfz37_1
    try clear hfz39_0
    try clear hfz39_1
    try clear hfz41_0
    try clear hfz41_1
    try clear hfz44_0
    try clear hfz44_1
    try clear hfz46_0
    try clear hfz46_1
    try clear hfz48_0
    try clear hfz48_1
    try clear hfz50_0
    try clear hfz50_1
    try clear hfz52_0
    try clear hfz52_1
    try clear hfz54_0
    try clear hfz54_1
    obtain ⟨kq, x32_0, x106000_0, x106001_0, rfl, HA, HJ0, BK105, HB⟩ := hcut
    cases kq with
    | zero => exact absurd HA.out (by simp [joustlaw09_alive.j0])
    | succ kj0 =>
      have H := HA.out
      clear HA
      simp only [joustlaw09_alive.j0] at H
      by_cases c56 : x32_0 = true
      · subst c56
        have H1 : (some false) = some r := by rw [if_pos rfl] at H; exact H
        clear H
        have H := H1
        clear H1
        obtain rfl := Option.some.inj H
        go_wp2
        go_ret
        exact ⟨by first | rfl | (simp [errW_none, errW_some] <;> rfl) | (simp [*, errW_none, errW_some] <;> rfl), by repeat (first | (with_reducible first | exact HB.out | apply below_alloc | apply pw_below_drewN | apply below_drew1 | refine below_set ?_ GE105.out) | exact HB.out)⟩
      · replace c56 := Bool.eq_false_iff.mpr c56
        subst c56
        have H1 : ((window_Window_High.f x106000_0 x106001_0).bind fun t124 => (if t124 = 3 then ((window_Window_Bits.f x106000_0 x106001_0).bind fun t125 => (if t125 = 5 then ((window_Window_Mark.f kj0 x106000_0 x106001_0 67).bind fun bt126 => ((joustlaw09_num.f bt126.1).bind fun t129 => (if t129 = 0 then ((window_Window_Bits.f bt126.2.1 bt126.2.2).bind fun t130 => (if t130 = 1 then ((window_Window_Check.f kj0 bt126.2.1 bt126.2.2 3).bind fun t131 => ((joustlaw09_num.f t131).bind fun t132 => (if t132 = 90 then ((window_Window_Mark.f kj0 bt126.2.1 bt126.2.2 4).bind fun bt133 => ((joustlaw09_num.f bt133.1).bind fun t136 => (if t136 = 0 then ((window_Window_Bits.f bt133.2.1 bt133.2.2).bind fun t137 => (some (t137 == 9223372036854775809))) else (some false)))) else (some false)))) else (some false))) else (some false)))) else (some false))) else (some false))) = some r := by rw [if_neg (show ¬ (false = true) by decide)] at H; exact H
        clear H
        have H := H1
        clear H1
        replace H := Option.bind_eq_some_iff.mp H
        obtain ⟨t124, A570, H⟩ := H
        replace H : (if t124 = 3 then ((window_Window_Bits.f x106000_0 x106001_0).bind fun t125 => (if t125 = 5 then ((window_Window_Mark.f kj0 x106000_0 x106001_0 67).bind fun bt126 => ((joustlaw09_num.f bt126.1).bind fun t129 => (if t129 = 0 then ((window_Window_Bits.f bt126.2.1 bt126.2.2).bind fun t130 => (if t130 = 1 then ((window_Window_Check.f kj0 bt126.2.1 bt126.2.2 3).bind fun t131 => ((joustlaw09_num.f t131).bind fun t132 => (if t132 = 90 then ((window_Window_Mark.f kj0 bt126.2.1 bt126.2.2 4).bind fun bt133 => ((joustlaw09_num.f bt133.1).bind fun t136 => (if t136 = 0 then ((window_Window_Bits.f bt133.2.1 bt133.2.2).bind fun t137 => (some (t137 == 9223372036854775809))) else (some false)))) else (some false)))) else (some false))) else (some false)))) else (some false))) else (some false)) = some r := H
        have A57 := Aside0.mk A570
        clear A570
        by_cases c58 : t124 = 3
        · rw [if_pos c58] at H
          have c58b0 : (t124 == 3) = true := beq_iff_eq.mpr c58
          have c58b1 : (t124 != 3) = false := bne_eq_false_iff_eq.mpr c58
          clear c58
          replace H := Option.bind_eq_some_iff.mp H
          obtain ⟨t125, A590, H⟩ := H
          replace H : (if t125 = 5 then ((window_Window_Mark.f kj0 x106000_0 x106001_0 67).bind fun bt126 => ((joustlaw09_num.f bt126.1).bind fun t129 => (if t129 = 0 then ((window_Window_Bits.f bt126.2.1 bt126.2.2).bind fun t130 => (if t130 = 1 then ((window_Window_Check.f kj0 bt126.2.1 bt126.2.2 3).bind fun t131 => ((joustlaw09_num.f t131).bind fun t132 => (if t132 = 90 then ((window_Window_Mark.f kj0 bt126.2.1 bt126.2.2 4).bind fun bt133 => ((joustlaw09_num.f bt133.1).bind fun t136 => (if t136 = 0 then ((window_Window_Bits.f bt133.2.1 bt133.2.2).bind fun t137 => (some (t137 == 9223372036854775809))) else (some false)))) else (some false)))) else (some false))) else (some false)))) else (some false)) = some r := H
          have A59 := Aside0.mk A590
          clear A590
          by_cases c60 : t125 = 5
          · rw [if_pos c60] at H
            have c60b0 : (t125 == 5) = true := beq_iff_eq.mpr c60
            have c60b1 : (t125 != 5) = false := bne_eq_false_iff_eq.mpr c60
            clear c60
            replace H := Option.bind_eq_some_iff.mp H
            obtain ⟨⟨t126, t127, t128⟩, A610, H⟩ := H
            replace H : ((joustlaw09_num.f t126).bind fun t129 => (if t129 = 0 then ((window_Window_Bits.f t127 t128).bind fun t130 => (if t130 = 1 then ((window_Window_Check.f kj0 t127 t128 3).bind fun t131 => ((joustlaw09_num.f t131).bind fun t132 => (if t132 = 90 then ((window_Window_Mark.f kj0 t127 t128 4).bind fun bt133 => ((joustlaw09_num.f bt133.1).bind fun t136 => (if t136 = 0 then ((window_Window_Bits.f bt133.2.1 bt133.2.2).bind fun t137 => (some (t137 == 9223372036854775809))) else (some false)))) else (some false)))) else (some false))) else (some false))) = some r := H
            have A61 := Aside0.mk A610
            clear A610
            replace H := Option.bind_eq_some_iff.mp H
            obtain ⟨t129, A620, H⟩ := H
            replace H : (if t129 = 0 then ((window_Window_Bits.f t127 t128).bind fun t130 => (if t130 = 1 then ((window_Window_Check.f kj0 t127 t128 3).bind fun t131 => ((joustlaw09_num.f t131).bind fun t132 => (if t132 = 90 then ((window_Window_Mark.f kj0 t127 t128 4).bind fun bt133 => ((joustlaw09_num.f bt133.1).bind fun t136 => (if t136 = 0 then ((window_Window_Bits.f bt133.2.1 bt133.2.2).bind fun t137 => (some (t137 == 9223372036854775809))) else (some false)))) else (some false)))) else (some false))) else (some false)) = some r := H
            have A62 := Aside0.mk A620
            clear A620
            by_cases c63 : t129 = 0
            · rw [if_pos c63] at H
              have c63b0 : (t129 == 0) = true := beq_iff_eq.mpr c63
              have c63b1 : (t129 != 0) = false := bne_eq_false_iff_eq.mpr c63
              clear c63
              replace H := Option.bind_eq_some_iff.mp H
              obtain ⟨t130, A640, H⟩ := H
              replace H : (if t130 = 1 then ((window_Window_Check.f kj0 t127 t128 3).bind fun t131 => ((joustlaw09_num.f t131).bind fun t132 => (if t132 = 90 then ((window_Window_Mark.f kj0 t127 t128 4).bind fun bt133 => ((joustlaw09_num.f bt133.1).bind fun t136 => (if t136 = 0 then ((window_Window_Bits.f bt133.2.1 bt133.2.2).bind fun t137 => (some (t137 == 9223372036854775809))) else (some false)))) else (some false)))) else (some false)) = some r := H
              have A64 := Aside0.mk A640
              clear A640
              by_cases c65 : t130 = 1
              · rw [if_pos c65] at H
                have c65b0 : (t130 == 1) = true := beq_iff_eq.mpr c65
                have c65b1 : (t130 != 1) = false := bne_eq_false_iff_eq.mpr c65
                clear c65
                replace H := Option.bind_eq_some_iff.mp H
                obtain ⟨t131, A660, H⟩ := H
                replace H : ((joustlaw09_num.f t131).bind fun t132 => (if t132 = 90 then ((window_Window_Mark.f kj0 t127 t128 4).bind fun bt133 => ((joustlaw09_num.f bt133.1).bind fun t136 => (if t136 = 0 then ((window_Window_Bits.f bt133.2.1 bt133.2.2).bind fun t137 => (some (t137 == 9223372036854775809))) else (some false)))) else (some false))) = some r := H
                have A66 := Aside0.mk A660
                clear A660
                replace H := Option.bind_eq_some_iff.mp H
                obtain ⟨t132, A670, H⟩ := H
                replace H : (if t132 = 90 then ((window_Window_Mark.f kj0 t127 t128 4).bind fun bt133 => ((joustlaw09_num.f bt133.1).bind fun t136 => (if t136 = 0 then ((window_Window_Bits.f bt133.2.1 bt133.2.2).bind fun t137 => (some (t137 == 9223372036854775809))) else (some false)))) else (some false)) = some r := H
                have A67 := Aside0.mk A670
                clear A670
                by_cases c68 : t132 = 90
                · rw [if_pos c68] at H
                  have c68b0 : (t132 == 90) = true := beq_iff_eq.mpr c68
                  have c68b1 : (t132 != 90) = false := bne_eq_false_iff_eq.mpr c68
                  clear c68
                  replace H := Option.bind_eq_some_iff.mp H
                  obtain ⟨⟨t133, t134, t135⟩, A690, H⟩ := H
                  replace H : ((joustlaw09_num.f t133).bind fun t136 => (if t136 = 0 then ((window_Window_Bits.f t134 t135).bind fun t137 => (some (t137 == 9223372036854775809))) else (some false))) = some r := H
                  have A69 := Aside0.mk A690
                  clear A690
                  replace H := Option.bind_eq_some_iff.mp H
                  obtain ⟨t136, A700, H⟩ := H
                  replace H : (if t136 = 0 then ((window_Window_Bits.f t134 t135).bind fun t137 => (some (t137 == 9223372036854775809))) else (some false)) = some r := H
                  have A70 := Aside0.mk A700
                  clear A700
                  by_cases c71 : t136 = 0
                  · rw [if_pos c71] at H
                    have c71b0 : (t136 == 0) = true := beq_iff_eq.mpr c71
                    have c71b1 : (t136 != 0) = false := bne_eq_false_iff_eq.mpr c71
                    clear c71
                    replace H := Option.bind_eq_some_iff.mp H
                    obtain ⟨t137, A720, H⟩ := H
                    replace H : (some (t137 == 9223372036854775809)) = some r := H
                    have A72 := Aside0.mk A720
                    clear A720
                    obtain rfl := Option.some.inj H
                    have hcz73_0 : wc.cell? ⟨gb105, 0, none⟩ = some (.int .u64 x106000_0) := (blk_cell BK105.out 0).trans rfl
                    have hcz73_1 : wc.cell? ⟨gb105, 1, none⟩ = some (.int .u64 x106001_0) := (blk_cell BK105.out 1).trans rfl
                    have hfz73_0 := blk_frozen BK105.out 0
                    have hfz73_1 := blk_frozen BK105.out 1
                    go_wp2_with (first | ((with_reducible refine gate_callee (f := 18) rfl ?_); refine goesL_ (some 34) rfl rfl Try.func18 (by kernel_rfl) rfl #[.agg #[.int .u64 x106000_0, .int .u64 x106001_0]] rfl (by (try simp only [List.map_toArray, List.map_cons, List.map_nil]); first | done | rfl | (simp only [List.length_drop, List.length_take]; rfl)) ?_; (with_reducible refine (window_Window_High.calls x106000_0 x106001_0 t124 _ A57.out).mono ?_); rintro e w74 ⟨rfl, hb⟩; refine ⟨_, rfl, ?_⟩; have n0_ := Aside0.mk (blk_below (g := gb105) (o := .cells #[.int .u64 x106000_0, .int .u64 x106001_0] 26 (0, 0)) (by (with_reducible repeat (first | refine blk_drewN ?_ _ | refine blk_drew ?_ | refine blk_alloc ?_ _)); exact BK105.out) hb); have n1_ := Aside0.mk (below_step (by repeat (first | (with_reducible first | exact HB.out | apply below_alloc | apply pw_below_drewN | apply below_drew1 | refine below_set ?_ GE105.out) | exact HB.out)) hb); clear BK105; clear HB; have BK105 := n0_; have HB := n1_; clear n0_ n1_; (try clear hb); (try clear hb2); (try clear hk); (try clear hi); have hcz75_0 : w74.cell? ⟨gb105, 0, none⟩ = some (.int .u64 x106000_0) := (blk_cell BK105.out 0).trans rfl; have hcz75_1 : w74.cell? ⟨gb105, 1, none⟩ = some (.int .u64 x106001_0) := (blk_cell BK105.out 1).trans rfl; have hfz75_0 := blk_frozen BK105.out 0; have hfz75_1 := blk_frozen BK105.out 1) | (go_at_call 20; (with_reducible refine (window_Window_Bits.calls x106000_0 x106001_0 t125 _ A59.out).mono ?_); rintro e w76 ⟨rfl, hb⟩; have n0_ := Aside0.mk (blk_below (g := gb105) (o := .cells #[.int .u64 x106000_0, .int .u64 x106001_0] 26 (0, 0)) (by (with_reducible repeat (first | refine blk_drewN ?_ _ | refine blk_drew ?_ | refine blk_alloc ?_ _)); exact BK105.out) hb); have n1_ := Aside0.mk (below_step (by repeat (first | (with_reducible first | exact HB.out | apply below_alloc | apply pw_below_drewN | apply below_drew1 | refine below_set ?_ GE105.out) | exact HB.out)) hb); clear BK105; clear HB; have BK105 := n0_; have HB := n1_; clear n0_ n1_; (try clear hb); (try clear hb2); (try clear hk); (try clear hi)) | (go_at_call 16; (with_reducible refine (window_Window_Mark.calls kj0 gb105 x106000_0 x106001_0 67 t126 t127 t128 w _ ?side1 ?side2 A61.out).mono ?_); (case side1 => repeat (first | (with_reducible first | exact (Aside0.mk (IsS26.mk_ BK105.out GE105.out)).out | apply IsS26.alloc | apply IsS26.drewN | apply IsS26.drew | apply IsS26.set_0 | apply IsS26.set_1) | exact (Aside0.mk (IsS26.mk_ BK105.out GE105.out)).out)); (case side2 => repeat (first | (with_reducible first | exact HB.out | apply below_alloc | apply pw_below_drewN | apply below_drew1 | refine below_set ?_ (IsS26.ge (Aside0.mk (IsS26.mk_ BK105.out GE105.out)).out)) | exact HB.out)); rintro e w77 ⟨rfl, hi, hb, hk⟩; have n0_ := Aside0.mk (hb); have n1_ := Aside0.mk (hi.1); clear HB; clear BK105; have HB := n0_; have BK105 := n1_; clear n0_ n1_; (try clear hb); (try clear hb2); (try clear hk); (try clear hi)) | (go_at_call 12; (with_reducible refine (joustlaw09_num.calls t126 t129 _ A62.out).mono ?_); rintro e w' ⟨rfl, ⟨nd, rfl⟩⟩; have hcz78_0 : w77.cell? ⟨gb105, 0, none⟩ = some (.int .u64 t127) := (blk_cell BK105.out 0).trans rfl; have hcz78_1 : w77.cell? ⟨gb105, 1, none⟩ = some (.int .u64 t128) := (blk_cell BK105.out 1).trans rfl; have hfz78_0 := blk_frozen BK105.out 0; have hfz78_1 := blk_frozen BK105.out 1) | (go_at_call 20; (with_reducible refine (window_Window_Bits.calls t127 t128 t130 _ A64.out).mono ?_); rintro e w79 ⟨rfl, hb⟩; have n0_ := Aside0.mk (blk_below (g := gb105) (o := .cells #[.int .u64 t127, .int .u64 t128] 26 (0, 0)) (by (with_reducible repeat (first | refine blk_drewN ?_ _ | refine blk_drew ?_ | refine blk_alloc ?_ _)); exact BK105.out) hb); have n1_ := Aside0.mk (below_step (by repeat (first | (with_reducible first | exact HB.out | apply below_alloc | apply pw_below_drewN | apply below_drew1 | refine below_set ?_ GE105.out) | exact HB.out)) hb); clear BK105; clear HB; have BK105 := n0_; have HB := n1_; clear n0_ n1_; (try clear hb); (try clear hb2); (try clear hk); (try clear hi); have hcz80_0 : w79.cell? ⟨gb105, 0, none⟩ = some (.int .u64 t127) := (blk_cell BK105.out 0).trans rfl; have hcz80_1 : w79.cell? ⟨gb105, 1, none⟩ = some (.int .u64 t128) := (blk_cell BK105.out 1).trans rfl; have hfz80_0 := blk_frozen BK105.out 0; have hfz80_1 := blk_frozen BK105.out 1) | (go_at_call 13; (with_reducible refine (window_Window_Check.calls kj0 t127 t128 3 t131 _ A66.out).mono ?_); rintro e w81 ⟨rfl, hb⟩; have n0_ := Aside0.mk (blk_below (g := gb105) (o := .cells #[.int .u64 t127, .int .u64 t128] 26 (0, 0)) (by (with_reducible repeat (first | refine blk_drewN ?_ _ | refine blk_drew ?_ | refine blk_alloc ?_ _)); exact BK105.out) hb); have n1_ := Aside0.mk (below_step (by repeat (first | (with_reducible first | exact HB.out | apply below_alloc | apply pw_below_drewN | apply below_drew1 | refine below_set ?_ GE105.out) | exact HB.out)) hb); clear BK105; clear HB; have BK105 := n0_; have HB := n1_; clear n0_ n1_; (try clear hb); (try clear hb2); (try clear hk); (try clear hi)) | (go_at_call 12; (with_reducible refine (joustlaw09_num.calls t131 t132 _ A67.out).mono ?_); rintro e w' ⟨rfl, ⟨nd, rfl⟩⟩) | (go_at_call 16; (with_reducible refine (window_Window_Mark.calls kj0 gb105 t127 t128 4 t133 t134 t135 w _ ?side1 ?side2 A69.out).mono ?_); (case side1 => repeat (first | (with_reducible first | exact (Aside0.mk (IsS26.mk_ BK105.out GE105.out)).out | apply IsS26.alloc | apply IsS26.drewN | apply IsS26.drew | apply IsS26.set_0 | apply IsS26.set_1) | exact (Aside0.mk (IsS26.mk_ BK105.out GE105.out)).out)); (case side2 => repeat (first | (with_reducible first | exact HB.out | apply below_alloc | apply pw_below_drewN | apply below_drew1 | refine below_set ?_ (IsS26.ge (Aside0.mk (IsS26.mk_ BK105.out GE105.out)).out)) | exact HB.out)); rintro e w82 ⟨rfl, hi, hb, hk⟩; have n0_ := Aside0.mk (hb); have n1_ := Aside0.mk (hi.1); clear HB; clear BK105; have HB := n0_; have BK105 := n1_; clear n0_ n1_; (try clear hb); (try clear hb2); (try clear hk); (try clear hi)) | (go_at_call 12; (with_reducible refine (joustlaw09_num.calls t133 t136 _ A70.out).mono ?_); rintro e w' ⟨rfl, ⟨nd, rfl⟩⟩; have hcz83_0 : w82.cell? ⟨gb105, 0, none⟩ = some (.int .u64 t134) := (blk_cell BK105.out 0).trans rfl; have hcz83_1 : w82.cell? ⟨gb105, 1, none⟩ = some (.int .u64 t135) := (blk_cell BK105.out 1).trans rfl; have hfz83_0 := blk_frozen BK105.out 0; have hfz83_1 := blk_frozen BK105.out 1) | (go_at_call 20; (with_reducible refine (window_Window_Bits.calls t134 t135 t137 _ A72.out).mono ?_); rintro e w84 ⟨rfl, hb⟩; have n0_ := Aside0.mk (blk_below (g := gb105) (o := .cells #[.int .u64 t134, .int .u64 t135] 26 (0, 0)) (by (with_reducible repeat (first | refine blk_drewN ?_ _ | refine blk_drew ?_ | refine blk_alloc ?_ _)); exact BK105.out) hb); have n1_ := Aside0.mk (below_step (by repeat (first | (with_reducible first | exact HB.out | apply below_alloc | apply pw_below_drewN | apply below_drew1 | refine below_set ?_ GE105.out) | exact HB.out)) hb); clear BK105; clear HB; have BK105 := n0_; have HB := n1_; clear n0_ n1_; (try clear hb); (try clear hb2); (try clear hk); (try clear hi)))
                    go_ret
                    exact ⟨by first | rfl | (simp [errW_none, errW_some] <;> rfl) | (simp [*, errW_none, errW_some] <;> rfl), by repeat (first | (with_reducible first | exact HB.out | apply below_alloc | apply pw_below_drewN | apply below_drew1 | refine below_set ?_ GE105.out) | exact HB.out)⟩
                  · rw [if_neg c71] at H
                    have c71b0 : (t136 == 0) = false := beq_eq_false_iff_ne.mpr c71
                    have c71b1 : (t136 != 0) = true := bne_iff_ne.mpr c71
                    obtain rfl := Option.some.inj H
                    have hcz85_0 : wc.cell? ⟨gb105, 0, none⟩ = some (.int .u64 x106000_0) := (blk_cell BK105.out 0).trans rfl
                    have hcz85_1 : wc.cell? ⟨gb105, 1, none⟩ = some (.int .u64 x106001_0) := (blk_cell BK105.out 1).trans rfl
                    have hfz85_0 := blk_frozen BK105.out 0
                    have hfz85_1 := blk_frozen BK105.out 1
                    go_wp2_with (first | ((with_reducible refine gate_callee (f := 18) rfl ?_); refine goesL_ (some 34) rfl rfl Try.func18 (by kernel_rfl) rfl #[.agg #[.int .u64 x106000_0, .int .u64 x106001_0]] rfl (by (try simp only [List.map_toArray, List.map_cons, List.map_nil]); first | done | rfl | (simp only [List.length_drop, List.length_take]; rfl)) ?_; (with_reducible refine (window_Window_High.calls x106000_0 x106001_0 t124 _ A57.out).mono ?_); rintro e w86 ⟨rfl, hb⟩; refine ⟨_, rfl, ?_⟩; have n0_ := Aside0.mk (blk_below (g := gb105) (o := .cells #[.int .u64 x106000_0, .int .u64 x106001_0] 26 (0, 0)) (by (with_reducible repeat (first | refine blk_drewN ?_ _ | refine blk_drew ?_ | refine blk_alloc ?_ _)); exact BK105.out) hb); have n1_ := Aside0.mk (below_step (by repeat (first | (with_reducible first | exact HB.out | apply below_alloc | apply pw_below_drewN | apply below_drew1 | refine below_set ?_ GE105.out) | exact HB.out)) hb); clear BK105; clear HB; have BK105 := n0_; have HB := n1_; clear n0_ n1_; (try clear hb); (try clear hb2); (try clear hk); (try clear hi); have hcz87_0 : w86.cell? ⟨gb105, 0, none⟩ = some (.int .u64 x106000_0) := (blk_cell BK105.out 0).trans rfl; have hcz87_1 : w86.cell? ⟨gb105, 1, none⟩ = some (.int .u64 x106001_0) := (blk_cell BK105.out 1).trans rfl; have hfz87_0 := blk_frozen BK105.out 0; have hfz87_1 := blk_frozen BK105.out 1) | (go_at_call 20; (with_reducible refine (window_Window_Bits.calls x106000_0 x106001_0 t125 _ A59.out).mono ?_); rintro e w88 ⟨rfl, hb⟩; have n0_ := Aside0.mk (blk_below (g := gb105) (o := .cells #[.int .u64 x106000_0, .int .u64 x106001_0] 26 (0, 0)) (by (with_reducible repeat (first | refine blk_drewN ?_ _ | refine blk_drew ?_ | refine blk_alloc ?_ _)); exact BK105.out) hb); have n1_ := Aside0.mk (below_step (by repeat (first | (with_reducible first | exact HB.out | apply below_alloc | apply pw_below_drewN | apply below_drew1 | refine below_set ?_ GE105.out) | exact HB.out)) hb); clear BK105; clear HB; have BK105 := n0_; have HB := n1_; clear n0_ n1_; (try clear hb); (try clear hb2); (try clear hk); (try clear hi)) | (go_at_call 16; (with_reducible refine (window_Window_Mark.calls kj0 gb105 x106000_0 x106001_0 67 t126 t127 t128 w _ ?side1 ?side2 A61.out).mono ?_); (case side1 => repeat (first | (with_reducible first | exact (Aside0.mk (IsS26.mk_ BK105.out GE105.out)).out | apply IsS26.alloc | apply IsS26.drewN | apply IsS26.drew | apply IsS26.set_0 | apply IsS26.set_1) | exact (Aside0.mk (IsS26.mk_ BK105.out GE105.out)).out)); (case side2 => repeat (first | (with_reducible first | exact HB.out | apply below_alloc | apply pw_below_drewN | apply below_drew1 | refine below_set ?_ (IsS26.ge (Aside0.mk (IsS26.mk_ BK105.out GE105.out)).out)) | exact HB.out)); rintro e w89 ⟨rfl, hi, hb, hk⟩; have n0_ := Aside0.mk (hb); have n1_ := Aside0.mk (hi.1); clear HB; clear BK105; have HB := n0_; have BK105 := n1_; clear n0_ n1_; (try clear hb); (try clear hb2); (try clear hk); (try clear hi)) | (go_at_call 12; (with_reducible refine (joustlaw09_num.calls t126 t129 _ A62.out).mono ?_); rintro e w' ⟨rfl, ⟨nd, rfl⟩⟩; have hcz90_0 : w89.cell? ⟨gb105, 0, none⟩ = some (.int .u64 t127) := (blk_cell BK105.out 0).trans rfl; have hcz90_1 : w89.cell? ⟨gb105, 1, none⟩ = some (.int .u64 t128) := (blk_cell BK105.out 1).trans rfl; have hfz90_0 := blk_frozen BK105.out 0; have hfz90_1 := blk_frozen BK105.out 1) | (go_at_call 20; (with_reducible refine (window_Window_Bits.calls t127 t128 t130 _ A64.out).mono ?_); rintro e w91 ⟨rfl, hb⟩; have n0_ := Aside0.mk (blk_below (g := gb105) (o := .cells #[.int .u64 t127, .int .u64 t128] 26 (0, 0)) (by (with_reducible repeat (first | refine blk_drewN ?_ _ | refine blk_drew ?_ | refine blk_alloc ?_ _)); exact BK105.out) hb); have n1_ := Aside0.mk (below_step (by repeat (first | (with_reducible first | exact HB.out | apply below_alloc | apply pw_below_drewN | apply below_drew1 | refine below_set ?_ GE105.out) | exact HB.out)) hb); clear BK105; clear HB; have BK105 := n0_; have HB := n1_; clear n0_ n1_; (try clear hb); (try clear hb2); (try clear hk); (try clear hi); have hcz92_0 : w91.cell? ⟨gb105, 0, none⟩ = some (.int .u64 t127) := (blk_cell BK105.out 0).trans rfl; have hcz92_1 : w91.cell? ⟨gb105, 1, none⟩ = some (.int .u64 t128) := (blk_cell BK105.out 1).trans rfl; have hfz92_0 := blk_frozen BK105.out 0; have hfz92_1 := blk_frozen BK105.out 1) | (go_at_call 13; (with_reducible refine (window_Window_Check.calls kj0 t127 t128 3 t131 _ A66.out).mono ?_); rintro e w93 ⟨rfl, hb⟩; have n0_ := Aside0.mk (blk_below (g := gb105) (o := .cells #[.int .u64 t127, .int .u64 t128] 26 (0, 0)) (by (with_reducible repeat (first | refine blk_drewN ?_ _ | refine blk_drew ?_ | refine blk_alloc ?_ _)); exact BK105.out) hb); have n1_ := Aside0.mk (below_step (by repeat (first | (with_reducible first | exact HB.out | apply below_alloc | apply pw_below_drewN | apply below_drew1 | refine below_set ?_ GE105.out) | exact HB.out)) hb); clear BK105; clear HB; have BK105 := n0_; have HB := n1_; clear n0_ n1_; (try clear hb); (try clear hb2); (try clear hk); (try clear hi)) | (go_at_call 12; (with_reducible refine (joustlaw09_num.calls t131 t132 _ A67.out).mono ?_); rintro e w' ⟨rfl, ⟨nd, rfl⟩⟩) | (go_at_call 16; (with_reducible refine (window_Window_Mark.calls kj0 gb105 t127 t128 4 t133 t134 t135 w _ ?side1 ?side2 A69.out).mono ?_); (case side1 => repeat (first | (with_reducible first | exact (Aside0.mk (IsS26.mk_ BK105.out GE105.out)).out | apply IsS26.alloc | apply IsS26.drewN | apply IsS26.drew | apply IsS26.set_0 | apply IsS26.set_1) | exact (Aside0.mk (IsS26.mk_ BK105.out GE105.out)).out)); (case side2 => repeat (first | (with_reducible first | exact HB.out | apply below_alloc | apply pw_below_drewN | apply below_drew1 | refine below_set ?_ (IsS26.ge (Aside0.mk (IsS26.mk_ BK105.out GE105.out)).out)) | exact HB.out)); rintro e w94 ⟨rfl, hi, hb, hk⟩; have n0_ := Aside0.mk (hb); have n1_ := Aside0.mk (hi.1); clear HB; clear BK105; have HB := n0_; have BK105 := n1_; clear n0_ n1_; (try clear hb); (try clear hb2); (try clear hk); (try clear hi)) | (go_at_call 12; (with_reducible refine (joustlaw09_num.calls t133 t136 _ A70.out).mono ?_); rintro e w' ⟨rfl, ⟨nd, rfl⟩⟩))
                    go_ret
                    exact ⟨by first | rfl | (simp [errW_none, errW_some] <;> rfl) | (simp [*, errW_none, errW_some] <;> rfl), by repeat (first | (with_reducible first | exact HB.out | apply below_alloc | apply pw_below_drewN | apply below_drew1 | refine below_set ?_ GE105.out) | exact HB.out)⟩
                · rw [if_neg c68] at H
                  have c68b0 : (t132 == 90) = false := beq_eq_false_iff_ne.mpr c68
                  have c68b1 : (t132 != 90) = true := bne_iff_ne.mpr c68
                  obtain rfl := Option.some.inj H
                  have hcz95_0 : wc.cell? ⟨gb105, 0, none⟩ = some (.int .u64 x106000_0) := (blk_cell BK105.out 0).trans rfl
                  have hcz95_1 : wc.cell? ⟨gb105, 1, none⟩ = some (.int .u64 x106001_0) := (blk_cell BK105.out 1).trans rfl
                  have hfz95_0 := blk_frozen BK105.out 0
                  have hfz95_1 := blk_frozen BK105.out 1
                  go_wp2_with (first | ((with_reducible refine gate_callee (f := 18) rfl ?_); refine goesL_ (some 34) rfl rfl Try.func18 (by kernel_rfl) rfl #[.agg #[.int .u64 x106000_0, .int .u64 x106001_0]] rfl (by (try simp only [List.map_toArray, List.map_cons, List.map_nil]); first | done | rfl | (simp only [List.length_drop, List.length_take]; rfl)) ?_; (with_reducible refine (window_Window_High.calls x106000_0 x106001_0 t124 _ A57.out).mono ?_); rintro e w96 ⟨rfl, hb⟩; refine ⟨_, rfl, ?_⟩; have n0_ := Aside0.mk (blk_below (g := gb105) (o := .cells #[.int .u64 x106000_0, .int .u64 x106001_0] 26 (0, 0)) (by (with_reducible repeat (first | refine blk_drewN ?_ _ | refine blk_drew ?_ | refine blk_alloc ?_ _)); exact BK105.out) hb); have n1_ := Aside0.mk (below_step (by repeat (first | (with_reducible first | exact HB.out | apply below_alloc | apply pw_below_drewN | apply below_drew1 | refine below_set ?_ GE105.out) | exact HB.out)) hb); clear BK105; clear HB; have BK105 := n0_; have HB := n1_; clear n0_ n1_; (try clear hb); (try clear hb2); (try clear hk); (try clear hi); have hcz97_0 : w96.cell? ⟨gb105, 0, none⟩ = some (.int .u64 x106000_0) := (blk_cell BK105.out 0).trans rfl; have hcz97_1 : w96.cell? ⟨gb105, 1, none⟩ = some (.int .u64 x106001_0) := (blk_cell BK105.out 1).trans rfl; have hfz97_0 := blk_frozen BK105.out 0; have hfz97_1 := blk_frozen BK105.out 1) | (go_at_call 20; (with_reducible refine (window_Window_Bits.calls x106000_0 x106001_0 t125 _ A59.out).mono ?_); rintro e w98 ⟨rfl, hb⟩; have n0_ := Aside0.mk (blk_below (g := gb105) (o := .cells #[.int .u64 x106000_0, .int .u64 x106001_0] 26 (0, 0)) (by (with_reducible repeat (first | refine blk_drewN ?_ _ | refine blk_drew ?_ | refine blk_alloc ?_ _)); exact BK105.out) hb); have n1_ := Aside0.mk (below_step (by repeat (first | (with_reducible first | exact HB.out | apply below_alloc | apply pw_below_drewN | apply below_drew1 | refine below_set ?_ GE105.out) | exact HB.out)) hb); clear BK105; clear HB; have BK105 := n0_; have HB := n1_; clear n0_ n1_; (try clear hb); (try clear hb2); (try clear hk); (try clear hi)) | (go_at_call 16; (with_reducible refine (window_Window_Mark.calls kj0 gb105 x106000_0 x106001_0 67 t126 t127 t128 w _ ?side1 ?side2 A61.out).mono ?_); (case side1 => repeat (first | (with_reducible first | exact (Aside0.mk (IsS26.mk_ BK105.out GE105.out)).out | apply IsS26.alloc | apply IsS26.drewN | apply IsS26.drew | apply IsS26.set_0 | apply IsS26.set_1) | exact (Aside0.mk (IsS26.mk_ BK105.out GE105.out)).out)); (case side2 => repeat (first | (with_reducible first | exact HB.out | apply below_alloc | apply pw_below_drewN | apply below_drew1 | refine below_set ?_ (IsS26.ge (Aside0.mk (IsS26.mk_ BK105.out GE105.out)).out)) | exact HB.out)); rintro e w99 ⟨rfl, hi, hb, hk⟩; have n0_ := Aside0.mk (hb); have n1_ := Aside0.mk (hi.1); clear HB; clear BK105; have HB := n0_; have BK105 := n1_; clear n0_ n1_; (try clear hb); (try clear hb2); (try clear hk); (try clear hi)) | (go_at_call 12; (with_reducible refine (joustlaw09_num.calls t126 t129 _ A62.out).mono ?_); rintro e w' ⟨rfl, ⟨nd, rfl⟩⟩; have hcz100_0 : w99.cell? ⟨gb105, 0, none⟩ = some (.int .u64 t127) := (blk_cell BK105.out 0).trans rfl; have hcz100_1 : w99.cell? ⟨gb105, 1, none⟩ = some (.int .u64 t128) := (blk_cell BK105.out 1).trans rfl; have hfz100_0 := blk_frozen BK105.out 0; have hfz100_1 := blk_frozen BK105.out 1) | (go_at_call 20; (with_reducible refine (window_Window_Bits.calls t127 t128 t130 _ A64.out).mono ?_); rintro e w101 ⟨rfl, hb⟩; have n0_ := Aside0.mk (blk_below (g := gb105) (o := .cells #[.int .u64 t127, .int .u64 t128] 26 (0, 0)) (by (with_reducible repeat (first | refine blk_drewN ?_ _ | refine blk_drew ?_ | refine blk_alloc ?_ _)); exact BK105.out) hb); have n1_ := Aside0.mk (below_step (by repeat (first | (with_reducible first | exact HB.out | apply below_alloc | apply pw_below_drewN | apply below_drew1 | refine below_set ?_ GE105.out) | exact HB.out)) hb); clear BK105; clear HB; have BK105 := n0_; have HB := n1_; clear n0_ n1_; (try clear hb); (try clear hb2); (try clear hk); (try clear hi); have hcz102_0 : w101.cell? ⟨gb105, 0, none⟩ = some (.int .u64 t127) := (blk_cell BK105.out 0).trans rfl; have hcz102_1 : w101.cell? ⟨gb105, 1, none⟩ = some (.int .u64 t128) := (blk_cell BK105.out 1).trans rfl; have hfz102_0 := blk_frozen BK105.out 0; have hfz102_1 := blk_frozen BK105.out 1) | (go_at_call 13; (with_reducible refine (window_Window_Check.calls kj0 t127 t128 3 t131 _ A66.out).mono ?_); rintro e w103 ⟨rfl, hb⟩; have n0_ := Aside0.mk (blk_below (g := gb105) (o := .cells #[.int .u64 t127, .int .u64 t128] 26 (0, 0)) (by (with_reducible repeat (first | refine blk_drewN ?_ _ | refine blk_drew ?_ | refine blk_alloc ?_ _)); exact BK105.out) hb); have n1_ := Aside0.mk (below_step (by repeat (first | (with_reducible first | exact HB.out | apply below_alloc | apply pw_below_drewN | apply below_drew1 | refine below_set ?_ GE105.out) | exact HB.out)) hb); clear BK105; clear HB; have BK105 := n0_; have HB := n1_; clear n0_ n1_; (try clear hb); (try clear hb2); (try clear hk); (try clear hi)) | (go_at_call 12; (with_reducible refine (joustlaw09_num.calls t131 t132 _ A67.out).mono ?_); rintro e w' ⟨rfl, ⟨nd, rfl⟩⟩))
                  go_ret
                  exact ⟨by first | rfl | (simp [errW_none, errW_some] <;> rfl) | (simp [*, errW_none, errW_some] <;> rfl), by repeat (first | (with_reducible first | exact HB.out | apply below_alloc | apply pw_below_drewN | apply below_drew1 | refine below_set ?_ GE105.out) | exact HB.out)⟩
              · rw [if_neg c65] at H
                have c65b0 : (t130 == 1) = false := beq_eq_false_iff_ne.mpr c65
                have c65b1 : (t130 != 1) = true := bne_iff_ne.mpr c65
                obtain rfl := Option.some.inj H
                have hcz104_0 : wc.cell? ⟨gb105, 0, none⟩ = some (.int .u64 x106000_0) := (blk_cell BK105.out 0).trans rfl
                have hcz104_1 : wc.cell? ⟨gb105, 1, none⟩ = some (.int .u64 x106001_0) := (blk_cell BK105.out 1).trans rfl
                have hfz104_0 := blk_frozen BK105.out 0
                have hfz104_1 := blk_frozen BK105.out 1
                go_wp2_with (first | ((with_reducible refine gate_callee (f := 18) rfl ?_); refine goesL_ (some 34) rfl rfl Try.func18 (by kernel_rfl) rfl #[.agg #[.int .u64 x106000_0, .int .u64 x106001_0]] rfl (by (try simp only [List.map_toArray, List.map_cons, List.map_nil]); first | done | rfl | (simp only [List.length_drop, List.length_take]; rfl)) ?_; (with_reducible refine (window_Window_High.calls x106000_0 x106001_0 t124 _ A57.out).mono ?_); rintro e w105 ⟨rfl, hb⟩; refine ⟨_, rfl, ?_⟩; have n0_ := Aside0.mk (blk_below (g := gb105) (o := .cells #[.int .u64 x106000_0, .int .u64 x106001_0] 26 (0, 0)) (by (with_reducible repeat (first | refine blk_drewN ?_ _ | refine blk_drew ?_ | refine blk_alloc ?_ _)); exact BK105.out) hb); have n1_ := Aside0.mk (below_step (by repeat (first | (with_reducible first | exact HB.out | apply below_alloc | apply pw_below_drewN | apply below_drew1 | refine below_set ?_ GE105.out) | exact HB.out)) hb); clear BK105; clear HB; have BK105 := n0_; have HB := n1_; clear n0_ n1_; (try clear hb); (try clear hb2); (try clear hk); (try clear hi); have hcz106_0 : w105.cell? ⟨gb105, 0, none⟩ = some (.int .u64 x106000_0) := (blk_cell BK105.out 0).trans rfl; have hcz106_1 : w105.cell? ⟨gb105, 1, none⟩ = some (.int .u64 x106001_0) := (blk_cell BK105.out 1).trans rfl; have hfz106_0 := blk_frozen BK105.out 0; have hfz106_1 := blk_frozen BK105.out 1) | (go_at_call 20; (with_reducible refine (window_Window_Bits.calls x106000_0 x106001_0 t125 _ A59.out).mono ?_); rintro e w107 ⟨rfl, hb⟩; have n0_ := Aside0.mk (blk_below (g := gb105) (o := .cells #[.int .u64 x106000_0, .int .u64 x106001_0] 26 (0, 0)) (by (with_reducible repeat (first | refine blk_drewN ?_ _ | refine blk_drew ?_ | refine blk_alloc ?_ _)); exact BK105.out) hb); have n1_ := Aside0.mk (below_step (by repeat (first | (with_reducible first | exact HB.out | apply below_alloc | apply pw_below_drewN | apply below_drew1 | refine below_set ?_ GE105.out) | exact HB.out)) hb); clear BK105; clear HB; have BK105 := n0_; have HB := n1_; clear n0_ n1_; (try clear hb); (try clear hb2); (try clear hk); (try clear hi)) | (go_at_call 16; (with_reducible refine (window_Window_Mark.calls kj0 gb105 x106000_0 x106001_0 67 t126 t127 t128 w _ ?side1 ?side2 A61.out).mono ?_); (case side1 => repeat (first | (with_reducible first | exact (Aside0.mk (IsS26.mk_ BK105.out GE105.out)).out | apply IsS26.alloc | apply IsS26.drewN | apply IsS26.drew | apply IsS26.set_0 | apply IsS26.set_1) | exact (Aside0.mk (IsS26.mk_ BK105.out GE105.out)).out)); (case side2 => repeat (first | (with_reducible first | exact HB.out | apply below_alloc | apply pw_below_drewN | apply below_drew1 | refine below_set ?_ (IsS26.ge (Aside0.mk (IsS26.mk_ BK105.out GE105.out)).out)) | exact HB.out)); rintro e w108 ⟨rfl, hi, hb, hk⟩; have n0_ := Aside0.mk (hb); have n1_ := Aside0.mk (hi.1); clear HB; clear BK105; have HB := n0_; have BK105 := n1_; clear n0_ n1_; (try clear hb); (try clear hb2); (try clear hk); (try clear hi)) | (go_at_call 12; (with_reducible refine (joustlaw09_num.calls t126 t129 _ A62.out).mono ?_); rintro e w' ⟨rfl, ⟨nd, rfl⟩⟩; have hcz109_0 : w108.cell? ⟨gb105, 0, none⟩ = some (.int .u64 t127) := (blk_cell BK105.out 0).trans rfl; have hcz109_1 : w108.cell? ⟨gb105, 1, none⟩ = some (.int .u64 t128) := (blk_cell BK105.out 1).trans rfl; have hfz109_0 := blk_frozen BK105.out 0; have hfz109_1 := blk_frozen BK105.out 1) | (go_at_call 20; (with_reducible refine (window_Window_Bits.calls t127 t128 t130 _ A64.out).mono ?_); rintro e w110 ⟨rfl, hb⟩; have n0_ := Aside0.mk (blk_below (g := gb105) (o := .cells #[.int .u64 t127, .int .u64 t128] 26 (0, 0)) (by (with_reducible repeat (first | refine blk_drewN ?_ _ | refine blk_drew ?_ | refine blk_alloc ?_ _)); exact BK105.out) hb); have n1_ := Aside0.mk (below_step (by repeat (first | (with_reducible first | exact HB.out | apply below_alloc | apply pw_below_drewN | apply below_drew1 | refine below_set ?_ GE105.out) | exact HB.out)) hb); clear BK105; clear HB; have BK105 := n0_; have HB := n1_; clear n0_ n1_; (try clear hb); (try clear hb2); (try clear hk); (try clear hi)))
                go_ret
                exact ⟨by first | rfl | (simp [errW_none, errW_some] <;> rfl) | (simp [*, errW_none, errW_some] <;> rfl), by repeat (first | (with_reducible first | exact HB.out | apply below_alloc | apply pw_below_drewN | apply below_drew1 | refine below_set ?_ GE105.out) | exact HB.out)⟩
            · rw [if_neg c63] at H
              have c63b0 : (t129 == 0) = false := beq_eq_false_iff_ne.mpr c63
              have c63b1 : (t129 != 0) = true := bne_iff_ne.mpr c63
              obtain rfl := Option.some.inj H
              have hcz111_0 : wc.cell? ⟨gb105, 0, none⟩ = some (.int .u64 x106000_0) := (blk_cell BK105.out 0).trans rfl
              have hcz111_1 : wc.cell? ⟨gb105, 1, none⟩ = some (.int .u64 x106001_0) := (blk_cell BK105.out 1).trans rfl
              have hfz111_0 := blk_frozen BK105.out 0
              have hfz111_1 := blk_frozen BK105.out 1
              go_wp2_with (first | ((with_reducible refine gate_callee (f := 18) rfl ?_); refine goesL_ (some 34) rfl rfl Try.func18 (by kernel_rfl) rfl #[.agg #[.int .u64 x106000_0, .int .u64 x106001_0]] rfl (by (try simp only [List.map_toArray, List.map_cons, List.map_nil]); first | done | rfl | (simp only [List.length_drop, List.length_take]; rfl)) ?_; (with_reducible refine (window_Window_High.calls x106000_0 x106001_0 t124 _ A57.out).mono ?_); rintro e w112 ⟨rfl, hb⟩; refine ⟨_, rfl, ?_⟩; have n0_ := Aside0.mk (blk_below (g := gb105) (o := .cells #[.int .u64 x106000_0, .int .u64 x106001_0] 26 (0, 0)) (by (with_reducible repeat (first | refine blk_drewN ?_ _ | refine blk_drew ?_ | refine blk_alloc ?_ _)); exact BK105.out) hb); have n1_ := Aside0.mk (below_step (by repeat (first | (with_reducible first | exact HB.out | apply below_alloc | apply pw_below_drewN | apply below_drew1 | refine below_set ?_ GE105.out) | exact HB.out)) hb); clear BK105; clear HB; have BK105 := n0_; have HB := n1_; clear n0_ n1_; (try clear hb); (try clear hb2); (try clear hk); (try clear hi); have hcz113_0 : w112.cell? ⟨gb105, 0, none⟩ = some (.int .u64 x106000_0) := (blk_cell BK105.out 0).trans rfl; have hcz113_1 : w112.cell? ⟨gb105, 1, none⟩ = some (.int .u64 x106001_0) := (blk_cell BK105.out 1).trans rfl; have hfz113_0 := blk_frozen BK105.out 0; have hfz113_1 := blk_frozen BK105.out 1) | (go_at_call 20; (with_reducible refine (window_Window_Bits.calls x106000_0 x106001_0 t125 _ A59.out).mono ?_); rintro e w114 ⟨rfl, hb⟩; have n0_ := Aside0.mk (blk_below (g := gb105) (o := .cells #[.int .u64 x106000_0, .int .u64 x106001_0] 26 (0, 0)) (by (with_reducible repeat (first | refine blk_drewN ?_ _ | refine blk_drew ?_ | refine blk_alloc ?_ _)); exact BK105.out) hb); have n1_ := Aside0.mk (below_step (by repeat (first | (with_reducible first | exact HB.out | apply below_alloc | apply pw_below_drewN | apply below_drew1 | refine below_set ?_ GE105.out) | exact HB.out)) hb); clear BK105; clear HB; have BK105 := n0_; have HB := n1_; clear n0_ n1_; (try clear hb); (try clear hb2); (try clear hk); (try clear hi)) | (go_at_call 16; (with_reducible refine (window_Window_Mark.calls kj0 gb105 x106000_0 x106001_0 67 t126 t127 t128 w _ ?side1 ?side2 A61.out).mono ?_); (case side1 => repeat (first | (with_reducible first | exact (Aside0.mk (IsS26.mk_ BK105.out GE105.out)).out | apply IsS26.alloc | apply IsS26.drewN | apply IsS26.drew | apply IsS26.set_0 | apply IsS26.set_1) | exact (Aside0.mk (IsS26.mk_ BK105.out GE105.out)).out)); (case side2 => repeat (first | (with_reducible first | exact HB.out | apply below_alloc | apply pw_below_drewN | apply below_drew1 | refine below_set ?_ (IsS26.ge (Aside0.mk (IsS26.mk_ BK105.out GE105.out)).out)) | exact HB.out)); rintro e w115 ⟨rfl, hi, hb, hk⟩; have n0_ := Aside0.mk (hb); have n1_ := Aside0.mk (hi.1); clear HB; clear BK105; have HB := n0_; have BK105 := n1_; clear n0_ n1_; (try clear hb); (try clear hb2); (try clear hk); (try clear hi)) | (go_at_call 12; (with_reducible refine (joustlaw09_num.calls t126 t129 _ A62.out).mono ?_); rintro e w' ⟨rfl, ⟨nd, rfl⟩⟩))
              go_ret
              exact ⟨by first | rfl | (simp [errW_none, errW_some] <;> rfl) | (simp [*, errW_none, errW_some] <;> rfl), by repeat (first | (with_reducible first | exact HB.out | apply below_alloc | apply pw_below_drewN | apply below_drew1 | refine below_set ?_ GE105.out) | exact HB.out)⟩
          · rw [if_neg c60] at H
            have c60b0 : (t125 == 5) = false := beq_eq_false_iff_ne.mpr c60
            have c60b1 : (t125 != 5) = true := bne_iff_ne.mpr c60
            obtain rfl := Option.some.inj H
            have hcz116_0 : wc.cell? ⟨gb105, 0, none⟩ = some (.int .u64 x106000_0) := (blk_cell BK105.out 0).trans rfl
            have hcz116_1 : wc.cell? ⟨gb105, 1, none⟩ = some (.int .u64 x106001_0) := (blk_cell BK105.out 1).trans rfl
            have hfz116_0 := blk_frozen BK105.out 0
            have hfz116_1 := blk_frozen BK105.out 1
            go_wp2_with (first | ((with_reducible refine gate_callee (f := 18) rfl ?_); refine goesL_ (some 34) rfl rfl Try.func18 (by kernel_rfl) rfl #[.agg #[.int .u64 x106000_0, .int .u64 x106001_0]] rfl (by (try simp only [List.map_toArray, List.map_cons, List.map_nil]); first | done | rfl | (simp only [List.length_drop, List.length_take]; rfl)) ?_; (with_reducible refine (window_Window_High.calls x106000_0 x106001_0 t124 _ A57.out).mono ?_); rintro e w117 ⟨rfl, hb⟩; refine ⟨_, rfl, ?_⟩; have n0_ := Aside0.mk (blk_below (g := gb105) (o := .cells #[.int .u64 x106000_0, .int .u64 x106001_0] 26 (0, 0)) (by (with_reducible repeat (first | refine blk_drewN ?_ _ | refine blk_drew ?_ | refine blk_alloc ?_ _)); exact BK105.out) hb); have n1_ := Aside0.mk (below_step (by repeat (first | (with_reducible first | exact HB.out | apply below_alloc | apply pw_below_drewN | apply below_drew1 | refine below_set ?_ GE105.out) | exact HB.out)) hb); clear BK105; clear HB; have BK105 := n0_; have HB := n1_; clear n0_ n1_; (try clear hb); (try clear hb2); (try clear hk); (try clear hi); have hcz118_0 : w117.cell? ⟨gb105, 0, none⟩ = some (.int .u64 x106000_0) := (blk_cell BK105.out 0).trans rfl; have hcz118_1 : w117.cell? ⟨gb105, 1, none⟩ = some (.int .u64 x106001_0) := (blk_cell BK105.out 1).trans rfl; have hfz118_0 := blk_frozen BK105.out 0; have hfz118_1 := blk_frozen BK105.out 1) | (go_at_call 20; (with_reducible refine (window_Window_Bits.calls x106000_0 x106001_0 t125 _ A59.out).mono ?_); rintro e w119 ⟨rfl, hb⟩; have n0_ := Aside0.mk (blk_below (g := gb105) (o := .cells #[.int .u64 x106000_0, .int .u64 x106001_0] 26 (0, 0)) (by (with_reducible repeat (first | refine blk_drewN ?_ _ | refine blk_drew ?_ | refine blk_alloc ?_ _)); exact BK105.out) hb); have n1_ := Aside0.mk (below_step (by repeat (first | (with_reducible first | exact HB.out | apply below_alloc | apply pw_below_drewN | apply below_drew1 | refine below_set ?_ GE105.out) | exact HB.out)) hb); clear BK105; clear HB; have BK105 := n0_; have HB := n1_; clear n0_ n1_; (try clear hb); (try clear hb2); (try clear hk); (try clear hi)))
            go_ret
            exact ⟨by first | rfl | (simp [errW_none, errW_some] <;> rfl) | (simp [*, errW_none, errW_some] <;> rfl), by repeat (first | (with_reducible first | exact HB.out | apply below_alloc | apply pw_below_drewN | apply below_drew1 | refine below_set ?_ GE105.out) | exact HB.out)⟩
        · rw [if_neg c58] at H
          have c58b0 : (t124 == 3) = false := beq_eq_false_iff_ne.mpr c58
          have c58b1 : (t124 != 3) = true := bne_iff_ne.mpr c58
          obtain rfl := Option.some.inj H
          have hcz120_0 : wc.cell? ⟨gb105, 0, none⟩ = some (.int .u64 x106000_0) := (blk_cell BK105.out 0).trans rfl
          have hcz120_1 : wc.cell? ⟨gb105, 1, none⟩ = some (.int .u64 x106001_0) := (blk_cell BK105.out 1).trans rfl
          have hfz120_0 := blk_frozen BK105.out 0
          have hfz120_1 := blk_frozen BK105.out 1
          go_wp2_with (first | ((with_reducible refine gate_callee (f := 18) rfl ?_); refine goesL_ (some 34) rfl rfl Try.func18 (by kernel_rfl) rfl #[.agg #[.int .u64 x106000_0, .int .u64 x106001_0]] rfl (by (try simp only [List.map_toArray, List.map_cons, List.map_nil]); first | done | rfl | (simp only [List.length_drop, List.length_take]; rfl)) ?_; (with_reducible refine (window_Window_High.calls x106000_0 x106001_0 t124 _ A57.out).mono ?_); rintro e w121 ⟨rfl, hb⟩; refine ⟨_, rfl, ?_⟩; have n0_ := Aside0.mk (blk_below (g := gb105) (o := .cells #[.int .u64 x106000_0, .int .u64 x106001_0] 26 (0, 0)) (by (with_reducible repeat (first | refine blk_drewN ?_ _ | refine blk_drew ?_ | refine blk_alloc ?_ _)); exact BK105.out) hb); have n1_ := Aside0.mk (below_step (by repeat (first | (with_reducible first | exact HB.out | apply below_alloc | apply pw_below_drewN | apply below_drew1 | refine below_set ?_ GE105.out) | exact HB.out)) hb); clear BK105; clear HB; have BK105 := n0_; have HB := n1_; clear n0_ n1_; (try clear hb); (try clear hb2); (try clear hk); (try clear hi)))
          go_ret
          exact ⟨by first | rfl | (simp [errW_none, errW_some] <;> rfl) | (simp [*, errW_none, errW_some] <;> rfl), by repeat (first | (with_reducible first | exact HB.out | apply below_alloc | apply pw_below_drewN | apply below_drew1 | refine below_set ?_ GE105.out) | exact HB.out)⟩

-- NOT PRINTED: function 4 (joustlaw09_WindowOnce)

end Go.Proofs.Ytidjnpfpbbffjaa.PWindowOnce
