-- Printed by a program of this session, a changed copy of the print
import Derived.Test.YtidjnpfpbbffjaaPBucketTicksx0
import Derived.Test.YtidjnpfpbbffjaaPBucketTicksx1
import Derived.Test.YtidjnpfpbbffjaaPBucketTicksx2
namespace Go.Proofs.Ytidjnpfpbbffjaa.PBucketTicks
open Go.RowKit Go.Proofs.YtidjnpfpbbffjaaW.PrintWords Go.Proofs.YtidjnpfpbbffjaaW.PrintLast Go.Proofs.YtidjnpfpbbffjaaW.PrintMore
attribute [local go_sem] max2_int min2_int max_two min_two max_three min_three max_four min_four   -- for this text's walks alone
set_option linter.unusedVariables false
set_option linter.unusedSimpArgs false

/-! ### joustlaw08_BucketTicks: function 9 -/
mutual
def joustlaw08_BucketTicks.l0 : Nat → Int → Int → Int → Int → Int → Int → Int → Option (Bool)
  | 0, _, _, _, _, _, _, _ => none
  | k + 1, x2, x8, x9, x11, x170000, x170001, x170002 => if x11 < (wrap64 ((wrap64 (Int.tdiv x9 2)) + 1)) then ((bucket_Bucket_Take.f x170000 x170001 x170002).bind fun bt170 => (if bt170.1 = 0 then (joustlaw08_BucketTicks.l0 k x2 x8 x9 (wrap64 (x11 + 1)) bt170.2.1 bt170.2.2.1 bt170.2.2.2) else (some false))) else ((bucket_Bucket_Ticks.f x170000 x170001 x170002 x2).bind fun bt175 => (joustlaw08_BucketTicks.l1 k x2 x8 x9 0 bt175.1 bt175.2.1 bt175.2.2 x170000 x170001 x170002))
def joustlaw08_BucketTicks.j2 : Nat → Int → Int → Int → Int → Int → Int → Int → Int → Int → Option (Bool)
  | 0, _, _, _, _, _, _, _, _, _ => none
  | k + 1, x2, x8, x9, x170000, x170001, x170002, x175000, x175001, x175002 => if x8 = 0 then ((bucket_Bucket_Left.f x170000 x170001 x170002).bind fun bt181 => (if bt181.1 = (wrap64 ((wrap64 (x9 - (wrap64 (Int.tdiv x9 2)))) - 1)) then (if x2 ≥ 16000 then (if x8 > 0 then ((bucket_Bucket_Left.f x170000 x170001 x170002).bind fun bt185 => (joustlaw08_BucketTicks.j3 k (bt185.1 != x9) x170000 x170001 x170002 x175000 x175001 x175002)) else (joustlaw08_BucketTicks.j3 k false x170000 x170001 x170002 x175000 x175001 x175002)) else (joustlaw08_BucketTicks.j3 k false x170000 x170001 x170002 x175000 x175001 x175002)) else (joustlaw08_BucketTicks.j3 k true x170000 x170001 x170002 x175000 x175001 x175002))) else (if x2 ≥ 16000 then (if x8 > 0 then ((bucket_Bucket_Left.f x170000 x170001 x170002).bind fun bt189 => (joustlaw08_BucketTicks.j3 k (bt189.1 != x9) x170000 x170001 x170002 x175000 x175001 x175002)) else (joustlaw08_BucketTicks.j3 k false x170000 x170001 x170002 x175000 x175001 x175002)) else (joustlaw08_BucketTicks.j3 k false x170000 x170001 x170002 x175000 x175001 x175002))
def joustlaw08_BucketTicks.j3 : Nat → Bool → Int → Int → Int → Int → Int → Int → Option (Bool)
  | 0, _, _, _, _, _, _, _ => none
  | k + 1, x70, x170000, x170001, x170002, x175000, x175001, x175002 => if x70 = true then (some false) else (joustlaw08_BucketTicks.l2 k 0 x170000 x170001 x170002 x175000 x175001 x175002)
def joustlaw08_BucketTicks.l2 : Nat → Int → Int → Int → Int → Int → Int → Int → Option (Bool)
  | 0, _, _, _, _, _, _, _ => none
  | k + 1, x14, x170000, x170001, x170002, x175000, x175001, x175002 => if x14 < 17 then ((bucket_Bucket_Left.f x170000 x170001 x170002).bind fun bt193 => ((bucket_Bucket_Left.f x175000 x175001 x175002).bind fun bt197 => (if bt193.1 = bt197.1 then ((bucket_Bucket_Tick.f x170000 x170001 x170002).bind fun bt201 => ((bucket_Bucket_Tick.f x175000 x175001 x175002).bind fun bt204 => (joustlaw08_BucketTicks.l2 k (wrap64 (x14 + 1)) bt201.1 bt201.2.1 bt201.2.2 bt204.1 bt204.2.1 bt204.2.2))) else (some false)))) else (some true)
def joustlaw08_BucketTicks.l1 : Nat → Int → Int → Int → Int → Int → Int → Int → Int → Int → Int → Option (Bool)
  | 0, _, _, _, _, _, _, _, _, _, _ => none
  | k + 1, x2, x8, x9, x13, x170000, x170001, x170002, x175000, x175001, x175002 => if x13 < x2 then (if x13 < 16000 then ((bucket_Bucket_Tick.f x175000 x175001 x175002).bind fun bt178 => (joustlaw08_BucketTicks.l1 k x2 x8 x9 (IntKind.u64.wrap (x13 + 1)) x170000 x170001 x170002 bt178.1 bt178.2.1 bt178.2.2)) else (joustlaw08_BucketTicks.j2 k x2 x8 x9 x170000 x170001 x170002 x175000 x175001 x175002)) else (joustlaw08_BucketTicks.j2 k x2 x8 x9 x170000 x170001 x170002 x175000 x175001 x175002)
end
def joustlaw08_BucketTicks.f (k : Nat) (a0 : Int) (a1 : Int) (a2 : Int) : Option (Bool) := (joustlaw08_full.f k a0 a1).bind fun bt163 => (if bt163.2.2.2.2.2 = true then (joustlaw08_BucketTicks.l0 k a2 bt163.2.2.2.1 bt163.2.2.2.2.1 0 bt163.1 bt163.2.1 bt163.2.2.1) else (some false))
theorem joustlaw08_BucketTicks.mono_l : ∀ k, (∀ y0 y1 y2 y3 y4 y5 y6, LeO (joustlaw08_BucketTicks.l0 k y0 y1 y2 y3 y4 y5 y6) (joustlaw08_BucketTicks.l0 (k + 1) y0 y1 y2 y3 y4 y5 y6)) ∧ (∀ y0 y1 y2 y3 y4 y5 y6 y7 y8, LeO (joustlaw08_BucketTicks.j2 k y0 y1 y2 y3 y4 y5 y6 y7 y8) (joustlaw08_BucketTicks.j2 (k + 1) y0 y1 y2 y3 y4 y5 y6 y7 y8)) ∧ (∀ y0 y1 y2 y3 y4 y5 y6, LeO (joustlaw08_BucketTicks.j3 k y0 y1 y2 y3 y4 y5 y6) (joustlaw08_BucketTicks.j3 (k + 1) y0 y1 y2 y3 y4 y5 y6)) ∧ (∀ y0 y1 y2 y3 y4 y5 y6, LeO (joustlaw08_BucketTicks.l2 k y0 y1 y2 y3 y4 y5 y6) (joustlaw08_BucketTicks.l2 (k + 1) y0 y1 y2 y3 y4 y5 y6)) ∧ (∀ y0 y1 y2 y3 y4 y5 y6 y7 y8 y9, LeO (joustlaw08_BucketTicks.l1 k y0 y1 y2 y3 y4 y5 y6 y7 y8 y9) (joustlaw08_BucketTicks.l1 (k + 1) y0 y1 y2 y3 y4 y5 y6 y7 y8 y9))
  | 0 => ⟨fun _ _ _ _ _ _ _ r h => by simp [joustlaw08_BucketTicks.l0] at h, fun _ _ _ _ _ _ _ _ _ r h => by simp [joustlaw08_BucketTicks.j2] at h, fun _ _ _ _ _ _ _ r h => by simp [joustlaw08_BucketTicks.j3] at h, fun _ _ _ _ _ _ _ r h => by simp [joustlaw08_BucketTicks.l2] at h, fun _ _ _ _ _ _ _ _ _ _ r h => by simp [joustlaw08_BucketTicks.l1] at h⟩
  | k + 1 => by
    obtain ⟨ih0, ih1, ih2, ih3, ih4⟩ := joustlaw08_BucketTicks.mono_l k
    refine ⟨?_, ?_, ?_, ?_, ?_⟩
    · intro y0 y1 y2 y3 y4 y5 y6
      unfold joustlaw08_BucketTicks.l0
      repeat' first
      | (with_reducible exact ih0 _ _ _ _ _ _ _)
      | (with_reducible exact ih1 _ _ _ _ _ _ _ _ _)
      | (with_reducible exact ih2 _ _ _ _ _ _ _)
      | (with_reducible exact ih3 _ _ _ _ _ _ _)
      | (with_reducible exact ih4 _ _ _ _ _ _ _ _ _ _)
      | (with_reducible exact joustlaw08_full.mono _ _ _)
      | (with_reducible exact LeO.refl _)
      | (with_reducible exact LeO.none _)
      | (with_reducible refine LeO.ite ?_ ?_)
      | (with_reducible refine LeO.bind ?_ (fun _ => ?_))
      | exact ih0 _ _ _ _ _ _ _
      | exact ih1 _ _ _ _ _ _ _ _ _
      | exact ih2 _ _ _ _ _ _ _
      | exact ih3 _ _ _ _ _ _ _
      | exact ih4 _ _ _ _ _ _ _ _ _ _
      | exact joustlaw08_full.mono _ _ _
      | exact LeO.none _
      | refine LeO.ite ?_ ?_
      | refine LeO.bind ?_ (fun _ => ?_)
    · intro y0 y1 y2 y3 y4 y5 y6 y7 y8
      unfold joustlaw08_BucketTicks.j2
      repeat' first
      | (with_reducible exact ih0 _ _ _ _ _ _ _)
      | (with_reducible exact ih1 _ _ _ _ _ _ _ _ _)
      | (with_reducible exact ih2 _ _ _ _ _ _ _)
      | (with_reducible exact ih3 _ _ _ _ _ _ _)
      | (with_reducible exact ih4 _ _ _ _ _ _ _ _ _ _)
      | (with_reducible exact joustlaw08_full.mono _ _ _)
      | (with_reducible exact LeO.refl _)
      | (with_reducible exact LeO.none _)
      | (with_reducible refine LeO.ite ?_ ?_)
      | (with_reducible refine LeO.bind ?_ (fun _ => ?_))
      | exact ih0 _ _ _ _ _ _ _
      | exact ih1 _ _ _ _ _ _ _ _ _
      | exact ih2 _ _ _ _ _ _ _
      | exact ih3 _ _ _ _ _ _ _
      | exact ih4 _ _ _ _ _ _ _ _ _ _
      | exact joustlaw08_full.mono _ _ _
      | exact LeO.none _
      | refine LeO.ite ?_ ?_
      | refine LeO.bind ?_ (fun _ => ?_)
    · intro y0 y1 y2 y3 y4 y5 y6
      unfold joustlaw08_BucketTicks.j3
      repeat' first
      | (with_reducible exact ih0 _ _ _ _ _ _ _)
      | (with_reducible exact ih1 _ _ _ _ _ _ _ _ _)
      | (with_reducible exact ih2 _ _ _ _ _ _ _)
      | (with_reducible exact ih3 _ _ _ _ _ _ _)
      | (with_reducible exact ih4 _ _ _ _ _ _ _ _ _ _)
      | (with_reducible exact joustlaw08_full.mono _ _ _)
      | (with_reducible exact LeO.refl _)
      | (with_reducible exact LeO.none _)
      | (with_reducible refine LeO.ite ?_ ?_)
      | (with_reducible refine LeO.bind ?_ (fun _ => ?_))
      | exact ih0 _ _ _ _ _ _ _
      | exact ih1 _ _ _ _ _ _ _ _ _
      | exact ih2 _ _ _ _ _ _ _
      | exact ih3 _ _ _ _ _ _ _
      | exact ih4 _ _ _ _ _ _ _ _ _ _
      | exact joustlaw08_full.mono _ _ _
      | exact LeO.none _
      | refine LeO.ite ?_ ?_
      | refine LeO.bind ?_ (fun _ => ?_)
    · intro y0 y1 y2 y3 y4 y5 y6
      unfold joustlaw08_BucketTicks.l2
      repeat' first
      | (with_reducible exact ih0 _ _ _ _ _ _ _)
      | (with_reducible exact ih1 _ _ _ _ _ _ _ _ _)
      | (with_reducible exact ih2 _ _ _ _ _ _ _)
      | (with_reducible exact ih3 _ _ _ _ _ _ _)
      | (with_reducible exact ih4 _ _ _ _ _ _ _ _ _ _)
      | (with_reducible exact joustlaw08_full.mono _ _ _)
      | (with_reducible exact LeO.refl _)
      | (with_reducible exact LeO.none _)
      | (with_reducible refine LeO.ite ?_ ?_)
      | (with_reducible refine LeO.bind ?_ (fun _ => ?_))
      | exact ih0 _ _ _ _ _ _ _
      | exact ih1 _ _ _ _ _ _ _ _ _
      | exact ih2 _ _ _ _ _ _ _
      | exact ih3 _ _ _ _ _ _ _
      | exact ih4 _ _ _ _ _ _ _ _ _ _
      | exact joustlaw08_full.mono _ _ _
      | exact LeO.none _
      | refine LeO.ite ?_ ?_
      | refine LeO.bind ?_ (fun _ => ?_)
    · intro y0 y1 y2 y3 y4 y5 y6 y7 y8 y9
      unfold joustlaw08_BucketTicks.l1
      repeat' first
      | (with_reducible exact ih0 _ _ _ _ _ _ _)
      | (with_reducible exact ih1 _ _ _ _ _ _ _ _ _)
      | (with_reducible exact ih2 _ _ _ _ _ _ _)
      | (with_reducible exact ih3 _ _ _ _ _ _ _)
      | (with_reducible exact ih4 _ _ _ _ _ _ _ _ _ _)
      | (with_reducible exact joustlaw08_full.mono _ _ _)
      | (with_reducible exact LeO.refl _)
      | (with_reducible exact LeO.none _)
      | (with_reducible refine LeO.ite ?_ ?_)
      | (with_reducible refine LeO.bind ?_ (fun _ => ?_))
      | exact ih0 _ _ _ _ _ _ _
      | exact ih1 _ _ _ _ _ _ _ _ _
      | exact ih2 _ _ _ _ _ _ _
      | exact ih3 _ _ _ _ _ _ _
      | exact ih4 _ _ _ _ _ _ _ _ _ _
      | exact joustlaw08_full.mono _ _ _
      | exact LeO.none _
      | refine LeO.ite ?_ ?_
      | refine LeO.bind ?_ (fun _ => ?_)
theorem joustlaw08_BucketTicks.mono : ∀ a0 a1 a2 k, LeO (joustlaw08_BucketTicks.f k a0 a1 a2) (joustlaw08_BucketTicks.f (k + 1) a0 a1 a2) := by
  intro a0 a1 a2 k
  obtain ⟨ih0, ih1, ih2, ih3, ih4⟩ := joustlaw08_BucketTicks.mono_l k
  unfold joustlaw08_BucketTicks.f
  repeat' first
      | (with_reducible exact ih0 _ _ _ _ _ _ _)
      | (with_reducible exact ih1 _ _ _ _ _ _ _ _ _)
      | (with_reducible exact ih2 _ _ _ _ _ _ _)
      | (with_reducible exact ih3 _ _ _ _ _ _ _)
      | (with_reducible exact ih4 _ _ _ _ _ _ _ _ _ _)
      | (with_reducible exact joustlaw08_full.mono _ _ _)
      | (with_reducible exact LeO.refl _)
      | (with_reducible exact LeO.none _)
      | (with_reducible refine LeO.ite ?_ ?_)
      | (with_reducible refine LeO.bind ?_ (fun _ => ?_))
      | exact ih0 _ _ _ _ _ _ _
      | exact ih1 _ _ _ _ _ _ _ _ _
      | exact ih2 _ _ _ _ _ _ _
      | exact ih3 _ _ _ _ _ _ _
      | exact ih4 _ _ _ _ _ _ _ _ _ _
      | exact joustlaw08_full.mono _ _ _
      | exact LeO.none _
      | refine LeO.ite ?_ ?_
      | refine LeO.bind ?_ (fun _ => ?_)
set_option maxHeartbeats 8000000 in
set_option maxRecDepth 100000 in
theorem joustlaw08_BucketTicks.calls (k : Nat) (a0 : Int) (a1 : Int) (a2 : Int) (r : Bool) (w : World) (h : joustlaw08_BucketTicks.f k a0 a1 a2 = some r) :
    Calls Try.prog 9 #[.int .i64 a0, .int .i64 a1, .int .u64 a2] w fun e w' => e = .returned (.bool r) ∧ Below w.heap.size w w' := by
  have hu52 := Try.underlying52
  have HB := Aside0.mk (Below.refl w.heap.size w)
  have H : ((joustlaw08_full.f k a0 a1).bind fun bt163 => (if bt163.2.2.2.2.2 = true then (joustlaw08_BucketTicks.l0 k a2 bt163.2.2.2.1 bt163.2.2.2.2.1 0 bt163.1 bt163.2.1 bt163.2.2.1) else (some false))) = some r := h
  clear h
  replace H := Option.bind_eq_some_iff.mp H
  obtain ⟨⟨t163, t164, t165, t166, t167, t168⟩, A40, H⟩ := H
  replace H : (if t168 = true then (joustlaw08_BucketTicks.l0 k a2 t166 t167 0 t163 t164 t165) else (some false)) = some r := H
  have A4 := Aside0.mk A40
  clear A40
  by_cases c5 : t168 = true
  · subst c5
    have H1 : (joustlaw08_BucketTicks.l0 k a2 t166 t167 0 t163 t164 t165) = some r := by rw [if_pos rfl] at H; exact H
    clear H
    have H := H1
    clear H1
    have H' := Aside0.mk H
    clear H
    go_enter Try.func9, Try.ntmps9
    go_wp2_with (first | ((with_reducible refine gate_callee (f := 32) rfl ?_); refine goesL_ (some 18) rfl rfl Try.func32 (by kernel_rfl) rfl #[.int .i64 a0, .int .i64 a1] rfl (by (try simp only [List.map_toArray, List.map_cons, List.map_nil]); first | done | rfl | (simp only [List.length_drop, List.length_take]; rfl)) ?_; (with_reducible refine (joustlaw08_full.calls k a0 a1 t163 t164 t165 t166 t167 true _ A4.out).mono ?_); rintro e w6 ⟨rfl, hb⟩; refine ⟨_, rfl, ?_⟩; have n0_ := Aside0.mk (below_step (by repeat (first | (with_reducible first | exact HB.out | apply below_alloc | apply pw_below_drewN | apply below_drew1) | exact HB.out)) hb); clear HB; have HB := n0_; clear n0_; (try clear hb); (try clear hb2); (try clear hk); (try clear hi)) | ((with_reducible refine gate_dst (N := 7) rfl ?_); refine box_event ?hg (N := 7) ?hd (cs := #[.int .i64 0, .int .i64 0, .int .i64 0]) (t := 52) ?hr ?_; (case hd => rfl); (case hg => rfl); (case hr => first | (go_simp; done) | (go_simp; rfl)); intro gb169 hg w7 hbox hb; have n0_ := Aside0.mk (below_step (by repeat (first | (with_reducible first | exact HB.out | apply below_alloc | apply pw_below_drewN | apply below_drew1) | exact HB.out)) hb); have n1_ := Aside0.mk (hbox); have n2_ := Aside0.mk ((by rw [hg]; exact (below_size (by repeat (first | (with_reducible first | exact HB.out | apply below_alloc | apply pw_below_drewN | apply below_drew1) | exact HB.out))) : w.heap.size ≤ gb169)); have n3_ := Aside0.mk ((by rw [hg]; exact (below_size (by repeat (first | (with_reducible first | exact HB.out | apply below_alloc | apply pw_below_drewN | apply below_drew1) | exact HB.out))) : w.heap.size ≤ gb169)); clear HB; have HB := n0_; have BK169 := n1_; have GW169 := n2_; have GE169 := n3_; clear n0_ n1_ n2_ n3_; clear hb hbox hg; have hcz8_0 : w7.cell? ⟨gb169, 0, none⟩ = some (.int .i64 0) := (blk_cell BK169.out 0).trans rfl; have hcz8_1 : w7.cell? ⟨gb169, 1, none⟩ = some (.int .i64 0) := (blk_cell BK169.out 1).trans rfl; have hcz8_2 : w7.cell? ⟨gb169, 2, none⟩ = some (.int .i64 0) := (blk_cell BK169.out 2).trans rfl; have hfz8_0 := blk_frozen BK169.out 0; have hfz8_1 := blk_frozen BK169.out 1; have hfz8_2 := blk_frozen BK169.out 2))
    go_loopg [11] k (fun kq v11 w' => ∃ (x11_1 : Int) (x170000_1 : Int) (x170001_1 : Int) (x170002_1 : Int), v11 = .int .i64 x11_1 ∧ Aside0 (joustlaw08_BucketTicks.l0 kq a2 t166 t167 x11_1 x170000_1 x170001_1 x170002_1 = some r) ∧ Aside0 (kq ≤ k) ∧ Aside0 (w'.heap[gb169]? = some (.cells #[.int .i64 x170000_1, .int .i64 x170001_1, .int .i64 x170002_1] 52 (0, 0))) ∧ Aside0 (Below w.heap.size w w'))
    case atStart => exact ⟨(0), (t163), (t164), (t165), (by first | rfl | (simp; done) | (simp [*]; done)), H', ⟨Nat.le_refl _⟩, ⟨by (with_reducible repeat (first | refine blk_drewN ?_ _ | refine blk_drew ?_ | refine blk_alloc ?_ _)); refine blk_put (cs := #[.int .i64 t163, .int .i64 t164, .int .i64 0]) ?_ 2 _ rfl; (with_reducible repeat (first | refine blk_drewN ?_ _ | refine blk_drew ?_ | refine blk_alloc ?_ _)); refine blk_put (cs := #[.int .i64 t163, .int .i64 0, .int .i64 0]) ?_ 1 _ rfl; (with_reducible repeat (first | refine blk_drewN ?_ _ | refine blk_drew ?_ | refine blk_alloc ?_ _)); refine blk_put (cs := #[.int .i64 0, .int .i64 0, .int .i64 0]) ?_ 0 _ rfl; (with_reducible repeat (first | refine blk_drewN ?_ _ | refine blk_drew ?_ | refine blk_alloc ?_ _)); exact BK169.out⟩, ⟨by repeat (first | (with_reducible first | exact HB.out | apply below_alloc | apply pw_below_drewN | apply below_drew1 | refine below_set ?_ GE169.out) | exact HB.out)⟩⟩
    case round =>
      clear H'
      try clear p2
      try clear c3
      try clear c5
      try clear hcz8_0
      try clear hcz8_1
      try clear hcz8_2
      try clear hfz8_0
      try clear hfz8_1
      try clear hfz8_2
      obtain ⟨x11_1, x170000_1, x170001_1, x170002_1, rfl, HA, HK1, BK169, HB⟩ := hrel
      cases gk with
      | zero => exact absurd HA.out (by simp [joustlaw08_BucketTicks.l0])
      | succ k1 =>
        have H := HA.out
        clear HA
        simp only [joustlaw08_BucketTicks.l0] at H
        by_cases c9 : x11_1 < (wrap64 ((wrap64 (Int.tdiv t167 2)) + 1))
        · rw [if_pos c9] at H
          have c9b0 : decide (x11_1 < (wrap64 ((wrap64 (Int.tdiv t167 2)) + 1))) = true := decide_eq_true c9
          clear c9
          replace H := Option.bind_eq_some_iff.mp H
          obtain ⟨⟨t170, t171, t172, t173⟩, A100, H⟩ := H
          replace H : (if t170 = 0 then (joustlaw08_BucketTicks.l0 k1 a2 t166 t167 (wrap64 (x11_1 + 1)) t171 t172 t173) else (some false)) = some r := H
          have A10 := Aside0.mk A100
          clear A100
          by_cases c11 : t170 = 0
          · rw [if_pos c11] at H
            have c11b0 : (t170 == 0) = true := beq_iff_eq.mpr c11
            have c11b1 : (t170 != 0) = false := bne_eq_false_iff_eq.mpr c11
            clear c11
            have H' := Aside0.mk H
            clear H
            go_wp2_with (first | ((with_reducible refine gate_callee (f := 24) rfl ?_); refine goesL_ (some 32) rfl rfl Try.func24 (by kernel_rfl) rfl #[.pointer (some ⟨gb169, 0, none⟩)] rfl (by (try simp only [List.map_toArray, List.map_cons, List.map_nil]); first | done | rfl | (simp only [List.length_drop, List.length_take]; rfl)) ?_; (with_reducible refine (bucket_Bucket_Take.calls gb169 x170000_1 x170001_1 x170002_1 t170 t171 t172 t173 w _ ?side1 ?side2 A10.out).mono ?_); (case side1 => repeat (first | (with_reducible first | exact (Aside0.mk (IsS52.mk_ BK169.out GE169.out)).out | apply IsS52.alloc | apply IsS52.drewN | apply IsS52.drew | apply IsS52.set_0 | apply IsS52.set_1 | apply IsS52.set_2) | exact (Aside0.mk (IsS52.mk_ BK169.out GE169.out)).out)); (case side2 => repeat (first | (with_reducible first | exact HB.out | apply below_alloc | apply pw_below_drewN | apply below_drew1 | refine below_set ?_ (IsS52.ge (Aside0.mk (IsS52.mk_ BK169.out GE169.out)).out)) | exact HB.out)); rintro e w12 ⟨rfl, hi, hb, hk⟩; refine ⟨_, rfl, ?_⟩; have n0_ := Aside0.mk (hb); have n1_ := Aside0.mk (hi.1); clear HB; clear BK169; have HB := n0_; have BK169 := n1_; clear n0_ n1_; (try clear hb); (try clear hb2); (try clear hk); (try clear hi)))
            go_roundg k1
            case measure => have := HK1.out; omega
            case rel => exact ⟨(wrap64 (x11_1 + 1)), (t171), (t172), (t173), (by first | rfl | (simp; done) | (simp [*]; done)), H', ⟨by have := HK1.out; omega⟩, ⟨by (with_reducible repeat (first | refine blk_drewN ?_ _ | refine blk_drew ?_ | refine blk_alloc ?_ _)); exact BK169.out⟩, ⟨by repeat (first | (with_reducible first | exact HB.out | apply below_alloc | apply pw_below_drewN | apply below_drew1 | refine below_set ?_ GE169.out) | exact HB.out)⟩⟩
          · rw [if_neg c11] at H
            have c11b0 : (t170 == 0) = false := beq_eq_false_iff_ne.mpr c11
            have c11b1 : (t170 != 0) = true := bne_iff_ne.mpr c11
            obtain rfl := Option.some.inj H
            go_wp2_with (first | ((with_reducible refine gate_callee (f := 24) rfl ?_); refine goesL_ (some 32) rfl rfl Try.func24 (by kernel_rfl) rfl #[.pointer (some ⟨gb169, 0, none⟩)] rfl (by (try simp only [List.map_toArray, List.map_cons, List.map_nil]); first | done | rfl | (simp only [List.length_drop, List.length_take]; rfl)) ?_; (with_reducible refine (bucket_Bucket_Take.calls gb169 x170000_1 x170001_1 x170002_1 t170 t171 t172 t173 w _ ?side1 ?side2 A10.out).mono ?_); (case side1 => repeat (first | (with_reducible first | exact (Aside0.mk (IsS52.mk_ BK169.out GE169.out)).out | apply IsS52.alloc | apply IsS52.drewN | apply IsS52.drew | apply IsS52.set_0 | apply IsS52.set_1 | apply IsS52.set_2) | exact (Aside0.mk (IsS52.mk_ BK169.out GE169.out)).out)); (case side2 => repeat (first | (with_reducible first | exact HB.out | apply below_alloc | apply pw_below_drewN | apply below_drew1 | refine below_set ?_ (IsS52.ge (Aside0.mk (IsS52.mk_ BK169.out GE169.out)).out)) | exact HB.out)); rintro e w13 ⟨rfl, hi, hb, hk⟩; refine ⟨_, rfl, ?_⟩; have n0_ := Aside0.mk (hb); have n1_ := Aside0.mk (hi.1); clear HB; clear BK169; have HB := n0_; have BK169 := n1_; clear n0_ n1_; (try clear hb); (try clear hb2); (try clear hk); (try clear hi)))
            go_ret
            exact ⟨by first | rfl | (simp [errW_none, errW_some] <;> rfl) | (simp [*, errW_none, errW_some] <;> rfl), by repeat (first | (with_reducible first | exact HB.out | apply below_alloc | apply pw_below_drewN | apply below_drew1 | refine below_set ?_ GE169.out) | exact HB.out)⟩
        · rw [if_neg c9] at H
          have c9b0 : decide (x11_1 < (wrap64 ((wrap64 (Int.tdiv t167 2)) + 1))) = false := decide_eq_false c9
          clear c9
          replace H := Option.bind_eq_some_iff.mp H
          obtain ⟨⟨t175, t176, t177⟩, A140, H⟩ := H
          replace H : (joustlaw08_BucketTicks.l1 k1 a2 t166 t167 0 t175 t176 t177 x170000_1 x170001_1 x170002_1) = some r := H
          have A14 := Aside0.mk A140
          clear A140
          have HC15 := Aside0.mk H
          clear H
          have hcz16_0 : wr.cell? ⟨gb169, 0, none⟩ = some (.int .i64 x170000_1) := (blk_cell BK169.out 0).trans rfl
          have hcz16_1 : wr.cell? ⟨gb169, 1, none⟩ = some (.int .i64 x170001_1) := (blk_cell BK169.out 1).trans rfl
          have hcz16_2 : wr.cell? ⟨gb169, 2, none⟩ = some (.int .i64 x170002_1) := (blk_cell BK169.out 2).trans rfl
          have hfz16_0 := blk_frozen BK169.out 0
          have hfz16_1 := blk_frozen BK169.out 1
          have hfz16_2 := blk_frozen BK169.out 2
          go_upto_block 2 with (first | ((with_reducible refine gate_dst (N := 12) rfl ?_); refine box_event ?hg (N := 12) ?hd (cs := #[.int .i64 0, .int .i64 0, .int .i64 0]) (t := 52) ?hr ?_; (case hd => rfl); (case hg => rfl); (case hr => first | (go_simp; done) | (go_simp; rfl)); intro gb174 hg w17 hbox hb; have n0_ := Aside0.mk (blk_below (g := gb169) (o := .cells #[.int .i64 x170000_1, .int .i64 x170001_1, .int .i64 x170002_1] 52 (0, 0)) (by (with_reducible repeat (first | refine blk_drewN ?_ _ | refine blk_drew ?_ | refine blk_alloc ?_ _)); exact BK169.out) hb); have n1_ := Aside0.mk (below_step (by repeat (first | (with_reducible first | exact HB.out | apply below_alloc | apply pw_below_drewN | apply below_drew1 | refine below_set ?_ GE169.out) | exact HB.out)) hb); have n2_ := Aside0.mk (hbox); have n3_ := Aside0.mk ((by rw [hg]; exact (below_size (by repeat (first | (with_reducible first | exact HB.out | apply below_alloc | apply pw_below_drewN | apply below_drew1 | refine below_set ?_ GE169.out) | exact HB.out))) : w.heap.size ≤ gb174)); have n4_ := Aside0.mk ((by rw [hg]; exact (below_size (by repeat (first | (with_reducible first | exact HB.out | apply below_alloc | apply pw_below_drewN | apply below_drew1 | refine below_set ?_ GE169.out) | exact HB.out))) : w.heap.size ≤ gb174)); have n5_ := Aside0.mk ((by rw [hg]; exact Nat.ne_of_lt (blk_lt (g := gb169) (o := .cells #[.int .i64 x170000_1, .int .i64 x170001_1, .int .i64 x170002_1] 52 (0, 0)) (by (with_reducible repeat (first | refine blk_drewN ?_ _ | refine blk_drew ?_ | refine blk_alloc ?_ _)); exact BK169.out)) : gb169 ≠ gb174)); have n6_ := Aside0.mk ((by rw [hg]; exact Nat.ne_of_gt (blk_lt (g := gb169) (o := .cells #[.int .i64 x170000_1, .int .i64 x170001_1, .int .i64 x170002_1] 52 (0, 0)) (by (with_reducible repeat (first | refine blk_drewN ?_ _ | refine blk_drew ?_ | refine blk_alloc ?_ _)); exact BK169.out)) : gb174 ≠ gb169)); clear BK169; clear HB; have BK169 := n0_; have HB := n1_; have BK174 := n2_; have GW174 := n3_; have GE174 := n4_; have NB169_174 := n5_; have NB174_169 := n6_; clear n0_ n1_ n2_ n3_ n4_ n5_ n6_; clear hb hbox hg; have hnb18 := NB174_169.out; have hnc18 := NB169_174.out; have hcz19_0 : w17.cell? ⟨gb174, 0, none⟩ = some (.int .i64 0) := (blk_cell BK174.out 0).trans rfl; have hcz19_1 : w17.cell? ⟨gb174, 1, none⟩ = some (.int .i64 0) := (blk_cell BK174.out 1).trans rfl; have hcz19_2 : w17.cell? ⟨gb174, 2, none⟩ = some (.int .i64 0) := (blk_cell BK174.out 2).trans rfl; have hfz19_0 := blk_frozen BK174.out 0; have hfz19_1 := blk_frozen BK174.out 1; have hfz19_2 := blk_frozen BK174.out 2) | ((with_reducible refine gate_callee (f := 28) rfl ?_); refine goesL_ (some 36) rfl rfl Try.func28 (by kernel_rfl) rfl #[.pointer (some ⟨gb169, 0, none⟩), .int .u64 a2] rfl (by (try simp only [List.map_toArray, List.map_cons, List.map_nil]); first | done | rfl | (simp only [List.length_drop, List.length_take]; rfl)) ?_; (with_reducible refine (bucket_Bucket_Ticks.calls gb169 x170000_1 x170001_1 x170002_1 a2 t175 t176 t177 w _ ?side1 ?side2 A14.out).mono ?_); (case side1 => repeat (first | (with_reducible first | exact (Aside0.mk (IsS52.mk_ BK169.out GE169.out)).out | apply IsS52.alloc | apply IsS52.drewN | apply IsS52.drew | apply IsS52.set_0 | apply IsS52.set_1 | apply IsS52.set_2 | refine IsS52.far ?_ NB169_174.out _) | exact (Aside0.mk (IsS52.mk_ BK169.out GE169.out)).out)); (case side2 => repeat (first | (with_reducible first | exact HB.out | apply below_alloc | apply pw_below_drewN | apply below_drew1 | refine below_set ?_ (IsS52.ge (Aside0.mk (IsS52.mk_ BK169.out GE169.out)).out) | refine below_set ?_ GE174.out) | exact HB.out)); rintro e w20 ⟨rfl, hi, hb, hk⟩; refine ⟨_, rfl, ?_⟩; have n0_ := Aside0.mk (KeepBut.blk hk (g' := gb174) (o := .cells #[.int .i64 x170000_1, .int .i64 x170001_1, .int .i64 x170002_1] 52 (0, 0)) (by (with_reducible repeat (first | refine blk_drewN ?_ _ | refine blk_drew ?_ | refine blk_alloc ?_ _)); refine blk_put (cs := #[.int .i64 x170000_1, .int .i64 x170001_1, .int .i64 0]) ?_ 2 _ rfl; (with_reducible repeat (first | refine blk_drewN ?_ _ | refine blk_drew ?_ | refine blk_alloc ?_ _)); refine blk_put (cs := #[.int .i64 x170000_1, .int .i64 0, .int .i64 0]) ?_ 1 _ rfl; (with_reducible repeat (first | refine blk_drewN ?_ _ | refine blk_drew ?_ | refine blk_alloc ?_ _)); refine blk_put (cs := #[.int .i64 0, .int .i64 0, .int .i64 0]) ?_ 0 _ rfl; (with_reducible repeat (first | refine blk_drewN ?_ _ | refine blk_drew ?_ | refine blk_alloc ?_ _)); exact BK174.out) NB174_169.out (by simp)); have n1_ := Aside0.mk (hb); have n2_ := Aside0.mk (hi.1); clear BK174; clear HB; clear BK169; have BK174 := n0_; have HB := n1_; have BK169 := n2_; clear n0_ n1_ n2_; (try clear hb); (try clear hb2); (try clear hk); (try clear hi)))
          (try simp only [Act.put, List.setIfInBounds_toArray, List.set_cons_zero, List.set_cons_succ])
          go_cut [] (fun wc => ∃ (kq : Nat) (x175000_14 : Int) (x175001_14 : Int) (x175002_14 : Int), Aside0 (joustlaw08_BucketTicks.j2 kq a2 t166 t167 t175 t176 t177 x175000_14 x175001_14 x175002_14 = some r) ∧ Aside0 (kq ≤ k1) ∧ Aside0 (wc.heap[gb169]? = some (.cells #[.int .i64 t175, .int .i64 t176, .int .i64 t177] 52 (0, 0))) ∧ Aside0 (wc.heap[gb174]? = some (.cells #[.int .i64 x175000_14, .int .i64 x175001_14, .int .i64 x175002_14] 52 (0, 0))) ∧ Aside0 (Below w.heap.size w wc))
          case first =>
            have H := HC15.out
            clear HC15
            have H' := Aside0.mk H
            clear H
            go_wp2
            go_loopg [13] k1 (fun kq v13 w' => ∃ (x13_2 : Int) (x175000_2 : Int) (x175001_2 : Int) (x175002_2 : Int), v13 = .int .u64 x13_2 ∧ Aside0 (joustlaw08_BucketTicks.l1 kq a2 t166 t167 x13_2 t175 t176 t177 x175000_2 x175001_2 x175002_2 = some r) ∧ Aside0 (kq ≤ k1) ∧ Aside0 (w'.heap[gb169]? = some (.cells #[.int .i64 t175, .int .i64 t176, .int .i64 t177] 52 (0, 0))) ∧ Aside0 (w'.heap[gb174]? = some (.cells #[.int .i64 x175000_2, .int .i64 x175001_2, .int .i64 x175002_2] 52 (0, 0))) ∧ Aside0 (Below w.heap.size w w'))
            case atStart => exact ⟨(0), (x170000_1), (x170001_1), (x170002_1), (by first | rfl | (simp; done) | (simp [*]; done)), H', ⟨Nat.le_refl _⟩, ⟨by (with_reducible repeat (first | refine blk_drewN ?_ _ | refine blk_drew ?_ | refine blk_alloc ?_ _)); exact BK169.out⟩, ⟨by (with_reducible repeat (first | refine blk_drewN ?_ _ | refine blk_drew ?_ | refine blk_alloc ?_ _)); exact BK174.out⟩, ⟨by repeat (first | (with_reducible first | exact HB.out | apply below_alloc | apply pw_below_drewN | apply below_drew1 | refine below_set ?_ GE169.out | refine below_set ?_ GE174.out) | exact HB.out)⟩⟩
            case round =>
              clear H'
              try clear c1
              try clear c2
              try clear p2
              try clear c3
              try clear c5
              try clear p6
              try clear c9
              try clear c9b0
              try clear c11
              try clear c11b0
              try clear c11b1
              try clear c18
              try clear hcz16_0
              try clear hcz16_1
              try clear hcz16_2
              try clear hcz19_0
              try clear hcz19_1
              try clear hcz19_2
              try clear hcz8_0
              try clear hcz8_1
              try clear hcz8_2
              try clear hfz16_0
              try clear hfz16_1
              try clear hfz16_2
              try clear hfz19_0
              try clear hfz19_1
              try clear hfz19_2
              try clear hfz8_0
              try clear hfz8_1
              try clear hfz8_2
              try clear p2
              obtain ⟨x13_2, x175000_2, x175001_2, x175002_2, rfl, HA, HK2, BK169, BK174, HB⟩ := hrel
              cases gk with
              | zero => exact absurd HA.out (by simp [joustlaw08_BucketTicks.l1])
              | succ k2 =>
                have H := HA.out
                clear HA
                simp only [joustlaw08_BucketTicks.l1] at H
                by_cases c21 : x13_2 < a2
                · rw [if_pos c21] at H
                  have c21b0 : decide (x13_2 < a2) = true := decide_eq_true c21
                  clear c21
                  (first | rw [c21b0] | (simp only [i64_w, i32_w]; rw [c21b0]) | skip)
                  by_cases c22 : x13_2 < 16000
                  · rw [if_pos c22] at H
                    have c22b0 : decide (x13_2 < 16000) = true := decide_eq_true c22
                    clear c22
                    replace H := Option.bind_eq_some_iff.mp H
                    obtain ⟨⟨t178, t179, t180⟩, A230, H⟩ := H
                    replace H : (joustlaw08_BucketTicks.l1 k2 a2 t166 t167 (IntKind.u64.wrap (x13_2 + 1)) t175 t176 t177 t178 t179 t180) = some r := H
                    have A23 := Aside0.mk A230
                    clear A230
                    have H' := Aside0.mk H
                    clear H
                    go_wp2_with (first | ((with_reducible refine gate_callee (f := 26) rfl ?_); refine goesL_ (some 46) rfl rfl Try.func26 (by kernel_rfl) rfl #[.pointer (some ⟨gb174, 0, none⟩)] rfl (by (try simp only [List.map_toArray, List.map_cons, List.map_nil]); first | done | rfl | (simp only [List.length_drop, List.length_take]; rfl)) ?_; (with_reducible refine (bucket_Bucket_Tick.calls gb174 x175000_2 x175001_2 x175002_2 t178 t179 t180 w _ ?side1 ?side2 A23.out).mono ?_); (case side1 => repeat (first | (with_reducible first | exact (Aside0.mk (IsS52.mk_ BK174.out GE174.out)).out | apply IsS52.alloc | apply IsS52.drewN | apply IsS52.drew | apply IsS52.set_0 | apply IsS52.set_1 | apply IsS52.set_2 | refine IsS52.far ?_ NB174_169.out _) | exact (Aside0.mk (IsS52.mk_ BK174.out GE174.out)).out)); (case side2 => repeat (first | (with_reducible first | exact HB.out | apply below_alloc | apply pw_below_drewN | apply below_drew1 | refine below_set ?_ (IsS52.ge (Aside0.mk (IsS52.mk_ BK174.out GE174.out)).out) | refine below_set ?_ GE169.out) | exact HB.out)); rintro e w24 ⟨rfl, hi, hb, hk⟩; refine ⟨_, rfl, ?_⟩; have n0_ := Aside0.mk (KeepBut.blk hk (g' := gb169) (o := .cells #[.int .i64 t175, .int .i64 t176, .int .i64 t177] 52 (0, 0)) (by (with_reducible repeat (first | refine blk_drewN ?_ _ | refine blk_drew ?_ | refine blk_alloc ?_ _)); exact BK169.out) NB169_174.out (by simp)); have n1_ := Aside0.mk (hb); have n2_ := Aside0.mk (hi.1); clear BK169; clear HB; clear BK174; have BK169 := n0_; have HB := n1_; have BK174 := n2_; clear n0_ n1_ n2_; (try clear hb); (try clear hb2); (try clear hk); (try clear hi)))
                    go_roundg k2
                    case measure => have := HK1.out; have := HK2.out; omega
                    case rel => exact ⟨(IntKind.u64.wrap (x13_2 + 1)), (t178), (t179), (t180), (by first | rfl | (simp; done) | (simp [*]; done)), H', ⟨by have := HK1.out; have := HK2.out; omega⟩, ⟨by (with_reducible repeat (first | refine blk_drewN ?_ _ | refine blk_drew ?_ | refine blk_alloc ?_ _)); exact BK169.out⟩, ⟨by (with_reducible repeat (first | refine blk_drewN ?_ _ | refine blk_drew ?_ | refine blk_alloc ?_ _)); exact BK174.out⟩, ⟨by repeat (first | (with_reducible first | exact HB.out | apply below_alloc | apply pw_below_drewN | apply below_drew1 | refine below_set ?_ GE169.out | refine below_set ?_ GE174.out) | exact HB.out)⟩⟩
                  · rw [if_neg c22] at H
                    have c22b0 : decide (x13_2 < 16000) = false := decide_eq_false c22
                    clear c22
                    have H' := Aside0.mk H
                    clear H
                    go_wp2
                    go_meet
                    case rel => exact ⟨_, (x175000_2), (x175001_2), (x175002_2), H', ⟨by have := HK1.out; have := HK2.out; first | omega | exact Nat.le_refl _⟩, ⟨by (with_reducible repeat (first | refine blk_drewN ?_ _ | refine blk_drew ?_ | refine blk_alloc ?_ _)); exact BK169.out⟩, ⟨by (with_reducible repeat (first | refine blk_drewN ?_ _ | refine blk_drew ?_ | refine blk_alloc ?_ _)); exact BK174.out⟩, ⟨by repeat (first | (with_reducible first | exact HB.out | apply below_alloc | apply pw_below_drewN | apply below_drew1 | refine below_set ?_ GE169.out | refine below_set ?_ GE174.out) | exact HB.out)⟩⟩
                · rw [if_neg c21] at H
                  have c21b0 : decide (x13_2 < a2) = false := decide_eq_false c21
                  clear c21
                  (first | rw [c21b0] | (simp only [i64_w, i32_w]; rw [c21b0]) | skip)
                  have H' := Aside0.mk H
                  clear H
                  go_wp2
                  go_meet
                  case rel => exact ⟨_, (x175000_2), (x175001_2), (x175002_2), H', ⟨by have := HK1.out; have := HK2.out; first | omega | exact Nat.le_refl _⟩, ⟨by (with_reducible repeat (first | refine blk_drewN ?_ _ | refine blk_drew ?_ | refine blk_alloc ?_ _)); exact BK169.out⟩, ⟨by (with_reducible repeat (first | refine blk_drewN ?_ _ | refine blk_drew ?_ | refine blk_alloc ?_ _)); exact BK174.out⟩, ⟨by repeat (first | (with_reducible first | exact HB.out | apply below_alloc | apply pw_below_drewN | apply below_drew1 | refine below_set ?_ GE169.out | refine below_set ?_ GE174.out) | exact HB.out)⟩⟩
          case rest =>
            clear HC15
            try clear c1
            try clear c2
            try clear p2
            try clear c3
            try clear c5
            try clear p6
            try clear c9
            try clear c9b0
            try clear c11
            try clear c11b0
            try clear c11b1
            try clear c18
            try clear c21
            try clear c21b0
            try clear c22
            try clear c22b0
            try clear c24
            try clear hcz16_0
            try clear hcz16_1
            try clear hcz16_2
            try clear hcz19_0
            try clear hcz19_1
            try clear hcz19_2
            try clear hcz8_0
            try clear hcz8_1
            try clear hcz8_2
            try clear hfz16_0
            try clear hfz16_1
            try clear hfz16_2
            try clear hfz19_0
            try clear hfz19_1
            try clear hfz19_2
            try clear hfz8_0
            try clear hfz8_1
            try clear hfz8_2
            try clear p2
            try clear p6
            obtain ⟨kq, x175000_14, x175001_14, x175002_14, HA, HJ14, BK169, BK174, HB⟩ := hcut
            cases kq with
            | zero => exact absurd HA.out (by simp [joustlaw08_BucketTicks.j2])
            | succ kj14 =>
              have H := HA.out
              clear HA
              simp only [joustlaw08_BucketTicks.j2] at H
              have HC25 := Aside0.mk H
              clear H
              go_upto_region 15 with (fail)
              go_cut [70] (fun v70 wc => ∃ (kq : Nat) (x70_24 : Bool) (x170000_24 : Int) (x170001_24 : Int) (x170002_24 : Int), v70 = .bool x70_24 ∧ Aside0 (joustlaw08_BucketTicks.j3 kq x70_24 x170000_24 x170001_24 x170002_24 x175000_14 x175001_14 x175002_14 = some r) ∧ Aside0 (kq ≤ kj14) ∧ Aside0 (wc.heap[gb169]? = some (.cells #[.int .i64 x170000_24, .int .i64 x170001_24, .int .i64 x170002_24] 52 (0, 0))) ∧ Aside0 (wc.heap[gb174]? = some (.cells #[.int .i64 x175000_14, .int .i64 x175001_14, .int .i64 x175002_14] 52 (0, 0))) ∧ Aside0 (Below w.heap.size w wc))
              case first =>
                have H := HC25.out
                clear HC25
                by_cases c26 : t166 = 0
                · rw [if_pos c26] at H
                  have c26b0 : (t166 == 0) = true := beq_iff_eq.mpr c26
                  have c26b1 : (t166 != 0) = false := bne_eq_false_iff_eq.mpr c26
                  clear c26
                  (first | rw [c26b0] | (simp only [i64_w, i32_w]; rw [c26b0]) | skip)
                  replace H := Option.bind_eq_some_iff.mp H
                  obtain ⟨⟨t181, t182, t183, t184⟩, A270, H⟩ := H
                  replace H : (if t181 = (wrap64 ((wrap64 (t167 - (wrap64 (Int.tdiv t167 2)))) - 1)) then (if a2 ≥ 16000 then (if t166 > 0 then ((bucket_Bucket_Left.f t175 t176 t177).bind fun bt185 => (joustlaw08_BucketTicks.j3 kj14 (bt185.1 != t167) t175 t176 t177 x175000_14 x175001_14 x175002_14)) else (joustlaw08_BucketTicks.j3 kj14 false t175 t176 t177 x175000_14 x175001_14 x175002_14)) else (joustlaw08_BucketTicks.j3 kj14 false t175 t176 t177 x175000_14 x175001_14 x175002_14)) else (joustlaw08_BucketTicks.j3 kj14 true t175 t176 t177 x175000_14 x175001_14 x175002_14)) = some r := H
                  have A27 := Aside0.mk A270
                  clear A270
                  by_cases c28 : t181 = (wrap64 ((wrap64 (t167 - (wrap64 (Int.tdiv t167 2)))) - 1))
                  · rw [if_pos c28] at H
                    have c28b0 : (t181 == (wrap64 ((wrap64 (t167 - (wrap64 (Int.tdiv t167 2)))) - 1))) = true := beq_iff_eq.mpr c28
                    have c28b1 : (t181 != (wrap64 ((wrap64 (t167 - (wrap64 (Int.tdiv t167 2)))) - 1))) = false := bne_eq_false_iff_eq.mpr c28
                    clear c28
                    by_cases c29 : a2 ≥ 16000
                    · rw [if_pos c29] at H
                      have c29b0 : decide (16000 ≤ a2) = true := decide_eq_true c29
                      clear c29
                      by_cases c30 : t166 > 0
                      · rw [if_pos c30] at H
                        have c30b0 : decide (0 < t166) = true := decide_eq_true c30
                        clear c30
                        replace H := Option.bind_eq_some_iff.mp H
                        obtain ⟨⟨t185, t186, t187, t188⟩, A310, H⟩ := H
                        replace H : (joustlaw08_BucketTicks.j3 kj14 (t185 != t167) t175 t176 t177 x175000_14 x175001_14 x175002_14) = some r := H
                        have A31 := Aside0.mk A310
                        clear A310
                        have H' := Aside0.mk H
                        clear H
                        go_wp2_with (first | (go_at_call 30; (with_reducible refine (bucket_Bucket_Left.calls gb169 t175 t176 t177 t181 t182 t183 t184 w _ ?side1 ?side2 A27.out).mono ?_); (case side1 => repeat (first | (with_reducible first | exact (Aside0.mk (IsS52.mk_ BK169.out GE169.out)).out | apply IsS52.alloc | apply IsS52.drewN | apply IsS52.drew | apply IsS52.set_0 | apply IsS52.set_1 | apply IsS52.set_2 | refine IsS52.far ?_ NB169_174.out _) | exact (Aside0.mk (IsS52.mk_ BK169.out GE169.out)).out)); (case side2 => repeat (first | (with_reducible first | exact HB.out | apply below_alloc | apply pw_below_drewN | apply below_drew1 | refine below_set ?_ (IsS52.ge (Aside0.mk (IsS52.mk_ BK169.out GE169.out)).out) | refine below_set ?_ GE174.out) | exact HB.out)); rintro e w32 ⟨rfl, hi, hb, hk⟩; replace hi := bucket_Bucket_Left.ro A27.out hi; have n0_ := Aside0.mk (KeepBut.blk hk (g' := gb174) (o := .cells #[.int .i64 x175000_14, .int .i64 x175001_14, .int .i64 x175002_14] 52 (0, 0)) (by (with_reducible repeat (first | refine blk_drewN ?_ _ | refine blk_drew ?_ | refine blk_alloc ?_ _)); exact BK174.out) NB174_169.out (by simp)); have n1_ := Aside0.mk (hb); have n2_ := Aside0.mk (hi.1); clear BK174; clear HB; clear BK169; have BK174 := n0_; have HB := n1_; have BK169 := n2_; clear n0_ n1_ n2_; (try clear hb); (try clear hb2); (try clear hk); (try clear hi); clear A27) | (go_at_call 30; (with_reducible refine (bucket_Bucket_Left.calls gb169 t175 t176 t177 t185 t186 t187 t188 w _ ?side1 ?side2 A31.out).mono ?_); (case side1 => repeat (first | (with_reducible first | exact (Aside0.mk (IsS52.mk_ BK169.out GE169.out)).out | apply IsS52.alloc | apply IsS52.drewN | apply IsS52.drew | apply IsS52.set_0 | apply IsS52.set_1 | apply IsS52.set_2 | refine IsS52.far ?_ NB169_174.out _) | exact (Aside0.mk (IsS52.mk_ BK169.out GE169.out)).out)); (case side2 => repeat (first | (with_reducible first | exact HB.out | apply below_alloc | apply pw_below_drewN | apply below_drew1 | refine below_set ?_ (IsS52.ge (Aside0.mk (IsS52.mk_ BK169.out GE169.out)).out) | refine below_set ?_ GE174.out) | exact HB.out)); rintro e w33 ⟨rfl, hi, hb, hk⟩; replace hi := bucket_Bucket_Left.ro A31.out hi; have n0_ := Aside0.mk (KeepBut.blk hk (g' := gb174) (o := .cells #[.int .i64 x175000_14, .int .i64 x175001_14, .int .i64 x175002_14] 52 (0, 0)) (by (with_reducible repeat (first | refine blk_drewN ?_ _ | refine blk_drew ?_ | refine blk_alloc ?_ _)); exact BK174.out) NB174_169.out (by simp)); have n1_ := Aside0.mk (hb); have n2_ := Aside0.mk (hi.1); clear BK174; clear HB; clear BK169; have BK174 := n0_; have HB := n1_; have BK169 := n2_; clear n0_ n1_ n2_; (try clear hb); (try clear hb2); (try clear hk); (try clear hi); clear A31))
                        go_meet
                        case rel => exact ⟨_, ((t185 != t167)), (t175), (t176), (t177), (by first | rfl | (simp; done) | (simp [*]; done)), H', ⟨by have := HK1.out; have := HJ14.out; first | omega | exact Nat.le_refl _⟩, ⟨by (with_reducible repeat (first | refine blk_drewN ?_ _ | refine blk_drew ?_ | refine blk_alloc ?_ _)); exact BK169.out⟩, ⟨by (with_reducible repeat (first | refine blk_drewN ?_ _ | refine blk_drew ?_ | refine blk_alloc ?_ _)); exact BK174.out⟩, ⟨by repeat (first | (with_reducible first | exact HB.out | apply below_alloc | apply pw_below_drewN | apply below_drew1 | refine below_set ?_ GE169.out | refine below_set ?_ GE174.out) | exact HB.out)⟩⟩
                      · rw [if_neg c30] at H
                        have c30b0 : decide (0 < t166) = false := decide_eq_false c30
                        clear c30
                        have H' := Aside0.mk H
                        clear H
                        go_wp2_with (first | (go_at_call 30; (with_reducible refine (bucket_Bucket_Left.calls gb169 t175 t176 t177 t181 t182 t183 t184 w _ ?side1 ?side2 A27.out).mono ?_); (case side1 => repeat (first | (with_reducible first | exact (Aside0.mk (IsS52.mk_ BK169.out GE169.out)).out | apply IsS52.alloc | apply IsS52.drewN | apply IsS52.drew | apply IsS52.set_0 | apply IsS52.set_1 | apply IsS52.set_2 | refine IsS52.far ?_ NB169_174.out _) | exact (Aside0.mk (IsS52.mk_ BK169.out GE169.out)).out)); (case side2 => repeat (first | (with_reducible first | exact HB.out | apply below_alloc | apply pw_below_drewN | apply below_drew1 | refine below_set ?_ (IsS52.ge (Aside0.mk (IsS52.mk_ BK169.out GE169.out)).out) | refine below_set ?_ GE174.out) | exact HB.out)); rintro e w34 ⟨rfl, hi, hb, hk⟩; replace hi := bucket_Bucket_Left.ro A27.out hi; have n0_ := Aside0.mk (KeepBut.blk hk (g' := gb174) (o := .cells #[.int .i64 x175000_14, .int .i64 x175001_14, .int .i64 x175002_14] 52 (0, 0)) (by (with_reducible repeat (first | refine blk_drewN ?_ _ | refine blk_drew ?_ | refine blk_alloc ?_ _)); exact BK174.out) NB174_169.out (by simp)); have n1_ := Aside0.mk (hb); have n2_ := Aside0.mk (hi.1); clear BK174; clear HB; clear BK169; have BK174 := n0_; have HB := n1_; have BK169 := n2_; clear n0_ n1_ n2_; (try clear hb); (try clear hb2); (try clear hk); (try clear hi); clear A27))
                        go_meet
                        case rel => exact ⟨_, (false), (t175), (t176), (t177), (by first | rfl | (simp; done) | (simp [*]; done)), H', ⟨by have := HK1.out; have := HJ14.out; first | omega | exact Nat.le_refl _⟩, ⟨by (with_reducible repeat (first | refine blk_drewN ?_ _ | refine blk_drew ?_ | refine blk_alloc ?_ _)); exact BK169.out⟩, ⟨by (with_reducible repeat (first | refine blk_drewN ?_ _ | refine blk_drew ?_ | refine blk_alloc ?_ _)); exact BK174.out⟩, ⟨by repeat (first | (with_reducible first | exact HB.out | apply below_alloc | apply pw_below_drewN | apply below_drew1 | refine below_set ?_ GE169.out | refine below_set ?_ GE174.out) | exact HB.out)⟩⟩
                    · rw [if_neg c29] at H
                      have c29b0 : decide (16000 ≤ a2) = false := decide_eq_false c29
                      clear c29
                      have H' := Aside0.mk H
                      clear H
                      go_wp2_with (first | (go_at_call 30; (with_reducible refine (bucket_Bucket_Left.calls gb169 t175 t176 t177 t181 t182 t183 t184 w _ ?side1 ?side2 A27.out).mono ?_); (case side1 => repeat (first | (with_reducible first | exact (Aside0.mk (IsS52.mk_ BK169.out GE169.out)).out | apply IsS52.alloc | apply IsS52.drewN | apply IsS52.drew | apply IsS52.set_0 | apply IsS52.set_1 | apply IsS52.set_2 | refine IsS52.far ?_ NB169_174.out _) | exact (Aside0.mk (IsS52.mk_ BK169.out GE169.out)).out)); (case side2 => repeat (first | (with_reducible first | exact HB.out | apply below_alloc | apply pw_below_drewN | apply below_drew1 | refine below_set ?_ (IsS52.ge (Aside0.mk (IsS52.mk_ BK169.out GE169.out)).out) | refine below_set ?_ GE174.out) | exact HB.out)); rintro e w35 ⟨rfl, hi, hb, hk⟩; replace hi := bucket_Bucket_Left.ro A27.out hi; have n0_ := Aside0.mk (KeepBut.blk hk (g' := gb174) (o := .cells #[.int .i64 x175000_14, .int .i64 x175001_14, .int .i64 x175002_14] 52 (0, 0)) (by (with_reducible repeat (first | refine blk_drewN ?_ _ | refine blk_drew ?_ | refine blk_alloc ?_ _)); exact BK174.out) NB174_169.out (by simp)); have n1_ := Aside0.mk (hb); have n2_ := Aside0.mk (hi.1); clear BK174; clear HB; clear BK169; have BK174 := n0_; have HB := n1_; have BK169 := n2_; clear n0_ n1_ n2_; (try clear hb); (try clear hb2); (try clear hk); (try clear hi); clear A27))
                      go_meet
                      case rel => exact ⟨_, (false), (t175), (t176), (t177), (by first | rfl | (simp; done) | (simp [*]; done)), H', ⟨by have := HK1.out; have := HJ14.out; first | omega | exact Nat.le_refl _⟩, ⟨by (with_reducible repeat (first | refine blk_drewN ?_ _ | refine blk_drew ?_ | refine blk_alloc ?_ _)); exact BK169.out⟩, ⟨by (with_reducible repeat (first | refine blk_drewN ?_ _ | refine blk_drew ?_ | refine blk_alloc ?_ _)); exact BK174.out⟩, ⟨by repeat (first | (with_reducible first | exact HB.out | apply below_alloc | apply pw_below_drewN | apply below_drew1 | refine below_set ?_ GE169.out | refine below_set ?_ GE174.out) | exact HB.out)⟩⟩
                  · rw [if_neg c28] at H
                    have c28b0 : (t181 == (wrap64 ((wrap64 (t167 - (wrap64 (Int.tdiv t167 2)))) - 1))) = false := beq_eq_false_iff_ne.mpr c28
                    have c28b1 : (t181 != (wrap64 ((wrap64 (t167 - (wrap64 (Int.tdiv t167 2)))) - 1))) = true := bne_iff_ne.mpr c28
                    have H' := Aside0.mk H
                    clear H
                    go_wp2_with (first | (go_at_call 30; (with_reducible refine (bucket_Bucket_Left.calls gb169 t175 t176 t177 t181 t182 t183 t184 w _ ?side1 ?side2 A27.out).mono ?_); (case side1 => repeat (first | (with_reducible first | exact (Aside0.mk (IsS52.mk_ BK169.out GE169.out)).out | apply IsS52.alloc | apply IsS52.drewN | apply IsS52.drew | apply IsS52.set_0 | apply IsS52.set_1 | apply IsS52.set_2 | refine IsS52.far ?_ NB169_174.out _) | exact (Aside0.mk (IsS52.mk_ BK169.out GE169.out)).out)); (case side2 => repeat (first | (with_reducible first | exact HB.out | apply below_alloc | apply pw_below_drewN | apply below_drew1 | refine below_set ?_ (IsS52.ge (Aside0.mk (IsS52.mk_ BK169.out GE169.out)).out) | refine below_set ?_ GE174.out) | exact HB.out)); rintro e w36 ⟨rfl, hi, hb, hk⟩; replace hi := bucket_Bucket_Left.ro A27.out hi; have n0_ := Aside0.mk (KeepBut.blk hk (g' := gb174) (o := .cells #[.int .i64 x175000_14, .int .i64 x175001_14, .int .i64 x175002_14] 52 (0, 0)) (by (with_reducible repeat (first | refine blk_drewN ?_ _ | refine blk_drew ?_ | refine blk_alloc ?_ _)); exact BK174.out) NB174_169.out (by simp)); have n1_ := Aside0.mk (hb); have n2_ := Aside0.mk (hi.1); clear BK174; clear HB; clear BK169; have BK174 := n0_; have HB := n1_; have BK169 := n2_; clear n0_ n1_ n2_; (try clear hb); (try clear hb2); (try clear hk); (try clear hi); clear A27))
                    go_meet
                    case rel => exact ⟨_, (true), (t175), (t176), (t177), (by first | rfl | (simp; done) | (simp [*]; done)), H', ⟨by have := HK1.out; have := HJ14.out; first | omega | exact Nat.le_refl _⟩, ⟨by (with_reducible repeat (first | refine blk_drewN ?_ _ | refine blk_drew ?_ | refine blk_alloc ?_ _)); exact BK169.out⟩, ⟨by (with_reducible repeat (first | refine blk_drewN ?_ _ | refine blk_drew ?_ | refine blk_alloc ?_ _)); exact BK174.out⟩, ⟨by repeat (first | (with_reducible first | exact HB.out | apply below_alloc | apply pw_below_drewN | apply below_drew1 | refine below_set ?_ GE169.out | refine below_set ?_ GE174.out) | exact HB.out)⟩⟩
                · rw [if_neg c26] at H
                  have c26b0 : (t166 == 0) = false := beq_eq_false_iff_ne.mpr c26
                  have c26b1 : (t166 != 0) = true := bne_iff_ne.mpr c26
                  (first | rw [c26b0] | (simp only [i64_w, i32_w]; rw [c26b0]) | skip)
                  by_cases c37 : a2 ≥ 16000
                  · rw [if_pos c37] at H
                    have c37b0 : decide (16000 ≤ a2) = true := decide_eq_true c37
                    clear c37
                    by_cases c38 : t166 > 0
                    · rw [if_pos c38] at H
                      have c38b0 : decide (0 < t166) = true := decide_eq_true c38
                      clear c38
                      replace H := Option.bind_eq_some_iff.mp H
                      obtain ⟨⟨t189, t190, t191, t192⟩, A390, H⟩ := H
                      replace H : (joustlaw08_BucketTicks.j3 kj14 (t189 != t167) t175 t176 t177 x175000_14 x175001_14 x175002_14) = some r := H
                      have A39 := Aside0.mk A390
                      clear A390
                      have H' := Aside0.mk H
                      clear H
                      go_wp2_with (first | (go_at_call 30; (with_reducible refine (bucket_Bucket_Left.calls gb169 t175 t176 t177 t189 t190 t191 t192 w _ ?side1 ?side2 A39.out).mono ?_); (case side1 => repeat (first | (with_reducible first | exact (Aside0.mk (IsS52.mk_ BK169.out GE169.out)).out | apply IsS52.alloc | apply IsS52.drewN | apply IsS52.drew | apply IsS52.set_0 | apply IsS52.set_1 | apply IsS52.set_2 | refine IsS52.far ?_ NB169_174.out _) | exact (Aside0.mk (IsS52.mk_ BK169.out GE169.out)).out)); (case side2 => repeat (first | (with_reducible first | exact HB.out | apply below_alloc | apply pw_below_drewN | apply below_drew1 | refine below_set ?_ (IsS52.ge (Aside0.mk (IsS52.mk_ BK169.out GE169.out)).out) | refine below_set ?_ GE174.out) | exact HB.out)); rintro e w40 ⟨rfl, hi, hb, hk⟩; replace hi := bucket_Bucket_Left.ro A39.out hi; have n0_ := Aside0.mk (KeepBut.blk hk (g' := gb174) (o := .cells #[.int .i64 x175000_14, .int .i64 x175001_14, .int .i64 x175002_14] 52 (0, 0)) (by (with_reducible repeat (first | refine blk_drewN ?_ _ | refine blk_drew ?_ | refine blk_alloc ?_ _)); exact BK174.out) NB174_169.out (by simp)); have n1_ := Aside0.mk (hb); have n2_ := Aside0.mk (hi.1); clear BK174; clear HB; clear BK169; have BK174 := n0_; have HB := n1_; have BK169 := n2_; clear n0_ n1_ n2_; (try clear hb); (try clear hb2); (try clear hk); (try clear hi); clear A39))
                      go_meet
                      case rel => exact ⟨_, ((t189 != t167)), (t175), (t176), (t177), (by first | rfl | (simp; done) | (simp [*]; done)), H', ⟨by have := HK1.out; have := HJ14.out; first | omega | exact Nat.le_refl _⟩, ⟨by (with_reducible repeat (first | refine blk_drewN ?_ _ | refine blk_drew ?_ | refine blk_alloc ?_ _)); exact BK169.out⟩, ⟨by (with_reducible repeat (first | refine blk_drewN ?_ _ | refine blk_drew ?_ | refine blk_alloc ?_ _)); exact BK174.out⟩, ⟨by repeat (first | (with_reducible first | exact HB.out | apply below_alloc | apply pw_below_drewN | apply below_drew1 | refine below_set ?_ GE169.out | refine below_set ?_ GE174.out) | exact HB.out)⟩⟩
                    · rw [if_neg c38] at H
                      have c38b0 : decide (0 < t166) = false := decide_eq_false c38
                      clear c38
                      have H' := Aside0.mk H
                      clear H
                      go_wp2
                      go_meet
                      case rel => exact ⟨_, (false), (t175), (t176), (t177), (by first | rfl | (simp; done) | (simp [*]; done)), H', ⟨by have := HK1.out; have := HJ14.out; first | omega | exact Nat.le_refl _⟩, ⟨by (with_reducible repeat (first | refine blk_drewN ?_ _ | refine blk_drew ?_ | refine blk_alloc ?_ _)); exact BK169.out⟩, ⟨by (with_reducible repeat (first | refine blk_drewN ?_ _ | refine blk_drew ?_ | refine blk_alloc ?_ _)); exact BK174.out⟩, ⟨by repeat (first | (with_reducible first | exact HB.out | apply below_alloc | apply pw_below_drewN | apply below_drew1 | refine below_set ?_ GE169.out | refine below_set ?_ GE174.out) | exact HB.out)⟩⟩
                  · rw [if_neg c37] at H
                    have c37b0 : decide (16000 ≤ a2) = false := decide_eq_false c37
                    clear c37
                    have H' := Aside0.mk H
                    clear H
                    go_wp2
                    go_meet
                    case rel => exact ⟨_, (false), (t175), (t176), (t177), (by first | rfl | (simp; done) | (simp [*]; done)), H', ⟨by have := HK1.out; have := HJ14.out; first | omega | exact Nat.le_refl _⟩, ⟨by (with_reducible repeat (first | refine blk_drewN ?_ _ | refine blk_drew ?_ | refine blk_alloc ?_ _)); exact BK169.out⟩, ⟨by (with_reducible repeat (first | refine blk_drewN ?_ _ | refine blk_drew ?_ | refine blk_alloc ?_ _)); exact BK174.out⟩, ⟨by repeat (first | (with_reducible first | exact HB.out | apply below_alloc | apply pw_below_drewN | apply below_drew1 | refine below_set ?_ GE169.out | refine below_set ?_ GE174.out) | exact HB.out)⟩⟩
              case rest =>
                clear HC25
                try clear c1
                try clear c2
                try clear p2
                try clear c3
                try clear c5
                try clear p6
                try clear c9
                try clear c9b0
                try clear c11
                try clear c11b0
                try clear c11b1
                try clear c18
                try clear c21
                try clear c21b0
                try clear c22
                try clear c22b0
                try clear c24
                try clear c26
                try clear c26b0
                try clear c26b1
                try clear c28
                try clear c28b0
                try clear c28b1
                try clear c29
                try clear c29b0
                try clear c30
                try clear c30b0
                try clear c32
                try clear c37
                try clear c37b0
                try clear c38
                try clear c38b0
                try clear hcz16_0
                try clear hcz16_1
                try clear hcz16_2
                try clear hcz19_0
                try clear hcz19_1
                try clear hcz19_2
                try clear hcz8_0
                try clear hcz8_1
                try clear hcz8_2
                try clear hfz16_0
                try clear hfz16_1
                try clear hfz16_2
                try clear hfz19_0
                try clear hfz19_1
                try clear hfz19_2
                try clear hfz8_0
                try clear hfz8_1
                try clear hfz8_2
                try clear p2
                try clear p6
                obtain ⟨kq, x70_24, x170000_24, x170001_24, x170002_24, rfl, HA, HJ24, BK169, BK174, HB⟩ := hcut
                cases kq with
                | zero => exact absurd HA.out (by simp [joustlaw08_BucketTicks.j3])
                | succ kj24 =>
                  have H := HA.out
                  clear HA
                  simp only [joustlaw08_BucketTicks.j3] at H
                  by_cases c41 : x70_24 = true
                  · subst c41
                    have H1 : (some false) = some r := by rw [if_pos rfl] at H; exact H
                    clear H
                    have H := H1
                    clear H1
                    obtain rfl := Option.some.inj H
                    go_wp2
                    go_ret
                    exact ⟨by first | rfl | (simp [errW_none, errW_some] <;> rfl) | (simp [*, errW_none, errW_some] <;> rfl), by repeat (first | (with_reducible first | exact HB.out | apply below_alloc | apply pw_below_drewN | apply below_drew1 | refine below_set ?_ GE169.out | refine below_set ?_ GE174.out) | exact HB.out)⟩
                  · replace c41 := Bool.eq_false_iff.mpr c41
                    subst c41
                    have H1 : (joustlaw08_BucketTicks.l2 kj24 0 x170000_24 x170001_24 x170002_24 x175000_14 x175001_14 x175002_14) = some r := by rw [if_neg (show ¬ (false = true) by decide)] at H; exact H
                    clear H
                    have H := H1
                    clear H1
                    have H' := Aside0.mk H
                    clear H
                    go_wp2
                    go_loopg [14] kj24 (fun kq v14 w' => ∃ (x14_4 : Int) (x170000_4 : Int) (x170001_4 : Int) (x170002_4 : Int) (x175000_4 : Int) (x175001_4 : Int) (x175002_4 : Int), v14 = .int .i64 x14_4 ∧ Aside0 (joustlaw08_BucketTicks.l2 kq x14_4 x170000_4 x170001_4 x170002_4 x175000_4 x175001_4 x175002_4 = some r) ∧ Aside0 (kq ≤ kj24) ∧ Aside0 (w'.heap[gb169]? = some (.cells #[.int .i64 x170000_4, .int .i64 x170001_4, .int .i64 x170002_4] 52 (0, 0))) ∧ Aside0 (w'.heap[gb174]? = some (.cells #[.int .i64 x175000_4, .int .i64 x175001_4, .int .i64 x175002_4] 52 (0, 0))) ∧ Aside0 (Below w.heap.size w w'))
                    case atStart => exact ⟨(0), (x170000_24), (x170001_24), (x170002_24), (x175000_14), (x175001_14), (x175002_14), (by first | rfl | (simp; done) | (simp [*]; done)), H', ⟨Nat.le_refl _⟩, ⟨by (with_reducible repeat (first | refine blk_drewN ?_ _ | refine blk_drew ?_ | refine blk_alloc ?_ _)); exact BK169.out⟩, ⟨by (with_reducible repeat (first | refine blk_drewN ?_ _ | refine blk_drew ?_ | refine blk_alloc ?_ _)); exact BK174.out⟩, ⟨by repeat (first | (with_reducible first | exact HB.out | apply below_alloc | apply pw_below_drewN | apply below_drew1 | refine below_set ?_ GE169.out | refine below_set ?_ GE174.out) | exact HB.out)⟩⟩
                    case round =>
                      clear H'
                      try clear c1
                      try clear c2
                      try clear p2
                      try clear c3
                      try clear c4
                      try clear c5
                      try clear p6
                      try clear c9
                      try clear c9b0
                      try clear c11
                      try clear c11b0
                      try clear c11b1
                      try clear c18
                      try clear c21
                      try clear c21b0
                      try clear c22
                      try clear c22b0
                      try clear c24
                      try clear c26
                      try clear c26b0
                      try clear c26b1
                      try clear c28
                      try clear c28b0
                      try clear c28b1
                      try clear c29
                      try clear c29b0
                      try clear c30
                      try clear c30b0
                      try clear c32
                      try clear c37
                      try clear c37b0
                      try clear c38
                      try clear c38b0
                      try clear c41
                      try clear hcz16_0
                      try clear hcz16_1
                      try clear hcz16_2
                      try clear hcz19_0
                      try clear hcz19_1
                      try clear hcz19_2
                      try clear hcz8_0
                      try clear hcz8_1
                      try clear hcz8_2
                      try clear hfz16_0
                      try clear hfz16_1
                      try clear hfz16_2
                      try clear hfz19_0
                      try clear hfz19_1
                      try clear hfz19_2
                      try clear hfz8_0
                      try clear hfz8_1
                      try clear hfz8_2
                      try clear p2
                      try clear p6
                      obtain ⟨x14_4, x170000_4, x170001_4, x170002_4, x175000_4, x175001_4, x175002_4, rfl, HA, HK4, BK169, BK174, HB⟩ := hrel
                      cases gk with
                      | zero => exact absurd HA.out (by simp [joustlaw08_BucketTicks.l2])
                      | succ k4 =>
                        have H := HA.out
                        clear HA
                        simp only [joustlaw08_BucketTicks.l2] at H
                        by_cases c42 : x14_4 < 17
                        · rw [if_pos c42] at H
                          have c42b0 : decide (x14_4 < 17) = true := decide_eq_true c42
                          clear c42
                          replace H := Option.bind_eq_some_iff.mp H
                          obtain ⟨⟨t193, t194, t195, t196⟩, A430, H⟩ := H
                          replace H : ((bucket_Bucket_Left.f x175000_4 x175001_4 x175002_4).bind fun bt197 => (if t193 = bt197.1 then ((bucket_Bucket_Tick.f x170000_4 x170001_4 x170002_4).bind fun bt201 => ((bucket_Bucket_Tick.f x175000_4 x175001_4 x175002_4).bind fun bt204 => (joustlaw08_BucketTicks.l2 k4 (wrap64 (x14_4 + 1)) bt201.1 bt201.2.1 bt201.2.2 bt204.1 bt204.2.1 bt204.2.2))) else (some false))) = some r := H
                          have A43 := Aside0.mk A430
                          clear A430
                          replace H := Option.bind_eq_some_iff.mp H
                          obtain ⟨⟨t197, t198, t199, t200⟩, A440, H⟩ := H
                          replace H : (if t193 = t197 then ((bucket_Bucket_Tick.f x170000_4 x170001_4 x170002_4).bind fun bt201 => ((bucket_Bucket_Tick.f x175000_4 x175001_4 x175002_4).bind fun bt204 => (joustlaw08_BucketTicks.l2 k4 (wrap64 (x14_4 + 1)) bt201.1 bt201.2.1 bt201.2.2 bt204.1 bt204.2.1 bt204.2.2))) else (some false)) = some r := H
                          have A44 := Aside0.mk A440
                          clear A440
                          by_cases c45 : t193 = t197
                          · rw [if_pos c45] at H
                            have c45b0 : (t193 == t197) = true := beq_iff_eq.mpr c45
                            have c45b1 : (t193 != t197) = false := bne_eq_false_iff_eq.mpr c45
                            clear c45
                            replace H := Option.bind_eq_some_iff.mp H
                            obtain ⟨⟨t201, t202, t203⟩, A460, H⟩ := H
                            replace H : ((bucket_Bucket_Tick.f x175000_4 x175001_4 x175002_4).bind fun bt204 => (joustlaw08_BucketTicks.l2 k4 (wrap64 (x14_4 + 1)) t201 t202 t203 bt204.1 bt204.2.1 bt204.2.2)) = some r := H
                            have A46 := Aside0.mk A460
                            clear A460
                            replace H := Option.bind_eq_some_iff.mp H
                            obtain ⟨⟨t204, t205, t206⟩, A470, H⟩ := H
                            replace H : (joustlaw08_BucketTicks.l2 k4 (wrap64 (x14_4 + 1)) t201 t202 t203 t204 t205 t206) = some r := H
                            have A47 := Aside0.mk A470
                            clear A470
                            have H' := Aside0.mk H
                            clear H
                            go_wp2_with (first | ((with_reducible refine gate_callee (f := 30) rfl ?_); refine goesL_ (some 75) rfl rfl Try.func30 (by kernel_rfl) rfl #[.pointer (some ⟨gb169, 0, none⟩)] rfl (by (try simp only [List.map_toArray, List.map_cons, List.map_nil]); first | done | rfl | (simp only [List.length_drop, List.length_take]; rfl)) ?_; (with_reducible refine (bucket_Bucket_Left.calls gb169 x170000_4 x170001_4 x170002_4 t193 t194 t195 t196 w _ ?side1 ?side2 A43.out).mono ?_); (case side1 => repeat (first | (with_reducible first | exact (Aside0.mk (IsS52.mk_ BK169.out GE169.out)).out | apply IsS52.alloc | apply IsS52.drewN | apply IsS52.drew | apply IsS52.set_0 | apply IsS52.set_1 | apply IsS52.set_2 | refine IsS52.far ?_ NB169_174.out _) | exact (Aside0.mk (IsS52.mk_ BK169.out GE169.out)).out)); (case side2 => repeat (first | (with_reducible first | exact HB.out | apply below_alloc | apply pw_below_drewN | apply below_drew1 | refine below_set ?_ (IsS52.ge (Aside0.mk (IsS52.mk_ BK169.out GE169.out)).out) | refine below_set ?_ GE174.out) | exact HB.out)); rintro e w48 ⟨rfl, hi, hb, hk⟩; refine ⟨_, rfl, ?_⟩; replace hi := bucket_Bucket_Left.ro A43.out hi; have n0_ := Aside0.mk (KeepBut.blk hk (g' := gb174) (o := .cells #[.int .i64 x175000_4, .int .i64 x175001_4, .int .i64 x175002_4] 52 (0, 0)) (by (with_reducible repeat (first | refine blk_drewN ?_ _ | refine blk_drew ?_ | refine blk_alloc ?_ _)); exact BK174.out) NB174_169.out (by simp)); have n1_ := Aside0.mk (hb); have n2_ := Aside0.mk (hi.1); clear BK174; clear HB; clear BK169; have BK174 := n0_; have HB := n1_; have BK169 := n2_; clear n0_ n1_ n2_; (try clear hb); (try clear hb2); (try clear hk); (try clear hi); clear A43) | ((with_reducible refine gate_callee (f := 30) rfl ?_); refine goesL_ (some 76) rfl rfl Try.func30 (by kernel_rfl) rfl #[.pointer (some ⟨gb174, 0, none⟩)] rfl (by (try simp only [List.map_toArray, List.map_cons, List.map_nil]); first | done | rfl | (simp only [List.length_drop, List.length_take]; rfl)) ?_; (with_reducible refine (bucket_Bucket_Left.calls gb174 x175000_4 x175001_4 x175002_4 t197 t198 t199 t200 w _ ?side1 ?side2 A44.out).mono ?_); (case side1 => repeat (first | (with_reducible first | exact (Aside0.mk (IsS52.mk_ BK174.out GE174.out)).out | apply IsS52.alloc | apply IsS52.drewN | apply IsS52.drew | apply IsS52.set_0 | apply IsS52.set_1 | apply IsS52.set_2 | refine IsS52.far ?_ NB174_169.out _) | exact (Aside0.mk (IsS52.mk_ BK174.out GE174.out)).out)); (case side2 => repeat (first | (with_reducible first | exact HB.out | apply below_alloc | apply pw_below_drewN | apply below_drew1 | refine below_set ?_ (IsS52.ge (Aside0.mk (IsS52.mk_ BK174.out GE174.out)).out) | refine below_set ?_ GE169.out) | exact HB.out)); rintro e w49 ⟨rfl, hi, hb, hk⟩; refine ⟨_, rfl, ?_⟩; replace hi := bucket_Bucket_Left.ro A44.out hi; have n0_ := Aside0.mk (KeepBut.blk hk (g' := gb169) (o := .cells #[.int .i64 x170000_4, .int .i64 x170001_4, .int .i64 x170002_4] 52 (0, 0)) (by (with_reducible repeat (first | refine blk_drewN ?_ _ | refine blk_drew ?_ | refine blk_alloc ?_ _)); exact BK169.out) NB169_174.out (by simp)); have n1_ := Aside0.mk (hb); have n2_ := Aside0.mk (hi.1); clear BK169; clear HB; clear BK174; have BK169 := n0_; have HB := n1_; have BK174 := n2_; clear n0_ n1_ n2_; (try clear hb); (try clear hb2); (try clear hk); (try clear hi); clear A44) | ((with_reducible refine gate_callee (f := 26) rfl ?_); refine goesL_ (some 78) rfl rfl Try.func26 (by kernel_rfl) rfl #[.pointer (some ⟨gb169, 0, none⟩)] rfl (by (try simp only [List.map_toArray, List.map_cons, List.map_nil]); first | done | rfl | (simp only [List.length_drop, List.length_take]; rfl)) ?_; (with_reducible refine (bucket_Bucket_Tick.calls gb169 x170000_4 x170001_4 x170002_4 t201 t202 t203 w _ ?side1 ?side2 A46.out).mono ?_); (case side1 => repeat (first | (with_reducible first | exact (Aside0.mk (IsS52.mk_ BK169.out GE169.out)).out | apply IsS52.alloc | apply IsS52.drewN | apply IsS52.drew | apply IsS52.set_0 | apply IsS52.set_1 | apply IsS52.set_2 | refine IsS52.far ?_ NB169_174.out _) | exact (Aside0.mk (IsS52.mk_ BK169.out GE169.out)).out)); (case side2 => repeat (first | (with_reducible first | exact HB.out | apply below_alloc | apply pw_below_drewN | apply below_drew1 | refine below_set ?_ (IsS52.ge (Aside0.mk (IsS52.mk_ BK169.out GE169.out)).out) | refine below_set ?_ GE174.out) | exact HB.out)); rintro e w50 ⟨rfl, hi, hb, hk⟩; refine ⟨_, rfl, ?_⟩; have n0_ := Aside0.mk (KeepBut.blk hk (g' := gb174) (o := .cells #[.int .i64 x175000_4, .int .i64 x175001_4, .int .i64 x175002_4] 52 (0, 0)) (by (with_reducible repeat (first | refine blk_drewN ?_ _ | refine blk_drew ?_ | refine blk_alloc ?_ _)); exact BK174.out) NB174_169.out (by simp)); have n1_ := Aside0.mk (hb); have n2_ := Aside0.mk (hi.1); clear BK174; clear HB; clear BK169; have BK174 := n0_; have HB := n1_; have BK169 := n2_; clear n0_ n1_ n2_; (try clear hb); (try clear hb2); (try clear hk); (try clear hi)) | ((with_reducible refine gate_callee (f := 26) rfl ?_); refine goesL_ (some 79) rfl rfl Try.func26 (by kernel_rfl) rfl #[.pointer (some ⟨gb174, 0, none⟩)] rfl (by (try simp only [List.map_toArray, List.map_cons, List.map_nil]); first | done | rfl | (simp only [List.length_drop, List.length_take]; rfl)) ?_; (with_reducible refine (bucket_Bucket_Tick.calls gb174 x175000_4 x175001_4 x175002_4 t204 t205 t206 w _ ?side1 ?side2 A47.out).mono ?_); (case side1 => repeat (first | (with_reducible first | exact (Aside0.mk (IsS52.mk_ BK174.out GE174.out)).out | apply IsS52.alloc | apply IsS52.drewN | apply IsS52.drew | apply IsS52.set_0 | apply IsS52.set_1 | apply IsS52.set_2 | refine IsS52.far ?_ NB174_169.out _) | exact (Aside0.mk (IsS52.mk_ BK174.out GE174.out)).out)); (case side2 => repeat (first | (with_reducible first | exact HB.out | apply below_alloc | apply pw_below_drewN | apply below_drew1 | refine below_set ?_ (IsS52.ge (Aside0.mk (IsS52.mk_ BK174.out GE174.out)).out) | refine below_set ?_ GE169.out) | exact HB.out)); rintro e w51 ⟨rfl, hi, hb, hk⟩; refine ⟨_, rfl, ?_⟩; have n0_ := Aside0.mk (KeepBut.blk hk (g' := gb169) (o := .cells #[.int .i64 t201, .int .i64 t202, .int .i64 t203] 52 (0, 0)) (by (with_reducible repeat (first | refine blk_drewN ?_ _ | refine blk_drew ?_ | refine blk_alloc ?_ _)); exact BK169.out) NB169_174.out (by simp)); have n1_ := Aside0.mk (hb); have n2_ := Aside0.mk (hi.1); clear BK169; clear HB; clear BK174; have BK169 := n0_; have HB := n1_; have BK174 := n2_; clear n0_ n1_ n2_; (try clear hb); (try clear hb2); (try clear hk); (try clear hi)))
                            go_roundg k4
                            case measure => have := HK1.out; have := HJ14.out; have := HJ24.out; have := HK4.out; omega
                            case rel => exact ⟨(wrap64 (x14_4 + 1)), (t201), (t202), (t203), (t204), (t205), (t206), (by first | rfl | (simp; done) | (simp [*]; done)), H', ⟨by have := HK1.out; have := HJ14.out; have := HJ24.out; have := HK4.out; omega⟩, ⟨by (with_reducible repeat (first | refine blk_drewN ?_ _ | refine blk_drew ?_ | refine blk_alloc ?_ _)); exact BK169.out⟩, ⟨by (with_reducible repeat (first | refine blk_drewN ?_ _ | refine blk_drew ?_ | refine blk_alloc ?_ _)); exact BK174.out⟩, ⟨by repeat (first | (with_reducible first | exact HB.out | apply below_alloc | apply pw_below_drewN | apply below_drew1 | refine below_set ?_ GE169.out | refine below_set ?_ GE174.out) | exact HB.out)⟩⟩
                          · rw [if_neg c45] at H
                            have c45b0 : (t193 == t197) = false := beq_eq_false_iff_ne.mpr c45
                            have c45b1 : (t193 != t197) = true := bne_iff_ne.mpr c45
                            obtain rfl := Option.some.inj H
                            go_wp2_with (first | ((with_reducible refine gate_callee (f := 30) rfl ?_); refine goesL_ (some 75) rfl rfl Try.func30 (by kernel_rfl) rfl #[.pointer (some ⟨gb169, 0, none⟩)] rfl (by (try simp only [List.map_toArray, List.map_cons, List.map_nil]); first | done | rfl | (simp only [List.length_drop, List.length_take]; rfl)) ?_; (with_reducible refine (bucket_Bucket_Left.calls gb169 x170000_4 x170001_4 x170002_4 t193 t194 t195 t196 w _ ?side1 ?side2 A43.out).mono ?_); (case side1 => repeat (first | (with_reducible first | exact (Aside0.mk (IsS52.mk_ BK169.out GE169.out)).out | apply IsS52.alloc | apply IsS52.drewN | apply IsS52.drew | apply IsS52.set_0 | apply IsS52.set_1 | apply IsS52.set_2 | refine IsS52.far ?_ NB169_174.out _) | exact (Aside0.mk (IsS52.mk_ BK169.out GE169.out)).out)); (case side2 => repeat (first | (with_reducible first | exact HB.out | apply below_alloc | apply pw_below_drewN | apply below_drew1 | refine below_set ?_ (IsS52.ge (Aside0.mk (IsS52.mk_ BK169.out GE169.out)).out) | refine below_set ?_ GE174.out) | exact HB.out)); rintro e w52 ⟨rfl, hi, hb, hk⟩; refine ⟨_, rfl, ?_⟩; replace hi := bucket_Bucket_Left.ro A43.out hi; have n0_ := Aside0.mk (KeepBut.blk hk (g' := gb174) (o := .cells #[.int .i64 x175000_4, .int .i64 x175001_4, .int .i64 x175002_4] 52 (0, 0)) (by (with_reducible repeat (first | refine blk_drewN ?_ _ | refine blk_drew ?_ | refine blk_alloc ?_ _)); exact BK174.out) NB174_169.out (by simp)); have n1_ := Aside0.mk (hb); have n2_ := Aside0.mk (hi.1); clear BK174; clear HB; clear BK169; have BK174 := n0_; have HB := n1_; have BK169 := n2_; clear n0_ n1_ n2_; (try clear hb); (try clear hb2); (try clear hk); (try clear hi); clear A43) | ((with_reducible refine gate_callee (f := 30) rfl ?_); refine goesL_ (some 76) rfl rfl Try.func30 (by kernel_rfl) rfl #[.pointer (some ⟨gb174, 0, none⟩)] rfl (by (try simp only [List.map_toArray, List.map_cons, List.map_nil]); first | done | rfl | (simp only [List.length_drop, List.length_take]; rfl)) ?_; (with_reducible refine (bucket_Bucket_Left.calls gb174 x175000_4 x175001_4 x175002_4 t197 t198 t199 t200 w _ ?side1 ?side2 A44.out).mono ?_); (case side1 => repeat (first | (with_reducible first | exact (Aside0.mk (IsS52.mk_ BK174.out GE174.out)).out | apply IsS52.alloc | apply IsS52.drewN | apply IsS52.drew | apply IsS52.set_0 | apply IsS52.set_1 | apply IsS52.set_2 | refine IsS52.far ?_ NB174_169.out _) | exact (Aside0.mk (IsS52.mk_ BK174.out GE174.out)).out)); (case side2 => repeat (first | (with_reducible first | exact HB.out | apply below_alloc | apply pw_below_drewN | apply below_drew1 | refine below_set ?_ (IsS52.ge (Aside0.mk (IsS52.mk_ BK174.out GE174.out)).out) | refine below_set ?_ GE169.out) | exact HB.out)); rintro e w53 ⟨rfl, hi, hb, hk⟩; refine ⟨_, rfl, ?_⟩; replace hi := bucket_Bucket_Left.ro A44.out hi; have n0_ := Aside0.mk (KeepBut.blk hk (g' := gb169) (o := .cells #[.int .i64 x170000_4, .int .i64 x170001_4, .int .i64 x170002_4] 52 (0, 0)) (by (with_reducible repeat (first | refine blk_drewN ?_ _ | refine blk_drew ?_ | refine blk_alloc ?_ _)); exact BK169.out) NB169_174.out (by simp)); have n1_ := Aside0.mk (hb); have n2_ := Aside0.mk (hi.1); clear BK169; clear HB; clear BK174; have BK169 := n0_; have HB := n1_; have BK174 := n2_; clear n0_ n1_ n2_; (try clear hb); (try clear hb2); (try clear hk); (try clear hi); clear A44))
                            go_ret
                            exact ⟨by first | rfl | (simp [errW_none, errW_some] <;> rfl) | (simp [*, errW_none, errW_some] <;> rfl), by repeat (first | (with_reducible first | exact HB.out | apply below_alloc | apply pw_below_drewN | apply below_drew1 | refine below_set ?_ GE169.out | refine below_set ?_ GE174.out) | exact HB.out)⟩
                        · rw [if_neg c42] at H
                          have c42b0 : decide (x14_4 < 17) = false := decide_eq_false c42
                          clear c42
                          obtain rfl := Option.some.inj H
                          go_wp2
                          go_ret
                          exact ⟨by first | rfl | (simp [errW_none, errW_some] <;> rfl) | (simp [*, errW_none, errW_some] <;> rfl), by repeat (first | (with_reducible first | exact HB.out | apply below_alloc | apply pw_below_drewN | apply below_drew1 | refine below_set ?_ GE169.out | refine below_set ?_ GE174.out) | exact HB.out)⟩
  · replace c5 := Bool.eq_false_iff.mpr c5
    subst c5
    have H1 : (some false) = some r := by rw [if_neg (show ¬ (false = true) by decide)] at H; exact H
    clear H
    have H := H1
    clear H1
    obtain rfl := Option.some.inj H
    go_enter Try.func9, Try.ntmps9
    go_wp2_with (first | ((with_reducible refine gate_callee (f := 32) rfl ?_); refine goesL_ (some 18) rfl rfl Try.func32 (by kernel_rfl) rfl #[.int .i64 a0, .int .i64 a1] rfl (by (try simp only [List.map_toArray, List.map_cons, List.map_nil]); first | done | rfl | (simp only [List.length_drop, List.length_take]; rfl)) ?_; (with_reducible refine (joustlaw08_full.calls k a0 a1 t163 t164 t165 t166 t167 false _ A4.out).mono ?_); rintro e w54 ⟨rfl, hb⟩; refine ⟨_, rfl, ?_⟩; have n0_ := Aside0.mk (below_step (by repeat (first | (with_reducible first | exact HB.out | apply below_alloc | apply pw_below_drewN | apply below_drew1) | exact HB.out)) hb); clear HB; have HB := n0_; clear n0_; (try clear hb); (try clear hb2); (try clear hk); (try clear hi)) | ((with_reducible refine gate_dst (N := 7) rfl ?_); refine box_event ?hg (N := 7) ?hd (cs := #[.int .i64 0, .int .i64 0, .int .i64 0]) (t := 52) ?hr ?_; (case hd => rfl); (case hg => rfl); (case hr => first | (go_simp; done) | (go_simp; rfl)); intro gb169 hg w55 hbox hb; have n0_ := Aside0.mk (below_step (by repeat (first | (with_reducible first | exact HB.out | apply below_alloc | apply pw_below_drewN | apply below_drew1) | exact HB.out)) hb); have n1_ := Aside0.mk (hbox); have n2_ := Aside0.mk ((by rw [hg]; exact (below_size (by repeat (first | (with_reducible first | exact HB.out | apply below_alloc | apply pw_below_drewN | apply below_drew1) | exact HB.out))) : w.heap.size ≤ gb169)); have n3_ := Aside0.mk ((by rw [hg]; exact (below_size (by repeat (first | (with_reducible first | exact HB.out | apply below_alloc | apply pw_below_drewN | apply below_drew1) | exact HB.out))) : w.heap.size ≤ gb169)); clear HB; have HB := n0_; have BK169 := n1_; have GW169 := n2_; have GE169 := n3_; clear n0_ n1_ n2_ n3_; clear hb hbox hg; have hcz56_0 : w55.cell? ⟨gb169, 0, none⟩ = some (.int .i64 0) := (blk_cell BK169.out 0).trans rfl; have hcz56_1 : w55.cell? ⟨gb169, 1, none⟩ = some (.int .i64 0) := (blk_cell BK169.out 1).trans rfl; have hcz56_2 : w55.cell? ⟨gb169, 2, none⟩ = some (.int .i64 0) := (blk_cell BK169.out 2).trans rfl; have hfz56_0 := blk_frozen BK169.out 0; have hfz56_1 := blk_frozen BK169.out 1; have hfz56_2 := blk_frozen BK169.out 2))
    go_ret
    exact ⟨by first | rfl | (simp [errW_none, errW_some] <;> rfl) | (simp [*, errW_none, errW_some] <;> rfl), by repeat (first | (with_reducible first | exact HB.out | apply below_alloc | apply pw_below_drewN | apply below_drew1 | refine below_set ?_ GE169.out) | exact HB.out)⟩

/-- THE ONE PURE STATEMENT of joustlaw08_BucketTicks: yours. -/
def joustlaw08_BucketTicks.Pure : Prop := ∀ (a0 : Int) (a1 : Int) (a2 : Int), (Lit.int .i64 a0).wf = true → (Lit.int .i64 a1).wf = true → (Lit.int .u64 a2).wf = true → ∃ k, joustlaw08_BucketTicks.f k a0 a1 a2 = some true
theorem joustlaw08_BucketTicks.walk (P : joustlaw08_BucketTicks.Pure) (a0 : Int) (a1 : Int) (a2 : Int) (w : World) (w0 : (Lit.int .i64 a0).wf = true) (w1 : (Lit.int .i64 a1).wf = true) (w2 : (Lit.int .u64 a2).wf = true) :
    Calls Try.prog 9 #[.int .i64 a0, .int .i64 a1, .int .u64 a2] w fun e w' => e = .returned (.bool true) ∧ Below w.heap.size w w' := by
  obtain ⟨k, h⟩ := P a0 a1 a2 w0 w1 w2
  refine (joustlaw08_BucketTicks.calls k a0 a1 a2 true w h).mono ?_
  rintro e w' ⟨rfl, hd⟩
  exact ⟨rfl, hd⟩

end Go.Proofs.Ytidjnpfpbbffjaa.PBucketTicks
