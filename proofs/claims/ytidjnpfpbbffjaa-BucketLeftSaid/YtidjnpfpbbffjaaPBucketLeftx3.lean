-- Printed by a program of this session, a changed copy of the print
import Derived.Test.YtidjnpfpbbffjaaPBucketLeftx0
import Derived.Test.YtidjnpfpbbffjaaPBucketLeftx1
import Derived.Test.YtidjnpfpbbffjaaPBucketLeftx2
namespace Go.Proofs.Ytidjnpfpbbffjaa.PBucketLeft
open Go.RowKit Go.Proofs.YtidjnpfpbbffjaaW.PrintWords Go.Proofs.YtidjnpfpbbffjaaW.PrintLast Go.Proofs.YtidjnpfpbbffjaaW.PrintMore
attribute [local go_sem] max2_int min2_int max_two min_two max_three min_three max_four min_four   -- for this text's walks alone
set_option linter.unusedVariables false
set_option linter.unusedSimpArgs false

/-! ### joustlaw08_BucketLeft: function 10 -/
mutual
def joustlaw08_BucketLeft.l0 : Nat → List (S62) → Int → Int → Int → Int → Int → Option (Bool)
  | 0, _, _, _, _, _, _ => none
  | k + 1, x2, x9, x11, x170000, x170001, x170002 => if x11 < (x2.length : Int) then (joustlaw08_BucketLeft.j1 k x2 x9 x11 (decide (x11 < 300)) x170000 x170001 x170002) else (joustlaw08_BucketLeft.j1 k x2 x9 x11 false x170000 x170001 x170002)
def joustlaw08_BucketLeft.j1 : Nat → List (S62) → Int → Int → Bool → Int → Int → Int → Option (Bool)
  | 0, _, _, _, _, _, _, _ => none
  | k + 1, x2, x9, x11, x32, x170000, x170001, x170002 => if x32 = true then (if 0 ≤ x11 then (if x11 < (x2.length : Int) then (if ((rd_T62 x2 x11).f0) = 1 then ((bucket_Bucket_Take.f x170000 x170001 x170002).bind fun bt171 => (joustlaw08_BucketLeft.j2 k x2 x9 x11 bt171.2.1 bt171.2.2.1 bt171.2.2.2)) else (if ((rd_T62 x2 x11).f0) = 2 then ((bucket_Bucket_Tick.f x170000 x170001 x170002).bind fun bt175 => (joustlaw08_BucketLeft.j2 k x2 x9 x11 bt175.1 bt175.2.1 bt175.2.2)) else (if ((rd_T62 x2 x11).f0) = 3 then ((bucket_Bucket_Ticks.f x170000 x170001 x170002 ((rd_T62 x2 x11).f1)).bind fun bt179 => (joustlaw08_BucketLeft.j2 k x2 x9 x11 bt179.1 bt179.2.1 bt179.2.2)) else (joustlaw08_BucketLeft.j2 k x2 x9 x11 x170000 x170001 x170002)))) else (none)) else (none)) else ((bucket_Bucket_Left.f x170000 x170001 x170002).bind fun bt190 => (joustlaw08_BucketLeft.l1 k bt190.1 0 x170000 x170001 x170002 x170000 x170001 x170002))
def joustlaw08_BucketLeft.j2 : Nat → List (S62) → Int → Int → Int → Int → Int → Option (Bool)
  | 0, _, _, _, _, _, _ => none
  | k + 1, x2, x9, x11, x170000, x170001, x170002 => (bucket_Bucket_Left.f x170000 x170001 x170002).bind fun bt182 => (if bt182.1 < 0 then (some false) else ((bucket_Bucket_Left.f x170000 x170001 x170002).bind fun bt186 => (if bt186.1 > x9 then (some false) else (joustlaw08_BucketLeft.l0 k x2 x9 (wrap64 (x11 + 1)) x170000 x170001 x170002))))
def joustlaw08_BucketLeft.l1 : Nat → Int → Int → Int → Int → Int → Int → Int → Int → Option (Bool)
  | 0, _, _, _, _, _, _, _, _ => none
  | k + 1, x12, x14, x170000, x170001, x170002, x195000, x195001, x195002 => if x14 < x12 then ((bucket_Bucket_Take.f x170000 x170001 x170002).bind fun bt207 => (if bt207.1 = 0 then ((bucket_Bucket_Left.f bt207.2.1 bt207.2.2.1 bt207.2.2.2).bind fun bt211 => (if bt211.1 = (wrap64 ((wrap64 (x12 - x14)) - 1)) then (joustlaw08_BucketLeft.l1 k x12 (wrap64 (x14 + 1)) bt207.2.1 bt207.2.2.1 bt207.2.2.2 x195000 x195001 x195002) else (some false))) else (some false))) else ((bucket_Bucket_Take.f x170000 x170001 x170002).bind fun bt195 => (if bt195.1 = 80 then ((bucket_Bucket_Left.f bt195.2.1 bt195.2.2.1 bt195.2.2.2).bind fun bt199 => (if bt199.1 = 0 then ((bucket_Bucket_Left.f x195000 x195001 x195002).bind fun bt203 => (some (bt203.1 == x12))) else (some false))) else (some false)))
end
def joustlaw08_BucketLeft.f (k : Nat) (a0 : Int) (a1 : Int) (l2 : List (S62)) : Option (Bool) := (joustlaw08_full.f k a0 a1).bind fun bt163 => (if bt163.2.2.2.2.2 = true then (joustlaw08_BucketLeft.l0 k l2 bt163.2.2.2.2.1 0 bt163.1 bt163.2.1 bt163.2.2.1) else (some false))
theorem joustlaw08_BucketLeft.mono_l : ∀ k, (∀ y0 y1 y2 y3 y4 y5, LeO (joustlaw08_BucketLeft.l0 k y0 y1 y2 y3 y4 y5) (joustlaw08_BucketLeft.l0 (k + 1) y0 y1 y2 y3 y4 y5)) ∧ (∀ y0 y1 y2 y3 y4 y5 y6, LeO (joustlaw08_BucketLeft.j1 k y0 y1 y2 y3 y4 y5 y6) (joustlaw08_BucketLeft.j1 (k + 1) y0 y1 y2 y3 y4 y5 y6)) ∧ (∀ y0 y1 y2 y3 y4 y5, LeO (joustlaw08_BucketLeft.j2 k y0 y1 y2 y3 y4 y5) (joustlaw08_BucketLeft.j2 (k + 1) y0 y1 y2 y3 y4 y5)) ∧ (∀ y0 y1 y2 y3 y4 y5 y6 y7, LeO (joustlaw08_BucketLeft.l1 k y0 y1 y2 y3 y4 y5 y6 y7) (joustlaw08_BucketLeft.l1 (k + 1) y0 y1 y2 y3 y4 y5 y6 y7))
  | 0 => ⟨fun _ _ _ _ _ _ r h => by simp [joustlaw08_BucketLeft.l0] at h, fun _ _ _ _ _ _ _ r h => by simp [joustlaw08_BucketLeft.j1] at h, fun _ _ _ _ _ _ r h => by simp [joustlaw08_BucketLeft.j2] at h, fun _ _ _ _ _ _ _ _ r h => by simp [joustlaw08_BucketLeft.l1] at h⟩
  | k + 1 => by
    obtain ⟨ih0, ih1, ih2, ih3⟩ := joustlaw08_BucketLeft.mono_l k
    refine ⟨?_, ?_, ?_, ?_⟩
    · intro y0 y1 y2 y3 y4 y5
      unfold joustlaw08_BucketLeft.l0
      repeat' first
      | (with_reducible exact ih0 _ _ _ _ _ _)
      | (with_reducible exact ih1 _ _ _ _ _ _ _)
      | (with_reducible exact ih2 _ _ _ _ _ _)
      | (with_reducible exact ih3 _ _ _ _ _ _ _ _)
      | (with_reducible exact joustlaw08_full.mono _ _ _)
      | (with_reducible exact LeO.refl _)
      | (with_reducible exact LeO.none _)
      | (with_reducible refine LeO.ite ?_ ?_)
      | (with_reducible refine LeO.bind ?_ (fun _ => ?_))
      | exact ih0 _ _ _ _ _ _
      | exact ih1 _ _ _ _ _ _ _
      | exact ih2 _ _ _ _ _ _
      | exact ih3 _ _ _ _ _ _ _ _
      | exact joustlaw08_full.mono _ _ _
      | exact LeO.none _
      | refine LeO.ite ?_ ?_
      | refine LeO.bind ?_ (fun _ => ?_)
    · intro y0 y1 y2 y3 y4 y5 y6
      unfold joustlaw08_BucketLeft.j1
      repeat' first
      | (with_reducible exact ih0 _ _ _ _ _ _)
      | (with_reducible exact ih1 _ _ _ _ _ _ _)
      | (with_reducible exact ih2 _ _ _ _ _ _)
      | (with_reducible exact ih3 _ _ _ _ _ _ _ _)
      | (with_reducible exact joustlaw08_full.mono _ _ _)
      | (with_reducible exact LeO.refl _)
      | (with_reducible exact LeO.none _)
      | (with_reducible refine LeO.ite ?_ ?_)
      | (with_reducible refine LeO.bind ?_ (fun _ => ?_))
      | exact ih0 _ _ _ _ _ _
      | exact ih1 _ _ _ _ _ _ _
      | exact ih2 _ _ _ _ _ _
      | exact ih3 _ _ _ _ _ _ _ _
      | exact joustlaw08_full.mono _ _ _
      | exact LeO.none _
      | refine LeO.ite ?_ ?_
      | refine LeO.bind ?_ (fun _ => ?_)
    · intro y0 y1 y2 y3 y4 y5
      unfold joustlaw08_BucketLeft.j2
      repeat' first
      | (with_reducible exact ih0 _ _ _ _ _ _)
      | (with_reducible exact ih1 _ _ _ _ _ _ _)
      | (with_reducible exact ih2 _ _ _ _ _ _)
      | (with_reducible exact ih3 _ _ _ _ _ _ _ _)
      | (with_reducible exact joustlaw08_full.mono _ _ _)
      | (with_reducible exact LeO.refl _)
      | (with_reducible exact LeO.none _)
      | (with_reducible refine LeO.ite ?_ ?_)
      | (with_reducible refine LeO.bind ?_ (fun _ => ?_))
      | exact ih0 _ _ _ _ _ _
      | exact ih1 _ _ _ _ _ _ _
      | exact ih2 _ _ _ _ _ _
      | exact ih3 _ _ _ _ _ _ _ _
      | exact joustlaw08_full.mono _ _ _
      | exact LeO.none _
      | refine LeO.ite ?_ ?_
      | refine LeO.bind ?_ (fun _ => ?_)
    · intro y0 y1 y2 y3 y4 y5 y6 y7
      unfold joustlaw08_BucketLeft.l1
      repeat' first
      | (with_reducible exact ih0 _ _ _ _ _ _)
      | (with_reducible exact ih1 _ _ _ _ _ _ _)
      | (with_reducible exact ih2 _ _ _ _ _ _)
      | (with_reducible exact ih3 _ _ _ _ _ _ _ _)
      | (with_reducible exact joustlaw08_full.mono _ _ _)
      | (with_reducible exact LeO.refl _)
      | (with_reducible exact LeO.none _)
      | (with_reducible refine LeO.ite ?_ ?_)
      | (with_reducible refine LeO.bind ?_ (fun _ => ?_))
      | exact ih0 _ _ _ _ _ _
      | exact ih1 _ _ _ _ _ _ _
      | exact ih2 _ _ _ _ _ _
      | exact ih3 _ _ _ _ _ _ _ _
      | exact joustlaw08_full.mono _ _ _
      | exact LeO.none _
      | refine LeO.ite ?_ ?_
      | refine LeO.bind ?_ (fun _ => ?_)
theorem joustlaw08_BucketLeft.mono : ∀ a0 a1 a2 k, LeO (joustlaw08_BucketLeft.f k a0 a1 a2) (joustlaw08_BucketLeft.f (k + 1) a0 a1 a2) := by
  intro a0 a1 a2 k
  obtain ⟨ih0, ih1, ih2, ih3⟩ := joustlaw08_BucketLeft.mono_l k
  unfold joustlaw08_BucketLeft.f
  repeat' first
      | (with_reducible exact ih0 _ _ _ _ _ _)
      | (with_reducible exact ih1 _ _ _ _ _ _ _)
      | (with_reducible exact ih2 _ _ _ _ _ _)
      | (with_reducible exact ih3 _ _ _ _ _ _ _ _)
      | (with_reducible exact joustlaw08_full.mono _ _ _)
      | (with_reducible exact LeO.refl _)
      | (with_reducible exact LeO.none _)
      | (with_reducible refine LeO.ite ?_ ?_)
      | (with_reducible refine LeO.bind ?_ (fun _ => ?_))
      | exact ih0 _ _ _ _ _ _
      | exact ih1 _ _ _ _ _ _ _
      | exact ih2 _ _ _ _ _ _
      | exact ih3 _ _ _ _ _ _ _ _
      | exact joustlaw08_full.mono _ _ _
      | exact LeO.none _
      | refine LeO.ite ?_ ?_
      | refine LeO.bind ?_ (fun _ => ?_)
set_option maxHeartbeats 8000000 in
set_option maxRecDepth 100000 in
theorem joustlaw08_BucketLeft.calls (k : Nat) (a0 : Int) (a1 : Int) (A2 : Option Addr) (c2 : Nat) (l2 : List (S62)) (r : Bool) (w : World) (hr2 : Kd.C k62 w A2 l2.length l2) (hc2 : l2.length ≤ c2) (h : joustlaw08_BucketLeft.f k a0 a1 l2 = some r) :
    Calls Try.prog 10 #[.int .i64 a0, .int .i64 a1, .slice A2 l2.length c2] w fun e w' => e = .returned (.bool r) ∧ Below w.heap.size w w' := by
  have hu52 := Try.underlying52
  have HR2 := Aside0.mk hr2
  have HC2 := Aside0.mk hc2
  clear hr2 hc2
  have HB := Aside0.mk (Below.refl w.heap.size w)
  have H : ((joustlaw08_full.f k a0 a1).bind fun bt163 => (if bt163.2.2.2.2.2 = true then (joustlaw08_BucketLeft.l0 k l2 bt163.2.2.2.2.1 0 bt163.1 bt163.2.1 bt163.2.2.1) else (some false))) = some r := h
  clear h
  replace H := Option.bind_eq_some_iff.mp H
  obtain ⟨⟨t163, t164, t165, t166, t167, t168⟩, A40, H⟩ := H
  replace H : (if t168 = true then (joustlaw08_BucketLeft.l0 k l2 t167 0 t163 t164 t165) else (some false)) = some r := H
  have A4 := Aside0.mk A40
  clear A40
  by_cases c5 : t168 = true
  · subst c5
    have H1 : (joustlaw08_BucketLeft.l0 k l2 t167 0 t163 t164 t165) = some r := by rw [if_pos rfl] at H; exact H
    clear H
    have H := H1
    clear H1
    have H' := Aside0.mk H
    clear H
    go_enter Try.func10, Try.ntmps10
    go_wp2_with (first | ((with_reducible refine gate_callee (f := 32) rfl ?_); refine goesL_ (some 18) rfl rfl Try.func32 (by kernel_rfl) rfl #[.int .i64 a0, .int .i64 a1] rfl (by (try simp only [List.map_toArray, List.map_cons, List.map_nil]); first | done | rfl | (simp only [List.length_drop, List.length_take]; rfl)) ?_; (with_reducible refine (joustlaw08_full.calls k a0 a1 t163 t164 t165 t166 t167 true _ A4.out).mono ?_); rintro e w6 ⟨rfl, hb⟩; refine ⟨_, rfl, ?_⟩; have n0_ := Aside0.mk (below_step (by repeat (first | (with_reducible first | exact HB.out | apply below_alloc | apply pw_below_drewN | apply below_drew1) | exact HB.out)) hb); clear HB; have HB := n0_; clear n0_; (try clear hb); (try clear hb2); (try clear hk); (try clear hi)) | ((with_reducible refine gate_dst (N := 7) rfl ?_); refine box_event ?hg (N := 7) ?hd (cs := #[.int .i64 0, .int .i64 0, .int .i64 0]) (t := 52) ?hr ?_; (case hd => rfl); (case hg => rfl); (case hr => first | (go_simp; done) | (go_simp; rfl)); intro gb169 hg w7 hbox hb; have n0_ := Aside0.mk (below_step (by repeat (first | (with_reducible first | exact HB.out | apply below_alloc | apply pw_below_drewN | apply below_drew1) | exact HB.out)) hb); have n1_ := Aside0.mk (hbox); have n2_ := Aside0.mk ((by rw [hg]; exact (below_size (by repeat (first | (with_reducible first | exact HB.out | apply below_alloc | apply pw_below_drewN | apply below_drew1) | exact HB.out))) : w.heap.size ≤ gb169)); have n3_ := Aside0.mk ((by rw [hg]; exact (below_size (by repeat (first | (with_reducible first | exact HB.out | apply below_alloc | apply pw_below_drewN | apply below_drew1) | exact HB.out))) : w.heap.size ≤ gb169)); clear HB; have HB := n0_; have BK169 := n1_; have GW169 := n2_; have GE169 := n3_; clear n0_ n1_ n2_ n3_; clear hb hbox hg; have hcz8_0 : w7.cell? ⟨gb169, 0, none⟩ = some (.int .i64 0) := (blk_cell BK169.out 0).trans rfl; have hcz8_1 : w7.cell? ⟨gb169, 1, none⟩ = some (.int .i64 0) := (blk_cell BK169.out 1).trans rfl; have hcz8_2 : w7.cell? ⟨gb169, 2, none⟩ = some (.int .i64 0) := (blk_cell BK169.out 2).trans rfl; have hfz8_0 := blk_frozen BK169.out 0; have hfz8_1 := blk_frozen BK169.out 1; have hfz8_2 := blk_frozen BK169.out 2))
    go_loopg [11] k (fun kq v11 w' => ∃ (x11_1 : Int) (x170000_1 : Int) (x170001_1 : Int) (x170002_1 : Int), v11 = .int .i64 x11_1 ∧ Aside0 (joustlaw08_BucketLeft.l0 kq l2 t167 x11_1 x170000_1 x170001_1 x170002_1 = some r) ∧ Aside0 (kq ≤ k) ∧ Aside0 (w'.heap[gb169]? = some (.cells #[.int .i64 x170000_1, .int .i64 x170001_1, .int .i64 x170002_1] 52 (0, 0))) ∧ Aside0 (Below w.heap.size w w'))
    case atStart => exact ⟨(0), (t163), (t164), (t165), (by first | rfl | (simp; done) | (simp [*]; done)), H', ⟨Nat.le_refl _⟩, ⟨by (with_reducible repeat (first | refine blk_drewN ?_ _ | refine blk_drew ?_ | refine blk_alloc ?_ _)); refine blk_put (cs := #[.int .i64 t163, .int .i64 t164, .int .i64 0]) ?_ 2 _ rfl; (with_reducible repeat (first | refine blk_drewN ?_ _ | refine blk_drew ?_ | refine blk_alloc ?_ _)); refine blk_put (cs := #[.int .i64 t163, .int .i64 0, .int .i64 0]) ?_ 1 _ rfl; (with_reducible repeat (first | refine blk_drewN ?_ _ | refine blk_drew ?_ | refine blk_alloc ?_ _)); refine blk_put (cs := #[.int .i64 0, .int .i64 0, .int .i64 0]) ?_ 0 _ rfl; (with_reducible repeat (first | refine blk_drewN ?_ _ | refine blk_drew ?_ | refine blk_alloc ?_ _)); exact BK169.out⟩, ⟨by repeat (first | (with_reducible first | exact HB.out | apply below_alloc | apply pw_below_drewN | apply below_drew1 | refine below_set ?_ GE169.out) | exact HB.out)⟩⟩
    case round =>
      clear H'
      try clear c1
      try clear c2
      try clear p2
      try clear c3
      try clear c5
      try clear hcz8_0
      try clear hcz8_1
      try clear hcz8_2
      try clear hfz8_0
      try clear hfz8_1
      try clear hfz8_2
      obtain ⟨x11_1, x170000_1, x170001_1, x170002_1, rfl, HA, HK1, BK169, HB⟩ := hrel
      cases gk with
      | zero => exact absurd HA.out (by simp [joustlaw08_BucketLeft.l0])
      | succ k1 =>
        have H := HA.out
        clear HA
        simp only [joustlaw08_BucketLeft.l0] at H
        have HC9 := Aside0.mk H
        clear H
        go_upto_region 5 with (fail)
        go_cut [32] (fun v32 wc => ∃ (kq : Nat) (x32_8 : Bool), v32 = .bool x32_8 ∧ Aside0 (joustlaw08_BucketLeft.j1 kq l2 t167 x11_1 x32_8 x170000_1 x170001_1 x170002_1 = some r) ∧ Aside0 (kq ≤ k1) ∧ Aside0 (wc.heap[gb169]? = some (.cells #[.int .i64 x170000_1, .int .i64 x170001_1, .int .i64 x170002_1] 52 (0, 0))) ∧ Aside0 (Below w.heap.size w wc))
        case first =>
          have H := HC9.out
          clear HC9
          by_cases c10 : x11_1 < (l2.length : Int)
          · rw [if_pos c10] at H
            have c10b0 : decide (x11_1 < (l2.length : Int)) = true := decide_eq_true c10
            clear c10
            (first | rw [c10b0] | (simp only [i64_w, i32_w]; rw [c10b0]) | skip)
            have H' := Aside0.mk H
            clear H
            go_wp2
            go_meet
            case rel => exact ⟨_, (decide (x11_1 < 300)), (by first | rfl | (simp; done) | (simp [*]; done)), H', ⟨by have := HK1.out; first | omega | exact Nat.le_refl _⟩, ⟨by (with_reducible repeat (first | refine blk_drewN ?_ _ | refine blk_drew ?_ | refine blk_alloc ?_ _)); exact BK169.out⟩, ⟨by repeat (first | (with_reducible first | exact HB.out | apply below_alloc | apply pw_below_drewN | apply below_drew1 | refine below_set ?_ GE169.out) | exact HB.out)⟩⟩
          · rw [if_neg c10] at H
            have c10b0 : decide (x11_1 < (l2.length : Int)) = false := decide_eq_false c10
            clear c10
            (first | rw [c10b0] | (simp only [i64_w, i32_w]; rw [c10b0]) | skip)
            have H' := Aside0.mk H
            clear H
            go_wp2
            go_meet
            case rel => exact ⟨_, (false), (by first | rfl | (simp; done) | (simp [*]; done)), H', ⟨by have := HK1.out; first | omega | exact Nat.le_refl _⟩, ⟨by (with_reducible repeat (first | refine blk_drewN ?_ _ | refine blk_drew ?_ | refine blk_alloc ?_ _)); exact BK169.out⟩, ⟨by repeat (first | (with_reducible first | exact HB.out | apply below_alloc | apply pw_below_drewN | apply below_drew1 | refine below_set ?_ GE169.out) | exact HB.out)⟩⟩
        case rest =>
          clear HC9
          try clear c1
          try clear c2
          try clear p2
          try clear c3
          try clear c5
          try clear c10
          try clear c10b0
          try clear hcz8_0
          try clear hcz8_1
          try clear hcz8_2
          try clear hfz8_0
          try clear hfz8_1
          try clear hfz8_2
          try clear p2
          obtain ⟨kq, x32_8, rfl, HA, HJ8, BK169, HB⟩ := hcut
          cases kq with
          | zero => exact absurd HA.out (by simp [joustlaw08_BucketLeft.j1])
          | succ kj8 =>
            have H := HA.out
            clear HA
            simp only [joustlaw08_BucketLeft.j1] at H
            by_cases c11 : x32_8 = true
            · subst c11
              have H1 : (if 0 ≤ x11_1 then (if x11_1 < (l2.length : Int) then (if ((rd_T62 l2 x11_1).f0) = 1 then ((bucket_Bucket_Take.f x170000_1 x170001_1 x170002_1).bind fun bt171 => (joustlaw08_BucketLeft.j2 kj8 l2 t167 x11_1 bt171.2.1 bt171.2.2.1 bt171.2.2.2)) else (if ((rd_T62 l2 x11_1).f0) = 2 then ((bucket_Bucket_Tick.f x170000_1 x170001_1 x170002_1).bind fun bt175 => (joustlaw08_BucketLeft.j2 kj8 l2 t167 x11_1 bt175.1 bt175.2.1 bt175.2.2)) else (if ((rd_T62 l2 x11_1).f0) = 3 then ((bucket_Bucket_Ticks.f x170000_1 x170001_1 x170002_1 ((rd_T62 l2 x11_1).f1)).bind fun bt179 => (joustlaw08_BucketLeft.j2 kj8 l2 t167 x11_1 bt179.1 bt179.2.1 bt179.2.2)) else (joustlaw08_BucketLeft.j2 kj8 l2 t167 x11_1 x170000_1 x170001_1 x170002_1)))) else (none)) else (none)) = some r := by rw [if_pos rfl] at H; exact H
              clear H
              have H := H1
              clear H1
              by_cases c12 : 0 ≤ x11_1
              · rw [if_pos c12] at H
                have c12b0 : decide (0 ≤ x11_1) = true := decide_eq_true c12
                clear c12
                by_cases c13 : x11_1 < (l2.length : Int)
                · rw [if_pos c13] at H
                  have c13b0 : decide (x11_1 < (l2.length : Int)) = true := decide_eq_true c13
                  clear c13
                  have HC14 := Aside0.mk H
                  clear H
                  have p170 : 0 ≤ (x11_1 : Int) := of_decide_eq_true (by first | (with_reducible assumption) | assumption)
                  have q170 : x11_1 < (l2.length : Int) := of_decide_eq_true (by first | (with_reducible assumption) | assumption)
                  obtain ⟨ad170, e170, hx170_0, hx170_1⟩ := at_T62 HR2.out x11_1 p170 q170
                  cases e170
                  replace hx170_0 := (HB.out.cell (World.block_lt_of_cell? w _ hx170_0)).trans hx170_0
                  replace hx170_1 := (HB.out.cell (World.block_lt_of_cell? w _ hx170_1)).trans hx170_1
                  replace p170 := eq_true p170
                  replace q170 := eq_true q170
                  go_upto_block 2 with (fail)
                  go_cut [] (fun wc => ∃ (kq : Nat) (x170000_13 : Int) (x170001_13 : Int) (x170002_13 : Int), Aside0 (joustlaw08_BucketLeft.j2 kq l2 t167 x11_1 x170000_13 x170001_13 x170002_13 = some r) ∧ Aside0 (kq ≤ kj8) ∧ Aside0 (wc.heap[gb169]? = some (.cells #[.int .i64 x170000_13, .int .i64 x170001_13, .int .i64 x170002_13] 52 (0, 0))) ∧ Aside0 (Below w.heap.size w wc))
                  case first =>
                    have H := HC14.out
                    clear HC14
                    by_cases c15 : ((rd_T62 l2 x11_1).f0) = 1
                    · rw [if_pos c15] at H
                      have c15b0 : (((rd_T62 l2 x11_1).f0) == 1) = true := beq_iff_eq.mpr c15
                      have c15b1 : (((rd_T62 l2 x11_1).f0) != 1) = false := bne_eq_false_iff_eq.mpr c15
                      clear c15
                      (first | rw [c15b0] | (simp only [i64_w, i32_w]; rw [c15b0]) | skip)
                      replace H := Option.bind_eq_some_iff.mp H
                      obtain ⟨⟨t171, t172, t173, t174⟩, A160, H⟩ := H
                      replace H : (joustlaw08_BucketLeft.j2 kj8 l2 t167 x11_1 t172 t173 t174) = some r := H
                      have A16 := Aside0.mk A160
                      clear A160
                      have H' := Aside0.mk H
                      clear H
                      go_wp2_with (first | ((with_reducible refine gate_callee (f := 24) rfl ?_); refine goesL_ (some 42) rfl rfl Try.func24 (by kernel_rfl) rfl #[.pointer (some ⟨gb169, 0, none⟩)] rfl (by (try simp only [List.map_toArray, List.map_cons, List.map_nil]); first | done | rfl | (simp only [List.length_drop, List.length_take]; rfl)) ?_; (with_reducible refine (bucket_Bucket_Take.calls gb169 x170000_1 x170001_1 x170002_1 t171 t172 t173 t174 w _ ?side1 ?side2 A16.out).mono ?_); (case side1 => repeat (first | (with_reducible first | exact (Aside0.mk (IsS52.mk_ BK169.out GE169.out)).out | apply IsS52.alloc | apply IsS52.drewN | apply IsS52.drew | apply IsS52.set_0 | apply IsS52.set_1 | apply IsS52.set_2) | exact (Aside0.mk (IsS52.mk_ BK169.out GE169.out)).out)); (case side2 => repeat (first | (with_reducible first | exact HB.out | apply below_alloc | apply pw_below_drewN | apply below_drew1 | refine below_set ?_ (IsS52.ge (Aside0.mk (IsS52.mk_ BK169.out GE169.out)).out)) | exact HB.out)); rintro e w17 ⟨rfl, hi, hb, hk⟩; refine ⟨_, rfl, ?_⟩; have n0_ := Aside0.mk (hb); have n1_ := Aside0.mk (hi.1); clear HB; clear BK169; have HB := n0_; have BK169 := n1_; clear n0_ n1_; (try clear hb); (try clear hb2); (try clear hk); (try clear hi)))
                      go_meet
                      case rel => exact ⟨_, (t172), (t173), (t174), H', ⟨by have := HK1.out; have := HJ8.out; first | omega | exact Nat.le_refl _⟩, ⟨by (with_reducible repeat (first | refine blk_drewN ?_ _ | refine blk_drew ?_ | refine blk_alloc ?_ _)); exact BK169.out⟩, ⟨by repeat (first | (with_reducible first | exact HB.out | apply below_alloc | apply pw_below_drewN | apply below_drew1 | refine below_set ?_ GE169.out) | exact HB.out)⟩⟩
                    · rw [if_neg c15] at H
                      have c15b0 : (((rd_T62 l2 x11_1).f0) == 1) = false := beq_eq_false_iff_ne.mpr c15
                      have c15b1 : (((rd_T62 l2 x11_1).f0) != 1) = true := bne_iff_ne.mpr c15
                      (first | rw [c15b0] | (simp only [i64_w, i32_w]; rw [c15b0]) | skip)
                      by_cases c18 : ((rd_T62 l2 x11_1).f0) = 2
                      · rw [if_pos c18] at H
                        have c18b0 : (((rd_T62 l2 x11_1).f0) == 2) = true := beq_iff_eq.mpr c18
                        have c18b1 : (((rd_T62 l2 x11_1).f0) != 2) = false := bne_eq_false_iff_eq.mpr c18
                        clear c18
                        replace H := Option.bind_eq_some_iff.mp H
                        obtain ⟨⟨t175, t176, t177⟩, A190, H⟩ := H
                        replace H : (joustlaw08_BucketLeft.j2 kj8 l2 t167 x11_1 t175 t176 t177) = some r := H
                        have A19 := Aside0.mk A190
                        clear A190
                        have H' := Aside0.mk H
                        clear H
                        go_wp2_with (first | ((with_reducible refine gate_callee (f := 26) rfl ?_); refine goesL_ (some 45) rfl rfl Try.func26 (by kernel_rfl) rfl #[.pointer (some ⟨gb169, 0, none⟩)] rfl (by (try simp only [List.map_toArray, List.map_cons, List.map_nil]); first | done | rfl | (simp only [List.length_drop, List.length_take]; rfl)) ?_; (with_reducible refine (bucket_Bucket_Tick.calls gb169 x170000_1 x170001_1 x170002_1 t175 t176 t177 w _ ?side1 ?side2 A19.out).mono ?_); (case side1 => repeat (first | (with_reducible first | exact (Aside0.mk (IsS52.mk_ BK169.out GE169.out)).out | apply IsS52.alloc | apply IsS52.drewN | apply IsS52.drew | apply IsS52.set_0 | apply IsS52.set_1 | apply IsS52.set_2) | exact (Aside0.mk (IsS52.mk_ BK169.out GE169.out)).out)); (case side2 => repeat (first | (with_reducible first | exact HB.out | apply below_alloc | apply pw_below_drewN | apply below_drew1 | refine below_set ?_ (IsS52.ge (Aside0.mk (IsS52.mk_ BK169.out GE169.out)).out)) | exact HB.out)); rintro e w20 ⟨rfl, hi, hb, hk⟩; refine ⟨_, rfl, ?_⟩; have n0_ := Aside0.mk (hb); have n1_ := Aside0.mk (hi.1); clear HB; clear BK169; have HB := n0_; have BK169 := n1_; clear n0_ n1_; (try clear hb); (try clear hb2); (try clear hk); (try clear hi)))
                        go_meet
                        case rel => exact ⟨_, (t175), (t176), (t177), H', ⟨by have := HK1.out; have := HJ8.out; first | omega | exact Nat.le_refl _⟩, ⟨by (with_reducible repeat (first | refine blk_drewN ?_ _ | refine blk_drew ?_ | refine blk_alloc ?_ _)); exact BK169.out⟩, ⟨by repeat (first | (with_reducible first | exact HB.out | apply below_alloc | apply pw_below_drewN | apply below_drew1 | refine below_set ?_ GE169.out) | exact HB.out)⟩⟩
                      · rw [if_neg c18] at H
                        have c18b0 : (((rd_T62 l2 x11_1).f0) == 2) = false := beq_eq_false_iff_ne.mpr c18
                        have c18b1 : (((rd_T62 l2 x11_1).f0) != 2) = true := bne_iff_ne.mpr c18
                        by_cases c21 : ((rd_T62 l2 x11_1).f0) = 3
                        · rw [if_pos c21] at H
                          have c21b0 : (((rd_T62 l2 x11_1).f0) == 3) = true := beq_iff_eq.mpr c21
                          have c21b1 : (((rd_T62 l2 x11_1).f0) != 3) = false := bne_eq_false_iff_eq.mpr c21
                          clear c21
                          replace H := Option.bind_eq_some_iff.mp H
                          obtain ⟨⟨t179, t180, t181⟩, A220, H⟩ := H
                          replace H : (joustlaw08_BucketLeft.j2 kj8 l2 t167 x11_1 t179 t180 t181) = some r := H
                          have A22 := Aside0.mk A220
                          clear A220
                          have H' := Aside0.mk H
                          clear H
                          have p178 : 0 ≤ (x11_1 : Int) := of_decide_eq_true (by first | (with_reducible assumption) | assumption)
                          have q178 : x11_1 < (l2.length : Int) := of_decide_eq_true (by first | (with_reducible assumption) | assumption)
                          obtain ⟨ad178, e178, hx178_0, hx178_1⟩ := at_T62 HR2.out x11_1 p178 q178
                          obtain rfl : ad170 = ad178 := (by injection e178)
                          replace hx178_0 := (HB.out.cell (World.block_lt_of_cell? w _ hx178_0)).trans hx178_0
                          replace hx178_1 := (HB.out.cell (World.block_lt_of_cell? w _ hx178_1)).trans hx178_1
                          replace p178 := eq_true p178
                          replace q178 := eq_true q178
                          go_wp2_with (first | ((with_reducible refine gate_callee (f := 28) rfl ?_); refine goesL_ (some 53) rfl rfl Try.func28 (by kernel_rfl) rfl #[.pointer (some ⟨gb169, 0, none⟩), .int .u64 ((rd_T62 l2 x11_1).f1)] rfl (by (try simp only [List.map_toArray, List.map_cons, List.map_nil]); first | done | rfl | (simp only [List.length_drop, List.length_take]; rfl)) ?_; (with_reducible refine (bucket_Bucket_Ticks.calls gb169 x170000_1 x170001_1 x170002_1 ((rd_T62 l2 x11_1).f1) t179 t180 t181 w _ ?side1 ?side2 A22.out).mono ?_); (case side1 => repeat (first | (with_reducible first | exact (Aside0.mk (IsS52.mk_ BK169.out GE169.out)).out | apply IsS52.alloc | apply IsS52.drewN | apply IsS52.drew | apply IsS52.set_0 | apply IsS52.set_1 | apply IsS52.set_2) | exact (Aside0.mk (IsS52.mk_ BK169.out GE169.out)).out)); (case side2 => repeat (first | (with_reducible first | exact HB.out | apply below_alloc | apply pw_below_drewN | apply below_drew1 | refine below_set ?_ (IsS52.ge (Aside0.mk (IsS52.mk_ BK169.out GE169.out)).out)) | exact HB.out)); rintro e w23 ⟨rfl, hi, hb, hk⟩; refine ⟨_, rfl, ?_⟩; have n0_ := Aside0.mk (hb); have n1_ := Aside0.mk (hi.1); clear HB; clear BK169; have HB := n0_; have BK169 := n1_; clear n0_ n1_; (try clear hb); (try clear hb2); (try clear hk); (try clear hi)))
                          go_meet
                          case rel => exact ⟨_, (t179), (t180), (t181), H', ⟨by have := HK1.out; have := HJ8.out; first | omega | exact Nat.le_refl _⟩, ⟨by (with_reducible repeat (first | refine blk_drewN ?_ _ | refine blk_drew ?_ | refine blk_alloc ?_ _)); exact BK169.out⟩, ⟨by repeat (first | (with_reducible first | exact HB.out | apply below_alloc | apply pw_below_drewN | apply below_drew1 | refine below_set ?_ GE169.out) | exact HB.out)⟩⟩
                        · rw [if_neg c21] at H
                          have c21b0 : (((rd_T62 l2 x11_1).f0) == 3) = false := beq_eq_false_iff_ne.mpr c21
                          have c21b1 : (((rd_T62 l2 x11_1).f0) != 3) = true := bne_iff_ne.mpr c21
                          have H' := Aside0.mk H
                          clear H
                          go_wp2
                          go_meet
                          case rel => exact ⟨_, (x170000_1), (x170001_1), (x170002_1), H', ⟨by have := HK1.out; have := HJ8.out; first | omega | exact Nat.le_refl _⟩, ⟨by (with_reducible repeat (first | refine blk_drewN ?_ _ | refine blk_drew ?_ | refine blk_alloc ?_ _)); exact BK169.out⟩, ⟨by repeat (first | (with_reducible first | exact HB.out | apply below_alloc | apply pw_below_drewN | apply below_drew1 | refine below_set ?_ GE169.out) | exact HB.out)⟩⟩
                  case rest =>
                    clear HC14
                    try clear c1
                    try clear p1
                    try clear q1
                    try clear hx1
                    try clear c2
                    try clear p2
                    try clear c3
                    try clear c5
                    try clear c10
                    try clear c10b0
                    try clear c11
                    try clear c12
                    try clear c12b0
                    try clear c13
                    try clear c13b0
                    try clear c15
                    try clear c15b0
                    try clear c15b1
                    try clear p17
                    try clear q17
                    try clear hx17
                    try clear c18
                    try clear c18b0
                    try clear c18b1
                    try clear c21
                    try clear c21b0
                    try clear c21b1
                    try clear hcz8_0
                    try clear hcz8_1
                    try clear hcz8_2
                    try clear hfz8_0
                    try clear hfz8_1
                    try clear hfz8_2
                    try clear hx170_0
                    try clear hx170_1
                    try clear hx178_0
                    try clear hx178_1
                    try clear p170
                    try clear p178
                    try clear p2
                    try clear q170
                    try clear q178
                    obtain ⟨kq, x170000_13, x170001_13, x170002_13, HA, HJ13, BK169, HB⟩ := hcut
                    cases kq with
                    | zero => exact absurd HA.out (by simp [joustlaw08_BucketLeft.j2])
                    | succ kj13 =>
                      have H := HA.out
                      clear HA
                      simp only [joustlaw08_BucketLeft.j2] at H
                      replace H := Option.bind_eq_some_iff.mp H
                      obtain ⟨⟨t182, t183, t184, t185⟩, A240, H⟩ := H
                      replace H : (if t182 < 0 then (some false) else ((bucket_Bucket_Left.f x170000_13 x170001_13 x170002_13).bind fun bt186 => (if bt186.1 > t167 then (some false) else (joustlaw08_BucketLeft.l0 kj13 l2 t167 (wrap64 (x11_1 + 1)) x170000_13 x170001_13 x170002_13)))) = some r := H
                      have A24 := Aside0.mk A240
                      clear A240
                      by_cases c25 : t182 < 0
                      · rw [if_pos c25] at H
                        have c25b0 : decide (t182 < 0) = true := decide_eq_true c25
                        clear c25
                        obtain rfl := Option.some.inj H
                        go_wp2_with (first | ((with_reducible refine gate_callee (f := 30) rfl ?_); refine goesL_ (some 54) rfl rfl Try.func30 (by kernel_rfl) rfl #[.pointer (some ⟨gb169, 0, none⟩)] rfl (by (try simp only [List.map_toArray, List.map_cons, List.map_nil]); first | done | rfl | (simp only [List.length_drop, List.length_take]; rfl)) ?_; (with_reducible refine (bucket_Bucket_Left.calls gb169 x170000_13 x170001_13 x170002_13 t182 t183 t184 t185 w _ ?side1 ?side2 A24.out).mono ?_); (case side1 => repeat (first | (with_reducible first | exact (Aside0.mk (IsS52.mk_ BK169.out GE169.out)).out | apply IsS52.alloc | apply IsS52.drewN | apply IsS52.drew | apply IsS52.set_0 | apply IsS52.set_1 | apply IsS52.set_2) | exact (Aside0.mk (IsS52.mk_ BK169.out GE169.out)).out)); (case side2 => repeat (first | (with_reducible first | exact HB.out | apply below_alloc | apply pw_below_drewN | apply below_drew1 | refine below_set ?_ (IsS52.ge (Aside0.mk (IsS52.mk_ BK169.out GE169.out)).out)) | exact HB.out)); rintro e w26 ⟨rfl, hi, hb, hk⟩; refine ⟨_, rfl, ?_⟩; replace hi := bucket_Bucket_Left.ro A24.out hi; have n0_ := Aside0.mk (hb); have n1_ := Aside0.mk (hi.1); clear HB; clear BK169; have HB := n0_; have BK169 := n1_; clear n0_ n1_; (try clear hb); (try clear hb2); (try clear hk); (try clear hi)))
                        go_ret
                        exact ⟨by first | rfl | (simp [errW_none, errW_some] <;> rfl) | (simp [*, errW_none, errW_some] <;> rfl), by repeat (first | (with_reducible first | exact HB.out | apply below_alloc | apply pw_below_drewN | apply below_drew1 | refine below_set ?_ GE169.out) | exact HB.out)⟩
                      · rw [if_neg c25] at H
                        have c25b0 : decide (t182 < 0) = false := decide_eq_false c25
                        clear c25
                        replace H := Option.bind_eq_some_iff.mp H
                        obtain ⟨⟨t186, t187, t188, t189⟩, A270, H⟩ := H
                        replace H : (if t186 > t167 then (some false) else (joustlaw08_BucketLeft.l0 kj13 l2 t167 (wrap64 (x11_1 + 1)) x170000_13 x170001_13 x170002_13)) = some r := H
                        have A27 := Aside0.mk A270
                        clear A270
                        by_cases c28 : t186 > t167
                        · rw [if_pos c28] at H
                          have c28b0 : decide (t167 < t186) = true := decide_eq_true c28
                          clear c28
                          obtain rfl := Option.some.inj H
                          go_wp2_with (first | ((with_reducible refine gate_callee (f := 30) rfl ?_); refine goesL_ (some 54) rfl rfl Try.func30 (by kernel_rfl) rfl #[.pointer (some ⟨gb169, 0, none⟩)] rfl (by (try simp only [List.map_toArray, List.map_cons, List.map_nil]); first | done | rfl | (simp only [List.length_drop, List.length_take]; rfl)) ?_; (with_reducible refine (bucket_Bucket_Left.calls gb169 x170000_13 x170001_13 x170002_13 t182 t183 t184 t185 w _ ?side1 ?side2 A24.out).mono ?_); (case side1 => repeat (first | (with_reducible first | exact (Aside0.mk (IsS52.mk_ BK169.out GE169.out)).out | apply IsS52.alloc | apply IsS52.drewN | apply IsS52.drew | apply IsS52.set_0 | apply IsS52.set_1 | apply IsS52.set_2) | exact (Aside0.mk (IsS52.mk_ BK169.out GE169.out)).out)); (case side2 => repeat (first | (with_reducible first | exact HB.out | apply below_alloc | apply pw_below_drewN | apply below_drew1 | refine below_set ?_ (IsS52.ge (Aside0.mk (IsS52.mk_ BK169.out GE169.out)).out)) | exact HB.out)); rintro e w29 ⟨rfl, hi, hb, hk⟩; refine ⟨_, rfl, ?_⟩; replace hi := bucket_Bucket_Left.ro A24.out hi; have n0_ := Aside0.mk (hb); have n1_ := Aside0.mk (hi.1); clear HB; clear BK169; have HB := n0_; have BK169 := n1_; clear n0_ n1_; (try clear hb); (try clear hb2); (try clear hk); (try clear hi)) | (go_at_call 30; (with_reducible refine (bucket_Bucket_Left.calls gb169 x170000_13 x170001_13 x170002_13 t186 t187 t188 t189 w _ ?side1 ?side2 A27.out).mono ?_); (case side1 => repeat (first | (with_reducible first | exact (Aside0.mk (IsS52.mk_ BK169.out GE169.out)).out | apply IsS52.alloc | apply IsS52.drewN | apply IsS52.drew | apply IsS52.set_0 | apply IsS52.set_1 | apply IsS52.set_2) | exact (Aside0.mk (IsS52.mk_ BK169.out GE169.out)).out)); (case side2 => repeat (first | (with_reducible first | exact HB.out | apply below_alloc | apply pw_below_drewN | apply below_drew1 | refine below_set ?_ (IsS52.ge (Aside0.mk (IsS52.mk_ BK169.out GE169.out)).out)) | exact HB.out)); rintro e w30 ⟨rfl, hi, hb, hk⟩; replace hi := bucket_Bucket_Left.ro A27.out hi; have n0_ := Aside0.mk (hb); have n1_ := Aside0.mk (hi.1); clear HB; clear BK169; have HB := n0_; have BK169 := n1_; clear n0_ n1_; (try clear hb); (try clear hb2); (try clear hk); (try clear hi)))
                          go_ret
                          exact ⟨by first | rfl | (simp [errW_none, errW_some] <;> rfl) | (simp [*, errW_none, errW_some] <;> rfl), by repeat (first | (with_reducible first | exact HB.out | apply below_alloc | apply pw_below_drewN | apply below_drew1 | refine below_set ?_ GE169.out) | exact HB.out)⟩
                        · rw [if_neg c28] at H
                          have c28b0 : decide (t167 < t186) = false := decide_eq_false c28
                          clear c28
                          have H' := Aside0.mk H
                          clear H
                          go_wp2_with (first | ((with_reducible refine gate_callee (f := 30) rfl ?_); refine goesL_ (some 54) rfl rfl Try.func30 (by kernel_rfl) rfl #[.pointer (some ⟨gb169, 0, none⟩)] rfl (by (try simp only [List.map_toArray, List.map_cons, List.map_nil]); first | done | rfl | (simp only [List.length_drop, List.length_take]; rfl)) ?_; (with_reducible refine (bucket_Bucket_Left.calls gb169 x170000_13 x170001_13 x170002_13 t182 t183 t184 t185 w _ ?side1 ?side2 A24.out).mono ?_); (case side1 => repeat (first | (with_reducible first | exact (Aside0.mk (IsS52.mk_ BK169.out GE169.out)).out | apply IsS52.alloc | apply IsS52.drewN | apply IsS52.drew | apply IsS52.set_0 | apply IsS52.set_1 | apply IsS52.set_2) | exact (Aside0.mk (IsS52.mk_ BK169.out GE169.out)).out)); (case side2 => repeat (first | (with_reducible first | exact HB.out | apply below_alloc | apply pw_below_drewN | apply below_drew1 | refine below_set ?_ (IsS52.ge (Aside0.mk (IsS52.mk_ BK169.out GE169.out)).out)) | exact HB.out)); rintro e w31 ⟨rfl, hi, hb, hk⟩; refine ⟨_, rfl, ?_⟩; replace hi := bucket_Bucket_Left.ro A24.out hi; have n0_ := Aside0.mk (hb); have n1_ := Aside0.mk (hi.1); clear HB; clear BK169; have HB := n0_; have BK169 := n1_; clear n0_ n1_; (try clear hb); (try clear hb2); (try clear hk); (try clear hi)) | (go_at_call 30; (with_reducible refine (bucket_Bucket_Left.calls gb169 x170000_13 x170001_13 x170002_13 t186 t187 t188 t189 w _ ?side1 ?side2 A27.out).mono ?_); (case side1 => repeat (first | (with_reducible first | exact (Aside0.mk (IsS52.mk_ BK169.out GE169.out)).out | apply IsS52.alloc | apply IsS52.drewN | apply IsS52.drew | apply IsS52.set_0 | apply IsS52.set_1 | apply IsS52.set_2) | exact (Aside0.mk (IsS52.mk_ BK169.out GE169.out)).out)); (case side2 => repeat (first | (with_reducible first | exact HB.out | apply below_alloc | apply pw_below_drewN | apply below_drew1 | refine below_set ?_ (IsS52.ge (Aside0.mk (IsS52.mk_ BK169.out GE169.out)).out)) | exact HB.out)); rintro e w32 ⟨rfl, hi, hb, hk⟩; replace hi := bucket_Bucket_Left.ro A27.out hi; have n0_ := Aside0.mk (hb); have n1_ := Aside0.mk (hi.1); clear HB; clear BK169; have HB := n0_; have BK169 := n1_; clear n0_ n1_; (try clear hb); (try clear hb2); (try clear hk); (try clear hi)))
                          go_roundg kj13
                          case measure => have := HK1.out; have := HJ8.out; have := HJ13.out; omega
                          case rel => exact ⟨(wrap64 (x11_1 + 1)), (x170000_13), (x170001_13), (x170002_13), (by first | rfl | (simp; done) | (simp [*]; done)), H', ⟨by have := HK1.out; have := HJ8.out; have := HJ13.out; omega⟩, ⟨by (with_reducible repeat (first | refine blk_drewN ?_ _ | refine blk_drew ?_ | refine blk_alloc ?_ _)); exact BK169.out⟩, ⟨by repeat (first | (with_reducible first | exact HB.out | apply below_alloc | apply pw_below_drewN | apply below_drew1 | refine below_set ?_ GE169.out) | exact HB.out)⟩⟩
                · rw [if_neg c13] at H
                  exact absurd H (by simp)
              · rw [if_neg c12] at H
                exact absurd H (by simp)
            · replace c11 := Bool.eq_false_iff.mpr c11
              subst c11
              have H1 : ((bucket_Bucket_Left.f x170000_1 x170001_1 x170002_1).bind fun bt190 => (joustlaw08_BucketLeft.l1 kj8 bt190.1 0 x170000_1 x170001_1 x170002_1 x170000_1 x170001_1 x170002_1)) = some r := by rw [if_neg (show ¬ (false = true) by decide)] at H; exact H
              clear H
              have H := H1
              clear H1
              replace H := Option.bind_eq_some_iff.mp H
              obtain ⟨⟨t190, t191, t192, t193⟩, A330, H⟩ := H
              replace H : (joustlaw08_BucketLeft.l1 kj8 t190 0 x170000_1 x170001_1 x170002_1 x170000_1 x170001_1 x170002_1) = some r := H
              have A33 := Aside0.mk A330
              clear A330
              have H' := Aside0.mk H
              clear H
              go_wp2_with (first | ((with_reducible refine gate_callee (f := 30) rfl ?_); refine goesL_ (some 61) rfl rfl Try.func30 (by kernel_rfl) rfl #[.pointer (some ⟨gb169, 0, none⟩)] rfl (by (try simp only [List.map_toArray, List.map_cons, List.map_nil]); first | done | rfl | (simp only [List.length_drop, List.length_take]; rfl)) ?_; (with_reducible refine (bucket_Bucket_Left.calls gb169 x170000_1 x170001_1 x170002_1 t190 t191 t192 t193 w _ ?side1 ?side2 A33.out).mono ?_); (case side1 => repeat (first | (with_reducible first | exact (Aside0.mk (IsS52.mk_ BK169.out GE169.out)).out | apply IsS52.alloc | apply IsS52.drewN | apply IsS52.drew | apply IsS52.set_0 | apply IsS52.set_1 | apply IsS52.set_2) | exact (Aside0.mk (IsS52.mk_ BK169.out GE169.out)).out)); (case side2 => repeat (first | (with_reducible first | exact HB.out | apply below_alloc | apply pw_below_drewN | apply below_drew1 | refine below_set ?_ (IsS52.ge (Aside0.mk (IsS52.mk_ BK169.out GE169.out)).out)) | exact HB.out)); rintro e w34 ⟨rfl, hi, hb, hk⟩; refine ⟨_, rfl, ?_⟩; replace hi := bucket_Bucket_Left.ro A33.out hi; have n0_ := Aside0.mk (hb); have n1_ := Aside0.mk (hi.1); clear HB; clear BK169; have HB := n0_; have BK169 := n1_; clear n0_ n1_; (try clear hb); (try clear hb2); (try clear hk); (try clear hi); have hcz35_0 : w34.cell? ⟨gb169, 0, none⟩ = some (.int .i64 x170000_1) := (blk_cell BK169.out 0).trans rfl; have hcz35_1 : w34.cell? ⟨gb169, 1, none⟩ = some (.int .i64 x170001_1) := (blk_cell BK169.out 1).trans rfl; have hcz35_2 : w34.cell? ⟨gb169, 2, none⟩ = some (.int .i64 x170002_1) := (blk_cell BK169.out 2).trans rfl; have hfz35_0 := blk_frozen BK169.out 0; have hfz35_1 := blk_frozen BK169.out 1; have hfz35_2 := blk_frozen BK169.out 2) | ((with_reducible refine gate_dst (N := 13) rfl ?_); refine box_event ?hg (N := 13) ?hd (cs := #[.int .i64 0, .int .i64 0, .int .i64 0]) (t := 52) ?hr ?_; (case hd => rfl); (case hg => rfl); (case hr => first | (go_simp; done) | (go_simp; rfl)); intro gb194 hg w36 hbox hb; have n0_ := Aside0.mk (blk_below (g := gb169) (o := .cells #[.int .i64 x170000_1, .int .i64 x170001_1, .int .i64 x170002_1] 52 (0, 0)) (by (with_reducible repeat (first | refine blk_drewN ?_ _ | refine blk_drew ?_ | refine blk_alloc ?_ _)); exact BK169.out) hb); have n1_ := Aside0.mk (below_step (by repeat (first | (with_reducible first | exact HB.out | apply below_alloc | apply pw_below_drewN | apply below_drew1 | refine below_set ?_ GE169.out) | exact HB.out)) hb); have n2_ := Aside0.mk (hbox); have n3_ := Aside0.mk ((by rw [hg]; exact (below_size (by repeat (first | (with_reducible first | exact HB.out | apply below_alloc | apply pw_below_drewN | apply below_drew1 | refine below_set ?_ GE169.out) | exact HB.out))) : w.heap.size ≤ gb194)); have n4_ := Aside0.mk ((by rw [hg]; exact (below_size (by repeat (first | (with_reducible first | exact HB.out | apply below_alloc | apply pw_below_drewN | apply below_drew1 | refine below_set ?_ GE169.out) | exact HB.out))) : w.heap.size ≤ gb194)); have n5_ := Aside0.mk ((by rw [hg]; exact Nat.ne_of_lt (blk_lt (g := gb169) (o := .cells #[.int .i64 x170000_1, .int .i64 x170001_1, .int .i64 x170002_1] 52 (0, 0)) (by (with_reducible repeat (first | refine blk_drewN ?_ _ | refine blk_drew ?_ | refine blk_alloc ?_ _)); exact BK169.out)) : gb169 ≠ gb194)); have n6_ := Aside0.mk ((by rw [hg]; exact Nat.ne_of_gt (blk_lt (g := gb169) (o := .cells #[.int .i64 x170000_1, .int .i64 x170001_1, .int .i64 x170002_1] 52 (0, 0)) (by (with_reducible repeat (first | refine blk_drewN ?_ _ | refine blk_drew ?_ | refine blk_alloc ?_ _)); exact BK169.out)) : gb194 ≠ gb169)); clear BK169; clear HB; have BK169 := n0_; have HB := n1_; have BK194 := n2_; have GW194 := n3_; have GE194 := n4_; have NB169_194 := n5_; have NB194_169 := n6_; clear n0_ n1_ n2_ n3_ n4_ n5_ n6_; clear hb hbox hg; have hnb37 := NB194_169.out; have hnc37 := NB169_194.out; have hcz38_0 : w36.cell? ⟨gb194, 0, none⟩ = some (.int .i64 0) := (blk_cell BK194.out 0).trans rfl; have hcz38_1 : w36.cell? ⟨gb194, 1, none⟩ = some (.int .i64 0) := (blk_cell BK194.out 1).trans rfl; have hcz38_2 : w36.cell? ⟨gb194, 2, none⟩ = some (.int .i64 0) := (blk_cell BK194.out 2).trans rfl; have hfz38_0 := blk_frozen BK194.out 0; have hfz38_1 := blk_frozen BK194.out 1; have hfz38_2 := blk_frozen BK194.out 2))
              go_loopg [14] kj8 (fun kq v14 w' => ∃ (x14_3 : Int) (x170000_3 : Int) (x170001_3 : Int) (x170002_3 : Int), v14 = .int .i64 x14_3 ∧ Aside0 (joustlaw08_BucketLeft.l1 kq t190 x14_3 x170000_3 x170001_3 x170002_3 x170000_1 x170001_1 x170002_1 = some r) ∧ Aside0 (kq ≤ kj8) ∧ Aside0 (w'.heap[gb169]? = some (.cells #[.int .i64 x170000_3, .int .i64 x170001_3, .int .i64 x170002_3] 52 (0, 0))) ∧ Aside0 (w'.heap[gb194]? = some (.cells #[.int .i64 x170000_1, .int .i64 x170001_1, .int .i64 x170002_1] 52 (0, 0))) ∧ Aside0 (Below w.heap.size w w'))
              case atStart => exact ⟨(0), (x170000_1), (x170001_1), (x170002_1), (by first | rfl | (simp; done) | (simp [*]; done)), H', ⟨Nat.le_refl _⟩, ⟨by (with_reducible repeat (first | refine blk_drewN ?_ _ | refine blk_drew ?_ | refine blk_alloc ?_ _)); refine blk_far ?_ NB169_194.out _; (with_reducible repeat (first | refine blk_drewN ?_ _ | refine blk_drew ?_ | refine blk_alloc ?_ _)); refine blk_far ?_ NB169_194.out _; (with_reducible repeat (first | refine blk_drewN ?_ _ | refine blk_drew ?_ | refine blk_alloc ?_ _)); refine blk_far ?_ NB169_194.out _; (with_reducible repeat (first | refine blk_drewN ?_ _ | refine blk_drew ?_ | refine blk_alloc ?_ _)); exact BK169.out⟩, ⟨by (with_reducible repeat (first | refine blk_drewN ?_ _ | refine blk_drew ?_ | refine blk_alloc ?_ _)); refine blk_put (cs := #[.int .i64 x170000_1, .int .i64 x170001_1, .int .i64 0]) ?_ 2 _ rfl; (with_reducible repeat (first | refine blk_drewN ?_ _ | refine blk_drew ?_ | refine blk_alloc ?_ _)); refine blk_put (cs := #[.int .i64 x170000_1, .int .i64 0, .int .i64 0]) ?_ 1 _ rfl; (with_reducible repeat (first | refine blk_drewN ?_ _ | refine blk_drew ?_ | refine blk_alloc ?_ _)); refine blk_put (cs := #[.int .i64 0, .int .i64 0, .int .i64 0]) ?_ 0 _ rfl; (with_reducible repeat (first | refine blk_drewN ?_ _ | refine blk_drew ?_ | refine blk_alloc ?_ _)); exact BK194.out⟩, ⟨by repeat (first | (with_reducible first | exact HB.out | apply below_alloc | apply pw_below_drewN | apply below_drew1 | refine below_set ?_ GE169.out | refine below_set ?_ GE194.out) | exact HB.out)⟩⟩
              case round =>
                clear H'
                try clear c1
                try clear p1
                try clear q1
                try clear hx1
                try clear c2
                try clear p2
                try clear c3
                try clear c5
                try clear p6
                try clear c10
                try clear c10b0
                try clear c11
                try clear c12
                try clear c12b0
                try clear c13
                try clear c13b0
                try clear c15
                try clear c15b0
                try clear c15b1
                try clear p17
                try clear q17
                try clear hx17
                try clear c18
                try clear c18b0
                try clear c18b1
                try clear c21
                try clear c21b0
                try clear c21b1
                try clear c24
                try clear c25
                try clear c25b0
                try clear c26
                try clear c28
                try clear c28b0
                try clear c30
                try clear c32
                try clear c37
                try clear hcz35_0
                try clear hcz35_1
                try clear hcz35_2
                try clear hcz38_0
                try clear hcz38_1
                try clear hcz38_2
                try clear hcz8_0
                try clear hcz8_1
                try clear hcz8_2
                try clear hfz35_0
                try clear hfz35_1
                try clear hfz35_2
                try clear hfz38_0
                try clear hfz38_1
                try clear hfz38_2
                try clear hfz8_0
                try clear hfz8_1
                try clear hfz8_2
                try clear hx170_0
                try clear hx170_1
                try clear hx178_0
                try clear hx178_1
                try clear p1
                try clear p17
                try clear p170
                try clear p178
                try clear p2
                try clear q1
                try clear q17
                try clear q170
                try clear q178
                obtain ⟨x14_3, x170000_3, x170001_3, x170002_3, rfl, HA, HK3, BK169, BK194, HB⟩ := hrel
                cases gk with
                | zero => exact absurd HA.out (by simp [joustlaw08_BucketLeft.l1])
                | succ k3 =>
                  have H := HA.out
                  clear HA
                  simp only [joustlaw08_BucketLeft.l1] at H
                  by_cases c39 : x14_3 < t190
                  · rw [if_pos c39] at H
                    have c39b0 : decide (x14_3 < t190) = true := decide_eq_true c39
                    clear c39
                    replace H := Option.bind_eq_some_iff.mp H
                    obtain ⟨⟨t207, t208, t209, t210⟩, A400, H⟩ := H
                    replace H : (if t207 = 0 then ((bucket_Bucket_Left.f t208 t209 t210).bind fun bt211 => (if bt211.1 = (wrap64 ((wrap64 (t190 - x14_3)) - 1)) then (joustlaw08_BucketLeft.l1 k3 t190 (wrap64 (x14_3 + 1)) t208 t209 t210 x170000_1 x170001_1 x170002_1) else (some false))) else (some false)) = some r := H
                    have A40 := Aside0.mk A400
                    clear A400
                    by_cases c41 : t207 = 0
                    · rw [if_pos c41] at H
                      have c41b0 : (t207 == 0) = true := beq_iff_eq.mpr c41
                      have c41b1 : (t207 != 0) = false := bne_eq_false_iff_eq.mpr c41
                      clear c41
                      replace H := Option.bind_eq_some_iff.mp H
                      obtain ⟨⟨t211, t212, t213, t214⟩, A420, H⟩ := H
                      replace H : (if t211 = (wrap64 ((wrap64 (t190 - x14_3)) - 1)) then (joustlaw08_BucketLeft.l1 k3 t190 (wrap64 (x14_3 + 1)) t208 t209 t210 x170000_1 x170001_1 x170002_1) else (some false)) = some r := H
                      have A42 := Aside0.mk A420
                      clear A420
                      by_cases c43 : t211 = (wrap64 ((wrap64 (t190 - x14_3)) - 1))
                      · rw [if_pos c43] at H
                        have c43b0 : (t211 == (wrap64 ((wrap64 (t190 - x14_3)) - 1))) = true := beq_iff_eq.mpr c43
                        have c43b1 : (t211 != (wrap64 ((wrap64 (t190 - x14_3)) - 1))) = false := bne_eq_false_iff_eq.mpr c43
                        clear c43
                        have H' := Aside0.mk H
                        clear H
                        go_wp2_with (first | ((with_reducible refine gate_callee (f := 24) rfl ?_); refine goesL_ (some 68) rfl rfl Try.func24 (by kernel_rfl) rfl #[.pointer (some ⟨gb169, 0, none⟩)] rfl (by (try simp only [List.map_toArray, List.map_cons, List.map_nil]); first | done | rfl | (simp only [List.length_drop, List.length_take]; rfl)) ?_; (with_reducible refine (bucket_Bucket_Take.calls gb169 x170000_3 x170001_3 x170002_3 t207 t208 t209 t210 w _ ?side1 ?side2 A40.out).mono ?_); (case side1 => repeat (first | (with_reducible first | exact (Aside0.mk (IsS52.mk_ BK169.out GE169.out)).out | apply IsS52.alloc | apply IsS52.drewN | apply IsS52.drew | apply IsS52.set_0 | apply IsS52.set_1 | apply IsS52.set_2 | refine IsS52.far ?_ NB169_194.out _) | exact (Aside0.mk (IsS52.mk_ BK169.out GE169.out)).out)); (case side2 => repeat (first | (with_reducible first | exact HB.out | apply below_alloc | apply pw_below_drewN | apply below_drew1 | refine below_set ?_ (IsS52.ge (Aside0.mk (IsS52.mk_ BK169.out GE169.out)).out) | refine below_set ?_ GE194.out) | exact HB.out)); rintro e w44 ⟨rfl, hi, hb, hk⟩; refine ⟨_, rfl, ?_⟩; have n0_ := Aside0.mk (KeepBut.blk hk (g' := gb194) (o := .cells #[.int .i64 x170000_1, .int .i64 x170001_1, .int .i64 x170002_1] 52 (0, 0)) (by (with_reducible repeat (first | refine blk_drewN ?_ _ | refine blk_drew ?_ | refine blk_alloc ?_ _)); exact BK194.out) NB194_169.out (by simp)); have n1_ := Aside0.mk (hb); have n2_ := Aside0.mk (hi.1); clear BK194; clear HB; clear BK169; have BK194 := n0_; have HB := n1_; have BK169 := n2_; clear n0_ n1_ n2_; (try clear hb); (try clear hb2); (try clear hk); (try clear hi)) | (go_at_call 30; (with_reducible refine (bucket_Bucket_Left.calls gb169 t208 t209 t210 t211 t212 t213 t214 w _ ?side1 ?side2 A42.out).mono ?_); (case side1 => repeat (first | (with_reducible first | exact (Aside0.mk (IsS52.mk_ BK169.out GE169.out)).out | apply IsS52.alloc | apply IsS52.drewN | apply IsS52.drew | apply IsS52.set_0 | apply IsS52.set_1 | apply IsS52.set_2 | refine IsS52.far ?_ NB169_194.out _) | exact (Aside0.mk (IsS52.mk_ BK169.out GE169.out)).out)); (case side2 => repeat (first | (with_reducible first | exact HB.out | apply below_alloc | apply pw_below_drewN | apply below_drew1 | refine below_set ?_ (IsS52.ge (Aside0.mk (IsS52.mk_ BK169.out GE169.out)).out) | refine below_set ?_ GE194.out) | exact HB.out)); rintro e w45 ⟨rfl, hi, hb, hk⟩; replace hi := bucket_Bucket_Left.ro A42.out hi; have n0_ := Aside0.mk (KeepBut.blk hk (g' := gb194) (o := .cells #[.int .i64 x170000_1, .int .i64 x170001_1, .int .i64 x170002_1] 52 (0, 0)) (by (with_reducible repeat (first | refine blk_drewN ?_ _ | refine blk_drew ?_ | refine blk_alloc ?_ _)); exact BK194.out) NB194_169.out (by simp)); have n1_ := Aside0.mk (hb); have n2_ := Aside0.mk (hi.1); clear BK194; clear HB; clear BK169; have BK194 := n0_; have HB := n1_; have BK169 := n2_; clear n0_ n1_ n2_; (try clear hb); (try clear hb2); (try clear hk); (try clear hi)))
                        go_roundg k3
                        case measure => have := HK1.out; have := HJ8.out; have := HK3.out; omega
                        case rel => exact ⟨(wrap64 (x14_3 + 1)), (t208), (t209), (t210), (by first | rfl | (simp; done) | (simp [*]; done)), H', ⟨by have := HK1.out; have := HJ8.out; have := HK3.out; omega⟩, ⟨by (with_reducible repeat (first | refine blk_drewN ?_ _ | refine blk_drew ?_ | refine blk_alloc ?_ _)); exact BK169.out⟩, ⟨by (with_reducible repeat (first | refine blk_drewN ?_ _ | refine blk_drew ?_ | refine blk_alloc ?_ _)); exact BK194.out⟩, ⟨by repeat (first | (with_reducible first | exact HB.out | apply below_alloc | apply pw_below_drewN | apply below_drew1 | refine below_set ?_ GE169.out | refine below_set ?_ GE194.out) | exact HB.out)⟩⟩
                      · rw [if_neg c43] at H
                        have c43b0 : (t211 == (wrap64 ((wrap64 (t190 - x14_3)) - 1))) = false := beq_eq_false_iff_ne.mpr c43
                        have c43b1 : (t211 != (wrap64 ((wrap64 (t190 - x14_3)) - 1))) = true := bne_iff_ne.mpr c43
                        obtain rfl := Option.some.inj H
                        go_wp2_with (first | ((with_reducible refine gate_callee (f := 24) rfl ?_); refine goesL_ (some 68) rfl rfl Try.func24 (by kernel_rfl) rfl #[.pointer (some ⟨gb169, 0, none⟩)] rfl (by (try simp only [List.map_toArray, List.map_cons, List.map_nil]); first | done | rfl | (simp only [List.length_drop, List.length_take]; rfl)) ?_; (with_reducible refine (bucket_Bucket_Take.calls gb169 x170000_3 x170001_3 x170002_3 t207 t208 t209 t210 w _ ?side1 ?side2 A40.out).mono ?_); (case side1 => repeat (first | (with_reducible first | exact (Aside0.mk (IsS52.mk_ BK169.out GE169.out)).out | apply IsS52.alloc | apply IsS52.drewN | apply IsS52.drew | apply IsS52.set_0 | apply IsS52.set_1 | apply IsS52.set_2 | refine IsS52.far ?_ NB169_194.out _) | exact (Aside0.mk (IsS52.mk_ BK169.out GE169.out)).out)); (case side2 => repeat (first | (with_reducible first | exact HB.out | apply below_alloc | apply pw_below_drewN | apply below_drew1 | refine below_set ?_ (IsS52.ge (Aside0.mk (IsS52.mk_ BK169.out GE169.out)).out) | refine below_set ?_ GE194.out) | exact HB.out)); rintro e w46 ⟨rfl, hi, hb, hk⟩; refine ⟨_, rfl, ?_⟩; have n0_ := Aside0.mk (KeepBut.blk hk (g' := gb194) (o := .cells #[.int .i64 x170000_1, .int .i64 x170001_1, .int .i64 x170002_1] 52 (0, 0)) (by (with_reducible repeat (first | refine blk_drewN ?_ _ | refine blk_drew ?_ | refine blk_alloc ?_ _)); exact BK194.out) NB194_169.out (by simp)); have n1_ := Aside0.mk (hb); have n2_ := Aside0.mk (hi.1); clear BK194; clear HB; clear BK169; have BK194 := n0_; have HB := n1_; have BK169 := n2_; clear n0_ n1_ n2_; (try clear hb); (try clear hb2); (try clear hk); (try clear hi)) | (go_at_call 30; (with_reducible refine (bucket_Bucket_Left.calls gb169 t208 t209 t210 t211 t212 t213 t214 w _ ?side1 ?side2 A42.out).mono ?_); (case side1 => repeat (first | (with_reducible first | exact (Aside0.mk (IsS52.mk_ BK169.out GE169.out)).out | apply IsS52.alloc | apply IsS52.drewN | apply IsS52.drew | apply IsS52.set_0 | apply IsS52.set_1 | apply IsS52.set_2 | refine IsS52.far ?_ NB169_194.out _) | exact (Aside0.mk (IsS52.mk_ BK169.out GE169.out)).out)); (case side2 => repeat (first | (with_reducible first | exact HB.out | apply below_alloc | apply pw_below_drewN | apply below_drew1 | refine below_set ?_ (IsS52.ge (Aside0.mk (IsS52.mk_ BK169.out GE169.out)).out) | refine below_set ?_ GE194.out) | exact HB.out)); rintro e w47 ⟨rfl, hi, hb, hk⟩; replace hi := bucket_Bucket_Left.ro A42.out hi; have n0_ := Aside0.mk (KeepBut.blk hk (g' := gb194) (o := .cells #[.int .i64 x170000_1, .int .i64 x170001_1, .int .i64 x170002_1] 52 (0, 0)) (by (with_reducible repeat (first | refine blk_drewN ?_ _ | refine blk_drew ?_ | refine blk_alloc ?_ _)); exact BK194.out) NB194_169.out (by simp)); have n1_ := Aside0.mk (hb); have n2_ := Aside0.mk (hi.1); clear BK194; clear HB; clear BK169; have BK194 := n0_; have HB := n1_; have BK169 := n2_; clear n0_ n1_ n2_; (try clear hb); (try clear hb2); (try clear hk); (try clear hi)))
                        go_ret
                        exact ⟨by first | rfl | (simp [errW_none, errW_some] <;> rfl) | (simp [*, errW_none, errW_some] <;> rfl), by repeat (first | (with_reducible first | exact HB.out | apply below_alloc | apply pw_below_drewN | apply below_drew1 | refine below_set ?_ GE169.out | refine below_set ?_ GE194.out) | exact HB.out)⟩
                    · rw [if_neg c41] at H
                      have c41b0 : (t207 == 0) = false := beq_eq_false_iff_ne.mpr c41
                      have c41b1 : (t207 != 0) = true := bne_iff_ne.mpr c41
                      obtain rfl := Option.some.inj H
                      go_wp2_with (first | ((with_reducible refine gate_callee (f := 24) rfl ?_); refine goesL_ (some 68) rfl rfl Try.func24 (by kernel_rfl) rfl #[.pointer (some ⟨gb169, 0, none⟩)] rfl (by (try simp only [List.map_toArray, List.map_cons, List.map_nil]); first | done | rfl | (simp only [List.length_drop, List.length_take]; rfl)) ?_; (with_reducible refine (bucket_Bucket_Take.calls gb169 x170000_3 x170001_3 x170002_3 t207 t208 t209 t210 w _ ?side1 ?side2 A40.out).mono ?_); (case side1 => repeat (first | (with_reducible first | exact (Aside0.mk (IsS52.mk_ BK169.out GE169.out)).out | apply IsS52.alloc | apply IsS52.drewN | apply IsS52.drew | apply IsS52.set_0 | apply IsS52.set_1 | apply IsS52.set_2 | refine IsS52.far ?_ NB169_194.out _) | exact (Aside0.mk (IsS52.mk_ BK169.out GE169.out)).out)); (case side2 => repeat (first | (with_reducible first | exact HB.out | apply below_alloc | apply pw_below_drewN | apply below_drew1 | refine below_set ?_ (IsS52.ge (Aside0.mk (IsS52.mk_ BK169.out GE169.out)).out) | refine below_set ?_ GE194.out) | exact HB.out)); rintro e w48 ⟨rfl, hi, hb, hk⟩; refine ⟨_, rfl, ?_⟩; have n0_ := Aside0.mk (KeepBut.blk hk (g' := gb194) (o := .cells #[.int .i64 x170000_1, .int .i64 x170001_1, .int .i64 x170002_1] 52 (0, 0)) (by (with_reducible repeat (first | refine blk_drewN ?_ _ | refine blk_drew ?_ | refine blk_alloc ?_ _)); exact BK194.out) NB194_169.out (by simp)); have n1_ := Aside0.mk (hb); have n2_ := Aside0.mk (hi.1); clear BK194; clear HB; clear BK169; have BK194 := n0_; have HB := n1_; have BK169 := n2_; clear n0_ n1_ n2_; (try clear hb); (try clear hb2); (try clear hk); (try clear hi)))
                      go_ret
                      exact ⟨by first | rfl | (simp [errW_none, errW_some] <;> rfl) | (simp [*, errW_none, errW_some] <;> rfl), by repeat (first | (with_reducible first | exact HB.out | apply below_alloc | apply pw_below_drewN | apply below_drew1 | refine below_set ?_ GE169.out | refine below_set ?_ GE194.out) | exact HB.out)⟩
                  · rw [if_neg c39] at H
                    have c39b0 : decide (x14_3 < t190) = false := decide_eq_false c39
                    clear c39
                    replace H := Option.bind_eq_some_iff.mp H
                    obtain ⟨⟨t195, t196, t197, t198⟩, A490, H⟩ := H
                    replace H : (if t195 = 80 then ((bucket_Bucket_Left.f t196 t197 t198).bind fun bt199 => (if bt199.1 = 0 then ((bucket_Bucket_Left.f x170000_1 x170001_1 x170002_1).bind fun bt203 => (some (bt203.1 == t190))) else (some false))) else (some false)) = some r := H
                    have A49 := Aside0.mk A490
                    clear A490
                    by_cases c50 : t195 = 80
                    · rw [if_pos c50] at H
                      have c50b0 : (t195 == 80) = true := beq_iff_eq.mpr c50
                      have c50b1 : (t195 != 80) = false := bne_eq_false_iff_eq.mpr c50
                      clear c50
                      replace H := Option.bind_eq_some_iff.mp H
                      obtain ⟨⟨t199, t200, t201, t202⟩, A510, H⟩ := H
                      replace H : (if t199 = 0 then ((bucket_Bucket_Left.f x170000_1 x170001_1 x170002_1).bind fun bt203 => (some (bt203.1 == t190))) else (some false)) = some r := H
                      have A51 := Aside0.mk A510
                      clear A510
                      by_cases c52 : t199 = 0
                      · rw [if_pos c52] at H
                        have c52b0 : (t199 == 0) = true := beq_iff_eq.mpr c52
                        have c52b1 : (t199 != 0) = false := bne_eq_false_iff_eq.mpr c52
                        clear c52
                        replace H := Option.bind_eq_some_iff.mp H
                        obtain ⟨⟨t203, t204, t205, t206⟩, A530, H⟩ := H
                        replace H : (some (t203 == t190)) = some r := H
                        have A53 := Aside0.mk A530
                        clear A530
                        obtain rfl := Option.some.inj H
                        go_wp2_with (first | ((with_reducible refine gate_callee (f := 24) rfl ?_); refine goesL_ (some 78) rfl rfl Try.func24 (by kernel_rfl) rfl #[.pointer (some ⟨gb169, 0, none⟩)] rfl (by (try simp only [List.map_toArray, List.map_cons, List.map_nil]); first | done | rfl | (simp only [List.length_drop, List.length_take]; rfl)) ?_; (with_reducible refine (bucket_Bucket_Take.calls gb169 x170000_3 x170001_3 x170002_3 t195 t196 t197 t198 w _ ?side1 ?side2 A49.out).mono ?_); (case side1 => repeat (first | (with_reducible first | exact (Aside0.mk (IsS52.mk_ BK169.out GE169.out)).out | apply IsS52.alloc | apply IsS52.drewN | apply IsS52.drew | apply IsS52.set_0 | apply IsS52.set_1 | apply IsS52.set_2 | refine IsS52.far ?_ NB169_194.out _) | exact (Aside0.mk (IsS52.mk_ BK169.out GE169.out)).out)); (case side2 => repeat (first | (with_reducible first | exact HB.out | apply below_alloc | apply pw_below_drewN | apply below_drew1 | refine below_set ?_ (IsS52.ge (Aside0.mk (IsS52.mk_ BK169.out GE169.out)).out) | refine below_set ?_ GE194.out) | exact HB.out)); rintro e w54 ⟨rfl, hi, hb, hk⟩; refine ⟨_, rfl, ?_⟩; have n0_ := Aside0.mk (KeepBut.blk hk (g' := gb194) (o := .cells #[.int .i64 x170000_1, .int .i64 x170001_1, .int .i64 x170002_1] 52 (0, 0)) (by (with_reducible repeat (first | refine blk_drewN ?_ _ | refine blk_drew ?_ | refine blk_alloc ?_ _)); exact BK194.out) NB194_169.out (by simp)); have n1_ := Aside0.mk (hb); have n2_ := Aside0.mk (hi.1); clear BK194; clear HB; clear BK169; have BK194 := n0_; have HB := n1_; have BK169 := n2_; clear n0_ n1_ n2_; (try clear hb); (try clear hb2); (try clear hk); (try clear hi)) | (go_at_call 30; (with_reducible refine (bucket_Bucket_Left.calls gb169 t196 t197 t198 t199 t200 t201 t202 w _ ?side1 ?side2 A51.out).mono ?_); (case side1 => repeat (first | (with_reducible first | exact (Aside0.mk (IsS52.mk_ BK169.out GE169.out)).out | apply IsS52.alloc | apply IsS52.drewN | apply IsS52.drew | apply IsS52.set_0 | apply IsS52.set_1 | apply IsS52.set_2 | refine IsS52.far ?_ NB169_194.out _) | exact (Aside0.mk (IsS52.mk_ BK169.out GE169.out)).out)); (case side2 => repeat (first | (with_reducible first | exact HB.out | apply below_alloc | apply pw_below_drewN | apply below_drew1 | refine below_set ?_ (IsS52.ge (Aside0.mk (IsS52.mk_ BK169.out GE169.out)).out) | refine below_set ?_ GE194.out) | exact HB.out)); rintro e w55 ⟨rfl, hi, hb, hk⟩; replace hi := bucket_Bucket_Left.ro A51.out hi; have n0_ := Aside0.mk (KeepBut.blk hk (g' := gb194) (o := .cells #[.int .i64 x170000_1, .int .i64 x170001_1, .int .i64 x170002_1] 52 (0, 0)) (by (with_reducible repeat (first | refine blk_drewN ?_ _ | refine blk_drew ?_ | refine blk_alloc ?_ _)); exact BK194.out) NB194_169.out (by simp)); have n1_ := Aside0.mk (hb); have n2_ := Aside0.mk (hi.1); clear BK194; clear HB; clear BK169; have BK194 := n0_; have HB := n1_; have BK169 := n2_; clear n0_ n1_ n2_; (try clear hb); (try clear hb2); (try clear hk); (try clear hi)) | (go_at_call 30; (with_reducible refine (bucket_Bucket_Left.calls gb194 x170000_1 x170001_1 x170002_1 t203 t204 t205 t206 w _ ?side1 ?side2 A53.out).mono ?_); (case side1 => repeat (first | (with_reducible first | exact (Aside0.mk (IsS52.mk_ BK194.out GE194.out)).out | apply IsS52.alloc | apply IsS52.drewN | apply IsS52.drew | apply IsS52.set_0 | apply IsS52.set_1 | apply IsS52.set_2 | refine IsS52.far ?_ NB194_169.out _) | exact (Aside0.mk (IsS52.mk_ BK194.out GE194.out)).out)); (case side2 => repeat (first | (with_reducible first | exact HB.out | apply below_alloc | apply pw_below_drewN | apply below_drew1 | refine below_set ?_ (IsS52.ge (Aside0.mk (IsS52.mk_ BK194.out GE194.out)).out) | refine below_set ?_ GE169.out) | exact HB.out)); rintro e w56 ⟨rfl, hi, hb, hk⟩; replace hi := bucket_Bucket_Left.ro A53.out hi; have n0_ := Aside0.mk (KeepBut.blk hk (g' := gb169) (o := .cells #[.int .i64 t196, .int .i64 t197, .int .i64 t198] 52 (0, 0)) (by (with_reducible repeat (first | refine blk_drewN ?_ _ | refine blk_drew ?_ | refine blk_alloc ?_ _)); exact BK169.out) NB169_194.out (by simp)); have n1_ := Aside0.mk (hb); have n2_ := Aside0.mk (hi.1); clear BK169; clear HB; clear BK194; have BK169 := n0_; have HB := n1_; have BK194 := n2_; clear n0_ n1_ n2_; (try clear hb); (try clear hb2); (try clear hk); (try clear hi)))
                        go_ret
                        exact ⟨by first | rfl | (simp [errW_none, errW_some] <;> rfl) | (simp [*, errW_none, errW_some] <;> rfl), by repeat (first | (with_reducible first | exact HB.out | apply below_alloc | apply pw_below_drewN | apply below_drew1 | refine below_set ?_ GE169.out | refine below_set ?_ GE194.out) | exact HB.out)⟩
                      · rw [if_neg c52] at H
                        have c52b0 : (t199 == 0) = false := beq_eq_false_iff_ne.mpr c52
                        have c52b1 : (t199 != 0) = true := bne_iff_ne.mpr c52
                        obtain rfl := Option.some.inj H
                        go_wp2_with (first | ((with_reducible refine gate_callee (f := 24) rfl ?_); refine goesL_ (some 78) rfl rfl Try.func24 (by kernel_rfl) rfl #[.pointer (some ⟨gb169, 0, none⟩)] rfl (by (try simp only [List.map_toArray, List.map_cons, List.map_nil]); first | done | rfl | (simp only [List.length_drop, List.length_take]; rfl)) ?_; (with_reducible refine (bucket_Bucket_Take.calls gb169 x170000_3 x170001_3 x170002_3 t195 t196 t197 t198 w _ ?side1 ?side2 A49.out).mono ?_); (case side1 => repeat (first | (with_reducible first | exact (Aside0.mk (IsS52.mk_ BK169.out GE169.out)).out | apply IsS52.alloc | apply IsS52.drewN | apply IsS52.drew | apply IsS52.set_0 | apply IsS52.set_1 | apply IsS52.set_2 | refine IsS52.far ?_ NB169_194.out _) | exact (Aside0.mk (IsS52.mk_ BK169.out GE169.out)).out)); (case side2 => repeat (first | (with_reducible first | exact HB.out | apply below_alloc | apply pw_below_drewN | apply below_drew1 | refine below_set ?_ (IsS52.ge (Aside0.mk (IsS52.mk_ BK169.out GE169.out)).out) | refine below_set ?_ GE194.out) | exact HB.out)); rintro e w57 ⟨rfl, hi, hb, hk⟩; refine ⟨_, rfl, ?_⟩; have n0_ := Aside0.mk (KeepBut.blk hk (g' := gb194) (o := .cells #[.int .i64 x170000_1, .int .i64 x170001_1, .int .i64 x170002_1] 52 (0, 0)) (by (with_reducible repeat (first | refine blk_drewN ?_ _ | refine blk_drew ?_ | refine blk_alloc ?_ _)); exact BK194.out) NB194_169.out (by simp)); have n1_ := Aside0.mk (hb); have n2_ := Aside0.mk (hi.1); clear BK194; clear HB; clear BK169; have BK194 := n0_; have HB := n1_; have BK169 := n2_; clear n0_ n1_ n2_; (try clear hb); (try clear hb2); (try clear hk); (try clear hi)) | (go_at_call 30; (with_reducible refine (bucket_Bucket_Left.calls gb169 t196 t197 t198 t199 t200 t201 t202 w _ ?side1 ?side2 A51.out).mono ?_); (case side1 => repeat (first | (with_reducible first | exact (Aside0.mk (IsS52.mk_ BK169.out GE169.out)).out | apply IsS52.alloc | apply IsS52.drewN | apply IsS52.drew | apply IsS52.set_0 | apply IsS52.set_1 | apply IsS52.set_2 | refine IsS52.far ?_ NB169_194.out _) | exact (Aside0.mk (IsS52.mk_ BK169.out GE169.out)).out)); (case side2 => repeat (first | (with_reducible first | exact HB.out | apply below_alloc | apply pw_below_drewN | apply below_drew1 | refine below_set ?_ (IsS52.ge (Aside0.mk (IsS52.mk_ BK169.out GE169.out)).out) | refine below_set ?_ GE194.out) | exact HB.out)); rintro e w58 ⟨rfl, hi, hb, hk⟩; replace hi := bucket_Bucket_Left.ro A51.out hi; have n0_ := Aside0.mk (KeepBut.blk hk (g' := gb194) (o := .cells #[.int .i64 x170000_1, .int .i64 x170001_1, .int .i64 x170002_1] 52 (0, 0)) (by (with_reducible repeat (first | refine blk_drewN ?_ _ | refine blk_drew ?_ | refine blk_alloc ?_ _)); exact BK194.out) NB194_169.out (by simp)); have n1_ := Aside0.mk (hb); have n2_ := Aside0.mk (hi.1); clear BK194; clear HB; clear BK169; have BK194 := n0_; have HB := n1_; have BK169 := n2_; clear n0_ n1_ n2_; (try clear hb); (try clear hb2); (try clear hk); (try clear hi)))
                        go_ret
                        exact ⟨by first | rfl | (simp [errW_none, errW_some] <;> rfl) | (simp [*, errW_none, errW_some] <;> rfl), by repeat (first | (with_reducible first | exact HB.out | apply below_alloc | apply pw_below_drewN | apply below_drew1 | refine below_set ?_ GE169.out | refine below_set ?_ GE194.out) | exact HB.out)⟩
                    · rw [if_neg c50] at H
                      have c50b0 : (t195 == 80) = false := beq_eq_false_iff_ne.mpr c50
                      have c50b1 : (t195 != 80) = true := bne_iff_ne.mpr c50
                      obtain rfl := Option.some.inj H
                      go_wp2_with (first | ((with_reducible refine gate_callee (f := 24) rfl ?_); refine goesL_ (some 78) rfl rfl Try.func24 (by kernel_rfl) rfl #[.pointer (some ⟨gb169, 0, none⟩)] rfl (by (try simp only [List.map_toArray, List.map_cons, List.map_nil]); first | done | rfl | (simp only [List.length_drop, List.length_take]; rfl)) ?_; (with_reducible refine (bucket_Bucket_Take.calls gb169 x170000_3 x170001_3 x170002_3 t195 t196 t197 t198 w _ ?side1 ?side2 A49.out).mono ?_); (case side1 => repeat (first | (with_reducible first | exact (Aside0.mk (IsS52.mk_ BK169.out GE169.out)).out | apply IsS52.alloc | apply IsS52.drewN | apply IsS52.drew | apply IsS52.set_0 | apply IsS52.set_1 | apply IsS52.set_2 | refine IsS52.far ?_ NB169_194.out _) | exact (Aside0.mk (IsS52.mk_ BK169.out GE169.out)).out)); (case side2 => repeat (first | (with_reducible first | exact HB.out | apply below_alloc | apply pw_below_drewN | apply below_drew1 | refine below_set ?_ (IsS52.ge (Aside0.mk (IsS52.mk_ BK169.out GE169.out)).out) | refine below_set ?_ GE194.out) | exact HB.out)); rintro e w59 ⟨rfl, hi, hb, hk⟩; refine ⟨_, rfl, ?_⟩; have n0_ := Aside0.mk (KeepBut.blk hk (g' := gb194) (o := .cells #[.int .i64 x170000_1, .int .i64 x170001_1, .int .i64 x170002_1] 52 (0, 0)) (by (with_reducible repeat (first | refine blk_drewN ?_ _ | refine blk_drew ?_ | refine blk_alloc ?_ _)); exact BK194.out) NB194_169.out (by simp)); have n1_ := Aside0.mk (hb); have n2_ := Aside0.mk (hi.1); clear BK194; clear HB; clear BK169; have BK194 := n0_; have HB := n1_; have BK169 := n2_; clear n0_ n1_ n2_; (try clear hb); (try clear hb2); (try clear hk); (try clear hi)))
                      go_ret
                      exact ⟨by first | rfl | (simp [errW_none, errW_some] <;> rfl) | (simp [*, errW_none, errW_some] <;> rfl), by repeat (first | (with_reducible first | exact HB.out | apply below_alloc | apply pw_below_drewN | apply below_drew1 | refine below_set ?_ GE169.out | refine below_set ?_ GE194.out) | exact HB.out)⟩
  · replace c5 := Bool.eq_false_iff.mpr c5
    subst c5
    have H1 : (some false) = some r := by rw [if_neg (show ¬ (false = true) by decide)] at H; exact H
    clear H
    have H := H1
    clear H1
    obtain rfl := Option.some.inj H
    go_enter Try.func10, Try.ntmps10
    go_wp2_with (first | ((with_reducible refine gate_callee (f := 32) rfl ?_); refine goesL_ (some 18) rfl rfl Try.func32 (by kernel_rfl) rfl #[.int .i64 a0, .int .i64 a1] rfl (by (try simp only [List.map_toArray, List.map_cons, List.map_nil]); first | done | rfl | (simp only [List.length_drop, List.length_take]; rfl)) ?_; (with_reducible refine (joustlaw08_full.calls k a0 a1 t163 t164 t165 t166 t167 false _ A4.out).mono ?_); rintro e w60 ⟨rfl, hb⟩; refine ⟨_, rfl, ?_⟩; have n0_ := Aside0.mk (below_step (by repeat (first | (with_reducible first | exact HB.out | apply below_alloc | apply pw_below_drewN | apply below_drew1) | exact HB.out)) hb); clear HB; have HB := n0_; clear n0_; (try clear hb); (try clear hb2); (try clear hk); (try clear hi)) | ((with_reducible refine gate_dst (N := 7) rfl ?_); refine box_event ?hg (N := 7) ?hd (cs := #[.int .i64 0, .int .i64 0, .int .i64 0]) (t := 52) ?hr ?_; (case hd => rfl); (case hg => rfl); (case hr => first | (go_simp; done) | (go_simp; rfl)); intro gb169 hg w61 hbox hb; have n0_ := Aside0.mk (below_step (by repeat (first | (with_reducible first | exact HB.out | apply below_alloc | apply pw_below_drewN | apply below_drew1) | exact HB.out)) hb); have n1_ := Aside0.mk (hbox); have n2_ := Aside0.mk ((by rw [hg]; exact (below_size (by repeat (first | (with_reducible first | exact HB.out | apply below_alloc | apply pw_below_drewN | apply below_drew1) | exact HB.out))) : w.heap.size ≤ gb169)); have n3_ := Aside0.mk ((by rw [hg]; exact (below_size (by repeat (first | (with_reducible first | exact HB.out | apply below_alloc | apply pw_below_drewN | apply below_drew1) | exact HB.out))) : w.heap.size ≤ gb169)); clear HB; have HB := n0_; have BK169 := n1_; have GW169 := n2_; have GE169 := n3_; clear n0_ n1_ n2_ n3_; clear hb hbox hg; have hcz62_0 : w61.cell? ⟨gb169, 0, none⟩ = some (.int .i64 0) := (blk_cell BK169.out 0).trans rfl; have hcz62_1 : w61.cell? ⟨gb169, 1, none⟩ = some (.int .i64 0) := (blk_cell BK169.out 1).trans rfl; have hcz62_2 : w61.cell? ⟨gb169, 2, none⟩ = some (.int .i64 0) := (blk_cell BK169.out 2).trans rfl; have hfz62_0 := blk_frozen BK169.out 0; have hfz62_1 := blk_frozen BK169.out 1; have hfz62_2 := blk_frozen BK169.out 2))
    go_ret
    exact ⟨by first | rfl | (simp [errW_none, errW_some] <;> rfl) | (simp [*, errW_none, errW_some] <;> rfl), by repeat (first | (with_reducible first | exact HB.out | apply below_alloc | apply pw_below_drewN | apply below_drew1 | refine below_set ?_ GE169.out) | exact HB.out)⟩

end Go.Proofs.Ytidjnpfpbbffjaa.PBucketLeft
