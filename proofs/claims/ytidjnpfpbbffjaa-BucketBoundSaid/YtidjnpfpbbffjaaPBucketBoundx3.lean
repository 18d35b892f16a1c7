-- Printed by a program of this session, a changed copy of the print
import Derived.Test.YtidjnpfpbbffjaaPBucketBoundx0
import Derived.Test.YtidjnpfpbbffjaaPBucketBoundx1
import Derived.Test.YtidjnpfpbbffjaaPBucketBoundx2
namespace Go.Proofs.Ytidjnpfpbbffjaa.PBucketBound
open Go.RowKit Go.Proofs.YtidjnpfpbbffjaaW.PrintWords Go.Proofs.YtidjnpfpbbffjaaW.PrintLast Go.Proofs.YtidjnpfpbbffjaaW.PrintMore
attribute [local go_sem] max2_int min2_int max_two min_two max_three min_three max_four min_four   -- for this text's walks alone
set_option linter.unusedVariables false
set_option linter.unusedSimpArgs false

/-! ### joustlaw08_BucketBound: function 8 -/
mutual
def joustlaw08_BucketBound.l0 : Nat → List (S62) → Int → Int → List Int → List Int → Int → Int → Int → Int → Int → Option (Bool)
  | 0, _, _, _, _, _, _, _, _, _, _ => none
  | k + 1, x2, x8, x9, x11, x12, x13, x14, x170000, x170001, x170002 => if x14 < (x2.length : Int) then (joustlaw08_BucketBound.j1 k x2 x8 x9 x11 x12 x13 x14 (decide (x14 < 200)) x170000 x170001 x170002) else (joustlaw08_BucketBound.j1 k x2 x8 x9 x11 x12 x13 x14 false x170000 x170001 x170002)
def joustlaw08_BucketBound.j1 : Nat → List (S62) → Int → Int → List Int → List Int → Int → Int → Bool → Int → Int → Int → Option (Bool)
  | 0, _, _, _, _, _, _, _, _, _, _, _ => none
  | k + 1, x2, x8, x9, x11, x12, x13, x14, x37, x170000, x170001, x170002 => if x37 = true then (if 0 ≤ x14 then (if x14 < (x2.length : Int) then (if ((rd_T62 x2 x14).f0) = 1 then ((bucket_Bucket_Take.f x170000 x170001 x170002).bind fun bt171 => (if bt171.1 = 0 then (joustlaw08_BucketBound.j2 k x2 x8 x9 x11 x12 x13 x14 1 0 bt171.2.1 bt171.2.2.1 bt171.2.2.2) else (joustlaw08_BucketBound.j2 k x2 x8 x9 x11 x12 x13 x14 0 0 bt171.2.1 bt171.2.2.1 bt171.2.2.2))) else (if ((rd_T62 x2 x14).f0) = 2 then ((bucket_Bucket_Tick.f x170000 x170001 x170002).bind fun bt175 => (joustlaw08_BucketBound.j2 k x2 x8 x9 x11 x12 x13 x14 0 1 bt175.1 bt175.2.1 bt175.2.2)) else (if ((rd_T62 x2 x14).f0) = 3 then (if ((rd_T62 x2 x14).f1) > 65536 then (some true) else ((bucket_Bucket_Ticks.f x170000 x170001 x170002 ((rd_T62 x2 x14).f1)).bind fun bt180 => (joustlaw08_BucketBound.j2 k x2 x8 x9 x11 x12 x13 x14 0 (wrap64 ((rd_T62 x2 x14).f1)) bt180.1 bt180.2.1 bt180.2.2))) else (joustlaw08_BucketBound.j2 k x2 x8 x9 x11 x12 x13 x14 0 0 x170000 x170001 x170002)))) else (none)) else (none)) else (some (decide (x13 ≤ (x2.length : Int))))
def joustlaw08_BucketBound.j2 : Nat → List (S62) → Int → Int → List Int → List Int → Int → Int → Int → Int → Int → Int → Int → Option (Bool)
  | 0, _, _, _, _, _, _, _, _, _, _, _, _ => none
  | k + 1, x2, x8, x9, x11, x12, x13, x14, x15, x16, x170000, x170001, x170002 => if x11.length < 17592186044416 then (if x12.length < 17592186044416 then (joustlaw08_BucketBound.l1 k x2 x8 x9 (x11 ++ [x15]) (x12 ++ [x16]) (wrap64 (x13 + x15)) x14 0 0 x14 x170000 x170001 x170002) else (none)) else (none)
def joustlaw08_BucketBound.l1 : Nat → List (S62) → Int → Int → List Int → List Int → Int → Int → Int → Int → Int → Int → Int → Int → Option (Bool)
  | 0, _, _, _, _, _, _, _, _, _, _, _, _, _ => none
  | k + 1, x2, x8, x9, x11, x12, x13, x14, x17, x18, x19, x170000, x170001, x170002 => if x19 ≥ 0 then (if 0 ≤ x19 then (if x19 < (x11.length : Int) then (if x19 < (x12.length : Int) then (if (wrap64 (x17 + (rd x11 x19))) > (wrap64 (Int.tdiv (wrap64 ((wrap64 (16 * x9)) + (wrap64 (x8 * (wrap64 (x18 + (rd x12 x19))))))) 16)) then (some false) else (joustlaw08_BucketBound.l1 k x2 x8 x9 x11 x12 x13 x14 (wrap64 (x17 + (rd x11 x19))) (wrap64 (x18 + (rd x12 x19))) (wrap64 (x19 - 1)) x170000 x170001 x170002)) else (none)) else (none)) else (none)) else (joustlaw08_BucketBound.l0 k x2 x8 x9 x11 x12 x13 (wrap64 (x14 + 1)) x170000 x170001 x170002)
end
def joustlaw08_BucketBound.f (k : Nat) (a0 : Int) (a1 : Int) (l2 : List (S62)) : Option (Bool) := (joustlaw08_full.f k a0 a1).bind fun bt163 => (if bt163.2.2.2.2.2 = true then (joustlaw08_BucketBound.l0 k l2 bt163.2.2.2.1 bt163.2.2.2.2.1 ([] : List Int) ([] : List Int) 0 0 bt163.1 bt163.2.1 bt163.2.2.1) else (some false))
theorem joustlaw08_BucketBound.mono_l : ∀ k, (∀ y0 y1 y2 y3 y4 y5 y6 y7 y8 y9, LeO (joustlaw08_BucketBound.l0 k y0 y1 y2 y3 y4 y5 y6 y7 y8 y9) (joustlaw08_BucketBound.l0 (k + 1) y0 y1 y2 y3 y4 y5 y6 y7 y8 y9)) ∧ (∀ y0 y1 y2 y3 y4 y5 y6 y7 y8 y9 y10, LeO (joustlaw08_BucketBound.j1 k y0 y1 y2 y3 y4 y5 y6 y7 y8 y9 y10) (joustlaw08_BucketBound.j1 (k + 1) y0 y1 y2 y3 y4 y5 y6 y7 y8 y9 y10)) ∧ (∀ y0 y1 y2 y3 y4 y5 y6 y7 y8 y9 y10 y11, LeO (joustlaw08_BucketBound.j2 k y0 y1 y2 y3 y4 y5 y6 y7 y8 y9 y10 y11) (joustlaw08_BucketBound.j2 (k + 1) y0 y1 y2 y3 y4 y5 y6 y7 y8 y9 y10 y11)) ∧ (∀ y0 y1 y2 y3 y4 y5 y6 y7 y8 y9 y10 y11 y12, LeO (joustlaw08_BucketBound.l1 k y0 y1 y2 y3 y4 y5 y6 y7 y8 y9 y10 y11 y12) (joustlaw08_BucketBound.l1 (k + 1) y0 y1 y2 y3 y4 y5 y6 y7 y8 y9 y10 y11 y12))
  | 0 => ⟨fun _ _ _ _ _ _ _ _ _ _ r h => by simp [joustlaw08_BucketBound.l0] at h, fun _ _ _ _ _ _ _ _ _ _ _ r h => by simp [joustlaw08_BucketBound.j1] at h, fun _ _ _ _ _ _ _ _ _ _ _ _ r h => by simp [joustlaw08_BucketBound.j2] at h, fun _ _ _ _ _ _ _ _ _ _ _ _ _ r h => by simp [joustlaw08_BucketBound.l1] at h⟩
  | k + 1 => by
    obtain ⟨ih0, ih1, ih2, ih3⟩ := joustlaw08_BucketBound.mono_l k
    refine ⟨?_, ?_, ?_, ?_⟩
    · intro y0 y1 y2 y3 y4 y5 y6 y7 y8 y9
      unfold joustlaw08_BucketBound.l0
      repeat' first
      | (with_reducible exact ih0 _ _ _ _ _ _ _ _ _ _)
      | (with_reducible exact ih1 _ _ _ _ _ _ _ _ _ _ _)
      | (with_reducible exact ih2 _ _ _ _ _ _ _ _ _ _ _ _)
      | (with_reducible exact ih3 _ _ _ _ _ _ _ _ _ _ _ _ _)
      | (with_reducible exact joustlaw08_full.mono _ _ _)
      | (with_reducible exact LeO.refl _)
      | (with_reducible exact LeO.none _)
      | (with_reducible refine LeO.ite ?_ ?_)
      | (with_reducible refine LeO.bind ?_ (fun _ => ?_))
      | exact ih0 _ _ _ _ _ _ _ _ _ _
      | exact ih1 _ _ _ _ _ _ _ _ _ _ _
      | exact ih2 _ _ _ _ _ _ _ _ _ _ _ _
      | exact ih3 _ _ _ _ _ _ _ _ _ _ _ _ _
      | exact joustlaw08_full.mono _ _ _
      | exact LeO.none _
      | refine LeO.ite ?_ ?_
      | refine LeO.bind ?_ (fun _ => ?_)
    · intro y0 y1 y2 y3 y4 y5 y6 y7 y8 y9 y10
      unfold joustlaw08_BucketBound.j1
      repeat' first
      | (with_reducible exact ih0 _ _ _ _ _ _ _ _ _ _)
      | (with_reducible exact ih1 _ _ _ _ _ _ _ _ _ _ _)
      | (with_reducible exact ih2 _ _ _ _ _ _ _ _ _ _ _ _)
      | (with_reducible exact ih3 _ _ _ _ _ _ _ _ _ _ _ _ _)
      | (with_reducible exact joustlaw08_full.mono _ _ _)
      | (with_reducible exact LeO.refl _)
      | (with_reducible exact LeO.none _)
      | (with_reducible refine LeO.ite ?_ ?_)
      | (with_reducible refine LeO.bind ?_ (fun _ => ?_))
      | exact ih0 _ _ _ _ _ _ _ _ _ _
      | exact ih1 _ _ _ _ _ _ _ _ _ _ _
      | exact ih2 _ _ _ _ _ _ _ _ _ _ _ _
      | exact ih3 _ _ _ _ _ _ _ _ _ _ _ _ _
      | exact joustlaw08_full.mono _ _ _
      | exact LeO.none _
      | refine LeO.ite ?_ ?_
      | refine LeO.bind ?_ (fun _ => ?_)
    · intro y0 y1 y2 y3 y4 y5 y6 y7 y8 y9 y10 y11
      unfold joustlaw08_BucketBound.j2
      repeat' first
      | (with_reducible exact ih0 _ _ _ _ _ _ _ _ _ _)
      | (with_reducible exact ih1 _ _ _ _ _ _ _ _ _ _ _)
      | (with_reducible exact ih2 _ _ _ _ _ _ _ _ _ _ _ _)
      | (with_reducible exact ih3 _ _ _ _ _ _ _ _ _ _ _ _ _)
      | (with_reducible exact joustlaw08_full.mono _ _ _)
      | (with_reducible exact LeO.refl _)
      | (with_reducible exact LeO.none _)
      | (with_reducible refine LeO.ite ?_ ?_)
      | (with_reducible refine LeO.bind ?_ (fun _ => ?_))
      | exact ih0 _ _ _ _ _ _ _ _ _ _
      | exact ih1 _ _ _ _ _ _ _ _ _ _ _
      | exact ih2 _ _ _ _ _ _ _ _ _ _ _ _
      | exact ih3 _ _ _ _ _ _ _ _ _ _ _ _ _
      | exact joustlaw08_full.mono _ _ _
      | exact LeO.none _
      | refine LeO.ite ?_ ?_
      | refine LeO.bind ?_ (fun _ => ?_)
    · intro y0 y1 y2 y3 y4 y5 y6 y7 y8 y9 y10 y11 y12
      unfold joustlaw08_BucketBound.l1
      repeat' first
      | (with_reducible exact ih0 _ _ _ _ _ _ _ _ _ _)
      | (with_reducible exact ih1 _ _ _ _ _ _ _ _ _ _ _)
      | (with_reducible exact ih2 _ _ _ _ _ _ _ _ _ _ _ _)
      | (with_reducible exact ih3 _ _ _ _ _ _ _ _ _ _ _ _ _)
      | (with_reducible exact joustlaw08_full.mono _ _ _)
      | (with_reducible exact LeO.refl _)
      | (with_reducible exact LeO.none _)
      | (with_reducible refine LeO.ite ?_ ?_)
      | (with_reducible refine LeO.bind ?_ (fun _ => ?_))
      | exact ih0 _ _ _ _ _ _ _ _ _ _
      | exact ih1 _ _ _ _ _ _ _ _ _ _ _
      | exact ih2 _ _ _ _ _ _ _ _ _ _ _ _
      | exact ih3 _ _ _ _ _ _ _ _ _ _ _ _ _
      | exact joustlaw08_full.mono _ _ _
      | exact LeO.none _
      | refine LeO.ite ?_ ?_
      | refine LeO.bind ?_ (fun _ => ?_)
theorem joustlaw08_BucketBound.mono : ∀ a0 a1 a2 k, LeO (joustlaw08_BucketBound.f k a0 a1 a2) (joustlaw08_BucketBound.f (k + 1) a0 a1 a2) := by
  intro a0 a1 a2 k
  obtain ⟨ih0, ih1, ih2, ih3⟩ := joustlaw08_BucketBound.mono_l k
  unfold joustlaw08_BucketBound.f
  repeat' first
      | (with_reducible exact ih0 _ _ _ _ _ _ _ _ _ _)
      | (with_reducible exact ih1 _ _ _ _ _ _ _ _ _ _ _)
      | (with_reducible exact ih2 _ _ _ _ _ _ _ _ _ _ _ _)
      | (with_reducible exact ih3 _ _ _ _ _ _ _ _ _ _ _ _ _)
      | (with_reducible exact joustlaw08_full.mono _ _ _)
      | (with_reducible exact LeO.refl _)
      | (with_reducible exact LeO.none _)
      | (with_reducible refine LeO.ite ?_ ?_)
      | (with_reducible refine LeO.bind ?_ (fun _ => ?_))
      | exact ih0 _ _ _ _ _ _ _ _ _ _
      | exact ih1 _ _ _ _ _ _ _ _ _ _ _
      | exact ih2 _ _ _ _ _ _ _ _ _ _ _ _
      | exact ih3 _ _ _ _ _ _ _ _ _ _ _ _ _
      | exact joustlaw08_full.mono _ _ _
      | exact LeO.none _
      | refine LeO.ite ?_ ?_
      | refine LeO.bind ?_ (fun _ => ?_)
set_option maxHeartbeats 8000000 in
set_option maxRecDepth 100000 in
theorem joustlaw08_BucketBound.calls (k : Nat) (a0 : Int) (a1 : Int) (A2 : Option Addr) (c2 : Nat) (l2 : List (S62)) (r : Bool) (w : World) (hr2 : Kd.C k62 w A2 l2.length l2) (hc2 : l2.length ≤ c2) (h : joustlaw08_BucketBound.f k a0 a1 l2 = some r) :
    Calls Try.prog 8 #[.int .i64 a0, .int .i64 a1, .slice A2 l2.length c2] w fun e w' => e = .returned (.bool r) ∧ Below w.heap.size w w' := by
  have hu52 := Try.underlying52
  have HR2 := Aside0.mk hr2
  have HC2 := Aside0.mk hc2
  clear hr2 hc2
  have HB := Aside0.mk (Below.refl w.heap.size w)
  have H : ((joustlaw08_full.f k a0 a1).bind fun bt163 => (if bt163.2.2.2.2.2 = true then (joustlaw08_BucketBound.l0 k l2 bt163.2.2.2.1 bt163.2.2.2.2.1 ([] : List Int) ([] : List Int) 0 0 bt163.1 bt163.2.1 bt163.2.2.1) else (some false))) = some r := h
  clear h
  replace H := Option.bind_eq_some_iff.mp H
  obtain ⟨⟨t163, t164, t165, t166, t167, t168⟩, A40, H⟩ := H
  replace H : (if t168 = true then (joustlaw08_BucketBound.l0 k l2 t166 t167 ([] : List Int) ([] : List Int) 0 0 t163 t164 t165) else (some false)) = some r := H
  have A4 := Aside0.mk A40
  clear A40
  by_cases c5 : t168 = true
  · subst c5
    have H1 : (joustlaw08_BucketBound.l0 k l2 t166 t167 ([] : List Int) ([] : List Int) 0 0 t163 t164 t165) = some r := by rw [if_pos rfl] at H; exact H
    clear H
    have H := H1
    clear H1
    have H' := Aside0.mk H
    clear H
    go_enter Try.func8, Try.ntmps8
    go_wp2_with (first | ((with_reducible refine gate_callee (f := 32) rfl ?_); refine goesL_ (some 23) rfl rfl Try.func32 (by kernel_rfl) rfl #[.int .i64 a0, .int .i64 a1] rfl (by (try simp only [List.map_toArray, List.map_cons, List.map_nil]); first | done | rfl | (simp only [List.length_drop, List.length_take]; rfl)) ?_; (with_reducible refine (joustlaw08_full.calls k a0 a1 t163 t164 t165 t166 t167 true _ A4.out).mono ?_); rintro e w6 ⟨rfl, hb⟩; refine ⟨_, rfl, ?_⟩; have n0_ := Aside0.mk (below_step (by repeat (first | (with_reducible first | exact HB.out | apply below_alloc | apply pw_below_drewN | apply below_drew1) | exact HB.out)) hb); clear HB; have HB := n0_; clear n0_; (try clear hb); (try clear hb2); (try clear hk); (try clear hi)) | ((with_reducible refine gate_dst (N := 7) rfl ?_); refine box_event ?hg (N := 7) ?hd (cs := #[.int .i64 0, .int .i64 0, .int .i64 0]) (t := 52) ?hr ?_; (case hd => rfl); (case hg => rfl); (case hr => first | (go_simp; done) | (go_simp; rfl)); intro gb169 hg w7 hbox hb; have n0_ := Aside0.mk (below_step (by repeat (first | (with_reducible first | exact HB.out | apply below_alloc | apply pw_below_drewN | apply below_drew1) | exact HB.out)) hb); have n1_ := Aside0.mk (hbox); have n2_ := Aside0.mk ((by rw [hg]; exact (below_size (by repeat (first | (with_reducible first | exact HB.out | apply below_alloc | apply pw_below_drewN | apply below_drew1) | exact HB.out))) : w.heap.size ≤ gb169)); have n3_ := Aside0.mk ((by rw [hg]; exact (below_size (by repeat (first | (with_reducible first | exact HB.out | apply below_alloc | apply pw_below_drewN | apply below_drew1) | exact HB.out))) : w.heap.size ≤ gb169)); clear HB; have HB := n0_; have BK169 := n1_; have GW169 := n2_; have GE169 := n3_; clear n0_ n1_ n2_ n3_; clear hb hbox hg; have hcz8_0 : w7.cell? ⟨gb169, 0, none⟩ = some (.int .i64 0) := (blk_cell BK169.out 0).trans rfl; have hcz8_1 : w7.cell? ⟨gb169, 1, none⟩ = some (.int .i64 0) := (blk_cell BK169.out 1).trans rfl; have hcz8_2 : w7.cell? ⟨gb169, 2, none⟩ = some (.int .i64 0) := (blk_cell BK169.out 2).trans rfl; have hfz8_0 := blk_frozen BK169.out 0; have hfz8_1 := blk_frozen BK169.out 1; have hfz8_2 := blk_frozen BK169.out 2))
    go_loopg [11, 12, 13, 14] k (fun kq v11 v12 v13 v14 w' => ∃ (x11_1 : List Int) (x12_1 : List Int) (x13_1 : Int) (x14_1 : Int) (x170000_1 : Int) (x170001_1 : Int) (x170002_1 : Int), v13 = .int .i64 x13_1 ∧ v14 = .int .i64 x14_1 ∧ Aside0 (joustlaw08_BucketBound.l0 kq l2 t166 t167 x11_1 x12_1 x13_1 x14_1 x170000_1 x170001_1 x170002_1 = some r) ∧ Aside0 (kq ≤ k) ∧ Aside0 (Kd.R (Kd.int .i64) 3 w' w.heap.size (fun k_ => some k_ ≠ (v12 : Value).ownBlock) v11 x11_1) ∧ Aside0 (Kd.R (Kd.int .i64) 3 w' w.heap.size (fun k_ => some k_ ≠ (v11 : Value).ownBlock) v12 x12_1) ∧ Aside0 (w'.heap[gb169]? = some (.cells #[.int .i64 x170000_1, .int .i64 x170001_1, .int .i64 x170002_1] 52 (0, 0))) ∧ Aside0 (Below w.heap.size w w'))
    case atStart => exact ⟨(([] : List Int)), (([] : List Int)), (0), (0), (t163), (t164), (t165), (by first | rfl | (simp; done) | (simp [*]; done)), (by first | rfl | (simp; done) | (simp [*]; done)), H', ⟨Nat.le_refl _⟩, ⟨by first | exact Kd.R_nil _ _ _ _ _ | exact Kd.N_nil _ _ _ _ _ | exact Kd.V_nil _ _ _ _ _ | exact Kd.Q_nil _ _ _ _ _ | exact Kd.S_nil _ _ _ _ _⟩, ⟨by first | exact Kd.R_nil _ _ _ _ _ | exact Kd.N_nil _ _ _ _ _ | exact Kd.V_nil _ _ _ _ _ | exact Kd.Q_nil _ _ _ _ _ | exact Kd.S_nil _ _ _ _ _⟩, ⟨by (with_reducible repeat (first | refine blk_drewN ?_ _ | refine blk_drew ?_ | refine blk_alloc ?_ _)); refine blk_put (cs := #[.int .i64 t163, .int .i64 t164, .int .i64 0]) ?_ 2 _ rfl; (with_reducible repeat (first | refine blk_drewN ?_ _ | refine blk_drew ?_ | refine blk_alloc ?_ _)); refine blk_put (cs := #[.int .i64 t163, .int .i64 0, .int .i64 0]) ?_ 1 _ rfl; (with_reducible repeat (first | refine blk_drewN ?_ _ | refine blk_drew ?_ | refine blk_alloc ?_ _)); refine blk_put (cs := #[.int .i64 0, .int .i64 0, .int .i64 0]) ?_ 0 _ rfl; (with_reducible repeat (first | refine blk_drewN ?_ _ | refine blk_drew ?_ | refine blk_alloc ?_ _)); exact BK169.out⟩, ⟨by repeat (first | (with_reducible first | exact HB.out | apply below_alloc | apply pw_below_drewN | apply below_drew1 | refine below_set ?_ GE169.out) | exact HB.out)⟩⟩
    case round =>
      clear H'
      try clear c2
      try clear p2
      try clear c3
      try clear c5
      try clear c8
      try clear hcz8_0
      try clear hcz8_1
      try clear hcz8_2
      try clear hfz8_0
      try clear hfz8_1
      try clear hfz8_2
      obtain ⟨x11_1, x12_1, x13_1, x14_1, x170000_1, x170001_1, x170002_1, rfl, rfl, HA, HK1, HO_11, HO_12, BK169, HB⟩ := hrel
      cases gk with
      | zero => exact absurd HA.out (by simp [joustlaw08_BucketBound.l0])
      | succ k1 =>
        have H := HA.out
        clear HA
        simp only [joustlaw08_BucketBound.l0] at H
        have HC9 := Aside0.mk H
        clear H
        go_upto_region 8 with (fail)
        go_cut [37] (fun v37 wc => ∃ (kq : Nat) (x37_8 : Bool), v37 = .bool x37_8 ∧ Aside0 (joustlaw08_BucketBound.j1 kq l2 t166 t167 x11_1 x12_1 x13_1 x14_1 x37_8 x170000_1 x170001_1 x170002_1 = some r) ∧ Aside0 (kq ≤ k1) ∧ Aside0 (Kd.R (Kd.int .i64) 3 wc w.heap.size (fun k_ => some k_ ≠ (u12 : Value).ownBlock) u11 x11_1) ∧ Aside0 (Kd.R (Kd.int .i64) 3 wc w.heap.size (fun k_ => some k_ ≠ (u11 : Value).ownBlock) u12 x12_1) ∧ Aside0 (wc.heap[gb169]? = some (.cells #[.int .i64 x170000_1, .int .i64 x170001_1, .int .i64 x170002_1] 52 (0, 0))) ∧ Aside0 (Below w.heap.size w wc))
        case first =>
          have H := HC9.out
          clear HC9
          by_cases c10 : x14_1 < (l2.length : Int)
          · rw [if_pos c10] at H
            have c10b0 : decide (x14_1 < (l2.length : Int)) = true := decide_eq_true c10
            clear c10
            (first | rw [c10b0] | (simp only [i64_w, i32_w]; rw [c10b0]) | skip)
            have H' := Aside0.mk H
            clear H
            go_wp2
            go_meet
            case rel => exact ⟨_, (decide (x14_1 < 200)), (by first | rfl | (simp; done) | (simp [*]; done)), H', ⟨by have := HK1.out; first | omega | exact Nat.le_refl _⟩, ⟨by (with_reducible repeat (first | apply Kd.R_alloc | apply Kd.R_drewN | apply Kd.R_drew)); exact HO_11.out⟩, ⟨by (with_reducible repeat (first | apply Kd.R_alloc | apply Kd.R_drewN | apply Kd.R_drew)); exact HO_12.out⟩, ⟨by (with_reducible repeat (first | refine blk_drewN ?_ _ | refine blk_drew ?_ | refine blk_alloc ?_ _)); exact BK169.out⟩, ⟨by repeat (first | (with_reducible first | exact HB.out | apply below_alloc | apply pw_below_drewN | apply below_drew1 | refine below_set ?_ GE169.out) | exact HB.out)⟩⟩
          · rw [if_neg c10] at H
            have c10b0 : decide (x14_1 < (l2.length : Int)) = false := decide_eq_false c10
            clear c10
            (first | rw [c10b0] | (simp only [i64_w, i32_w]; rw [c10b0]) | skip)
            have H' := Aside0.mk H
            clear H
            go_wp2
            go_meet
            case rel => exact ⟨_, (false), (by first | rfl | (simp; done) | (simp [*]; done)), H', ⟨by have := HK1.out; first | omega | exact Nat.le_refl _⟩, ⟨by (with_reducible repeat (first | apply Kd.R_alloc | apply Kd.R_drewN | apply Kd.R_drew)); exact HO_11.out⟩, ⟨by (with_reducible repeat (first | apply Kd.R_alloc | apply Kd.R_drewN | apply Kd.R_drew)); exact HO_12.out⟩, ⟨by (with_reducible repeat (first | refine blk_drewN ?_ _ | refine blk_drew ?_ | refine blk_alloc ?_ _)); exact BK169.out⟩, ⟨by repeat (first | (with_reducible first | exact HB.out | apply below_alloc | apply pw_below_drewN | apply below_drew1 | refine below_set ?_ GE169.out) | exact HB.out)⟩⟩
        case rest =>
          clear HC9
          try clear c1
          try clear c2
          try clear p2
          try clear c3
          try clear c5
          try clear c8
          try clear c10
          try clear c10b0
          try clear hcz8_0
          try clear hcz8_1
          try clear hcz8_2
          try clear hfz8_0
          try clear hfz8_1
          try clear hfz8_2
          try clear p2
          obtain ⟨kq, x37_8, rfl, HA, HJ8, HO_11, HO_12, BK169, HB⟩ := hcut
          cases kq with
          | zero => exact absurd HA.out (by simp [joustlaw08_BucketBound.j1])
          | succ kj8 =>
            have H := HA.out
            clear HA
            simp only [joustlaw08_BucketBound.j1] at H
            by_cases c11 : x37_8 = true
            · subst c11
              have H1 : (if 0 ≤ x14_1 then (if x14_1 < (l2.length : Int) then (if ((rd_T62 l2 x14_1).f0) = 1 then ((bucket_Bucket_Take.f x170000_1 x170001_1 x170002_1).bind fun bt171 => (if bt171.1 = 0 then (joustlaw08_BucketBound.j2 kj8 l2 t166 t167 x11_1 x12_1 x13_1 x14_1 1 0 bt171.2.1 bt171.2.2.1 bt171.2.2.2) else (joustlaw08_BucketBound.j2 kj8 l2 t166 t167 x11_1 x12_1 x13_1 x14_1 0 0 bt171.2.1 bt171.2.2.1 bt171.2.2.2))) else (if ((rd_T62 l2 x14_1).f0) = 2 then ((bucket_Bucket_Tick.f x170000_1 x170001_1 x170002_1).bind fun bt175 => (joustlaw08_BucketBound.j2 kj8 l2 t166 t167 x11_1 x12_1 x13_1 x14_1 0 1 bt175.1 bt175.2.1 bt175.2.2)) else (if ((rd_T62 l2 x14_1).f0) = 3 then (if ((rd_T62 l2 x14_1).f1) > 65536 then (some true) else ((bucket_Bucket_Ticks.f x170000_1 x170001_1 x170002_1 ((rd_T62 l2 x14_1).f1)).bind fun bt180 => (joustlaw08_BucketBound.j2 kj8 l2 t166 t167 x11_1 x12_1 x13_1 x14_1 0 (wrap64 ((rd_T62 l2 x14_1).f1)) bt180.1 bt180.2.1 bt180.2.2))) else (joustlaw08_BucketBound.j2 kj8 l2 t166 t167 x11_1 x12_1 x13_1 x14_1 0 0 x170000_1 x170001_1 x170002_1)))) else (none)) else (none)) = some r := by rw [if_pos rfl] at H; exact H
              clear H
              have H := H1
              clear H1
              by_cases c12 : 0 ≤ x14_1
              · rw [if_pos c12] at H
                have c12b0 : decide (0 ≤ x14_1) = true := decide_eq_true c12
                clear c12
                by_cases c13 : x14_1 < (l2.length : Int)
                · rw [if_pos c13] at H
                  have c13b0 : decide (x14_1 < (l2.length : Int)) = true := decide_eq_true c13
                  clear c13
                  have HC14 := Aside0.mk H
                  clear H
                  have p170 : 0 ≤ (x14_1 : Int) := of_decide_eq_true (by first | (with_reducible assumption) | assumption)
                  have q170 : x14_1 < (l2.length : Int) := of_decide_eq_true (by first | (with_reducible assumption) | assumption)
                  obtain ⟨ad170, e170, hx170_0, hx170_1⟩ := at_T62 HR2.out x14_1 p170 q170
                  cases e170
                  replace hx170_0 := (HB.out.cell (World.block_lt_of_cell? w _ hx170_0)).trans hx170_0
                  replace hx170_1 := (HB.out.cell (World.block_lt_of_cell? w _ hx170_1)).trans hx170_1
                  replace p170 := eq_true p170
                  replace q170 := eq_true q170
                  go_upto_block 2 with (fail)
                  go_cut [15, 16] (fun v15 v16 wc => ∃ (kq : Nat) (x15_13 : Int) (x16_13 : Int) (x170000_13 : Int) (x170001_13 : Int) (x170002_13 : Int), v15 = .int .i64 x15_13 ∧ v16 = .int .i64 x16_13 ∧ Aside0 (joustlaw08_BucketBound.j2 kq l2 t166 t167 x11_1 x12_1 x13_1 x14_1 x15_13 x16_13 x170000_13 x170001_13 x170002_13 = some r) ∧ Aside0 (kq ≤ kj8) ∧ Aside0 (Kd.R (Kd.int .i64) 3 wc w.heap.size (fun k_ => some k_ ≠ (u12 : Value).ownBlock) u11 x11_1) ∧ Aside0 (Kd.R (Kd.int .i64) 3 wc w.heap.size (fun k_ => some k_ ≠ (u11 : Value).ownBlock) u12 x12_1) ∧ Aside0 (wc.heap[gb169]? = some (.cells #[.int .i64 x170000_13, .int .i64 x170001_13, .int .i64 x170002_13] 52 (0, 0))) ∧ Aside0 (Below w.heap.size w wc))
                  case first =>
                    have H := HC14.out
                    clear HC14
                    by_cases c15 : ((rd_T62 l2 x14_1).f0) = 1
                    · rw [if_pos c15] at H
                      have c15b0 : (((rd_T62 l2 x14_1).f0) == 1) = true := beq_iff_eq.mpr c15
                      have c15b1 : (((rd_T62 l2 x14_1).f0) != 1) = false := bne_eq_false_iff_eq.mpr c15
                      clear c15
                      (first | rw [c15b0] | (simp only [i64_w, i32_w]; rw [c15b0]) | skip)
                      replace H := Option.bind_eq_some_iff.mp H
                      obtain ⟨⟨t171, t172, t173, t174⟩, A160, H⟩ := H
                      replace H : (if t171 = 0 then (joustlaw08_BucketBound.j2 kj8 l2 t166 t167 x11_1 x12_1 x13_1 x14_1 1 0 t172 t173 t174) else (joustlaw08_BucketBound.j2 kj8 l2 t166 t167 x11_1 x12_1 x13_1 x14_1 0 0 t172 t173 t174)) = some r := H
                      have A16 := Aside0.mk A160
                      clear A160
                      by_cases c17 : t171 = 0
                      · rw [if_pos c17] at H
                        have c17b0 : (t171 == 0) = true := beq_iff_eq.mpr c17
                        have c17b1 : (t171 != 0) = false := bne_eq_false_iff_eq.mpr c17
                        clear c17
                        have H' := Aside0.mk H
                        clear H
                        go_wp2_with (first | ((with_reducible refine gate_callee (f := 24) rfl ?_); refine goesL_ (some 47) rfl rfl Try.func24 (by kernel_rfl) rfl #[.pointer (some ⟨gb169, 0, none⟩)] rfl (by (try simp only [List.map_toArray, List.map_cons, List.map_nil]); first | done | rfl | (simp only [List.length_drop, List.length_take]; rfl)) ?_; (with_reducible refine (bucket_Bucket_Take.calls gb169 x170000_1 x170001_1 x170002_1 t171 t172 t173 t174 w _ ?side1 ?side2 A16.out).mono ?_); (case side1 => repeat (first | (with_reducible first | exact (Aside0.mk (IsS52.mk_ BK169.out GE169.out)).out | apply IsS52.alloc | apply IsS52.drewN | apply IsS52.drew | apply IsS52.set_0 | apply IsS52.set_1 | apply IsS52.set_2) | exact (Aside0.mk (IsS52.mk_ BK169.out GE169.out)).out)); (case side2 => repeat (first | (with_reducible first | exact HB.out | apply below_alloc | apply pw_below_drewN | apply below_drew1 | refine below_set ?_ (IsS52.ge (Aside0.mk (IsS52.mk_ BK169.out GE169.out)).out)) | exact HB.out)); rintro e w18 ⟨rfl, hi, hb, hk⟩; refine ⟨_, rfl, ?_⟩; have n0_ := Aside0.mk (Kd.R_mono (Kd.R_keep (IsS52.apart (show IsS52 w _ gb169 x170000_1 x170001_1 x170002_1 from by repeat (first | (with_reducible first | exact (Aside0.mk (IsS52.mk_ BK169.out GE169.out)).out | apply IsS52.alloc | apply IsS52.drewN | apply IsS52.drew | apply IsS52.set_0 | apply IsS52.set_1 | apply IsS52.set_2) | exact (Aside0.mk (IsS52.mk_ BK169.out GE169.out)).out)) (by (with_reducible repeat (first | apply Kd.R_alloc | apply Kd.R_drewN | apply Kd.R_drew)); exact HO_11.out) (by decide)) hk (fun _ h => h.2)) (fun _ h => h.1)); have n1_ := Aside0.mk (Kd.R_mono (Kd.R_keep (IsS52.apart (show IsS52 w _ gb169 x170000_1 x170001_1 x170002_1 from by repeat (first | (with_reducible first | exact (Aside0.mk (IsS52.mk_ BK169.out GE169.out)).out | apply IsS52.alloc | apply IsS52.drewN | apply IsS52.drew | apply IsS52.set_0 | apply IsS52.set_1 | apply IsS52.set_2) | exact (Aside0.mk (IsS52.mk_ BK169.out GE169.out)).out)) (by (with_reducible repeat (first | apply Kd.R_alloc | apply Kd.R_drewN | apply Kd.R_drew)); exact HO_12.out) (by decide)) hk (fun _ h => h.2)) (fun _ h => h.1)); have n2_ := Aside0.mk (hb); have n3_ := Aside0.mk (hi.1); clear HO_11; clear HO_12; clear HB; clear BK169; have HO_11 := n0_; have HO_12 := n1_; have HB := n2_; have BK169 := n3_; clear n0_ n1_ n2_ n3_; (try clear hb); (try clear hb2); (try clear hk); (try clear hi)))
                        go_meet
                        case rel => exact ⟨_, (1), (0), (t172), (t173), (t174), (by first | rfl | (simp; done) | (simp [*]; done)), (by first | rfl | (simp; done) | (simp [*]; done)), H', ⟨by have := HK1.out; have := HJ8.out; first | omega | exact Nat.le_refl _⟩, ⟨by (with_reducible repeat (first | apply Kd.R_alloc | apply Kd.R_drewN | apply Kd.R_drew)); exact HO_11.out⟩, ⟨by (with_reducible repeat (first | apply Kd.R_alloc | apply Kd.R_drewN | apply Kd.R_drew)); exact HO_12.out⟩, ⟨by (with_reducible repeat (first | refine blk_drewN ?_ _ | refine blk_drew ?_ | refine blk_alloc ?_ _)); exact BK169.out⟩, ⟨by repeat (first | (with_reducible first | exact HB.out | apply below_alloc | apply pw_below_drewN | apply below_drew1 | refine below_set ?_ GE169.out) | exact HB.out)⟩⟩
                      · rw [if_neg c17] at H
                        have c17b0 : (t171 == 0) = false := beq_eq_false_iff_ne.mpr c17
                        have c17b1 : (t171 != 0) = true := bne_iff_ne.mpr c17
                        have H' := Aside0.mk H
                        clear H
                        go_wp2_with (first | ((with_reducible refine gate_callee (f := 24) rfl ?_); refine goesL_ (some 47) rfl rfl Try.func24 (by kernel_rfl) rfl #[.pointer (some ⟨gb169, 0, none⟩)] rfl (by (try simp only [List.map_toArray, List.map_cons, List.map_nil]); first | done | rfl | (simp only [List.length_drop, List.length_take]; rfl)) ?_; (with_reducible refine (bucket_Bucket_Take.calls gb169 x170000_1 x170001_1 x170002_1 t171 t172 t173 t174 w _ ?side1 ?side2 A16.out).mono ?_); (case side1 => repeat (first | (with_reducible first | exact (Aside0.mk (IsS52.mk_ BK169.out GE169.out)).out | apply IsS52.alloc | apply IsS52.drewN | apply IsS52.drew | apply IsS52.set_0 | apply IsS52.set_1 | apply IsS52.set_2) | exact (Aside0.mk (IsS52.mk_ BK169.out GE169.out)).out)); (case side2 => repeat (first | (with_reducible first | exact HB.out | apply below_alloc | apply pw_below_drewN | apply below_drew1 | refine below_set ?_ (IsS52.ge (Aside0.mk (IsS52.mk_ BK169.out GE169.out)).out)) | exact HB.out)); rintro e w19 ⟨rfl, hi, hb, hk⟩; refine ⟨_, rfl, ?_⟩; have n0_ := Aside0.mk (Kd.R_mono (Kd.R_keep (IsS52.apart (show IsS52 w _ gb169 x170000_1 x170001_1 x170002_1 from by repeat (first | (with_reducible first | exact (Aside0.mk (IsS52.mk_ BK169.out GE169.out)).out | apply IsS52.alloc | apply IsS52.drewN | apply IsS52.drew | apply IsS52.set_0 | apply IsS52.set_1 | apply IsS52.set_2) | exact (Aside0.mk (IsS52.mk_ BK169.out GE169.out)).out)) (by (with_reducible repeat (first | apply Kd.R_alloc | apply Kd.R_drewN | apply Kd.R_drew)); exact HO_11.out) (by decide)) hk (fun _ h => h.2)) (fun _ h => h.1)); have n1_ := Aside0.mk (Kd.R_mono (Kd.R_keep (IsS52.apart (show IsS52 w _ gb169 x170000_1 x170001_1 x170002_1 from by repeat (first | (with_reducible first | exact (Aside0.mk (IsS52.mk_ BK169.out GE169.out)).out | apply IsS52.alloc | apply IsS52.drewN | apply IsS52.drew | apply IsS52.set_0 | apply IsS52.set_1 | apply IsS52.set_2) | exact (Aside0.mk (IsS52.mk_ BK169.out GE169.out)).out)) (by (with_reducible repeat (first | apply Kd.R_alloc | apply Kd.R_drewN | apply Kd.R_drew)); exact HO_12.out) (by decide)) hk (fun _ h => h.2)) (fun _ h => h.1)); have n2_ := Aside0.mk (hb); have n3_ := Aside0.mk (hi.1); clear HO_11; clear HO_12; clear HB; clear BK169; have HO_11 := n0_; have HO_12 := n1_; have HB := n2_; have BK169 := n3_; clear n0_ n1_ n2_ n3_; (try clear hb); (try clear hb2); (try clear hk); (try clear hi)))
                        go_meet
                        case rel => exact ⟨_, (0), (0), (t172), (t173), (t174), (by first | rfl | (simp; done) | (simp [*]; done)), (by first | rfl | (simp; done) | (simp [*]; done)), H', ⟨by have := HK1.out; have := HJ8.out; first | omega | exact Nat.le_refl _⟩, ⟨by (with_reducible repeat (first | apply Kd.R_alloc | apply Kd.R_drewN | apply Kd.R_drew)); exact HO_11.out⟩, ⟨by (with_reducible repeat (first | apply Kd.R_alloc | apply Kd.R_drewN | apply Kd.R_drew)); exact HO_12.out⟩, ⟨by (with_reducible repeat (first | refine blk_drewN ?_ _ | refine blk_drew ?_ | refine blk_alloc ?_ _)); exact BK169.out⟩, ⟨by repeat (first | (with_reducible first | exact HB.out | apply below_alloc | apply pw_below_drewN | apply below_drew1 | refine below_set ?_ GE169.out) | exact HB.out)⟩⟩
                    · rw [if_neg c15] at H
                      have c15b0 : (((rd_T62 l2 x14_1).f0) == 1) = false := beq_eq_false_iff_ne.mpr c15
                      have c15b1 : (((rd_T62 l2 x14_1).f0) != 1) = true := bne_iff_ne.mpr c15
                      (first | rw [c15b0] | (simp only [i64_w, i32_w]; rw [c15b0]) | skip)
                      by_cases c20 : ((rd_T62 l2 x14_1).f0) = 2
                      · rw [if_pos c20] at H
                        have c20b0 : (((rd_T62 l2 x14_1).f0) == 2) = true := beq_iff_eq.mpr c20
                        have c20b1 : (((rd_T62 l2 x14_1).f0) != 2) = false := bne_eq_false_iff_eq.mpr c20
                        clear c20
                        replace H := Option.bind_eq_some_iff.mp H
                        obtain ⟨⟨t175, t176, t177⟩, A210, H⟩ := H
                        replace H : (joustlaw08_BucketBound.j2 kj8 l2 t166 t167 x11_1 x12_1 x13_1 x14_1 0 1 t175 t176 t177) = some r := H
                        have A21 := Aside0.mk A210
                        clear A210
                        have H' := Aside0.mk H
                        clear H
                        go_wp2_with (first | ((with_reducible refine gate_callee (f := 26) rfl ?_); refine goesL_ (some 51) rfl rfl Try.func26 (by kernel_rfl) rfl #[.pointer (some ⟨gb169, 0, none⟩)] rfl (by (try simp only [List.map_toArray, List.map_cons, List.map_nil]); first | done | rfl | (simp only [List.length_drop, List.length_take]; rfl)) ?_; (with_reducible refine (bucket_Bucket_Tick.calls gb169 x170000_1 x170001_1 x170002_1 t175 t176 t177 w _ ?side1 ?side2 A21.out).mono ?_); (case side1 => repeat (first | (with_reducible first | exact (Aside0.mk (IsS52.mk_ BK169.out GE169.out)).out | apply IsS52.alloc | apply IsS52.drewN | apply IsS52.drew | apply IsS52.set_0 | apply IsS52.set_1 | apply IsS52.set_2) | exact (Aside0.mk (IsS52.mk_ BK169.out GE169.out)).out)); (case side2 => repeat (first | (with_reducible first | exact HB.out | apply below_alloc | apply pw_below_drewN | apply below_drew1 | refine below_set ?_ (IsS52.ge (Aside0.mk (IsS52.mk_ BK169.out GE169.out)).out)) | exact HB.out)); rintro e w22 ⟨rfl, hi, hb, hk⟩; refine ⟨_, rfl, ?_⟩; have n0_ := Aside0.mk (Kd.R_mono (Kd.R_keep (IsS52.apart (show IsS52 w _ gb169 x170000_1 x170001_1 x170002_1 from by repeat (first | (with_reducible first | exact (Aside0.mk (IsS52.mk_ BK169.out GE169.out)).out | apply IsS52.alloc | apply IsS52.drewN | apply IsS52.drew | apply IsS52.set_0 | apply IsS52.set_1 | apply IsS52.set_2) | exact (Aside0.mk (IsS52.mk_ BK169.out GE169.out)).out)) (by (with_reducible repeat (first | apply Kd.R_alloc | apply Kd.R_drewN | apply Kd.R_drew)); exact HO_11.out) (by decide)) hk (fun _ h => h.2)) (fun _ h => h.1)); have n1_ := Aside0.mk (Kd.R_mono (Kd.R_keep (IsS52.apart (show IsS52 w _ gb169 x170000_1 x170001_1 x170002_1 from by repeat (first | (with_reducible first | exact (Aside0.mk (IsS52.mk_ BK169.out GE169.out)).out | apply IsS52.alloc | apply IsS52.drewN | apply IsS52.drew | apply IsS52.set_0 | apply IsS52.set_1 | apply IsS52.set_2) | exact (Aside0.mk (IsS52.mk_ BK169.out GE169.out)).out)) (by (with_reducible repeat (first | apply Kd.R_alloc | apply Kd.R_drewN | apply Kd.R_drew)); exact HO_12.out) (by decide)) hk (fun _ h => h.2)) (fun _ h => h.1)); have n2_ := Aside0.mk (hb); have n3_ := Aside0.mk (hi.1); clear HO_11; clear HO_12; clear HB; clear BK169; have HO_11 := n0_; have HO_12 := n1_; have HB := n2_; have BK169 := n3_; clear n0_ n1_ n2_ n3_; (try clear hb); (try clear hb2); (try clear hk); (try clear hi)))
                        go_meet
                        case rel => exact ⟨_, (0), (1), (t175), (t176), (t177), (by first | rfl | (simp; done) | (simp [*]; done)), (by first | rfl | (simp; done) | (simp [*]; done)), H', ⟨by have := HK1.out; have := HJ8.out; first | omega | exact Nat.le_refl _⟩, ⟨by (with_reducible repeat (first | apply Kd.R_alloc | apply Kd.R_drewN | apply Kd.R_drew)); exact HO_11.out⟩, ⟨by (with_reducible repeat (first | apply Kd.R_alloc | apply Kd.R_drewN | apply Kd.R_drew)); exact HO_12.out⟩, ⟨by (with_reducible repeat (first | refine blk_drewN ?_ _ | refine blk_drew ?_ | refine blk_alloc ?_ _)); exact BK169.out⟩, ⟨by repeat (first | (with_reducible first | exact HB.out | apply below_alloc | apply pw_below_drewN | apply below_drew1 | refine below_set ?_ GE169.out) | exact HB.out)⟩⟩
                      · rw [if_neg c20] at H
                        have c20b0 : (((rd_T62 l2 x14_1).f0) == 2) = false := beq_eq_false_iff_ne.mpr c20
                        have c20b1 : (((rd_T62 l2 x14_1).f0) != 2) = true := bne_iff_ne.mpr c20
                        by_cases c23 : ((rd_T62 l2 x14_1).f0) = 3
                        · rw [if_pos c23] at H
                          have c23b0 : (((rd_T62 l2 x14_1).f0) == 3) = true := beq_iff_eq.mpr c23
                          have c23b1 : (((rd_T62 l2 x14_1).f0) != 3) = false := bne_eq_false_iff_eq.mpr c23
                          clear c23
                          by_cases c24 : ((rd_T62 l2 x14_1).f1) > 65536
                          · rw [if_pos c24] at H
                            have c24b0 : decide (65536 < ((rd_T62 l2 x14_1).f1)) = true := decide_eq_true c24
                            clear c24
                            obtain rfl := Option.some.inj H
                            have p178 : 0 ≤ (x14_1 : Int) := of_decide_eq_true (by first | (with_reducible assumption) | assumption)
                            have q178 : x14_1 < (l2.length : Int) := of_decide_eq_true (by first | (with_reducible assumption) | assumption)
                            obtain ⟨ad178, e178, hx178_0, hx178_1⟩ := at_T62 HR2.out x14_1 p178 q178
                            obtain rfl : ad170 = ad178 := (by injection e178)
                            replace hx178_0 := (HB.out.cell (World.block_lt_of_cell? w _ hx178_0)).trans hx178_0
                            replace hx178_1 := (HB.out.cell (World.block_lt_of_cell? w _ hx178_1)).trans hx178_1
                            replace p178 := eq_true p178
                            replace q178 := eq_true q178
                            go_wp2
                            go_ret
                            exact ⟨by first | rfl | (simp [errW_none, errW_some] <;> rfl) | (simp [*, errW_none, errW_some] <;> rfl), by repeat (first | (with_reducible first | exact HB.out | apply below_alloc | apply pw_below_drewN | apply below_drew1 | refine below_set ?_ GE169.out) | exact HB.out)⟩
                          · rw [if_neg c24] at H
                            have c24b0 : decide (65536 < ((rd_T62 l2 x14_1).f1)) = false := decide_eq_false c24
                            clear c24
                            replace H := Option.bind_eq_some_iff.mp H
                            obtain ⟨⟨t180, t181, t182⟩, A250, H⟩ := H
                            replace H : (joustlaw08_BucketBound.j2 kj8 l2 t166 t167 x11_1 x12_1 x13_1 x14_1 0 (wrap64 ((rd_T62 l2 x14_1).f1)) t180 t181 t182) = some r := H
                            have A25 := Aside0.mk A250
                            clear A250
                            have H' := Aside0.mk H
                            clear H
                            have p178 : 0 ≤ (x14_1 : Int) := of_decide_eq_true (by first | (with_reducible assumption) | assumption)
                            have q178 : x14_1 < (l2.length : Int) := of_decide_eq_true (by first | (with_reducible assumption) | assumption)
                            obtain ⟨ad178, e178, hx178_0, hx178_1⟩ := at_T62 HR2.out x14_1 p178 q178
                            obtain rfl : ad170 = ad178 := (by injection e178)
                            replace hx178_0 := (HB.out.cell (World.block_lt_of_cell? w _ hx178_0)).trans hx178_0
                            replace hx178_1 := (HB.out.cell (World.block_lt_of_cell? w _ hx178_1)).trans hx178_1
                            replace p178 := eq_true p178
                            replace q178 := eq_true q178
                            have p179 : 0 ≤ (x14_1 : Int) := of_decide_eq_true (by first | (with_reducible assumption) | assumption)
                            have q179 : x14_1 < (l2.length : Int) := of_decide_eq_true (by first | (with_reducible assumption) | assumption)
                            obtain ⟨ad179, e179, hx179_0, hx179_1⟩ := at_T62 HR2.out x14_1 p179 q179
                            obtain rfl : ad170 = ad179 := (by injection e179)
                            replace hx179_0 := (HB.out.cell (World.block_lt_of_cell? w _ hx179_0)).trans hx179_0
                            replace hx179_1 := (HB.out.cell (World.block_lt_of_cell? w _ hx179_1)).trans hx179_1
                            replace p179 := eq_true p179
                            replace q179 := eq_true q179
                            go_wp2_with (first | ((with_reducible refine gate_callee (f := 28) rfl ?_); refine goesL_ (some 65) rfl rfl Try.func28 (by kernel_rfl) rfl #[.pointer (some ⟨gb169, 0, none⟩), .int .u64 ((rd_T62 l2 x14_1).f1)] rfl (by (try simp only [List.map_toArray, List.map_cons, List.map_nil]); first | done | rfl | (simp only [List.length_drop, List.length_take]; rfl)) ?_; (with_reducible refine (bucket_Bucket_Ticks.calls gb169 x170000_1 x170001_1 x170002_1 ((rd_T62 l2 x14_1).f1) t180 t181 t182 w _ ?side1 ?side2 A25.out).mono ?_); (case side1 => repeat (first | (with_reducible first | exact (Aside0.mk (IsS52.mk_ BK169.out GE169.out)).out | apply IsS52.alloc | apply IsS52.drewN | apply IsS52.drew | apply IsS52.set_0 | apply IsS52.set_1 | apply IsS52.set_2) | exact (Aside0.mk (IsS52.mk_ BK169.out GE169.out)).out)); (case side2 => repeat (first | (with_reducible first | exact HB.out | apply below_alloc | apply pw_below_drewN | apply below_drew1 | refine below_set ?_ (IsS52.ge (Aside0.mk (IsS52.mk_ BK169.out GE169.out)).out)) | exact HB.out)); rintro e w26 ⟨rfl, hi, hb, hk⟩; refine ⟨_, rfl, ?_⟩; have n0_ := Aside0.mk (Kd.R_mono (Kd.R_keep (IsS52.apart (show IsS52 w _ gb169 x170000_1 x170001_1 x170002_1 from by repeat (first | (with_reducible first | exact (Aside0.mk (IsS52.mk_ BK169.out GE169.out)).out | apply IsS52.alloc | apply IsS52.drewN | apply IsS52.drew | apply IsS52.set_0 | apply IsS52.set_1 | apply IsS52.set_2) | exact (Aside0.mk (IsS52.mk_ BK169.out GE169.out)).out)) (by (with_reducible repeat (first | apply Kd.R_alloc | apply Kd.R_drewN | apply Kd.R_drew)); exact HO_11.out) (by decide)) hk (fun _ h => h.2)) (fun _ h => h.1)); have n1_ := Aside0.mk (Kd.R_mono (Kd.R_keep (IsS52.apart (show IsS52 w _ gb169 x170000_1 x170001_1 x170002_1 from by repeat (first | (with_reducible first | exact (Aside0.mk (IsS52.mk_ BK169.out GE169.out)).out | apply IsS52.alloc | apply IsS52.drewN | apply IsS52.drew | apply IsS52.set_0 | apply IsS52.set_1 | apply IsS52.set_2) | exact (Aside0.mk (IsS52.mk_ BK169.out GE169.out)).out)) (by (with_reducible repeat (first | apply Kd.R_alloc | apply Kd.R_drewN | apply Kd.R_drew)); exact HO_12.out) (by decide)) hk (fun _ h => h.2)) (fun _ h => h.1)); have n2_ := Aside0.mk (hb); have n3_ := Aside0.mk (hi.1); clear HO_11; clear HO_12; clear HB; clear BK169; have HO_11 := n0_; have HO_12 := n1_; have HB := n2_; have BK169 := n3_; clear n0_ n1_ n2_ n3_; (try clear hb); (try clear hb2); (try clear hk); (try clear hi); have p183 : 0 ≤ (x14_1 : Int) := of_decide_eq_true (by first | (with_reducible assumption) | assumption); have q183 : x14_1 < (l2.length : Int) := of_decide_eq_true (by first | (with_reducible assumption) | assumption); obtain ⟨ad183, e183, hx183_0, hx183_1⟩ := at_T62 HR2.out x14_1 p183 q183; obtain rfl : ad170 = ad183 := (by injection e183); replace hx183_0 := (HB.out.cell (World.block_lt_of_cell? w _ hx183_0)).trans hx183_0; replace hx183_1 := (HB.out.cell (World.block_lt_of_cell? w _ hx183_1)).trans hx183_1; replace p183 := eq_true p183; replace q183 := eq_true q183))
                            go_meet
                            case rel => exact ⟨_, (0), (wrap64 ((rd_T62 l2 x14_1).f1)), (t180), (t181), (t182), (by first | rfl | (simp; done) | (simp [*]; done)), (by first | rfl | (simp; done) | (simp [*]; done)), H', ⟨by have := HK1.out; have := HJ8.out; first | omega | exact Nat.le_refl _⟩, ⟨by (with_reducible repeat (first | apply Kd.R_alloc | apply Kd.R_drewN | apply Kd.R_drew)); exact HO_11.out⟩, ⟨by (with_reducible repeat (first | apply Kd.R_alloc | apply Kd.R_drewN | apply Kd.R_drew)); exact HO_12.out⟩, ⟨by (with_reducible repeat (first | refine blk_drewN ?_ _ | refine blk_drew ?_ | refine blk_alloc ?_ _)); exact BK169.out⟩, ⟨by repeat (first | (with_reducible first | exact HB.out | apply below_alloc | apply pw_below_drewN | apply below_drew1 | refine below_set ?_ GE169.out) | exact HB.out)⟩⟩
                        · rw [if_neg c23] at H
                          have c23b0 : (((rd_T62 l2 x14_1).f0) == 3) = false := beq_eq_false_iff_ne.mpr c23
                          have c23b1 : (((rd_T62 l2 x14_1).f0) != 3) = true := bne_iff_ne.mpr c23
                          have H' := Aside0.mk H
                          clear H
                          go_wp2
                          go_meet
                          case rel => exact ⟨_, (0), (0), (x170000_1), (x170001_1), (x170002_1), (by first | rfl | (simp; done) | (simp [*]; done)), (by first | rfl | (simp; done) | (simp [*]; done)), H', ⟨by have := HK1.out; have := HJ8.out; first | omega | exact Nat.le_refl _⟩, ⟨by (with_reducible repeat (first | apply Kd.R_alloc | apply Kd.R_drewN | apply Kd.R_drew)); exact HO_11.out⟩, ⟨by (with_reducible repeat (first | apply Kd.R_alloc | apply Kd.R_drewN | apply Kd.R_drew)); exact HO_12.out⟩, ⟨by (with_reducible repeat (first | refine blk_drewN ?_ _ | refine blk_drew ?_ | refine blk_alloc ?_ _)); exact BK169.out⟩, ⟨by repeat (first | (with_reducible first | exact HB.out | apply below_alloc | apply pw_below_drewN | apply below_drew1 | refine below_set ?_ GE169.out) | exact HB.out)⟩⟩
                  case rest =>
                    clear HC14
                    try clear c1
                    try clear p1
                    try clear q1
                    try clear hx1
                    try clear c2
                    try clear p2
                    try clear c3
                    try clear c5
                    try clear p6
                    try clear c8
                    try clear c10
                    try clear c10b0
                    try clear c11
                    try clear c12
                    try clear c12b0
                    try clear c13
                    try clear c13b0
                    try clear c15
                    try clear c15b0
                    try clear c15b1
                    try clear c17
                    try clear c17b0
                    try clear c17b1
                    try clear p17
                    try clear q17
                    try clear hx17
                    try clear p18
                    try clear q18
                    try clear hx18
                    try clear c20
                    try clear c20b0
                    try clear c20b1
                    try clear c23
                    try clear c23b0
                    try clear c23b1
                    try clear c24
                    try clear c24b0
                    try clear c26
                    try clear hcz8_0
                    try clear hcz8_1
                    try clear hcz8_2
                    try clear hfz8_0
                    try clear hfz8_1
                    try clear hfz8_2
                    try clear hx170_0
                    try clear hx170_1
                    try clear hx178_0
                    try clear hx178_1
                    try clear hx179_0
                    try clear hx179_1
                    try clear hx183_0
                    try clear hx183_1
                    try clear p170
                    try clear p178
                    try clear p179
                    try clear p183
                    try clear p2
                    try clear q170
                    try clear q178
                    try clear q179
                    try clear q183
                    obtain ⟨kq, x15_13, x16_13, x170000_13, x170001_13, x170002_13, rfl, rfl, HA, HJ13, HO_11, HO_12, BK169, HB⟩ := hcut
                    cases kq with
                    | zero => exact absurd HA.out (by simp [joustlaw08_BucketBound.j2])
                    | succ kj13 =>
                      have H := HA.out
                      clear HA
                      simp only [joustlaw08_BucketBound.j2] at H
                      by_cases c27 : x11_1.length < 17592186044416
                      · rw [if_pos c27] at H
                        have LMc27 := Aside0.mk c27
                        clear c27
                        obtain ⟨y184, hy184⟩ : ∃ y_ : List Int, y_ = (x11_1 ++ [x15_13]) := ⟨_, rfl⟩
                        replace H : (if x12_1.length < 17592186044416 then (joustlaw08_BucketBound.l1 kj13 l2 t166 t167 y184 (x12_1 ++ [x16_13]) (wrap64 (x13_1 + x15_13)) x14_1 0 0 x14_1 x170000_13 x170001_13 x170002_13) else (none)) = some r := by first | (rw [hy184]; with_reducible exact H) | (have H2_ := (Option.bind_some _ _).symm.trans H; rw [hy184]; with_reducible exact H2_) | (have H2_ := (Option.bind_some _ _).symm.trans H; with_reducible exact H2_) | with_reducible exact H | (rw [hy184]; exact H) | exact H
                        have Ny184 := Aside0.mk hy184
                        clear hy184
                        by_cases c28 : x12_1.length < 17592186044416
                        · rw [if_pos c28] at H
                          have LMc28 := Aside0.mk c28
                          clear c28
                          obtain ⟨y187, hy187⟩ : ∃ y_ : List Int, y_ = (x12_1 ++ [x16_13]) := ⟨_, rfl⟩
                          replace H : (joustlaw08_BucketBound.l1 kj13 l2 t166 t167 y184 y187 (wrap64 (x13_1 + x15_13)) x14_1 0 0 x14_1 x170000_13 x170001_13 x170002_13) = some r := by first | (rw [hy187]; with_reducible exact H) | (have H2_ := (Option.bind_some _ _).symm.trans H; rw [hy187]; with_reducible exact H2_) | (have H2_ := (Option.bind_some _ _).symm.trans H; with_reducible exact H2_) | with_reducible exact H | (rw [hy187]; exact H) | exact H
                          have Ny187 := Aside0.mk hy187
                          clear hy187
                          have H' := Aside0.mk H
                          clear H
                          go_wp2_with (first | ((with_reducible refine gate_builtin (b := .append) (xs := #[.tmp 75, .tmp 77]) rfl ?_); at_builtin; refine Kd.R_append (Kd.int .i64) (w0 := w) w.heap.size rfl (.tmp 75) (.tmp 77) 73 3 (.int .i64 0) 8 rfl Try.underlying73 info3 rfl (by decide) (by omega) u11 x11_1 x15_13 [.int .i64 x15_13] (fun k_ => some k_ ≠ (u12 : Value).ownBlock) (fun _ => False) rfl rfl ?aP (fun _ hk => hk.elim) ?aF ?aO ?aB ?aS ?aL ?_; (case aP => exact rfl); (case aB => exact (by repeat (first | (with_reducible first | exact HB.out | apply below_alloc | apply pw_below_drewN | apply below_drew1 | refine below_set ?_ GE169.out) | exact HB.out))); (case aF => exact (fun k_ hk => Kd.fresh' (Kd.R_lt (by (with_reducible repeat (first | apply Kd.R_alloc | apply Kd.R_drewN | apply Kd.R_drew)); exact HO_12.out)) k_ hk)); (case aO => exact (by (with_reducible repeat (first | apply Kd.R_alloc | apply Kd.R_drewN | apply Kd.R_drew)); exact HO_11.out)); (case aS => exact (below_size (by repeat (first | (with_reducible first | exact HB.out | apply below_alloc | apply pw_below_drewN | apply below_drew1 | refine below_set ?_ GE169.out) | exact HB.out)))); (case aL => have := LMc27.out; omega); intro v185 w29 ho hb hg hat; rw [← Ny184.out] at ho; have n0_ := Aside0.mk (Kd.R_after (ok := (fun _ => True)) (by (with_reducible repeat (first | apply Kd.R_alloc | apply Kd.R_drewN | apply Kd.R_drew)); exact Kd.R_mono HO_12.out (fun _ hk => ⟨trivial, hk⟩)) hg hat); have n1_ := Aside0.mk (blk_grown (g := gb169) (o := .cells #[.int .i64 x170000_13, .int .i64 x170001_13, .int .i64 x170002_13] 52 (0, 0)) (by (with_reducible repeat (first | refine blk_drewN ?_ _ | refine blk_drew ?_ | refine blk_alloc ?_ _)); exact BK169.out) hg (Kd.R_ne HO_11.out BK169.out (by decide))); have n2_ := Aside0.mk (hb); have n3_ := Aside0.mk (ho); clear HO_12; clear BK169; clear HB; clear HO_11; have HO_12 := n0_; have BK169 := n1_; have HB := n2_; have HO186 := n3_; clear n0_ n1_ n2_ n3_; clear ho hb hg hat) | ((with_reducible refine gate_builtin (b := .append) (xs := #[.tmp 79, .tmp 81]) rfl ?_); at_builtin; refine Kd.R_append (Kd.int .i64) (w0 := w) w.heap.size rfl (.tmp 79) (.tmp 81) 73 3 (.int .i64 0) 8 rfl Try.underlying73 info3 rfl (by decide) (by omega) u12 x12_1 x16_13 [.int .i64 x16_13] (fun k_ => some k_ ≠ (v185 : Value).ownBlock) (fun _ => False) rfl rfl ?aP (fun _ hk => hk.elim) ?aF ?aO ?aB ?aS ?aL ?_; (case aP => exact rfl); (case aB => exact (by repeat (first | (with_reducible first | exact HB.out | apply below_alloc | apply pw_below_drewN | apply below_drew1 | refine below_set ?_ GE169.out) | exact HB.out))); (case aF => exact (fun k_ hk => Kd.fresh' (Kd.R_lt (by (with_reducible repeat (first | apply Kd.R_alloc | apply Kd.R_drewN | apply Kd.R_drew)); exact HO186.out)) k_ hk)); (case aO => exact (by (with_reducible repeat (first | apply Kd.R_alloc | apply Kd.R_drewN | apply Kd.R_drew)); exact Kd.R_mono HO_12.out (fun _ hk => hk.2))); (case aS => exact (below_size (by repeat (first | (with_reducible first | exact HB.out | apply below_alloc | apply pw_below_drewN | apply below_drew1 | refine below_set ?_ GE169.out) | exact HB.out)))); (case aL => have := LMc28.out; omega); intro v188 w30 ho hb hg hat; rw [← Ny187.out] at ho; have n0_ := Aside0.mk (blk_grown (g := gb169) (o := .cells #[.int .i64 x170000_13, .int .i64 x170001_13, .int .i64 x170002_13] 52 (0, 0)) (by (with_reducible repeat (first | refine blk_drewN ?_ _ | refine blk_drew ?_ | refine blk_alloc ?_ _)); exact BK169.out) hg (Kd.R_ne HO_12.out BK169.out (by decide))); have n1_ := Aside0.mk (Kd.R_after (ok := (fun _ => True)) (by (with_reducible repeat (first | apply Kd.R_alloc | apply Kd.R_drewN | apply Kd.R_drew)); exact Kd.R_mono HO186.out (fun _ hk => ⟨trivial, hk⟩)) hg hat); have n2_ := Aside0.mk (hb); have n3_ := Aside0.mk (ho); clear BK169; clear HO186; clear HB; clear HO_12; have BK169 := n0_; have HO186 := n1_; have HB := n2_; have HO189 := n3_; clear n0_ n1_ n2_ n3_; clear ho hb hg hat))
                          go_loopg [17, 18, 19] kj13 (fun kq v17 v18 v19 w' => ∃ (x17_4 : Int) (x18_4 : Int) (x19_4 : Int), v17 = .int .i64 x17_4 ∧ v18 = .int .i64 x18_4 ∧ v19 = .int .i64 x19_4 ∧ Aside0 (joustlaw08_BucketBound.l1 kq l2 t166 t167 y184 y187 (wrap64 (x13_1 + x15_13)) x14_1 x17_4 x18_4 x19_4 x170000_13 x170001_13 x170002_13 = some r) ∧ Aside0 (kq ≤ kj13) ∧ Aside0 (Kd.R (Kd.int .i64) 3 w' w.heap.size (fun k_ => some k_ ≠ (v188 : Value).ownBlock) v185 y184) ∧ Aside0 (Kd.R (Kd.int .i64) 3 w' w.heap.size (fun k_ => some k_ ≠ (v185 : Value).ownBlock) v188 y187) ∧ Aside0 (w'.heap[gb169]? = some (.cells #[.int .i64 x170000_13, .int .i64 x170001_13, .int .i64 x170002_13] 52 (0, 0))) ∧ Aside0 (Below w.heap.size w w'))
                          case atStart => exact ⟨(0), (0), (x14_1), (by first | rfl | (simp; done) | (simp [*]; done)), (by first | rfl | (simp; done) | (simp [*]; done)), (by first | rfl | (simp; done) | (simp [*]; done)), H', ⟨Nat.le_refl _⟩, ⟨by (with_reducible repeat (first | apply Kd.R_alloc | apply Kd.R_drewN | apply Kd.R_drew)); exact Kd.R_mono HO186.out (fun _ hk => hk.2)⟩, ⟨by (with_reducible repeat (first | apply Kd.R_alloc | apply Kd.R_drewN | apply Kd.R_drew)); exact HO189.out⟩, ⟨by (with_reducible repeat (first | refine blk_drewN ?_ _ | refine blk_drew ?_ | refine blk_alloc ?_ _)); exact BK169.out⟩, ⟨by repeat (first | (with_reducible first | exact HB.out | apply below_alloc | apply pw_below_drewN | apply below_drew1 | refine below_set ?_ GE169.out) | exact HB.out)⟩⟩
                          case round =>
                            clear H'
                            try clear c1
                            try clear p1
                            try clear q1
                            try clear hx1
                            try clear c2
                            try clear p2
                            try clear c3
                            try clear c5
                            try clear p6
                            try clear c8
                            try clear c10
                            try clear c10b0
                            try clear c11
                            try clear c12
                            try clear c12b0
                            try clear c13
                            try clear c13b0
                            try clear c15
                            try clear c15b0
                            try clear c15b1
                            try clear c17
                            try clear c17b0
                            try clear c17b1
                            try clear p17
                            try clear q17
                            try clear hx17
                            try clear p18
                            try clear q18
                            try clear hx18
                            try clear c20
                            try clear c20b0
                            try clear c20b1
                            try clear c23
                            try clear c23b0
                            try clear c23b1
                            try clear c24
                            try clear c24b0
                            try clear c26
                            try clear c27
                            try clear c28
                            try clear hcz8_0
                            try clear hcz8_1
                            try clear hcz8_2
                            try clear hfz8_0
                            try clear hfz8_1
                            try clear hfz8_2
                            try clear hx170_0
                            try clear hx170_1
                            try clear hx178_0
                            try clear hx178_1
                            try clear hx179_0
                            try clear hx179_1
                            try clear hx183_0
                            try clear hx183_1
                            try clear p1
                            try clear p17
                            try clear p170
                            try clear p178
                            try clear p179
                            try clear p18
                            try clear p183
                            try clear p2
                            try clear p6
                            try clear q1
                            try clear q17
                            try clear q170
                            try clear q178
                            try clear q179
                            try clear q18
                            try clear q183
                            obtain ⟨x17_4, x18_4, x19_4, rfl, rfl, rfl, HA, HK4, HO_11, HO_12, BK169, HB⟩ := hrel
                            cases gk with
                            | zero => exact absurd HA.out (by simp [joustlaw08_BucketBound.l1])
                            | succ k4 =>
                              have H := HA.out
                              clear HA
                              simp only [joustlaw08_BucketBound.l1] at H
                              by_cases c31 : x19_4 ≥ 0
                              · rw [if_pos c31] at H
                                have c31b0 : decide (0 ≤ x19_4) = true := decide_eq_true c31
                                clear c31
                                by_cases c32 : 0 ≤ x19_4
                                · rw [if_pos c32] at H
                                  have c32b0 : decide (0 ≤ x19_4) = true := decide_eq_true c32
                                  clear c32
                                  by_cases c33 : x19_4 < (y184.length : Int)
                                  · rw [if_pos c33] at H
                                    have c33b0 : decide (x19_4 < (y184.length : Int)) = true := decide_eq_true c33
                                    clear c33
                                    by_cases c34 : x19_4 < (y187.length : Int)
                                    · rw [if_pos c34] at H
                                      have c34b0 : decide (x19_4 < (y187.length : Int)) = true := decide_eq_true c34
                                      clear c34
                                      by_cases c35 : (wrap64 (x17_4 + (rd y184 x19_4))) > (wrap64 (Int.tdiv (wrap64 ((wrap64 (16 * t167)) + (wrap64 (t166 * (wrap64 (x18_4 + (rd y187 x19_4))))))) 16))
                                      · rw [if_pos c35] at H
                                        have c35b0 : decide ((wrap64 (Int.tdiv (wrap64 ((wrap64 (16 * t167)) + (wrap64 (t166 * (wrap64 (x18_4 + (rd y187 x19_4))))))) 16)) < (wrap64 (x17_4 + (rd y184 x19_4)))) = true := decide_eq_true c35
                                        clear c35
                                        obtain rfl := Option.some.inj H
                                        obtain ⟨Ao36, co36, eo36⟩ := Kd.R_slice HO_11.out
                                        subst eo36
                                        have p190 : 0 ≤ (x19_4 : Int) := of_decide_eq_true (by first | (with_reducible assumption) | assumption)
                                        have q190 : x19_4 < (y184.length : Int) := of_decide_eq_true (by first | (with_reducible assumption) | assumption)
                                        obtain ⟨ad190, e190, hx190_0⟩ := Kd.at_int (Kd.R_reads' HO_11.out).2.2 x19_4 p190 q190
                                        cases e190
                                        replace p190 := eq_true p190
                                        replace q190 := eq_true q190
                                        obtain ⟨Ao37, co37, eo37⟩ := Kd.R_slice HO_12.out
                                        subst eo37
                                        have p191 : 0 ≤ (x19_4 : Int) := of_decide_eq_true (by first | (with_reducible assumption) | assumption)
                                        have q191 : x19_4 < (y187.length : Int) := of_decide_eq_true (by first | (with_reducible assumption) | assumption)
                                        obtain ⟨ad191, e191, hx191_0⟩ := Kd.at_int (Kd.R_reads' HO_12.out).2.2 x19_4 p191 q191
                                        cases e191
                                        replace p191 := eq_true p191
                                        replace q191 := eq_true q191
                                        go_wp2
                                        go_ret
                                        exact ⟨by first | rfl | (simp [errW_none, errW_some] <;> rfl) | (simp [*, errW_none, errW_some] <;> rfl), by repeat (first | (with_reducible first | exact HB.out | apply below_alloc | apply pw_below_drewN | apply below_drew1 | refine below_set ?_ GE169.out) | exact HB.out)⟩
                                      · rw [if_neg c35] at H
                                        have c35b0 : decide ((wrap64 (Int.tdiv (wrap64 ((wrap64 (16 * t167)) + (wrap64 (t166 * (wrap64 (x18_4 + (rd y187 x19_4))))))) 16)) < (wrap64 (x17_4 + (rd y184 x19_4)))) = false := decide_eq_false c35
                                        clear c35
                                        have H' := Aside0.mk H
                                        clear H
                                        obtain ⟨Ao38, co38, eo38⟩ := Kd.R_slice HO_11.out
                                        subst eo38
                                        have p190 : 0 ≤ (x19_4 : Int) := of_decide_eq_true (by first | (with_reducible assumption) | assumption)
                                        have q190 : x19_4 < (y184.length : Int) := of_decide_eq_true (by first | (with_reducible assumption) | assumption)
                                        obtain ⟨ad190, e190, hx190_0⟩ := Kd.at_int (Kd.R_reads' HO_11.out).2.2 x19_4 p190 q190
                                        cases e190
                                        replace p190 := eq_true p190
                                        replace q190 := eq_true q190
                                        obtain ⟨Ao39, co39, eo39⟩ := Kd.R_slice HO_12.out
                                        subst eo39
                                        have p191 : 0 ≤ (x19_4 : Int) := of_decide_eq_true (by first | (with_reducible assumption) | assumption)
                                        have q191 : x19_4 < (y187.length : Int) := of_decide_eq_true (by first | (with_reducible assumption) | assumption)
                                        obtain ⟨ad191, e191, hx191_0⟩ := Kd.at_int (Kd.R_reads' HO_12.out).2.2 x19_4 p191 q191
                                        cases e191
                                        replace p191 := eq_true p191
                                        replace q191 := eq_true q191
                                        go_wp2
                                        go_roundg k4
                                        case measure => have := HK1.out; have := HJ8.out; have := HJ13.out; have := HK4.out; omega
                                        case rel => exact ⟨(wrap64 (x17_4 + (rd y184 x19_4))), (wrap64 (x18_4 + (rd y187 x19_4))), (wrap64 (x19_4 - 1)), (by first | rfl | (simp; done) | (simp [*]; done)), (by first | rfl | (simp; done) | (simp [*]; done)), (by first | rfl | (simp; done) | (simp [*]; done)), H', ⟨by have := HK1.out; have := HJ8.out; have := HJ13.out; have := HK4.out; omega⟩, ⟨by (with_reducible repeat (first | apply Kd.R_alloc | apply Kd.R_drewN | apply Kd.R_drew)); exact HO_11.out⟩, ⟨by (with_reducible repeat (first | apply Kd.R_alloc | apply Kd.R_drewN | apply Kd.R_drew)); exact HO_12.out⟩, ⟨by (with_reducible repeat (first | refine blk_drewN ?_ _ | refine blk_drew ?_ | refine blk_alloc ?_ _)); exact BK169.out⟩, ⟨by repeat (first | (with_reducible first | exact HB.out | apply below_alloc | apply pw_below_drewN | apply below_drew1 | refine below_set ?_ GE169.out) | exact HB.out)⟩⟩
                                    · rw [if_neg c34] at H
                                      exact absurd H (by simp)
                                  · rw [if_neg c33] at H
                                    exact absurd H (by simp)
                                · rw [if_neg c32] at H
                                  exact absurd H (by simp)
                              · rw [if_neg c31] at H
                                have c31b0 : decide (0 ≤ x19_4) = false := decide_eq_false c31
                                clear c31
                                have H' := Aside0.mk H
                                clear H
                                go_wp2
                                go_roundg k4
                                case measure => have := HK1.out; have := HJ8.out; have := HJ13.out; have := HK4.out; omega
                                case rel => exact ⟨(y184), (y187), ((wrap64 (x13_1 + x15_13))), (wrap64 (x14_1 + 1)), (x170000_13), (x170001_13), (x170002_13), (by first | rfl | (simp; done) | (simp [*]; done)), (by first | rfl | (simp; done) | (simp [*]; done)), H', ⟨by have := HK1.out; have := HJ8.out; have := HJ13.out; have := HK4.out; omega⟩, ⟨by (with_reducible repeat (first | apply Kd.R_alloc | apply Kd.R_drewN | apply Kd.R_drew)); exact HO_11.out⟩, ⟨by (with_reducible repeat (first | apply Kd.R_alloc | apply Kd.R_drewN | apply Kd.R_drew)); exact HO_12.out⟩, ⟨by (with_reducible repeat (first | refine blk_drewN ?_ _ | refine blk_drew ?_ | refine blk_alloc ?_ _)); exact BK169.out⟩, ⟨by repeat (first | (with_reducible first | exact HB.out | apply below_alloc | apply pw_below_drewN | apply below_drew1 | refine below_set ?_ GE169.out) | exact HB.out)⟩⟩
                        · rw [if_neg c28] at H
                          exact absurd H (by simp)
                      · rw [if_neg c27] at H
                        exact absurd H (by simp)
                · rw [if_neg c13] at H
                  exact absurd H (by simp)
              · rw [if_neg c12] at H
                exact absurd H (by simp)
            · replace c11 := Bool.eq_false_iff.mpr c11
              subst c11
              have H1 : (some (decide (x13_1 ≤ (l2.length : Int)))) = some r := by rw [if_neg (show ¬ (false = true) by decide)] at H; exact H
              clear H
              have H := H1
              clear H1
              obtain rfl := Option.some.inj H
              go_wp2
              go_ret
              exact ⟨by first | rfl | (simp [errW_none, errW_some] <;> rfl) | (simp [*, errW_none, errW_some] <;> rfl), by repeat (first | (with_reducible first | exact HB.out | apply below_alloc | apply pw_below_drewN | apply below_drew1 | refine below_set ?_ GE169.out) | exact HB.out)⟩
  · replace c5 := Bool.eq_false_iff.mpr c5
    subst c5
    have H1 : (some false) = some r := by rw [if_neg (show ¬ (false = true) by decide)] at H; exact H
    clear H
    have H := H1
    clear H1
    obtain rfl := Option.some.inj H
    go_enter Try.func8, Try.ntmps8
    go_wp2_with (first | ((with_reducible refine gate_callee (f := 32) rfl ?_); refine goesL_ (some 23) rfl rfl Try.func32 (by kernel_rfl) rfl #[.int .i64 a0, .int .i64 a1] rfl (by (try simp only [List.map_toArray, List.map_cons, List.map_nil]); first | done | rfl | (simp only [List.length_drop, List.length_take]; rfl)) ?_; (with_reducible refine (joustlaw08_full.calls k a0 a1 t163 t164 t165 t166 t167 false _ A4.out).mono ?_); rintro e w40 ⟨rfl, hb⟩; refine ⟨_, rfl, ?_⟩; have n0_ := Aside0.mk (below_step (by repeat (first | (with_reducible first | exact HB.out | apply below_alloc | apply pw_below_drewN | apply below_drew1) | exact HB.out)) hb); clear HB; have HB := n0_; clear n0_; (try clear hb); (try clear hb2); (try clear hk); (try clear hi)) | ((with_reducible refine gate_dst (N := 7) rfl ?_); refine box_event ?hg (N := 7) ?hd (cs := #[.int .i64 0, .int .i64 0, .int .i64 0]) (t := 52) ?hr ?_; (case hd => rfl); (case hg => rfl); (case hr => first | (go_simp; done) | (go_simp; rfl)); intro gb169 hg w41 hbox hb; have n0_ := Aside0.mk (below_step (by repeat (first | (with_reducible first | exact HB.out | apply below_alloc | apply pw_below_drewN | apply below_drew1) | exact HB.out)) hb); have n1_ := Aside0.mk (hbox); have n2_ := Aside0.mk ((by rw [hg]; exact (below_size (by repeat (first | (with_reducible first | exact HB.out | apply below_alloc | apply pw_below_drewN | apply below_drew1) | exact HB.out))) : w.heap.size ≤ gb169)); have n3_ := Aside0.mk ((by rw [hg]; exact (below_size (by repeat (first | (with_reducible first | exact HB.out | apply below_alloc | apply pw_below_drewN | apply below_drew1) | exact HB.out))) : w.heap.size ≤ gb169)); clear HB; have HB := n0_; have BK169 := n1_; have GW169 := n2_; have GE169 := n3_; clear n0_ n1_ n2_ n3_; clear hb hbox hg; have hcz42_0 : w41.cell? ⟨gb169, 0, none⟩ = some (.int .i64 0) := (blk_cell BK169.out 0).trans rfl; have hcz42_1 : w41.cell? ⟨gb169, 1, none⟩ = some (.int .i64 0) := (blk_cell BK169.out 1).trans rfl; have hcz42_2 : w41.cell? ⟨gb169, 2, none⟩ = some (.int .i64 0) := (blk_cell BK169.out 2).trans rfl; have hfz42_0 := blk_frozen BK169.out 0; have hfz42_1 := blk_frozen BK169.out 1; have hfz42_2 := blk_frozen BK169.out 2))
    go_ret
    exact ⟨by first | rfl | (simp [errW_none, errW_some] <;> rfl) | (simp [*, errW_none, errW_some] <;> rfl), by repeat (first | (with_reducible first | exact HB.out | apply below_alloc | apply pw_below_drewN | apply below_drew1 | refine below_set ?_ GE169.out) | exact HB.out)⟩

end Go.Proofs.Ytidjnpfpbbffjaa.PBucketBound
