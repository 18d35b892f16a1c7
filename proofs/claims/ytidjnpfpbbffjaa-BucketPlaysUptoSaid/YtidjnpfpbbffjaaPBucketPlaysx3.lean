-- Printed by a program of this session, a changed copy of the print
import Derived.Test.YtidjnpfpbbffjaaPBucketPlaysx0
import Derived.Test.YtidjnpfpbbffjaaPBucketPlaysx1
import Derived.Test.YtidjnpfpbbffjaaPBucketPlaysx2
namespace Go.Proofs.Ytidjnpfpbbffjaa.PBucketPlays
open Go.RowKit Go.Proofs.YtidjnpfpbbffjaaW.PrintWords Go.Proofs.YtidjnpfpbbffjaaW.PrintLast Go.Proofs.YtidjnpfpbbffjaaW.PrintMore
attribute [local go_sem] max2_int min2_int max_two min_two max_three min_three max_four min_four   -- for this text's walks alone
set_option linter.unusedVariables false
set_option linter.unusedSimpArgs false

/-! ### joustlaw08_BucketPlays: function 7 -/
mutual
def joustlaw08_BucketPlays.l0 : Nat → List (S62) → List (S52) → List (S56) → Int → Int → Int → Int → Int → Int → Int → Option (Bool)
  | 0, _, _, _, _, _, _, _, _, _, _ => none
  | k + 1, x2, x11, x12, x13, x167000, x167001, x167002, x172000, x172001, x172002 => if x13 < (x2.length : Int) then (if 0 ≤ x13 then (if ((rd_T62 x2 x13).f0) = 1 then ((bucket_Bucket_Take.f x167000 x167001 x167002).bind fun bt174 => ((joustref08_Take.f x172000 x172001 x172002).bind fun bt178 => (if bt174.1 = bt178.2.2.2 then (joustlaw08_BucketPlays.j1 k x2 x11 x12 x13 bt174.2.1 bt174.2.2.1 bt174.2.2.2 bt178.1 bt178.2.1 bt178.2.2.1) else (some false)))) else (if ((rd_T62 x2 x13).f0) = 2 then ((bucket_Bucket_Tick.f x167000 x167001 x167002).bind fun bt183 => ((joustref08_Tick.f x172000 x172001 x172002).bind fun bt186 => (joustlaw08_BucketPlays.j1 k x2 x11 x12 x13 bt183.1 bt183.2.1 bt183.2.2 bt186.1 bt186.2.1 bt186.2.2))) else (if ((rd_T62 x2 x13).f0) = 3 then ((bucket_Bucket_Ticks.f x167000 x167001 x167002 ((rd_T62 x2 x13).f1)).bind fun bt189 => ((joustref08_Ticks.f k x172000 x172001 x172002 ((rd_T62 x2 x13).f1)).bind fun bt192 => (joustlaw08_BucketPlays.j1 k x2 x11 x12 x13 bt189.1 bt189.2.1 bt189.2.2 bt192.1 bt192.2.1 bt192.2.2))) else (if ((rd_T62 x2 x13).f0) = 4 then (if x11.length < 5864062014805 then (if x12.length < 5864062014805 then (joustlaw08_BucketPlays.j1 k x2 (x11 ++ [(⟨x167000, x167001, x167002⟩ : S52)]) (x12 ++ [(⟨x172000, x172001, x172002⟩ : S56)]) x13 x167000 x167001 x167002 x172000 x172001 x172002) else (none)) else (none)) else (if ((rd_T62 x2 x13).f0) = 5 then (if (x11.length : Int) > 0 then (if 0 ≤ (wrap64 ((x11.length : Int) - 1)) then (if (wrap64 ((x11.length : Int) - 1)) < (x11.length : Int) then (if (wrap64 ((x11.length : Int) - 1)) < (x12.length : Int) then (joustlaw08_BucketPlays.j1 k x2 (x11.set ((wrap64 ((x11.length : Int) - 1)) : Int).toNat (⟨x167000, x167001, x167002⟩ : S52)) (x12.set ((wrap64 ((x11.length : Int) - 1)) : Int).toNat (⟨x172000, x172001, x172002⟩ : S56)) x13 ((rd_T52 x11 (wrap64 ((x11.length : Int) - 1))).f0) ((rd_T52 x11 (wrap64 ((x11.length : Int) - 1))).f1) ((rd_T52 x11 (wrap64 ((x11.length : Int) - 1))).f2) ((rd_T56 x12 (wrap64 ((x11.length : Int) - 1))).f0) ((rd_T56 x12 (wrap64 ((x11.length : Int) - 1))).f1) ((rd_T56 x12 (wrap64 ((x11.length : Int) - 1))).f2)) else (none)) else (none)) else (none)) else (joustlaw08_BucketPlays.j1 k x2 x11 x12 x13 x167000 x167001 x167002 x172000 x172001 x172002)) else (joustlaw08_BucketPlays.j1 k x2 x11 x12 x13 x167000 x167001 x167002 x172000 x172001 x172002)))))) else (none)) else (joustlaw08_BucketPlays.l1 k x11 x12 0)
def joustlaw08_BucketPlays.j1 : Nat → List (S62) → List (S52) → List (S56) → Int → Int → Int → Int → Int → Int → Int → Option (Bool)
  | 0, _, _, _, _, _, _, _, _, _, _ => none
  | k + 1, x2, x11, x12, x13, x167000, x167001, x167002, x172000, x172001, x172002 => (bucket_Bucket_Left.f x167000 x167001 x167002).bind fun bt207 => ((joustref08_Left.f x172000 x172001 x172002).bind fun t211 => (if bt207.1 = t211 then (joustlaw08_BucketPlays.l0 k x2 x11 x12 (wrap64 (x13 + 1)) x167000 x167001 x167002 x172000 x172001 x172002) else (some false)))
def joustlaw08_BucketPlays.l1 : Nat → List (S52) → List (S56) → Int → Option (Bool)
  | 0, _, _, _ => none
  | k + 1, x11, x12, x21 => if x21 < (x11.length : Int) then (if 0 ≤ x21 then ((bucket_Bucket_Left.f ((rd_T52 x11 x21).f0) ((rd_T52 x11 x21).f1) ((rd_T52 x11 x21).f2)).bind fun bt213 => (if x21 < (x12.length : Int) then ((joustref08_Left.f ((rd_T56 x12 x21).f0) ((rd_T56 x12 x21).f1) ((rd_T56 x12 x21).f2)).bind fun t218 => (if bt213.1 = t218 then (joustlaw08_BucketPlays.l1 k x11 x12 (wrap64 (x21 + 1))) else (some false))) else (none))) else (none)) else (some true)
end
def joustlaw08_BucketPlays.f (k : Nat) (a0 : Int) (a1 : Int) (l2 : List (S62)) : Option (Bool) := (joustlaw08_fixed.f k).bind fun t161 => (if t161 = true then ((bucket_New.f a0 a1).bind fun bt162 => ((joustref08_New.f a0 a1).bind fun bt167 => (if bt162.2.2.2 = bt167.2.2.2 then (if bt162.2.2.2 = 0 then (joustlaw08_BucketPlays.l0 k l2 ([] : List (S52)) ([] : List (S56)) 0 bt162.1 bt162.2.1 bt162.2.2.1 bt167.1 bt167.2.1 bt167.2.2.1) else (some true)) else (some false)))) else (some false))
theorem joustlaw08_BucketPlays.mono_l : ∀ k, (∀ y0 y1 y2 y3 y4 y5 y6 y7 y8 y9, LeO (joustlaw08_BucketPlays.l0 k y0 y1 y2 y3 y4 y5 y6 y7 y8 y9) (joustlaw08_BucketPlays.l0 (k + 1) y0 y1 y2 y3 y4 y5 y6 y7 y8 y9)) ∧ (∀ y0 y1 y2 y3 y4 y5 y6 y7 y8 y9, LeO (joustlaw08_BucketPlays.j1 k y0 y1 y2 y3 y4 y5 y6 y7 y8 y9) (joustlaw08_BucketPlays.j1 (k + 1) y0 y1 y2 y3 y4 y5 y6 y7 y8 y9)) ∧ (∀ y0 y1 y2, LeO (joustlaw08_BucketPlays.l1 k y0 y1 y2) (joustlaw08_BucketPlays.l1 (k + 1) y0 y1 y2))
  | 0 => ⟨fun _ _ _ _ _ _ _ _ _ _ r h => by simp [joustlaw08_BucketPlays.l0] at h, fun _ _ _ _ _ _ _ _ _ _ r h => by simp [joustlaw08_BucketPlays.j1] at h, fun _ _ _ r h => by simp [joustlaw08_BucketPlays.l1] at h⟩
  | k + 1 => by
    obtain ⟨ih0, ih1, ih2⟩ := joustlaw08_BucketPlays.mono_l k
    refine ⟨?_, ?_, ?_⟩
    · intro y0 y1 y2 y3 y4 y5 y6 y7 y8 y9
      unfold joustlaw08_BucketPlays.l0
      repeat' first
      | (with_reducible exact ih0 _ _ _ _ _ _ _ _ _ _)
      | (with_reducible exact ih1 _ _ _ _ _ _ _ _ _ _)
      | (with_reducible exact ih2 _ _ _)
      | (with_reducible exact joustlaw08_fixed.mono _)
      | (with_reducible exact joustref08_Ticks.mono _ _ _ _ _)
      | (with_reducible exact LeO.refl _)
      | (with_reducible exact LeO.none _)
      | (with_reducible refine LeO.ite ?_ ?_)
      | (with_reducible refine LeO.bind ?_ (fun _ => ?_))
      | exact ih0 _ _ _ _ _ _ _ _ _ _
      | exact ih1 _ _ _ _ _ _ _ _ _ _
      | exact ih2 _ _ _
      | exact joustlaw08_fixed.mono _
      | exact joustref08_Ticks.mono _ _ _ _ _
      | exact LeO.none _
      | refine LeO.ite ?_ ?_
      | refine LeO.bind ?_ (fun _ => ?_)
    · intro y0 y1 y2 y3 y4 y5 y6 y7 y8 y9
      unfold joustlaw08_BucketPlays.j1
      repeat' first
      | (with_reducible exact ih0 _ _ _ _ _ _ _ _ _ _)
      | (with_reducible exact ih1 _ _ _ _ _ _ _ _ _ _)
      | (with_reducible exact ih2 _ _ _)
      | (with_reducible exact joustlaw08_fixed.mono _)
      | (with_reducible exact joustref08_Ticks.mono _ _ _ _ _)
      | (with_reducible exact LeO.refl _)
      | (with_reducible exact LeO.none _)
      | (with_reducible refine LeO.ite ?_ ?_)
      | (with_reducible refine LeO.bind ?_ (fun _ => ?_))
      | exact ih0 _ _ _ _ _ _ _ _ _ _
      | exact ih1 _ _ _ _ _ _ _ _ _ _
      | exact ih2 _ _ _
      | exact joustlaw08_fixed.mono _
      | exact joustref08_Ticks.mono _ _ _ _ _
      | exact LeO.none _
      | refine LeO.ite ?_ ?_
      | refine LeO.bind ?_ (fun _ => ?_)
    · intro y0 y1 y2
      unfold joustlaw08_BucketPlays.l1
      repeat' first
      | (with_reducible exact ih0 _ _ _ _ _ _ _ _ _ _)
      | (with_reducible exact ih1 _ _ _ _ _ _ _ _ _ _)
      | (with_reducible exact ih2 _ _ _)
      | (with_reducible exact joustlaw08_fixed.mono _)
      | (with_reducible exact joustref08_Ticks.mono _ _ _ _ _)
      | (with_reducible exact LeO.refl _)
      | (with_reducible exact LeO.none _)
      | (with_reducible refine LeO.ite ?_ ?_)
      | (with_reducible refine LeO.bind ?_ (fun _ => ?_))
      | exact ih0 _ _ _ _ _ _ _ _ _ _
      | exact ih1 _ _ _ _ _ _ _ _ _ _
      | exact ih2 _ _ _
      | exact joustlaw08_fixed.mono _
      | exact joustref08_Ticks.mono _ _ _ _ _
      | exact LeO.none _
      | refine LeO.ite ?_ ?_
      | refine LeO.bind ?_ (fun _ => ?_)
theorem joustlaw08_BucketPlays.mono : ∀ a0 a1 a2 k, LeO (joustlaw08_BucketPlays.f k a0 a1 a2) (joustlaw08_BucketPlays.f (k + 1) a0 a1 a2) := by
  intro a0 a1 a2 k
  obtain ⟨ih0, ih1, ih2⟩ := joustlaw08_BucketPlays.mono_l k
  unfold joustlaw08_BucketPlays.f
  repeat' first
      | (with_reducible exact ih0 _ _ _ _ _ _ _ _ _ _)
      | (with_reducible exact ih1 _ _ _ _ _ _ _ _ _ _)
      | (with_reducible exact ih2 _ _ _)
      | (with_reducible exact joustlaw08_fixed.mono _)
      | (with_reducible exact joustref08_Ticks.mono _ _ _ _ _)
      | (with_reducible exact LeO.refl _)
      | (with_reducible exact LeO.none _)
      | (with_reducible refine LeO.ite ?_ ?_)
      | (with_reducible refine LeO.bind ?_ (fun _ => ?_))
      | exact ih0 _ _ _ _ _ _ _ _ _ _
      | exact ih1 _ _ _ _ _ _ _ _ _ _
      | exact ih2 _ _ _
      | exact joustlaw08_fixed.mono _
      | exact joustref08_Ticks.mono _ _ _ _ _
      | exact LeO.none _
      | refine LeO.ite ?_ ?_
      | refine LeO.bind ?_ (fun _ => ?_)
def joustlaw08_BucketPlays.T45 : Bool × List (List Nat × List Nat) := (true, [([], []), ([], []), ([0, 1], [0, 1]), ([2], [2]), ([], []), ([], []), ([4, 5], [4, 5]), ([6], [6]), ([7, 3], [7]), ([3, 8], [3, 8])])
def joustlaw08_BucketPlays.B45 : List Nat := [0, 0, 3, 7, 0, 0, 48, 112, 255, 511]
theorem joustlaw08_BucketPlays.tab45 : rtab .any (opsOf Try.f7 45) = joustlaw08_BucketPlays.T45 := by kernel_rfl
theorem joustlaw08_BucketPlays.bits45 : waitsOk joustlaw08_BucketPlays.T45.2 joustlaw08_BucketPlays.B45 = true := by kernel_rfl
set_option maxHeartbeats 8000000 in
set_option maxRecDepth 100000 in
theorem joustlaw08_BucketPlays.calls (k : Nat) (a0 : Int) (a1 : Int) (A2 : Option Addr) (c2 : Nat) (l2 : List (S62)) (r : Bool) (w : World) (hr2 : Kd.C k62 w A2 l2.length l2) (hc2 : l2.length ≤ c2) (h : joustlaw08_BucketPlays.f k a0 a1 l2 = some r) :
    Calls Try.prog 7 #[.int .i64 a0, .int .i64 a1, .slice A2 l2.length c2] w fun e w' => e = .returned (.bool r) ∧ Below w.heap.size w w' := by
  have hu52 := Try.underlying52
  have hu56 := Try.underlying56
  have hu62 := Try.underlying62
  have HR2 := Aside0.mk hr2
  have HC2 := Aside0.mk hc2
  clear hr2 hc2
  have HB := Aside0.mk (Below.refl w.heap.size w)
  have H : ((joustlaw08_fixed.f k).bind fun t161 => (if t161 = true then ((bucket_New.f a0 a1).bind fun bt162 => ((joustref08_New.f a0 a1).bind fun bt167 => (if bt162.2.2.2 = bt167.2.2.2 then (if bt162.2.2.2 = 0 then (joustlaw08_BucketPlays.l0 k l2 ([] : List (S52)) ([] : List (S56)) 0 bt162.1 bt162.2.1 bt162.2.2.1 bt167.1 bt167.2.1 bt167.2.2.1) else (some true)) else (some false)))) else (some false))) = some r := h
  clear h
  replace H := Option.bind_eq_some_iff.mp H
  obtain ⟨t161, A40, H⟩ := H
  replace H : (if t161 = true then ((bucket_New.f a0 a1).bind fun bt162 => ((joustref08_New.f a0 a1).bind fun bt167 => (if bt162.2.2.2 = bt167.2.2.2 then (if bt162.2.2.2 = 0 then (joustlaw08_BucketPlays.l0 k l2 ([] : List (S52)) ([] : List (S56)) 0 bt162.1 bt162.2.1 bt162.2.2.1 bt167.1 bt167.2.1 bt167.2.2.1) else (some true)) else (some false)))) else (some false)) = some r := H
  have A4 := Aside0.mk A40
  clear A40
  by_cases c5 : t161 = true
  · subst c5
    have H1 : ((bucket_New.f a0 a1).bind fun bt162 => ((joustref08_New.f a0 a1).bind fun bt167 => (if bt162.2.2.2 = bt167.2.2.2 then (if bt162.2.2.2 = 0 then (joustlaw08_BucketPlays.l0 k l2 ([] : List (S52)) ([] : List (S56)) 0 bt162.1 bt162.2.1 bt162.2.2.1 bt167.1 bt167.2.1 bt167.2.2.1) else (some true)) else (some false)))) = some r := by rw [if_pos rfl] at H; exact H
    clear H
    have H := H1
    clear H1
    replace H := Option.bind_eq_some_iff.mp H
    obtain ⟨⟨t162, t163, t164, t165⟩, A60, H⟩ := H
    replace H : ((joustref08_New.f a0 a1).bind fun bt167 => (if t165 = bt167.2.2.2 then (if t165 = 0 then (joustlaw08_BucketPlays.l0 k l2 ([] : List (S52)) ([] : List (S56)) 0 t162 t163 t164 bt167.1 bt167.2.1 bt167.2.2.1) else (some true)) else (some false))) = some r := H
    have A6 := Aside0.mk A60
    clear A60
    replace H := Option.bind_eq_some_iff.mp H
    obtain ⟨⟨t167, t168, t169, t170⟩, A70, H⟩ := H
    replace H : (if t165 = t170 then (if t165 = 0 then (joustlaw08_BucketPlays.l0 k l2 ([] : List (S52)) ([] : List (S56)) 0 t162 t163 t164 t167 t168 t169) else (some true)) else (some false)) = some r := H
    have A7 := Aside0.mk A70
    clear A70
    by_cases c8 : t165 = t170
    · rw [if_pos c8] at H
      have c8b0 : (t165 == t170) = true := beq_iff_eq.mpr c8
      have c8b1 : (t165 != t170) = false := bne_eq_false_iff_eq.mpr c8
      clear c8
      by_cases c9 : t165 = 0
      · rw [if_pos c9] at H
        have c9b0 : (t165 == 0) = true := beq_iff_eq.mpr c9
        have c9b1 : (t165 != 0) = false := bne_eq_false_iff_eq.mpr c9
        clear c9
        have H' := Aside0.mk H
        clear H
        go_enter Try.func7, Try.ntmps7
        go_wp2_with (first | ((with_reducible refine gate_callee (f := 21) rfl ?_); refine goesL_ (some 22) rfl rfl Try.func21 (by kernel_rfl) rfl #[] rfl (by (try simp only [List.map_toArray, List.map_cons, List.map_nil]); first | done | rfl | (simp only [List.length_drop, List.length_take]; rfl)) ?_; (with_reducible refine (joustlaw08_fixed.calls k  true _ A4.out).mono ?_); rintro e w10 ⟨rfl, hb⟩; refine ⟨_, rfl, ?_⟩; have n0_ := Aside0.mk (below_step (by repeat (first | (with_reducible first | exact HB.out | apply below_alloc | apply pw_below_drewN | apply below_drew1) | exact HB.out)) hb); clear HB; have HB := n0_; clear n0_; (try clear hb); (try clear hb2); (try clear hk); (try clear hi)) | ((with_reducible refine gate_callee (f := 22) rfl ?_); refine goesL_ (some 27) rfl rfl Try.func22 (by kernel_rfl) rfl #[.int .i64 a0, .int .i64 a1] rfl (by (try simp only [List.map_toArray, List.map_cons, List.map_nil]); first | done | rfl | (simp only [List.length_drop, List.length_take]; rfl)) ?_; (with_reducible refine (bucket_New.calls a0 a1 t162 t163 t164 t165 _ A6.out).mono ?_); rintro e w11 ⟨rfl, hb⟩; refine ⟨_, rfl, ?_⟩; have n0_ := Aside0.mk (below_step (by repeat (first | (with_reducible first | exact HB.out | apply below_alloc | apply pw_below_drewN | apply below_drew1) | exact HB.out)) hb); clear HB; have HB := n0_; clear n0_; (try clear hb); (try clear hb2); (try clear hk); (try clear hi)) | ((with_reducible refine gate_dst (N := 7) rfl ?_); refine box_event ?hg (N := 7) ?hd (cs := #[.int .i64 0, .int .i64 0, .int .i64 0]) (t := 52) ?hr ?_; (case hd => rfl); (case hg => rfl); (case hr => first | (go_simp; done) | (go_simp; rfl)); intro gb166 hg w12 hbox hb; have n0_ := Aside0.mk (below_step (by repeat (first | (with_reducible first | exact HB.out | apply below_alloc | apply pw_below_drewN | apply below_drew1) | exact HB.out)) hb); have n1_ := Aside0.mk (hbox); have n2_ := Aside0.mk ((by rw [hg]; exact (below_size (by repeat (first | (with_reducible first | exact HB.out | apply below_alloc | apply pw_below_drewN | apply below_drew1) | exact HB.out))) : w.heap.size ≤ gb166)); have n3_ := Aside0.mk ((by rw [hg]; exact (below_size (by repeat (first | (with_reducible first | exact HB.out | apply below_alloc | apply pw_below_drewN | apply below_drew1) | exact HB.out))) : w.heap.size ≤ gb166)); clear HB; have HB := n0_; have BK166 := n1_; have GW166 := n2_; have GE166 := n3_; clear n0_ n1_ n2_ n3_; clear hb hbox hg; have hcz13_0 : w12.cell? ⟨gb166, 0, none⟩ = some (.int .i64 0) := (blk_cell BK166.out 0).trans rfl; have hcz13_1 : w12.cell? ⟨gb166, 1, none⟩ = some (.int .i64 0) := (blk_cell BK166.out 1).trans rfl; have hcz13_2 : w12.cell? ⟨gb166, 2, none⟩ = some (.int .i64 0) := (blk_cell BK166.out 2).trans rfl; have hfz13_0 := blk_frozen BK166.out 0; have hfz13_1 := blk_frozen BK166.out 1; have hfz13_2 := blk_frozen BK166.out 2) | ((with_reducible refine gate_callee (f := 23) rfl ?_); refine goesL_ (some 33) rfl rfl Try.func23 (by kernel_rfl) rfl #[.int .i64 a0, .int .i64 a1] rfl (by (try simp only [List.map_toArray, List.map_cons, List.map_nil]); first | done | rfl | (simp only [List.length_drop, List.length_take]; rfl)) ?_; (with_reducible refine (joustref08_New.calls a0 a1 t167 t168 t169 t170 _ A7.out).mono ?_); rintro e w14 ⟨rfl, hb⟩; refine ⟨_, rfl, ?_⟩; have n0_ := Aside0.mk (blk_below (g := gb166) (o := .cells #[.int .i64 t162, .int .i64 t163, .int .i64 t164] 52 (0, 0)) (by (with_reducible repeat (first | refine blk_drewN ?_ _ | refine blk_drew ?_ | refine blk_alloc ?_ _)); refine blk_put (cs := #[.int .i64 t162, .int .i64 t163, .int .i64 0]) ?_ 2 _ rfl; (with_reducible repeat (first | refine blk_drewN ?_ _ | refine blk_drew ?_ | refine blk_alloc ?_ _)); refine blk_put (cs := #[.int .i64 t162, .int .i64 0, .int .i64 0]) ?_ 1 _ rfl; (with_reducible repeat (first | refine blk_drewN ?_ _ | refine blk_drew ?_ | refine blk_alloc ?_ _)); refine blk_put (cs := #[.int .i64 0, .int .i64 0, .int .i64 0]) ?_ 0 _ rfl; (with_reducible repeat (first | refine blk_drewN ?_ _ | refine blk_drew ?_ | refine blk_alloc ?_ _)); exact BK166.out) hb); have n1_ := Aside0.mk (below_step (by repeat (first | (with_reducible first | exact HB.out | apply below_alloc | apply pw_below_drewN | apply below_drew1 | refine below_set ?_ GE166.out) | exact HB.out)) hb); clear BK166; clear HB; have BK166 := n0_; have HB := n1_; clear n0_ n1_; (try clear hb); (try clear hb2); (try clear hk); (try clear hi)) | ((with_reducible refine gate_dst (N := 9) rfl ?_); refine box_event ?hg (N := 9) ?hd (cs := #[.int .i64 0, .int .i64 0, .int .i64 0]) (t := 56) ?hr ?_; (case hd => rfl); (case hg => rfl); (case hr => first | (go_simp; done) | (go_simp; rfl)); intro gb171 hg w15 hbox hb; have n0_ := Aside0.mk (blk_below (g := gb166) (o := .cells #[.int .i64 t162, .int .i64 t163, .int .i64 t164] 52 (0, 0)) (by (with_reducible repeat (first | refine blk_drewN ?_ _ | refine blk_drew ?_ | refine blk_alloc ?_ _)); exact BK166.out) hb); have n1_ := Aside0.mk (below_step (by repeat (first | (with_reducible first | exact HB.out | apply below_alloc | apply pw_below_drewN | apply below_drew1 | refine below_set ?_ GE166.out) | exact HB.out)) hb); have n2_ := Aside0.mk (hbox); have n3_ := Aside0.mk ((by rw [hg]; exact (below_size (by repeat (first | (with_reducible first | exact HB.out | apply below_alloc | apply pw_below_drewN | apply below_drew1 | refine below_set ?_ GE166.out) | exact HB.out))) : w.heap.size ≤ gb171)); have n4_ := Aside0.mk ((by rw [hg]; exact (below_size (by repeat (first | (with_reducible first | exact HB.out | apply below_alloc | apply pw_below_drewN | apply below_drew1 | refine below_set ?_ GE166.out) | exact HB.out))) : w.heap.size ≤ gb171)); have n5_ := Aside0.mk ((by rw [hg]; exact Nat.ne_of_lt (blk_lt (g := gb166) (o := .cells #[.int .i64 t162, .int .i64 t163, .int .i64 t164] 52 (0, 0)) (by (with_reducible repeat (first | refine blk_drewN ?_ _ | refine blk_drew ?_ | refine blk_alloc ?_ _)); exact BK166.out)) : gb166 ≠ gb171)); have n6_ := Aside0.mk ((by rw [hg]; exact Nat.ne_of_gt (blk_lt (g := gb166) (o := .cells #[.int .i64 t162, .int .i64 t163, .int .i64 t164] 52 (0, 0)) (by (with_reducible repeat (first | refine blk_drewN ?_ _ | refine blk_drew ?_ | refine blk_alloc ?_ _)); exact BK166.out)) : gb171 ≠ gb166)); clear BK166; clear HB; have BK166 := n0_; have HB := n1_; have BK171 := n2_; have GW171 := n3_; have GE171 := n4_; have NB166_171 := n5_; have NB171_166 := n6_; clear n0_ n1_ n2_ n3_ n4_ n5_ n6_; clear hb hbox hg; have hnb16 := NB171_166.out; have hnc16 := NB166_171.out; have hcz17_0 : w15.cell? ⟨gb171, 0, none⟩ = some (.int .i64 0) := (blk_cell BK171.out 0).trans rfl; have hcz17_1 : w15.cell? ⟨gb171, 1, none⟩ = some (.int .i64 0) := (blk_cell BK171.out 1).trans rfl; have hcz17_2 : w15.cell? ⟨gb171, 2, none⟩ = some (.int .i64 0) := (blk_cell BK171.out 2).trans rfl; have hfz17_0 := blk_frozen BK171.out 0; have hfz17_1 := blk_frozen BK171.out 1; have hfz17_2 := blk_frozen BK171.out 2))
        go_loopg [11, 12, 13] k (fun kq v11 v12 v13 w' => ∃ (x11_1 : List (S52)) (x12_1 : List (S56)) (x13_1 : Int) (x167000_1 : Int) (x167001_1 : Int) (x167002_1 : Int) (x172000_1 : Int) (x172001_1 : Int) (x172002_1 : Int), v13 = .int .i64 x13_1 ∧ Aside0 (joustlaw08_BucketPlays.l0 kq l2 x11_1 x12_1 x13_1 x167000_1 x167001_1 x167002_1 x172000_1 x172001_1 x172002_1 = some r) ∧ Aside0 (kq ≤ k) ∧ Aside0 (Kd.R k52 52 w' w.heap.size (fun k_ => k_ ≠ gb166) v11 x11_1) ∧ Aside0 (Kd.R k56 56 w' w.heap.size (fun k_ => k_ ≠ gb171) v12 x12_1) ∧ Aside0 (w'.heap[gb166]? = some (.cells #[.int .i64 x167000_1, .int .i64 x167001_1, .int .i64 x167002_1] 52 (0, 0))) ∧ Aside0 (w'.heap[gb171]? = some (.cells #[.int .i64 x172000_1, .int .i64 x172001_1, .int .i64 x172002_1] 56 (0, 0))) ∧ Aside0 (Below w.heap.size w w'))
        case atStart => exact ⟨(([] : List (S52))), (([] : List (S56))), (0), (t162), (t163), (t164), (t167), (t168), (t169), (by first | rfl | (simp; done) | (simp [*]; done)), H', ⟨Nat.le_refl _⟩, ⟨by first | exact Kd.R_nil _ _ _ _ _ | exact Kd.N_nil _ _ _ _ _ | exact Kd.V_nil _ _ _ _ _ | exact Kd.Q_nil _ _ _ _ _ | exact Kd.S_nil _ _ _ _ _⟩, ⟨by first | exact Kd.R_nil _ _ _ _ _ | exact Kd.N_nil _ _ _ _ _ | exact Kd.V_nil _ _ _ _ _ | exact Kd.Q_nil _ _ _ _ _ | exact Kd.S_nil _ _ _ _ _⟩, ⟨by (with_reducible repeat (first | refine blk_drewN ?_ _ | refine blk_drew ?_ | refine blk_alloc ?_ _)); refine blk_far ?_ NB166_171.out _; (with_reducible repeat (first | refine blk_drewN ?_ _ | refine blk_drew ?_ | refine blk_alloc ?_ _)); refine blk_far ?_ NB166_171.out _; (with_reducible repeat (first | refine blk_drewN ?_ _ | refine blk_drew ?_ | refine blk_alloc ?_ _)); refine blk_far ?_ NB166_171.out _; (with_reducible repeat (first | refine blk_drewN ?_ _ | refine blk_drew ?_ | refine blk_alloc ?_ _)); exact BK166.out⟩, ⟨by (with_reducible repeat (first | refine blk_drewN ?_ _ | refine blk_drew ?_ | refine blk_alloc ?_ _)); refine blk_put (cs := #[.int .i64 t167, .int .i64 t168, .int .i64 0]) ?_ 2 _ rfl; (with_reducible repeat (first | refine blk_drewN ?_ _ | refine blk_drew ?_ | refine blk_alloc ?_ _)); refine blk_put (cs := #[.int .i64 t167, .int .i64 0, .int .i64 0]) ?_ 1 _ rfl; (with_reducible repeat (first | refine blk_drewN ?_ _ | refine blk_drew ?_ | refine blk_alloc ?_ _)); refine blk_put (cs := #[.int .i64 0, .int .i64 0, .int .i64 0]) ?_ 0 _ rfl; (with_reducible repeat (first | refine blk_drewN ?_ _ | refine blk_drew ?_ | refine blk_alloc ?_ _)); exact BK171.out⟩, ⟨by repeat (first | (with_reducible first | exact HB.out | apply below_alloc | apply pw_below_drewN | apply below_drew1 | refine below_set ?_ GE166.out | refine below_set ?_ GE171.out) | exact HB.out)⟩⟩
        case round =>
          clear H'
          try clear c1
          try clear c2
          try clear p2
          try clear c5
          try clear c7
          try clear c8
          try clear c8b0
          try clear c8b1
          try clear c9
          try clear c9b0
          try clear c9b1
          try clear c16
          try clear hcz13_0
          try clear hcz13_1
          try clear hcz13_2
          try clear hcz17_0
          try clear hcz17_1
          try clear hcz17_2
          try clear hfz13_0
          try clear hfz13_1
          try clear hfz13_2
          try clear hfz17_0
          try clear hfz17_1
          try clear hfz17_2
          obtain ⟨x11_1, x12_1, x13_1, x167000_1, x167001_1, x167002_1, x172000_1, x172001_1, x172002_1, rfl, HA, HK1, HO_11, HO_12, BK166, BK171, HB⟩ := hrel
          cases gk with
          | zero => exact absurd HA.out (by simp [joustlaw08_BucketPlays.l0])
          | succ k1 =>
            have H := HA.out
            clear HA
            simp only [joustlaw08_BucketPlays.l0] at H
            by_cases c18 : x13_1 < (l2.length : Int)
            · rw [if_pos c18] at H
              have c18b0 : decide (x13_1 < (l2.length : Int)) = true := decide_eq_true c18
              clear c18
              by_cases c19 : 0 ≤ x13_1
              · rw [if_pos c19] at H
                have c19b0 : decide (0 ≤ x13_1) = true := decide_eq_true c19
                clear c19
                have HC20 := Aside0.mk H
                clear H
                have p172 : 0 ≤ (x13_1 : Int) := of_decide_eq_true (by first | (with_reducible assumption) | assumption)
                have q172 : x13_1 < (l2.length : Int) := of_decide_eq_true (by first | (with_reducible assumption) | assumption)
                obtain ⟨ad172, e172, hx172_0, hx172_1⟩ := at_T62 HR2.out x13_1 p172 q172
                cases e172
                replace hx172_0 := (HB.out.cell (World.block_lt_of_cell? w _ hx172_0)).trans hx172_0
                replace hx172_1 := (HB.out.cell (World.block_lt_of_cell? w _ hx172_1)).trans hx172_1
                replace p172 := eq_true p172
                replace q172 := eq_true q172
                go_upto_block 2 with (first | ((with_reducible refine gate_dst (N := 14) rfl ?_); refine box_event ?hg (N := 14) ?hd (cs := #[.int .i64 0, .int .u64 0]) (t := 62) ?hr ?_; (case hd => rfl); (case hg => rfl); (case hr => first | (go_simp; done) | (go_simp; rfl)); intro gb173 hg w21 hbox hb; have n0_ := Aside0.mk (Kd.R_below (by (with_reducible repeat (first | apply Kd.R_alloc | apply Kd.R_drewN | apply Kd.R_drew)); exact HO_11.out) hb); have n1_ := Aside0.mk (Kd.R_below (by (with_reducible repeat (first | apply Kd.R_alloc | apply Kd.R_drewN | apply Kd.R_drew)); exact HO_12.out) hb); have n2_ := Aside0.mk (blk_below (g := gb166) (o := .cells #[.int .i64 x167000_1, .int .i64 x167001_1, .int .i64 x167002_1] 52 (0, 0)) (by (with_reducible repeat (first | refine blk_drewN ?_ _ | refine blk_drew ?_ | refine blk_alloc ?_ _)); exact BK166.out) hb); have n3_ := Aside0.mk (blk_below (g := gb171) (o := .cells #[.int .i64 x172000_1, .int .i64 x172001_1, .int .i64 x172002_1] 56 (0, 0)) (by (with_reducible repeat (first | refine blk_drewN ?_ _ | refine blk_drew ?_ | refine blk_alloc ?_ _)); exact BK171.out) hb); have n4_ := Aside0.mk (below_step (by repeat (first | (with_reducible first | exact HB.out | apply below_alloc | apply pw_below_drewN | apply below_drew1 | refine below_set ?_ GE166.out | refine below_set ?_ GE171.out) | exact HB.out)) hb); have n5_ := Aside0.mk (hbox); have n6_ := Aside0.mk ((by rw [hg]; exact (below_size (by repeat (first | (with_reducible first | exact HB.out | apply below_alloc | apply pw_below_drewN | apply below_drew1 | refine below_set ?_ GE166.out | refine below_set ?_ GE171.out) | exact HB.out))) : w.heap.size ≤ gb173)); have n7_ := Aside0.mk ((by rw [hg]; exact (below_size (by repeat (first | (with_reducible first | exact HB.out | apply below_alloc | apply pw_below_drewN | apply below_drew1 | refine below_set ?_ GE166.out | refine below_set ?_ GE171.out) | exact HB.out))) : w.heap.size ≤ gb173)); have n8_ := Aside0.mk ((by rw [hg]; exact Nat.ne_of_lt (blk_lt (g := gb166) (o := .cells #[.int .i64 x167000_1, .int .i64 x167001_1, .int .i64 x167002_1] 52 (0, 0)) (by (with_reducible repeat (first | refine blk_drewN ?_ _ | refine blk_drew ?_ | refine blk_alloc ?_ _)); exact BK166.out)) : gb166 ≠ gb173)); have n9_ := Aside0.mk ((by rw [hg]; exact Nat.ne_of_gt (blk_lt (g := gb166) (o := .cells #[.int .i64 x167000_1, .int .i64 x167001_1, .int .i64 x167002_1] 52 (0, 0)) (by (with_reducible repeat (first | refine blk_drewN ?_ _ | refine blk_drew ?_ | refine blk_alloc ?_ _)); exact BK166.out)) : gb173 ≠ gb166)); have n10_ := Aside0.mk ((by rw [hg]; exact Nat.ne_of_lt (blk_lt (g := gb171) (o := .cells #[.int .i64 x172000_1, .int .i64 x172001_1, .int .i64 x172002_1] 56 (0, 0)) (by (with_reducible repeat (first | refine blk_drewN ?_ _ | refine blk_drew ?_ | refine blk_alloc ?_ _)); exact BK171.out)) : gb171 ≠ gb173)); have n11_ := Aside0.mk ((by rw [hg]; exact Nat.ne_of_gt (blk_lt (g := gb171) (o := .cells #[.int .i64 x172000_1, .int .i64 x172001_1, .int .i64 x172002_1] 56 (0, 0)) (by (with_reducible repeat (first | refine blk_drewN ?_ _ | refine blk_drew ?_ | refine blk_alloc ?_ _)); exact BK171.out)) : gb173 ≠ gb171)); clear HO_11; clear HO_12; clear BK166; clear BK171; clear HB; have HO_11 := n0_; have HO_12 := n1_; have BK166 := n2_; have BK171 := n3_; have HB := n4_; have BK173 := n5_; have GW173 := n6_; have GE173 := n7_; have NB166_173 := n8_; have NB173_166 := n9_; have NB171_173 := n10_; have NB173_171 := n11_; clear n0_ n1_ n2_ n3_ n4_ n5_ n6_ n7_ n8_ n9_ n10_ n11_; clear hb hbox hg; have hnb22 := NB173_166.out; have hnc22 := NB166_173.out; have hnb23 := NB173_171.out; have hnc23 := NB171_173.out; have hcz24_0 : w21.cell? ⟨gb173, 0, none⟩ = some (.int .i64 0) := (blk_cell BK173.out 0).trans rfl; have hcz24_1 : w21.cell? ⟨gb173, 1, none⟩ = some (.int .u64 0) := (blk_cell BK173.out 1).trans rfl; have hfz24_0 := blk_frozen BK173.out 0; have hfz24_1 := blk_frozen BK173.out 1))
                (try simp only [Act.put, List.setIfInBounds_toArray, List.set_cons_zero, List.set_cons_succ])
                go_cut [11, 12] (fun v11 v12 wc => ∃ (kq : Nat) (x11_19 : List (S52)) (x12_19 : List (S56)) (x167000_19 : Int) (x167001_19 : Int) (x167002_19 : Int) (x172000_19 : Int) (x172001_19 : Int) (x172002_19 : Int), Aside0 (joustlaw08_BucketPlays.j1 kq l2 x11_19 x12_19 x13_1 x167000_19 x167001_19 x167002_19 x172000_19 x172001_19 x172002_19 = some r) ∧ Aside0 (kq ≤ k1) ∧ Aside0 (Kd.R k52 52 wc w.heap.size (fun k_ => k_ ≠ gb166) v11 x11_19) ∧ Aside0 (Kd.R k56 56 wc w.heap.size (fun k_ => k_ ≠ gb171) v12 x12_19) ∧ Aside0 (wc.heap[gb166]? = some (.cells #[.int .i64 x167000_19, .int .i64 x167001_19, .int .i64 x167002_19] 52 (0, 0))) ∧ Aside0 (wc.heap[gb171]? = some (.cells #[.int .i64 x172000_19, .int .i64 x172001_19, .int .i64 x172002_19] 56 (0, 0))) ∧ Aside0 (wc.heap[gb173]? = some (.cells #[.int .i64 ((rd_T62 l2 x13_1).f0), .int .u64 ((rd_T62 l2 x13_1).f1)] 62 (0, 0))) ∧ Aside0 (Below w.heap.size w wc))
                case first =>
                  have H := HC20.out
                  clear HC20
                  by_cases c25 : ((rd_T62 l2 x13_1).f0) = 1
                  · rw [if_pos c25] at H
                    have c25b0 : (((rd_T62 l2 x13_1).f0) == 1) = true := beq_iff_eq.mpr c25
                    have c25b1 : (((rd_T62 l2 x13_1).f0) != 1) = false := bne_eq_false_iff_eq.mpr c25
                    clear c25
                    (first | rw [c25b0] | (simp only [i64_w, i32_w]; rw [c25b0]) | skip)
                    replace H := Option.bind_eq_some_iff.mp H
                    obtain ⟨⟨t174, t175, t176, t177⟩, A260, H⟩ := H
                    replace H : ((joustref08_Take.f x172000_1 x172001_1 x172002_1).bind fun bt178 => (if t174 = bt178.2.2.2 then (joustlaw08_BucketPlays.j1 k1 l2 x11_1 x12_1 x13_1 t175 t176 t177 bt178.1 bt178.2.1 bt178.2.2.1) else (some false))) = some r := H
                    have A26 := Aside0.mk A260
                    clear A260
                    replace H := Option.bind_eq_some_iff.mp H
                    obtain ⟨⟨t178, t179, t180, t181⟩, A270, H⟩ := H
                    replace H : (if t174 = t181 then (joustlaw08_BucketPlays.j1 k1 l2 x11_1 x12_1 x13_1 t175 t176 t177 t178 t179 t180) else (some false)) = some r := H
                    have A27 := Aside0.mk A270
                    clear A270
                    by_cases c28 : t174 = t181
                    · rw [if_pos c28] at H
                      have c28b0 : (t174 == t181) = true := beq_iff_eq.mpr c28
                      have c28b1 : (t174 != t181) = false := bne_eq_false_iff_eq.mpr c28
                      clear c28
                      have H' := Aside0.mk H
                      clear H
                      go_wp2_with (first | ((with_reducible refine gate_callee (f := 24) rfl ?_); refine goesL_ (some 55) rfl rfl Try.func24 (by kernel_rfl) rfl #[.pointer (some ⟨gb166, 0, none⟩)] rfl (by (try simp only [List.map_toArray, List.map_cons, List.map_nil]); first | done | rfl | (simp only [List.length_drop, List.length_take]; rfl)) ?_; (with_reducible refine (bucket_Bucket_Take.calls gb166 x167000_1 x167001_1 x167002_1 t174 t175 t176 t177 w _ ?side1 ?side2 A26.out).mono ?_); (case side1 => repeat (first | (with_reducible first | exact (Aside0.mk (IsS52.mk_ BK166.out GE166.out)).out | apply IsS52.alloc | apply IsS52.drewN | apply IsS52.drew | apply IsS52.set_0 | apply IsS52.set_1 | apply IsS52.set_2 | refine IsS52.far ?_ NB166_171.out _ | refine IsS52.far ?_ NB166_173.out _) | exact (Aside0.mk (IsS52.mk_ BK166.out GE166.out)).out)); (case side2 => repeat (first | (with_reducible first | exact HB.out | apply below_alloc | apply pw_below_drewN | apply below_drew1 | refine below_set ?_ (IsS52.ge (Aside0.mk (IsS52.mk_ BK166.out GE166.out)).out) | refine below_set ?_ GE171.out | refine below_set ?_ GE173.out) | exact HB.out)); rintro e w29 ⟨rfl, hi, hb, hk⟩; refine ⟨_, rfl, ?_⟩; have n0_ := Aside0.mk (Kd.R_mono (Kd.R_keep (Kd.R_mono (ok := fun k_ => k_ ≠ gb166) (by (with_reducible repeat (first | apply Kd.R_alloc | apply Kd.R_drewN | apply Kd.R_drew)); exact (Kd.R_mono (Kd.R_far (p := ⟨gb173, 1, none⟩) (Kd.R_far (p := ⟨gb173, 0, none⟩) (Kd.R_types HO_11.out BK173.out (by decide)) (fun _ hk => hk.2) (.int .i64 ((rd_T62 l2 x13_1).f0))) (fun _ hk => hk.2) (.int .u64 ((rd_T62 l2 x13_1).f1))) (fun _ h_ => h_.1))) (fun k_ hk_ => (⟨hk_, hk_⟩ : _ ∧ k_ ≠ gb166))) hk (fun _ h => h.2)) (fun _ h => h.1)); have n1_ := Aside0.mk (Kd.R_mono (Kd.R_keep (IsS52.apart (show IsS52 w _ gb166 x167000_1 x167001_1 x167002_1 from by repeat (first | (with_reducible first | exact (Aside0.mk (IsS52.mk_ BK166.out GE166.out)).out | apply IsS52.alloc | apply IsS52.drewN | apply IsS52.drew | apply IsS52.set_0 | apply IsS52.set_1 | apply IsS52.set_2 | refine IsS52.far ?_ NB166_171.out _ | refine IsS52.far ?_ NB166_173.out _) | exact (Aside0.mk (IsS52.mk_ BK166.out GE166.out)).out)) (by (with_reducible repeat (first | apply Kd.R_alloc | apply Kd.R_drewN | apply Kd.R_drew)); exact (Kd.R_mono (Kd.R_far (p := ⟨gb173, 1, none⟩) (Kd.R_far (p := ⟨gb173, 0, none⟩) (Kd.R_types HO_12.out BK173.out (by decide)) (fun _ hk => hk.2) (.int .i64 ((rd_T62 l2 x13_1).f0))) (fun _ hk => hk.2) (.int .u64 ((rd_T62 l2 x13_1).f1))) (fun _ h_ => h_.1))) (by decide)) hk (fun _ h => h.2)) (fun _ h => h.1)); have n2_ := Aside0.mk (KeepBut.blk hk (g' := gb171) (o := .cells #[.int .i64 x172000_1, .int .i64 x172001_1, .int .i64 x172002_1] 56 (0, 0)) (by (with_reducible repeat (first | refine blk_drewN ?_ _ | refine blk_drew ?_ | refine blk_alloc ?_ _)); refine blk_far ?_ NB171_173.out _; (with_reducible repeat (first | refine blk_drewN ?_ _ | refine blk_drew ?_ | refine blk_alloc ?_ _)); refine blk_far ?_ NB171_173.out _; (with_reducible repeat (first | refine blk_drewN ?_ _ | refine blk_drew ?_ | refine blk_alloc ?_ _)); exact BK171.out) NB171_166.out (by simp)); have n3_ := Aside0.mk (KeepBut.blk hk (g' := gb173) (o := .cells #[.int .i64 ((rd_T62 l2 x13_1).f0), .int .u64 ((rd_T62 l2 x13_1).f1)] 62 (0, 0)) (by (with_reducible repeat (first | refine blk_drewN ?_ _ | refine blk_drew ?_ | refine blk_alloc ?_ _)); refine blk_put (cs := #[.int .i64 ((rd_T62 l2 x13_1).f0), .int .u64 0]) ?_ 1 _ rfl; (with_reducible repeat (first | refine blk_drewN ?_ _ | refine blk_drew ?_ | refine blk_alloc ?_ _)); refine blk_put (cs := #[.int .i64 0, .int .u64 0]) ?_ 0 _ rfl; (with_reducible repeat (first | refine blk_drewN ?_ _ | refine blk_drew ?_ | refine blk_alloc ?_ _)); exact BK173.out) NB173_166.out (by simp)); have n4_ := Aside0.mk (hb); have n5_ := Aside0.mk (hi.1); clear HO_11; clear HO_12; clear BK171; clear BK173; clear HB; clear BK166; have HO_11 := n0_; have HO_12 := n1_; have BK171 := n2_; have BK173 := n3_; have HB := n4_; have BK166 := n5_; clear n0_ n1_ n2_ n3_ n4_ n5_; (try clear hb); (try clear hb2); (try clear hk); (try clear hi); have hnb30 := NB171_166.out; have hnc30 := NB166_171.out; have hnb31 := NB171_173.out; have hnc31 := NB173_171.out; have hcz32_0 : w29.cell? ⟨gb171, 0, none⟩ = some (.int .i64 x172000_1) := (blk_cell BK171.out 0).trans rfl; have hcz32_1 : w29.cell? ⟨gb171, 1, none⟩ = some (.int .i64 x172001_1) := (blk_cell BK171.out 1).trans rfl; have hcz32_2 : w29.cell? ⟨gb171, 2, none⟩ = some (.int .i64 x172002_1) := (blk_cell BK171.out 2).trans rfl; have hfz32_0 := blk_frozen BK171.out 0; have hfz32_1 := blk_frozen BK171.out 1; have hfz32_2 := blk_frozen BK171.out 2) | ((with_reducible refine gate_callee (f := 25) rfl ?_); refine goesL_ (some 58) rfl rfl Try.func25 (by kernel_rfl) rfl #[.agg #[.int .i64 x172000_1, .int .i64 x172001_1, .int .i64 x172002_1]] rfl (by (try simp only [List.map_toArray, List.map_cons, List.map_nil]); first | done | rfl | (simp only [List.length_drop, List.length_take]; rfl)) ?_; (with_reducible refine (joustref08_Take.calls x172000_1 x172001_1 x172002_1 t178 t179 t180 t181 _ A27.out).mono ?_); rintro e w33 ⟨rfl, hb⟩; refine ⟨_, rfl, ?_⟩; have n0_ := Aside0.mk (Kd.R_below (by (with_reducible repeat (first | apply Kd.R_alloc | apply Kd.R_drewN | apply Kd.R_drew)); exact HO_11.out) hb); have n1_ := Aside0.mk (Kd.R_below (by (with_reducible repeat (first | apply Kd.R_alloc | apply Kd.R_drewN | apply Kd.R_drew)); exact HO_12.out) hb); have n2_ := Aside0.mk (blk_below (g := gb166) (o := .cells #[.int .i64 t175, .int .i64 t176, .int .i64 t177] 52 (0, 0)) (by (with_reducible repeat (first | refine blk_drewN ?_ _ | refine blk_drew ?_ | refine blk_alloc ?_ _)); exact BK166.out) hb); have n3_ := Aside0.mk (blk_below (g := gb171) (o := .cells #[.int .i64 x172000_1, .int .i64 x172001_1, .int .i64 x172002_1] 56 (0, 0)) (by (with_reducible repeat (first | refine blk_drewN ?_ _ | refine blk_drew ?_ | refine blk_alloc ?_ _)); exact BK171.out) hb); have n4_ := Aside0.mk (blk_below (g := gb173) (o := .cells #[.int .i64 ((rd_T62 l2 x13_1).f0), .int .u64 ((rd_T62 l2 x13_1).f1)] 62 (0, 0)) (by (with_reducible repeat (first | refine blk_drewN ?_ _ | refine blk_drew ?_ | refine blk_alloc ?_ _)); exact BK173.out) hb); have n5_ := Aside0.mk (below_step (by repeat (first | (with_reducible first | exact HB.out | apply below_alloc | apply pw_below_drewN | apply below_drew1 | refine below_set ?_ GE166.out | refine below_set ?_ GE171.out | refine below_set ?_ GE173.out) | exact HB.out)) hb); clear HO_11; clear HO_12; clear BK166; clear BK171; clear BK173; clear HB; have HO_11 := n0_; have HO_12 := n1_; have BK166 := n2_; have BK171 := n3_; have BK173 := n4_; have HB := n5_; clear n0_ n1_ n2_ n3_ n4_ n5_; (try clear hb); (try clear hb2); (try clear hk); (try clear hi)) | ((with_reducible refine gate_dst (N := 16) rfl ?_); refine box_event ?hg (N := 16) ?hd (cs := #[.int .i64 0, .int .i64 0, .int .i64 0]) (t := 56) ?hr ?_; (case hd => rfl); (case hg => rfl); (case hr => first | (go_simp; done) | (go_simp; rfl)); intro gb182 hg w34 hbox hb; have n0_ := Aside0.mk (Kd.R_below (by (with_reducible repeat (first | apply Kd.R_alloc | apply Kd.R_drewN | apply Kd.R_drew)); exact HO_11.out) hb); have n1_ := Aside0.mk (Kd.R_below (Kd.R_elderB (by (with_reducible repeat (first | apply Kd.R_alloc | apply Kd.R_drewN | apply Kd.R_drew)); exact HO_12.out) gb182 (Nat.le_of_eq hg.symm)) hb); have n2_ := Aside0.mk (blk_below (g := gb166) (o := .cells #[.int .i64 t175, .int .i64 t176, .int .i64 t177] 52 (0, 0)) (by (with_reducible repeat (first | refine blk_drewN ?_ _ | refine blk_drew ?_ | refine blk_alloc ?_ _)); exact BK166.out) hb); have n3_ := Aside0.mk (blk_below (g := gb171) (o := .cells #[.int .i64 x172000_1, .int .i64 x172001_1, .int .i64 x172002_1] 56 (0, 0)) (by (with_reducible repeat (first | refine blk_drewN ?_ _ | refine blk_drew ?_ | refine blk_alloc ?_ _)); exact BK171.out) hb); have n4_ := Aside0.mk (blk_below (g := gb173) (o := .cells #[.int .i64 ((rd_T62 l2 x13_1).f0), .int .u64 ((rd_T62 l2 x13_1).f1)] 62 (0, 0)) (by (with_reducible repeat (first | refine blk_drewN ?_ _ | refine blk_drew ?_ | refine blk_alloc ?_ _)); exact BK173.out) hb); have n5_ := Aside0.mk (below_step (by repeat (first | (with_reducible first | exact HB.out | apply below_alloc | apply pw_below_drewN | apply below_drew1 | refine below_set ?_ GE166.out | refine below_set ?_ GE171.out | refine below_set ?_ GE173.out) | exact HB.out)) hb); have n6_ := Aside0.mk (hbox); have n7_ := Aside0.mk ((by rw [hg]; exact (below_size (by repeat (first | (with_reducible first | exact HB.out | apply below_alloc | apply pw_below_drewN | apply below_drew1 | refine below_set ?_ GE166.out | refine below_set ?_ GE171.out | refine below_set ?_ GE173.out) | exact HB.out))) : w.heap.size ≤ gb182)); have n8_ := Aside0.mk ((by rw [hg]; exact (below_size (by repeat (first | (with_reducible first | exact HB.out | apply below_alloc | apply pw_below_drewN | apply below_drew1 | refine below_set ?_ GE166.out | refine below_set ?_ GE171.out | refine below_set ?_ GE173.out) | exact HB.out))) : w.heap.size ≤ gb182)); have n9_ := Aside0.mk ((by rw [hg]; exact Nat.ne_of_lt (blk_lt (g := gb166) (o := .cells #[.int .i64 t175, .int .i64 t176, .int .i64 t177] 52 (0, 0)) (by (with_reducible repeat (first | refine blk_drewN ?_ _ | refine blk_drew ?_ | refine blk_alloc ?_ _)); exact BK166.out)) : gb166 ≠ gb182)); have n10_ := Aside0.mk ((by rw [hg]; exact Nat.ne_of_gt (blk_lt (g := gb166) (o := .cells #[.int .i64 t175, .int .i64 t176, .int .i64 t177] 52 (0, 0)) (by (with_reducible repeat (first | refine blk_drewN ?_ _ | refine blk_drew ?_ | refine blk_alloc ?_ _)); exact BK166.out)) : gb182 ≠ gb166)); have n11_ := Aside0.mk ((by rw [hg]; exact Nat.ne_of_lt (blk_lt (g := gb171) (o := .cells #[.int .i64 x172000_1, .int .i64 x172001_1, .int .i64 x172002_1] 56 (0, 0)) (by (with_reducible repeat (first | refine blk_drewN ?_ _ | refine blk_drew ?_ | refine blk_alloc ?_ _)); exact BK171.out)) : gb171 ≠ gb182)); have n12_ := Aside0.mk ((by rw [hg]; exact Nat.ne_of_gt (blk_lt (g := gb171) (o := .cells #[.int .i64 x172000_1, .int .i64 x172001_1, .int .i64 x172002_1] 56 (0, 0)) (by (with_reducible repeat (first | refine blk_drewN ?_ _ | refine blk_drew ?_ | refine blk_alloc ?_ _)); exact BK171.out)) : gb182 ≠ gb171)); have n13_ := Aside0.mk ((by rw [hg]; exact Nat.ne_of_lt (blk_lt (g := gb173) (o := .cells #[.int .i64 ((rd_T62 l2 x13_1).f0), .int .u64 ((rd_T62 l2 x13_1).f1)] 62 (0, 0)) (by (with_reducible repeat (first | refine blk_drewN ?_ _ | refine blk_drew ?_ | refine blk_alloc ?_ _)); exact BK173.out)) : gb173 ≠ gb182)); have n14_ := Aside0.mk ((by rw [hg]; exact Nat.ne_of_gt (blk_lt (g := gb173) (o := .cells #[.int .i64 ((rd_T62 l2 x13_1).f0), .int .u64 ((rd_T62 l2 x13_1).f1)] 62 (0, 0)) (by (with_reducible repeat (first | refine blk_drewN ?_ _ | refine blk_drew ?_ | refine blk_alloc ?_ _)); exact BK173.out)) : gb182 ≠ gb173)); clear HO_11; clear HO_12; clear BK166; clear BK171; clear BK173; clear HB; have HO_11 := n0_; have HO_12 := n1_; have BK166 := n2_; have BK171 := n3_; have BK173 := n4_; have HB := n5_; have BK182 := n6_; have GW182 := n7_; have GE182 := n8_; have NB166_182 := n9_; have NB182_166 := n10_; have NB171_182 := n11_; have NB182_171 := n12_; have NB173_182 := n13_; have NB182_173 := n14_; clear n0_ n1_ n2_ n3_ n4_ n5_ n6_ n7_ n8_ n9_ n10_ n11_ n12_ n13_ n14_; clear hb hbox hg; have hnb35 := NB182_166.out; have hnc35 := NB166_182.out; have hnb36 := NB182_171.out; have hnc36 := NB171_182.out; have hnb37 := NB182_173.out; have hnc37 := NB173_182.out; have hcz38_0 : w34.cell? ⟨gb182, 0, none⟩ = some (.int .i64 0) := (blk_cell BK182.out 0).trans rfl; have hcz38_1 : w34.cell? ⟨gb182, 1, none⟩ = some (.int .i64 0) := (blk_cell BK182.out 1).trans rfl; have hcz38_2 : w34.cell? ⟨gb182, 2, none⟩ = some (.int .i64 0) := (blk_cell BK182.out 2).trans rfl; have hfz38_0 := blk_frozen BK182.out 0; have hfz38_1 := blk_frozen BK182.out 1; have hfz38_2 := blk_frozen BK182.out 2; have hcz39_0 : w34.cell? ⟨gb171, 0, none⟩ = some (.int .i64 x172000_1) := (blk_cell BK171.out 0).trans rfl; have hcz39_1 : w34.cell? ⟨gb171, 1, none⟩ = some (.int .i64 x172001_1) := (blk_cell BK171.out 1).trans rfl; have hcz39_2 : w34.cell? ⟨gb171, 2, none⟩ = some (.int .i64 x172002_1) := (blk_cell BK171.out 2).trans rfl; have hfz39_0 := blk_frozen BK171.out 0; have hfz39_1 := blk_frozen BK171.out 1; have hfz39_2 := blk_frozen BK171.out 2))
                      go_meet
                      case rel => exact ⟨_, (x11_1), (x12_1), (t175), (t176), (t177), (t178), (t179), (t180), H', ⟨by have := HK1.out; first | omega | exact Nat.le_refl _⟩, ⟨by (with_reducible repeat (first | apply Kd.R_alloc | apply Kd.R_drewN | apply Kd.R_drew)); exact Kd.R_mono (Kd.R_far (p := ⟨gb171, 2, none⟩) (Kd.R_far (p := ⟨gb171, 1, none⟩) (Kd.R_far (p := ⟨gb171, 0, none⟩) (Kd.R_far (p := ⟨gb182, 2, none⟩) (Kd.R_far (p := ⟨gb182, 1, none⟩) (Kd.R_far (p := ⟨gb182, 0, none⟩) (Kd.R_types (Kd.R_types HO_11.out BK182.out (by decide)) BK171.out (by decide)) (fun _ hk => hk.1.2) (.int .i64 t178)) (fun _ hk => hk.1.2) (.int .i64 t179)) (fun _ hk => hk.1.2) (.int .i64 t180)) (fun _ hk => hk.2) (.int .i64 t178)) (fun _ hk => hk.2) (.int .i64 t179)) (fun _ hk => hk.2) (.int .i64 t180)) (fun _ hk => hk.1.1)⟩, ⟨by (with_reducible repeat (first | apply Kd.R_alloc | apply Kd.R_drewN | apply Kd.R_drew)); exact Kd.R_mono (Kd.R_far (p := ⟨gb171, 2, none⟩) (Kd.R_far (p := ⟨gb171, 1, none⟩) (Kd.R_far (p := ⟨gb171, 0, none⟩) (Kd.R_far (p := ⟨gb182, 2, none⟩) (Kd.R_far (p := ⟨gb182, 1, none⟩) (Kd.R_far (p := ⟨gb182, 0, none⟩) (Kd.R_mono (Kd.R_mono HO_12.out (fun k_ hk => (⟨hk, hk.2⟩ : _ ∧ k_ ≠ gb182))) (fun k_ hk => (⟨hk, hk.1.1⟩ : _ ∧ k_ ≠ gb171))) (fun _ hk => hk.1.2) (.int .i64 t178)) (fun _ hk => hk.1.2) (.int .i64 t179)) (fun _ hk => hk.1.2) (.int .i64 t180)) (fun _ hk => hk.2) (.int .i64 t178)) (fun _ hk => hk.2) (.int .i64 t179)) (fun _ hk => hk.2) (.int .i64 t180)) (fun _ hk => hk.1.1.1)⟩, ⟨by (with_reducible repeat (first | refine blk_drewN ?_ _ | refine blk_drew ?_ | refine blk_alloc ?_ _)); refine blk_far ?_ NB166_171.out _; (with_reducible repeat (first | refine blk_drewN ?_ _ | refine blk_drew ?_ | refine blk_alloc ?_ _)); refine blk_far ?_ NB166_171.out _; (with_reducible repeat (first | refine blk_drewN ?_ _ | refine blk_drew ?_ | refine blk_alloc ?_ _)); refine blk_far ?_ NB166_171.out _; (with_reducible repeat (first | refine blk_drewN ?_ _ | refine blk_drew ?_ | refine blk_alloc ?_ _)); refine blk_far ?_ NB166_182.out _; (with_reducible repeat (first | refine blk_drewN ?_ _ | refine blk_drew ?_ | refine blk_alloc ?_ _)); refine blk_far ?_ NB166_182.out _; (with_reducible repeat (first | refine blk_drewN ?_ _ | refine blk_drew ?_ | refine blk_alloc ?_ _)); refine blk_far ?_ NB166_182.out _; (with_reducible repeat (first | refine blk_drewN ?_ _ | refine blk_drew ?_ | refine blk_alloc ?_ _)); exact BK166.out⟩, ⟨by (with_reducible repeat (first | refine blk_drewN ?_ _ | refine blk_drew ?_ | refine blk_alloc ?_ _)); refine blk_put (cs := #[.int .i64 t178, .int .i64 t179, .int .i64 x172002_1]) ?_ 2 _ rfl; (with_reducible repeat (first | refine blk_drewN ?_ _ | refine blk_drew ?_ | refine blk_alloc ?_ _)); refine blk_put (cs := #[.int .i64 t178, .int .i64 x172001_1, .int .i64 x172002_1]) ?_ 1 _ rfl; (with_reducible repeat (first | refine blk_drewN ?_ _ | refine blk_drew ?_ | refine blk_alloc ?_ _)); refine blk_put (cs := #[.int .i64 x172000_1, .int .i64 x172001_1, .int .i64 x172002_1]) ?_ 0 _ rfl; (with_reducible repeat (first | refine blk_drewN ?_ _ | refine blk_drew ?_ | refine blk_alloc ?_ _)); refine blk_far ?_ NB171_182.out _; (with_reducible repeat (first | refine blk_drewN ?_ _ | refine blk_drew ?_ | refine blk_alloc ?_ _)); refine blk_far ?_ NB171_182.out _; (with_reducible repeat (first | refine blk_drewN ?_ _ | refine blk_drew ?_ | refine blk_alloc ?_ _)); refine blk_far ?_ NB171_182.out _; (with_reducible repeat (first | refine blk_drewN ?_ _ | refine blk_drew ?_ | refine blk_alloc ?_ _)); exact BK171.out⟩, ⟨by (with_reducible repeat (first | refine blk_drewN ?_ _ | refine blk_drew ?_ | refine blk_alloc ?_ _)); refine blk_far ?_ NB173_171.out _; (with_reducible repeat (first | refine blk_drewN ?_ _ | refine blk_drew ?_ | refine blk_alloc ?_ _)); refine blk_far ?_ NB173_171.out _; (with_reducible repeat (first | refine blk_drewN ?_ _ | refine blk_drew ?_ | refine blk_alloc ?_ _)); refine blk_far ?_ NB173_171.out _; (with_reducible repeat (first | refine blk_drewN ?_ _ | refine blk_drew ?_ | refine blk_alloc ?_ _)); refine blk_far ?_ NB173_182.out _; (with_reducible repeat (first | refine blk_drewN ?_ _ | refine blk_drew ?_ | refine blk_alloc ?_ _)); refine blk_far ?_ NB173_182.out _; (with_reducible repeat (first | refine blk_drewN ?_ _ | refine blk_drew ?_ | refine blk_alloc ?_ _)); refine blk_far ?_ NB173_182.out _; (with_reducible repeat (first | refine blk_drewN ?_ _ | refine blk_drew ?_ | refine blk_alloc ?_ _)); exact BK173.out⟩, ⟨by repeat (first | (with_reducible first | exact HB.out | apply below_alloc | apply pw_below_drewN | apply below_drew1 | refine below_set ?_ GE166.out | refine below_set ?_ GE171.out | refine below_set ?_ GE173.out | refine below_set ?_ GE182.out) | exact HB.out)⟩⟩
                    · rw [if_neg c28] at H
                      have c28b0 : (t174 == t181) = false := beq_eq_false_iff_ne.mpr c28
                      have c28b1 : (t174 != t181) = true := bne_iff_ne.mpr c28
                      obtain rfl := Option.some.inj H
                      go_wp2_with (first | ((with_reducible refine gate_callee (f := 24) rfl ?_); refine goesL_ (some 55) rfl rfl Try.func24 (by kernel_rfl) rfl #[.pointer (some ⟨gb166, 0, none⟩)] rfl (by (try simp only [List.map_toArray, List.map_cons, List.map_nil]); first | done | rfl | (simp only [List.length_drop, List.length_take]; rfl)) ?_; (with_reducible refine (bucket_Bucket_Take.calls gb166 x167000_1 x167001_1 x167002_1 t174 t175 t176 t177 w _ ?side1 ?side2 A26.out).mono ?_); (case side1 => repeat (first | (with_reducible first | exact (Aside0.mk (IsS52.mk_ BK166.out GE166.out)).out | apply IsS52.alloc | apply IsS52.drewN | apply IsS52.drew | apply IsS52.set_0 | apply IsS52.set_1 | apply IsS52.set_2 | refine IsS52.far ?_ NB166_171.out _ | refine IsS52.far ?_ NB166_173.out _) | exact (Aside0.mk (IsS52.mk_ BK166.out GE166.out)).out)); (case side2 => repeat (first | (with_reducible first | exact HB.out | apply below_alloc | apply pw_below_drewN | apply below_drew1 | refine below_set ?_ (IsS52.ge (Aside0.mk (IsS52.mk_ BK166.out GE166.out)).out) | refine below_set ?_ GE171.out | refine below_set ?_ GE173.out) | exact HB.out)); rintro e w40 ⟨rfl, hi, hb, hk⟩; refine ⟨_, rfl, ?_⟩; have n0_ := Aside0.mk (Kd.R_mono (Kd.R_keep (Kd.R_mono (ok := fun k_ => k_ ≠ gb166) (by (with_reducible repeat (first | apply Kd.R_alloc | apply Kd.R_drewN | apply Kd.R_drew)); exact (Kd.R_mono (Kd.R_far (p := ⟨gb173, 1, none⟩) (Kd.R_far (p := ⟨gb173, 0, none⟩) (Kd.R_types HO_11.out BK173.out (by decide)) (fun _ hk => hk.2) (.int .i64 ((rd_T62 l2 x13_1).f0))) (fun _ hk => hk.2) (.int .u64 ((rd_T62 l2 x13_1).f1))) (fun _ h_ => h_.1))) (fun k_ hk_ => (⟨hk_, hk_⟩ : _ ∧ k_ ≠ gb166))) hk (fun _ h => h.2)) (fun _ h => h.1)); have n1_ := Aside0.mk (Kd.R_mono (Kd.R_keep (IsS52.apart (show IsS52 w _ gb166 x167000_1 x167001_1 x167002_1 from by repeat (first | (with_reducible first | exact (Aside0.mk (IsS52.mk_ BK166.out GE166.out)).out | apply IsS52.alloc | apply IsS52.drewN | apply IsS52.drew | apply IsS52.set_0 | apply IsS52.set_1 | apply IsS52.set_2 | refine IsS52.far ?_ NB166_171.out _ | refine IsS52.far ?_ NB166_173.out _) | exact (Aside0.mk (IsS52.mk_ BK166.out GE166.out)).out)) (by (with_reducible repeat (first | apply Kd.R_alloc | apply Kd.R_drewN | apply Kd.R_drew)); exact (Kd.R_mono (Kd.R_far (p := ⟨gb173, 1, none⟩) (Kd.R_far (p := ⟨gb173, 0, none⟩) (Kd.R_types HO_12.out BK173.out (by decide)) (fun _ hk => hk.2) (.int .i64 ((rd_T62 l2 x13_1).f0))) (fun _ hk => hk.2) (.int .u64 ((rd_T62 l2 x13_1).f1))) (fun _ h_ => h_.1))) (by decide)) hk (fun _ h => h.2)) (fun _ h => h.1)); have n2_ := Aside0.mk (KeepBut.blk hk (g' := gb171) (o := .cells #[.int .i64 x172000_1, .int .i64 x172001_1, .int .i64 x172002_1] 56 (0, 0)) (by (with_reducible repeat (first | refine blk_drewN ?_ _ | refine blk_drew ?_ | refine blk_alloc ?_ _)); refine blk_far ?_ NB171_173.out _; (with_reducible repeat (first | refine blk_drewN ?_ _ | refine blk_drew ?_ | refine blk_alloc ?_ _)); refine blk_far ?_ NB171_173.out _; (with_reducible repeat (first | refine blk_drewN ?_ _ | refine blk_drew ?_ | refine blk_alloc ?_ _)); exact BK171.out) NB171_166.out (by simp)); have n3_ := Aside0.mk (KeepBut.blk hk (g' := gb173) (o := .cells #[.int .i64 ((rd_T62 l2 x13_1).f0), .int .u64 ((rd_T62 l2 x13_1).f1)] 62 (0, 0)) (by (with_reducible repeat (first | refine blk_drewN ?_ _ | refine blk_drew ?_ | refine blk_alloc ?_ _)); refine blk_put (cs := #[.int .i64 ((rd_T62 l2 x13_1).f0), .int .u64 0]) ?_ 1 _ rfl; (with_reducible repeat (first | refine blk_drewN ?_ _ | refine blk_drew ?_ | refine blk_alloc ?_ _)); refine blk_put (cs := #[.int .i64 0, .int .u64 0]) ?_ 0 _ rfl; (with_reducible repeat (first | refine blk_drewN ?_ _ | refine blk_drew ?_ | refine blk_alloc ?_ _)); exact BK173.out) NB173_166.out (by simp)); have n4_ := Aside0.mk (hb); have n5_ := Aside0.mk (hi.1); clear HO_11; clear HO_12; clear BK171; clear BK173; clear HB; clear BK166; have HO_11 := n0_; have HO_12 := n1_; have BK171 := n2_; have BK173 := n3_; have HB := n4_; have BK166 := n5_; clear n0_ n1_ n2_ n3_ n4_ n5_; (try clear hb); (try clear hb2); (try clear hk); (try clear hi); have hnb41 := NB171_166.out; have hnc41 := NB166_171.out; have hnb42 := NB171_173.out; have hnc42 := NB173_171.out; have hcz43_0 : w40.cell? ⟨gb171, 0, none⟩ = some (.int .i64 x172000_1) := (blk_cell BK171.out 0).trans rfl; have hcz43_1 : w40.cell? ⟨gb171, 1, none⟩ = some (.int .i64 x172001_1) := (blk_cell BK171.out 1).trans rfl; have hcz43_2 : w40.cell? ⟨gb171, 2, none⟩ = some (.int .i64 x172002_1) := (blk_cell BK171.out 2).trans rfl; have hfz43_0 := blk_frozen BK171.out 0; have hfz43_1 := blk_frozen BK171.out 1; have hfz43_2 := blk_frozen BK171.out 2) | ((with_reducible refine gate_callee (f := 25) rfl ?_); refine goesL_ (some 58) rfl rfl Try.func25 (by kernel_rfl) rfl #[.agg #[.int .i64 x172000_1, .int .i64 x172001_1, .int .i64 x172002_1]] rfl (by (try simp only [List.map_toArray, List.map_cons, List.map_nil]); first | done | rfl | (simp only [List.length_drop, List.length_take]; rfl)) ?_; (with_reducible refine (joustref08_Take.calls x172000_1 x172001_1 x172002_1 t178 t179 t180 t181 _ A27.out).mono ?_); rintro e w44 ⟨rfl, hb⟩; refine ⟨_, rfl, ?_⟩; have n0_ := Aside0.mk (Kd.R_below (by (with_reducible repeat (first | apply Kd.R_alloc | apply Kd.R_drewN | apply Kd.R_drew)); exact HO_11.out) hb); have n1_ := Aside0.mk (Kd.R_below (by (with_reducible repeat (first | apply Kd.R_alloc | apply Kd.R_drewN | apply Kd.R_drew)); exact HO_12.out) hb); have n2_ := Aside0.mk (blk_below (g := gb166) (o := .cells #[.int .i64 t175, .int .i64 t176, .int .i64 t177] 52 (0, 0)) (by (with_reducible repeat (first | refine blk_drewN ?_ _ | refine blk_drew ?_ | refine blk_alloc ?_ _)); exact BK166.out) hb); have n3_ := Aside0.mk (blk_below (g := gb171) (o := .cells #[.int .i64 x172000_1, .int .i64 x172001_1, .int .i64 x172002_1] 56 (0, 0)) (by (with_reducible repeat (first | refine blk_drewN ?_ _ | refine blk_drew ?_ | refine blk_alloc ?_ _)); exact BK171.out) hb); have n4_ := Aside0.mk (blk_below (g := gb173) (o := .cells #[.int .i64 ((rd_T62 l2 x13_1).f0), .int .u64 ((rd_T62 l2 x13_1).f1)] 62 (0, 0)) (by (with_reducible repeat (first | refine blk_drewN ?_ _ | refine blk_drew ?_ | refine blk_alloc ?_ _)); exact BK173.out) hb); have n5_ := Aside0.mk (below_step (by repeat (first | (with_reducible first | exact HB.out | apply below_alloc | apply pw_below_drewN | apply below_drew1 | refine below_set ?_ GE166.out | refine below_set ?_ GE171.out | refine below_set ?_ GE173.out) | exact HB.out)) hb); clear HO_11; clear HO_12; clear BK166; clear BK171; clear BK173; clear HB; have HO_11 := n0_; have HO_12 := n1_; have BK166 := n2_; have BK171 := n3_; have BK173 := n4_; have HB := n5_; clear n0_ n1_ n2_ n3_ n4_ n5_; (try clear hb); (try clear hb2); (try clear hk); (try clear hi)) | ((with_reducible refine gate_dst (N := 16) rfl ?_); refine box_event ?hg (N := 16) ?hd (cs := #[.int .i64 0, .int .i64 0, .int .i64 0]) (t := 56) ?hr ?_; (case hd => rfl); (case hg => rfl); (case hr => first | (go_simp; done) | (go_simp; rfl)); intro gb182 hg w45 hbox hb; have n0_ := Aside0.mk (Kd.R_below (by (with_reducible repeat (first | apply Kd.R_alloc | apply Kd.R_drewN | apply Kd.R_drew)); exact HO_11.out) hb); have n1_ := Aside0.mk (Kd.R_below (Kd.R_elderB (by (with_reducible repeat (first | apply Kd.R_alloc | apply Kd.R_drewN | apply Kd.R_drew)); exact HO_12.out) gb182 (Nat.le_of_eq hg.symm)) hb); have n2_ := Aside0.mk (blk_below (g := gb166) (o := .cells #[.int .i64 t175, .int .i64 t176, .int .i64 t177] 52 (0, 0)) (by (with_reducible repeat (first | refine blk_drewN ?_ _ | refine blk_drew ?_ | refine blk_alloc ?_ _)); exact BK166.out) hb); have n3_ := Aside0.mk (blk_below (g := gb171) (o := .cells #[.int .i64 x172000_1, .int .i64 x172001_1, .int .i64 x172002_1] 56 (0, 0)) (by (with_reducible repeat (first | refine blk_drewN ?_ _ | refine blk_drew ?_ | refine blk_alloc ?_ _)); exact BK171.out) hb); have n4_ := Aside0.mk (blk_below (g := gb173) (o := .cells #[.int .i64 ((rd_T62 l2 x13_1).f0), .int .u64 ((rd_T62 l2 x13_1).f1)] 62 (0, 0)) (by (with_reducible repeat (first | refine blk_drewN ?_ _ | refine blk_drew ?_ | refine blk_alloc ?_ _)); exact BK173.out) hb); have n5_ := Aside0.mk (below_step (by repeat (first | (with_reducible first | exact HB.out | apply below_alloc | apply pw_below_drewN | apply below_drew1 | refine below_set ?_ GE166.out | refine below_set ?_ GE171.out | refine below_set ?_ GE173.out) | exact HB.out)) hb); have n6_ := Aside0.mk (hbox); have n7_ := Aside0.mk ((by rw [hg]; exact (below_size (by repeat (first | (with_reducible first | exact HB.out | apply below_alloc | apply pw_below_drewN | apply below_drew1 | refine below_set ?_ GE166.out | refine below_set ?_ GE171.out | refine below_set ?_ GE173.out) | exact HB.out))) : w.heap.size ≤ gb182)); have n8_ := Aside0.mk ((by rw [hg]; exact (below_size (by repeat (first | (with_reducible first | exact HB.out | apply below_alloc | apply pw_below_drewN | apply below_drew1 | refine below_set ?_ GE166.out | refine below_set ?_ GE171.out | refine below_set ?_ GE173.out) | exact HB.out))) : w.heap.size ≤ gb182)); have n9_ := Aside0.mk ((by rw [hg]; exact Nat.ne_of_lt (blk_lt (g := gb166) (o := .cells #[.int .i64 t175, .int .i64 t176, .int .i64 t177] 52 (0, 0)) (by (with_reducible repeat (first | refine blk_drewN ?_ _ | refine blk_drew ?_ | refine blk_alloc ?_ _)); exact BK166.out)) : gb166 ≠ gb182)); have n10_ := Aside0.mk ((by rw [hg]; exact Nat.ne_of_gt (blk_lt (g := gb166) (o := .cells #[.int .i64 t175, .int .i64 t176, .int .i64 t177] 52 (0, 0)) (by (with_reducible repeat (first | refine blk_drewN ?_ _ | refine blk_drew ?_ | refine blk_alloc ?_ _)); exact BK166.out)) : gb182 ≠ gb166)); have n11_ := Aside0.mk ((by rw [hg]; exact Nat.ne_of_lt (blk_lt (g := gb171) (o := .cells #[.int .i64 x172000_1, .int .i64 x172001_1, .int .i64 x172002_1] 56 (0, 0)) (by (with_reducible repeat (first | refine blk_drewN ?_ _ | refine blk_drew ?_ | refine blk_alloc ?_ _)); exact BK171.out)) : gb171 ≠ gb182)); have n12_ := Aside0.mk ((by rw [hg]; exact Nat.ne_of_gt (blk_lt (g := gb171) (o := .cells #[.int .i64 x172000_1, .int .i64 x172001_1, .int .i64 x172002_1] 56 (0, 0)) (by (with_reducible repeat (first | refine blk_drewN ?_ _ | refine blk_drew ?_ | refine blk_alloc ?_ _)); exact BK171.out)) : gb182 ≠ gb171)); have n13_ := Aside0.mk ((by rw [hg]; exact Nat.ne_of_lt (blk_lt (g := gb173) (o := .cells #[.int .i64 ((rd_T62 l2 x13_1).f0), .int .u64 ((rd_T62 l2 x13_1).f1)] 62 (0, 0)) (by (with_reducible repeat (first | refine blk_drewN ?_ _ | refine blk_drew ?_ | refine blk_alloc ?_ _)); exact BK173.out)) : gb173 ≠ gb182)); have n14_ := Aside0.mk ((by rw [hg]; exact Nat.ne_of_gt (blk_lt (g := gb173) (o := .cells #[.int .i64 ((rd_T62 l2 x13_1).f0), .int .u64 ((rd_T62 l2 x13_1).f1)] 62 (0, 0)) (by (with_reducible repeat (first | refine blk_drewN ?_ _ | refine blk_drew ?_ | refine blk_alloc ?_ _)); exact BK173.out)) : gb182 ≠ gb173)); clear HO_11; clear HO_12; clear BK166; clear BK171; clear BK173; clear HB; have HO_11 := n0_; have HO_12 := n1_; have BK166 := n2_; have BK171 := n3_; have BK173 := n4_; have HB := n5_; have BK182 := n6_; have GW182 := n7_; have GE182 := n8_; have NB166_182 := n9_; have NB182_166 := n10_; have NB171_182 := n11_; have NB182_171 := n12_; have NB173_182 := n13_; have NB182_173 := n14_; clear n0_ n1_ n2_ n3_ n4_ n5_ n6_ n7_ n8_ n9_ n10_ n11_ n12_ n13_ n14_; clear hb hbox hg; have hnb46 := NB182_166.out; have hnc46 := NB166_182.out; have hnb47 := NB182_171.out; have hnc47 := NB171_182.out; have hnb48 := NB182_173.out; have hnc48 := NB173_182.out; have hcz49_0 : w45.cell? ⟨gb182, 0, none⟩ = some (.int .i64 0) := (blk_cell BK182.out 0).trans rfl; have hcz49_1 : w45.cell? ⟨gb182, 1, none⟩ = some (.int .i64 0) := (blk_cell BK182.out 1).trans rfl; have hcz49_2 : w45.cell? ⟨gb182, 2, none⟩ = some (.int .i64 0) := (blk_cell BK182.out 2).trans rfl; have hfz49_0 := blk_frozen BK182.out 0; have hfz49_1 := blk_frozen BK182.out 1; have hfz49_2 := blk_frozen BK182.out 2; have hcz50_0 : w45.cell? ⟨gb171, 0, none⟩ = some (.int .i64 x172000_1) := (blk_cell BK171.out 0).trans rfl; have hcz50_1 : w45.cell? ⟨gb171, 1, none⟩ = some (.int .i64 x172001_1) := (blk_cell BK171.out 1).trans rfl; have hcz50_2 : w45.cell? ⟨gb171, 2, none⟩ = some (.int .i64 x172002_1) := (blk_cell BK171.out 2).trans rfl; have hfz50_0 := blk_frozen BK171.out 0; have hfz50_1 := blk_frozen BK171.out 1; have hfz50_2 := blk_frozen BK171.out 2))
                      go_ret
                      exact ⟨by first | rfl | (simp [errW_none, errW_some] <;> rfl) | (simp [*, errW_none, errW_some] <;> rfl), by repeat (first | (with_reducible first | exact HB.out | apply below_alloc | apply pw_below_drewN | apply below_drew1 | refine below_set ?_ GE166.out | refine below_set ?_ GE171.out | refine below_set ?_ GE173.out | refine below_set ?_ GE182.out) | exact HB.out)⟩
                  · rw [if_neg c25] at H
                    have c25b0 : (((rd_T62 l2 x13_1).f0) == 1) = false := beq_eq_false_iff_ne.mpr c25
                    have c25b1 : (((rd_T62 l2 x13_1).f0) != 1) = true := bne_iff_ne.mpr c25
                    (first | rw [c25b0] | (simp only [i64_w, i32_w]; rw [c25b0]) | skip)
                    by_cases c51 : ((rd_T62 l2 x13_1).f0) = 2
                    · rw [if_pos c51] at H
                      have c51b0 : (((rd_T62 l2 x13_1).f0) == 2) = true := beq_iff_eq.mpr c51
                      have c51b1 : (((rd_T62 l2 x13_1).f0) != 2) = false := bne_eq_false_iff_eq.mpr c51
                      clear c51
                      replace H := Option.bind_eq_some_iff.mp H
                      obtain ⟨⟨t183, t184, t185⟩, A520, H⟩ := H
                      replace H : ((joustref08_Tick.f x172000_1 x172001_1 x172002_1).bind fun bt186 => (joustlaw08_BucketPlays.j1 k1 l2 x11_1 x12_1 x13_1 t183 t184 t185 bt186.1 bt186.2.1 bt186.2.2)) = some r := H
                      have A52 := Aside0.mk A520
                      clear A520
                      replace H := Option.bind_eq_some_iff.mp H
                      obtain ⟨⟨t186, t187, t188⟩, A530, H⟩ := H
                      replace H : (joustlaw08_BucketPlays.j1 k1 l2 x11_1 x12_1 x13_1 t183 t184 t185 t186 t187 t188) = some r := H
                      have A53 := Aside0.mk A530
                      clear A530
                      have H' := Aside0.mk H
                      clear H
                      go_wp2_with (first | ((with_reducible refine gate_callee (f := 26) rfl ?_); refine goesL_ (some 67) rfl rfl Try.func26 (by kernel_rfl) rfl #[.pointer (some ⟨gb166, 0, none⟩)] rfl (by (try simp only [List.map_toArray, List.map_cons, List.map_nil]); first | done | rfl | (simp only [List.length_drop, List.length_take]; rfl)) ?_; (with_reducible refine (bucket_Bucket_Tick.calls gb166 x167000_1 x167001_1 x167002_1 t183 t184 t185 w _ ?side1 ?side2 A52.out).mono ?_); (case side1 => repeat (first | (with_reducible first | exact (Aside0.mk (IsS52.mk_ BK166.out GE166.out)).out | apply IsS52.alloc | apply IsS52.drewN | apply IsS52.drew | apply IsS52.set_0 | apply IsS52.set_1 | apply IsS52.set_2 | refine IsS52.far ?_ NB166_171.out _ | refine IsS52.far ?_ NB166_173.out _) | exact (Aside0.mk (IsS52.mk_ BK166.out GE166.out)).out)); (case side2 => repeat (first | (with_reducible first | exact HB.out | apply below_alloc | apply pw_below_drewN | apply below_drew1 | refine below_set ?_ (IsS52.ge (Aside0.mk (IsS52.mk_ BK166.out GE166.out)).out) | refine below_set ?_ GE171.out | refine below_set ?_ GE173.out) | exact HB.out)); rintro e w54 ⟨rfl, hi, hb, hk⟩; refine ⟨_, rfl, ?_⟩; have n0_ := Aside0.mk (Kd.R_mono (Kd.R_keep (Kd.R_mono (ok := fun k_ => k_ ≠ gb166) (by (with_reducible repeat (first | apply Kd.R_alloc | apply Kd.R_drewN | apply Kd.R_drew)); exact (Kd.R_mono (Kd.R_far (p := ⟨gb173, 1, none⟩) (Kd.R_far (p := ⟨gb173, 0, none⟩) (Kd.R_types HO_11.out BK173.out (by decide)) (fun _ hk => hk.2) (.int .i64 ((rd_T62 l2 x13_1).f0))) (fun _ hk => hk.2) (.int .u64 ((rd_T62 l2 x13_1).f1))) (fun _ h_ => h_.1))) (fun k_ hk_ => (⟨hk_, hk_⟩ : _ ∧ k_ ≠ gb166))) hk (fun _ h => h.2)) (fun _ h => h.1)); have n1_ := Aside0.mk (Kd.R_mono (Kd.R_keep (IsS52.apart (show IsS52 w _ gb166 x167000_1 x167001_1 x167002_1 from by repeat (first | (with_reducible first | exact (Aside0.mk (IsS52.mk_ BK166.out GE166.out)).out | apply IsS52.alloc | apply IsS52.drewN | apply IsS52.drew | apply IsS52.set_0 | apply IsS52.set_1 | apply IsS52.set_2 | refine IsS52.far ?_ NB166_171.out _ | refine IsS52.far ?_ NB166_173.out _) | exact (Aside0.mk (IsS52.mk_ BK166.out GE166.out)).out)) (by (with_reducible repeat (first | apply Kd.R_alloc | apply Kd.R_drewN | apply Kd.R_drew)); exact (Kd.R_mono (Kd.R_far (p := ⟨gb173, 1, none⟩) (Kd.R_far (p := ⟨gb173, 0, none⟩) (Kd.R_types HO_12.out BK173.out (by decide)) (fun _ hk => hk.2) (.int .i64 ((rd_T62 l2 x13_1).f0))) (fun _ hk => hk.2) (.int .u64 ((rd_T62 l2 x13_1).f1))) (fun _ h_ => h_.1))) (by decide)) hk (fun _ h => h.2)) (fun _ h => h.1)); have n2_ := Aside0.mk (KeepBut.blk hk (g' := gb171) (o := .cells #[.int .i64 x172000_1, .int .i64 x172001_1, .int .i64 x172002_1] 56 (0, 0)) (by (with_reducible repeat (first | refine blk_drewN ?_ _ | refine blk_drew ?_ | refine blk_alloc ?_ _)); refine blk_far ?_ NB171_173.out _; (with_reducible repeat (first | refine blk_drewN ?_ _ | refine blk_drew ?_ | refine blk_alloc ?_ _)); refine blk_far ?_ NB171_173.out _; (with_reducible repeat (first | refine blk_drewN ?_ _ | refine blk_drew ?_ | refine blk_alloc ?_ _)); exact BK171.out) NB171_166.out (by simp)); have n3_ := Aside0.mk (KeepBut.blk hk (g' := gb173) (o := .cells #[.int .i64 ((rd_T62 l2 x13_1).f0), .int .u64 ((rd_T62 l2 x13_1).f1)] 62 (0, 0)) (by (with_reducible repeat (first | refine blk_drewN ?_ _ | refine blk_drew ?_ | refine blk_alloc ?_ _)); refine blk_put (cs := #[.int .i64 ((rd_T62 l2 x13_1).f0), .int .u64 0]) ?_ 1 _ rfl; (with_reducible repeat (first | refine blk_drewN ?_ _ | refine blk_drew ?_ | refine blk_alloc ?_ _)); refine blk_put (cs := #[.int .i64 0, .int .u64 0]) ?_ 0 _ rfl; (with_reducible repeat (first | refine blk_drewN ?_ _ | refine blk_drew ?_ | refine blk_alloc ?_ _)); exact BK173.out) NB173_166.out (by simp)); have n4_ := Aside0.mk (hb); have n5_ := Aside0.mk (hi.1); clear HO_11; clear HO_12; clear BK171; clear BK173; clear HB; clear BK166; have HO_11 := n0_; have HO_12 := n1_; have BK171 := n2_; have BK173 := n3_; have HB := n4_; have BK166 := n5_; clear n0_ n1_ n2_ n3_ n4_ n5_; (try clear hb); (try clear hb2); (try clear hk); (try clear hi); have hnb55 := NB171_166.out; have hnc55 := NB166_171.out; have hnb56 := NB171_173.out; have hnc56 := NB173_171.out; have hcz57_0 : w54.cell? ⟨gb171, 0, none⟩ = some (.int .i64 x172000_1) := (blk_cell BK171.out 0).trans rfl; have hcz57_1 : w54.cell? ⟨gb171, 1, none⟩ = some (.int .i64 x172001_1) := (blk_cell BK171.out 1).trans rfl; have hcz57_2 : w54.cell? ⟨gb171, 2, none⟩ = some (.int .i64 x172002_1) := (blk_cell BK171.out 2).trans rfl; have hfz57_0 := blk_frozen BK171.out 0; have hfz57_1 := blk_frozen BK171.out 1; have hfz57_2 := blk_frozen BK171.out 2) | ((with_reducible refine gate_callee (f := 27) rfl ?_); refine goesL_ (some 69) rfl rfl Try.func27 (by kernel_rfl) rfl #[.agg #[.int .i64 x172000_1, .int .i64 x172001_1, .int .i64 x172002_1]] rfl (by (try simp only [List.map_toArray, List.map_cons, List.map_nil]); first | done | rfl | (simp only [List.length_drop, List.length_take]; rfl)) ?_; (with_reducible refine (joustref08_Tick.calls x172000_1 x172001_1 x172002_1 t186 t187 t188 _ A53.out).mono ?_); rintro e w58 ⟨rfl, hb⟩; refine ⟨_, rfl, ?_⟩; have n0_ := Aside0.mk (Kd.R_below (by (with_reducible repeat (first | apply Kd.R_alloc | apply Kd.R_drewN | apply Kd.R_drew)); exact HO_11.out) hb); have n1_ := Aside0.mk (Kd.R_below (by (with_reducible repeat (first | apply Kd.R_alloc | apply Kd.R_drewN | apply Kd.R_drew)); exact HO_12.out) hb); have n2_ := Aside0.mk (blk_below (g := gb166) (o := .cells #[.int .i64 t183, .int .i64 t184, .int .i64 t185] 52 (0, 0)) (by (with_reducible repeat (first | refine blk_drewN ?_ _ | refine blk_drew ?_ | refine blk_alloc ?_ _)); exact BK166.out) hb); have n3_ := Aside0.mk (blk_below (g := gb171) (o := .cells #[.int .i64 x172000_1, .int .i64 x172001_1, .int .i64 x172002_1] 56 (0, 0)) (by (with_reducible repeat (first | refine blk_drewN ?_ _ | refine blk_drew ?_ | refine blk_alloc ?_ _)); exact BK171.out) hb); have n4_ := Aside0.mk (blk_below (g := gb173) (o := .cells #[.int .i64 ((rd_T62 l2 x13_1).f0), .int .u64 ((rd_T62 l2 x13_1).f1)] 62 (0, 0)) (by (with_reducible repeat (first | refine blk_drewN ?_ _ | refine blk_drew ?_ | refine blk_alloc ?_ _)); exact BK173.out) hb); have n5_ := Aside0.mk (below_step (by repeat (first | (with_reducible first | exact HB.out | apply below_alloc | apply pw_below_drewN | apply below_drew1 | refine below_set ?_ GE166.out | refine below_set ?_ GE171.out | refine below_set ?_ GE173.out) | exact HB.out)) hb); clear HO_11; clear HO_12; clear BK166; clear BK171; clear BK173; clear HB; have HO_11 := n0_; have HO_12 := n1_; have BK166 := n2_; have BK171 := n3_; have BK173 := n4_; have HB := n5_; clear n0_ n1_ n2_ n3_ n4_ n5_; (try clear hb); (try clear hb2); (try clear hk); (try clear hi); have hcz59_0 : w58.cell? ⟨gb171, 0, none⟩ = some (.int .i64 x172000_1) := (blk_cell BK171.out 0).trans rfl; have hcz59_1 : w58.cell? ⟨gb171, 1, none⟩ = some (.int .i64 x172001_1) := (blk_cell BK171.out 1).trans rfl; have hcz59_2 : w58.cell? ⟨gb171, 2, none⟩ = some (.int .i64 x172002_1) := (blk_cell BK171.out 2).trans rfl; have hfz59_0 := blk_frozen BK171.out 0; have hfz59_1 := blk_frozen BK171.out 1; have hfz59_2 := blk_frozen BK171.out 2))
                      go_meet
                      case rel => exact ⟨_, (x11_1), (x12_1), (t183), (t184), (t185), (t186), (t187), (t188), H', ⟨by have := HK1.out; first | omega | exact Nat.le_refl _⟩, ⟨by (with_reducible repeat (first | apply Kd.R_alloc | apply Kd.R_drewN | apply Kd.R_drew)); exact Kd.R_mono (Kd.R_far (p := ⟨gb171, 2, none⟩) (Kd.R_far (p := ⟨gb171, 1, none⟩) (Kd.R_far (p := ⟨gb171, 0, none⟩) (Kd.R_types HO_11.out BK171.out (by decide)) (fun _ hk => hk.2) (.int .i64 t186)) (fun _ hk => hk.2) (.int .i64 t187)) (fun _ hk => hk.2) (.int .i64 t188)) (fun _ hk => hk.1)⟩, ⟨by (with_reducible repeat (first | apply Kd.R_alloc | apply Kd.R_drewN | apply Kd.R_drew)); exact Kd.R_mono (Kd.R_far (p := ⟨gb171, 2, none⟩) (Kd.R_far (p := ⟨gb171, 1, none⟩) (Kd.R_far (p := ⟨gb171, 0, none⟩) (Kd.R_mono HO_12.out (fun k_ hk => (⟨hk, hk⟩ : _ ∧ k_ ≠ gb171))) (fun _ hk => hk.2) (.int .i64 t186)) (fun _ hk => hk.2) (.int .i64 t187)) (fun _ hk => hk.2) (.int .i64 t188)) (fun _ hk => hk.1)⟩, ⟨by (with_reducible repeat (first | refine blk_drewN ?_ _ | refine blk_drew ?_ | refine blk_alloc ?_ _)); refine blk_far ?_ NB166_171.out _; (with_reducible repeat (first | refine blk_drewN ?_ _ | refine blk_drew ?_ | refine blk_alloc ?_ _)); refine blk_far ?_ NB166_171.out _; (with_reducible repeat (first | refine blk_drewN ?_ _ | refine blk_drew ?_ | refine blk_alloc ?_ _)); refine blk_far ?_ NB166_171.out _; (with_reducible repeat (first | refine blk_drewN ?_ _ | refine blk_drew ?_ | refine blk_alloc ?_ _)); exact BK166.out⟩, ⟨by (with_reducible repeat (first | refine blk_drewN ?_ _ | refine blk_drew ?_ | refine blk_alloc ?_ _)); refine blk_put (cs := #[.int .i64 t186, .int .i64 t187, .int .i64 x172002_1]) ?_ 2 _ rfl; (with_reducible repeat (first | refine blk_drewN ?_ _ | refine blk_drew ?_ | refine blk_alloc ?_ _)); refine blk_put (cs := #[.int .i64 t186, .int .i64 x172001_1, .int .i64 x172002_1]) ?_ 1 _ rfl; (with_reducible repeat (first | refine blk_drewN ?_ _ | refine blk_drew ?_ | refine blk_alloc ?_ _)); refine blk_put (cs := #[.int .i64 x172000_1, .int .i64 x172001_1, .int .i64 x172002_1]) ?_ 0 _ rfl; (with_reducible repeat (first | refine blk_drewN ?_ _ | refine blk_drew ?_ | refine blk_alloc ?_ _)); exact BK171.out⟩, ⟨by (with_reducible repeat (first | refine blk_drewN ?_ _ | refine blk_drew ?_ | refine blk_alloc ?_ _)); refine blk_far ?_ NB173_171.out _; (with_reducible repeat (first | refine blk_drewN ?_ _ | refine blk_drew ?_ | refine blk_alloc ?_ _)); refine blk_far ?_ NB173_171.out _; (with_reducible repeat (first | refine blk_drewN ?_ _ | refine blk_drew ?_ | refine blk_alloc ?_ _)); refine blk_far ?_ NB173_171.out _; (with_reducible repeat (first | refine blk_drewN ?_ _ | refine blk_drew ?_ | refine blk_alloc ?_ _)); exact BK173.out⟩, ⟨by repeat (first | (with_reducible first | exact HB.out | apply below_alloc | apply pw_below_drewN | apply below_drew1 | refine below_set ?_ GE166.out | refine below_set ?_ GE171.out | refine below_set ?_ GE173.out) | exact HB.out)⟩⟩
                    · rw [if_neg c51] at H
                      have c51b0 : (((rd_T62 l2 x13_1).f0) == 2) = false := beq_eq_false_iff_ne.mpr c51
                      have c51b1 : (((rd_T62 l2 x13_1).f0) != 2) = true := bne_iff_ne.mpr c51
                      by_cases c60 : ((rd_T62 l2 x13_1).f0) = 3
                      · rw [if_pos c60] at H
                        have c60b0 : (((rd_T62 l2 x13_1).f0) == 3) = true := beq_iff_eq.mpr c60
                        have c60b1 : (((rd_T62 l2 x13_1).f0) != 3) = false := bne_eq_false_iff_eq.mpr c60
                        clear c60
                        replace H := Option.bind_eq_some_iff.mp H
                        obtain ⟨⟨t189, t190, t191⟩, A610, H⟩ := H
                        replace H : ((joustref08_Ticks.f k1 x172000_1 x172001_1 x172002_1 ((rd_T62 l2 x13_1).f1)).bind fun bt192 => (joustlaw08_BucketPlays.j1 k1 l2 x11_1 x12_1 x13_1 t189 t190 t191 bt192.1 bt192.2.1 bt192.2.2)) = some r := H
                        have A61 := Aside0.mk A610
                        clear A610
                        replace H := Option.bind_eq_some_iff.mp H
                        obtain ⟨⟨t192, t193, t194⟩, A620, H⟩ := H
                        replace H : (joustlaw08_BucketPlays.j1 k1 l2 x11_1 x12_1 x13_1 t189 t190 t191 t192 t193 t194) = some r := H
                        have A62 := Aside0.mk A620
                        clear A620
                        have H' := Aside0.mk H
                        clear H
                        have hnb63 := NB173_166.out
                        have hnc63 := NB166_173.out
                        have hnb64 := NB173_171.out
                        have hnc64 := NB171_173.out
                        have hcz65_0 : w21.cell? ⟨gb173, 0, none⟩ = some (.int .i64 0) := (blk_cell BK173.out 0).trans rfl
                        have hcz65_1 : w21.cell? ⟨gb173, 1, none⟩ = some (.int .u64 0) := (blk_cell BK173.out 1).trans rfl
                        have hfz65_0 := blk_frozen BK173.out 0
                        have hfz65_1 := blk_frozen BK173.out 1
                        go_wp2_with (first | ((with_reducible refine gate_callee (f := 28) rfl ?_); refine goesL_ (some 74) rfl rfl Try.func28 (by kernel_rfl) rfl #[.pointer (some ⟨gb166, 0, none⟩), .int .u64 ((rd_T62 l2 x13_1).f1)] rfl (by (try simp only [List.map_toArray, List.map_cons, List.map_nil]); first | done | rfl | (simp only [List.length_drop, List.length_take]; rfl)) ?_; (with_reducible refine (bucket_Bucket_Ticks.calls gb166 x167000_1 x167001_1 x167002_1 ((rd_T62 l2 x13_1).f1) t189 t190 t191 w _ ?side1 ?side2 A61.out).mono ?_); (case side1 => repeat (first | (with_reducible first | exact (Aside0.mk (IsS52.mk_ BK166.out GE166.out)).out | apply IsS52.alloc | apply IsS52.drewN | apply IsS52.drew | apply IsS52.set_0 | apply IsS52.set_1 | apply IsS52.set_2 | refine IsS52.far ?_ NB166_171.out _ | refine IsS52.far ?_ NB166_173.out _) | exact (Aside0.mk (IsS52.mk_ BK166.out GE166.out)).out)); (case side2 => repeat (first | (with_reducible first | exact HB.out | apply below_alloc | apply pw_below_drewN | apply below_drew1 | refine below_set ?_ (IsS52.ge (Aside0.mk (IsS52.mk_ BK166.out GE166.out)).out) | refine below_set ?_ GE171.out | refine below_set ?_ GE173.out) | exact HB.out)); rintro e w66 ⟨rfl, hi, hb, hk⟩; refine ⟨_, rfl, ?_⟩; have n0_ := Aside0.mk (Kd.R_mono (Kd.R_keep (Kd.R_mono (ok := fun k_ => k_ ≠ gb166) (by (with_reducible repeat (first | apply Kd.R_alloc | apply Kd.R_drewN | apply Kd.R_drew)); exact (Kd.R_mono (Kd.R_far (p := ⟨gb173, 1, none⟩) (Kd.R_far (p := ⟨gb173, 0, none⟩) (Kd.R_types HO_11.out BK173.out (by decide)) (fun _ hk => hk.2) (.int .i64 ((rd_T62 l2 x13_1).f0))) (fun _ hk => hk.2) (.int .u64 ((rd_T62 l2 x13_1).f1))) (fun _ h_ => h_.1))) (fun k_ hk_ => (⟨hk_, hk_⟩ : _ ∧ k_ ≠ gb166))) hk (fun _ h => h.2)) (fun _ h => h.1)); have n1_ := Aside0.mk (Kd.R_mono (Kd.R_keep (IsS52.apart (show IsS52 w _ gb166 x167000_1 x167001_1 x167002_1 from by repeat (first | (with_reducible first | exact (Aside0.mk (IsS52.mk_ BK166.out GE166.out)).out | apply IsS52.alloc | apply IsS52.drewN | apply IsS52.drew | apply IsS52.set_0 | apply IsS52.set_1 | apply IsS52.set_2 | refine IsS52.far ?_ NB166_171.out _ | refine IsS52.far ?_ NB166_173.out _) | exact (Aside0.mk (IsS52.mk_ BK166.out GE166.out)).out)) (by (with_reducible repeat (first | apply Kd.R_alloc | apply Kd.R_drewN | apply Kd.R_drew)); exact (Kd.R_mono (Kd.R_far (p := ⟨gb173, 1, none⟩) (Kd.R_far (p := ⟨gb173, 0, none⟩) (Kd.R_types HO_12.out BK173.out (by decide)) (fun _ hk => hk.2) (.int .i64 ((rd_T62 l2 x13_1).f0))) (fun _ hk => hk.2) (.int .u64 ((rd_T62 l2 x13_1).f1))) (fun _ h_ => h_.1))) (by decide)) hk (fun _ h => h.2)) (fun _ h => h.1)); have n2_ := Aside0.mk (KeepBut.blk hk (g' := gb171) (o := .cells #[.int .i64 x172000_1, .int .i64 x172001_1, .int .i64 x172002_1] 56 (0, 0)) (by (with_reducible repeat (first | refine blk_drewN ?_ _ | refine blk_drew ?_ | refine blk_alloc ?_ _)); refine blk_far ?_ NB171_173.out _; (with_reducible repeat (first | refine blk_drewN ?_ _ | refine blk_drew ?_ | refine blk_alloc ?_ _)); refine blk_far ?_ NB171_173.out _; (with_reducible repeat (first | refine blk_drewN ?_ _ | refine blk_drew ?_ | refine blk_alloc ?_ _)); exact BK171.out) NB171_166.out (by simp)); have n3_ := Aside0.mk (KeepBut.blk hk (g' := gb173) (o := .cells #[.int .i64 ((rd_T62 l2 x13_1).f0), .int .u64 ((rd_T62 l2 x13_1).f1)] 62 (0, 0)) (by (with_reducible repeat (first | refine blk_drewN ?_ _ | refine blk_drew ?_ | refine blk_alloc ?_ _)); refine blk_put (cs := #[.int .i64 ((rd_T62 l2 x13_1).f0), .int .u64 0]) ?_ 1 _ rfl; (with_reducible repeat (first | refine blk_drewN ?_ _ | refine blk_drew ?_ | refine blk_alloc ?_ _)); refine blk_put (cs := #[.int .i64 0, .int .u64 0]) ?_ 0 _ rfl; (with_reducible repeat (first | refine blk_drewN ?_ _ | refine blk_drew ?_ | refine blk_alloc ?_ _)); exact BK173.out) NB173_166.out (by simp)); have n4_ := Aside0.mk (hb); have n5_ := Aside0.mk (hi.1); clear HO_11; clear HO_12; clear BK171; clear BK173; clear HB; clear BK166; have HO_11 := n0_; have HO_12 := n1_; have BK171 := n2_; have BK173 := n3_; have HB := n4_; have BK166 := n5_; clear n0_ n1_ n2_ n3_ n4_ n5_; (try clear hb); (try clear hb2); (try clear hk); (try clear hi); have hnb67 := NB171_166.out; have hnc67 := NB166_171.out; have hcz68_0 : w66.cell? ⟨gb171, 0, none⟩ = some (.int .i64 x172000_1) := (blk_cell BK171.out 0).trans rfl; have hcz68_1 : w66.cell? ⟨gb171, 1, none⟩ = some (.int .i64 x172001_1) := (blk_cell BK171.out 1).trans rfl; have hcz68_2 : w66.cell? ⟨gb171, 2, none⟩ = some (.int .i64 x172002_1) := (blk_cell BK171.out 2).trans rfl; have hfz68_0 := blk_frozen BK171.out 0; have hfz68_1 := blk_frozen BK171.out 1; have hfz68_2 := blk_frozen BK171.out 2; have hcz69_0 : w66.cell? ⟨gb173, 0, none⟩ = some (.int .i64 ((rd_T62 l2 x13_1).f0)) := (blk_cell BK173.out 0).trans rfl; have hcz69_1 : w66.cell? ⟨gb173, 1, none⟩ = some (.int .u64 ((rd_T62 l2 x13_1).f1)) := (blk_cell BK173.out 1).trans rfl; have hfz69_0 := blk_frozen BK173.out 0; have hfz69_1 := blk_frozen BK173.out 1) | ((with_reducible refine gate_callee (f := 29) rfl ?_); refine goesL_ (some 78) rfl rfl Try.func29 (by kernel_rfl) rfl #[.agg #[.int .i64 x172000_1, .int .i64 x172001_1, .int .i64 x172002_1], .int .u64 ((rd_T62 l2 x13_1).f1)] rfl (by (try simp only [List.map_toArray, List.map_cons, List.map_nil]); first | done | rfl | (simp only [List.length_drop, List.length_take]; rfl)) ?_; (with_reducible refine (joustref08_Ticks.calls k1 x172000_1 x172001_1 x172002_1 ((rd_T62 l2 x13_1).f1) t192 t193 t194 _ A62.out).mono ?_); rintro e w70 ⟨rfl, hb⟩; refine ⟨_, rfl, ?_⟩; have n0_ := Aside0.mk (Kd.R_below (by (with_reducible repeat (first | apply Kd.R_alloc | apply Kd.R_drewN | apply Kd.R_drew)); exact HO_11.out) hb); have n1_ := Aside0.mk (Kd.R_below (by (with_reducible repeat (first | apply Kd.R_alloc | apply Kd.R_drewN | apply Kd.R_drew)); exact HO_12.out) hb); have n2_ := Aside0.mk (blk_below (g := gb166) (o := .cells #[.int .i64 t189, .int .i64 t190, .int .i64 t191] 52 (0, 0)) (by (with_reducible repeat (first | refine blk_drewN ?_ _ | refine blk_drew ?_ | refine blk_alloc ?_ _)); exact BK166.out) hb); have n3_ := Aside0.mk (blk_below (g := gb171) (o := .cells #[.int .i64 x172000_1, .int .i64 x172001_1, .int .i64 x172002_1] 56 (0, 0)) (by (with_reducible repeat (first | refine blk_drewN ?_ _ | refine blk_drew ?_ | refine blk_alloc ?_ _)); exact BK171.out) hb); have n4_ := Aside0.mk (blk_below (g := gb173) (o := .cells #[.int .i64 ((rd_T62 l2 x13_1).f0), .int .u64 ((rd_T62 l2 x13_1).f1)] 62 (0, 0)) (by (with_reducible repeat (first | refine blk_drewN ?_ _ | refine blk_drew ?_ | refine blk_alloc ?_ _)); exact BK173.out) hb); have n5_ := Aside0.mk (below_step (by repeat (first | (with_reducible first | exact HB.out | apply below_alloc | apply pw_below_drewN | apply below_drew1 | refine below_set ?_ GE166.out | refine below_set ?_ GE171.out | refine below_set ?_ GE173.out) | exact HB.out)) hb); clear HO_11; clear HO_12; clear BK166; clear BK171; clear BK173; clear HB; have HO_11 := n0_; have HO_12 := n1_; have BK166 := n2_; have BK171 := n3_; have BK173 := n4_; have HB := n5_; clear n0_ n1_ n2_ n3_ n4_ n5_; (try clear hb); (try clear hb2); (try clear hk); (try clear hi); have hcz71_0 : w70.cell? ⟨gb171, 0, none⟩ = some (.int .i64 x172000_1) := (blk_cell BK171.out 0).trans rfl; have hcz71_1 : w70.cell? ⟨gb171, 1, none⟩ = some (.int .i64 x172001_1) := (blk_cell BK171.out 1).trans rfl; have hcz71_2 : w70.cell? ⟨gb171, 2, none⟩ = some (.int .i64 x172002_1) := (blk_cell BK171.out 2).trans rfl; have hfz71_0 := blk_frozen BK171.out 0; have hfz71_1 := blk_frozen BK171.out 1; have hfz71_2 := blk_frozen BK171.out 2))
                        go_meet
                        case rel => exact ⟨_, (x11_1), (x12_1), (t189), (t190), (t191), (t192), (t193), (t194), H', ⟨by have := HK1.out; first | omega | exact Nat.le_refl _⟩, ⟨by (with_reducible repeat (first | apply Kd.R_alloc | apply Kd.R_drewN | apply Kd.R_drew)); exact Kd.R_mono (Kd.R_far (p := ⟨gb171, 2, none⟩) (Kd.R_far (p := ⟨gb171, 1, none⟩) (Kd.R_far (p := ⟨gb171, 0, none⟩) (Kd.R_types HO_11.out BK171.out (by decide)) (fun _ hk => hk.2) (.int .i64 t192)) (fun _ hk => hk.2) (.int .i64 t193)) (fun _ hk => hk.2) (.int .i64 t194)) (fun _ hk => hk.1)⟩, ⟨by (with_reducible repeat (first | apply Kd.R_alloc | apply Kd.R_drewN | apply Kd.R_drew)); exact Kd.R_mono (Kd.R_far (p := ⟨gb171, 2, none⟩) (Kd.R_far (p := ⟨gb171, 1, none⟩) (Kd.R_far (p := ⟨gb171, 0, none⟩) (Kd.R_mono HO_12.out (fun k_ hk => (⟨hk, hk⟩ : _ ∧ k_ ≠ gb171))) (fun _ hk => hk.2) (.int .i64 t192)) (fun _ hk => hk.2) (.int .i64 t193)) (fun _ hk => hk.2) (.int .i64 t194)) (fun _ hk => hk.1)⟩, ⟨by (with_reducible repeat (first | refine blk_drewN ?_ _ | refine blk_drew ?_ | refine blk_alloc ?_ _)); refine blk_far ?_ NB166_171.out _; (with_reducible repeat (first | refine blk_drewN ?_ _ | refine blk_drew ?_ | refine blk_alloc ?_ _)); refine blk_far ?_ NB166_171.out _; (with_reducible repeat (first | refine blk_drewN ?_ _ | refine blk_drew ?_ | refine blk_alloc ?_ _)); refine blk_far ?_ NB166_171.out _; (with_reducible repeat (first | refine blk_drewN ?_ _ | refine blk_drew ?_ | refine blk_alloc ?_ _)); exact BK166.out⟩, ⟨by (with_reducible repeat (first | refine blk_drewN ?_ _ | refine blk_drew ?_ | refine blk_alloc ?_ _)); refine blk_put (cs := #[.int .i64 t192, .int .i64 t193, .int .i64 x172002_1]) ?_ 2 _ rfl; (with_reducible repeat (first | refine blk_drewN ?_ _ | refine blk_drew ?_ | refine blk_alloc ?_ _)); refine blk_put (cs := #[.int .i64 t192, .int .i64 x172001_1, .int .i64 x172002_1]) ?_ 1 _ rfl; (with_reducible repeat (first | refine blk_drewN ?_ _ | refine blk_drew ?_ | refine blk_alloc ?_ _)); refine blk_put (cs := #[.int .i64 x172000_1, .int .i64 x172001_1, .int .i64 x172002_1]) ?_ 0 _ rfl; (with_reducible repeat (first | refine blk_drewN ?_ _ | refine blk_drew ?_ | refine blk_alloc ?_ _)); exact BK171.out⟩, ⟨by (with_reducible repeat (first | refine blk_drewN ?_ _ | refine blk_drew ?_ | refine blk_alloc ?_ _)); refine blk_far ?_ NB173_171.out _; (with_reducible repeat (first | refine blk_drewN ?_ _ | refine blk_drew ?_ | refine blk_alloc ?_ _)); refine blk_far ?_ NB173_171.out _; (with_reducible repeat (first | refine blk_drewN ?_ _ | refine blk_drew ?_ | refine blk_alloc ?_ _)); refine blk_far ?_ NB173_171.out _; (with_reducible repeat (first | refine blk_drewN ?_ _ | refine blk_drew ?_ | refine blk_alloc ?_ _)); exact BK173.out⟩, ⟨by repeat (first | (with_reducible first | exact HB.out | apply below_alloc | apply pw_below_drewN | apply below_drew1 | refine below_set ?_ GE166.out | refine below_set ?_ GE171.out | refine below_set ?_ GE173.out) | exact HB.out)⟩⟩
                      · rw [if_neg c60] at H
                        have c60b0 : (((rd_T62 l2 x13_1).f0) == 3) = false := beq_eq_false_iff_ne.mpr c60
                        have c60b1 : (((rd_T62 l2 x13_1).f0) != 3) = true := bne_iff_ne.mpr c60
                        by_cases c72 : ((rd_T62 l2 x13_1).f0) = 4
                        · rw [if_pos c72] at H
                          have c72b0 : (((rd_T62 l2 x13_1).f0) == 4) = true := beq_iff_eq.mpr c72
                          have c72b1 : (((rd_T62 l2 x13_1).f0) != 4) = false := bne_eq_false_iff_eq.mpr c72
                          clear c72
                          by_cases c73 : x11_1.length < 5864062014805
                          · rw [if_pos c73] at H
                            have LMc73 := Aside0.mk c73
                            clear c73
                            obtain ⟨y195, hy195⟩ : ∃ y_ : List (S52), y_ = (x11_1 ++ [(⟨x167000_1, x167001_1, x167002_1⟩ : S52)]) := ⟨_, rfl⟩
                            replace H : (if x12_1.length < 5864062014805 then (joustlaw08_BucketPlays.j1 k1 l2 y195 (x12_1 ++ [(⟨x172000_1, x172001_1, x172002_1⟩ : S56)]) x13_1 x167000_1 x167001_1 x167002_1 x172000_1 x172001_1 x172002_1) else (none)) = some r := by first | (rw [hy195]; with_reducible exact H) | (have H2_ := (Option.bind_some _ _).symm.trans H; rw [hy195]; with_reducible exact H2_) | (have H2_ := (Option.bind_some _ _).symm.trans H; with_reducible exact H2_) | with_reducible exact H | (rw [hy195]; exact H) | exact H
                            have Ny195 := Aside0.mk hy195
                            clear hy195
                            by_cases c74 : x12_1.length < 5864062014805
                            · rw [if_pos c74] at H
                              have LMc74 := Aside0.mk c74
                              clear c74
                              obtain ⟨y198, hy198⟩ : ∃ y_ : List (S56), y_ = (x12_1 ++ [(⟨x172000_1, x172001_1, x172002_1⟩ : S56)]) := ⟨_, rfl⟩
                              replace H : (joustlaw08_BucketPlays.j1 k1 l2 y195 y198 x13_1 x167000_1 x167001_1 x167002_1 x172000_1 x172001_1 x172002_1) = some r := by first | (rw [hy198]; with_reducible exact H) | (have H2_ := (Option.bind_some _ _).symm.trans H; rw [hy198]; with_reducible exact H2_) | (have H2_ := (Option.bind_some _ _).symm.trans H; with_reducible exact H2_) | with_reducible exact H | (rw [hy198]; exact H) | exact H
                              have Ny198 := Aside0.mk hy198
                              clear hy198
                              have H' := Aside0.mk H
                              clear H
                              have hnb75 := NB166_171.out
                              have hnc75 := NB171_166.out
                              have hnb76 := NB166_173.out
                              have hnc76 := NB173_166.out
                              have hcz77_0 : w21.cell? ⟨gb166, 0, none⟩ = some (.int .i64 x167000_1) := (blk_cell BK166.out 0).trans rfl
                              have hcz77_1 : w21.cell? ⟨gb166, 1, none⟩ = some (.int .i64 x167001_1) := (blk_cell BK166.out 1).trans rfl
                              have hcz77_2 : w21.cell? ⟨gb166, 2, none⟩ = some (.int .i64 x167002_1) := (blk_cell BK166.out 2).trans rfl
                              have hfz77_0 := blk_frozen BK166.out 0
                              have hfz77_1 := blk_frozen BK166.out 1
                              have hfz77_2 := blk_frozen BK166.out 2
                              go_wp2_with (first | ((with_reducible refine gate_builtin (b := .append) (xs := #[.tmp 81, .tmp 83]) rfl ?_); at_builtin; refine Kd.R_append k52 (w0 := w) w.heap.size rfl (.tmp 81) (.tmp 83) 59 52 (.agg #[(.int .i64 0), (.int .i64 0), (.int .i64 0)]) 24 rfl Try.underlying59 info52 rfl (by decide) (by omega) u11 x11_1 (⟨x167000_1, x167001_1, x167002_1⟩ : S52) [.int .i64 x167000_1, .int .i64 x167001_1, .int .i64 x167002_1] (fun k_ => k_ ≠ gb166) (fun _ => False) rfl (by first | (go_simp; done) | (go_simp; rfl)) ?aP (fun _ hk => hk.elim) ?aF ?aO ?aB ?aS ?aL ?_; (case aP => exact k52_mkM _ _ _ (⟨x167000_1, x167001_1, x167002_1⟩ : S52)); (case aB => exact (by repeat (first | (with_reducible first | exact HB.out | apply below_alloc | apply pw_below_drewN | apply below_drew1 | refine below_set ?_ GE166.out | refine below_set ?_ GE171.out | refine below_set ?_ GE173.out) | exact HB.out))); (case aF => exact (fun k_ hk => Kd.freshB (g := gb166) (o := .cells #[.int .i64 x167000_1, .int .i64 x167001_1, .int .i64 x167002_1] 52 (0, 0)) (by (with_reducible repeat (first | refine blk_drewN ?_ _ | refine blk_drew ?_ | refine blk_alloc ?_ _)); refine blk_far ?_ NB166_173.out _; (with_reducible repeat (first | refine blk_drewN ?_ _ | refine blk_drew ?_ | refine blk_alloc ?_ _)); refine blk_far ?_ NB166_173.out _; (with_reducible repeat (first | refine blk_drewN ?_ _ | refine blk_drew ?_ | refine blk_alloc ?_ _)); exact BK166.out) k_ hk)); (case aO => exact (by (with_reducible repeat (first | apply Kd.R_alloc | apply Kd.R_drewN | apply Kd.R_drew)); exact Kd.R_mono (Kd.R_far (p := ⟨gb173, 1, none⟩) (Kd.R_far (p := ⟨gb173, 0, none⟩) (Kd.R_types HO_11.out BK173.out (by decide)) (fun _ hk => hk.2) (.int .i64 ((rd_T62 l2 x13_1).f0))) (fun _ hk => hk.2) (.int .u64 ((rd_T62 l2 x13_1).f1))) (fun _ hk => hk.1))); (case aS => exact (below_size (by repeat (first | (with_reducible first | exact HB.out | apply below_alloc | apply pw_below_drewN | apply below_drew1 | refine below_set ?_ GE166.out | refine below_set ?_ GE171.out | refine below_set ?_ GE173.out) | exact HB.out)))); (case aL => have := LMc73.out; omega); intro v196 w78 ho hb hg hat; rw [← Ny195.out] at ho; have n0_ := Aside0.mk (Kd.R_over' (by (with_reducible repeat (first | apply Kd.R_alloc | apply Kd.R_drewN | apply Kd.R_drew)); exact (Kd.R_mono (Kd.R_far (p := ⟨gb173, 1, none⟩) (Kd.R_far (p := ⟨gb173, 0, none⟩) (Kd.R_types HO_12.out BK173.out (by decide)) (fun _ hk => hk.2) (.int .i64 ((rd_T62 l2 x13_1).f0))) (fun _ hk => hk.2) (.int .u64 ((rd_T62 l2 x13_1).f1))) (fun _ h_ => h_.1))) (Kd.R_typed (by (with_reducible repeat (first | apply Kd.R_alloc | apply Kd.R_drewN | apply Kd.R_drew)); exact (Kd.R_mono (Kd.R_far (p := ⟨gb173, 1, none⟩) (Kd.R_far (p := ⟨gb173, 0, none⟩) (Kd.R_types HO_11.out BK173.out (by decide)) (fun _ hk => hk.2) (.int .i64 ((rd_T62 l2 x13_1).f0))) (fun _ hk => hk.2) (.int .u64 ((rd_T62 l2 x13_1).f1))) (fun _ h_ => h_.1)))) (by decide) hg); have n1_ := Aside0.mk (blk_grown (g := gb166) (o := .cells #[.int .i64 x167000_1, .int .i64 x167001_1, .int .i64 x167002_1] 52 (0, 0)) (by (with_reducible repeat (first | refine blk_drewN ?_ _ | refine blk_drew ?_ | refine blk_alloc ?_ _)); refine blk_far ?_ NB166_173.out _; (with_reducible repeat (first | refine blk_drewN ?_ _ | refine blk_drew ?_ | refine blk_alloc ?_ _)); refine blk_far ?_ NB166_173.out _; (with_reducible repeat (first | refine blk_drewN ?_ _ | refine blk_drew ?_ | refine blk_alloc ?_ _)); exact BK166.out) hg (Kd.R_away HO_11.out (fun _ hk => hk))); have n2_ := Aside0.mk (blk_grown (g := gb171) (o := .cells #[.int .i64 x172000_1, .int .i64 x172001_1, .int .i64 x172002_1] 56 (0, 0)) (by (with_reducible repeat (first | refine blk_drewN ?_ _ | refine blk_drew ?_ | refine blk_alloc ?_ _)); refine blk_far ?_ NB171_173.out _; (with_reducible repeat (first | refine blk_drewN ?_ _ | refine blk_drew ?_ | refine blk_alloc ?_ _)); refine blk_far ?_ NB171_173.out _; (with_reducible repeat (first | refine blk_drewN ?_ _ | refine blk_drew ?_ | refine blk_alloc ?_ _)); exact BK171.out) hg (Kd.R_ne HO_11.out BK171.out (by decide))); have n3_ := Aside0.mk (blk_grown (g := gb173) (o := .cells #[.int .i64 ((rd_T62 l2 x13_1).f0), .int .u64 ((rd_T62 l2 x13_1).f1)] 62 (0, 0)) (by (with_reducible repeat (first | refine blk_drewN ?_ _ | refine blk_drew ?_ | refine blk_alloc ?_ _)); refine blk_put (cs := #[.int .i64 ((rd_T62 l2 x13_1).f0), .int .u64 0]) ?_ 1 _ rfl; (with_reducible repeat (first | refine blk_drewN ?_ _ | refine blk_drew ?_ | refine blk_alloc ?_ _)); refine blk_put (cs := #[.int .i64 0, .int .u64 0]) ?_ 0 _ rfl; (with_reducible repeat (first | refine blk_drewN ?_ _ | refine blk_drew ?_ | refine blk_alloc ?_ _)); exact BK173.out) hg (Kd.R_ne HO_11.out BK173.out (by decide))); have n4_ := Aside0.mk (hb); have n5_ := Aside0.mk (ho); clear HO_12; clear BK166; clear BK171; clear BK173; clear HB; clear HO_11; have HO_12 := n0_; have BK166 := n1_; have BK171 := n2_; have BK173 := n3_; have HB := n4_; have HO197 := n5_; clear n0_ n1_ n2_ n3_ n4_ n5_; clear ho hb hg hat; have hnb79 := NB171_173.out; have hnc79 := NB173_171.out; have hcz80_0 : w78.cell? ⟨gb171, 0, none⟩ = some (.int .i64 x172000_1) := (blk_cell BK171.out 0).trans rfl; have hcz80_1 : w78.cell? ⟨gb171, 1, none⟩ = some (.int .i64 x172001_1) := (blk_cell BK171.out 1).trans rfl; have hcz80_2 : w78.cell? ⟨gb171, 2, none⟩ = some (.int .i64 x172002_1) := (blk_cell BK171.out 2).trans rfl; have hfz80_0 := blk_frozen BK171.out 0; have hfz80_1 := blk_frozen BK171.out 1; have hfz80_2 := blk_frozen BK171.out 2) | ((with_reducible refine gate_builtin (b := .append) (xs := #[.tmp 85, .tmp 87]) rfl ?_); at_builtin; refine Kd.R_append k56 (w0 := w) w.heap.size rfl (.tmp 85) (.tmp 87) 60 56 (.agg #[(.int .i64 0), (.int .i64 0), (.int .i64 0)]) 24 rfl Try.underlying60 info56 rfl (by decide) (by omega) u12 x12_1 (⟨x172000_1, x172001_1, x172002_1⟩ : S56) [.int .i64 x172000_1, .int .i64 x172001_1, .int .i64 x172002_1] (fun k_ => k_ ≠ gb171) (fun _ => False) rfl rfl ?aP (fun _ hk => hk.elim) ?aF ?aO ?aB ?aS ?aL ?_; (case aP => exact k56_mkM _ _ _ (⟨x172000_1, x172001_1, x172002_1⟩ : S56)); (case aB => exact (by repeat (first | (with_reducible first | exact HB.out | apply below_alloc | apply pw_below_drewN | apply below_drew1 | refine below_set ?_ GE166.out | refine below_set ?_ GE171.out | refine below_set ?_ GE173.out) | exact HB.out))); (case aF => exact (fun k_ hk => Kd.freshB (g := gb171) (o := .cells #[.int .i64 x172000_1, .int .i64 x172001_1, .int .i64 x172002_1] 56 (0, 0)) (by (with_reducible repeat (first | refine blk_drewN ?_ _ | refine blk_drew ?_ | refine blk_alloc ?_ _)); exact BK171.out) k_ hk)); (case aO => exact (by (with_reducible repeat (first | apply Kd.R_alloc | apply Kd.R_drewN | apply Kd.R_drew)); exact HO_12.out)); (case aS => exact (below_size (by repeat (first | (with_reducible first | exact HB.out | apply below_alloc | apply pw_below_drewN | apply below_drew1 | refine below_set ?_ GE166.out | refine below_set ?_ GE171.out | refine below_set ?_ GE173.out) | exact HB.out)))); (case aL => have := LMc74.out; omega); intro v199 w81 ho hb hg hat; rw [← Ny198.out] at ho; have n0_ := Aside0.mk (blk_grown (g := gb166) (o := .cells #[.int .i64 x167000_1, .int .i64 x167001_1, .int .i64 x167002_1] 52 (0, 0)) (by (with_reducible repeat (first | refine blk_drewN ?_ _ | refine blk_drew ?_ | refine blk_alloc ?_ _)); exact BK166.out) hg (Kd.R_ne HO_12.out BK166.out (by decide))); have n1_ := Aside0.mk (blk_grown (g := gb171) (o := .cells #[.int .i64 x172000_1, .int .i64 x172001_1, .int .i64 x172002_1] 56 (0, 0)) (by (with_reducible repeat (first | refine blk_drewN ?_ _ | refine blk_drew ?_ | refine blk_alloc ?_ _)); exact BK171.out) hg (Kd.R_away HO_12.out (fun _ hk => hk))); have n2_ := Aside0.mk (blk_grown (g := gb173) (o := .cells #[.int .i64 ((rd_T62 l2 x13_1).f0), .int .u64 ((rd_T62 l2 x13_1).f1)] 62 (0, 0)) (by (with_reducible repeat (first | refine blk_drewN ?_ _ | refine blk_drew ?_ | refine blk_alloc ?_ _)); exact BK173.out) hg (Kd.R_ne HO_12.out BK173.out (by decide))); have n3_ := Aside0.mk (Kd.R_over' (by (with_reducible repeat (first | apply Kd.R_alloc | apply Kd.R_drewN | apply Kd.R_drew)); exact HO197.out) (Kd.R_typed (by (with_reducible repeat (first | apply Kd.R_alloc | apply Kd.R_drewN | apply Kd.R_drew)); exact HO_12.out)) (by decide) hg); have n4_ := Aside0.mk (hb); have n5_ := Aside0.mk (ho); clear BK166; clear BK171; clear BK173; clear HO197; clear HB; clear HO_12; have BK166 := n0_; have BK171 := n1_; have BK173 := n2_; have HO197 := n3_; have HB := n4_; have HO200 := n5_; clear n0_ n1_ n2_ n3_ n4_ n5_; clear ho hb hg hat))
                              go_meet
                              case rel => exact ⟨_, (y195), (y198), (x167000_1), (x167001_1), (x167002_1), (x172000_1), (x172001_1), (x172002_1), H', ⟨by have := HK1.out; first | omega | exact Nat.le_refl _⟩, ⟨by (with_reducible repeat (first | apply Kd.R_alloc | apply Kd.R_drewN | apply Kd.R_drew)); exact HO197.out⟩, ⟨by (with_reducible repeat (first | apply Kd.R_alloc | apply Kd.R_drewN | apply Kd.R_drew)); exact HO200.out⟩, ⟨by (with_reducible repeat (first | refine blk_drewN ?_ _ | refine blk_drew ?_ | refine blk_alloc ?_ _)); exact BK166.out⟩, ⟨by (with_reducible repeat (first | refine blk_drewN ?_ _ | refine blk_drew ?_ | refine blk_alloc ?_ _)); exact BK171.out⟩, ⟨by (with_reducible repeat (first | refine blk_drewN ?_ _ | refine blk_drew ?_ | refine blk_alloc ?_ _)); exact BK173.out⟩, ⟨by repeat (first | (with_reducible first | exact HB.out | apply below_alloc | apply pw_below_drewN | apply below_drew1 | refine below_set ?_ GE166.out | refine below_set ?_ GE171.out | refine below_set ?_ GE173.out) | exact HB.out)⟩⟩
                            · rw [if_neg c74] at H
                              exact absurd H (by simp)
                          · rw [if_neg c73] at H
                            exact absurd H (by simp)
                        · rw [if_neg c72] at H
                          have c72b0 : (((rd_T62 l2 x13_1).f0) == 4) = false := beq_eq_false_iff_ne.mpr c72
                          have c72b1 : (((rd_T62 l2 x13_1).f0) != 4) = true := bne_iff_ne.mpr c72
                          by_cases c82 : ((rd_T62 l2 x13_1).f0) = 5
                          · rw [if_pos c82] at H
                            have c82b0 : (((rd_T62 l2 x13_1).f0) == 5) = true := beq_iff_eq.mpr c82
                            have c82b1 : (((rd_T62 l2 x13_1).f0) != 5) = false := bne_eq_false_iff_eq.mpr c82
                            clear c82
                            by_cases c83 : (x11_1.length : Int) > 0
                            · rw [if_pos c83] at H
                              have c83b0 : decide (0 < (x11_1.length : Int)) = true := decide_eq_true c83
                              have c83b1 : decide (0 < x11_1.length) = true := decide_eq_true (by omega)
                              clear c83
                              obtain ⟨ji84, hji84⟩ : ∃ j_ : Int, (wrap64 ((x11_1.length : Int) - 1)) = j_ := ⟨_, rfl⟩
                              replace H : (if 0 ≤ (ji84) then (if (ji84) < (x11_1.length : Int) then (if (ji84) < (x12_1.length : Int) then (joustlaw08_BucketPlays.j1 k1 l2 (x11_1.set ((ji84) : Int).toNat (⟨x167000_1, x167001_1, x167002_1⟩ : S52)) (x12_1.set ((ji84) : Int).toNat (⟨x172000_1, x172001_1, x172002_1⟩ : S56)) x13_1 ((rd_T52 x11_1 (ji84)).f0) ((rd_T52 x11_1 (ji84)).f1) ((rd_T52 x11_1 (ji84)).f2) ((rd_T56 x12_1 (ji84)).f0) ((rd_T56 x12_1 (ji84)).f1) ((rd_T56 x12_1 (ji84)).f2)) else (none)) else (none)) else (none)) = some r := by first | (rw [hji84] at H; exact H) | (simp only [hji84] at H ⊢; exact H)
                              have hji84w : (IntKind.i64.wrap ((x11_1.length : Int) - 1)) = ji84 := (i64_w _).trans hji84
                              by_cases c85 : 0 ≤ (ji84)
                              · rw [if_pos c85] at H
                                have c85b0 : decide (0 ≤ (ji84)) = true := decide_eq_true c85
                                clear c85
                                by_cases c86 : (ji84) < (x11_1.length : Int)
                                · rw [if_pos c86] at H
                                  have c86b0 : decide ((ji84) < (x11_1.length : Int)) = true := decide_eq_true c86
                                  clear c86
                                  obtain ⟨y203, hy203⟩ : ∃ y_ : List (S52), y_ = (x11_1.set ((ji84) : Int).toNat (⟨x167000_1, x167001_1, x167002_1⟩ : S52)) := ⟨_, rfl⟩
                                  replace H : (if (ji84) < (x12_1.length : Int) then (joustlaw08_BucketPlays.j1 k1 l2 y203 (x12_1.set ((ji84) : Int).toNat (⟨x172000_1, x172001_1, x172002_1⟩ : S56)) x13_1 ((rd_T52 x11_1 (ji84)).f0) ((rd_T52 x11_1 (ji84)).f1) ((rd_T52 x11_1 (ji84)).f2) ((rd_T56 x12_1 (ji84)).f0) ((rd_T56 x12_1 (ji84)).f1) ((rd_T56 x12_1 (ji84)).f2)) else (none)) = some r := by first | (rw [hy203]; with_reducible exact H) | (have H2_ := (Option.bind_some _ _).symm.trans H; rw [hy203]; with_reducible exact H2_) | (have H2_ := (Option.bind_some _ _).symm.trans H; with_reducible exact H2_) | with_reducible exact H | (rw [hy203]; exact H) | exact H
                                  have Ny203 := Aside0.mk hy203
                                  clear hy203
                                  by_cases c88 : (ji84) < (x12_1.length : Int)
                                  · rw [if_pos c88] at H
                                    have c88b0 : decide ((ji84) < (x12_1.length : Int)) = true := decide_eq_true c88
                                    clear c88
                                    obtain ⟨y206, hy206⟩ : ∃ y_ : List (S56), y_ = (x12_1.set ((ji84) : Int).toNat (⟨x172000_1, x172001_1, x172002_1⟩ : S56)) := ⟨_, rfl⟩
                                    replace H : (joustlaw08_BucketPlays.j1 k1 l2 y203 y206 x13_1 ((rd_T52 x11_1 (ji84)).f0) ((rd_T52 x11_1 (ji84)).f1) ((rd_T52 x11_1 (ji84)).f2) ((rd_T56 x12_1 (ji84)).f0) ((rd_T56 x12_1 (ji84)).f1) ((rd_T56 x12_1 (ji84)).f2)) = some r := by first | (rw [hy206]; with_reducible exact H) | (have H2_ := (Option.bind_some _ _).symm.trans H; rw [hy206]; with_reducible exact H2_) | (have H2_ := (Option.bind_some _ _).symm.trans H; with_reducible exact H2_) | with_reducible exact H | (rw [hy206]; exact H) | exact H
                                    have Ny206 := Aside0.mk hy206
                                    clear hy206
                                    have H' := Aside0.mk H
                                    clear H
                                    obtain ⟨Ao90, co90, eo90⟩ := Kd.R_slice HO_11.out
                                    subst eo90
                                    have hnb91 := NB166_171.out
                                    have hnc91 := NB171_166.out
                                    have hnb92 := NB166_173.out
                                    have hnc92 := NB173_166.out
                                    have hcz93_0 : w21.cell? ⟨gb166, 0, none⟩ = some (.int .i64 x167000_1) := (blk_cell BK166.out 0).trans rfl
                                    have hcz93_1 : w21.cell? ⟨gb166, 1, none⟩ = some (.int .i64 x167001_1) := (blk_cell BK166.out 1).trans rfl
                                    have hcz93_2 : w21.cell? ⟨gb166, 2, none⟩ = some (.int .i64 x167002_1) := (blk_cell BK166.out 2).trans rfl
                                    have hfz93_0 := blk_frozen BK166.out 0
                                    have hfz93_1 := blk_frozen BK166.out 1
                                    have hfz93_2 := blk_frozen BK166.out 2
                                    go_wp2_with (first | ((with_reducible refine gate_dst (N := 19) rfl ?_); refine box_event ?hg (N := 19) ?hd (cs := #[.int .i64 0, .int .i64 0, .int .i64 0]) (t := 52) ?hr ?_; (case hd => rfl); (case hg => rfl); (case hr => first | (go_simp; done) | (go_simp; rfl)); intro gb201 hg w94 hbox hb; have n0_ := Aside0.mk (Kd.R_below (Kd.R_elderB (by (with_reducible repeat (first | apply Kd.R_alloc | apply Kd.R_drewN | apply Kd.R_drew)); exact (Kd.R_mono (Kd.R_far (p := ⟨gb173, 1, none⟩) (Kd.R_far (p := ⟨gb173, 0, none⟩) (Kd.R_types HO_11.out BK173.out (by decide)) (fun _ hk => hk.2) (.int .i64 ((rd_T62 l2 x13_1).f0))) (fun _ hk => hk.2) (.int .u64 ((rd_T62 l2 x13_1).f1))) (fun _ h_ => h_.1))) gb201 (Nat.le_of_eq hg.symm)) hb); have n1_ := Aside0.mk (Kd.R_below (by (with_reducible repeat (first | apply Kd.R_alloc | apply Kd.R_drewN | apply Kd.R_drew)); exact (Kd.R_mono (Kd.R_far (p := ⟨gb173, 1, none⟩) (Kd.R_far (p := ⟨gb173, 0, none⟩) (Kd.R_types HO_12.out BK173.out (by decide)) (fun _ hk => hk.2) (.int .i64 ((rd_T62 l2 x13_1).f0))) (fun _ hk => hk.2) (.int .u64 ((rd_T62 l2 x13_1).f1))) (fun _ h_ => h_.1))) hb); have n2_ := Aside0.mk (blk_below (g := gb166) (o := .cells #[.int .i64 x167000_1, .int .i64 x167001_1, .int .i64 x167002_1] 52 (0, 0)) (by (with_reducible repeat (first | refine blk_drewN ?_ _ | refine blk_drew ?_ | refine blk_alloc ?_ _)); refine blk_far ?_ NB166_173.out _; (with_reducible repeat (first | refine blk_drewN ?_ _ | refine blk_drew ?_ | refine blk_alloc ?_ _)); refine blk_far ?_ NB166_173.out _; (with_reducible repeat (first | refine blk_drewN ?_ _ | refine blk_drew ?_ | refine blk_alloc ?_ _)); exact BK166.out) hb); have n3_ := Aside0.mk (blk_below (g := gb171) (o := .cells #[.int .i64 x172000_1, .int .i64 x172001_1, .int .i64 x172002_1] 56 (0, 0)) (by (with_reducible repeat (first | refine blk_drewN ?_ _ | refine blk_drew ?_ | refine blk_alloc ?_ _)); refine blk_far ?_ NB171_173.out _; (with_reducible repeat (first | refine blk_drewN ?_ _ | refine blk_drew ?_ | refine blk_alloc ?_ _)); refine blk_far ?_ NB171_173.out _; (with_reducible repeat (first | refine blk_drewN ?_ _ | refine blk_drew ?_ | refine blk_alloc ?_ _)); exact BK171.out) hb); have n4_ := Aside0.mk (blk_below (g := gb173) (o := .cells #[.int .i64 ((rd_T62 l2 x13_1).f0), .int .u64 ((rd_T62 l2 x13_1).f1)] 62 (0, 0)) (by (with_reducible repeat (first | refine blk_drewN ?_ _ | refine blk_drew ?_ | refine blk_alloc ?_ _)); refine blk_put (cs := #[.int .i64 ((rd_T62 l2 x13_1).f0), .int .u64 0]) ?_ 1 _ rfl; (with_reducible repeat (first | refine blk_drewN ?_ _ | refine blk_drew ?_ | refine blk_alloc ?_ _)); refine blk_put (cs := #[.int .i64 0, .int .u64 0]) ?_ 0 _ rfl; (with_reducible repeat (first | refine blk_drewN ?_ _ | refine blk_drew ?_ | refine blk_alloc ?_ _)); exact BK173.out) hb); have n5_ := Aside0.mk (below_step (by repeat (first | (with_reducible first | exact HB.out | apply below_alloc | apply pw_below_drewN | apply below_drew1 | refine below_set ?_ GE166.out | refine below_set ?_ GE171.out | refine below_set ?_ GE173.out) | exact HB.out)) hb); have n6_ := Aside0.mk (hbox); have n7_ := Aside0.mk ((by rw [hg]; exact (below_size (by repeat (first | (with_reducible first | exact HB.out | apply below_alloc | apply pw_below_drewN | apply below_drew1 | refine below_set ?_ GE166.out | refine below_set ?_ GE171.out | refine below_set ?_ GE173.out) | exact HB.out))) : w.heap.size ≤ gb201)); have n8_ := Aside0.mk ((by rw [hg]; exact (below_size (by repeat (first | (with_reducible first | exact HB.out | apply below_alloc | apply pw_below_drewN | apply below_drew1 | refine below_set ?_ GE166.out | refine below_set ?_ GE171.out | refine below_set ?_ GE173.out) | exact HB.out))) : w.heap.size ≤ gb201)); have n9_ := Aside0.mk ((by rw [hg]; exact Nat.ne_of_lt (blk_lt (g := gb166) (o := .cells #[.int .i64 x167000_1, .int .i64 x167001_1, .int .i64 x167002_1] 52 (0, 0)) (by (with_reducible repeat (first | refine blk_drewN ?_ _ | refine blk_drew ?_ | refine blk_alloc ?_ _)); refine blk_far ?_ NB166_173.out _; (with_reducible repeat (first | refine blk_drewN ?_ _ | refine blk_drew ?_ | refine blk_alloc ?_ _)); refine blk_far ?_ NB166_173.out _; (with_reducible repeat (first | refine blk_drewN ?_ _ | refine blk_drew ?_ | refine blk_alloc ?_ _)); exact BK166.out)) : gb166 ≠ gb201)); have n10_ := Aside0.mk ((by rw [hg]; exact Nat.ne_of_gt (blk_lt (g := gb166) (o := .cells #[.int .i64 x167000_1, .int .i64 x167001_1, .int .i64 x167002_1] 52 (0, 0)) (by (with_reducible repeat (first | refine blk_drewN ?_ _ | refine blk_drew ?_ | refine blk_alloc ?_ _)); refine blk_far ?_ NB166_173.out _; (with_reducible repeat (first | refine blk_drewN ?_ _ | refine blk_drew ?_ | refine blk_alloc ?_ _)); refine blk_far ?_ NB166_173.out _; (with_reducible repeat (first | refine blk_drewN ?_ _ | refine blk_drew ?_ | refine blk_alloc ?_ _)); exact BK166.out)) : gb201 ≠ gb166)); have n11_ := Aside0.mk ((by rw [hg]; exact Nat.ne_of_lt (blk_lt (g := gb171) (o := .cells #[.int .i64 x172000_1, .int .i64 x172001_1, .int .i64 x172002_1] 56 (0, 0)) (by (with_reducible repeat (first | refine blk_drewN ?_ _ | refine blk_drew ?_ | refine blk_alloc ?_ _)); refine blk_far ?_ NB171_173.out _; (with_reducible repeat (first | refine blk_drewN ?_ _ | refine blk_drew ?_ | refine blk_alloc ?_ _)); refine blk_far ?_ NB171_173.out _; (with_reducible repeat (first | refine blk_drewN ?_ _ | refine blk_drew ?_ | refine blk_alloc ?_ _)); exact BK171.out)) : gb171 ≠ gb201)); have n12_ := Aside0.mk ((by rw [hg]; exact Nat.ne_of_gt (blk_lt (g := gb171) (o := .cells #[.int .i64 x172000_1, .int .i64 x172001_1, .int .i64 x172002_1] 56 (0, 0)) (by (with_reducible repeat (first | refine blk_drewN ?_ _ | refine blk_drew ?_ | refine blk_alloc ?_ _)); refine blk_far ?_ NB171_173.out _; (with_reducible repeat (first | refine blk_drewN ?_ _ | refine blk_drew ?_ | refine blk_alloc ?_ _)); refine blk_far ?_ NB171_173.out _; (with_reducible repeat (first | refine blk_drewN ?_ _ | refine blk_drew ?_ | refine blk_alloc ?_ _)); exact BK171.out)) : gb201 ≠ gb171)); have n13_ := Aside0.mk ((by rw [hg]; exact Nat.ne_of_lt (blk_lt (g := gb173) (o := .cells #[.int .i64 ((rd_T62 l2 x13_1).f0), .int .u64 ((rd_T62 l2 x13_1).f1)] 62 (0, 0)) (by (with_reducible repeat (first | refine blk_drewN ?_ _ | refine blk_drew ?_ | refine blk_alloc ?_ _)); refine blk_put (cs := #[.int .i64 ((rd_T62 l2 x13_1).f0), .int .u64 0]) ?_ 1 _ rfl; (with_reducible repeat (first | refine blk_drewN ?_ _ | refine blk_drew ?_ | refine blk_alloc ?_ _)); refine blk_put (cs := #[.int .i64 0, .int .u64 0]) ?_ 0 _ rfl; (with_reducible repeat (first | refine blk_drewN ?_ _ | refine blk_drew ?_ | refine blk_alloc ?_ _)); exact BK173.out)) : gb173 ≠ gb201)); have n14_ := Aside0.mk ((by rw [hg]; exact Nat.ne_of_gt (blk_lt (g := gb173) (o := .cells #[.int .i64 ((rd_T62 l2 x13_1).f0), .int .u64 ((rd_T62 l2 x13_1).f1)] 62 (0, 0)) (by (with_reducible repeat (first | refine blk_drewN ?_ _ | refine blk_drew ?_ | refine blk_alloc ?_ _)); refine blk_put (cs := #[.int .i64 ((rd_T62 l2 x13_1).f0), .int .u64 0]) ?_ 1 _ rfl; (with_reducible repeat (first | refine blk_drewN ?_ _ | refine blk_drew ?_ | refine blk_alloc ?_ _)); refine blk_put (cs := #[.int .i64 0, .int .u64 0]) ?_ 0 _ rfl; (with_reducible repeat (first | refine blk_drewN ?_ _ | refine blk_drew ?_ | refine blk_alloc ?_ _)); exact BK173.out)) : gb201 ≠ gb173)); clear HO_11; clear HO_12; clear BK166; clear BK171; clear BK173; clear HB; have HO_11 := n0_; have HO_12 := n1_; have BK166 := n2_; have BK171 := n3_; have BK173 := n4_; have HB := n5_; have BK201 := n6_; have GW201 := n7_; have GE201 := n8_; have NB166_201 := n9_; have NB201_166 := n10_; have NB171_201 := n11_; have NB201_171 := n12_; have NB173_201 := n13_; have NB201_173 := n14_; clear n0_ n1_ n2_ n3_ n4_ n5_ n6_ n7_ n8_ n9_ n10_ n11_ n12_ n13_ n14_; clear hb hbox hg; have hnb95 := NB201_166.out; have hnc95 := NB166_201.out; have hnb96 := NB201_171.out; have hnc96 := NB171_201.out; have hnb97 := NB201_173.out; have hnc97 := NB173_201.out; have hcz98_0 : w94.cell? ⟨gb201, 0, none⟩ = some (.int .i64 0) := (blk_cell BK201.out 0).trans rfl; have hcz98_1 : w94.cell? ⟨gb201, 1, none⟩ = some (.int .i64 0) := (blk_cell BK201.out 1).trans rfl; have hcz98_2 : w94.cell? ⟨gb201, 2, none⟩ = some (.int .i64 0) := (blk_cell BK201.out 2).trans rfl; have hfz98_0 := blk_frozen BK201.out 0; have hfz98_1 := blk_frozen BK201.out 1; have hfz98_2 := blk_frozen BK201.out 2) | ((with_reducible refine gate_store (t := 52) (p := 19) rfl ?_); refine store_event (t := 52) (p := 19) (v := ?vo_w99) (w1 := (((w94.setCell ⟨gb201, 0, none⟩ (.int .i64 x167000_1)).setCell ⟨gb201, 1, none⟩ (.int .i64 x167001_1)).setCell ⟨gb201, 2, none⟩ (.int .i64 x167002_1))) ?hg ?ho ?hn ?hr ?_; (case ho => rfl); (case hg => rfl); (case hn => rfl); (case hr => first | (go_simp; done) | (go_simp; rfl)); intro w99 hw; have n0_ : Aside0 (Kd.R k52 52 w99 w.heap.size (fun k_ => k_ ≠ gb166 ∧ k_ ≠ gb201) (.slice Ao90 x11_1.length co90) x11_1) := ⟨(by rw [hw]; exact (by (with_reducible repeat (first | apply Kd.R_alloc | apply Kd.R_drewN | apply Kd.R_drew)); exact Kd.R_mono (Kd.R_far (p := ⟨gb201, 2, none⟩) (Kd.R_far (p := ⟨gb201, 1, none⟩) (Kd.R_far (p := ⟨gb201, 0, none⟩) (Kd.R_mono HO_11.out (fun k_ hk => (⟨hk, hk.2⟩ : _ ∧ k_ ≠ gb201))) (fun _ hk => hk.2) (.int .i64 x167000_1)) (fun _ hk => hk.2) (.int .i64 x167001_1)) (fun _ hk => hk.2) (.int .i64 x167002_1)) (fun _ hk => ⟨hk.1.1, hk.1.2⟩)))⟩; have n1_ : Aside0 (Kd.R k56 56 w99 w.heap.size (fun k_ => k_ ≠ gb171) u12 x12_1) := ⟨(by rw [hw]; exact (by (with_reducible repeat (first | apply Kd.R_alloc | apply Kd.R_drewN | apply Kd.R_drew)); exact Kd.R_mono (Kd.R_far (p := ⟨gb201, 2, none⟩) (Kd.R_far (p := ⟨gb201, 1, none⟩) (Kd.R_far (p := ⟨gb201, 0, none⟩) (Kd.R_types HO_12.out BK201.out (by decide)) (fun _ hk => hk.2) (.int .i64 x167000_1)) (fun _ hk => hk.2) (.int .i64 x167001_1)) (fun _ hk => hk.2) (.int .i64 x167002_1)) (fun _ hk => hk.1)))⟩; have n2_ : Aside0 (w99.heap[gb166]? = some (.cells #[.int .i64 x167000_1, .int .i64 x167001_1, .int .i64 x167002_1] 52 (0, 0))) := ⟨(by rw [hw]; exact (by (with_reducible repeat (first | refine blk_drewN ?_ _ | refine blk_drew ?_ | refine blk_alloc ?_ _)); refine blk_far ?_ NB166_201.out _; (with_reducible repeat (first | refine blk_drewN ?_ _ | refine blk_drew ?_ | refine blk_alloc ?_ _)); refine blk_far ?_ NB166_201.out _; (with_reducible repeat (first | refine blk_drewN ?_ _ | refine blk_drew ?_ | refine blk_alloc ?_ _)); refine blk_far ?_ NB166_201.out _; (with_reducible repeat (first | refine blk_drewN ?_ _ | refine blk_drew ?_ | refine blk_alloc ?_ _)); exact BK166.out))⟩; have n3_ : Aside0 (w99.heap[gb171]? = some (.cells #[.int .i64 x172000_1, .int .i64 x172001_1, .int .i64 x172002_1] 56 (0, 0))) := ⟨(by rw [hw]; exact (by (with_reducible repeat (first | refine blk_drewN ?_ _ | refine blk_drew ?_ | refine blk_alloc ?_ _)); refine blk_far ?_ NB171_201.out _; (with_reducible repeat (first | refine blk_drewN ?_ _ | refine blk_drew ?_ | refine blk_alloc ?_ _)); refine blk_far ?_ NB171_201.out _; (with_reducible repeat (first | refine blk_drewN ?_ _ | refine blk_drew ?_ | refine blk_alloc ?_ _)); refine blk_far ?_ NB171_201.out _; (with_reducible repeat (first | refine blk_drewN ?_ _ | refine blk_drew ?_ | refine blk_alloc ?_ _)); exact BK171.out))⟩; have n4_ : Aside0 (w99.heap[gb173]? = some (.cells #[.int .i64 ((rd_T62 l2 x13_1).f0), .int .u64 ((rd_T62 l2 x13_1).f1)] 62 (0, 0))) := ⟨(by rw [hw]; exact (by (with_reducible repeat (first | refine blk_drewN ?_ _ | refine blk_drew ?_ | refine blk_alloc ?_ _)); refine blk_far ?_ NB173_201.out _; (with_reducible repeat (first | refine blk_drewN ?_ _ | refine blk_drew ?_ | refine blk_alloc ?_ _)); refine blk_far ?_ NB173_201.out _; (with_reducible repeat (first | refine blk_drewN ?_ _ | refine blk_drew ?_ | refine blk_alloc ?_ _)); refine blk_far ?_ NB173_201.out _; (with_reducible repeat (first | refine blk_drewN ?_ _ | refine blk_drew ?_ | refine blk_alloc ?_ _)); exact BK173.out))⟩; have n5_ : Aside0 (w99.heap[gb201]? = some (.cells #[.int .i64 x167000_1, .int .i64 x167001_1, .int .i64 x167002_1] 52 (0, 0))) := ⟨(by rw [hw]; exact (by (with_reducible repeat (first | refine blk_drewN ?_ _ | refine blk_drew ?_ | refine blk_alloc ?_ _)); refine blk_put (cs := #[.int .i64 x167000_1, .int .i64 x167001_1, .int .i64 0]) ?_ 2 _ rfl; (with_reducible repeat (first | refine blk_drewN ?_ _ | refine blk_drew ?_ | refine blk_alloc ?_ _)); refine blk_put (cs := #[.int .i64 x167000_1, .int .i64 0, .int .i64 0]) ?_ 1 _ rfl; (with_reducible repeat (first | refine blk_drewN ?_ _ | refine blk_drew ?_ | refine blk_alloc ?_ _)); refine blk_put (cs := #[.int .i64 0, .int .i64 0, .int .i64 0]) ?_ 0 _ rfl; (with_reducible repeat (first | refine blk_drewN ?_ _ | refine blk_drew ?_ | refine blk_alloc ?_ _)); exact BK201.out))⟩; have n6_ : Aside0 (Below w.heap.size w w99) := ⟨(by rw [hw]; exact (by repeat (first | (with_reducible first | exact HB.out | apply below_alloc | apply pw_below_drewN | apply below_drew1 | refine below_set ?_ GE166.out | refine below_set ?_ GE171.out | refine below_set ?_ GE173.out | refine below_set ?_ GE201.out) | exact HB.out)))⟩; clear hw; clear HO_11; clear HO_12; clear BK166; clear BK171; clear BK173; clear BK201; clear HB; have HO_11 := n0_; have HO_12 := n1_; have BK166 := n2_; have BK171 := n3_; have BK173 := n4_; have BK201 := n5_; have HB := n6_; clear n0_ n1_ n2_ n3_ n4_ n5_ n6_; have p202 : 0 ≤ ((ji84) : Int) := of_decide_eq_true (by first | (with_reducible assumption) | assumption); have q202 : (ji84) < (x11_1.length : Int) := of_decide_eq_true (by first | (with_reducible assumption) | assumption); obtain ⟨ad202, e202, hx202_0, hx202_1, hx202_2⟩ := at_T52 (Kd.R_reads' HO_11.out).2.2 (ji84) p202 q202; cases e202; replace p202 := eq_true p202; replace q202 := eq_true q202; have hcz100_0 : w99.cell? ⟨gb166, 0, none⟩ = some (.int .i64 x167000_1) := (blk_cell BK166.out 0).trans rfl; have hcz100_1 : w99.cell? ⟨gb166, 1, none⟩ = some (.int .i64 x167001_1) := (blk_cell BK166.out 1).trans rfl; have hcz100_2 : w99.cell? ⟨gb166, 2, none⟩ = some (.int .i64 x167002_1) := (blk_cell BK166.out 2).trans rfl; have hfz100_0 := blk_frozen BK166.out 0; have hfz100_1 := blk_frozen BK166.out 1; have hfz100_2 := blk_frozen BK166.out 2) | ((with_reducible refine gate_store (t := 52) (p := 7) rfl ?_); refine store_event (t := 52) (p := 7) (v := ?vo_w101) (w1 := (((w99.setCell ⟨gb166, 0, none⟩ (.int .i64 ((rd_T52 x11_1 (ji84)).f0))).setCell ⟨gb166, 1, none⟩ (.int .i64 ((rd_T52 x11_1 (ji84)).f1))).setCell ⟨gb166, 2, none⟩ (.int .i64 ((rd_T52 x11_1 (ji84)).f2)))) ?hg ?ho ?hn ?hr ?_; (case ho => rfl); (case hg => rfl); (case hn => rfl); (case hr => first | (go_simp; done) | (go_simp; rfl)); intro w101 hw; have n0_ : Aside0 (Kd.R k52 52 w101 w.heap.size (fun k_ => k_ ≠ gb166 ∧ k_ ≠ gb201) (.slice (some ad202) x11_1.length co90) x11_1) := ⟨(by rw [hw]; exact (by (with_reducible repeat (first | apply Kd.R_alloc | apply Kd.R_drewN | apply Kd.R_drew)); exact Kd.R_mono (Kd.R_far (p := ⟨gb166, 2, none⟩) (Kd.R_far (p := ⟨gb166, 1, none⟩) (Kd.R_far (p := ⟨gb166, 0, none⟩) (Kd.R_mono HO_11.out (fun k_ hk => (⟨hk, hk.1⟩ : _ ∧ k_ ≠ gb166))) (fun _ hk => hk.2) (.int .i64 ((rd_T52 x11_1 (ji84)).f0))) (fun _ hk => hk.2) (.int .i64 ((rd_T52 x11_1 (ji84)).f1))) (fun _ hk => hk.2) (.int .i64 ((rd_T52 x11_1 (ji84)).f2))) (fun _ hk => ⟨hk.1.1, hk.1.2⟩)))⟩; have n1_ : Aside0 (Kd.R k56 56 w101 w.heap.size (fun k_ => k_ ≠ gb171) u12 x12_1) := ⟨(by rw [hw]; exact (by (with_reducible repeat (first | apply Kd.R_alloc | apply Kd.R_drewN | apply Kd.R_drew)); exact Kd.R_mono (Kd.R_far (p := ⟨gb166, 2, none⟩) (Kd.R_far (p := ⟨gb166, 1, none⟩) (Kd.R_far (p := ⟨gb166, 0, none⟩) (Kd.R_types HO_12.out BK166.out (by decide)) (fun _ hk => hk.2) (.int .i64 ((rd_T52 x11_1 (ji84)).f0))) (fun _ hk => hk.2) (.int .i64 ((rd_T52 x11_1 (ji84)).f1))) (fun _ hk => hk.2) (.int .i64 ((rd_T52 x11_1 (ji84)).f2))) (fun _ hk => hk.1)))⟩; have n2_ : Aside0 (w101.heap[gb166]? = some (.cells #[.int .i64 ((rd_T52 x11_1 (ji84)).f0), .int .i64 ((rd_T52 x11_1 (ji84)).f1), .int .i64 ((rd_T52 x11_1 (ji84)).f2)] 52 (0, 0))) := ⟨(by rw [hw]; exact (by (with_reducible repeat (first | refine blk_drewN ?_ _ | refine blk_drew ?_ | refine blk_alloc ?_ _)); refine blk_put (cs := #[.int .i64 ((rd_T52 x11_1 (ji84)).f0), .int .i64 ((rd_T52 x11_1 (ji84)).f1), .int .i64 x167002_1]) ?_ 2 _ rfl; (with_reducible repeat (first | refine blk_drewN ?_ _ | refine blk_drew ?_ | refine blk_alloc ?_ _)); refine blk_put (cs := #[.int .i64 ((rd_T52 x11_1 (ji84)).f0), .int .i64 x167001_1, .int .i64 x167002_1]) ?_ 1 _ rfl; (with_reducible repeat (first | refine blk_drewN ?_ _ | refine blk_drew ?_ | refine blk_alloc ?_ _)); refine blk_put (cs := #[.int .i64 x167000_1, .int .i64 x167001_1, .int .i64 x167002_1]) ?_ 0 _ rfl; (with_reducible repeat (first | refine blk_drewN ?_ _ | refine blk_drew ?_ | refine blk_alloc ?_ _)); exact BK166.out))⟩; have n3_ : Aside0 (w101.heap[gb171]? = some (.cells #[.int .i64 x172000_1, .int .i64 x172001_1, .int .i64 x172002_1] 56 (0, 0))) := ⟨(by rw [hw]; exact (by (with_reducible repeat (first | refine blk_drewN ?_ _ | refine blk_drew ?_ | refine blk_alloc ?_ _)); refine blk_far ?_ NB171_166.out _; (with_reducible repeat (first | refine blk_drewN ?_ _ | refine blk_drew ?_ | refine blk_alloc ?_ _)); refine blk_far ?_ NB171_166.out _; (with_reducible repeat (first | refine blk_drewN ?_ _ | refine blk_drew ?_ | refine blk_alloc ?_ _)); refine blk_far ?_ NB171_166.out _; (with_reducible repeat (first | refine blk_drewN ?_ _ | refine blk_drew ?_ | refine blk_alloc ?_ _)); exact BK171.out))⟩; have n4_ : Aside0 (w101.heap[gb173]? = some (.cells #[.int .i64 ((rd_T62 l2 x13_1).f0), .int .u64 ((rd_T62 l2 x13_1).f1)] 62 (0, 0))) := ⟨(by rw [hw]; exact (by (with_reducible repeat (first | refine blk_drewN ?_ _ | refine blk_drew ?_ | refine blk_alloc ?_ _)); refine blk_far ?_ NB173_166.out _; (with_reducible repeat (first | refine blk_drewN ?_ _ | refine blk_drew ?_ | refine blk_alloc ?_ _)); refine blk_far ?_ NB173_166.out _; (with_reducible repeat (first | refine blk_drewN ?_ _ | refine blk_drew ?_ | refine blk_alloc ?_ _)); refine blk_far ?_ NB173_166.out _; (with_reducible repeat (first | refine blk_drewN ?_ _ | refine blk_drew ?_ | refine blk_alloc ?_ _)); exact BK173.out))⟩; have n5_ : Aside0 (w101.heap[gb201]? = some (.cells #[.int .i64 x167000_1, .int .i64 x167001_1, .int .i64 x167002_1] 52 (0, 0))) := ⟨(by rw [hw]; exact (by (with_reducible repeat (first | refine blk_drewN ?_ _ | refine blk_drew ?_ | refine blk_alloc ?_ _)); refine blk_far ?_ NB201_166.out _; (with_reducible repeat (first | refine blk_drewN ?_ _ | refine blk_drew ?_ | refine blk_alloc ?_ _)); refine blk_far ?_ NB201_166.out _; (with_reducible repeat (first | refine blk_drewN ?_ _ | refine blk_drew ?_ | refine blk_alloc ?_ _)); refine blk_far ?_ NB201_166.out _; (with_reducible repeat (first | refine blk_drewN ?_ _ | refine blk_drew ?_ | refine blk_alloc ?_ _)); exact BK201.out))⟩; have n6_ : Aside0 (Below w.heap.size w w101) := ⟨(by rw [hw]; exact (by repeat (first | (with_reducible first | exact HB.out | apply below_alloc | apply pw_below_drewN | apply below_drew1 | refine below_set ?_ GE166.out | refine below_set ?_ GE171.out | refine below_set ?_ GE173.out | refine below_set ?_ GE201.out) | exact HB.out)))⟩; clear hw; clear HO_11; clear HO_12; clear BK166; clear BK171; clear BK173; clear BK201; clear HB; have HO_11 := n0_; have HO_12 := n1_; have BK166 := n2_; have BK171 := n3_; have BK173 := n4_; have BK201 := n5_; have HB := n6_; clear n0_ n1_ n2_ n3_ n4_ n5_ n6_; have hcz102_0 : w101.cell? ⟨gb201, 0, none⟩ = some (.int .i64 x167000_1) := (blk_cell BK201.out 0).trans rfl; have hcz102_1 : w101.cell? ⟨gb201, 1, none⟩ = some (.int .i64 x167001_1) := (blk_cell BK201.out 1).trans rfl; have hcz102_2 : w101.cell? ⟨gb201, 2, none⟩ = some (.int .i64 x167002_1) := (blk_cell BK201.out 2).trans rfl; have hfz102_0 := blk_frozen BK201.out 0; have hfz102_1 := blk_frozen BK201.out 1; have hfz102_2 := blk_frozen BK201.out 2; have p87 : 0 ≤ ((ji84) : Int) := of_decide_eq_true (by first | (with_reducible assumption) | assumption); have q87 : ((ji84) : Int) < ((x11_1.length : Int) : Int) := of_decide_eq_true (by first | (with_reducible assumption) | assumption); obtain ⟨go87, co87, eo87, gb87, gl87, cl87, HG87⟩ := Kd.R_form HO_11.out (by omega); (first | cases eo87 | (injection eo87 with ea_ en_ ec_; (first | subst ea_ | (injection ea_ with ea_; subst ea_)); subst ec_; clear en_)); have GB87 := Aside0.mk gb87; have GG87 := Aside0.mk HG87; clear gb87 gl87 HG87; (first | simp only [add_plain] at hx202_0 | skip); (first | simp only [add_plain] at hx202_1 | skip); (first | simp only [add_plain] at hx202_2 | skip); obtain ⟨ce87, hcl87, hM87, hcc87, hfr87⟩ := Kd.R_elem HO_11.out z52 ((ji84) : Int) p87 q87; obtain rfl := k52_openM hM87; have hx87_0 : w101.cell? ⟨go87, ((ji84) : Int).toNat * 3, none⟩ = some (.int .i64 ((rd_T52 x11_1 (ji84)).f0)) := hcc87 0 _ rfl; have hx87_1 : w101.cell? ⟨go87, ((ji84) : Int).toNat * 3 + 1, none⟩ = some (.int .i64 ((rd_T52 x11_1 (ji84)).f1)) := hcc87 1 _ rfl; have hx87_2 : w101.cell? ⟨go87, ((ji84) : Int).toNat * 3 + 2, none⟩ = some (.int .i64 ((rd_T52 x11_1 (ji84)).f2)) := hcc87 2 _ rfl; have hf87_0 : w101.frozen? ⟨go87, ((ji84) : Int).toNat * 3, none⟩ = false := hfr87 0; have hf87_1 : w101.frozen? ⟨go87, ((ji84) : Int).toNat * 3 + 1, none⟩ = false := hfr87 1; have hf87_2 : w101.frozen? ⟨go87, ((ji84) : Int).toNat * 3 + 2, none⟩ = false := hfr87 2; clear hcl87 hcc87 hfr87 hM87; replace p87 := eq_true p87; replace q87 := eq_true q87; have HX103 := Aside0.mk (show Kd.R k52 52 w101 w.heap.size (fun k_ => k_ ≠ gb166 ∧ k_ ≠ gb201) (.slice (some ⟨go87, 0, none⟩) x11_1.length co90) x11_1 from (by (with_reducible repeat (first | apply Kd.R_alloc | apply Kd.R_drewN | apply Kd.R_drew)); exact HO_11.out)); obtain ⟨ce103, hcl103, hM103, hcc103, hfr103⟩ := Kd.R_elem HX103.out z52 ((ji84) : Int) (of_decide_eq_true (by first | (with_reducible assumption) | assumption)) (by have h_ : ((ji84) : Int) < ((x11_1.length : Int) : Int) := of_decide_eq_true (by first | (with_reducible assumption) | assumption); first | exact h_ | (have e_ := (Kd.R_reads' HO_11.out).1; omega) | simpa using h_); obtain rfl := k52_openM hM103; have HP103 := Kd.R_seg HX103.out ((ji84) : Int) (of_decide_eq_true (by first | (with_reducible assumption) | assumption)) (by have h_ : ((ji84) : Int) < ((x11_1.length : Int) : Int) := of_decide_eq_true (by first | (with_reducible assumption) | assumption); first | exact h_ | (have e_ := (Kd.R_reads' HO_11.out).1; omega) | simpa using h_) (seg := [.int .i64 x167000_1, .int .i64 x167001_1, .int .i64 x167002_1]) (j := 0) hcl103 hcc103 (show 3 ≤ 3 from by decide) (x' := (⟨x167000_1, x167001_1, x167002_1⟩ : S52)) (k52_mkM _ _ _ (⟨x167000_1, x167001_1, x167002_1⟩ : S52) ) (fun _ hk => hk); have hx103_0 := hcc103 0 _ rfl; (try simp only [show (k52).sz = 3 from rfl, Nat.mul_one, Nat.add_zero] at hx103_0); have hf103_0 := hfr103 0; (try simp only [show (k52).sz = 3 from rfl, Nat.mul_one, Nat.add_zero] at hf103_0); have hx103_1 := hcc103 1 _ rfl; (try simp only [show (k52).sz = 3 from rfl, Nat.mul_one, Nat.add_zero] at hx103_1); have hf103_1 := hfr103 1; (try simp only [show (k52).sz = 3 from rfl, Nat.mul_one, Nat.add_zero] at hf103_1); have hx103_2 := hcc103 2 _ rfl; (try simp only [show (k52).sz = 3 from rfl, Nat.mul_one, Nat.add_zero] at hx103_2); have hf103_2 := hfr103 2; (try simp only [show (k52).sz = 3 from rfl, Nat.mul_one, Nat.add_zero] at hf103_2); clear hcl103 hcc103 hfr103 hM103) | ((with_reducible refine gate_store (t := 52) (p := 105) rfl ?_); refine store_event (t := 52) (p := 105) (v := ?vo_w104) (w1 := (((w101.setCell ⟨go87, ((ji84) : Int).toNat * 3, none⟩ (.int .i64 x167000_1)).setCell ⟨go87, ((ji84) : Int).toNat * 3 + 1, none⟩ (.int .i64 x167001_1)).setCell ⟨go87, ((ji84) : Int).toNat * 3 + 2, none⟩ (.int .i64 x167002_1))) ?hg ?ho ?hn ?hr ?_; (case ho => rfl); (case hg => rfl); (case hn => rfl); (case hr => first | (go_simp; done) | (go_simp; rfl)); intro w104 hw; have hg : w101.grownBy w104 (some go87) := (by rw [hw]; exact HP103.2); have hp_ : Kd.R k52 52 w104 w.heap.size (fun k_ => k_ ≠ gb166 ∧ k_ ≠ gb201) (.slice (some ⟨go87, 0, none⟩) x11_1.length co90) y203 := (by rw [hw, Ny203.out]; exact HP103.1); clear HP103; have n0_ := Aside0.mk (hp_); have n1_ := Aside0.mk (Kd.R_over' (v := (.slice (some ⟨go87, 0, none⟩) x11_1.length co90)) (by (with_reducible repeat (first | apply Kd.R_alloc | apply Kd.R_drewN | apply Kd.R_drew)); exact HO_12.out) (Kd.R_typed HO_11.out) (by decide) hg); have n2_ := Aside0.mk (blk_grown (g := gb166) (o := .cells #[.int .i64 ((rd_T52 x11_1 (ji84)).f0), .int .i64 ((rd_T52 x11_1 (ji84)).f1), .int .i64 ((rd_T52 x11_1 (ji84)).f2)] 52 (0, 0)) (by (with_reducible repeat (first | refine blk_drewN ?_ _ | refine blk_drew ?_ | refine blk_alloc ?_ _)); exact BK166.out) hg (Kd.R_away HO_11.out (fun _ hk => hk.1))); have n3_ := Aside0.mk (blk_grown (g := gb171) (o := .cells #[.int .i64 x172000_1, .int .i64 x172001_1, .int .i64 x172002_1] 56 (0, 0)) (by (with_reducible repeat (first | refine blk_drewN ?_ _ | refine blk_drew ?_ | refine blk_alloc ?_ _)); exact BK171.out) hg (Kd.R_ne HO_11.out BK171.out (by decide))); have n4_ := Aside0.mk (blk_grown (g := gb173) (o := .cells #[.int .i64 ((rd_T62 l2 x13_1).f0), .int .u64 ((rd_T62 l2 x13_1).f1)] 62 (0, 0)) (by (with_reducible repeat (first | refine blk_drewN ?_ _ | refine blk_drew ?_ | refine blk_alloc ?_ _)); exact BK173.out) hg (Kd.R_ne HO_11.out BK173.out (by decide))); have n5_ := Aside0.mk (blk_grown (g := gb201) (o := .cells #[.int .i64 x167000_1, .int .i64 x167001_1, .int .i64 x167002_1] 52 (0, 0)) (by (with_reducible repeat (first | refine blk_drewN ?_ _ | refine blk_drew ?_ | refine blk_alloc ?_ _)); exact BK201.out) hg (Kd.R_away HO_11.out (fun _ hk => hk.2))); have n6_ := Aside0.mk ((by rw [hw]; exact below_set (below_set (below_set (HB.out) GB87.out) GB87.out) GB87.out : Below w.heap.size w w104)); clear HO_11; clear HO_12; clear BK166; clear BK171; clear BK173; clear BK201; clear HB; have HO_11 := n0_; have HO_12 := n1_; have BK166 := n2_; have BK171 := n3_; have BK173 := n4_; have BK201 := n5_; have HB := n6_; clear n0_ n1_ n2_ n3_ n4_ n5_ n6_; clear hg hw hp_; have hnb105 := NB171_173.out; have hnc105 := NB173_171.out; have hcz106_0 : w104.cell? ⟨gb171, 0, none⟩ = some (.int .i64 x172000_1) := (blk_cell BK171.out 0).trans rfl; have hcz106_1 : w104.cell? ⟨gb171, 1, none⟩ = some (.int .i64 x172001_1) := (blk_cell BK171.out 1).trans rfl; have hcz106_2 : w104.cell? ⟨gb171, 2, none⟩ = some (.int .i64 x172002_1) := (blk_cell BK171.out 2).trans rfl; have hfz106_0 := blk_frozen BK171.out 0; have hfz106_1 := blk_frozen BK171.out 1; have hfz106_2 := blk_frozen BK171.out 2) | ((with_reducible refine gate_dst (N := 20) rfl ?_); refine box_event ?hg (N := 20) ?hd (cs := #[.int .i64 0, .int .i64 0, .int .i64 0]) (t := 56) ?hr ?_; (case hd => rfl); (case hg => rfl); (case hr => first | (go_simp; done) | (go_simp; rfl)); intro gb204 hg w107 hbox hb; have n0_ := Aside0.mk (Kd.R_below (by (with_reducible repeat (first | apply Kd.R_alloc | apply Kd.R_drewN | apply Kd.R_drew)); exact HO_11.out) hb); have n1_ := Aside0.mk (Kd.R_below (Kd.R_elderB (by (with_reducible repeat (first | apply Kd.R_alloc | apply Kd.R_drewN | apply Kd.R_drew)); exact HO_12.out) gb204 (Nat.le_of_eq hg.symm)) hb); have n2_ := Aside0.mk (blk_below (g := gb166) (o := .cells #[.int .i64 ((rd_T52 x11_1 (ji84)).f0), .int .i64 ((rd_T52 x11_1 (ji84)).f1), .int .i64 ((rd_T52 x11_1 (ji84)).f2)] 52 (0, 0)) (by (with_reducible repeat (first | refine blk_drewN ?_ _ | refine blk_drew ?_ | refine blk_alloc ?_ _)); exact BK166.out) hb); have n3_ := Aside0.mk (blk_below (g := gb171) (o := .cells #[.int .i64 x172000_1, .int .i64 x172001_1, .int .i64 x172002_1] 56 (0, 0)) (by (with_reducible repeat (first | refine blk_drewN ?_ _ | refine blk_drew ?_ | refine blk_alloc ?_ _)); exact BK171.out) hb); have n4_ := Aside0.mk (blk_below (g := gb173) (o := .cells #[.int .i64 ((rd_T62 l2 x13_1).f0), .int .u64 ((rd_T62 l2 x13_1).f1)] 62 (0, 0)) (by (with_reducible repeat (first | refine blk_drewN ?_ _ | refine blk_drew ?_ | refine blk_alloc ?_ _)); exact BK173.out) hb); have n5_ := Aside0.mk (blk_below (g := gb201) (o := .cells #[.int .i64 x167000_1, .int .i64 x167001_1, .int .i64 x167002_1] 52 (0, 0)) (by (with_reducible repeat (first | refine blk_drewN ?_ _ | refine blk_drew ?_ | refine blk_alloc ?_ _)); exact BK201.out) hb); have n6_ := Aside0.mk (below_step (by repeat (first | (with_reducible first | exact HB.out | apply below_alloc | apply pw_below_drewN | apply below_drew1 | refine below_set ?_ GE166.out | refine below_set ?_ GE171.out | refine below_set ?_ GE173.out | refine below_set ?_ GE201.out) | exact HB.out)) hb); have n7_ := Aside0.mk (hbox); have n8_ := Aside0.mk ((by rw [hg]; exact (below_size (by repeat (first | (with_reducible first | exact HB.out | apply below_alloc | apply pw_below_drewN | apply below_drew1 | refine below_set ?_ GE166.out | refine below_set ?_ GE171.out | refine below_set ?_ GE173.out | refine below_set ?_ GE201.out) | exact HB.out))) : w.heap.size ≤ gb204)); have n9_ := Aside0.mk ((by rw [hg]; exact (below_size (by repeat (first | (with_reducible first | exact HB.out | apply below_alloc | apply pw_below_drewN | apply below_drew1 | refine below_set ?_ GE166.out | refine below_set ?_ GE171.out | refine below_set ?_ GE173.out | refine below_set ?_ GE201.out) | exact HB.out))) : w.heap.size ≤ gb204)); have n10_ := Aside0.mk ((by rw [hg]; exact Nat.ne_of_lt (blk_lt (g := gb166) (o := .cells #[.int .i64 ((rd_T52 x11_1 (ji84)).f0), .int .i64 ((rd_T52 x11_1 (ji84)).f1), .int .i64 ((rd_T52 x11_1 (ji84)).f2)] 52 (0, 0)) (by (with_reducible repeat (first | refine blk_drewN ?_ _ | refine blk_drew ?_ | refine blk_alloc ?_ _)); exact BK166.out)) : gb166 ≠ gb204)); have n11_ := Aside0.mk ((by rw [hg]; exact Nat.ne_of_gt (blk_lt (g := gb166) (o := .cells #[.int .i64 ((rd_T52 x11_1 (ji84)).f0), .int .i64 ((rd_T52 x11_1 (ji84)).f1), .int .i64 ((rd_T52 x11_1 (ji84)).f2)] 52 (0, 0)) (by (with_reducible repeat (first | refine blk_drewN ?_ _ | refine blk_drew ?_ | refine blk_alloc ?_ _)); exact BK166.out)) : gb204 ≠ gb166)); have n12_ := Aside0.mk ((by rw [hg]; exact Nat.ne_of_lt (blk_lt (g := gb171) (o := .cells #[.int .i64 x172000_1, .int .i64 x172001_1, .int .i64 x172002_1] 56 (0, 0)) (by (with_reducible repeat (first | refine blk_drewN ?_ _ | refine blk_drew ?_ | refine blk_alloc ?_ _)); exact BK171.out)) : gb171 ≠ gb204)); have n13_ := Aside0.mk ((by rw [hg]; exact Nat.ne_of_gt (blk_lt (g := gb171) (o := .cells #[.int .i64 x172000_1, .int .i64 x172001_1, .int .i64 x172002_1] 56 (0, 0)) (by (with_reducible repeat (first | refine blk_drewN ?_ _ | refine blk_drew ?_ | refine blk_alloc ?_ _)); exact BK171.out)) : gb204 ≠ gb171)); have n14_ := Aside0.mk ((by rw [hg]; exact Nat.ne_of_lt (blk_lt (g := gb173) (o := .cells #[.int .i64 ((rd_T62 l2 x13_1).f0), .int .u64 ((rd_T62 l2 x13_1).f1)] 62 (0, 0)) (by (with_reducible repeat (first | refine blk_drewN ?_ _ | refine blk_drew ?_ | refine blk_alloc ?_ _)); exact BK173.out)) : gb173 ≠ gb204)); have n15_ := Aside0.mk ((by rw [hg]; exact Nat.ne_of_gt (blk_lt (g := gb173) (o := .cells #[.int .i64 ((rd_T62 l2 x13_1).f0), .int .u64 ((rd_T62 l2 x13_1).f1)] 62 (0, 0)) (by (with_reducible repeat (first | refine blk_drewN ?_ _ | refine blk_drew ?_ | refine blk_alloc ?_ _)); exact BK173.out)) : gb204 ≠ gb173)); have n16_ := Aside0.mk ((by rw [hg]; exact Nat.ne_of_lt (blk_lt (g := gb201) (o := .cells #[.int .i64 x167000_1, .int .i64 x167001_1, .int .i64 x167002_1] 52 (0, 0)) (by (with_reducible repeat (first | refine blk_drewN ?_ _ | refine blk_drew ?_ | refine blk_alloc ?_ _)); exact BK201.out)) : gb201 ≠ gb204)); have n17_ := Aside0.mk ((by rw [hg]; exact Nat.ne_of_gt (blk_lt (g := gb201) (o := .cells #[.int .i64 x167000_1, .int .i64 x167001_1, .int .i64 x167002_1] 52 (0, 0)) (by (with_reducible repeat (first | refine blk_drewN ?_ _ | refine blk_drew ?_ | refine blk_alloc ?_ _)); exact BK201.out)) : gb204 ≠ gb201)); clear HO_11; clear HO_12; clear BK166; clear BK171; clear BK173; clear BK201; clear HB; have HO_11 := n0_; have HO_12 := n1_; have BK166 := n2_; have BK171 := n3_; have BK173 := n4_; have BK201 := n5_; have HB := n6_; have BK204 := n7_; have GW204 := n8_; have GE204 := n9_; have NB166_204 := n10_; have NB204_166 := n11_; have NB171_204 := n12_; have NB204_171 := n13_; have NB173_204 := n14_; have NB204_173 := n15_; have NB201_204 := n16_; have NB204_201 := n17_; clear n0_ n1_ n2_ n3_ n4_ n5_ n6_ n7_ n8_ n9_ n10_ n11_ n12_ n13_ n14_ n15_ n16_ n17_; clear hb hbox hg; have hnb108 := NB204_166.out; have hnc108 := NB166_204.out; have hnb109 := NB204_171.out; have hnc109 := NB171_204.out; have hnb110 := NB204_173.out; have hnc110 := NB173_204.out; have hnb111 := NB204_201.out; have hnc111 := NB201_204.out; have hcz112_0 : w107.cell? ⟨gb204, 0, none⟩ = some (.int .i64 0) := (blk_cell BK204.out 0).trans rfl; have hcz112_1 : w107.cell? ⟨gb204, 1, none⟩ = some (.int .i64 0) := (blk_cell BK204.out 1).trans rfl; have hcz112_2 : w107.cell? ⟨gb204, 2, none⟩ = some (.int .i64 0) := (blk_cell BK204.out 2).trans rfl; have hfz112_0 := blk_frozen BK204.out 0; have hfz112_1 := blk_frozen BK204.out 1; have hfz112_2 := blk_frozen BK204.out 2) | ((with_reducible refine gate_store (t := 56) (p := 20) rfl ?_); refine store_event (t := 56) (p := 20) (v := ?vo_w113) (w1 := (((w107.setCell ⟨gb204, 0, none⟩ (.int .i64 x172000_1)).setCell ⟨gb204, 1, none⟩ (.int .i64 x172001_1)).setCell ⟨gb204, 2, none⟩ (.int .i64 x172002_1))) ?hg ?ho ?hn ?hr ?_; (case ho => rfl); (case hg => rfl); (case hn => rfl); (case hr => first | (go_simp; done) | (go_simp; rfl)); intro w113 hw; have n0_ : Aside0 (Kd.R k52 52 w113 w.heap.size (fun k_ => k_ ≠ gb166 ∧ k_ ≠ gb201) (.slice (some ⟨go87, 0, none⟩) x11_1.length co90) y203) := ⟨(by rw [hw]; exact (by (with_reducible repeat (first | apply Kd.R_alloc | apply Kd.R_drewN | apply Kd.R_drew)); exact Kd.R_mono (Kd.R_far (p := ⟨gb204, 2, none⟩) (Kd.R_far (p := ⟨gb204, 1, none⟩) (Kd.R_far (p := ⟨gb204, 0, none⟩) (Kd.R_types HO_11.out BK204.out (by decide)) (fun _ hk => hk.2) (.int .i64 x172000_1)) (fun _ hk => hk.2) (.int .i64 x172001_1)) (fun _ hk => hk.2) (.int .i64 x172002_1)) (fun _ hk => ⟨hk.1.1, hk.1.2⟩)))⟩; have n1_ : Aside0 (Kd.R k56 56 w113 w.heap.size (fun k_ => k_ ≠ gb171 ∧ k_ ≠ gb204) u12 x12_1) := ⟨(by rw [hw]; exact (by (with_reducible repeat (first | apply Kd.R_alloc | apply Kd.R_drewN | apply Kd.R_drew)); exact Kd.R_mono (Kd.R_far (p := ⟨gb204, 2, none⟩) (Kd.R_far (p := ⟨gb204, 1, none⟩) (Kd.R_far (p := ⟨gb204, 0, none⟩) (Kd.R_mono HO_12.out (fun k_ hk => (⟨hk, hk.2⟩ : _ ∧ k_ ≠ gb204))) (fun _ hk => hk.2) (.int .i64 x172000_1)) (fun _ hk => hk.2) (.int .i64 x172001_1)) (fun _ hk => hk.2) (.int .i64 x172002_1)) (fun _ hk => ⟨hk.1.1, hk.1.2⟩)))⟩; have n2_ : Aside0 (w113.heap[gb166]? = some (.cells #[.int .i64 ((rd_T52 x11_1 (ji84)).f0), .int .i64 ((rd_T52 x11_1 (ji84)).f1), .int .i64 ((rd_T52 x11_1 (ji84)).f2)] 52 (0, 0))) := ⟨(by rw [hw]; exact (by (with_reducible repeat (first | refine blk_drewN ?_ _ | refine blk_drew ?_ | refine blk_alloc ?_ _)); refine blk_far ?_ NB166_204.out _; (with_reducible repeat (first | refine blk_drewN ?_ _ | refine blk_drew ?_ | refine blk_alloc ?_ _)); refine blk_far ?_ NB166_204.out _; (with_reducible repeat (first | refine blk_drewN ?_ _ | refine blk_drew ?_ | refine blk_alloc ?_ _)); refine blk_far ?_ NB166_204.out _; (with_reducible repeat (first | refine blk_drewN ?_ _ | refine blk_drew ?_ | refine blk_alloc ?_ _)); exact BK166.out))⟩; have n3_ : Aside0 (w113.heap[gb171]? = some (.cells #[.int .i64 x172000_1, .int .i64 x172001_1, .int .i64 x172002_1] 56 (0, 0))) := ⟨(by rw [hw]; exact (by (with_reducible repeat (first | refine blk_drewN ?_ _ | refine blk_drew ?_ | refine blk_alloc ?_ _)); refine blk_far ?_ NB171_204.out _; (with_reducible repeat (first | refine blk_drewN ?_ _ | refine blk_drew ?_ | refine blk_alloc ?_ _)); refine blk_far ?_ NB171_204.out _; (with_reducible repeat (first | refine blk_drewN ?_ _ | refine blk_drew ?_ | refine blk_alloc ?_ _)); refine blk_far ?_ NB171_204.out _; (with_reducible repeat (first | refine blk_drewN ?_ _ | refine blk_drew ?_ | refine blk_alloc ?_ _)); exact BK171.out))⟩; have n4_ : Aside0 (w113.heap[gb173]? = some (.cells #[.int .i64 ((rd_T62 l2 x13_1).f0), .int .u64 ((rd_T62 l2 x13_1).f1)] 62 (0, 0))) := ⟨(by rw [hw]; exact (by (with_reducible repeat (first | refine blk_drewN ?_ _ | refine blk_drew ?_ | refine blk_alloc ?_ _)); refine blk_far ?_ NB173_204.out _; (with_reducible repeat (first | refine blk_drewN ?_ _ | refine blk_drew ?_ | refine blk_alloc ?_ _)); refine blk_far ?_ NB173_204.out _; (with_reducible repeat (first | refine blk_drewN ?_ _ | refine blk_drew ?_ | refine blk_alloc ?_ _)); refine blk_far ?_ NB173_204.out _; (with_reducible repeat (first | refine blk_drewN ?_ _ | refine blk_drew ?_ | refine blk_alloc ?_ _)); exact BK173.out))⟩; have n5_ : Aside0 (w113.heap[gb201]? = some (.cells #[.int .i64 x167000_1, .int .i64 x167001_1, .int .i64 x167002_1] 52 (0, 0))) := ⟨(by rw [hw]; exact (by (with_reducible repeat (first | refine blk_drewN ?_ _ | refine blk_drew ?_ | refine blk_alloc ?_ _)); refine blk_far ?_ NB201_204.out _; (with_reducible repeat (first | refine blk_drewN ?_ _ | refine blk_drew ?_ | refine blk_alloc ?_ _)); refine blk_far ?_ NB201_204.out _; (with_reducible repeat (first | refine blk_drewN ?_ _ | refine blk_drew ?_ | refine blk_alloc ?_ _)); refine blk_far ?_ NB201_204.out _; (with_reducible repeat (first | refine blk_drewN ?_ _ | refine blk_drew ?_ | refine blk_alloc ?_ _)); exact BK201.out))⟩; have n6_ : Aside0 (w113.heap[gb204]? = some (.cells #[.int .i64 x172000_1, .int .i64 x172001_1, .int .i64 x172002_1] 56 (0, 0))) := ⟨(by rw [hw]; exact (by (with_reducible repeat (first | refine blk_drewN ?_ _ | refine blk_drew ?_ | refine blk_alloc ?_ _)); refine blk_put (cs := #[.int .i64 x172000_1, .int .i64 x172001_1, .int .i64 0]) ?_ 2 _ rfl; (with_reducible repeat (first | refine blk_drewN ?_ _ | refine blk_drew ?_ | refine blk_alloc ?_ _)); refine blk_put (cs := #[.int .i64 x172000_1, .int .i64 0, .int .i64 0]) ?_ 1 _ rfl; (with_reducible repeat (first | refine blk_drewN ?_ _ | refine blk_drew ?_ | refine blk_alloc ?_ _)); refine blk_put (cs := #[.int .i64 0, .int .i64 0, .int .i64 0]) ?_ 0 _ rfl; (with_reducible repeat (first | refine blk_drewN ?_ _ | refine blk_drew ?_ | refine blk_alloc ?_ _)); exact BK204.out))⟩; have n7_ : Aside0 (Below w.heap.size w w113) := ⟨(by rw [hw]; exact (by repeat (first | (with_reducible first | exact HB.out | apply below_alloc | apply pw_below_drewN | apply below_drew1 | refine below_set ?_ GE166.out | refine below_set ?_ GE171.out | refine below_set ?_ GE173.out | refine below_set ?_ GE201.out | refine below_set ?_ GE204.out) | exact HB.out)))⟩; clear hw; clear HO_11; clear HO_12; clear BK166; clear BK171; clear BK173; clear BK201; clear BK204; clear HB; have HO_11 := n0_; have HO_12 := n1_; have BK166 := n2_; have BK171 := n3_; have BK173 := n4_; have BK201 := n5_; have BK204 := n6_; have HB := n7_; clear n0_ n1_ n2_ n3_ n4_ n5_ n6_ n7_; obtain ⟨Ao114, co114, eo114⟩ := Kd.R_slice HO_12.out; subst eo114; have p205 : 0 ≤ ((ji84) : Int) := of_decide_eq_true (by first | (with_reducible assumption) | assumption); have q205 : (ji84) < (x12_1.length : Int) := of_decide_eq_true (by first | (with_reducible assumption) | assumption); obtain ⟨ad205, e205, hx205_0, hx205_1, hx205_2⟩ := at_T56 (Kd.R_reads' HO_12.out).2.2 (ji84) p205 q205; cases e205; replace p205 := eq_true p205; replace q205 := eq_true q205; have hcz115_0 : w113.cell? ⟨gb171, 0, none⟩ = some (.int .i64 x172000_1) := (blk_cell BK171.out 0).trans rfl; have hcz115_1 : w113.cell? ⟨gb171, 1, none⟩ = some (.int .i64 x172001_1) := (blk_cell BK171.out 1).trans rfl; have hcz115_2 : w113.cell? ⟨gb171, 2, none⟩ = some (.int .i64 x172002_1) := (blk_cell BK171.out 2).trans rfl; have hfz115_0 := blk_frozen BK171.out 0; have hfz115_1 := blk_frozen BK171.out 1; have hfz115_2 := blk_frozen BK171.out 2) | ((with_reducible refine gate_store (t := 56) (p := 9) rfl ?_); refine store_event (t := 56) (p := 9) (v := ?vo_w116) (w1 := (((w113.setCell ⟨gb171, 0, none⟩ (.int .i64 ((rd_T56 x12_1 (ji84)).f0))).setCell ⟨gb171, 1, none⟩ (.int .i64 ((rd_T56 x12_1 (ji84)).f1))).setCell ⟨gb171, 2, none⟩ (.int .i64 ((rd_T56 x12_1 (ji84)).f2)))) ?hg ?ho ?hn ?hr ?_; (case ho => rfl); (case hg => rfl); (case hn => rfl); (case hr => first | (go_simp; done) | (go_simp; rfl)); intro w116 hw; have n0_ : Aside0 (Kd.R k52 52 w116 w.heap.size (fun k_ => k_ ≠ gb166 ∧ k_ ≠ gb201) (.slice (some ⟨go87, 0, none⟩) x11_1.length co90) y203) := ⟨(by rw [hw]; exact (by (with_reducible repeat (first | apply Kd.R_alloc | apply Kd.R_drewN | apply Kd.R_drew)); exact Kd.R_mono (Kd.R_far (p := ⟨gb171, 2, none⟩) (Kd.R_far (p := ⟨gb171, 1, none⟩) (Kd.R_far (p := ⟨gb171, 0, none⟩) (Kd.R_types HO_11.out BK171.out (by decide)) (fun _ hk => hk.2) (.int .i64 ((rd_T56 x12_1 (ji84)).f0))) (fun _ hk => hk.2) (.int .i64 ((rd_T56 x12_1 (ji84)).f1))) (fun _ hk => hk.2) (.int .i64 ((rd_T56 x12_1 (ji84)).f2))) (fun _ hk => ⟨hk.1.1, hk.1.2⟩)))⟩; have n1_ : Aside0 (Kd.R k56 56 w116 w.heap.size (fun k_ => k_ ≠ gb171 ∧ k_ ≠ gb204) (.slice (some ad205) x12_1.length co114) x12_1) := ⟨(by rw [hw]; exact (by (with_reducible repeat (first | apply Kd.R_alloc | apply Kd.R_drewN | apply Kd.R_drew)); exact Kd.R_mono (Kd.R_far (p := ⟨gb171, 2, none⟩) (Kd.R_far (p := ⟨gb171, 1, none⟩) (Kd.R_far (p := ⟨gb171, 0, none⟩) (Kd.R_mono HO_12.out (fun k_ hk => (⟨hk, hk.1⟩ : _ ∧ k_ ≠ gb171))) (fun _ hk => hk.2) (.int .i64 ((rd_T56 x12_1 (ji84)).f0))) (fun _ hk => hk.2) (.int .i64 ((rd_T56 x12_1 (ji84)).f1))) (fun _ hk => hk.2) (.int .i64 ((rd_T56 x12_1 (ji84)).f2))) (fun _ hk => ⟨hk.1.1, hk.1.2⟩)))⟩; have n2_ : Aside0 (w116.heap[gb166]? = some (.cells #[.int .i64 ((rd_T52 x11_1 (ji84)).f0), .int .i64 ((rd_T52 x11_1 (ji84)).f1), .int .i64 ((rd_T52 x11_1 (ji84)).f2)] 52 (0, 0))) := ⟨(by rw [hw]; exact (by (with_reducible repeat (first | refine blk_drewN ?_ _ | refine blk_drew ?_ | refine blk_alloc ?_ _)); refine blk_far ?_ NB166_171.out _; (with_reducible repeat (first | refine blk_drewN ?_ _ | refine blk_drew ?_ | refine blk_alloc ?_ _)); refine blk_far ?_ NB166_171.out _; (with_reducible repeat (first | refine blk_drewN ?_ _ | refine blk_drew ?_ | refine blk_alloc ?_ _)); refine blk_far ?_ NB166_171.out _; (with_reducible repeat (first | refine blk_drewN ?_ _ | refine blk_drew ?_ | refine blk_alloc ?_ _)); exact BK166.out))⟩; have n3_ : Aside0 (w116.heap[gb171]? = some (.cells #[.int .i64 ((rd_T56 x12_1 (ji84)).f0), .int .i64 ((rd_T56 x12_1 (ji84)).f1), .int .i64 ((rd_T56 x12_1 (ji84)).f2)] 56 (0, 0))) := ⟨(by rw [hw]; exact (by (with_reducible repeat (first | refine blk_drewN ?_ _ | refine blk_drew ?_ | refine blk_alloc ?_ _)); refine blk_put (cs := #[.int .i64 ((rd_T56 x12_1 (ji84)).f0), .int .i64 ((rd_T56 x12_1 (ji84)).f1), .int .i64 x172002_1]) ?_ 2 _ rfl; (with_reducible repeat (first | refine blk_drewN ?_ _ | refine blk_drew ?_ | refine blk_alloc ?_ _)); refine blk_put (cs := #[.int .i64 ((rd_T56 x12_1 (ji84)).f0), .int .i64 x172001_1, .int .i64 x172002_1]) ?_ 1 _ rfl; (with_reducible repeat (first | refine blk_drewN ?_ _ | refine blk_drew ?_ | refine blk_alloc ?_ _)); refine blk_put (cs := #[.int .i64 x172000_1, .int .i64 x172001_1, .int .i64 x172002_1]) ?_ 0 _ rfl; (with_reducible repeat (first | refine blk_drewN ?_ _ | refine blk_drew ?_ | refine blk_alloc ?_ _)); exact BK171.out))⟩; have n4_ : Aside0 (w116.heap[gb173]? = some (.cells #[.int .i64 ((rd_T62 l2 x13_1).f0), .int .u64 ((rd_T62 l2 x13_1).f1)] 62 (0, 0))) := ⟨(by rw [hw]; exact (by (with_reducible repeat (first | refine blk_drewN ?_ _ | refine blk_drew ?_ | refine blk_alloc ?_ _)); refine blk_far ?_ NB173_171.out _; (with_reducible repeat (first | refine blk_drewN ?_ _ | refine blk_drew ?_ | refine blk_alloc ?_ _)); refine blk_far ?_ NB173_171.out _; (with_reducible repeat (first | refine blk_drewN ?_ _ | refine blk_drew ?_ | refine blk_alloc ?_ _)); refine blk_far ?_ NB173_171.out _; (with_reducible repeat (first | refine blk_drewN ?_ _ | refine blk_drew ?_ | refine blk_alloc ?_ _)); exact BK173.out))⟩; have n5_ : Aside0 (w116.heap[gb201]? = some (.cells #[.int .i64 x167000_1, .int .i64 x167001_1, .int .i64 x167002_1] 52 (0, 0))) := ⟨(by rw [hw]; exact (by (with_reducible repeat (first | refine blk_drewN ?_ _ | refine blk_drew ?_ | refine blk_alloc ?_ _)); refine blk_far ?_ NB201_171.out _; (with_reducible repeat (first | refine blk_drewN ?_ _ | refine blk_drew ?_ | refine blk_alloc ?_ _)); refine blk_far ?_ NB201_171.out _; (with_reducible repeat (first | refine blk_drewN ?_ _ | refine blk_drew ?_ | refine blk_alloc ?_ _)); refine blk_far ?_ NB201_171.out _; (with_reducible repeat (first | refine blk_drewN ?_ _ | refine blk_drew ?_ | refine blk_alloc ?_ _)); exact BK201.out))⟩; have n6_ : Aside0 (w116.heap[gb204]? = some (.cells #[.int .i64 x172000_1, .int .i64 x172001_1, .int .i64 x172002_1] 56 (0, 0))) := ⟨(by rw [hw]; exact (by (with_reducible repeat (first | refine blk_drewN ?_ _ | refine blk_drew ?_ | refine blk_alloc ?_ _)); refine blk_far ?_ NB204_171.out _; (with_reducible repeat (first | refine blk_drewN ?_ _ | refine blk_drew ?_ | refine blk_alloc ?_ _)); refine blk_far ?_ NB204_171.out _; (with_reducible repeat (first | refine blk_drewN ?_ _ | refine blk_drew ?_ | refine blk_alloc ?_ _)); refine blk_far ?_ NB204_171.out _; (with_reducible repeat (first | refine blk_drewN ?_ _ | refine blk_drew ?_ | refine blk_alloc ?_ _)); exact BK204.out))⟩; have n7_ : Aside0 (Below w.heap.size w w116) := ⟨(by rw [hw]; exact (by repeat (first | (with_reducible first | exact HB.out | apply below_alloc | apply pw_below_drewN | apply below_drew1 | refine below_set ?_ GE166.out | refine below_set ?_ GE171.out | refine below_set ?_ GE173.out | refine below_set ?_ GE201.out | refine below_set ?_ GE204.out) | exact HB.out)))⟩; clear hw; clear HO_11; clear HO_12; clear BK166; clear BK171; clear BK173; clear BK201; clear BK204; clear HB; have HO_11 := n0_; have HO_12 := n1_; have BK166 := n2_; have BK171 := n3_; have BK173 := n4_; have BK201 := n5_; have BK204 := n6_; have HB := n7_; clear n0_ n1_ n2_ n3_ n4_ n5_ n6_ n7_; have hcz117_0 : w116.cell? ⟨gb204, 0, none⟩ = some (.int .i64 x172000_1) := (blk_cell BK204.out 0).trans rfl; have hcz117_1 : w116.cell? ⟨gb204, 1, none⟩ = some (.int .i64 x172001_1) := (blk_cell BK204.out 1).trans rfl; have hcz117_2 : w116.cell? ⟨gb204, 2, none⟩ = some (.int .i64 x172002_1) := (blk_cell BK204.out 2).trans rfl; have hfz117_0 := blk_frozen BK204.out 0; have hfz117_1 := blk_frozen BK204.out 1; have hfz117_2 := blk_frozen BK204.out 2; have p89 : 0 ≤ ((ji84) : Int) := of_decide_eq_true (by first | (with_reducible assumption) | assumption); have q89 : ((ji84) : Int) < ((x12_1.length : Int) : Int) := of_decide_eq_true (by first | (with_reducible assumption) | assumption); obtain ⟨go89, co89, eo89, gb89, gl89, cl89, HG89⟩ := Kd.R_form HO_12.out (by omega); (first | cases eo89 | (injection eo89 with ea_ en_ ec_; (first | subst ea_ | (injection ea_ with ea_; subst ea_)); subst ec_; clear en_)); have GB89 := Aside0.mk gb89; have GG89 := Aside0.mk HG89; clear gb89 gl89 HG89; (first | simp only [add_plain] at hx205_0 | skip); (first | simp only [add_plain] at hx205_1 | skip); (first | simp only [add_plain] at hx205_2 | skip); obtain ⟨ce89, hcl89, hM89, hcc89, hfr89⟩ := Kd.R_elem HO_12.out z56 ((ji84) : Int) p89 q89; obtain rfl := k56_openM hM89; have hx89_0 : w116.cell? ⟨go89, ((ji84) : Int).toNat * 3, none⟩ = some (.int .i64 ((rd_T56 x12_1 (ji84)).f0)) := hcc89 0 _ rfl; have hx89_1 : w116.cell? ⟨go89, ((ji84) : Int).toNat * 3 + 1, none⟩ = some (.int .i64 ((rd_T56 x12_1 (ji84)).f1)) := hcc89 1 _ rfl; have hx89_2 : w116.cell? ⟨go89, ((ji84) : Int).toNat * 3 + 2, none⟩ = some (.int .i64 ((rd_T56 x12_1 (ji84)).f2)) := hcc89 2 _ rfl; have hf89_0 : w116.frozen? ⟨go89, ((ji84) : Int).toNat * 3, none⟩ = false := hfr89 0; have hf89_1 : w116.frozen? ⟨go89, ((ji84) : Int).toNat * 3 + 1, none⟩ = false := hfr89 1; have hf89_2 : w116.frozen? ⟨go89, ((ji84) : Int).toNat * 3 + 2, none⟩ = false := hfr89 2; clear hcl89 hcc89 hfr89 hM89; replace p89 := eq_true p89; replace q89 := eq_true q89; have HX118 := Aside0.mk (show Kd.R k56 56 w116 w.heap.size (fun k_ => k_ ≠ gb171 ∧ k_ ≠ gb204) (.slice (some ⟨go89, 0, none⟩) x12_1.length co114) x12_1 from (by (with_reducible repeat (first | apply Kd.R_alloc | apply Kd.R_drewN | apply Kd.R_drew)); exact HO_12.out)); obtain ⟨ce118, hcl118, hM118, hcc118, hfr118⟩ := Kd.R_elem HX118.out z56 ((ji84) : Int) (of_decide_eq_true (by first | (with_reducible assumption) | assumption)) (by have h_ : ((ji84) : Int) < ((x12_1.length : Int) : Int) := of_decide_eq_true (by first | (with_reducible assumption) | assumption); first | exact h_ | (have e_ := (Kd.R_reads' HO_12.out).1; omega) | simpa using h_); obtain rfl := k56_openM hM118; have HP118 := Kd.R_seg HX118.out ((ji84) : Int) (of_decide_eq_true (by first | (with_reducible assumption) | assumption)) (by have h_ : ((ji84) : Int) < ((x12_1.length : Int) : Int) := of_decide_eq_true (by first | (with_reducible assumption) | assumption); first | exact h_ | (have e_ := (Kd.R_reads' HO_12.out).1; omega) | simpa using h_) (seg := [.int .i64 x172000_1, .int .i64 x172001_1, .int .i64 x172002_1]) (j := 0) hcl118 hcc118 (show 3 ≤ 3 from by decide) (x' := (⟨x172000_1, x172001_1, x172002_1⟩ : S56)) (k56_mkM _ _ _ (⟨x172000_1, x172001_1, x172002_1⟩ : S56) ) (fun _ hk => hk); have hx118_0 := hcc118 0 _ rfl; (try simp only [show (k56).sz = 3 from rfl, Nat.mul_one, Nat.add_zero] at hx118_0); have hf118_0 := hfr118 0; (try simp only [show (k56).sz = 3 from rfl, Nat.mul_one, Nat.add_zero] at hf118_0); have hx118_1 := hcc118 1 _ rfl; (try simp only [show (k56).sz = 3 from rfl, Nat.mul_one, Nat.add_zero] at hx118_1); have hf118_1 := hfr118 1; (try simp only [show (k56).sz = 3 from rfl, Nat.mul_one, Nat.add_zero] at hf118_1); have hx118_2 := hcc118 2 _ rfl; (try simp only [show (k56).sz = 3 from rfl, Nat.mul_one, Nat.add_zero] at hx118_2); have hf118_2 := hfr118 2; (try simp only [show (k56).sz = 3 from rfl, Nat.mul_one, Nat.add_zero] at hf118_2); clear hcl118 hcc118 hfr118 hM118) | ((with_reducible refine gate_store (t := 56) (p := 116) rfl ?_); refine store_event (t := 56) (p := 116) (v := ?vo_w119) (w1 := (((w116.setCell ⟨go89, ((ji84) : Int).toNat * 3, none⟩ (.int .i64 x172000_1)).setCell ⟨go89, ((ji84) : Int).toNat * 3 + 1, none⟩ (.int .i64 x172001_1)).setCell ⟨go89, ((ji84) : Int).toNat * 3 + 2, none⟩ (.int .i64 x172002_1))) ?hg ?ho ?hn ?hr ?_; (case ho => rfl); (case hg => rfl); (case hn => rfl); (case hr => first | (go_simp; done) | (go_simp; rfl)); intro w119 hw; have hg : w116.grownBy w119 (some go89) := (by rw [hw]; exact HP118.2); have hp_ : Kd.R k56 56 w119 w.heap.size (fun k_ => k_ ≠ gb171 ∧ k_ ≠ gb204) (.slice (some ⟨go89, 0, none⟩) x12_1.length co114) y206 := (by rw [hw, Ny206.out]; exact HP118.1); clear HP118; have n0_ := Aside0.mk (Kd.R_over' (v := (.slice (some ⟨go89, 0, none⟩) x12_1.length co114)) (by (with_reducible repeat (first | apply Kd.R_alloc | apply Kd.R_drewN | apply Kd.R_drew)); exact HO_11.out) (Kd.R_typed HO_12.out) (by decide) hg); have n1_ := Aside0.mk (hp_); have n2_ := Aside0.mk (blk_grown (g := gb166) (o := .cells #[.int .i64 ((rd_T52 x11_1 (ji84)).f0), .int .i64 ((rd_T52 x11_1 (ji84)).f1), .int .i64 ((rd_T52 x11_1 (ji84)).f2)] 52 (0, 0)) (by (with_reducible repeat (first | refine blk_drewN ?_ _ | refine blk_drew ?_ | refine blk_alloc ?_ _)); exact BK166.out) hg (Kd.R_ne HO_12.out BK166.out (by decide))); have n3_ := Aside0.mk (blk_grown (g := gb171) (o := .cells #[.int .i64 ((rd_T56 x12_1 (ji84)).f0), .int .i64 ((rd_T56 x12_1 (ji84)).f1), .int .i64 ((rd_T56 x12_1 (ji84)).f2)] 56 (0, 0)) (by (with_reducible repeat (first | refine blk_drewN ?_ _ | refine blk_drew ?_ | refine blk_alloc ?_ _)); exact BK171.out) hg (Kd.R_away HO_12.out (fun _ hk => hk.1))); have n4_ := Aside0.mk (blk_grown (g := gb173) (o := .cells #[.int .i64 ((rd_T62 l2 x13_1).f0), .int .u64 ((rd_T62 l2 x13_1).f1)] 62 (0, 0)) (by (with_reducible repeat (first | refine blk_drewN ?_ _ | refine blk_drew ?_ | refine blk_alloc ?_ _)); exact BK173.out) hg (Kd.R_ne HO_12.out BK173.out (by decide))); have n5_ := Aside0.mk (blk_grown (g := gb201) (o := .cells #[.int .i64 x167000_1, .int .i64 x167001_1, .int .i64 x167002_1] 52 (0, 0)) (by (with_reducible repeat (first | refine blk_drewN ?_ _ | refine blk_drew ?_ | refine blk_alloc ?_ _)); exact BK201.out) hg (Kd.R_ne HO_12.out BK201.out (by decide))); have n6_ := Aside0.mk (blk_grown (g := gb204) (o := .cells #[.int .i64 x172000_1, .int .i64 x172001_1, .int .i64 x172002_1] 56 (0, 0)) (by (with_reducible repeat (first | refine blk_drewN ?_ _ | refine blk_drew ?_ | refine blk_alloc ?_ _)); exact BK204.out) hg (Kd.R_away HO_12.out (fun _ hk => hk.2))); have n7_ := Aside0.mk ((by rw [hw]; exact below_set (below_set (below_set (HB.out) GB89.out) GB89.out) GB89.out : Below w.heap.size w w119)); clear HO_11; clear HO_12; clear BK166; clear BK171; clear BK173; clear BK201; clear BK204; clear HB; have HO_11 := n0_; have HO_12 := n1_; have BK166 := n2_; have BK171 := n3_; have BK173 := n4_; have BK201 := n5_; have BK204 := n6_; have HB := n7_; clear n0_ n1_ n2_ n3_ n4_ n5_ n6_ n7_; clear hg hw hp_))
                                    go_meet
                                    case rel => exact ⟨_, (y203), (y206), ((rd_T52 x11_1 (ji84)).f0), ((rd_T52 x11_1 (ji84)).f1), ((rd_T52 x11_1 (ji84)).f2), ((rd_T56 x12_1 (ji84)).f0), ((rd_T56 x12_1 (ji84)).f1), ((rd_T56 x12_1 (ji84)).f2), H', ⟨by have := HK1.out; first | omega | exact Nat.le_refl _⟩, ⟨by (with_reducible repeat (first | apply Kd.R_alloc | apply Kd.R_drewN | apply Kd.R_drew)); exact Kd.R_mono HO_11.out (fun _ hk => hk.1)⟩, ⟨by (with_reducible repeat (first | apply Kd.R_alloc | apply Kd.R_drewN | apply Kd.R_drew)); exact Kd.R_mono HO_12.out (fun _ hk => hk.1)⟩, ⟨by (with_reducible repeat (first | refine blk_drewN ?_ _ | refine blk_drew ?_ | refine blk_alloc ?_ _)); exact BK166.out⟩, ⟨by (with_reducible repeat (first | refine blk_drewN ?_ _ | refine blk_drew ?_ | refine blk_alloc ?_ _)); exact BK171.out⟩, ⟨by (with_reducible repeat (first | refine blk_drewN ?_ _ | refine blk_drew ?_ | refine blk_alloc ?_ _)); exact BK173.out⟩, ⟨by repeat (first | (with_reducible first | exact HB.out | apply below_alloc | apply pw_below_drewN | apply below_drew1 | refine below_set ?_ GE166.out | refine below_set ?_ GE171.out | refine below_set ?_ GE173.out | refine below_set ?_ GE201.out | refine below_set ?_ GE204.out) | exact HB.out)⟩⟩
                                  · rw [if_neg c88] at H
                                    exact absurd H (by simp)
                                · rw [if_neg c86] at H
                                  exact absurd H (by simp)
                              · rw [if_neg c85] at H
                                exact absurd H (by simp)
                            · rw [if_neg c83] at H
                              have c83b0 : decide (0 < (x11_1.length : Int)) = false := decide_eq_false c83
                              have c83b1 : decide (0 < x11_1.length) = false := decide_eq_false (by omega)
                              clear c83
                              have H' := Aside0.mk H
                              clear H
                              obtain ⟨Ao120, co120, eo120⟩ := Kd.R_slice HO_11.out
                              subst eo120
                              go_wp2
                              go_meet
                              case rel => exact ⟨_, (x11_1), (x12_1), (x167000_1), (x167001_1), (x167002_1), (x172000_1), (x172001_1), (x172002_1), H', ⟨by have := HK1.out; first | omega | exact Nat.le_refl _⟩, ⟨by (with_reducible repeat (first | apply Kd.R_alloc | apply Kd.R_drewN | apply Kd.R_drew)); exact Kd.R_mono (Kd.R_far (p := ⟨gb173, 1, none⟩) (Kd.R_far (p := ⟨gb173, 0, none⟩) (Kd.R_types HO_11.out BK173.out (by decide)) (fun _ hk => hk.2) (.int .i64 ((rd_T62 l2 x13_1).f0))) (fun _ hk => hk.2) (.int .u64 ((rd_T62 l2 x13_1).f1))) (fun _ hk => hk.1)⟩, ⟨by (with_reducible repeat (first | apply Kd.R_alloc | apply Kd.R_drewN | apply Kd.R_drew)); exact Kd.R_mono (Kd.R_far (p := ⟨gb173, 1, none⟩) (Kd.R_far (p := ⟨gb173, 0, none⟩) (Kd.R_types HO_12.out BK173.out (by decide)) (fun _ hk => hk.2) (.int .i64 ((rd_T62 l2 x13_1).f0))) (fun _ hk => hk.2) (.int .u64 ((rd_T62 l2 x13_1).f1))) (fun _ hk => hk.1)⟩, ⟨by (with_reducible repeat (first | refine blk_drewN ?_ _ | refine blk_drew ?_ | refine blk_alloc ?_ _)); refine blk_far ?_ NB166_173.out _; (with_reducible repeat (first | refine blk_drewN ?_ _ | refine blk_drew ?_ | refine blk_alloc ?_ _)); refine blk_far ?_ NB166_173.out _; (with_reducible repeat (first | refine blk_drewN ?_ _ | refine blk_drew ?_ | refine blk_alloc ?_ _)); exact BK166.out⟩, ⟨by (with_reducible repeat (first | refine blk_drewN ?_ _ | refine blk_drew ?_ | refine blk_alloc ?_ _)); refine blk_far ?_ NB171_173.out _; (with_reducible repeat (first | refine blk_drewN ?_ _ | refine blk_drew ?_ | refine blk_alloc ?_ _)); refine blk_far ?_ NB171_173.out _; (with_reducible repeat (first | refine blk_drewN ?_ _ | refine blk_drew ?_ | refine blk_alloc ?_ _)); exact BK171.out⟩, ⟨by (with_reducible repeat (first | refine blk_drewN ?_ _ | refine blk_drew ?_ | refine blk_alloc ?_ _)); refine blk_put (cs := #[.int .i64 ((rd_T62 l2 x13_1).f0), .int .u64 0]) ?_ 1 _ rfl; (with_reducible repeat (first | refine blk_drewN ?_ _ | refine blk_drew ?_ | refine blk_alloc ?_ _)); refine blk_put (cs := #[.int .i64 0, .int .u64 0]) ?_ 0 _ rfl; (with_reducible repeat (first | refine blk_drewN ?_ _ | refine blk_drew ?_ | refine blk_alloc ?_ _)); exact BK173.out⟩, ⟨by repeat (first | (with_reducible first | exact HB.out | apply below_alloc | apply pw_below_drewN | apply below_drew1 | refine below_set ?_ GE166.out | refine below_set ?_ GE171.out | refine below_set ?_ GE173.out) | exact HB.out)⟩⟩
                          · rw [if_neg c82] at H
                            have c82b0 : (((rd_T62 l2 x13_1).f0) == 5) = false := beq_eq_false_iff_ne.mpr c82
                            have c82b1 : (((rd_T62 l2 x13_1).f0) != 5) = true := bne_iff_ne.mpr c82
                            have H' := Aside0.mk H
                            clear H
                            go_wp2
                            go_meet
                            case rel => exact ⟨_, (x11_1), (x12_1), (x167000_1), (x167001_1), (x167002_1), (x172000_1), (x172001_1), (x172002_1), H', ⟨by have := HK1.out; first | omega | exact Nat.le_refl _⟩, ⟨by (with_reducible repeat (first | apply Kd.R_alloc | apply Kd.R_drewN | apply Kd.R_drew)); exact Kd.R_mono (Kd.R_far (p := ⟨gb173, 1, none⟩) (Kd.R_far (p := ⟨gb173, 0, none⟩) (Kd.R_types HO_11.out BK173.out (by decide)) (fun _ hk => hk.2) (.int .i64 ((rd_T62 l2 x13_1).f0))) (fun _ hk => hk.2) (.int .u64 ((rd_T62 l2 x13_1).f1))) (fun _ hk => hk.1)⟩, ⟨by (with_reducible repeat (first | apply Kd.R_alloc | apply Kd.R_drewN | apply Kd.R_drew)); exact Kd.R_mono (Kd.R_far (p := ⟨gb173, 1, none⟩) (Kd.R_far (p := ⟨gb173, 0, none⟩) (Kd.R_types HO_12.out BK173.out (by decide)) (fun _ hk => hk.2) (.int .i64 ((rd_T62 l2 x13_1).f0))) (fun _ hk => hk.2) (.int .u64 ((rd_T62 l2 x13_1).f1))) (fun _ hk => hk.1)⟩, ⟨by (with_reducible repeat (first | refine blk_drewN ?_ _ | refine blk_drew ?_ | refine blk_alloc ?_ _)); refine blk_far ?_ NB166_173.out _; (with_reducible repeat (first | refine blk_drewN ?_ _ | refine blk_drew ?_ | refine blk_alloc ?_ _)); refine blk_far ?_ NB166_173.out _; (with_reducible repeat (first | refine blk_drewN ?_ _ | refine blk_drew ?_ | refine blk_alloc ?_ _)); exact BK166.out⟩, ⟨by (with_reducible repeat (first | refine blk_drewN ?_ _ | refine blk_drew ?_ | refine blk_alloc ?_ _)); refine blk_far ?_ NB171_173.out _; (with_reducible repeat (first | refine blk_drewN ?_ _ | refine blk_drew ?_ | refine blk_alloc ?_ _)); refine blk_far ?_ NB171_173.out _; (with_reducible repeat (first | refine blk_drewN ?_ _ | refine blk_drew ?_ | refine blk_alloc ?_ _)); exact BK171.out⟩, ⟨by (with_reducible repeat (first | refine blk_drewN ?_ _ | refine blk_drew ?_ | refine blk_alloc ?_ _)); refine blk_put (cs := #[.int .i64 ((rd_T62 l2 x13_1).f0), .int .u64 0]) ?_ 1 _ rfl; (with_reducible repeat (first | refine blk_drewN ?_ _ | refine blk_drew ?_ | refine blk_alloc ?_ _)); refine blk_put (cs := #[.int .i64 0, .int .u64 0]) ?_ 0 _ rfl; (with_reducible repeat (first | refine blk_drewN ?_ _ | refine blk_drew ?_ | refine blk_alloc ?_ _)); exact BK173.out⟩, ⟨by repeat (first | (with_reducible first | exact HB.out | apply below_alloc | apply pw_below_drewN | apply below_drew1 | refine below_set ?_ GE166.out | refine below_set ?_ GE171.out | refine below_set ?_ GE173.out) | exact HB.out)⟩⟩
                case rest =>
                  clear HC20
                  try clear c1
                  try clear p1
                  try clear q1
                  try clear hx1
                  try clear c2
                  try clear p2
                  try clear q2
                  try clear hx2
                  try clear c3
                  try clear c4
                  try clear c5
                  try clear c6
                  try clear p6
                  try clear c7
                  try clear c8
                  try clear c8b0
                  try clear c8b1
                  try clear p8
                  try clear q8
                  try clear hx8
                  try clear hf8
                  try clear c9
                  try clear c9b0
                  try clear c9b1
                  try clear c10
                  try clear hx10
                  try clear hf10
                  try clear c11
                  try clear hx11
                  try clear hf11
                  try clear c16
                  try clear p17
                  try clear q17
                  try clear hx17
                  try clear c18
                  try clear c18b0
                  try clear c19
                  try clear c19b0
                  try clear p20
                  try clear q20
                  try clear hx20
                  try clear c21
                  try clear c22
                  try clear c23
                  try clear c24
                  try clear c25
                  try clear c25b0
                  try clear c25b1
                  try clear c26
                  try clear c27
                  try clear c28
                  try clear c28b0
                  try clear c28b1
                  try clear c29
                  try clear c30
                  try clear c31
                  try clear c35
                  try clear c36
                  try clear c37
                  try clear c41
                  try clear c42
                  try clear c46
                  try clear c47
                  try clear c48
                  try clear c51
                  try clear c51b0
                  try clear c51b1
                  try clear c55
                  try clear c56
                  try clear c60
                  try clear c60b0
                  try clear c60b1
                  try clear c63
                  try clear c64
                  try clear p64
                  try clear c67
                  try clear c72
                  try clear c72b0
                  try clear c72b1
                  try clear c73
                  try clear c74
                  try clear c75
                  try clear c76
                  try clear c79
                  try clear c82
                  try clear c82b0
                  try clear c82b1
                  try clear c83
                  try clear c83b0
                  try clear c83b1
                  try clear c85
                  try clear c85b0
                  try clear c86
                  try clear c86b0
                  try clear c87
                  try clear p87
                  try clear q87
                  try clear hx87
                  try clear hf87
                  try clear c88
                  try clear c88b0
                  try clear c89
                  try clear p89
                  try clear q89
                  try clear hx89
                  try clear hf89
                  try clear c91
                  try clear c92
                  try clear c95
                  try clear c96
                  try clear c97
                  try clear c103
                  try clear hx103
                  try clear hf103
                  try clear c105
                  try clear c108
                  try clear c109
                  try clear c110
                  try clear c111
                  try clear c118
                  try clear hx118
                  try clear hf118
                  try clear hcz100_0
                  try clear hcz100_1
                  try clear hcz100_2
                  try clear hcz102_0
                  try clear hcz102_1
                  try clear hcz102_2
                  try clear hcz106_0
                  try clear hcz106_1
                  try clear hcz106_2
                  try clear hcz112_0
                  try clear hcz112_1
                  try clear hcz112_2
                  try clear hcz115_0
                  try clear hcz115_1
                  try clear hcz115_2
                  try clear hcz117_0
                  try clear hcz117_1
                  try clear hcz117_2
                  try clear hcz13_0
                  try clear hcz13_1
                  try clear hcz13_2
                  try clear hcz17_0
                  try clear hcz17_1
                  try clear hcz17_2
                  try clear hcz24_0
                  try clear hcz24_1
                  try clear hcz32_0
                  try clear hcz32_1
                  try clear hcz32_2
                  try clear hcz38_0
                  try clear hcz38_1
                  try clear hcz38_2
                  try clear hcz39_0
                  try clear hcz39_1
                  try clear hcz39_2
                  try clear hcz43_0
                  try clear hcz43_1
                  try clear hcz43_2
                  try clear hcz49_0
                  try clear hcz49_1
                  try clear hcz49_2
                  try clear hcz50_0
                  try clear hcz50_1
                  try clear hcz50_2
                  try clear hcz57_0
                  try clear hcz57_1
                  try clear hcz57_2
                  try clear hcz59_0
                  try clear hcz59_1
                  try clear hcz59_2
                  try clear hcz65_0
                  try clear hcz65_1
                  try clear hcz68_0
                  try clear hcz68_1
                  try clear hcz68_2
                  try clear hcz69_0
                  try clear hcz69_1
                  try clear hcz71_0
                  try clear hcz71_1
                  try clear hcz71_2
                  try clear hcz77_0
                  try clear hcz77_1
                  try clear hcz77_2
                  try clear hcz80_0
                  try clear hcz80_1
                  try clear hcz80_2
                  try clear hcz93_0
                  try clear hcz93_1
                  try clear hcz93_2
                  try clear hcz98_0
                  try clear hcz98_1
                  try clear hcz98_2
                  try clear hfz100_0
                  try clear hfz100_1
                  try clear hfz100_2
                  try clear hfz102_0
                  try clear hfz102_1
                  try clear hfz102_2
                  try clear hfz106_0
                  try clear hfz106_1
                  try clear hfz106_2
                  try clear hfz112_0
                  try clear hfz112_1
                  try clear hfz112_2
                  try clear hfz115_0
                  try clear hfz115_1
                  try clear hfz115_2
                  try clear hfz117_0
                  try clear hfz117_1
                  try clear hfz117_2
                  try clear hfz13_0
                  try clear hfz13_1
                  try clear hfz13_2
                  try clear hfz17_0
                  try clear hfz17_1
                  try clear hfz17_2
                  try clear hfz24_0
                  try clear hfz24_1
                  try clear hfz32_0
                  try clear hfz32_1
                  try clear hfz32_2
                  try clear hfz38_0
                  try clear hfz38_1
                  try clear hfz38_2
                  try clear hfz39_0
                  try clear hfz39_1
                  try clear hfz39_2
                  try clear hfz43_0
                  try clear hfz43_1
                  try clear hfz43_2
                  try clear hfz49_0
                  try clear hfz49_1
                  try clear hfz49_2
                  try clear hfz50_0
                  try clear hfz50_1
                  try clear hfz50_2
                  try clear hfz57_0
                  try clear hfz57_1
                  try clear hfz57_2
                  try clear hfz59_0
                  try clear hfz59_1
                  try clear hfz59_2
                  try clear hfz65_0
                  try clear hfz65_1
                  try clear hfz68_0
                  try clear hfz68_1
                  try clear hfz68_2
                  try clear hfz69_0
                  try clear hfz69_1
                  try clear hfz71_0
                  try clear hfz71_1
                  try clear hfz71_2
                  try clear hfz77_0
                  try clear hfz77_1
                  try clear hfz77_2
                  try clear hfz80_0
                  try clear hfz80_1
                  try clear hfz80_2
                  try clear hfz93_0
                  try clear hfz93_1
                  try clear hfz93_2
                  try clear hfz98_0
                  try clear hfz98_1
                  try clear hfz98_2
                  try clear hx103_0
                  try clear hx103_1
                  try clear hx103_2
                  try clear hx118_0
                  try clear hx118_1
                  try clear hx118_2
                  try clear hx172_0
                  try clear hx172_1
                  try clear hx202_0
                  try clear hx202_1
                  try clear hx202_2
                  try clear hx205_0
                  try clear hx205_1
                  try clear hx205_2
                  try clear hx87_0
                  try clear hx87_1
                  try clear hx87_2
                  try clear hx89_0
                  try clear hx89_1
                  try clear hx89_2
                  try clear p172
                  try clear p2
                  try clear p202
                  try clear p205
                  try clear p87
                  try clear p89
                  try clear q172
                  try clear q202
                  try clear q205
                  try clear q87
                  try clear q89
                  obtain ⟨kq, x11_19, x12_19, x167000_19, x167001_19, x167002_19, x172000_19, x172001_19, x172002_19, HA, HJ19, HO_11, HO_12, BK166, BK171, BK173, HB⟩ := hcut
                  cases kq with
                  | zero => exact absurd HA.out (by simp [joustlaw08_BucketPlays.j1])
                  | succ kj19 =>
                    have H := HA.out
                    clear HA
                    simp only [joustlaw08_BucketPlays.j1] at H
                    replace H := Option.bind_eq_some_iff.mp H
                    obtain ⟨⟨t207, t208, t209, t210⟩, A1210, H⟩ := H
                    replace H : ((joustref08_Left.f x172000_19 x172001_19 x172002_19).bind fun t211 => (if t207 = t211 then (joustlaw08_BucketPlays.l0 kj19 l2 x11_19 x12_19 (wrap64 (x13_1 + 1)) x167000_19 x167001_19 x167002_19 x172000_19 x172001_19 x172002_19) else (some false))) = some r := H
                    have A121 := Aside0.mk A1210
                    clear A1210
                    replace H := Option.bind_eq_some_iff.mp H
                    obtain ⟨t211, A1220, H⟩ := H
                    replace H : (if t207 = t211 then (joustlaw08_BucketPlays.l0 kj19 l2 x11_19 x12_19 (wrap64 (x13_1 + 1)) x167000_19 x167001_19 x167002_19 x172000_19 x172001_19 x172002_19) else (some false)) = some r := H
                    have A122 := Aside0.mk A1220
                    clear A1220
                    by_cases c123 : t207 = t211
                    · rw [if_pos c123] at H
                      have c123b0 : (t207 == t211) = true := beq_iff_eq.mpr c123
                      have c123b1 : (t207 != t211) = false := bne_eq_false_iff_eq.mpr c123
                      clear c123
                      have H' := Aside0.mk H
                      clear H
                      try go_wp2
                      have n0_ := Aside0.mk (Kd.R_drew HO_11.out)
                      have n1_ := Aside0.mk (Kd.R_drew HO_12.out)
                      have n2_ := Aside0.mk (blk_drew BK166.out)
                      have n3_ := Aside0.mk (blk_drew BK171.out)
                      have n4_ := Aside0.mk (blk_drew BK173.out)
                      have n5_ := Aside0.mk (below_drew1 HB.out)
                      clear HO_11
                      clear HO_12
                      clear BK166
                      clear BK171
                      clear BK173
                      clear HB
                      have HO_11 := n0_
                      have HO_12 := n1_
                      have BK166 := n2_
                      have BK171 := n3_
                      have BK173 := n4_
                      have HB := n5_
                      clear n0_ n1_ n2_ n3_ n4_ n5_
                      refine start_ (n := 4) (S := fun w' => w'.cell? ⟨gb171, 0, none⟩ = some (.int .i64 x172000_19) ∧ w'.cell? ⟨gb171, 1, none⟩ = some (.int .i64 x172001_19) ∧ w'.cell? ⟨gb171, 2, none⟩ = some (.int .i64 x172002_19)) (ds := []) #[false, false, false, false] (by kernel_rfl) rfl rfl ⟨(blk_cell BK171.out 0).trans rfl, (blk_cell BK171.out 1).trans rfl, (blk_cell BK171.out 2).trans rfl⟩ (fun hHeld => ?_)
                      generalize wc.drew = w124 at HO_11 HO_12 BK166 BK171 BK173 HB hHeld ⊢
                      refine take_ (i := 1) (N := some 118) (v := ?_) (a' := ?_) #[false, true, false, false] rfl rfl (by kernel_rfl) (fun _ _ _ h => h) (Or.inl ⟨by rfl, ?_⟩) hHeld ?_ ?_
                      rotate_left
                      · rintro w' ⟨s0, s1, s2⟩
                        go_simp
                        with_reducible rfl
                      rotate_left
                      · simp only [Act.put, List.setIfInBounds_toArray, List.set_cons_zero, List.set_cons_succ, i64_w, i32_w]
                        rfl
                      refine one_ (i := 0) (N := some 117) #[true, true, false, false] rfl rfl (by kernel_rfl) (by decide) (fun K hK => ?_)
                      refine goes_ Try.func30 (by kernel_rfl) rfl #[.pointer (some ⟨gb166, 0, none⟩)] (by rfl) rfl rfl (by (try simp only [List.map_toArray, List.map_cons, List.map_nil]); first | done | rfl | (simp only [List.length_drop, List.length_take]; rfl)) ?_
                      with_reducible refine (bucket_Bucket_Left.calls gb166 x167000_19 x167001_19 x167002_19 t207 t208 t209 t210 w _ ?side1 ?side2 A121.out).mono ?_
                      (case side1 => repeat (first | (with_reducible first | exact (Aside0.mk (IsS52.mk_ BK166.out GE166.out)).out | apply IsS52.alloc | apply IsS52.drewN | apply IsS52.drew | apply IsS52.set_0 | apply IsS52.set_1 | apply IsS52.set_2 | refine IsS52.far ?_ NB166_171.out _ | refine IsS52.far ?_ NB166_173.out _) | exact (Aside0.mk (IsS52.mk_ BK166.out GE166.out)).out))
                      (case side2 => repeat (first | (with_reducible first | exact HB.out | apply below_alloc | apply pw_below_drewN | apply below_drew1 | refine below_set ?_ (IsS52.ge (Aside0.mk (IsS52.mk_ BK166.out GE166.out)).out) | refine below_set ?_ GE171.out | refine below_set ?_ GE173.out) | exact HB.out))
                      rintro e w125 ⟨rfl, hi, hb, hk⟩
                      refine ⟨_, rfl, ?_⟩
                      replace hi := bucket_Bucket_Left.ro A121.out hi
                      have n0_ := Aside0.mk (Kd.R_mono (Kd.R_keep (Kd.R_mono (ok := fun k_ => k_ ≠ gb166) (by (with_reducible repeat (first | apply Kd.R_alloc | apply Kd.R_drewN | apply Kd.R_drew)); exact HO_11.out) (fun k_ hk_ => (⟨hk_, hk_⟩ : _ ∧ k_ ≠ gb166))) hk (fun _ h => h.2)) (fun _ h => h.1))
                      have n1_ := Aside0.mk (Kd.R_mono (Kd.R_keep (IsS52.apart (show IsS52 w _ gb166 x167000_19 x167001_19 x167002_19 from by repeat (first | (with_reducible first | exact (Aside0.mk (IsS52.mk_ BK166.out GE166.out)).out | apply IsS52.alloc | apply IsS52.drewN | apply IsS52.drew | apply IsS52.set_0 | apply IsS52.set_1 | apply IsS52.set_2 | refine IsS52.far ?_ NB166_171.out _ | refine IsS52.far ?_ NB166_173.out _) | exact (Aside0.mk (IsS52.mk_ BK166.out GE166.out)).out)) (by (with_reducible repeat (first | apply Kd.R_alloc | apply Kd.R_drewN | apply Kd.R_drew)); exact HO_12.out) (by decide)) hk (fun _ h => h.2)) (fun _ h => h.1))
                      have n2_ := Aside0.mk (KeepBut.blk hk (g' := gb171) (o := .cells #[.int .i64 x172000_19, .int .i64 x172001_19, .int .i64 x172002_19] 56 (0, 0)) (by (with_reducible repeat (first | refine blk_drewN ?_ _ | refine blk_drew ?_ | refine blk_alloc ?_ _)); exact BK171.out) NB171_166.out (by simp))
                      have n3_ := Aside0.mk (KeepBut.blk hk (g' := gb173) (o := .cells #[.int .i64 ((rd_T62 l2 x13_1).f0), .int .u64 ((rd_T62 l2 x13_1).f1)] 62 (0, 0)) (by (with_reducible repeat (first | refine blk_drewN ?_ _ | refine blk_drew ?_ | refine blk_alloc ?_ _)); exact BK173.out) NB173_166.out (by simp))
                      have n4_ := Aside0.mk (hb)
                      have n5_ := Aside0.mk (hi.1)
                      clear HO_11
                      clear HO_12
                      clear BK171
                      clear BK173
                      clear HB
                      clear BK166
                      have HO_11 := n0_
                      have HO_12 := n1_
                      have BK171 := n2_
                      have BK173 := n3_
                      have HB := n4_
                      have BK166 := n5_
                      clear n0_ n1_ n2_ n3_ n4_ n5_
                      (try clear hb)
                      (try clear hb2)
                      (try clear hk)
                      (try clear hi)
                      refine hK.out _ _ ⟨(blk_cell BK171.out 0).trans rfl, (blk_cell BK171.out 1).trans rfl, (blk_cell BK171.out 2).trans rfl⟩ (fun hHeld => ?_)
                      clear hK K
                      refine norm_ (a' := ?_) ?_ ?_
                      rotate_left
                      · show Act.put _ (some 117) _ = _
                        simp only [Act.put, List.setIfInBounds_toArray, List.set_cons_zero, List.set_cons_succ, i64_w, i32_w]
                        rfl
                      refine one_ (i := 2) (N := some 119) #[true, true, true, false] rfl rfl (by kernel_rfl) (by decide) (fun K hK => ?_)
                      refine goes_ Try.func31 (by kernel_rfl) rfl #[.agg #[.int .i64 x172000_19, .int .i64 x172001_19, .int .i64 x172002_19]] (by rfl) rfl rfl (by (try simp only [List.map_toArray, List.map_cons, List.map_nil]); first | done | rfl | (simp only [List.length_drop, List.length_take]; rfl)) ?_
                      with_reducible refine (joustref08_Left.calls x172000_19 x172001_19 x172002_19 t211 _ A122.out).mono ?_
                      rintro e w126 ⟨rfl, hb⟩
                      refine ⟨_, rfl, ?_⟩
                      have n0_ := Aside0.mk (Kd.R_below (by (with_reducible repeat (first | apply Kd.R_alloc | apply Kd.R_drewN | apply Kd.R_drew)); exact HO_11.out) hb)
                      have n1_ := Aside0.mk (Kd.R_below (by (with_reducible repeat (first | apply Kd.R_alloc | apply Kd.R_drewN | apply Kd.R_drew)); exact HO_12.out) hb)
                      have n2_ := Aside0.mk (blk_below (g := gb166) (o := .cells #[.int .i64 x167000_19, .int .i64 x167001_19, .int .i64 x167002_19] 52 (0, 0)) (by (with_reducible repeat (first | refine blk_drewN ?_ _ | refine blk_drew ?_ | refine blk_alloc ?_ _)); exact BK166.out) hb)
                      have n3_ := Aside0.mk (blk_below (g := gb171) (o := .cells #[.int .i64 x172000_19, .int .i64 x172001_19, .int .i64 x172002_19] 56 (0, 0)) (by (with_reducible repeat (first | refine blk_drewN ?_ _ | refine blk_drew ?_ | refine blk_alloc ?_ _)); exact BK171.out) hb)
                      have n4_ := Aside0.mk (blk_below (g := gb173) (o := .cells #[.int .i64 ((rd_T62 l2 x13_1).f0), .int .u64 ((rd_T62 l2 x13_1).f1)] 62 (0, 0)) (by (with_reducible repeat (first | refine blk_drewN ?_ _ | refine blk_drew ?_ | refine blk_alloc ?_ _)); exact BK173.out) hb)
                      have n5_ := Aside0.mk (below_step (by repeat (first | (with_reducible first | exact HB.out | apply below_alloc | apply pw_below_drewN | apply below_drew1 | refine below_set ?_ GE166.out | refine below_set ?_ GE171.out | refine below_set ?_ GE173.out) | exact HB.out)) hb)
                      clear HO_11
                      clear HO_12
                      clear BK166
                      clear BK171
                      clear BK173
                      clear HB
                      have HO_11 := n0_
                      have HO_12 := n1_
                      have BK166 := n2_
                      have BK171 := n3_
                      have BK173 := n4_
                      have HB := n5_
                      clear n0_ n1_ n2_ n3_ n4_ n5_
                      (try clear hb)
                      (try clear hb2)
                      (try clear hk)
                      (try clear hi)
                      refine hK.out _ _ ⟨(blk_cell BK171.out 0).trans rfl, (blk_cell BK171.out 1).trans rfl, (blk_cell BK171.out 2).trans rfl⟩ (fun hHeld => ?_)
                      clear hK K
                      refine norm_ (a' := ?_) ?_ ?_
                      rotate_left
                      · show Act.put _ (some 119) _ = _
                        simp only [Act.put, List.setIfInBounds_toArray, List.set_cons_zero, List.set_cons_succ, i64_w, i32_w]
                        rfl
                      refine pure_ (i := 3) (N := some 120) (v := ?_) (a' := ?_) #[true, true, true, true] rfl rfl (by kernel_rfl) (fun _ _ _ h => h) (Or.inl ⟨by rfl, ?_⟩) ?_ ?_
                      rotate_left
                      · intro w'
                        go_simp
                        with_reducible rfl
                      rotate_left
                      · simp only [Act.put, List.setIfInBounds_toArray, List.set_cons_zero, List.set_cons_succ, i64_w, i32_w]
                        rfl
                      refine done_ (by kernel_rfl) ?_
                      try go_wp2
                      go_roundg kj19
                      case measure => have := HK1.out; have := HJ19.out; omega
                      case rel => exact ⟨(x11_19), (x12_19), (wrap64 (x13_1 + 1)), (x167000_19), (x167001_19), (x167002_19), (x172000_19), (x172001_19), (x172002_19), (by first | rfl | (simp; done) | (simp [*]; done)), H', ⟨by have := HK1.out; have := HJ19.out; omega⟩, ⟨by (with_reducible repeat (first | apply Kd.R_alloc | apply Kd.R_drewN | apply Kd.R_drew)); exact HO_11.out⟩, ⟨by (with_reducible repeat (first | apply Kd.R_alloc | apply Kd.R_drewN | apply Kd.R_drew)); exact HO_12.out⟩, ⟨by (with_reducible repeat (first | refine blk_drewN ?_ _ | refine blk_drew ?_ | refine blk_alloc ?_ _)); exact BK166.out⟩, ⟨by (with_reducible repeat (first | refine blk_drewN ?_ _ | refine blk_drew ?_ | refine blk_alloc ?_ _)); exact BK171.out⟩, ⟨by repeat (first | (with_reducible first | exact HB.out | apply below_alloc | apply pw_below_drewN | apply below_drew1 | refine below_set ?_ GE166.out | refine below_set ?_ GE171.out | refine below_set ?_ GE173.out) | exact HB.out)⟩⟩
                    · rw [if_neg c123] at H
                      have c123b0 : (t207 == t211) = false := beq_eq_false_iff_ne.mpr c123
                      have c123b1 : (t207 != t211) = true := bne_iff_ne.mpr c123
                      obtain rfl := Option.some.inj H
                      try go_wp2
                      have n0_ := Aside0.mk (Kd.R_drew HO_11.out)
                      have n1_ := Aside0.mk (Kd.R_drew HO_12.out)
                      have n2_ := Aside0.mk (blk_drew BK166.out)
                      have n3_ := Aside0.mk (blk_drew BK171.out)
                      have n4_ := Aside0.mk (blk_drew BK173.out)
                      have n5_ := Aside0.mk (below_drew1 HB.out)
                      clear HO_11
                      clear HO_12
                      clear BK166
                      clear BK171
                      clear BK173
                      clear HB
                      have HO_11 := n0_
                      have HO_12 := n1_
                      have BK166 := n2_
                      have BK171 := n3_
                      have BK173 := n4_
                      have HB := n5_
                      clear n0_ n1_ n2_ n3_ n4_ n5_
                      refine start_ (n := 4) (S := fun w' => w'.cell? ⟨gb171, 0, none⟩ = some (.int .i64 x172000_19) ∧ w'.cell? ⟨gb171, 1, none⟩ = some (.int .i64 x172001_19) ∧ w'.cell? ⟨gb171, 2, none⟩ = some (.int .i64 x172002_19)) (ds := []) #[false, false, false, false] (by kernel_rfl) rfl rfl ⟨(blk_cell BK171.out 0).trans rfl, (blk_cell BK171.out 1).trans rfl, (blk_cell BK171.out 2).trans rfl⟩ (fun hHeld => ?_)
                      generalize wc.drew = w127 at HO_11 HO_12 BK166 BK171 BK173 HB hHeld ⊢
                      refine take_ (i := 1) (N := some 118) (v := ?_) (a' := ?_) #[false, true, false, false] rfl rfl (by kernel_rfl) (fun _ _ _ h => h) (Or.inl ⟨by rfl, ?_⟩) hHeld ?_ ?_
                      rotate_left
                      · rintro w' ⟨s0, s1, s2⟩
                        go_simp
                        with_reducible rfl
                      rotate_left
                      · simp only [Act.put, List.setIfInBounds_toArray, List.set_cons_zero, List.set_cons_succ, i64_w, i32_w]
                        rfl
                      refine one_ (i := 0) (N := some 117) #[true, true, false, false] rfl rfl (by kernel_rfl) (by decide) (fun K hK => ?_)
                      refine goes_ Try.func30 (by kernel_rfl) rfl #[.pointer (some ⟨gb166, 0, none⟩)] (by rfl) rfl rfl (by (try simp only [List.map_toArray, List.map_cons, List.map_nil]); first | done | rfl | (simp only [List.length_drop, List.length_take]; rfl)) ?_
                      with_reducible refine (bucket_Bucket_Left.calls gb166 x167000_19 x167001_19 x167002_19 t207 t208 t209 t210 w _ ?side1 ?side2 A121.out).mono ?_
                      (case side1 => repeat (first | (with_reducible first | exact (Aside0.mk (IsS52.mk_ BK166.out GE166.out)).out | apply IsS52.alloc | apply IsS52.drewN | apply IsS52.drew | apply IsS52.set_0 | apply IsS52.set_1 | apply IsS52.set_2 | refine IsS52.far ?_ NB166_171.out _ | refine IsS52.far ?_ NB166_173.out _) | exact (Aside0.mk (IsS52.mk_ BK166.out GE166.out)).out))
                      (case side2 => repeat (first | (with_reducible first | exact HB.out | apply below_alloc | apply pw_below_drewN | apply below_drew1 | refine below_set ?_ (IsS52.ge (Aside0.mk (IsS52.mk_ BK166.out GE166.out)).out) | refine below_set ?_ GE171.out | refine below_set ?_ GE173.out) | exact HB.out))
                      rintro e w128 ⟨rfl, hi, hb, hk⟩
                      refine ⟨_, rfl, ?_⟩
                      replace hi := bucket_Bucket_Left.ro A121.out hi
                      have n0_ := Aside0.mk (Kd.R_mono (Kd.R_keep (Kd.R_mono (ok := fun k_ => k_ ≠ gb166) (by (with_reducible repeat (first | apply Kd.R_alloc | apply Kd.R_drewN | apply Kd.R_drew)); exact HO_11.out) (fun k_ hk_ => (⟨hk_, hk_⟩ : _ ∧ k_ ≠ gb166))) hk (fun _ h => h.2)) (fun _ h => h.1))
                      have n1_ := Aside0.mk (Kd.R_mono (Kd.R_keep (IsS52.apart (show IsS52 w _ gb166 x167000_19 x167001_19 x167002_19 from by repeat (first | (with_reducible first | exact (Aside0.mk (IsS52.mk_ BK166.out GE166.out)).out | apply IsS52.alloc | apply IsS52.drewN | apply IsS52.drew | apply IsS52.set_0 | apply IsS52.set_1 | apply IsS52.set_2 | refine IsS52.far ?_ NB166_171.out _ | refine IsS52.far ?_ NB166_173.out _) | exact (Aside0.mk (IsS52.mk_ BK166.out GE166.out)).out)) (by (with_reducible repeat (first | apply Kd.R_alloc | apply Kd.R_drewN | apply Kd.R_drew)); exact HO_12.out) (by decide)) hk (fun _ h => h.2)) (fun _ h => h.1))
                      have n2_ := Aside0.mk (KeepBut.blk hk (g' := gb171) (o := .cells #[.int .i64 x172000_19, .int .i64 x172001_19, .int .i64 x172002_19] 56 (0, 0)) (by (with_reducible repeat (first | refine blk_drewN ?_ _ | refine blk_drew ?_ | refine blk_alloc ?_ _)); exact BK171.out) NB171_166.out (by simp))
                      have n3_ := Aside0.mk (KeepBut.blk hk (g' := gb173) (o := .cells #[.int .i64 ((rd_T62 l2 x13_1).f0), .int .u64 ((rd_T62 l2 x13_1).f1)] 62 (0, 0)) (by (with_reducible repeat (first | refine blk_drewN ?_ _ | refine blk_drew ?_ | refine blk_alloc ?_ _)); exact BK173.out) NB173_166.out (by simp))
                      have n4_ := Aside0.mk (hb)
                      have n5_ := Aside0.mk (hi.1)
                      clear HO_11
                      clear HO_12
                      clear BK171
                      clear BK173
                      clear HB
                      clear BK166
                      have HO_11 := n0_
                      have HO_12 := n1_
                      have BK171 := n2_
                      have BK173 := n3_
                      have HB := n4_
                      have BK166 := n5_
                      clear n0_ n1_ n2_ n3_ n4_ n5_
                      (try clear hb)
                      (try clear hb2)
                      (try clear hk)
                      (try clear hi)
                      refine hK.out _ _ ⟨(blk_cell BK171.out 0).trans rfl, (blk_cell BK171.out 1).trans rfl, (blk_cell BK171.out 2).trans rfl⟩ (fun hHeld => ?_)
                      clear hK K
                      refine norm_ (a' := ?_) ?_ ?_
                      rotate_left
                      · show Act.put _ (some 117) _ = _
                        simp only [Act.put, List.setIfInBounds_toArray, List.set_cons_zero, List.set_cons_succ, i64_w, i32_w]
                        rfl
                      refine one_ (i := 2) (N := some 119) #[true, true, true, false] rfl rfl (by kernel_rfl) (by decide) (fun K hK => ?_)
                      refine goes_ Try.func31 (by kernel_rfl) rfl #[.agg #[.int .i64 x172000_19, .int .i64 x172001_19, .int .i64 x172002_19]] (by rfl) rfl rfl (by (try simp only [List.map_toArray, List.map_cons, List.map_nil]); first | done | rfl | (simp only [List.length_drop, List.length_take]; rfl)) ?_
                      with_reducible refine (joustref08_Left.calls x172000_19 x172001_19 x172002_19 t211 _ A122.out).mono ?_
                      rintro e w129 ⟨rfl, hb⟩
                      refine ⟨_, rfl, ?_⟩
                      have n0_ := Aside0.mk (Kd.R_below (by (with_reducible repeat (first | apply Kd.R_alloc | apply Kd.R_drewN | apply Kd.R_drew)); exact HO_11.out) hb)
                      have n1_ := Aside0.mk (Kd.R_below (by (with_reducible repeat (first | apply Kd.R_alloc | apply Kd.R_drewN | apply Kd.R_drew)); exact HO_12.out) hb)
                      have n2_ := Aside0.mk (blk_below (g := gb166) (o := .cells #[.int .i64 x167000_19, .int .i64 x167001_19, .int .i64 x167002_19] 52 (0, 0)) (by (with_reducible repeat (first | refine blk_drewN ?_ _ | refine blk_drew ?_ | refine blk_alloc ?_ _)); exact BK166.out) hb)
                      have n3_ := Aside0.mk (blk_below (g := gb171) (o := .cells #[.int .i64 x172000_19, .int .i64 x172001_19, .int .i64 x172002_19] 56 (0, 0)) (by (with_reducible repeat (first | refine blk_drewN ?_ _ | refine blk_drew ?_ | refine blk_alloc ?_ _)); exact BK171.out) hb)
                      have n4_ := Aside0.mk (blk_below (g := gb173) (o := .cells #[.int .i64 ((rd_T62 l2 x13_1).f0), .int .u64 ((rd_T62 l2 x13_1).f1)] 62 (0, 0)) (by (with_reducible repeat (first | refine blk_drewN ?_ _ | refine blk_drew ?_ | refine blk_alloc ?_ _)); exact BK173.out) hb)
                      have n5_ := Aside0.mk (below_step (by repeat (first | (with_reducible first | exact HB.out | apply below_alloc | apply pw_below_drewN | apply below_drew1 | refine below_set ?_ GE166.out | refine below_set ?_ GE171.out | refine below_set ?_ GE173.out) | exact HB.out)) hb)
                      clear HO_11
                      clear HO_12
                      clear BK166
                      clear BK171
                      clear BK173
                      clear HB
                      have HO_11 := n0_
                      have HO_12 := n1_
                      have BK166 := n2_
                      have BK171 := n3_
                      have BK173 := n4_
                      have HB := n5_
                      clear n0_ n1_ n2_ n3_ n4_ n5_
                      (try clear hb)
                      (try clear hb2)
                      (try clear hk)
                      (try clear hi)
                      refine hK.out _ _ ⟨(blk_cell BK171.out 0).trans rfl, (blk_cell BK171.out 1).trans rfl, (blk_cell BK171.out 2).trans rfl⟩ (fun hHeld => ?_)
                      clear hK K
                      refine norm_ (a' := ?_) ?_ ?_
                      rotate_left
                      · show Act.put _ (some 119) _ = _
                        simp only [Act.put, List.setIfInBounds_toArray, List.set_cons_zero, List.set_cons_succ, i64_w, i32_w]
                        rfl
                      refine pure_ (i := 3) (N := some 120) (v := ?_) (a' := ?_) #[true, true, true, true] rfl rfl (by kernel_rfl) (fun _ _ _ h => h) (Or.inl ⟨by rfl, ?_⟩) ?_ ?_
                      rotate_left
                      · intro w'
                        go_simp
                        with_reducible rfl
                      rotate_left
                      · simp only [Act.put, List.setIfInBounds_toArray, List.set_cons_zero, List.set_cons_succ, i64_w, i32_w]
                        rfl
                      refine done_ (by kernel_rfl) ?_
                      try go_wp2
                      go_ret
                      exact ⟨by first | rfl | (simp [errW_none, errW_some] <;> rfl) | (simp [*, errW_none, errW_some] <;> rfl), by repeat (first | (with_reducible first | exact HB.out | apply below_alloc | apply pw_below_drewN | apply below_drew1 | refine below_set ?_ GE166.out | refine below_set ?_ GE171.out | refine below_set ?_ GE173.out) | exact HB.out)⟩
              · rw [if_neg c19] at H
                exact absurd H (by simp)
            · rw [if_neg c18] at H
              have c18b0 : decide (x13_1 < (l2.length : Int)) = false := decide_eq_false c18
              clear c18
              have H' := Aside0.mk H
              clear H
              go_wp2
              go_loopg [21] k1 (fun kq v21 w' => ∃ (x21_2 : Int) (x167000_2 : Int) (x167001_2 : Int) (x167002_2 : Int), v21 = .int .i64 x21_2 ∧ Aside0 (joustlaw08_BucketPlays.l1 kq x11_1 x12_1 x21_2 = some r) ∧ Aside0 (kq ≤ k1) ∧ Aside0 (Kd.R k52 52 w' w.heap.size (fun k_ => k_ ≠ gb166) u11 x11_1) ∧ Aside0 (Kd.R k56 56 w' w.heap.size (fun k_ => k_ ≠ gb171) u12 x12_1) ∧ Aside0 (w'.heap[gb166]? = some (.cells #[.int .i64 x167000_2, .int .i64 x167001_2, .int .i64 x167002_2] 52 (0, 0))) ∧ Aside0 (w'.heap[gb171]? = some (.cells #[.int .i64 x172000_1, .int .i64 x172001_1, .int .i64 x172002_1] 56 (0, 0))) ∧ Aside0 (Below w.heap.size w w'))
              case atStart => exact ⟨(0), (x167000_1), (x167001_1), (x167002_1), (by first | rfl | (simp; done) | (simp [*]; done)), H', ⟨Nat.le_refl _⟩, ⟨by (with_reducible repeat (first | apply Kd.R_alloc | apply Kd.R_drewN | apply Kd.R_drew)); exact HO_11.out⟩, ⟨by (with_reducible repeat (first | apply Kd.R_alloc | apply Kd.R_drewN | apply Kd.R_drew)); exact HO_12.out⟩, ⟨by (with_reducible repeat (first | refine blk_drewN ?_ _ | refine blk_drew ?_ | refine blk_alloc ?_ _)); exact BK166.out⟩, ⟨by (with_reducible repeat (first | refine blk_drewN ?_ _ | refine blk_drew ?_ | refine blk_alloc ?_ _)); exact BK171.out⟩, ⟨by repeat (first | (with_reducible first | exact HB.out | apply below_alloc | apply pw_below_drewN | apply below_drew1 | refine below_set ?_ GE166.out | refine below_set ?_ GE171.out) | exact HB.out)⟩⟩
              case round =>
                clear H'
                try clear c1
                try clear p1
                try clear q1
                try clear hx1
                try clear c2
                try clear p2
                try clear q2
                try clear hx2
                try clear c3
                try clear c4
                try clear c5
                try clear c6
                try clear p6
                try clear c7
                try clear c8
                try clear c8b0
                try clear c8b1
                try clear p8
                try clear q8
                try clear hx8
                try clear hf8
                try clear c9
                try clear c9b0
                try clear c9b1
                try clear c10
                try clear hx10
                try clear hf10
                try clear c11
                try clear hx11
                try clear hf11
                try clear c12
                try clear c16
                try clear p17
                try clear q17
                try clear hx17
                try clear c18
                try clear c18b0
                try clear c19
                try clear c19b0
                try clear p20
                try clear q20
                try clear hx20
                try clear c21
                try clear c22
                try clear c23
                try clear c24
                try clear c25
                try clear c25b0
                try clear c25b1
                try clear c26
                try clear c27
                try clear c28
                try clear c28b0
                try clear c28b1
                try clear c29
                try clear c30
                try clear c31
                try clear c35
                try clear c36
                try clear c37
                try clear c41
                try clear c42
                try clear c46
                try clear c47
                try clear c48
                try clear c51
                try clear c51b0
                try clear c51b1
                try clear c55
                try clear c56
                try clear c60
                try clear c60b0
                try clear c60b1
                try clear c63
                try clear c64
                try clear p64
                try clear c67
                try clear c72
                try clear c72b0
                try clear c72b1
                try clear c73
                try clear c74
                try clear c75
                try clear c76
                try clear c79
                try clear c82
                try clear c82b0
                try clear c82b1
                try clear c83
                try clear c83b0
                try clear c83b1
                try clear c85
                try clear c85b0
                try clear c86
                try clear c86b0
                try clear c87
                try clear p87
                try clear q87
                try clear hx87
                try clear hf87
                try clear c88
                try clear c88b0
                try clear c89
                try clear p89
                try clear q89
                try clear hx89
                try clear hf89
                try clear c91
                try clear c92
                try clear c95
                try clear c96
                try clear c97
                try clear c103
                try clear hx103
                try clear hf103
                try clear c105
                try clear c108
                try clear c109
                try clear c110
                try clear c111
                try clear c118
                try clear hx118
                try clear hf118
                try clear c123
                try clear c123b0
                try clear c123b1
                try clear hcz100_0
                try clear hcz100_1
                try clear hcz100_2
                try clear hcz102_0
                try clear hcz102_1
                try clear hcz102_2
                try clear hcz106_0
                try clear hcz106_1
                try clear hcz106_2
                try clear hcz112_0
                try clear hcz112_1
                try clear hcz112_2
                try clear hcz115_0
                try clear hcz115_1
                try clear hcz115_2
                try clear hcz117_0
                try clear hcz117_1
                try clear hcz117_2
                try clear hcz13_0
                try clear hcz13_1
                try clear hcz13_2
                try clear hcz17_0
                try clear hcz17_1
                try clear hcz17_2
                try clear hcz24_0
                try clear hcz24_1
                try clear hcz32_0
                try clear hcz32_1
                try clear hcz32_2
                try clear hcz38_0
                try clear hcz38_1
                try clear hcz38_2
                try clear hcz39_0
                try clear hcz39_1
                try clear hcz39_2
                try clear hcz43_0
                try clear hcz43_1
                try clear hcz43_2
                try clear hcz49_0
                try clear hcz49_1
                try clear hcz49_2
                try clear hcz50_0
                try clear hcz50_1
                try clear hcz50_2
                try clear hcz57_0
                try clear hcz57_1
                try clear hcz57_2
                try clear hcz59_0
                try clear hcz59_1
                try clear hcz59_2
                try clear hcz65_0
                try clear hcz65_1
                try clear hcz68_0
                try clear hcz68_1
                try clear hcz68_2
                try clear hcz69_0
                try clear hcz69_1
                try clear hcz71_0
                try clear hcz71_1
                try clear hcz71_2
                try clear hcz77_0
                try clear hcz77_1
                try clear hcz77_2
                try clear hcz80_0
                try clear hcz80_1
                try clear hcz80_2
                try clear hcz93_0
                try clear hcz93_1
                try clear hcz93_2
                try clear hcz98_0
                try clear hcz98_1
                try clear hcz98_2
                try clear hfz100_0
                try clear hfz100_1
                try clear hfz100_2
                try clear hfz102_0
                try clear hfz102_1
                try clear hfz102_2
                try clear hfz106_0
                try clear hfz106_1
                try clear hfz106_2
                try clear hfz112_0
                try clear hfz112_1
                try clear hfz112_2
                try clear hfz115_0
                try clear hfz115_1
                try clear hfz115_2
                try clear hfz117_0
                try clear hfz117_1
                try clear hfz117_2
                try clear hfz13_0
                try clear hfz13_1
                try clear hfz13_2
                try clear hfz17_0
                try clear hfz17_1
                try clear hfz17_2
                try clear hfz24_0
                try clear hfz24_1
                try clear hfz32_0
                try clear hfz32_1
                try clear hfz32_2
                try clear hfz38_0
                try clear hfz38_1
                try clear hfz38_2
                try clear hfz39_0
                try clear hfz39_1
                try clear hfz39_2
                try clear hfz43_0
                try clear hfz43_1
                try clear hfz43_2
                try clear hfz49_0
                try clear hfz49_1
                try clear hfz49_2
                try clear hfz50_0
                try clear hfz50_1
                try clear hfz50_2
                try clear hfz57_0
                try clear hfz57_1
                try clear hfz57_2
                try clear hfz59_0
                try clear hfz59_1
                try clear hfz59_2
                try clear hfz65_0
                try clear hfz65_1
                try clear hfz68_0
                try clear hfz68_1
                try clear hfz68_2
                try clear hfz69_0
                try clear hfz69_1
                try clear hfz71_0
                try clear hfz71_1
                try clear hfz71_2
                try clear hfz77_0
                try clear hfz77_1
                try clear hfz77_2
                try clear hfz80_0
                try clear hfz80_1
                try clear hfz80_2
                try clear hfz93_0
                try clear hfz93_1
                try clear hfz93_2
                try clear hfz98_0
                try clear hfz98_1
                try clear hfz98_2
                try clear hx103_0
                try clear hx103_1
                try clear hx103_2
                try clear hx118_0
                try clear hx118_1
                try clear hx118_2
                try clear hx172_0
                try clear hx172_1
                try clear hx202_0
                try clear hx202_1
                try clear hx202_2
                try clear hx205_0
                try clear hx205_1
                try clear hx205_2
                try clear hx87_0
                try clear hx87_1
                try clear hx87_2
                try clear hx89_0
                try clear hx89_1
                try clear hx89_2
                try clear p1
                try clear p17
                try clear p172
                try clear p2
                try clear p20
                try clear p202
                try clear p205
                try clear p6
                try clear p64
                try clear p8
                try clear p87
                try clear p89
                try clear q1
                try clear q17
                try clear q172
                try clear q2
                try clear q20
                try clear q202
                try clear q205
                try clear q8
                try clear q87
                try clear q89
                obtain ⟨x21_2, x167000_2, x167001_2, x167002_2, rfl, HA, HK2, HO_11, HO_12, BK166, BK171, HB⟩ := hrel
                cases gk with
                | zero => exact absurd HA.out (by simp [joustlaw08_BucketPlays.l1])
                | succ k2 =>
                  have H := HA.out
                  clear HA
                  simp only [joustlaw08_BucketPlays.l1] at H
                  by_cases c130 : x21_2 < (x11_1.length : Int)
                  · rw [if_pos c130] at H
                    have c130b0 : decide (x21_2 < (x11_1.length : Int)) = true := decide_eq_true c130
                    clear c130
                    by_cases c131 : 0 ≤ x21_2
                    · rw [if_pos c131] at H
                      have c131b0 : decide (0 ≤ x21_2) = true := decide_eq_true c131
                      clear c131
                      replace H := Option.bind_eq_some_iff.mp H
                      obtain ⟨⟨t213, t214, t215, t216⟩, A1320, H⟩ := H
                      replace H : (if x21_2 < (x12_1.length : Int) then ((joustref08_Left.f ((rd_T56 x12_1 x21_2).f0) ((rd_T56 x12_1 x21_2).f1) ((rd_T56 x12_1 x21_2).f2)).bind fun t218 => (if t213 = t218 then (joustlaw08_BucketPlays.l1 k2 x11_1 x12_1 (wrap64 (x21_2 + 1))) else (some false))) else (none)) = some r := H
                      have A132 := Aside0.mk A1320
                      clear A1320
                      by_cases c133 : x21_2 < (x12_1.length : Int)
                      · rw [if_pos c133] at H
                        have c133b0 : decide (x21_2 < (x12_1.length : Int)) = true := decide_eq_true c133
                        clear c133
                        replace H := Option.bind_eq_some_iff.mp H
                        obtain ⟨t218, A1340, H⟩ := H
                        replace H : (if t213 = t218 then (joustlaw08_BucketPlays.l1 k2 x11_1 x12_1 (wrap64 (x21_2 + 1))) else (some false)) = some r := H
                        have A134 := Aside0.mk A1340
                        clear A1340
                        by_cases c135 : t213 = t218
                        · rw [if_pos c135] at H
                          have c135b0 : (t213 == t218) = true := beq_iff_eq.mpr c135
                          have c135b1 : (t213 != t218) = false := bne_eq_false_iff_eq.mpr c135
                          clear c135
                          have H' := Aside0.mk H
                          clear H
                          obtain ⟨Ao136, co136, eo136⟩ := Kd.R_slice HO_11.out
                          subst eo136
                          try go_wp2
                          have n0_ := Aside0.mk (Kd.R_drew HO_11.out)
                          have n1_ := Aside0.mk (Kd.R_drew HO_12.out)
                          have n2_ := Aside0.mk (blk_drew BK166.out)
                          have n3_ := Aside0.mk (blk_drew BK171.out)
                          have n4_ := Aside0.mk (below_drew1 HB.out)
                          clear HO_11
                          clear HO_12
                          clear BK166
                          clear BK171
                          clear HB
                          have HO_11 := n0_
                          have HO_12 := n1_
                          have BK166 := n2_
                          have BK171 := n3_
                          have HB := n4_
                          clear n0_ n1_ n2_ n3_ n4_
                          have p212 : 0 ≤ (x21_2 : Int) := of_decide_eq_true (by first | (with_reducible assumption) | assumption)
                          have q212 : x21_2 < (x11_1.length : Int) := of_decide_eq_true (by first | (with_reducible assumption) | assumption)
                          obtain ⟨ad212, e212, hx212_0, hx212_1, hx212_2⟩ := at_T52 (Kd.R_reads' HO_11.out).2.2 x21_2 p212 q212
                          cases e212
                          replace p212 := eq_true p212
                          replace q212 := eq_true q212
                          obtain ⟨Ao138, co138, eo138⟩ := Kd.R_slice HO_12.out
                          (first | subst eo138 | (injection eo138 with f1_ f2_ f3_; have f4_ := f1_.symm; have f5_ := f3_.symm; clear f1_ f2_ f3_; subst f4_; subst f5_))
                          have p217 : 0 ≤ (x21_2 : Int) := of_decide_eq_true (by first | (with_reducible assumption) | assumption)
                          have q217 : x21_2 < (x12_1.length : Int) := of_decide_eq_true (by first | (with_reducible assumption) | assumption)
                          obtain ⟨ad217, e217, hx217_0, hx217_1, hx217_2⟩ := at_T56 (Kd.R_reads' HO_12.out).2.2 x21_2 p217 q217
                          cases e217
                          replace p217 := eq_true p217
                          replace q217 := eq_true q217
                          refine start_ (n := 10) (S := fun w' => w'.cell? (ad212.add ((x21_2).toNat * 3)) = some (.int .i64 ((rd_T52 x11_1 x21_2).f0)) ∧ w'.cell? ⟨(ad212.add ((x21_2).toNat * 3)).block, (ad212.add ((x21_2).toNat * 3)).off + 1, none⟩ = some (.int .i64 ((rd_T52 x11_1 x21_2).f1)) ∧ w'.cell? ⟨(ad212.add ((x21_2).toNat * 3)).block, (ad212.add ((x21_2).toNat * 3)).off + 2, none⟩ = some (.int .i64 ((rd_T52 x11_1 x21_2).f2)) ∧ w'.cell? (ad217.add ((x21_2).toNat * 3)) = some (.int .i64 ((rd_T56 x12_1 x21_2).f0)) ∧ w'.cell? ⟨(ad217.add ((x21_2).toNat * 3)).block, (ad217.add ((x21_2).toNat * 3)).off + 1, none⟩ = some (.int .i64 ((rd_T56 x12_1 x21_2).f1)) ∧ w'.cell? ⟨(ad217.add ((x21_2).toNat * 3)).block, (ad217.add ((x21_2).toNat * 3)).off + 2, none⟩ = some (.int .i64 ((rd_T56 x12_1 x21_2).f2))) (ds := []) #[false, false, false, false, false, false, false, false, false, false] (by kernel_rfl) rfl rfl ⟨hx212_0, hx212_1, hx212_2, hx217_0, hx217_1, hx217_2⟩ (fun hHeld => ?_); refine with_tabW joustlaw08_BucketPlays.tab45 joustlaw08_BucketPlays.bits45 (fun HT_ HW_ => ?_)
                          generalize wr.drew = w137 at HO_11 HO_12 BK166 BK171 HB hx212_0 hx212_1 hx212_2 hx217_0 hx217_1 hx217_2 hHeld ⊢
                          refine pure_ (i := 0) (N := some 127) (v := ?_) (a' := ?_) #[true, false, false, false, false, false, false, false, false, false] rfl rfl (any_of HT_.out (by kernel_rfl)) (fun _ _ _ h => h) (Or.inl ⟨by rfl, ?_⟩) ?_ ?_
                          rotate_left
                          · intro w'
                            go_simp
                            with_reducible rfl
                          rotate_left
                          · simp only [Act.put, List.setIfInBounds_toArray, List.set_cons_zero, List.set_cons_succ, i64_w, i32_w]
                            rfl
                          refine pure_ (i := 1) (N := some 128) (v := ?_) (a' := ?_) #[true, true, false, false, false, false, false, false, false, false] rfl rfl (any_of HT_.out (by kernel_rfl)) (fun _ _ _ h => h) (Or.inl ⟨by rfl, ?_⟩) ?_ ?_
                          rotate_left
                          · intro w'
                            go_simp
                            with_reducible rfl
                          rotate_left
                          · simp only [Act.put, List.setIfInBounds_toArray, List.set_cons_zero, List.set_cons_succ, i64_w, i32_w]
                            rfl
                          refine pure_ (i := 2) (N := some 129) (v := ?_) (a' := ?_) #[true, true, true, false, false, false, false, false, false, false] rfl rfl (any_of HT_.out (by kernel_rfl)) (fun _ _ _ h => h) (Or.inl ⟨by rfl, ?_⟩) ?_ ?_
                          rotate_left
                          · intro w'
                            go_simp
                            with_reducible rfl
                          rotate_left
                          · simp only [Act.put, List.setIfInBounds_toArray, List.set_cons_zero, List.set_cons_succ, i64_w, i32_w]
                            rfl
                          refine pure_ (i := 4) (N := some 131) (v := ?_) (a' := ?_) #[true, true, true, false, true, false, false, false, false, false] rfl rfl (any_of HT_.out (by kernel_rfl)) (fun _ _ _ h => h) (Or.inl ⟨by rfl, ?_⟩) ?_ ?_
                          rotate_left
                          · intro w'
                            go_simp
                            with_reducible rfl
                          rotate_left
                          · simp only [Act.put, List.setIfInBounds_toArray, List.set_cons_zero, List.set_cons_succ, i64_w, i32_w]
                            rfl
                          refine pure_ (i := 5) (N := some 132) (v := ?_) (a' := ?_) #[true, true, true, false, true, true, false, false, false, false] rfl rfl (any_of HT_.out (by kernel_rfl)) (fun _ _ _ h => h) (Or.inl ⟨by rfl, ?_⟩) ?_ ?_
                          rotate_left
                          · intro w'
                            go_simp
                            with_reducible rfl
                          rotate_left
                          · simp only [Act.put, List.setIfInBounds_toArray, List.set_cons_zero, List.set_cons_succ, i64_w, i32_w]
                            rfl
                          refine pure_ (i := 6) (N := some 133) (v := ?_) (a' := ?_) #[true, true, true, false, true, true, true, false, false, false] rfl rfl (any_of HT_.out (by kernel_rfl)) (fun _ _ _ h => h) (Or.inl ⟨by rfl, ?_⟩) ?_ ?_
                          rotate_left
                          · intro w'
                            go_simp
                            with_reducible rfl
                          rotate_left
                          · simp only [Act.put, List.setIfInBounds_toArray, List.set_cons_zero, List.set_cons_succ, i64_w, i32_w]
                            rfl
                          refine take_ (i := 7) (N := some 134) (v := ?_) (a' := ?_) #[true, true, true, false, true, true, true, true, false, false] rfl rfl (take_ofW HT_.out HW_.out (by kernel_rfl)) (fun _ _ _ h => h) (Or.inl ⟨by rfl, ?_⟩) hHeld ?_ ?_
                          rotate_left
                          · rintro w' ⟨s0, s1, s2, s3, s4, s5⟩
                            go_simp
                            with_reducible rfl
                          rotate_left
                          · simp only [Act.put, List.setIfInBounds_toArray, List.set_cons_zero, List.set_cons_succ, i64_w, i32_w]
                            rfl
                          refine one_ (i := 3) (N := some 130) #[true, true, true, true, true, true, true, true, false, false] rfl rfl (one_of HT_.out (by kernel_rfl)) (by decide) (fun K hK => ?_)
                          refine goes_ Try.func30 (by kernel_rfl) rfl #[.pointer (some (ad212.add ((x21_2).toNat * 3)))] (by rfl) rfl rfl (by (try simp only [List.map_toArray, List.map_cons, List.map_nil]); first | done | rfl | (simp only [List.length_drop, List.length_take]; rfl)) ?_
                          with_reducible refine (bucket_Bucket_Left.calls_at _ ((rd_T52 x11_1 x21_2).f0) ((rd_T52 x11_1 x21_2).f1) ((rd_T52 x11_1 x21_2).f2) t213 t214 t215 t216 _ ?side1 ?side2 ?side3 A132.out).mono ?_
                          (case side1 => first | assumption | (with_reducible assumption))
                          (case side2 => first | assumption | (with_reducible assumption))
                          (case side3 => first | assumption | (with_reducible assumption))
                          rintro e w' ⟨rfl, ⟨nd, rfl⟩⟩
                          refine ⟨_, rfl, ?_⟩
                          refine hK.out _ _ ⟨hHeld.1, hHeld.2.1, hHeld.2.2.1, hHeld.2.2.2.1, hHeld.2.2.2.2.1, hHeld.2.2.2.2.2⟩ (fun hHeld => ?_)
                          clear hK K
                          refine norm_ (a' := ?_) ?_ ?_
                          rotate_left
                          · show Act.put _ (some 130) _ = _
                            simp only [Act.put, List.setIfInBounds_toArray, List.set_cons_zero, List.set_cons_succ, i64_w, i32_w]
                            rfl
                          refine one_ (i := 8) (N := some 135) #[true, true, true, true, true, true, true, true, true, false] rfl rfl (one_of HT_.out (by kernel_rfl)) (by decide) (fun K hK => ?_)
                          refine goes_ Try.func31 (by kernel_rfl) rfl #[.agg #[.int .i64 ((rd_T56 x12_1 x21_2).f0), .int .i64 ((rd_T56 x12_1 x21_2).f1), .int .i64 ((rd_T56 x12_1 x21_2).f2)]] (by rfl) rfl rfl (by (try simp only [List.map_toArray, List.map_cons, List.map_nil]); first | done | rfl | (simp only [List.length_drop, List.length_take]; rfl)) ?_
                          with_reducible refine (joustref08_Left.calls ((rd_T56 x12_1 x21_2).f0) ((rd_T56 x12_1 x21_2).f1) ((rd_T56 x12_1 x21_2).f2) t218 _ A134.out).mono ?_
                          rintro e w139 ⟨rfl, hb⟩
                          have HS0_ := (hb.cell (World.block_lt_of_cell? _ _ (hHeld.1))).trans (hHeld.1)
                          have HS1_ := (hb.cell (World.block_lt_of_cell? _ _ (hHeld.2.1))).trans (hHeld.2.1)
                          have HS2_ := (hb.cell (World.block_lt_of_cell? _ _ (hHeld.2.2.1))).trans (hHeld.2.2.1)
                          have HS3_ := (hb.cell (World.block_lt_of_cell? _ _ (hHeld.2.2.2.1))).trans (hHeld.2.2.2.1)
                          have HS4_ := (hb.cell (World.block_lt_of_cell? _ _ (hHeld.2.2.2.2.1))).trans (hHeld.2.2.2.2.1)
                          have HS5_ := (hb.cell (World.block_lt_of_cell? _ _ (hHeld.2.2.2.2.2))).trans (hHeld.2.2.2.2.2)
                          refine ⟨_, rfl, ?_⟩
                          have n0_ := Aside0.mk (Kd.R_below (by (with_reducible repeat (first | apply Kd.R_alloc | apply Kd.R_drewN | apply Kd.R_drew)); exact HO_11.out) hb)
                          have n1_ := Aside0.mk (Kd.R_below (by (with_reducible repeat (first | apply Kd.R_alloc | apply Kd.R_drewN | apply Kd.R_drew)); exact HO_12.out) hb)
                          have n2_ := Aside0.mk (blk_below (g := gb166) (o := .cells #[.int .i64 x167000_2, .int .i64 x167001_2, .int .i64 x167002_2] 52 (0, 0)) (by (with_reducible repeat (first | refine blk_drewN ?_ _ | refine blk_drew ?_ | refine blk_alloc ?_ _)); exact BK166.out) hb)
                          have n3_ := Aside0.mk (blk_below (g := gb171) (o := .cells #[.int .i64 x172000_1, .int .i64 x172001_1, .int .i64 x172002_1] 56 (0, 0)) (by (with_reducible repeat (first | refine blk_drewN ?_ _ | refine blk_drew ?_ | refine blk_alloc ?_ _)); exact BK171.out) hb)
                          have n4_ := Aside0.mk (below_step (by repeat (first | (with_reducible first | exact HB.out | apply below_alloc | apply pw_below_drewN | apply below_drew1 | refine below_set ?_ GE166.out | refine below_set ?_ GE171.out) | exact HB.out)) hb)
                          clear HO_11
                          clear HO_12
                          clear BK166
                          clear BK171
                          clear HB
                          have HO_11 := n0_
                          have HO_12 := n1_
                          have BK166 := n2_
                          have BK171 := n3_
                          have HB := n4_
                          clear n0_ n1_ n2_ n3_ n4_
                          (try clear hb)
                          (try clear hb2)
                          (try clear hk)
                          (try clear hi)
                          refine hK.out _ _ ⟨HS0_, HS1_, HS2_, HS3_, HS4_, HS5_⟩ (fun hHeld => ?_)
                          clear hK K
                          refine norm_ (a' := ?_) ?_ ?_
                          rotate_left
                          · show Act.put _ (some 135) _ = _
                            simp only [Act.put, List.setIfInBounds_toArray, List.set_cons_zero, List.set_cons_succ, i64_w, i32_w]
                            rfl
                          refine pure_ (i := 9) (N := some 136) (v := ?_) (a' := ?_) #[true, true, true, true, true, true, true, true, true, true] rfl rfl (any_of HT_.out (by kernel_rfl)) (fun _ _ _ h => h) (Or.inl ⟨by rfl, ?_⟩) ?_ ?_
                          rotate_left
                          · intro w'
                            go_simp
                            with_reducible rfl
                          rotate_left
                          · simp only [Act.put, List.setIfInBounds_toArray, List.set_cons_zero, List.set_cons_succ, i64_w, i32_w]
                            rfl
                          refine done_ (done_of HT_.out (by kernel_rfl)) ?_
                          try go_wp2
                          go_roundg k2
                          case measure => have := HK1.out; have := HK2.out; omega
                          case rel => exact ⟨(wrap64 (x21_2 + 1)), (x167000_2), (x167001_2), (x167002_2), (by first | rfl | (simp; done) | (simp [*]; done)), H', ⟨by have := HK1.out; have := HK2.out; omega⟩, ⟨by (with_reducible repeat (first | apply Kd.R_alloc | apply Kd.R_drewN | apply Kd.R_drew)); exact HO_11.out⟩, ⟨by (with_reducible repeat (first | apply Kd.R_alloc | apply Kd.R_drewN | apply Kd.R_drew)); exact HO_12.out⟩, ⟨by (with_reducible repeat (first | refine blk_drewN ?_ _ | refine blk_drew ?_ | refine blk_alloc ?_ _)); exact BK166.out⟩, ⟨by (with_reducible repeat (first | refine blk_drewN ?_ _ | refine blk_drew ?_ | refine blk_alloc ?_ _)); exact BK171.out⟩, ⟨by repeat (first | (with_reducible first | exact HB.out | apply below_alloc | apply pw_below_drewN | apply below_drew1 | refine below_set ?_ GE166.out | refine below_set ?_ GE171.out) | exact HB.out)⟩⟩
                        · rw [if_neg c135] at H
                          have c135b0 : (t213 == t218) = false := beq_eq_false_iff_ne.mpr c135
                          have c135b1 : (t213 != t218) = true := bne_iff_ne.mpr c135
                          obtain rfl := Option.some.inj H
                          obtain ⟨Ao140, co140, eo140⟩ := Kd.R_slice HO_11.out
                          subst eo140
                          try go_wp2
                          have n0_ := Aside0.mk (Kd.R_drew HO_11.out)
                          have n1_ := Aside0.mk (Kd.R_drew HO_12.out)
                          have n2_ := Aside0.mk (blk_drew BK166.out)
                          have n3_ := Aside0.mk (blk_drew BK171.out)
                          have n4_ := Aside0.mk (below_drew1 HB.out)
                          clear HO_11
                          clear HO_12
                          clear BK166
                          clear BK171
                          clear HB
                          have HO_11 := n0_
                          have HO_12 := n1_
                          have BK166 := n2_
                          have BK171 := n3_
                          have HB := n4_
                          clear n0_ n1_ n2_ n3_ n4_
                          have p212 : 0 ≤ (x21_2 : Int) := of_decide_eq_true (by first | (with_reducible assumption) | assumption)
                          have q212 : x21_2 < (x11_1.length : Int) := of_decide_eq_true (by first | (with_reducible assumption) | assumption)
                          obtain ⟨ad212, e212, hx212_0, hx212_1, hx212_2⟩ := at_T52 (Kd.R_reads' HO_11.out).2.2 x21_2 p212 q212
                          cases e212
                          replace p212 := eq_true p212
                          replace q212 := eq_true q212
                          obtain ⟨Ao142, co142, eo142⟩ := Kd.R_slice HO_12.out
                          (first | subst eo142 | (injection eo142 with f1_ f2_ f3_; have f4_ := f1_.symm; have f5_ := f3_.symm; clear f1_ f2_ f3_; subst f4_; subst f5_))
                          have p217 : 0 ≤ (x21_2 : Int) := of_decide_eq_true (by first | (with_reducible assumption) | assumption)
                          have q217 : x21_2 < (x12_1.length : Int) := of_decide_eq_true (by first | (with_reducible assumption) | assumption)
                          obtain ⟨ad217, e217, hx217_0, hx217_1, hx217_2⟩ := at_T56 (Kd.R_reads' HO_12.out).2.2 x21_2 p217 q217
                          cases e217
                          replace p217 := eq_true p217
                          replace q217 := eq_true q217
                          refine start_ (n := 10) (S := fun w' => w'.cell? (ad212.add ((x21_2).toNat * 3)) = some (.int .i64 ((rd_T52 x11_1 x21_2).f0)) ∧ w'.cell? ⟨(ad212.add ((x21_2).toNat * 3)).block, (ad212.add ((x21_2).toNat * 3)).off + 1, none⟩ = some (.int .i64 ((rd_T52 x11_1 x21_2).f1)) ∧ w'.cell? ⟨(ad212.add ((x21_2).toNat * 3)).block, (ad212.add ((x21_2).toNat * 3)).off + 2, none⟩ = some (.int .i64 ((rd_T52 x11_1 x21_2).f2)) ∧ w'.cell? (ad217.add ((x21_2).toNat * 3)) = some (.int .i64 ((rd_T56 x12_1 x21_2).f0)) ∧ w'.cell? ⟨(ad217.add ((x21_2).toNat * 3)).block, (ad217.add ((x21_2).toNat * 3)).off + 1, none⟩ = some (.int .i64 ((rd_T56 x12_1 x21_2).f1)) ∧ w'.cell? ⟨(ad217.add ((x21_2).toNat * 3)).block, (ad217.add ((x21_2).toNat * 3)).off + 2, none⟩ = some (.int .i64 ((rd_T56 x12_1 x21_2).f2))) (ds := []) #[false, false, false, false, false, false, false, false, false, false] (by kernel_rfl) rfl rfl ⟨hx212_0, hx212_1, hx212_2, hx217_0, hx217_1, hx217_2⟩ (fun hHeld => ?_); refine with_tabW joustlaw08_BucketPlays.tab45 joustlaw08_BucketPlays.bits45 (fun HT_ HW_ => ?_)
                          generalize wr.drew = w141 at HO_11 HO_12 BK166 BK171 HB hx212_0 hx212_1 hx212_2 hx217_0 hx217_1 hx217_2 hHeld ⊢
                          refine pure_ (i := 0) (N := some 127) (v := ?_) (a' := ?_) #[true, false, false, false, false, false, false, false, false, false] rfl rfl (any_of HT_.out (by kernel_rfl)) (fun _ _ _ h => h) (Or.inl ⟨by rfl, ?_⟩) ?_ ?_
                          rotate_left
                          · intro w'
                            go_simp
                            with_reducible rfl
                          rotate_left
                          · simp only [Act.put, List.setIfInBounds_toArray, List.set_cons_zero, List.set_cons_succ, i64_w, i32_w]
                            rfl
                          refine pure_ (i := 1) (N := some 128) (v := ?_) (a' := ?_) #[true, true, false, false, false, false, false, false, false, false] rfl rfl (any_of HT_.out (by kernel_rfl)) (fun _ _ _ h => h) (Or.inl ⟨by rfl, ?_⟩) ?_ ?_
                          rotate_left
                          · intro w'
                            go_simp
                            with_reducible rfl
                          rotate_left
                          · simp only [Act.put, List.setIfInBounds_toArray, List.set_cons_zero, List.set_cons_succ, i64_w, i32_w]
                            rfl
                          refine pure_ (i := 2) (N := some 129) (v := ?_) (a' := ?_) #[true, true, true, false, false, false, false, false, false, false] rfl rfl (any_of HT_.out (by kernel_rfl)) (fun _ _ _ h => h) (Or.inl ⟨by rfl, ?_⟩) ?_ ?_
                          rotate_left
                          · intro w'
                            go_simp
                            with_reducible rfl
                          rotate_left
                          · simp only [Act.put, List.setIfInBounds_toArray, List.set_cons_zero, List.set_cons_succ, i64_w, i32_w]
                            rfl
                          refine pure_ (i := 4) (N := some 131) (v := ?_) (a' := ?_) #[true, true, true, false, true, false, false, false, false, false] rfl rfl (any_of HT_.out (by kernel_rfl)) (fun _ _ _ h => h) (Or.inl ⟨by rfl, ?_⟩) ?_ ?_
                          rotate_left
                          · intro w'
                            go_simp
                            with_reducible rfl
                          rotate_left
                          · simp only [Act.put, List.setIfInBounds_toArray, List.set_cons_zero, List.set_cons_succ, i64_w, i32_w]
                            rfl
                          refine pure_ (i := 5) (N := some 132) (v := ?_) (a' := ?_) #[true, true, true, false, true, true, false, false, false, false] rfl rfl (any_of HT_.out (by kernel_rfl)) (fun _ _ _ h => h) (Or.inl ⟨by rfl, ?_⟩) ?_ ?_
                          rotate_left
                          · intro w'
                            go_simp
                            with_reducible rfl
                          rotate_left
                          · simp only [Act.put, List.setIfInBounds_toArray, List.set_cons_zero, List.set_cons_succ, i64_w, i32_w]
                            rfl
                          refine pure_ (i := 6) (N := some 133) (v := ?_) (a' := ?_) #[true, true, true, false, true, true, true, false, false, false] rfl rfl (any_of HT_.out (by kernel_rfl)) (fun _ _ _ h => h) (Or.inl ⟨by rfl, ?_⟩) ?_ ?_
                          rotate_left
                          · intro w'
                            go_simp
                            with_reducible rfl
                          rotate_left
                          · simp only [Act.put, List.setIfInBounds_toArray, List.set_cons_zero, List.set_cons_succ, i64_w, i32_w]
                            rfl
                          refine take_ (i := 7) (N := some 134) (v := ?_) (a' := ?_) #[true, true, true, false, true, true, true, true, false, false] rfl rfl (take_ofW HT_.out HW_.out (by kernel_rfl)) (fun _ _ _ h => h) (Or.inl ⟨by rfl, ?_⟩) hHeld ?_ ?_
                          rotate_left
                          · rintro w' ⟨s0, s1, s2, s3, s4, s5⟩
                            go_simp
                            with_reducible rfl
                          rotate_left
                          · simp only [Act.put, List.setIfInBounds_toArray, List.set_cons_zero, List.set_cons_succ, i64_w, i32_w]
                            rfl
                          refine one_ (i := 3) (N := some 130) #[true, true, true, true, true, true, true, true, false, false] rfl rfl (one_of HT_.out (by kernel_rfl)) (by decide) (fun K hK => ?_)
                          refine goes_ Try.func30 (by kernel_rfl) rfl #[.pointer (some (ad212.add ((x21_2).toNat * 3)))] (by rfl) rfl rfl (by (try simp only [List.map_toArray, List.map_cons, List.map_nil]); first | done | rfl | (simp only [List.length_drop, List.length_take]; rfl)) ?_
                          with_reducible refine (bucket_Bucket_Left.calls_at _ ((rd_T52 x11_1 x21_2).f0) ((rd_T52 x11_1 x21_2).f1) ((rd_T52 x11_1 x21_2).f2) t213 t214 t215 t216 _ ?side1 ?side2 ?side3 A132.out).mono ?_
                          (case side1 => first | assumption | (with_reducible assumption))
                          (case side2 => first | assumption | (with_reducible assumption))
                          (case side3 => first | assumption | (with_reducible assumption))
                          rintro e w' ⟨rfl, ⟨nd, rfl⟩⟩
                          refine ⟨_, rfl, ?_⟩
                          refine hK.out _ _ ⟨hHeld.1, hHeld.2.1, hHeld.2.2.1, hHeld.2.2.2.1, hHeld.2.2.2.2.1, hHeld.2.2.2.2.2⟩ (fun hHeld => ?_)
                          clear hK K
                          refine norm_ (a' := ?_) ?_ ?_
                          rotate_left
                          · show Act.put _ (some 130) _ = _
                            simp only [Act.put, List.setIfInBounds_toArray, List.set_cons_zero, List.set_cons_succ, i64_w, i32_w]
                            rfl
                          refine one_ (i := 8) (N := some 135) #[true, true, true, true, true, true, true, true, true, false] rfl rfl (one_of HT_.out (by kernel_rfl)) (by decide) (fun K hK => ?_)
                          refine goes_ Try.func31 (by kernel_rfl) rfl #[.agg #[.int .i64 ((rd_T56 x12_1 x21_2).f0), .int .i64 ((rd_T56 x12_1 x21_2).f1), .int .i64 ((rd_T56 x12_1 x21_2).f2)]] (by rfl) rfl rfl (by (try simp only [List.map_toArray, List.map_cons, List.map_nil]); first | done | rfl | (simp only [List.length_drop, List.length_take]; rfl)) ?_
                          with_reducible refine (joustref08_Left.calls ((rd_T56 x12_1 x21_2).f0) ((rd_T56 x12_1 x21_2).f1) ((rd_T56 x12_1 x21_2).f2) t218 _ A134.out).mono ?_
                          rintro e w143 ⟨rfl, hb⟩
                          have HS0_ := (hb.cell (World.block_lt_of_cell? _ _ (hHeld.1))).trans (hHeld.1)
                          have HS1_ := (hb.cell (World.block_lt_of_cell? _ _ (hHeld.2.1))).trans (hHeld.2.1)
                          have HS2_ := (hb.cell (World.block_lt_of_cell? _ _ (hHeld.2.2.1))).trans (hHeld.2.2.1)
                          have HS3_ := (hb.cell (World.block_lt_of_cell? _ _ (hHeld.2.2.2.1))).trans (hHeld.2.2.2.1)
                          have HS4_ := (hb.cell (World.block_lt_of_cell? _ _ (hHeld.2.2.2.2.1))).trans (hHeld.2.2.2.2.1)
                          have HS5_ := (hb.cell (World.block_lt_of_cell? _ _ (hHeld.2.2.2.2.2))).trans (hHeld.2.2.2.2.2)
                          refine ⟨_, rfl, ?_⟩
                          have n0_ := Aside0.mk (Kd.R_below (by (with_reducible repeat (first | apply Kd.R_alloc | apply Kd.R_drewN | apply Kd.R_drew)); exact HO_11.out) hb)
                          have n1_ := Aside0.mk (Kd.R_below (by (with_reducible repeat (first | apply Kd.R_alloc | apply Kd.R_drewN | apply Kd.R_drew)); exact HO_12.out) hb)
                          have n2_ := Aside0.mk (blk_below (g := gb166) (o := .cells #[.int .i64 x167000_2, .int .i64 x167001_2, .int .i64 x167002_2] 52 (0, 0)) (by (with_reducible repeat (first | refine blk_drewN ?_ _ | refine blk_drew ?_ | refine blk_alloc ?_ _)); exact BK166.out) hb)
                          have n3_ := Aside0.mk (blk_below (g := gb171) (o := .cells #[.int .i64 x172000_1, .int .i64 x172001_1, .int .i64 x172002_1] 56 (0, 0)) (by (with_reducible repeat (first | refine blk_drewN ?_ _ | refine blk_drew ?_ | refine blk_alloc ?_ _)); exact BK171.out) hb)
                          have n4_ := Aside0.mk (below_step (by repeat (first | (with_reducible first | exact HB.out | apply below_alloc | apply pw_below_drewN | apply below_drew1 | refine below_set ?_ GE166.out | refine below_set ?_ GE171.out) | exact HB.out)) hb)
                          clear HO_11
                          clear HO_12
                          clear BK166
                          clear BK171
                          clear HB
                          have HO_11 := n0_
                          have HO_12 := n1_
                          have BK166 := n2_
                          have BK171 := n3_
                          have HB := n4_
                          clear n0_ n1_ n2_ n3_ n4_
                          (try clear hb)
                          (try clear hb2)
                          (try clear hk)
                          (try clear hi)
                          refine hK.out _ _ ⟨HS0_, HS1_, HS2_, HS3_, HS4_, HS5_⟩ (fun hHeld => ?_)
                          clear hK K
                          refine norm_ (a' := ?_) ?_ ?_
                          rotate_left
                          · show Act.put _ (some 135) _ = _
                            simp only [Act.put, List.setIfInBounds_toArray, List.set_cons_zero, List.set_cons_succ, i64_w, i32_w]
                            rfl
                          refine pure_ (i := 9) (N := some 136) (v := ?_) (a' := ?_) #[true, true, true, true, true, true, true, true, true, true] rfl rfl (any_of HT_.out (by kernel_rfl)) (fun _ _ _ h => h) (Or.inl ⟨by rfl, ?_⟩) ?_ ?_
                          rotate_left
                          · intro w'
                            go_simp
                            with_reducible rfl
                          rotate_left
                          · simp only [Act.put, List.setIfInBounds_toArray, List.set_cons_zero, List.set_cons_succ, i64_w, i32_w]
                            rfl
                          refine done_ (done_of HT_.out (by kernel_rfl)) ?_
                          try go_wp2
                          go_ret
                          exact ⟨by first | rfl | (simp [errW_none, errW_some] <;> rfl) | (simp [*, errW_none, errW_some] <;> rfl), by repeat (first | (with_reducible first | exact HB.out | apply below_alloc | apply pw_below_drewN | apply below_drew1 | refine below_set ?_ GE166.out | refine below_set ?_ GE171.out) | exact HB.out)⟩
                      · rw [if_neg c133] at H
                        exact absurd H (by simp)
                    · rw [if_neg c131] at H
                      exact absurd H (by simp)
                  · rw [if_neg c130] at H
                    have c130b0 : decide (x21_2 < (x11_1.length : Int)) = false := decide_eq_false c130
                    clear c130
                    obtain rfl := Option.some.inj H
                    obtain ⟨Ao144, co144, eo144⟩ := Kd.R_slice HO_11.out
                    subst eo144
                    go_wp2
                    go_ret
                    exact ⟨by first | rfl | (simp [errW_none, errW_some] <;> rfl) | (simp [*, errW_none, errW_some] <;> rfl), by repeat (first | (with_reducible first | exact HB.out | apply below_alloc | apply pw_below_drewN | apply below_drew1 | refine below_set ?_ GE166.out | refine below_set ?_ GE171.out) | exact HB.out)⟩
      · rw [if_neg c9] at H
        have c9b0 : (t165 == 0) = false := beq_eq_false_iff_ne.mpr c9
        have c9b1 : (t165 != 0) = true := bne_iff_ne.mpr c9
        obtain rfl := Option.some.inj H
        go_enter Try.func7, Try.ntmps7
        go_wp2_with (first | ((with_reducible refine gate_callee (f := 21) rfl ?_); refine goesL_ (some 22) rfl rfl Try.func21 (by kernel_rfl) rfl #[] rfl (by (try simp only [List.map_toArray, List.map_cons, List.map_nil]); first | done | rfl | (simp only [List.length_drop, List.length_take]; rfl)) ?_; (with_reducible refine (joustlaw08_fixed.calls k  true _ A4.out).mono ?_); rintro e w145 ⟨rfl, hb⟩; refine ⟨_, rfl, ?_⟩; have n0_ := Aside0.mk (below_step (by repeat (first | (with_reducible first | exact HB.out | apply below_alloc | apply pw_below_drewN | apply below_drew1) | exact HB.out)) hb); clear HB; have HB := n0_; clear n0_; (try clear hb); (try clear hb2); (try clear hk); (try clear hi)) | ((with_reducible refine gate_callee (f := 22) rfl ?_); refine goesL_ (some 27) rfl rfl Try.func22 (by kernel_rfl) rfl #[.int .i64 a0, .int .i64 a1] rfl (by (try simp only [List.map_toArray, List.map_cons, List.map_nil]); first | done | rfl | (simp only [List.length_drop, List.length_take]; rfl)) ?_; (with_reducible refine (bucket_New.calls a0 a1 t162 t163 t164 t165 _ A6.out).mono ?_); rintro e w146 ⟨rfl, hb⟩; refine ⟨_, rfl, ?_⟩; have n0_ := Aside0.mk (below_step (by repeat (first | (with_reducible first | exact HB.out | apply below_alloc | apply pw_below_drewN | apply below_drew1) | exact HB.out)) hb); clear HB; have HB := n0_; clear n0_; (try clear hb); (try clear hb2); (try clear hk); (try clear hi)) | ((with_reducible refine gate_dst (N := 7) rfl ?_); refine box_event ?hg (N := 7) ?hd (cs := #[.int .i64 0, .int .i64 0, .int .i64 0]) (t := 52) ?hr ?_; (case hd => rfl); (case hg => rfl); (case hr => first | (go_simp; done) | (go_simp; rfl)); intro gb166 hg w147 hbox hb; have n0_ := Aside0.mk (below_step (by repeat (first | (with_reducible first | exact HB.out | apply below_alloc | apply pw_below_drewN | apply below_drew1) | exact HB.out)) hb); have n1_ := Aside0.mk (hbox); have n2_ := Aside0.mk ((by rw [hg]; exact (below_size (by repeat (first | (with_reducible first | exact HB.out | apply below_alloc | apply pw_below_drewN | apply below_drew1) | exact HB.out))) : w.heap.size ≤ gb166)); have n3_ := Aside0.mk ((by rw [hg]; exact (below_size (by repeat (first | (with_reducible first | exact HB.out | apply below_alloc | apply pw_below_drewN | apply below_drew1) | exact HB.out))) : w.heap.size ≤ gb166)); clear HB; have HB := n0_; have BK166 := n1_; have GW166 := n2_; have GE166 := n3_; clear n0_ n1_ n2_ n3_; clear hb hbox hg; have hcz148_0 : w147.cell? ⟨gb166, 0, none⟩ = some (.int .i64 0) := (blk_cell BK166.out 0).trans rfl; have hcz148_1 : w147.cell? ⟨gb166, 1, none⟩ = some (.int .i64 0) := (blk_cell BK166.out 1).trans rfl; have hcz148_2 : w147.cell? ⟨gb166, 2, none⟩ = some (.int .i64 0) := (blk_cell BK166.out 2).trans rfl; have hfz148_0 := blk_frozen BK166.out 0; have hfz148_1 := blk_frozen BK166.out 1; have hfz148_2 := blk_frozen BK166.out 2) | ((with_reducible refine gate_callee (f := 23) rfl ?_); refine goesL_ (some 33) rfl rfl Try.func23 (by kernel_rfl) rfl #[.int .i64 a0, .int .i64 a1] rfl (by (try simp only [List.map_toArray, List.map_cons, List.map_nil]); first | done | rfl | (simp only [List.length_drop, List.length_take]; rfl)) ?_; (with_reducible refine (joustref08_New.calls a0 a1 t167 t168 t169 t170 _ A7.out).mono ?_); rintro e w149 ⟨rfl, hb⟩; refine ⟨_, rfl, ?_⟩; have n0_ := Aside0.mk (blk_below (g := gb166) (o := .cells #[.int .i64 t162, .int .i64 t163, .int .i64 t164] 52 (0, 0)) (by (with_reducible repeat (first | refine blk_drewN ?_ _ | refine blk_drew ?_ | refine blk_alloc ?_ _)); refine blk_put (cs := #[.int .i64 t162, .int .i64 t163, .int .i64 0]) ?_ 2 _ rfl; (with_reducible repeat (first | refine blk_drewN ?_ _ | refine blk_drew ?_ | refine blk_alloc ?_ _)); refine blk_put (cs := #[.int .i64 t162, .int .i64 0, .int .i64 0]) ?_ 1 _ rfl; (with_reducible repeat (first | refine blk_drewN ?_ _ | refine blk_drew ?_ | refine blk_alloc ?_ _)); refine blk_put (cs := #[.int .i64 0, .int .i64 0, .int .i64 0]) ?_ 0 _ rfl; (with_reducible repeat (first | refine blk_drewN ?_ _ | refine blk_drew ?_ | refine blk_alloc ?_ _)); exact BK166.out) hb); have n1_ := Aside0.mk (below_step (by repeat (first | (with_reducible first | exact HB.out | apply below_alloc | apply pw_below_drewN | apply below_drew1 | refine below_set ?_ GE166.out) | exact HB.out)) hb); clear BK166; clear HB; have BK166 := n0_; have HB := n1_; clear n0_ n1_; (try clear hb); (try clear hb2); (try clear hk); (try clear hi)) | ((with_reducible refine gate_dst (N := 9) rfl ?_); refine box_event ?hg (N := 9) ?hd (cs := #[.int .i64 0, .int .i64 0, .int .i64 0]) (t := 56) ?hr ?_; (case hd => rfl); (case hg => rfl); (case hr => first | (go_simp; done) | (go_simp; rfl)); intro gb171 hg w150 hbox hb; have n0_ := Aside0.mk (blk_below (g := gb166) (o := .cells #[.int .i64 t162, .int .i64 t163, .int .i64 t164] 52 (0, 0)) (by (with_reducible repeat (first | refine blk_drewN ?_ _ | refine blk_drew ?_ | refine blk_alloc ?_ _)); exact BK166.out) hb); have n1_ := Aside0.mk (below_step (by repeat (first | (with_reducible first | exact HB.out | apply below_alloc | apply pw_below_drewN | apply below_drew1 | refine below_set ?_ GE166.out) | exact HB.out)) hb); have n2_ := Aside0.mk (hbox); have n3_ := Aside0.mk ((by rw [hg]; exact (below_size (by repeat (first | (with_reducible first | exact HB.out | apply below_alloc | apply pw_below_drewN | apply below_drew1 | refine below_set ?_ GE166.out) | exact HB.out))) : w.heap.size ≤ gb171)); have n4_ := Aside0.mk ((by rw [hg]; exact (below_size (by repeat (first | (with_reducible first | exact HB.out | apply below_alloc | apply pw_below_drewN | apply below_drew1 | refine below_set ?_ GE166.out) | exact HB.out))) : w.heap.size ≤ gb171)); have n5_ := Aside0.mk ((by rw [hg]; exact Nat.ne_of_lt (blk_lt (g := gb166) (o := .cells #[.int .i64 t162, .int .i64 t163, .int .i64 t164] 52 (0, 0)) (by (with_reducible repeat (first | refine blk_drewN ?_ _ | refine blk_drew ?_ | refine blk_alloc ?_ _)); exact BK166.out)) : gb166 ≠ gb171)); have n6_ := Aside0.mk ((by rw [hg]; exact Nat.ne_of_gt (blk_lt (g := gb166) (o := .cells #[.int .i64 t162, .int .i64 t163, .int .i64 t164] 52 (0, 0)) (by (with_reducible repeat (first | refine blk_drewN ?_ _ | refine blk_drew ?_ | refine blk_alloc ?_ _)); exact BK166.out)) : gb171 ≠ gb166)); clear BK166; clear HB; have BK166 := n0_; have HB := n1_; have BK171 := n2_; have GW171 := n3_; have GE171 := n4_; have NB166_171 := n5_; have NB171_166 := n6_; clear n0_ n1_ n2_ n3_ n4_ n5_ n6_; clear hb hbox hg; have hnb151 := NB171_166.out; have hnc151 := NB166_171.out; have hcz152_0 : w150.cell? ⟨gb171, 0, none⟩ = some (.int .i64 0) := (blk_cell BK171.out 0).trans rfl; have hcz152_1 : w150.cell? ⟨gb171, 1, none⟩ = some (.int .i64 0) := (blk_cell BK171.out 1).trans rfl; have hcz152_2 : w150.cell? ⟨gb171, 2, none⟩ = some (.int .i64 0) := (blk_cell BK171.out 2).trans rfl; have hfz152_0 := blk_frozen BK171.out 0; have hfz152_1 := blk_frozen BK171.out 1; have hfz152_2 := blk_frozen BK171.out 2))
        go_ret
        exact ⟨by first | rfl | (simp [errW_none, errW_some] <;> rfl) | (simp [*, errW_none, errW_some] <;> rfl), by repeat (first | (with_reducible first | exact HB.out | apply below_alloc | apply pw_below_drewN | apply below_drew1 | refine below_set ?_ GE166.out | refine below_set ?_ GE171.out) | exact HB.out)⟩
    · rw [if_neg c8] at H
      have c8b0 : (t165 == t170) = false := beq_eq_false_iff_ne.mpr c8
      have c8b1 : (t165 != t170) = true := bne_iff_ne.mpr c8
      obtain rfl := Option.some.inj H
      go_enter Try.func7, Try.ntmps7
      go_wp2_with (first | ((with_reducible refine gate_callee (f := 21) rfl ?_); refine goesL_ (some 22) rfl rfl Try.func21 (by kernel_rfl) rfl #[] rfl (by (try simp only [List.map_toArray, List.map_cons, List.map_nil]); first | done | rfl | (simp only [List.length_drop, List.length_take]; rfl)) ?_; (with_reducible refine (joustlaw08_fixed.calls k  true _ A4.out).mono ?_); rintro e w153 ⟨rfl, hb⟩; refine ⟨_, rfl, ?_⟩; have n0_ := Aside0.mk (below_step (by repeat (first | (with_reducible first | exact HB.out | apply below_alloc | apply pw_below_drewN | apply below_drew1) | exact HB.out)) hb); clear HB; have HB := n0_; clear n0_; (try clear hb); (try clear hb2); (try clear hk); (try clear hi)) | ((with_reducible refine gate_callee (f := 22) rfl ?_); refine goesL_ (some 27) rfl rfl Try.func22 (by kernel_rfl) rfl #[.int .i64 a0, .int .i64 a1] rfl (by (try simp only [List.map_toArray, List.map_cons, List.map_nil]); first | done | rfl | (simp only [List.length_drop, List.length_take]; rfl)) ?_; (with_reducible refine (bucket_New.calls a0 a1 t162 t163 t164 t165 _ A6.out).mono ?_); rintro e w154 ⟨rfl, hb⟩; refine ⟨_, rfl, ?_⟩; have n0_ := Aside0.mk (below_step (by repeat (first | (with_reducible first | exact HB.out | apply below_alloc | apply pw_below_drewN | apply below_drew1) | exact HB.out)) hb); clear HB; have HB := n0_; clear n0_; (try clear hb); (try clear hb2); (try clear hk); (try clear hi)) | ((with_reducible refine gate_dst (N := 7) rfl ?_); refine box_event ?hg (N := 7) ?hd (cs := #[.int .i64 0, .int .i64 0, .int .i64 0]) (t := 52) ?hr ?_; (case hd => rfl); (case hg => rfl); (case hr => first | (go_simp; done) | (go_simp; rfl)); intro gb166 hg w155 hbox hb; have n0_ := Aside0.mk (below_step (by repeat (first | (with_reducible first | exact HB.out | apply below_alloc | apply pw_below_drewN | apply below_drew1) | exact HB.out)) hb); have n1_ := Aside0.mk (hbox); have n2_ := Aside0.mk ((by rw [hg]; exact (below_size (by repeat (first | (with_reducible first | exact HB.out | apply below_alloc | apply pw_below_drewN | apply below_drew1) | exact HB.out))) : w.heap.size ≤ gb166)); have n3_ := Aside0.mk ((by rw [hg]; exact (below_size (by repeat (first | (with_reducible first | exact HB.out | apply below_alloc | apply pw_below_drewN | apply below_drew1) | exact HB.out))) : w.heap.size ≤ gb166)); clear HB; have HB := n0_; have BK166 := n1_; have GW166 := n2_; have GE166 := n3_; clear n0_ n1_ n2_ n3_; clear hb hbox hg; have hcz156_0 : w155.cell? ⟨gb166, 0, none⟩ = some (.int .i64 0) := (blk_cell BK166.out 0).trans rfl; have hcz156_1 : w155.cell? ⟨gb166, 1, none⟩ = some (.int .i64 0) := (blk_cell BK166.out 1).trans rfl; have hcz156_2 : w155.cell? ⟨gb166, 2, none⟩ = some (.int .i64 0) := (blk_cell BK166.out 2).trans rfl; have hfz156_0 := blk_frozen BK166.out 0; have hfz156_1 := blk_frozen BK166.out 1; have hfz156_2 := blk_frozen BK166.out 2) | ((with_reducible refine gate_callee (f := 23) rfl ?_); refine goesL_ (some 33) rfl rfl Try.func23 (by kernel_rfl) rfl #[.int .i64 a0, .int .i64 a1] rfl (by (try simp only [List.map_toArray, List.map_cons, List.map_nil]); first | done | rfl | (simp only [List.length_drop, List.length_take]; rfl)) ?_; (with_reducible refine (joustref08_New.calls a0 a1 t167 t168 t169 t170 _ A7.out).mono ?_); rintro e w157 ⟨rfl, hb⟩; refine ⟨_, rfl, ?_⟩; have n0_ := Aside0.mk (blk_below (g := gb166) (o := .cells #[.int .i64 t162, .int .i64 t163, .int .i64 t164] 52 (0, 0)) (by (with_reducible repeat (first | refine blk_drewN ?_ _ | refine blk_drew ?_ | refine blk_alloc ?_ _)); refine blk_put (cs := #[.int .i64 t162, .int .i64 t163, .int .i64 0]) ?_ 2 _ rfl; (with_reducible repeat (first | refine blk_drewN ?_ _ | refine blk_drew ?_ | refine blk_alloc ?_ _)); refine blk_put (cs := #[.int .i64 t162, .int .i64 0, .int .i64 0]) ?_ 1 _ rfl; (with_reducible repeat (first | refine blk_drewN ?_ _ | refine blk_drew ?_ | refine blk_alloc ?_ _)); refine blk_put (cs := #[.int .i64 0, .int .i64 0, .int .i64 0]) ?_ 0 _ rfl; (with_reducible repeat (first | refine blk_drewN ?_ _ | refine blk_drew ?_ | refine blk_alloc ?_ _)); exact BK166.out) hb); have n1_ := Aside0.mk (below_step (by repeat (first | (with_reducible first | exact HB.out | apply below_alloc | apply pw_below_drewN | apply below_drew1 | refine below_set ?_ GE166.out) | exact HB.out)) hb); clear BK166; clear HB; have BK166 := n0_; have HB := n1_; clear n0_ n1_; (try clear hb); (try clear hb2); (try clear hk); (try clear hi)) | ((with_reducible refine gate_dst (N := 9) rfl ?_); refine box_event ?hg (N := 9) ?hd (cs := #[.int .i64 0, .int .i64 0, .int .i64 0]) (t := 56) ?hr ?_; (case hd => rfl); (case hg => rfl); (case hr => first | (go_simp; done) | (go_simp; rfl)); intro gb171 hg w158 hbox hb; have n0_ := Aside0.mk (blk_below (g := gb166) (o := .cells #[.int .i64 t162, .int .i64 t163, .int .i64 t164] 52 (0, 0)) (by (with_reducible repeat (first | refine blk_drewN ?_ _ | refine blk_drew ?_ | refine blk_alloc ?_ _)); exact BK166.out) hb); have n1_ := Aside0.mk (below_step (by repeat (first | (with_reducible first | exact HB.out | apply below_alloc | apply pw_below_drewN | apply below_drew1 | refine below_set ?_ GE166.out) | exact HB.out)) hb); have n2_ := Aside0.mk (hbox); have n3_ := Aside0.mk ((by rw [hg]; exact (below_size (by repeat (first | (with_reducible first | exact HB.out | apply below_alloc | apply pw_below_drewN | apply below_drew1 | refine below_set ?_ GE166.out) | exact HB.out))) : w.heap.size ≤ gb171)); have n4_ := Aside0.mk ((by rw [hg]; exact (below_size (by repeat (first | (with_reducible first | exact HB.out | apply below_alloc | apply pw_below_drewN | apply below_drew1 | refine below_set ?_ GE166.out) | exact HB.out))) : w.heap.size ≤ gb171)); have n5_ := Aside0.mk ((by rw [hg]; exact Nat.ne_of_lt (blk_lt (g := gb166) (o := .cells #[.int .i64 t162, .int .i64 t163, .int .i64 t164] 52 (0, 0)) (by (with_reducible repeat (first | refine blk_drewN ?_ _ | refine blk_drew ?_ | refine blk_alloc ?_ _)); exact BK166.out)) : gb166 ≠ gb171)); have n6_ := Aside0.mk ((by rw [hg]; exact Nat.ne_of_gt (blk_lt (g := gb166) (o := .cells #[.int .i64 t162, .int .i64 t163, .int .i64 t164] 52 (0, 0)) (by (with_reducible repeat (first | refine blk_drewN ?_ _ | refine blk_drew ?_ | refine blk_alloc ?_ _)); exact BK166.out)) : gb171 ≠ gb166)); clear BK166; clear HB; have BK166 := n0_; have HB := n1_; have BK171 := n2_; have GW171 := n3_; have GE171 := n4_; have NB166_171 := n5_; have NB171_166 := n6_; clear n0_ n1_ n2_ n3_ n4_ n5_ n6_; clear hb hbox hg; have hnb159 := NB171_166.out; have hnc159 := NB166_171.out; have hcz160_0 : w158.cell? ⟨gb171, 0, none⟩ = some (.int .i64 0) := (blk_cell BK171.out 0).trans rfl; have hcz160_1 : w158.cell? ⟨gb171, 1, none⟩ = some (.int .i64 0) := (blk_cell BK171.out 1).trans rfl; have hcz160_2 : w158.cell? ⟨gb171, 2, none⟩ = some (.int .i64 0) := (blk_cell BK171.out 2).trans rfl; have hfz160_0 := blk_frozen BK171.out 0; have hfz160_1 := blk_frozen BK171.out 1; have hfz160_2 := blk_frozen BK171.out 2))
      go_ret
      exact ⟨by first | rfl | (simp [errW_none, errW_some] <;> rfl) | (simp [*, errW_none, errW_some] <;> rfl), by repeat (first | (with_reducible first | exact HB.out | apply below_alloc | apply pw_below_drewN | apply below_drew1 | refine below_set ?_ GE166.out | refine below_set ?_ GE171.out) | exact HB.out)⟩
  · replace c5 := Bool.eq_false_iff.mpr c5
    subst c5
    have H1 : (some false) = some r := by rw [if_neg (show ¬ (false = true) by decide)] at H; exact H
    clear H
    have H := H1
    clear H1
    obtain rfl := Option.some.inj H
    go_enter Try.func7, Try.ntmps7
    go_wp2_with (first | ((with_reducible refine gate_callee (f := 21) rfl ?_); refine goesL_ (some 22) rfl rfl Try.func21 (by kernel_rfl) rfl #[] rfl (by (try simp only [List.map_toArray, List.map_cons, List.map_nil]); first | done | rfl | (simp only [List.length_drop, List.length_take]; rfl)) ?_; (with_reducible refine (joustlaw08_fixed.calls k  false _ A4.out).mono ?_); rintro e w161 ⟨rfl, hb⟩; refine ⟨_, rfl, ?_⟩; have n0_ := Aside0.mk (below_step (by repeat (first | (with_reducible first | exact HB.out | apply below_alloc | apply pw_below_drewN | apply below_drew1) | exact HB.out)) hb); clear HB; have HB := n0_; clear n0_; (try clear hb); (try clear hb2); (try clear hk); (try clear hi)))
    go_ret
    exact ⟨by first | rfl | (simp [errW_none, errW_some] <;> rfl) | (simp [*, errW_none, errW_some] <;> rfl), by repeat (first | (with_reducible first | exact HB.out | apply below_alloc | apply pw_below_drewN | apply below_drew1) | exact HB.out)⟩

end Go.Proofs.Ytidjnpfpbbffjaa.PBucketPlays
