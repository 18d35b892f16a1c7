-- Printed by a program of this session, a changed copy of the print
import Derived.Test.YtidjnpfpbbffjaaPWindowStepsx0
import Derived.Test.YtidjnpfpbbffjaaPWindowStepsx1
import Derived.Test.YtidjnpfpbbffjaaPWindowStepsx2
import Derived.Test.YtidjnpfpbbffjaaPWindowStepsx3
namespace Go.Proofs.Ytidjnpfpbbffjaa.PWindowSteps
open Go.RowKit Go.Proofs.YtidjnpfpbbffjaaW.PrintWords Go.Proofs.YtidjnpfpbbffjaaW.PrintLast Go.Proofs.YtidjnpfpbbffjaaW.PrintMore
attribute [local go_sem] max2_int min2_int max_two min_two max_three min_three max_four min_four   -- for this text's walks alone
set_option linter.unusedVariables false
set_option linter.unusedSimpArgs false

/-! ### joustlaw09_WindowSteps: function 6 -/
mutual
def joustlaw09_WindowSteps.j0 : Nat → List Int → List Int → Int → Int → Bool → Int → Int → Option (Bool)
  | 0, _, _, _, _, _, _, _ => none
  | k + 1, x3, x4, x5, x6, x34, x147000, x147001 => if x34 = true then (some (decide ((x3.length : Int) > 200))) else (joustlaw09_WindowSteps.l0 k x4 x5 x6 0 x147000 x147001)
def joustlaw09_WindowSteps.l0 : Nat → List Int → Int → Int → Int → Int → Int → Option (Bool)
  | 0, _, _, _, _, _, _ => none
  | k + 1, x4, x5, x6, x8, x147000, x147001 => if x8 < (x4.length : Int) then (if 0 ≤ x8 then ((window_Window_Bits.f x147000 x147001).bind fun t151 => ((window_Window_High.f x147000 x147001).bind fun t152 => ((window_Window_Mark.f k x147000 x147001 (IntKind.u64.wrap (t152 - (Int.tmod (IntKind.u64.wrap (rd x4 x8)) 64)))).bind fun bt153 => ((joustlaw09_num.f bt153.1).bind fun t156 => (if (Int.tmod (IntKind.u64.wrap (rd x4 x8)) 64) ≥ t152 then (if t156 = 90 then (joustlaw09_WindowSteps.j2 k x4 x5 x6 x8 t152 false bt153.2.1 bt153.2.2) else (if t156 = 92 then (joustlaw09_WindowSteps.j2 k x4 x5 x6 x8 t152 false bt153.2.1 bt153.2.2) else (joustlaw09_WindowSteps.j2 k x4 x5 x6 x8 t152 (t156 != 0) bt153.2.1 bt153.2.2))) else (if 0 ≤ (Int.tmod (IntKind.u64.wrap (rd x4 x8)) 64) then (if ((t156 == 0) != ((Go.bits .and .u64 t151 (shl .u64 1 (Int.tmod (IntKind.u64.wrap (rd x4 x8)) 64))) == 0)) = true then (some false) else ((window_Window_Bits.f bt153.2.1 bt153.2.2).bind fun t158 => (if t158 = (Go.bits .or .u64 t151 (shl .u64 1 (Int.tmod (IntKind.u64.wrap (rd x4 x8)) 64))) then ((window_Window_High.f bt153.2.1 bt153.2.2).bind fun t159 => (if t159 = t152 then (joustlaw09_WindowSteps.l0 k x4 x5 x6 (wrap64 (x8 + 1)) bt153.2.1 bt153.2.2) else (some false))) else (some false)))) else (none))))))) else (none)) else ((window_Window_Bits.f x147000 x147001).bind fun t161 => ((window_Window_High.f x147000 x147001).bind fun t162 => (if x6 > t162 then (if (IntKind.u64.wrap (x6 - t162)) > 64 then ((window_Window_Mark.f k x147000 x147001 x6).bind fun bt163 => ((joustlaw09_num.f bt163.1).bind fun t166 => (if t166 = 92 then ((window_Window_Bits.f bt163.2.1 bt163.2.2).bind fun t167 => (if t167 = t161 then ((window_Window_High.f bt163.2.1 bt163.2.2).bind fun t168 => (joustlaw09_WindowSteps.j3 k ((1 + (Int.tmod x5 64)) % 256) t161 t162 (t168 != t162) bt163.2.1 bt163.2.2 x147000 x147001)) else (joustlaw09_WindowSteps.j3 k ((1 + (Int.tmod x5 64)) % 256) t161 t162 true bt163.2.1 bt163.2.2 x147000 x147001))) else (joustlaw09_WindowSteps.j3 k ((1 + (Int.tmod x5 64)) % 256) t161 t162 true bt163.2.1 bt163.2.2 x147000 x147001)))) else (joustlaw09_WindowSteps.j3 k ((1 + (Int.tmod x5 64)) % 256) t161 t162 false x147000 x147001 x147000 x147001)) else (joustlaw09_WindowSteps.j3 k ((1 + (Int.tmod x5 64)) % 256) t161 t162 false x147000 x147001 x147000 x147001))))
def joustlaw09_WindowSteps.j2 : Nat → List Int → Int → Int → Int → Int → Bool → Int → Int → Option (Bool)
  | 0, _, _, _, _, _, _, _, _ => none
  | k + 1, x4, x5, x6, x8, x11, x71, x147000, x147001 => if x71 = true then (some false) else ((window_Window_High.f x147000 x147001).bind fun t157 => (if x11 = t157 then (joustlaw09_WindowSteps.l0 k x4 x5 x6 (wrap64 (x8 + 1)) x147000 x147001) else (some true)))
def joustlaw09_WindowSteps.j3 : Nat → Int → Int → Int → Bool → Int → Int → Int → Int → Option (Bool)
  | 0, _, _, _, _, _, _, _, _ => none
  | k + 1, x14, x15, x16, x134, x147000, x147001, x161000, x161001 => if x134 = true then (some false) else ((window_Window_Mark.f k x147000 x147001 (IntKind.u64.wrap (x16 + x14))).bind fun bt169 => ((joustlaw09_num.f bt169.1).bind fun t172 => (if t172 = 0 then ((window_Window_High.f bt169.2.1 bt169.2.2).bind fun t173 => (if t173 = (IntKind.u64.wrap (x16 + x14)) then ((window_Window_Bits.f bt169.2.1 bt169.2.2).bind fun t174 => (if 0 ≤ x14 then (joustlaw09_WindowSteps.j4 k x14 x15 x16 (t174 != (Go.bits .or .u64 (shl .u64 x15 x14) 1)) bt169.2.1 bt169.2.2 x161000 x161001) else (none))) else (joustlaw09_WindowSteps.j4 k x14 x15 x16 true bt169.2.1 bt169.2.2 x161000 x161001))) else (joustlaw09_WindowSteps.j4 k x14 x15 x16 true bt169.2.1 bt169.2.2 x161000 x161001))))
def joustlaw09_WindowSteps.j4 : Nat → Int → Int → Int → Bool → Int → Int → Int → Int → Option (Bool)
  | 0, _, _, _, _, _, _, _, _ => none
  | k + 1, x14, x15, x16, x157, x147000, x147001, x161000, x161001 => if x157 = true then (some false) else ((window_Window_High.f x161000 x161001).bind fun t175 => (if t175 = x16 then ((window_Window_Bits.f x161000 x161001).bind fun t176 => (if t176 = x15 then ((window_Window_Check.f k x161000 x161001 (IntKind.u64.wrap (x16 + x14))).bind fun t177 => ((joustlaw09_num.f t177).bind fun t178 => (if t178 = 0 then ((window_Window_Check.f k x147000 x147001 (IntKind.u64.wrap (x16 + x14))).bind fun t179 => ((joustlaw09_num.f t179).bind fun t180 => (some (t180 == 91)))) else (some false)))) else (some false))) else (some false)))
end
def joustlaw09_WindowSteps.f (k : Nat) (l0_0 : List Int) (l0_1 : List Int) (a0_2 : Int) (a0_3 : Int) : Option (Bool) := (joustlaw09_alive.f k).bind fun t145 => (if t145 = true then (if (l0_0.length : Int) > 200 then (joustlaw09_WindowSteps.j0 k l0_0 l0_1 a0_2 a0_3 true 0 0) else ((joustlaw09_walk.f k 0 0 l0_0).bind fun bt147 => (joustlaw09_WindowSteps.j0 k l0_0 l0_1 a0_2 a0_3 (!bt147.1) bt147.2.1 bt147.2.2))) else (some false))
theorem joustlaw09_WindowSteps.mono_l : ∀ k, (∀ y0 y1 y2 y3 y4 y5 y6, LeO (joustlaw09_WindowSteps.j0 k y0 y1 y2 y3 y4 y5 y6) (joustlaw09_WindowSteps.j0 (k + 1) y0 y1 y2 y3 y4 y5 y6)) ∧ (∀ y0 y1 y2 y3 y4 y5, LeO (joustlaw09_WindowSteps.l0 k y0 y1 y2 y3 y4 y5) (joustlaw09_WindowSteps.l0 (k + 1) y0 y1 y2 y3 y4 y5)) ∧ (∀ y0 y1 y2 y3 y4 y5 y6 y7, LeO (joustlaw09_WindowSteps.j2 k y0 y1 y2 y3 y4 y5 y6 y7) (joustlaw09_WindowSteps.j2 (k + 1) y0 y1 y2 y3 y4 y5 y6 y7)) ∧ (∀ y0 y1 y2 y3 y4 y5 y6 y7, LeO (joustlaw09_WindowSteps.j3 k y0 y1 y2 y3 y4 y5 y6 y7) (joustlaw09_WindowSteps.j3 (k + 1) y0 y1 y2 y3 y4 y5 y6 y7)) ∧ (∀ y0 y1 y2 y3 y4 y5 y6 y7, LeO (joustlaw09_WindowSteps.j4 k y0 y1 y2 y3 y4 y5 y6 y7) (joustlaw09_WindowSteps.j4 (k + 1) y0 y1 y2 y3 y4 y5 y6 y7))
  | 0 => ⟨fun _ _ _ _ _ _ _ r h => by simp [joustlaw09_WindowSteps.j0] at h, fun _ _ _ _ _ _ r h => by simp [joustlaw09_WindowSteps.l0] at h, fun _ _ _ _ _ _ _ _ r h => by simp [joustlaw09_WindowSteps.j2] at h, fun _ _ _ _ _ _ _ _ r h => by simp [joustlaw09_WindowSteps.j3] at h, fun _ _ _ _ _ _ _ _ r h => by simp [joustlaw09_WindowSteps.j4] at h⟩
  | k + 1 => by
    obtain ⟨ih0, ih1, ih2, ih3, ih4⟩ := joustlaw09_WindowSteps.mono_l k
    refine ⟨?_, ?_, ?_, ?_, ?_⟩
    · intro y0 y1 y2 y3 y4 y5 y6
      unfold joustlaw09_WindowSteps.j0
      repeat' first
      | (with_reducible exact ih0 _ _ _ _ _ _ _)
      | (with_reducible exact ih1 _ _ _ _ _ _)
      | (with_reducible exact ih2 _ _ _ _ _ _ _ _)
      | (with_reducible exact ih3 _ _ _ _ _ _ _ _)
      | (with_reducible exact ih4 _ _ _ _ _ _ _ _)
      | (with_reducible exact joustlaw09_alive.mono _)
      | (with_reducible exact joustlaw09_walk.mono _ _ _ _)
      | (with_reducible exact window_Window_Check.mono _ _ _ _)
      | (with_reducible exact window_Window_Mark.mono _ _ _ _)
      | (with_reducible exact LeO.refl _)
      | (with_reducible exact LeO.none _)
      | (with_reducible refine LeO.ite ?_ ?_)
      | (with_reducible refine LeO.bind ?_ (fun _ => ?_))
      | exact ih0 _ _ _ _ _ _ _
      | exact ih1 _ _ _ _ _ _
      | exact ih2 _ _ _ _ _ _ _ _
      | exact ih3 _ _ _ _ _ _ _ _
      | exact ih4 _ _ _ _ _ _ _ _
      | exact joustlaw09_alive.mono _
      | exact joustlaw09_walk.mono _ _ _ _
      | exact window_Window_Check.mono _ _ _ _
      | exact window_Window_Mark.mono _ _ _ _
      | exact LeO.none _
      | refine LeO.ite ?_ ?_
      | refine LeO.bind ?_ (fun _ => ?_)
    · intro y0 y1 y2 y3 y4 y5
      unfold joustlaw09_WindowSteps.l0
      repeat' first
      | (with_reducible exact ih0 _ _ _ _ _ _ _)
      | (with_reducible exact ih1 _ _ _ _ _ _)
      | (with_reducible exact ih2 _ _ _ _ _ _ _ _)
      | (with_reducible exact ih3 _ _ _ _ _ _ _ _)
      | (with_reducible exact ih4 _ _ _ _ _ _ _ _)
      | (with_reducible exact joustlaw09_alive.mono _)
      | (with_reducible exact joustlaw09_walk.mono _ _ _ _)
      | (with_reducible exact window_Window_Check.mono _ _ _ _)
      | (with_reducible exact window_Window_Mark.mono _ _ _ _)
      | (with_reducible exact LeO.refl _)
      | (with_reducible exact LeO.none _)
      | (with_reducible refine LeO.ite ?_ ?_)
      | (with_reducible refine LeO.bind ?_ (fun _ => ?_))
      | exact ih0 _ _ _ _ _ _ _
      | exact ih1 _ _ _ _ _ _
      | exact ih2 _ _ _ _ _ _ _ _
      | exact ih3 _ _ _ _ _ _ _ _
      | exact ih4 _ _ _ _ _ _ _ _
      | exact joustlaw09_alive.mono _
      | exact joustlaw09_walk.mono _ _ _ _
      | exact window_Window_Check.mono _ _ _ _
      | exact window_Window_Mark.mono _ _ _ _
      | exact LeO.none _
      | refine LeO.ite ?_ ?_
      | refine LeO.bind ?_ (fun _ => ?_)
    · intro y0 y1 y2 y3 y4 y5 y6 y7
      unfold joustlaw09_WindowSteps.j2
      repeat' first
      | (with_reducible exact ih0 _ _ _ _ _ _ _)
      | (with_reducible exact ih1 _ _ _ _ _ _)
      | (with_reducible exact ih2 _ _ _ _ _ _ _ _)
      | (with_reducible exact ih3 _ _ _ _ _ _ _ _)
      | (with_reducible exact ih4 _ _ _ _ _ _ _ _)
      | (with_reducible exact joustlaw09_alive.mono _)
      | (with_reducible exact joustlaw09_walk.mono _ _ _ _)
      | (with_reducible exact window_Window_Check.mono _ _ _ _)
      | (with_reducible exact window_Window_Mark.mono _ _ _ _)
      | (with_reducible exact LeO.refl _)
      | (with_reducible exact LeO.none _)
      | (with_reducible refine LeO.ite ?_ ?_)
      | (with_reducible refine LeO.bind ?_ (fun _ => ?_))
      | exact ih0 _ _ _ _ _ _ _
      | exact ih1 _ _ _ _ _ _
      | exact ih2 _ _ _ _ _ _ _ _
      | exact ih3 _ _ _ _ _ _ _ _
      | exact ih4 _ _ _ _ _ _ _ _
      | exact joustlaw09_alive.mono _
      | exact joustlaw09_walk.mono _ _ _ _
      | exact window_Window_Check.mono _ _ _ _
      | exact window_Window_Mark.mono _ _ _ _
      | exact LeO.none _
      | refine LeO.ite ?_ ?_
      | refine LeO.bind ?_ (fun _ => ?_)
    · intro y0 y1 y2 y3 y4 y5 y6 y7
      unfold joustlaw09_WindowSteps.j3
      repeat' first
      | (with_reducible exact ih0 _ _ _ _ _ _ _)
      | (with_reducible exact ih1 _ _ _ _ _ _)
      | (with_reducible exact ih2 _ _ _ _ _ _ _ _)
      | (with_reducible exact ih3 _ _ _ _ _ _ _ _)
      | (with_reducible exact ih4 _ _ _ _ _ _ _ _)
      | (with_reducible exact joustlaw09_alive.mono _)
      | (with_reducible exact joustlaw09_walk.mono _ _ _ _)
      | (with_reducible exact window_Window_Check.mono _ _ _ _)
      | (with_reducible exact window_Window_Mark.mono _ _ _ _)
      | (with_reducible exact LeO.refl _)
      | (with_reducible exact LeO.none _)
      | (with_reducible refine LeO.ite ?_ ?_)
      | (with_reducible refine LeO.bind ?_ (fun _ => ?_))
      | exact ih0 _ _ _ _ _ _ _
      | exact ih1 _ _ _ _ _ _
      | exact ih2 _ _ _ _ _ _ _ _
      | exact ih3 _ _ _ _ _ _ _ _
      | exact ih4 _ _ _ _ _ _ _ _
      | exact joustlaw09_alive.mono _
      | exact joustlaw09_walk.mono _ _ _ _
      | exact window_Window_Check.mono _ _ _ _
      | exact window_Window_Mark.mono _ _ _ _
      | exact LeO.none _
      | refine LeO.ite ?_ ?_
      | refine LeO.bind ?_ (fun _ => ?_)
    · intro y0 y1 y2 y3 y4 y5 y6 y7
      unfold joustlaw09_WindowSteps.j4
      repeat' first
      | (with_reducible exact ih0 _ _ _ _ _ _ _)
      | (with_reducible exact ih1 _ _ _ _ _ _)
      | (with_reducible exact ih2 _ _ _ _ _ _ _ _)
      | (with_reducible exact ih3 _ _ _ _ _ _ _ _)
      | (with_reducible exact ih4 _ _ _ _ _ _ _ _)
      | (with_reducible exact joustlaw09_alive.mono _)
      | (with_reducible exact joustlaw09_walk.mono _ _ _ _)
      | (with_reducible exact window_Window_Check.mono _ _ _ _)
      | (with_reducible exact window_Window_Mark.mono _ _ _ _)
      | (with_reducible exact LeO.refl _)
      | (with_reducible exact LeO.none _)
      | (with_reducible refine LeO.ite ?_ ?_)
      | (with_reducible refine LeO.bind ?_ (fun _ => ?_))
      | exact ih0 _ _ _ _ _ _ _
      | exact ih1 _ _ _ _ _ _
      | exact ih2 _ _ _ _ _ _ _ _
      | exact ih3 _ _ _ _ _ _ _ _
      | exact ih4 _ _ _ _ _ _ _ _
      | exact joustlaw09_alive.mono _
      | exact joustlaw09_walk.mono _ _ _ _
      | exact window_Window_Check.mono _ _ _ _
      | exact window_Window_Mark.mono _ _ _ _
      | exact LeO.none _
      | refine LeO.ite ?_ ?_
      | refine LeO.bind ?_ (fun _ => ?_)
theorem joustlaw09_WindowSteps.mono : ∀ a0 a1 a2 a3 k, LeO (joustlaw09_WindowSteps.f k a0 a1 a2 a3) (joustlaw09_WindowSteps.f (k + 1) a0 a1 a2 a3) := by
  intro a0 a1 a2 a3 k
  obtain ⟨ih0, ih1, ih2, ih3, ih4⟩ := joustlaw09_WindowSteps.mono_l k
  unfold joustlaw09_WindowSteps.f
  repeat' first
      | (with_reducible exact ih0 _ _ _ _ _ _ _)
      | (with_reducible exact ih1 _ _ _ _ _ _)
      | (with_reducible exact ih2 _ _ _ _ _ _ _ _)
      | (with_reducible exact ih3 _ _ _ _ _ _ _ _)
      | (with_reducible exact ih4 _ _ _ _ _ _ _ _)
      | (with_reducible exact joustlaw09_alive.mono _)
      | (with_reducible exact joustlaw09_walk.mono _ _ _ _)
      | (with_reducible exact window_Window_Check.mono _ _ _ _)
      | (with_reducible exact window_Window_Mark.mono _ _ _ _)
      | (with_reducible exact LeO.refl _)
      | (with_reducible exact LeO.none _)
      | (with_reducible refine LeO.ite ?_ ?_)
      | (with_reducible refine LeO.bind ?_ (fun _ => ?_))
      | exact ih0 _ _ _ _ _ _ _
      | exact ih1 _ _ _ _ _ _
      | exact ih2 _ _ _ _ _ _ _ _
      | exact ih3 _ _ _ _ _ _ _ _
      | exact ih4 _ _ _ _ _ _ _ _
      | exact joustlaw09_alive.mono _
      | exact joustlaw09_walk.mono _ _ _ _
      | exact window_Window_Check.mono _ _ _ _
      | exact window_Window_Mark.mono _ _ _ _
      | exact LeO.none _
      | refine LeO.ite ?_ ?_
      | refine LeO.bind ?_ (fun _ => ?_)
set_option maxHeartbeats 8000000 in
set_option maxRecDepth 100000 in
theorem joustlaw09_WindowSteps.calls (k : Nat) (A0_0 : Option Addr) (c0_0 : Nat) (l0_0 : List Int) (A0_1 : Option Addr) (c0_1 : Nat) (l0_1 : List Int) (a0_2 : Int) (a0_3 : Int) (r : Bool) (w : World) (hr0_0 : Kd.C (Kd.int .u8) w A0_0 l0_0.length l0_0) (hc0_0 : l0_0.length ≤ c0_0) (hr0_1 : Kd.C (Kd.int .u8) w A0_1 l0_1.length l0_1) (hc0_1 : l0_1.length ≤ c0_1) (h : joustlaw09_WindowSteps.f k l0_0 l0_1 a0_2 a0_3 = some r) :
    Calls Try.prog 6 #[.agg #[.slice A0_0 l0_0.length c0_0, .slice A0_1 l0_1.length c0_1, .int .u8 a0_2, .int .u64 a0_3]] w fun e w' => e = .returned (.bool r) ∧ Below w.heap.size w w' := by
  have hu48 := Try.underlying48
  have hu26 := Try.underlying26
  have HR0_0 := Aside0.mk hr0_0
  have HC0_0 := Aside0.mk hc0_0
  clear hr0_0 hc0_0
  have HR0_1 := Aside0.mk hr0_1
  have HC0_1 := Aside0.mk hc0_1
  clear hr0_1 hc0_1
  have HB := Aside0.mk (Below.refl w.heap.size w)
  have H : ((joustlaw09_alive.f k).bind fun t145 => (if t145 = true then (if (l0_0.length : Int) > 200 then (joustlaw09_WindowSteps.j0 k l0_0 l0_1 a0_2 a0_3 true 0 0) else ((joustlaw09_walk.f k 0 0 l0_0).bind fun bt147 => (joustlaw09_WindowSteps.j0 k l0_0 l0_1 a0_2 a0_3 (!bt147.1) bt147.2.1 bt147.2.2))) else (some false))) = some r := h
  clear h
  replace H := Option.bind_eq_some_iff.mp H
  obtain ⟨t145, A20, H⟩ := H
  replace H : (if t145 = true then (if (l0_0.length : Int) > 200 then (joustlaw09_WindowSteps.j0 k l0_0 l0_1 a0_2 a0_3 true 0 0) else ((joustlaw09_walk.f k 0 0 l0_0).bind fun bt147 => (joustlaw09_WindowSteps.j0 k l0_0 l0_1 a0_2 a0_3 (!bt147.1) bt147.2.1 bt147.2.2))) else (some false)) = some r := H
  have A2 := Aside0.mk A20
  clear A20
  by_cases c3 : t145 = true
  · subst c3
    have H1 : (if (l0_0.length : Int) > 200 then (joustlaw09_WindowSteps.j0 k l0_0 l0_1 a0_2 a0_3 true 0 0) else ((joustlaw09_walk.f k 0 0 l0_0).bind fun bt147 => (joustlaw09_WindowSteps.j0 k l0_0 l0_1 a0_2 a0_3 (!bt147.1) bt147.2.1 bt147.2.2))) = some r := by rw [if_pos rfl] at H; exact H
    clear H
    have H := H1
    clear H1
    have HC4 := Aside0.mk H
    clear H
    go_enter Try.func6, Try.ntmps6
    go_upto_region 8 with (first | ((with_reducible refine gate_dst (N := 1) rfl ?_); refine box_event ?hg (N := 1) ?hd (cs := #[.slice A0_0 l0_0.length c0_0, .slice A0_1 l0_1.length c0_1, .int .u8 a0_2, .int .u64 a0_3]) (t := 48) ?hr ?_; (case hd => rfl); (case hg => rfl); (case hr => first | (go_simp; done) | (go_simp; rfl)); intro gb144 hg w5 hbox hb; have n0_ := Aside0.mk (below_step (by repeat (first | (with_reducible first | exact HB.out | apply below_alloc | apply pw_below_drewN | apply below_drew1) | exact HB.out)) hb); have n1_ := Aside0.mk (hbox); have n2_ := Aside0.mk ((by rw [hg]; exact (below_size (by repeat (first | (with_reducible first | exact HB.out | apply below_alloc | apply pw_below_drewN | apply below_drew1) | exact HB.out))) : w.heap.size ≤ gb144)); have n3_ := Aside0.mk ((by rw [hg]; exact (below_size (by repeat (first | (with_reducible first | exact HB.out | apply below_alloc | apply pw_below_drewN | apply below_drew1) | exact HB.out))) : w.heap.size ≤ gb144)); clear HB; have HB := n0_; have BK144 := n1_; have GW144 := n2_; have GE144 := n3_; clear n0_ n1_ n2_ n3_; clear hb hbox hg) | ((with_reducible refine gate_callee (f := 11) rfl ?_); refine goesL_ (some 17) rfl rfl Try.func11 (by kernel_rfl) rfl #[] rfl (by (try simp only [List.map_toArray, List.map_cons, List.map_nil]); first | done | rfl | (simp only [List.length_drop, List.length_take]; rfl)) ?_; (with_reducible refine (joustlaw09_alive.calls k  true _ A2.out).mono ?_); rintro e w6 ⟨rfl, hb⟩; refine ⟨_, rfl, ?_⟩; have n0_ := Aside0.mk (blk_below (g := gb144) (o := .cells #[.slice A0_0 l0_0.length c0_0, .slice A0_1 l0_1.length c0_1, .int .u8 a0_2, .int .u64 a0_3] 48 (0, 0)) (by (with_reducible repeat (first | refine blk_drewN ?_ _ | refine blk_drew ?_ | refine blk_alloc ?_ _)); exact BK144.out) hb); have n1_ := Aside0.mk (below_step (by repeat (first | (with_reducible first | exact HB.out | apply below_alloc | apply pw_below_drewN | apply below_drew1 | refine below_set ?_ GE144.out) | exact HB.out)) hb); clear BK144; clear HB; have BK144 := n0_; have HB := n1_; clear n0_ n1_; (try clear hb); (try clear hb2); (try clear hk); (try clear hi); have hcz7_0 : w6.cell? ⟨gb144, 0, none⟩ = some (.slice A0_0 l0_0.length c0_0) := (blk_cell BK144.out 0).trans rfl; have hcz7_1 : w6.cell? ⟨gb144, 1, none⟩ = some (.slice A0_1 l0_1.length c0_1) := (blk_cell BK144.out 1).trans rfl; have hcz7_2 : w6.cell? ⟨gb144, 2, none⟩ = some (.int .u8 a0_2) := (blk_cell BK144.out 2).trans rfl; have hcz7_3 : w6.cell? ⟨gb144, 3, none⟩ = some (.int .u64 a0_3) := (blk_cell BK144.out 3).trans rfl; have hfz7_0 := blk_frozen BK144.out 0; have hfz7_1 := blk_frozen BK144.out 1; have hfz7_2 := blk_frozen BK144.out 2; have hfz7_3 := blk_frozen BK144.out 3) | ((with_reducible refine gate_dst (N := 7) rfl ?_); refine box_event ?hg (N := 7) ?hd (cs := #[.int .u64 0, .int .u64 0]) (t := 26) ?hr ?_; (case hd => rfl); (case hg => rfl); (case hr => first | (go_simp; done) | (go_simp; rfl)); intro gb146 hg w8 hbox hb; have n0_ := Aside0.mk (blk_below (g := gb144) (o := .cells #[.slice A0_0 l0_0.length c0_0, .slice A0_1 l0_1.length c0_1, .int .u8 a0_2, .int .u64 a0_3] 48 (0, 0)) (by (with_reducible repeat (first | refine blk_drewN ?_ _ | refine blk_drew ?_ | refine blk_alloc ?_ _)); exact BK144.out) hb); have n1_ := Aside0.mk (below_step (by repeat (first | (with_reducible first | exact HB.out | apply below_alloc | apply pw_below_drewN | apply below_drew1 | refine below_set ?_ GE144.out) | exact HB.out)) hb); have n2_ := Aside0.mk (hbox); have n3_ := Aside0.mk ((by rw [hg]; exact (below_size (by repeat (first | (with_reducible first | exact HB.out | apply below_alloc | apply pw_below_drewN | apply below_drew1 | refine below_set ?_ GE144.out) | exact HB.out))) : w.heap.size ≤ gb146)); have n4_ := Aside0.mk ((by rw [hg]; exact (below_size (by repeat (first | (with_reducible first | exact HB.out | apply below_alloc | apply pw_below_drewN | apply below_drew1 | refine below_set ?_ GE144.out) | exact HB.out))) : w.heap.size ≤ gb146)); have n5_ := Aside0.mk ((by rw [hg]; exact Nat.ne_of_lt (blk_lt (g := gb144) (o := .cells #[.slice A0_0 l0_0.length c0_0, .slice A0_1 l0_1.length c0_1, .int .u8 a0_2, .int .u64 a0_3] 48 (0, 0)) (by (with_reducible repeat (first | refine blk_drewN ?_ _ | refine blk_drew ?_ | refine blk_alloc ?_ _)); exact BK144.out)) : gb144 ≠ gb146)); have n6_ := Aside0.mk ((by rw [hg]; exact Nat.ne_of_gt (blk_lt (g := gb144) (o := .cells #[.slice A0_0 l0_0.length c0_0, .slice A0_1 l0_1.length c0_1, .int .u8 a0_2, .int .u64 a0_3] 48 (0, 0)) (by (with_reducible repeat (first | refine blk_drewN ?_ _ | refine blk_drew ?_ | refine blk_alloc ?_ _)); exact BK144.out)) : gb146 ≠ gb144)); clear BK144; clear HB; have BK144 := n0_; have HB := n1_; have BK146 := n2_; have GW146 := n3_; have GE146 := n4_; have NB144_146 := n5_; have NB146_144 := n6_; clear n0_ n1_ n2_ n3_ n4_ n5_ n6_; clear hb hbox hg))
    (try simp only [Act.put, List.setIfInBounds_toArray, List.set_cons_zero, List.set_cons_succ])
    go_cut [34] (fun v34 wc => ∃ (kq : Nat) (x34_3 : Bool) (x147000_3 : Int) (x147001_3 : Int), v34 = .bool x34_3 ∧ Aside0 (joustlaw09_WindowSteps.j0 kq l0_0 l0_1 a0_2 a0_3 x34_3 x147000_3 x147001_3 = some r) ∧ Aside0 (kq ≤ k) ∧ Aside0 (wc.heap[gb144]? = some (.cells #[(.slice A0_0 l0_0.length c0_0), (.slice A0_1 l0_1.length c0_1), .int .u8 a0_2, .int .u64 a0_3] 48 (0, 0))) ∧ Aside0 (wc.heap[gb146]? = some (.cells #[.int .u64 x147000_3, .int .u64 x147001_3] 26 (0, 0))) ∧ Aside0 (Below w.heap.size w wc))
    case first => as_aux_lemma =>
      have H := HC4.out
      clear HC4
      by_cases c9 : (l0_0.length : Int) > 200
      · rw [if_pos c9] at H
        have c9b0 : decide (200 < (l0_0.length : Int)) = true := decide_eq_true c9
        have c9b1 : decide (200 < l0_0.length) = true := decide_eq_true (by omega)
        clear c9
        (first | rw [c9b0] | (simp only [i64_w, i32_w]; rw [c9b0]) | skip)
        have H' := Aside0.mk H
        clear H
        go_wp2
        go_meet
        case rel => exact ⟨_, (true), (0), (0), (by first | rfl | (simp; done) | (simp [*]; done)), H', ⟨by first | omega | exact Nat.le_refl _⟩, ⟨by (with_reducible repeat (first | refine blk_drewN ?_ _ | refine blk_drew ?_ | refine blk_alloc ?_ _)); exact BK144.out⟩, ⟨by (with_reducible repeat (first | refine blk_drewN ?_ _ | refine blk_drew ?_ | refine blk_alloc ?_ _)); exact BK146.out⟩, ⟨by repeat (first | (with_reducible first | exact HB.out | apply below_alloc | apply pw_below_drewN | apply below_drew1 | refine below_set ?_ GE144.out | refine below_set ?_ GE146.out) | exact HB.out)⟩⟩
      · rw [if_neg c9] at H
        have c9b0 : decide (200 < (l0_0.length : Int)) = false := decide_eq_false c9
        have c9b1 : decide (200 < l0_0.length) = false := decide_eq_false (by omega)
        clear c9
        (first | rw [c9b0] | (simp only [i64_w, i32_w]; rw [c9b0]) | skip)
        replace H := Option.bind_eq_some_iff.mp H
        obtain ⟨⟨t147, t148, t149⟩, A100, H⟩ := H
        replace H : (joustlaw09_WindowSteps.j0 k l0_0 l0_1 a0_2 a0_3 (!t147) t148 t149) = some r := H
        have A10 := Aside0.mk A100
        clear A100
        have H' := Aside0.mk H
        clear H
        go_wp2_with (first | (go_at_call 19; (with_reducible refine (joustlaw09_walk.calls k gb146 0 0 _ _ l0_0 t147 t148 t149 w _ ?side1 ?side2 ?side3 ?side4 ?side5 A10.out).mono ?_); (case side1 => repeat (first | (with_reducible first | exact (Aside0.mk (IsS26.mk_ BK146.out GE146.out)).out | apply IsS26.alloc | apply IsS26.drewN | apply IsS26.drew | apply IsS26.set_0 | apply IsS26.set_1 | refine IsS26.far ?_ NB146_144.out _) | exact (Aside0.mk (IsS26.mk_ BK146.out GE146.out)).out)); (case side2 => repeat (first | (with_reducible first | exact HB.out | apply below_alloc | apply pw_below_drewN | apply below_drew1 | refine below_set ?_ (IsS26.ge (Aside0.mk (IsS26.mk_ BK146.out GE146.out)).out) | refine below_set ?_ GE144.out) | exact HB.out)); (case side3 => repeat (first | exact (Kd.C_below HR0_0.out HB.out) | (with_reducible refine Kd.C_alloc ?_ _) | (with_reducible refine Kd.C_drewN ?_ _) | (with_reducible refine Kd.C_drew ?_))); (case side4 => exact HC0_0.out); (case side5 => exact Kd.far_C 0 HR0_0.out (IsS26.ge (Aside0.mk (IsS26.mk_ BK146.out GE146.out)).out)); rintro e w11 ⟨rfl, hi, hb, hk⟩; have n0_ := Aside0.mk (KeepBut.blk hk (g' := gb144) (o := .cells #[.slice A0_0 l0_0.length c0_0, .slice A0_1 l0_1.length c0_1, .int .u8 a0_2, .int .u64 a0_3] 48 (0, 0)) (by (with_reducible repeat (first | refine blk_drewN ?_ _ | refine blk_drew ?_ | refine blk_alloc ?_ _)); exact BK144.out) NB144_146.out (by simp)); have n1_ := Aside0.mk (hb); have n2_ := Aside0.mk (hi.1); clear BK144; clear HB; clear BK146; have BK144 := n0_; have HB := n1_; have BK146 := n2_; clear n0_ n1_ n2_; (try clear hb); (try clear hb2); (try clear hk); (try clear hi)))
        go_meet
        case rel => exact ⟨_, (!t147), (t148), (t149), (by first | rfl | (simp; done) | (simp [*]; done)), H', ⟨by first | omega | exact Nat.le_refl _⟩, ⟨by (with_reducible repeat (first | refine blk_drewN ?_ _ | refine blk_drew ?_ | refine blk_alloc ?_ _)); exact BK144.out⟩, ⟨by (with_reducible repeat (first | refine blk_drewN ?_ _ | refine blk_drew ?_ | refine blk_alloc ?_ _)); exact BK146.out⟩, ⟨by repeat (first | (with_reducible first | exact HB.out | apply below_alloc | apply pw_below_drewN | apply below_drew1 | refine below_set ?_ GE144.out | refine below_set ?_ GE146.out) | exact HB.out)⟩⟩
    case rest => as_aux_lemma =>
      clear HC4
      try clear c1
      try clear p2
      try clear c3
      try clear c6
      try clear c9
      try clear c9b0
      try clear c9b1
      try clear c11
      try clear hcz7_0
      try clear hcz7_1
      try clear hcz7_2
      try clear hcz7_3
      try clear hfz7_0
      try clear hfz7_1
      try clear hfz7_2
      try clear hfz7_3
      obtain ⟨kq, x34_3, x147000_3, x147001_3, rfl, HA, HJ3, BK144, BK146, HB⟩ := hcut
      cases kq with
      | zero => exact absurd HA.out (by simp [joustlaw09_WindowSteps.j0])
      | succ kj3 =>
        have H := HA.out
        clear HA
        simp only [joustlaw09_WindowSteps.j0] at H
        by_cases c12 : x34_3 = true
        · subst c12
          have H1 : (some (decide ((l0_0.length : Int) > 200))) = some r := by rw [if_pos rfl] at H; exact H
          clear H
          have H := H1
          clear H1
          obtain rfl := Option.some.inj H
          go_wp2
          go_ret
          exact ⟨by first | rfl | (simp [errW_none, errW_some] <;> rfl) | (simp [*, errW_none, errW_some] <;> rfl), by repeat (first | (with_reducible first | exact HB.out | apply below_alloc | apply pw_below_drewN | apply below_drew1 | refine below_set ?_ GE144.out | refine below_set ?_ GE146.out) | exact HB.out)⟩
        · replace c12 := Bool.eq_false_iff.mpr c12
          subst c12
          have H1 : (joustlaw09_WindowSteps.l0 kj3 l0_1 a0_2 a0_3 0 x147000_3 x147001_3) = some r := by rw [if_neg (show ¬ (false = true) by decide)] at H; exact H
          clear H
          have H := H1
          clear H1
          have H' := Aside0.mk H
          clear H
          go_wp2
          go_loopg [8] kj3 (fun kq v8 w' => ∃ (x8_2 : Int) (x147000_2 : Int) (x147001_2 : Int), v8 = .int .i64 x8_2 ∧ Aside0 (joustlaw09_WindowSteps.l0 kq l0_1 a0_2 a0_3 x8_2 x147000_2 x147001_2 = some r) ∧ Aside0 (kq ≤ kj3) ∧ Aside0 (w'.heap[gb144]? = some (.cells #[(.slice A0_0 l0_0.length c0_0), (.slice A0_1 l0_1.length c0_1), .int .u8 a0_2, .int .u64 a0_3] 48 (0, 0))) ∧ Aside0 (w'.heap[gb146]? = some (.cells #[.int .u64 x147000_2, .int .u64 x147001_2] 26 (0, 0))) ∧ Aside0 (Below w.heap.size w w'))
          case atStart => exact ⟨(0), (x147000_3), (x147001_3), (by first | rfl | (simp; done) | (simp [*]; done)), H', ⟨Nat.le_refl _⟩, ⟨by (with_reducible repeat (first | refine blk_drewN ?_ _ | refine blk_drew ?_ | refine blk_alloc ?_ _)); exact BK144.out⟩, ⟨by (with_reducible repeat (first | refine blk_drewN ?_ _ | refine blk_drew ?_ | refine blk_alloc ?_ _)); exact BK146.out⟩, ⟨by repeat (first | (with_reducible first | exact HB.out | apply below_alloc | apply pw_below_drewN | apply below_drew1 | refine below_set ?_ GE144.out | refine below_set ?_ GE146.out) | exact HB.out)⟩⟩
          case round => as_aux_lemma =>
            clear H'
            try clear c1
            try clear p2
            try clear c3
            try clear c6
            try clear c9
            try clear c9b0
            try clear c9b1
            try clear c11
            try clear c12
            try clear hcz7_0
            try clear hcz7_1
            try clear hcz7_2
            try clear hcz7_3
            try clear hfz7_0
            try clear hfz7_1
            try clear hfz7_2
            try clear hfz7_3
            try clear p2
            obtain ⟨x8_2, x147000_2, x147001_2, rfl, HA, HK2, BK144, BK146, HB⟩ := hrel
            cases gk with
            | zero => exact absurd HA.out (by simp [joustlaw09_WindowSteps.l0])
            | succ k2 =>
              have H := HA.out
              clear HA
              simp only [joustlaw09_WindowSteps.l0] at H
              by_cases c13 : x8_2 < (l0_1.length : Int)
              · rw [if_pos c13] at H
                have c13b0 : decide (x8_2 < (l0_1.length : Int)) = true := decide_eq_true c13
                clear c13
                by_cases c14 : 0 ≤ x8_2
                · rw [if_pos c14] at H
                  have c14b0 : decide (0 ≤ x8_2) = true := decide_eq_true c14
                  clear c14
                  replace H := Option.bind_eq_some_iff.mp H
                  obtain ⟨t151, A150, H⟩ := H
                  replace H : ((window_Window_High.f x147000_2 x147001_2).bind fun t152 => ((window_Window_Mark.f k2 x147000_2 x147001_2 (IntKind.u64.wrap (t152 - (Int.tmod (IntKind.u64.wrap (rd l0_1 x8_2)) 64)))).bind fun bt153 => ((joustlaw09_num.f bt153.1).bind fun t156 => (if (Int.tmod (IntKind.u64.wrap (rd l0_1 x8_2)) 64) ≥ t152 then (if t156 = 90 then (joustlaw09_WindowSteps.j2 k2 l0_1 a0_2 a0_3 x8_2 t152 false bt153.2.1 bt153.2.2) else (if t156 = 92 then (joustlaw09_WindowSteps.j2 k2 l0_1 a0_2 a0_3 x8_2 t152 false bt153.2.1 bt153.2.2) else (joustlaw09_WindowSteps.j2 k2 l0_1 a0_2 a0_3 x8_2 t152 (t156 != 0) bt153.2.1 bt153.2.2))) else (if 0 ≤ (Int.tmod (IntKind.u64.wrap (rd l0_1 x8_2)) 64) then (if ((t156 == 0) != ((Go.bits .and .u64 t151 (shl .u64 1 (Int.tmod (IntKind.u64.wrap (rd l0_1 x8_2)) 64))) == 0)) = true then (some false) else ((window_Window_Bits.f bt153.2.1 bt153.2.2).bind fun t158 => (if t158 = (Go.bits .or .u64 t151 (shl .u64 1 (Int.tmod (IntKind.u64.wrap (rd l0_1 x8_2)) 64))) then ((window_Window_High.f bt153.2.1 bt153.2.2).bind fun t159 => (if t159 = t152 then (joustlaw09_WindowSteps.l0 k2 l0_1 a0_2 a0_3 (wrap64 (x8_2 + 1)) bt153.2.1 bt153.2.2) else (some false))) else (some false)))) else (none)))))) = some r := H
                  have A15 := Aside0.mk A150
                  clear A150
                  replace H := Option.bind_eq_some_iff.mp H
                  obtain ⟨t152, A160, H⟩ := H
                  replace H : ((window_Window_Mark.f k2 x147000_2 x147001_2 (IntKind.u64.wrap (t152 - (Int.tmod (IntKind.u64.wrap (rd l0_1 x8_2)) 64)))).bind fun bt153 => ((joustlaw09_num.f bt153.1).bind fun t156 => (if (Int.tmod (IntKind.u64.wrap (rd l0_1 x8_2)) 64) ≥ t152 then (if t156 = 90 then (joustlaw09_WindowSteps.j2 k2 l0_1 a0_2 a0_3 x8_2 t152 false bt153.2.1 bt153.2.2) else (if t156 = 92 then (joustlaw09_WindowSteps.j2 k2 l0_1 a0_2 a0_3 x8_2 t152 false bt153.2.1 bt153.2.2) else (joustlaw09_WindowSteps.j2 k2 l0_1 a0_2 a0_3 x8_2 t152 (t156 != 0) bt153.2.1 bt153.2.2))) else (if 0 ≤ (Int.tmod (IntKind.u64.wrap (rd l0_1 x8_2)) 64) then (if ((t156 == 0) != ((Go.bits .and .u64 t151 (shl .u64 1 (Int.tmod (IntKind.u64.wrap (rd l0_1 x8_2)) 64))) == 0)) = true then (some false) else ((window_Window_Bits.f bt153.2.1 bt153.2.2).bind fun t158 => (if t158 = (Go.bits .or .u64 t151 (shl .u64 1 (Int.tmod (IntKind.u64.wrap (rd l0_1 x8_2)) 64))) then ((window_Window_High.f bt153.2.1 bt153.2.2).bind fun t159 => (if t159 = t152 then (joustlaw09_WindowSteps.l0 k2 l0_1 a0_2 a0_3 (wrap64 (x8_2 + 1)) bt153.2.1 bt153.2.2) else (some false))) else (some false)))) else (none))))) = some r := H
                  have A16 := Aside0.mk A160
                  clear A160
                  replace H := Option.bind_eq_some_iff.mp H
                  obtain ⟨⟨t153, t154, t155⟩, A170, H⟩ := H
                  replace H : ((joustlaw09_num.f t153).bind fun t156 => (if (Int.tmod (IntKind.u64.wrap (rd l0_1 x8_2)) 64) ≥ t152 then (if t156 = 90 then (joustlaw09_WindowSteps.j2 k2 l0_1 a0_2 a0_3 x8_2 t152 false t154 t155) else (if t156 = 92 then (joustlaw09_WindowSteps.j2 k2 l0_1 a0_2 a0_3 x8_2 t152 false t154 t155) else (joustlaw09_WindowSteps.j2 k2 l0_1 a0_2 a0_3 x8_2 t152 (t156 != 0) t154 t155))) else (if 0 ≤ (Int.tmod (IntKind.u64.wrap (rd l0_1 x8_2)) 64) then (if ((t156 == 0) != ((Go.bits .and .u64 t151 (shl .u64 1 (Int.tmod (IntKind.u64.wrap (rd l0_1 x8_2)) 64))) == 0)) = true then (some false) else ((window_Window_Bits.f t154 t155).bind fun t158 => (if t158 = (Go.bits .or .u64 t151 (shl .u64 1 (Int.tmod (IntKind.u64.wrap (rd l0_1 x8_2)) 64))) then ((window_Window_High.f t154 t155).bind fun t159 => (if t159 = t152 then (joustlaw09_WindowSteps.l0 k2 l0_1 a0_2 a0_3 (wrap64 (x8_2 + 1)) t154 t155) else (some false))) else (some false)))) else (none)))) = some r := H
                  have A17 := Aside0.mk A170
                  clear A170
                  replace H := Option.bind_eq_some_iff.mp H
                  obtain ⟨t156, A180, H⟩ := H
                  replace H : (if (Int.tmod (IntKind.u64.wrap (rd l0_1 x8_2)) 64) ≥ t152 then (if t156 = 90 then (joustlaw09_WindowSteps.j2 k2 l0_1 a0_2 a0_3 x8_2 t152 false t154 t155) else (if t156 = 92 then (joustlaw09_WindowSteps.j2 k2 l0_1 a0_2 a0_3 x8_2 t152 false t154 t155) else (joustlaw09_WindowSteps.j2 k2 l0_1 a0_2 a0_3 x8_2 t152 (t156 != 0) t154 t155))) else (if 0 ≤ (Int.tmod (IntKind.u64.wrap (rd l0_1 x8_2)) 64) then (if ((t156 == 0) != ((Go.bits .and .u64 t151 (shl .u64 1 (Int.tmod (IntKind.u64.wrap (rd l0_1 x8_2)) 64))) == 0)) = true then (some false) else ((window_Window_Bits.f t154 t155).bind fun t158 => (if t158 = (Go.bits .or .u64 t151 (shl .u64 1 (Int.tmod (IntKind.u64.wrap (rd l0_1 x8_2)) 64))) then ((window_Window_High.f t154 t155).bind fun t159 => (if t159 = t152 then (joustlaw09_WindowSteps.l0 k2 l0_1 a0_2 a0_3 (wrap64 (x8_2 + 1)) t154 t155) else (some false))) else (some false)))) else (none))) = some r := H
                  have A18 := Aside0.mk A180
                  clear A180
                  by_cases c19 : (Int.tmod (IntKind.u64.wrap (rd l0_1 x8_2)) 64) ≥ t152
                  · rw [if_pos c19] at H
                    have c19b0 : decide (t152 ≤ (Int.tmod (IntKind.u64.wrap (rd l0_1 x8_2)) 64)) = true := decide_eq_true c19
                    clear c19
                    have HC20 := Aside0.mk H
                    clear H
                    have p150 : 0 ≤ (x8_2 : Int) := of_decide_eq_true (by first | (with_reducible assumption) | assumption)
                    have q150 : x8_2 < (l0_1.length : Int) := of_decide_eq_true (by first | (with_reducible assumption) | assumption)
                    obtain ⟨ad150, e150, hx150_0⟩ := Kd.at_int HR0_1.out x8_2 p150 q150
                    cases e150
                    replace hx150_0 := (HB.out.cell (World.block_lt_of_cell? w _ hx150_0)).trans hx150_0
                    replace p150 := eq_true p150
                    replace q150 := eq_true q150
                    have hnb21 := NB146_144.out
                    have hnc21 := NB144_146.out
                    have hcz22_0 : wr.cell? ⟨gb146, 0, none⟩ = some (.int .u64 x147000_2) := (blk_cell BK146.out 0).trans rfl
                    have hcz22_1 : wr.cell? ⟨gb146, 1, none⟩ = some (.int .u64 x147001_2) := (blk_cell BK146.out 1).trans rfl
                    have hfz22_0 := blk_frozen BK146.out 0
                    have hfz22_1 := blk_frozen BK146.out 1
                    go_upto_region 18 with (first | ((with_reducible refine gate_callee (f := 20) rfl ?_); refine goesL_ (some 51) rfl rfl Try.func20 (by kernel_rfl) rfl #[.agg #[.int .u64 x147000_2, .int .u64 x147001_2]] rfl (by (try simp only [List.map_toArray, List.map_cons, List.map_nil]); first | done | rfl | (simp only [List.length_drop, List.length_take]; rfl)) ?_; (with_reducible refine (window_Window_Bits.calls x147000_2 x147001_2 t151 _ A15.out).mono ?_); rintro e w23 ⟨rfl, hb⟩; refine ⟨_, rfl, ?_⟩; have n0_ := Aside0.mk (blk_below (g := gb144) (o := .cells #[.slice A0_0 l0_0.length c0_0, .slice (some ad150) l0_1.length c0_1, .int .u8 a0_2, .int .u64 a0_3] 48 (0, 0)) (by (with_reducible repeat (first | refine blk_drewN ?_ _ | refine blk_drew ?_ | refine blk_alloc ?_ _)); exact BK144.out) hb); have n1_ := Aside0.mk (blk_below (g := gb146) (o := .cells #[.int .u64 x147000_2, .int .u64 x147001_2] 26 (0, 0)) (by (with_reducible repeat (first | refine blk_drewN ?_ _ | refine blk_drew ?_ | refine blk_alloc ?_ _)); exact BK146.out) hb); have n2_ := Aside0.mk (below_step (by repeat (first | (with_reducible first | exact HB.out | apply below_alloc | apply pw_below_drewN | apply below_drew1 | refine below_set ?_ GE144.out | refine below_set ?_ GE146.out) | exact HB.out)) hb); clear BK144; clear BK146; clear HB; have BK144 := n0_; have BK146 := n1_; have HB := n2_; clear n0_ n1_ n2_; (try clear hb); (try clear hb2); (try clear hk); (try clear hi); have hcz24_0 : w23.cell? ⟨gb146, 0, none⟩ = some (.int .u64 x147000_2) := (blk_cell BK146.out 0).trans rfl; have hcz24_1 : w23.cell? ⟨gb146, 1, none⟩ = some (.int .u64 x147001_2) := (blk_cell BK146.out 1).trans rfl; have hfz24_0 := blk_frozen BK146.out 0; have hfz24_1 := blk_frozen BK146.out 1) | ((with_reducible refine gate_callee (f := 18) rfl ?_); refine goesL_ (some 53) rfl rfl Try.func18 (by kernel_rfl) rfl #[.agg #[.int .u64 x147000_2, .int .u64 x147001_2]] rfl (by (try simp only [List.map_toArray, List.map_cons, List.map_nil]); first | done | rfl | (simp only [List.length_drop, List.length_take]; rfl)) ?_; (with_reducible refine (window_Window_High.calls x147000_2 x147001_2 t152 _ A16.out).mono ?_); rintro e w25 ⟨rfl, hb⟩; refine ⟨_, rfl, ?_⟩; have n0_ := Aside0.mk (blk_below (g := gb144) (o := .cells #[.slice A0_0 l0_0.length c0_0, .slice (some ad150) l0_1.length c0_1, .int .u8 a0_2, .int .u64 a0_3] 48 (0, 0)) (by (with_reducible repeat (first | refine blk_drewN ?_ _ | refine blk_drew ?_ | refine blk_alloc ?_ _)); exact BK144.out) hb); have n1_ := Aside0.mk (blk_below (g := gb146) (o := .cells #[.int .u64 x147000_2, .int .u64 x147001_2] 26 (0, 0)) (by (with_reducible repeat (first | refine blk_drewN ?_ _ | refine blk_drew ?_ | refine blk_alloc ?_ _)); exact BK146.out) hb); have n2_ := Aside0.mk (below_step (by repeat (first | (with_reducible first | exact HB.out | apply below_alloc | apply pw_below_drewN | apply below_drew1 | refine below_set ?_ GE144.out | refine below_set ?_ GE146.out) | exact HB.out)) hb); clear BK144; clear BK146; clear HB; have BK144 := n0_; have BK146 := n1_; have HB := n2_; clear n0_ n1_ n2_; (try clear hb); (try clear hb2); (try clear hk); (try clear hi)) | ((with_reducible refine gate_callee (f := 16) rfl ?_); refine goesL_ (some 57) rfl rfl Try.func16 (by kernel_rfl) rfl #[.pointer (some ⟨gb146, 0, none⟩), .int .u64 (IntKind.u64.wrap (t152 - (Int.tmod (IntKind.u64.wrap (rd l0_1 x8_2)) 64)))] rfl (by (try simp only [List.map_toArray, List.map_cons, List.map_nil]); first | done | rfl | (simp only [List.length_drop, List.length_take]; rfl)) ?_; (with_reducible refine (window_Window_Mark.calls k2 gb146 x147000_2 x147001_2 (IntKind.u64.wrap (t152 - (Int.tmod (IntKind.u64.wrap (rd l0_1 x8_2)) 64))) t153 t154 t155 w _ ?side1 ?side2 A17.out).mono ?_); (case side1 => repeat (first | (with_reducible first | exact (Aside0.mk (IsS26.mk_ BK146.out GE146.out)).out | apply IsS26.alloc | apply IsS26.drewN | apply IsS26.drew | apply IsS26.set_0 | apply IsS26.set_1 | refine IsS26.far ?_ NB146_144.out _) | exact (Aside0.mk (IsS26.mk_ BK146.out GE146.out)).out)); (case side2 => repeat (first | (with_reducible first | exact HB.out | apply below_alloc | apply pw_below_drewN | apply below_drew1 | refine below_set ?_ (IsS26.ge (Aside0.mk (IsS26.mk_ BK146.out GE146.out)).out) | refine below_set ?_ GE144.out) | exact HB.out)); rintro e w26 ⟨rfl, hi, hb, hk⟩; refine ⟨_, rfl, ?_⟩; have n0_ := Aside0.mk (KeepBut.blk hk (g' := gb144) (o := .cells #[.slice A0_0 l0_0.length c0_0, .slice (some ad150) l0_1.length c0_1, .int .u8 a0_2, .int .u64 a0_3] 48 (0, 0)) (by (with_reducible repeat (first | refine blk_drewN ?_ _ | refine blk_drew ?_ | refine blk_alloc ?_ _)); exact BK144.out) NB144_146.out (by simp)); have n1_ := Aside0.mk (hb); have n2_ := Aside0.mk (hi.1); clear BK144; clear HB; clear BK146; have BK144 := n0_; have HB := n1_; have BK146 := n2_; clear n0_ n1_ n2_; (try clear hb); (try clear hb2); (try clear hk); (try clear hi)) | ((with_reducible refine gate_callee (f := 12) rfl ?_); refine goesL_ (some 58) rfl rfl Try.func12 (by kernel_rfl) rfl #[.int .i64 t153] rfl (by (try simp only [List.map_toArray, List.map_cons, List.map_nil]); first | done | rfl | (simp only [List.length_drop, List.length_take]; rfl)) ?_; (with_reducible refine (joustlaw09_num.calls t153 t156 _ A18.out).mono ?_); rintro e w' ⟨rfl, ⟨nd, rfl⟩⟩; refine ⟨_, rfl, ?_⟩))
                    (try simp only [Act.put, List.setIfInBounds_toArray, List.set_cons_zero, List.set_cons_succ])
                    go_cut [71] (fun v71 wc => ∃ (kq : Nat) (x71_19 : Bool), v71 = .bool x71_19 ∧ Aside0 (joustlaw09_WindowSteps.j2 kq l0_1 a0_2 a0_3 x8_2 t152 x71_19 t154 t155 = some r) ∧ Aside0 (kq ≤ k2) ∧ Aside0 (wc.heap[gb144]? = some (.cells #[(.slice A0_0 l0_0.length c0_0), (.slice (some ad150) l0_1.length c0_1), .int .u8 a0_2, .int .u64 a0_3] 48 (0, 0))) ∧ Aside0 (wc.heap[gb146]? = some (.cells #[.int .u64 t154, .int .u64 t155] 26 (0, 0))) ∧ Aside0 (Below w.heap.size w wc))
                    case first => as_aux_lemma =>
                      have H := HC20.out
                      clear HC20
                      by_cases c27 : t156 = 90
                      · rw [if_pos c27] at H
                        have c27b0 : (t156 == 90) = true := beq_iff_eq.mpr c27
                        have c27b1 : (t156 != 90) = false := bne_eq_false_iff_eq.mpr c27
                        clear c27
                        (first | rw [c27b0] | (simp only [i64_w, i32_w]; rw [c27b0]) | skip)
                        have H' := Aside0.mk H
                        clear H
                        go_wp2
                        go_meet
                        case rel => exact ⟨_, (false), (by first | rfl | (simp; done) | (simp [*]; done)), H', ⟨by have := HJ3.out; have := HK2.out; first | omega | exact Nat.le_refl _⟩, ⟨by (with_reducible repeat (first | refine blk_drewN ?_ _ | refine blk_drew ?_ | refine blk_alloc ?_ _)); exact BK144.out⟩, ⟨by (with_reducible repeat (first | refine blk_drewN ?_ _ | refine blk_drew ?_ | refine blk_alloc ?_ _)); exact BK146.out⟩, ⟨by repeat (first | (with_reducible first | exact HB.out | apply below_alloc | apply pw_below_drewN | apply below_drew1 | refine below_set ?_ GE144.out | refine below_set ?_ GE146.out) | exact HB.out)⟩⟩
                      · rw [if_neg c27] at H
                        have c27b0 : (t156 == 90) = false := beq_eq_false_iff_ne.mpr c27
                        have c27b1 : (t156 != 90) = true := bne_iff_ne.mpr c27
                        (first | rw [c27b0] | (simp only [i64_w, i32_w]; rw [c27b0]) | skip)
                        by_cases c28 : t156 = 92
                        · rw [if_pos c28] at H
                          have c28b0 : (t156 == 92) = true := beq_iff_eq.mpr c28
                          have c28b1 : (t156 != 92) = false := bne_eq_false_iff_eq.mpr c28
                          clear c28
                          have H' := Aside0.mk H
                          clear H
                          go_wp2
                          go_meet
                          case rel => exact ⟨_, (false), (by first | rfl | (simp; done) | (simp [*]; done)), H', ⟨by have := HJ3.out; have := HK2.out; first | omega | exact Nat.le_refl _⟩, ⟨by (with_reducible repeat (first | refine blk_drewN ?_ _ | refine blk_drew ?_ | refine blk_alloc ?_ _)); exact BK144.out⟩, ⟨by (with_reducible repeat (first | refine blk_drewN ?_ _ | refine blk_drew ?_ | refine blk_alloc ?_ _)); exact BK146.out⟩, ⟨by repeat (first | (with_reducible first | exact HB.out | apply below_alloc | apply pw_below_drewN | apply below_drew1 | refine below_set ?_ GE144.out | refine below_set ?_ GE146.out) | exact HB.out)⟩⟩
                        · rw [if_neg c28] at H
                          have c28b0 : (t156 == 92) = false := beq_eq_false_iff_ne.mpr c28
                          have c28b1 : (t156 != 92) = true := bne_iff_ne.mpr c28
                          have H' := Aside0.mk H
                          clear H
                          go_wp2
                          go_meet
                          case rel => exact ⟨_, ((t156 != 0)), (by first | rfl | (simp; done) | (simp [*]; done)), H', ⟨by have := HJ3.out; have := HK2.out; first | omega | exact Nat.le_refl _⟩, ⟨by (with_reducible repeat (first | refine blk_drewN ?_ _ | refine blk_drew ?_ | refine blk_alloc ?_ _)); exact BK144.out⟩, ⟨by (with_reducible repeat (first | refine blk_drewN ?_ _ | refine blk_drew ?_ | refine blk_alloc ?_ _)); exact BK146.out⟩, ⟨by repeat (first | (with_reducible first | exact HB.out | apply below_alloc | apply pw_below_drewN | apply below_drew1 | refine below_set ?_ GE144.out | refine below_set ?_ GE146.out) | exact HB.out)⟩⟩
                    case rest => as_aux_lemma =>
                      clear HC20
                      try clear c1
                      try clear p1
                      try clear q1
                      try clear hx1
                      try clear c2
                      try clear p2
                      try clear c3
                      try clear c6
                      try clear p6
                      try clear c9
                      try clear c9b0
                      try clear c9b1
                      try clear c11
                      try clear c12
                      try clear c13
                      try clear c13b0
                      try clear c14
                      try clear c14b0
                      try clear p15
                      try clear q15
                      try clear hx15
                      try clear c16
                      try clear c18
                      try clear c19
                      try clear c19b0
                      try clear c20
                      try clear c21
                      try clear c27
                      try clear c27b0
                      try clear c27b1
                      try clear c28
                      try clear c28b0
                      try clear c28b1
                      try clear hcz22_0
                      try clear hcz22_1
                      try clear hcz24_0
                      try clear hcz24_1
                      try clear hcz7_0
                      try clear hcz7_1
                      try clear hcz7_2
                      try clear hcz7_3
                      try clear hfz22_0
                      try clear hfz22_1
                      try clear hfz24_0
                      try clear hfz24_1
                      try clear hfz7_0
                      try clear hfz7_1
                      try clear hfz7_2
                      try clear hfz7_3
                      try clear hx150_0
                      try clear p150
                      try clear p2
                      try clear q150
                      obtain ⟨kq, x71_19, rfl, HA, HJ19, BK144, BK146, HB⟩ := hcut
                      cases kq with
                      | zero => exact absurd HA.out (by simp [joustlaw09_WindowSteps.j2])
                      | succ kj19 =>
                        have H := HA.out
                        clear HA
                        simp only [joustlaw09_WindowSteps.j2] at H
                        by_cases c29 : x71_19 = true
                        · subst c29
                          have H1 : (some false) = some r := by rw [if_pos rfl] at H; exact H
                          clear H
                          have H := H1
                          clear H1
                          obtain rfl := Option.some.inj H
                          go_wp2
                          go_ret
                          exact ⟨by first | rfl | (simp [errW_none, errW_some] <;> rfl) | (simp [*, errW_none, errW_some] <;> rfl), by repeat (first | (with_reducible first | exact HB.out | apply below_alloc | apply pw_below_drewN | apply below_drew1 | refine below_set ?_ GE144.out | refine below_set ?_ GE146.out) | exact HB.out)⟩
                        · replace c29 := Bool.eq_false_iff.mpr c29
                          subst c29
                          have H1 : ((window_Window_High.f t154 t155).bind fun t157 => (if t152 = t157 then (joustlaw09_WindowSteps.l0 kj19 l0_1 a0_2 a0_3 (wrap64 (x8_2 + 1)) t154 t155) else (some true))) = some r := by rw [if_neg (show ¬ (false = true) by decide)] at H; exact H
                          clear H
                          have H := H1
                          clear H1
                          replace H := Option.bind_eq_some_iff.mp H
                          obtain ⟨t157, A300, H⟩ := H
                          replace H : (if t152 = t157 then (joustlaw09_WindowSteps.l0 kj19 l0_1 a0_2 a0_3 (wrap64 (x8_2 + 1)) t154 t155) else (some true)) = some r := H
                          have A30 := Aside0.mk A300
                          clear A300
                          by_cases c31 : t152 = t157
                          · rw [if_pos c31] at H
                            have c31b0 : (t152 == t157) = true := beq_iff_eq.mpr c31
                            have c31b1 : (t152 != t157) = false := bne_eq_false_iff_eq.mpr c31
                            clear c31
                            have H' := Aside0.mk H
                            clear H
                            have hnb32 := NB146_144.out
                            have hnc32 := NB144_146.out
                            have hcz33_0 : wc.cell? ⟨gb146, 0, none⟩ = some (.int .u64 t154) := (blk_cell BK146.out 0).trans rfl
                            have hcz33_1 : wc.cell? ⟨gb146, 1, none⟩ = some (.int .u64 t155) := (blk_cell BK146.out 1).trans rfl
                            have hfz33_0 := blk_frozen BK146.out 0
                            have hfz33_1 := blk_frozen BK146.out 1
                            go_wp2_with (first | ((with_reducible refine gate_callee (f := 18) rfl ?_); refine goesL_ (some 74) rfl rfl Try.func18 (by kernel_rfl) rfl #[.agg #[.int .u64 t154, .int .u64 t155]] rfl (by (try simp only [List.map_toArray, List.map_cons, List.map_nil]); first | done | rfl | (simp only [List.length_drop, List.length_take]; rfl)) ?_; (with_reducible refine (window_Window_High.calls t154 t155 t157 _ A30.out).mono ?_); rintro e w34 ⟨rfl, hb⟩; refine ⟨_, rfl, ?_⟩; have n0_ := Aside0.mk (blk_below (g := gb144) (o := .cells #[.slice A0_0 l0_0.length c0_0, .slice (some ad150) l0_1.length c0_1, .int .u8 a0_2, .int .u64 a0_3] 48 (0, 0)) (by (with_reducible repeat (first | refine blk_drewN ?_ _ | refine blk_drew ?_ | refine blk_alloc ?_ _)); exact BK144.out) hb); have n1_ := Aside0.mk (blk_below (g := gb146) (o := .cells #[.int .u64 t154, .int .u64 t155] 26 (0, 0)) (by (with_reducible repeat (first | refine blk_drewN ?_ _ | refine blk_drew ?_ | refine blk_alloc ?_ _)); exact BK146.out) hb); have n2_ := Aside0.mk (below_step (by repeat (first | (with_reducible first | exact HB.out | apply below_alloc | apply pw_below_drewN | apply below_drew1 | refine below_set ?_ GE144.out | refine below_set ?_ GE146.out) | exact HB.out)) hb); clear BK144; clear BK146; clear HB; have BK144 := n0_; have BK146 := n1_; have HB := n2_; clear n0_ n1_ n2_; (try clear hb); (try clear hb2); (try clear hk); (try clear hi)))
                            go_roundg kj19
                            case measure => have := HJ3.out; have := HK2.out; have := HJ19.out; omega
                            case rel => exact ⟨(wrap64 (x8_2 + 1)), (t154), (t155), (by first | rfl | (simp; done) | (simp [*]; done)), H', ⟨by have := HJ3.out; have := HK2.out; have := HJ19.out; omega⟩, ⟨by (with_reducible repeat (first | refine blk_drewN ?_ _ | refine blk_drew ?_ | refine blk_alloc ?_ _)); exact BK144.out⟩, ⟨by (with_reducible repeat (first | refine blk_drewN ?_ _ | refine blk_drew ?_ | refine blk_alloc ?_ _)); exact BK146.out⟩, ⟨by repeat (first | (with_reducible first | exact HB.out | apply below_alloc | apply pw_below_drewN | apply below_drew1 | refine below_set ?_ GE144.out | refine below_set ?_ GE146.out) | exact HB.out)⟩⟩
                          · rw [if_neg c31] at H
                            have c31b0 : (t152 == t157) = false := beq_eq_false_iff_ne.mpr c31
                            have c31b1 : (t152 != t157) = true := bne_iff_ne.mpr c31
                            obtain rfl := Option.some.inj H
                            have hnb35 := NB146_144.out
                            have hnc35 := NB144_146.out
                            have hcz36_0 : wc.cell? ⟨gb146, 0, none⟩ = some (.int .u64 t154) := (blk_cell BK146.out 0).trans rfl
                            have hcz36_1 : wc.cell? ⟨gb146, 1, none⟩ = some (.int .u64 t155) := (blk_cell BK146.out 1).trans rfl
                            have hfz36_0 := blk_frozen BK146.out 0
                            have hfz36_1 := blk_frozen BK146.out 1
                            go_wp2_with (first | ((with_reducible refine gate_callee (f := 18) rfl ?_); refine goesL_ (some 74) rfl rfl Try.func18 (by kernel_rfl) rfl #[.agg #[.int .u64 t154, .int .u64 t155]] rfl (by (try simp only [List.map_toArray, List.map_cons, List.map_nil]); first | done | rfl | (simp only [List.length_drop, List.length_take]; rfl)) ?_; (with_reducible refine (window_Window_High.calls t154 t155 t157 _ A30.out).mono ?_); rintro e w37 ⟨rfl, hb⟩; refine ⟨_, rfl, ?_⟩; have n0_ := Aside0.mk (blk_below (g := gb144) (o := .cells #[.slice A0_0 l0_0.length c0_0, .slice (some ad150) l0_1.length c0_1, .int .u8 a0_2, .int .u64 a0_3] 48 (0, 0)) (by (with_reducible repeat (first | refine blk_drewN ?_ _ | refine blk_drew ?_ | refine blk_alloc ?_ _)); exact BK144.out) hb); have n1_ := Aside0.mk (blk_below (g := gb146) (o := .cells #[.int .u64 t154, .int .u64 t155] 26 (0, 0)) (by (with_reducible repeat (first | refine blk_drewN ?_ _ | refine blk_drew ?_ | refine blk_alloc ?_ _)); exact BK146.out) hb); have n2_ := Aside0.mk (below_step (by repeat (first | (with_reducible first | exact HB.out | apply below_alloc | apply pw_below_drewN | apply below_drew1 | refine below_set ?_ GE144.out | refine below_set ?_ GE146.out) | exact HB.out)) hb); clear BK144; clear BK146; clear HB; have BK144 := n0_; have BK146 := n1_; have HB := n2_; clear n0_ n1_ n2_; (try clear hb); (try clear hb2); (try clear hk); (try clear hi)))
                            go_ret
                            exact ⟨by first | rfl | (simp [errW_none, errW_some] <;> rfl) | (simp [*, errW_none, errW_some] <;> rfl), by repeat (first | (with_reducible first | exact HB.out | apply below_alloc | apply pw_below_drewN | apply below_drew1 | refine below_set ?_ GE144.out | refine below_set ?_ GE146.out) | exact HB.out)⟩
                  · rw [if_neg c19] at H
                    have c19b0 : decide (t152 ≤ (Int.tmod (IntKind.u64.wrap (rd l0_1 x8_2)) 64)) = false := decide_eq_false c19
                    clear c19
                    obtain ⟨ji38, hji38⟩ : ∃ j_ : Int, (Int.tmod (IntKind.u64.wrap (rd l0_1 x8_2)) 64) = j_ := ⟨_, rfl⟩
                    replace H : (if 0 ≤ (ji38) then (if ((t156 == 0) != ((Go.bits .and .u64 t151 (shl .u64 1 (ji38))) == 0)) = true then (some false) else ((window_Window_Bits.f t154 t155).bind fun t158 => (if t158 = (Go.bits .or .u64 t151 (shl .u64 1 (ji38))) then ((window_Window_High.f t154 t155).bind fun t159 => (if t159 = t152 then (joustlaw09_WindowSteps.l0 k2 l0_1 a0_2 a0_3 (wrap64 (x8_2 + 1)) t154 t155) else (some false))) else (some false)))) else (none)) = some r := by first | (rw [hji38] at H; exact H) | (simp only [hji38] at H ⊢; exact H)
                    (try rw [hji38] at c19b0)
                    (try rw [hji38] at A15)
                    (try rw [hji38] at A16)
                    (try rw [hji38] at A17)
                    (try rw [hji38] at A18)
                    by_cases c39 : 0 ≤ (ji38)
                    · rw [if_pos c39] at H
                      have c39b0 := eq_true c39
                      have c39b1 : decide (0 ≤ (ji38)) = true := decide_eq_true c39
                      clear c39
                      obtain ⟨ji40, hji40⟩ : ∃ j_ : Int, (shl .u64 1 (ji38)) = j_ := ⟨_, rfl⟩
                      replace H : (if ((t156 == 0) != ((Go.bits .and .u64 t151 (ji40)) == 0)) = true then (some false) else ((window_Window_Bits.f t154 t155).bind fun t158 => (if t158 = (Go.bits .or .u64 t151 (ji40)) then ((window_Window_High.f t154 t155).bind fun t159 => (if t159 = t152 then (joustlaw09_WindowSteps.l0 k2 l0_1 a0_2 a0_3 (wrap64 (x8_2 + 1)) t154 t155) else (some false))) else (some false)))) = some r := by first | (rw [hji40] at H; exact H) | (simp only [hji40] at H ⊢; exact H)
                      (try rw [hji40] at A15)
                      (try rw [hji40] at A16)
                      (try rw [hji40] at A17)
                      (try rw [hji40] at A18)
                      have hji40_ : (IntKind.u64.wrap (1 * 2 ^ min (ji38).toNat 64)) = ji40 := hji40
                      have hji40z : (ji38) ≤ 64 → (IntKind.u64.wrap (1 * 2 ^ (ji38).toNat)) = ji40 := shl_small hji40
                      have hji40u : (IntKind.u64.wrap (2 ^ min (ji38).toNat 64)) = ji40 := by have h_ := hji40_; rw [Int.one_mul] at h_; exact h_
                      have hji40v : (ji38) ≤ 64 → (IntKind.u64.wrap (2 ^ (ji38).toNat)) = ji40 := fun hle_ => by have h_ := hji40z hle_; rw [Int.one_mul] at h_; exact h_
                      by_cases c41 : ((t156 == 0) != ((Go.bits .and .u64 t151 (ji40)) == 0)) = true
                      · rw [if_pos c41] at H
                        have c41b0 : ((t156 == 0) != ((Go.bits .and .u64 t151 (ji40)) == 0)) = true := c41
                        (try (have c41b1 : decide ((t156 == 0) = ((Go.bits .and .u64 t151 (ji40)) == 0)) = false := by simpa using c41))
                        (try (have c41b2 : ((t156 == 0) == ((Go.bits .and .u64 t151 (ji40)) == 0)) = false := by simpa using c41))
                        (try (have c41b3 : ¬ ((t156 == 0) = ((Go.bits .and .u64 t151 (ji40)) == 0)) := by simpa using c41))
                        clear c41
                        obtain rfl := Option.some.inj H
                        have p150 : 0 ≤ (x8_2 : Int) := of_decide_eq_true (by first | (with_reducible assumption) | assumption)
                        have q150 : x8_2 < (l0_1.length : Int) := of_decide_eq_true (by first | (with_reducible assumption) | assumption)
                        obtain ⟨ad150, e150, hx150_0⟩ := Kd.at_int HR0_1.out x8_2 p150 q150
                        cases e150
                        replace hx150_0 := (HB.out.cell (World.block_lt_of_cell? w _ hx150_0)).trans hx150_0
                        replace p150 := eq_true p150
                        replace q150 := eq_true q150
                        have hnb42 := NB146_144.out
                        have hnc42 := NB144_146.out
                        have hcz43_0 : wr.cell? ⟨gb146, 0, none⟩ = some (.int .u64 x147000_2) := (blk_cell BK146.out 0).trans rfl
                        have hcz43_1 : wr.cell? ⟨gb146, 1, none⟩ = some (.int .u64 x147001_2) := (blk_cell BK146.out 1).trans rfl
                        have hfz43_0 := blk_frozen BK146.out 0
                        have hfz43_1 := blk_frozen BK146.out 1
                        go_wp2_with (first | ((with_reducible refine gate_callee (f := 20) rfl ?_); refine goesL_ (some 51) rfl rfl Try.func20 (by kernel_rfl) rfl #[.agg #[.int .u64 x147000_2, .int .u64 x147001_2]] rfl (by (try simp only [List.map_toArray, List.map_cons, List.map_nil]); first | done | rfl | (simp only [List.length_drop, List.length_take]; rfl)) ?_; (with_reducible refine (window_Window_Bits.calls x147000_2 x147001_2 t151 _ A15.out).mono ?_); rintro e w44 ⟨rfl, hb⟩; refine ⟨_, rfl, ?_⟩; have n0_ := Aside0.mk (blk_below (g := gb144) (o := .cells #[.slice A0_0 l0_0.length c0_0, .slice (some ad150) l0_1.length c0_1, .int .u8 a0_2, .int .u64 a0_3] 48 (0, 0)) (by (with_reducible repeat (first | refine blk_drewN ?_ _ | refine blk_drew ?_ | refine blk_alloc ?_ _)); exact BK144.out) hb); have n1_ := Aside0.mk (blk_below (g := gb146) (o := .cells #[.int .u64 x147000_2, .int .u64 x147001_2] 26 (0, 0)) (by (with_reducible repeat (first | refine blk_drewN ?_ _ | refine blk_drew ?_ | refine blk_alloc ?_ _)); exact BK146.out) hb); have n2_ := Aside0.mk (below_step (by repeat (first | (with_reducible first | exact HB.out | apply below_alloc | apply pw_below_drewN | apply below_drew1 | refine below_set ?_ GE144.out | refine below_set ?_ GE146.out) | exact HB.out)) hb); clear BK144; clear BK146; clear HB; have BK144 := n0_; have BK146 := n1_; have HB := n2_; clear n0_ n1_ n2_; (try clear hb); (try clear hb2); (try clear hk); (try clear hi); have hcz45_0 : w44.cell? ⟨gb146, 0, none⟩ = some (.int .u64 x147000_2) := (blk_cell BK146.out 0).trans rfl; have hcz45_1 : w44.cell? ⟨gb146, 1, none⟩ = some (.int .u64 x147001_2) := (blk_cell BK146.out 1).trans rfl; have hfz45_0 := blk_frozen BK146.out 0; have hfz45_1 := blk_frozen BK146.out 1) | ((with_reducible refine gate_callee (f := 18) rfl ?_); refine goesL_ (some 53) rfl rfl Try.func18 (by kernel_rfl) rfl #[.agg #[.int .u64 x147000_2, .int .u64 x147001_2]] rfl (by (try simp only [List.map_toArray, List.map_cons, List.map_nil]); first | done | rfl | (simp only [List.length_drop, List.length_take]; rfl)) ?_; (with_reducible refine (window_Window_High.calls x147000_2 x147001_2 t152 _ A16.out).mono ?_); rintro e w46 ⟨rfl, hb⟩; refine ⟨_, rfl, ?_⟩; have n0_ := Aside0.mk (blk_below (g := gb144) (o := .cells #[.slice A0_0 l0_0.length c0_0, .slice (some ad150) l0_1.length c0_1, .int .u8 a0_2, .int .u64 a0_3] 48 (0, 0)) (by (with_reducible repeat (first | refine blk_drewN ?_ _ | refine blk_drew ?_ | refine blk_alloc ?_ _)); exact BK144.out) hb); have n1_ := Aside0.mk (blk_below (g := gb146) (o := .cells #[.int .u64 x147000_2, .int .u64 x147001_2] 26 (0, 0)) (by (with_reducible repeat (first | refine blk_drewN ?_ _ | refine blk_drew ?_ | refine blk_alloc ?_ _)); exact BK146.out) hb); have n2_ := Aside0.mk (below_step (by repeat (first | (with_reducible first | exact HB.out | apply below_alloc | apply pw_below_drewN | apply below_drew1 | refine below_set ?_ GE144.out | refine below_set ?_ GE146.out) | exact HB.out)) hb); clear BK144; clear BK146; clear HB; have BK144 := n0_; have BK146 := n1_; have HB := n2_; clear n0_ n1_ n2_; (try clear hb); (try clear hb2); (try clear hk); (try clear hi)) | ((with_reducible refine gate_callee (f := 16) rfl ?_); refine goesL_ (some 57) rfl rfl Try.func16 (by kernel_rfl) rfl #[.pointer (some ⟨gb146, 0, none⟩), .int .u64 (IntKind.u64.wrap (t152 - (ji38)))] rfl (by (try simp only [List.map_toArray, List.map_cons, List.map_nil]); first | done | (simp only [hji38]; rfl) | rfl | (simp only [List.length_drop, List.length_take]; rfl)) ?_; (with_reducible refine (window_Window_Mark.calls k2 gb146 x147000_2 x147001_2 (IntKind.u64.wrap (t152 - (ji38))) t153 t154 t155 w _ ?side1 ?side2 A17.out).mono ?_); (case side1 => repeat (first | (with_reducible first | exact (Aside0.mk (IsS26.mk_ BK146.out GE146.out)).out | apply IsS26.alloc | apply IsS26.drewN | apply IsS26.drew | apply IsS26.set_0 | apply IsS26.set_1 | refine IsS26.far ?_ NB146_144.out _) | exact (Aside0.mk (IsS26.mk_ BK146.out GE146.out)).out)); (case side2 => repeat (first | (with_reducible first | exact HB.out | apply below_alloc | apply pw_below_drewN | apply below_drew1 | refine below_set ?_ (IsS26.ge (Aside0.mk (IsS26.mk_ BK146.out GE146.out)).out) | refine below_set ?_ GE144.out) | exact HB.out)); rintro e w47 ⟨rfl, hi, hb, hk⟩; refine ⟨_, rfl, ?_⟩; have n0_ := Aside0.mk (KeepBut.blk hk (g' := gb144) (o := .cells #[.slice A0_0 l0_0.length c0_0, .slice (some ad150) l0_1.length c0_1, .int .u8 a0_2, .int .u64 a0_3] 48 (0, 0)) (by (with_reducible repeat (first | refine blk_drewN ?_ _ | refine blk_drew ?_ | refine blk_alloc ?_ _)); exact BK144.out) NB144_146.out (by simp)); have n1_ := Aside0.mk (hb); have n2_ := Aside0.mk (hi.1); clear BK144; clear HB; clear BK146; have BK144 := n0_; have HB := n1_; have BK146 := n2_; clear n0_ n1_ n2_; (try clear hb); (try clear hb2); (try clear hk); (try clear hi)) | ((with_reducible refine gate_callee (f := 12) rfl ?_); refine goesL_ (some 58) rfl rfl Try.func12 (by kernel_rfl) rfl #[.int .i64 t153] rfl (by (try simp only [List.map_toArray, List.map_cons, List.map_nil]); first | done | rfl | (simp only [List.length_drop, List.length_take]; rfl)) ?_; (with_reducible refine (joustlaw09_num.calls t153 t156 _ A18.out).mono ?_); rintro e w' ⟨rfl, ⟨nd, rfl⟩⟩; refine ⟨_, rfl, ?_⟩))
                        go_ret
                        exact ⟨by first | rfl | (simp [errW_none, errW_some] <;> rfl) | (simp only [← hji38, ← hji40]; first | rfl | (simp [errW_none, errW_some] <;> rfl)) | (simp [*, errW_none, errW_some] <;> rfl), by repeat (first | (with_reducible first | exact HB.out | apply below_alloc | apply pw_below_drewN | apply below_drew1 | refine below_set ?_ GE144.out | refine below_set ?_ GE146.out) | exact HB.out)⟩
                      · rw [if_neg c41] at H
                        have c41b0 : ((t156 == 0) != ((Go.bits .and .u64 t151 (ji40)) == 0)) = false := by simpa using c41
                        (try (have c41b1 : decide ((t156 == 0) = ((Go.bits .and .u64 t151 (ji40)) == 0)) = true := by simpa using c41))
                        (try (have c41b2 : ((t156 == 0) == ((Go.bits .and .u64 t151 (ji40)) == 0)) = true := by simpa using c41))
                        clear c41
                        replace H := Option.bind_eq_some_iff.mp H
                        obtain ⟨t158, A480, H⟩ := H
                        replace H : (if t158 = (Go.bits .or .u64 t151 (ji40)) then ((window_Window_High.f t154 t155).bind fun t159 => (if t159 = t152 then (joustlaw09_WindowSteps.l0 k2 l0_1 a0_2 a0_3 (wrap64 (x8_2 + 1)) t154 t155) else (some false))) else (some false)) = some r := H
                        have A48 := Aside0.mk A480
                        clear A480
                        have c49b0 := eq_true (of_decide_eq_true (by first | (with_reducible assumption) | assumption) : 0 ≤ (ji38))
                        by_cases c51 : t158 = (Go.bits .or .u64 t151 (ji40))
                        · rw [if_pos c51] at H
                          have c51b0 : (t158 == (Go.bits .or .u64 t151 (ji40))) = true := beq_iff_eq.mpr c51
                          have c51b1 : (t158 != (Go.bits .or .u64 t151 (ji40))) = false := bne_eq_false_iff_eq.mpr c51
                          clear c51
                          replace H := Option.bind_eq_some_iff.mp H
                          obtain ⟨t159, A520, H⟩ := H
                          replace H : (if t159 = t152 then (joustlaw09_WindowSteps.l0 k2 l0_1 a0_2 a0_3 (wrap64 (x8_2 + 1)) t154 t155) else (some false)) = some r := H
                          have A52 := Aside0.mk A520
                          clear A520
                          by_cases c53 : t159 = t152
                          · rw [if_pos c53] at H
                            have c53b0 : (t159 == t152) = true := beq_iff_eq.mpr c53
                            have c53b1 : (t159 != t152) = false := bne_eq_false_iff_eq.mpr c53
                            clear c53
                            have H' := Aside0.mk H
                            clear H
                            have p150 : 0 ≤ (x8_2 : Int) := of_decide_eq_true (by first | (with_reducible assumption) | assumption)
                            have q150 : x8_2 < (l0_1.length : Int) := of_decide_eq_true (by first | (with_reducible assumption) | assumption)
                            obtain ⟨ad150, e150, hx150_0⟩ := Kd.at_int HR0_1.out x8_2 p150 q150
                            cases e150
                            replace hx150_0 := (HB.out.cell (World.block_lt_of_cell? w _ hx150_0)).trans hx150_0
                            replace p150 := eq_true p150
                            replace q150 := eq_true q150
                            have hnb54 := NB146_144.out
                            have hnc54 := NB144_146.out
                            have hcz55_0 : wr.cell? ⟨gb146, 0, none⟩ = some (.int .u64 x147000_2) := (blk_cell BK146.out 0).trans rfl
                            have hcz55_1 : wr.cell? ⟨gb146, 1, none⟩ = some (.int .u64 x147001_2) := (blk_cell BK146.out 1).trans rfl
                            have hfz55_0 := blk_frozen BK146.out 0
                            have hfz55_1 := blk_frozen BK146.out 1
                            go_wp2_with (first | ((with_reducible refine gate_callee (f := 20) rfl ?_); refine goesL_ (some 51) rfl rfl Try.func20 (by kernel_rfl) rfl #[.agg #[.int .u64 x147000_2, .int .u64 x147001_2]] rfl (by (try simp only [List.map_toArray, List.map_cons, List.map_nil]); first | done | rfl | (simp only [List.length_drop, List.length_take]; rfl)) ?_; (with_reducible refine (window_Window_Bits.calls x147000_2 x147001_2 t151 _ A15.out).mono ?_); rintro e w56 ⟨rfl, hb⟩; refine ⟨_, rfl, ?_⟩; have n0_ := Aside0.mk (blk_below (g := gb144) (o := .cells #[.slice A0_0 l0_0.length c0_0, .slice (some ad150) l0_1.length c0_1, .int .u8 a0_2, .int .u64 a0_3] 48 (0, 0)) (by (with_reducible repeat (first | refine blk_drewN ?_ _ | refine blk_drew ?_ | refine blk_alloc ?_ _)); exact BK144.out) hb); have n1_ := Aside0.mk (blk_below (g := gb146) (o := .cells #[.int .u64 x147000_2, .int .u64 x147001_2] 26 (0, 0)) (by (with_reducible repeat (first | refine blk_drewN ?_ _ | refine blk_drew ?_ | refine blk_alloc ?_ _)); exact BK146.out) hb); have n2_ := Aside0.mk (below_step (by repeat (first | (with_reducible first | exact HB.out | apply below_alloc | apply pw_below_drewN | apply below_drew1 | refine below_set ?_ GE144.out | refine below_set ?_ GE146.out) | exact HB.out)) hb); clear BK144; clear BK146; clear HB; have BK144 := n0_; have BK146 := n1_; have HB := n2_; clear n0_ n1_ n2_; (try clear hb); (try clear hb2); (try clear hk); (try clear hi); have hcz57_0 : w56.cell? ⟨gb146, 0, none⟩ = some (.int .u64 x147000_2) := (blk_cell BK146.out 0).trans rfl; have hcz57_1 : w56.cell? ⟨gb146, 1, none⟩ = some (.int .u64 x147001_2) := (blk_cell BK146.out 1).trans rfl; have hfz57_0 := blk_frozen BK146.out 0; have hfz57_1 := blk_frozen BK146.out 1) | ((with_reducible refine gate_callee (f := 18) rfl ?_); refine goesL_ (some 53) rfl rfl Try.func18 (by kernel_rfl) rfl #[.agg #[.int .u64 x147000_2, .int .u64 x147001_2]] rfl (by (try simp only [List.map_toArray, List.map_cons, List.map_nil]); first | done | rfl | (simp only [List.length_drop, List.length_take]; rfl)) ?_; (with_reducible refine (window_Window_High.calls x147000_2 x147001_2 t152 _ A16.out).mono ?_); rintro e w58 ⟨rfl, hb⟩; refine ⟨_, rfl, ?_⟩; have n0_ := Aside0.mk (blk_below (g := gb144) (o := .cells #[.slice A0_0 l0_0.length c0_0, .slice (some ad150) l0_1.length c0_1, .int .u8 a0_2, .int .u64 a0_3] 48 (0, 0)) (by (with_reducible repeat (first | refine blk_drewN ?_ _ | refine blk_drew ?_ | refine blk_alloc ?_ _)); exact BK144.out) hb); have n1_ := Aside0.mk (blk_below (g := gb146) (o := .cells #[.int .u64 x147000_2, .int .u64 x147001_2] 26 (0, 0)) (by (with_reducible repeat (first | refine blk_drewN ?_ _ | refine blk_drew ?_ | refine blk_alloc ?_ _)); exact BK146.out) hb); have n2_ := Aside0.mk (below_step (by repeat (first | (with_reducible first | exact HB.out | apply below_alloc | apply pw_below_drewN | apply below_drew1 | refine below_set ?_ GE144.out | refine below_set ?_ GE146.out) | exact HB.out)) hb); clear BK144; clear BK146; clear HB; have BK144 := n0_; have BK146 := n1_; have HB := n2_; clear n0_ n1_ n2_; (try clear hb); (try clear hb2); (try clear hk); (try clear hi)) | ((with_reducible refine gate_callee (f := 16) rfl ?_); refine goesL_ (some 57) rfl rfl Try.func16 (by kernel_rfl) rfl #[.pointer (some ⟨gb146, 0, none⟩), .int .u64 (IntKind.u64.wrap (t152 - (ji38)))] rfl (by (try simp only [List.map_toArray, List.map_cons, List.map_nil]); first | done | (simp only [hji38]; rfl) | rfl | (simp only [List.length_drop, List.length_take]; rfl)) ?_; (with_reducible refine (window_Window_Mark.calls k2 gb146 x147000_2 x147001_2 (IntKind.u64.wrap (t152 - (ji38))) t153 t154 t155 w _ ?side1 ?side2 A17.out).mono ?_); (case side1 => repeat (first | (with_reducible first | exact (Aside0.mk (IsS26.mk_ BK146.out GE146.out)).out | apply IsS26.alloc | apply IsS26.drewN | apply IsS26.drew | apply IsS26.set_0 | apply IsS26.set_1 | refine IsS26.far ?_ NB146_144.out _) | exact (Aside0.mk (IsS26.mk_ BK146.out GE146.out)).out)); (case side2 => repeat (first | (with_reducible first | exact HB.out | apply below_alloc | apply pw_below_drewN | apply below_drew1 | refine below_set ?_ (IsS26.ge (Aside0.mk (IsS26.mk_ BK146.out GE146.out)).out) | refine below_set ?_ GE144.out) | exact HB.out)); rintro e w59 ⟨rfl, hi, hb, hk⟩; refine ⟨_, rfl, ?_⟩; have n0_ := Aside0.mk (KeepBut.blk hk (g' := gb144) (o := .cells #[.slice A0_0 l0_0.length c0_0, .slice (some ad150) l0_1.length c0_1, .int .u8 a0_2, .int .u64 a0_3] 48 (0, 0)) (by (with_reducible repeat (first | refine blk_drewN ?_ _ | refine blk_drew ?_ | refine blk_alloc ?_ _)); exact BK144.out) NB144_146.out (by simp)); have n1_ := Aside0.mk (hb); have n2_ := Aside0.mk (hi.1); clear BK144; clear HB; clear BK146; have BK144 := n0_; have HB := n1_; have BK146 := n2_; clear n0_ n1_ n2_; (try clear hb); (try clear hb2); (try clear hk); (try clear hi)) | ((with_reducible refine gate_callee (f := 12) rfl ?_); refine goesL_ (some 58) rfl rfl Try.func12 (by kernel_rfl) rfl #[.int .i64 t153] rfl (by (try simp only [List.map_toArray, List.map_cons, List.map_nil]); first | done | rfl | (simp only [List.length_drop, List.length_take]; rfl)) ?_; (with_reducible refine (joustlaw09_num.calls t153 t156 _ A18.out).mono ?_); rintro e w' ⟨rfl, ⟨nd, rfl⟩⟩; refine ⟨_, rfl, ?_⟩; have hcz60_0 : w59.cell? ⟨gb146, 0, none⟩ = some (.int .u64 t154) := (blk_cell BK146.out 0).trans rfl; have hcz60_1 : w59.cell? ⟨gb146, 1, none⟩ = some (.int .u64 t155) := (blk_cell BK146.out 1).trans rfl; have hfz60_0 := blk_frozen BK146.out 0; have hfz60_1 := blk_frozen BK146.out 1) | (go_at_call 20; (with_reducible refine (window_Window_Bits.calls t154 t155 t158 _ A48.out).mono ?_); rintro e w61 ⟨rfl, hb⟩; have n0_ := Aside0.mk (blk_below (g := gb144) (o := .cells #[.slice A0_0 l0_0.length c0_0, .slice (some ad150) l0_1.length c0_1, .int .u8 a0_2, .int .u64 a0_3] 48 (0, 0)) (by (with_reducible repeat (first | refine blk_drewN ?_ _ | refine blk_drew ?_ | refine blk_alloc ?_ _)); exact BK144.out) hb); have n1_ := Aside0.mk (blk_below (g := gb146) (o := .cells #[.int .u64 t154, .int .u64 t155] 26 (0, 0)) (by (with_reducible repeat (first | refine blk_drewN ?_ _ | refine blk_drew ?_ | refine blk_alloc ?_ _)); exact BK146.out) hb); have n2_ := Aside0.mk (below_step (by repeat (first | (with_reducible first | exact HB.out | apply below_alloc | apply pw_below_drewN | apply below_drew1 | refine below_set ?_ GE144.out | refine below_set ?_ GE146.out) | exact HB.out)) hb); clear BK144; clear BK146; clear HB; have BK144 := n0_; have BK146 := n1_; have HB := n2_; clear n0_ n1_ n2_; (try clear hb); (try clear hb2); (try clear hk); (try clear hi); have hcz62_0 : w61.cell? ⟨gb146, 0, none⟩ = some (.int .u64 t154) := (blk_cell BK146.out 0).trans rfl; have hcz62_1 : w61.cell? ⟨gb146, 1, none⟩ = some (.int .u64 t155) := (blk_cell BK146.out 1).trans rfl; have hfz62_0 := blk_frozen BK146.out 0; have hfz62_1 := blk_frozen BK146.out 1) | (go_at_call 18; (with_reducible refine (window_Window_High.calls t154 t155 t159 _ A52.out).mono ?_); rintro e w63 ⟨rfl, hb⟩; have n0_ := Aside0.mk (blk_below (g := gb144) (o := .cells #[.slice A0_0 l0_0.length c0_0, .slice (some ad150) l0_1.length c0_1, .int .u8 a0_2, .int .u64 a0_3] 48 (0, 0)) (by (with_reducible repeat (first | refine blk_drewN ?_ _ | refine blk_drew ?_ | refine blk_alloc ?_ _)); exact BK144.out) hb); have n1_ := Aside0.mk (blk_below (g := gb146) (o := .cells #[.int .u64 t154, .int .u64 t155] 26 (0, 0)) (by (with_reducible repeat (first | refine blk_drewN ?_ _ | refine blk_drew ?_ | refine blk_alloc ?_ _)); exact BK146.out) hb); have n2_ := Aside0.mk (below_step (by repeat (first | (with_reducible first | exact HB.out | apply below_alloc | apply pw_below_drewN | apply below_drew1 | refine below_set ?_ GE144.out | refine below_set ?_ GE146.out) | exact HB.out)) hb); clear BK144; clear BK146; clear HB; have BK144 := n0_; have BK146 := n1_; have HB := n2_; clear n0_ n1_ n2_; (try clear hb); (try clear hb2); (try clear hk); (try clear hi)))
                            go_roundg k2
                            case measure => have := HJ3.out; have := HK2.out; omega
                            case rel => exact ⟨(wrap64 (x8_2 + 1)), (t154), (t155), (by first | rfl | (simp; done) | (simp [*]; done)), H', ⟨by have := HJ3.out; have := HK2.out; omega⟩, ⟨by (with_reducible repeat (first | refine blk_drewN ?_ _ | refine blk_drew ?_ | refine blk_alloc ?_ _)); exact BK144.out⟩, ⟨by (with_reducible repeat (first | refine blk_drewN ?_ _ | refine blk_drew ?_ | refine blk_alloc ?_ _)); exact BK146.out⟩, ⟨by repeat (first | (with_reducible first | exact HB.out | apply below_alloc | apply pw_below_drewN | apply below_drew1 | refine below_set ?_ GE144.out | refine below_set ?_ GE146.out) | exact HB.out)⟩⟩
                          · rw [if_neg c53] at H
                            have c53b0 : (t159 == t152) = false := beq_eq_false_iff_ne.mpr c53
                            have c53b1 : (t159 != t152) = true := bne_iff_ne.mpr c53
                            obtain rfl := Option.some.inj H
                            have p150 : 0 ≤ (x8_2 : Int) := of_decide_eq_true (by first | (with_reducible assumption) | assumption)
                            have q150 : x8_2 < (l0_1.length : Int) := of_decide_eq_true (by first | (with_reducible assumption) | assumption)
                            obtain ⟨ad150, e150, hx150_0⟩ := Kd.at_int HR0_1.out x8_2 p150 q150
                            cases e150
                            replace hx150_0 := (HB.out.cell (World.block_lt_of_cell? w _ hx150_0)).trans hx150_0
                            replace p150 := eq_true p150
                            replace q150 := eq_true q150
                            have hnb64 := NB146_144.out
                            have hnc64 := NB144_146.out
                            have hcz65_0 : wr.cell? ⟨gb146, 0, none⟩ = some (.int .u64 x147000_2) := (blk_cell BK146.out 0).trans rfl
                            have hcz65_1 : wr.cell? ⟨gb146, 1, none⟩ = some (.int .u64 x147001_2) := (blk_cell BK146.out 1).trans rfl
                            have hfz65_0 := blk_frozen BK146.out 0
                            have hfz65_1 := blk_frozen BK146.out 1
                            go_wp2_with (first | ((with_reducible refine gate_callee (f := 20) rfl ?_); refine goesL_ (some 51) rfl rfl Try.func20 (by kernel_rfl) rfl #[.agg #[.int .u64 x147000_2, .int .u64 x147001_2]] rfl (by (try simp only [List.map_toArray, List.map_cons, List.map_nil]); first | done | rfl | (simp only [List.length_drop, List.length_take]; rfl)) ?_; (with_reducible refine (window_Window_Bits.calls x147000_2 x147001_2 t151 _ A15.out).mono ?_); rintro e w66 ⟨rfl, hb⟩; refine ⟨_, rfl, ?_⟩; have n0_ := Aside0.mk (blk_below (g := gb144) (o := .cells #[.slice A0_0 l0_0.length c0_0, .slice (some ad150) l0_1.length c0_1, .int .u8 a0_2, .int .u64 a0_3] 48 (0, 0)) (by (with_reducible repeat (first | refine blk_drewN ?_ _ | refine blk_drew ?_ | refine blk_alloc ?_ _)); exact BK144.out) hb); have n1_ := Aside0.mk (blk_below (g := gb146) (o := .cells #[.int .u64 x147000_2, .int .u64 x147001_2] 26 (0, 0)) (by (with_reducible repeat (first | refine blk_drewN ?_ _ | refine blk_drew ?_ | refine blk_alloc ?_ _)); exact BK146.out) hb); have n2_ := Aside0.mk (below_step (by repeat (first | (with_reducible first | exact HB.out | apply below_alloc | apply pw_below_drewN | apply below_drew1 | refine below_set ?_ GE144.out | refine below_set ?_ GE146.out) | exact HB.out)) hb); clear BK144; clear BK146; clear HB; have BK144 := n0_; have BK146 := n1_; have HB := n2_; clear n0_ n1_ n2_; (try clear hb); (try clear hb2); (try clear hk); (try clear hi); have hcz67_0 : w66.cell? ⟨gb146, 0, none⟩ = some (.int .u64 x147000_2) := (blk_cell BK146.out 0).trans rfl; have hcz67_1 : w66.cell? ⟨gb146, 1, none⟩ = some (.int .u64 x147001_2) := (blk_cell BK146.out 1).trans rfl; have hfz67_0 := blk_frozen BK146.out 0; have hfz67_1 := blk_frozen BK146.out 1) | ((with_reducible refine gate_callee (f := 18) rfl ?_); refine goesL_ (some 53) rfl rfl Try.func18 (by kernel_rfl) rfl #[.agg #[.int .u64 x147000_2, .int .u64 x147001_2]] rfl (by (try simp only [List.map_toArray, List.map_cons, List.map_nil]); first | done | rfl | (simp only [List.length_drop, List.length_take]; rfl)) ?_; (with_reducible refine (window_Window_High.calls x147000_2 x147001_2 t152 _ A16.out).mono ?_); rintro e w68 ⟨rfl, hb⟩; refine ⟨_, rfl, ?_⟩; have n0_ := Aside0.mk (blk_below (g := gb144) (o := .cells #[.slice A0_0 l0_0.length c0_0, .slice (some ad150) l0_1.length c0_1, .int .u8 a0_2, .int .u64 a0_3] 48 (0, 0)) (by (with_reducible repeat (first | refine blk_drewN ?_ _ | refine blk_drew ?_ | refine blk_alloc ?_ _)); exact BK144.out) hb); have n1_ := Aside0.mk (blk_below (g := gb146) (o := .cells #[.int .u64 x147000_2, .int .u64 x147001_2] 26 (0, 0)) (by (with_reducible repeat (first | refine blk_drewN ?_ _ | refine blk_drew ?_ | refine blk_alloc ?_ _)); exact BK146.out) hb); have n2_ := Aside0.mk (below_step (by repeat (first | (with_reducible first | exact HB.out | apply below_alloc | apply pw_below_drewN | apply below_drew1 | refine below_set ?_ GE144.out | refine below_set ?_ GE146.out) | exact HB.out)) hb); clear BK144; clear BK146; clear HB; have BK144 := n0_; have BK146 := n1_; have HB := n2_; clear n0_ n1_ n2_; (try clear hb); (try clear hb2); (try clear hk); (try clear hi)) | ((with_reducible refine gate_callee (f := 16) rfl ?_); refine goesL_ (some 57) rfl rfl Try.func16 (by kernel_rfl) rfl #[.pointer (some ⟨gb146, 0, none⟩), .int .u64 (IntKind.u64.wrap (t152 - (ji38)))] rfl (by (try simp only [List.map_toArray, List.map_cons, List.map_nil]); first | done | (simp only [hji38]; rfl) | rfl | (simp only [List.length_drop, List.length_take]; rfl)) ?_; (with_reducible refine (window_Window_Mark.calls k2 gb146 x147000_2 x147001_2 (IntKind.u64.wrap (t152 - (ji38))) t153 t154 t155 w _ ?side1 ?side2 A17.out).mono ?_); (case side1 => repeat (first | (with_reducible first | exact (Aside0.mk (IsS26.mk_ BK146.out GE146.out)).out | apply IsS26.alloc | apply IsS26.drewN | apply IsS26.drew | apply IsS26.set_0 | apply IsS26.set_1 | refine IsS26.far ?_ NB146_144.out _) | exact (Aside0.mk (IsS26.mk_ BK146.out GE146.out)).out)); (case side2 => repeat (first | (with_reducible first | exact HB.out | apply below_alloc | apply pw_below_drewN | apply below_drew1 | refine below_set ?_ (IsS26.ge (Aside0.mk (IsS26.mk_ BK146.out GE146.out)).out) | refine below_set ?_ GE144.out) | exact HB.out)); rintro e w69 ⟨rfl, hi, hb, hk⟩; refine ⟨_, rfl, ?_⟩; have n0_ := Aside0.mk (KeepBut.blk hk (g' := gb144) (o := .cells #[.slice A0_0 l0_0.length c0_0, .slice (some ad150) l0_1.length c0_1, .int .u8 a0_2, .int .u64 a0_3] 48 (0, 0)) (by (with_reducible repeat (first | refine blk_drewN ?_ _ | refine blk_drew ?_ | refine blk_alloc ?_ _)); exact BK144.out) NB144_146.out (by simp)); have n1_ := Aside0.mk (hb); have n2_ := Aside0.mk (hi.1); clear BK144; clear HB; clear BK146; have BK144 := n0_; have HB := n1_; have BK146 := n2_; clear n0_ n1_ n2_; (try clear hb); (try clear hb2); (try clear hk); (try clear hi)) | ((with_reducible refine gate_callee (f := 12) rfl ?_); refine goesL_ (some 58) rfl rfl Try.func12 (by kernel_rfl) rfl #[.int .i64 t153] rfl (by (try simp only [List.map_toArray, List.map_cons, List.map_nil]); first | done | rfl | (simp only [List.length_drop, List.length_take]; rfl)) ?_; (with_reducible refine (joustlaw09_num.calls t153 t156 _ A18.out).mono ?_); rintro e w' ⟨rfl, ⟨nd, rfl⟩⟩; refine ⟨_, rfl, ?_⟩; have hcz70_0 : w69.cell? ⟨gb146, 0, none⟩ = some (.int .u64 t154) := (blk_cell BK146.out 0).trans rfl; have hcz70_1 : w69.cell? ⟨gb146, 1, none⟩ = some (.int .u64 t155) := (blk_cell BK146.out 1).trans rfl; have hfz70_0 := blk_frozen BK146.out 0; have hfz70_1 := blk_frozen BK146.out 1) | (go_at_call 20; (with_reducible refine (window_Window_Bits.calls t154 t155 t158 _ A48.out).mono ?_); rintro e w71 ⟨rfl, hb⟩; have n0_ := Aside0.mk (blk_below (g := gb144) (o := .cells #[.slice A0_0 l0_0.length c0_0, .slice (some ad150) l0_1.length c0_1, .int .u8 a0_2, .int .u64 a0_3] 48 (0, 0)) (by (with_reducible repeat (first | refine blk_drewN ?_ _ | refine blk_drew ?_ | refine blk_alloc ?_ _)); exact BK144.out) hb); have n1_ := Aside0.mk (blk_below (g := gb146) (o := .cells #[.int .u64 t154, .int .u64 t155] 26 (0, 0)) (by (with_reducible repeat (first | refine blk_drewN ?_ _ | refine blk_drew ?_ | refine blk_alloc ?_ _)); exact BK146.out) hb); have n2_ := Aside0.mk (below_step (by repeat (first | (with_reducible first | exact HB.out | apply below_alloc | apply pw_below_drewN | apply below_drew1 | refine below_set ?_ GE144.out | refine below_set ?_ GE146.out) | exact HB.out)) hb); clear BK144; clear BK146; clear HB; have BK144 := n0_; have BK146 := n1_; have HB := n2_; clear n0_ n1_ n2_; (try clear hb); (try clear hb2); (try clear hk); (try clear hi); have hcz72_0 : w71.cell? ⟨gb146, 0, none⟩ = some (.int .u64 t154) := (blk_cell BK146.out 0).trans rfl; have hcz72_1 : w71.cell? ⟨gb146, 1, none⟩ = some (.int .u64 t155) := (blk_cell BK146.out 1).trans rfl; have hfz72_0 := blk_frozen BK146.out 0; have hfz72_1 := blk_frozen BK146.out 1) | (go_at_call 18; (with_reducible refine (window_Window_High.calls t154 t155 t159 _ A52.out).mono ?_); rintro e w73 ⟨rfl, hb⟩; have n0_ := Aside0.mk (blk_below (g := gb144) (o := .cells #[.slice A0_0 l0_0.length c0_0, .slice (some ad150) l0_1.length c0_1, .int .u8 a0_2, .int .u64 a0_3] 48 (0, 0)) (by (with_reducible repeat (first | refine blk_drewN ?_ _ | refine blk_drew ?_ | refine blk_alloc ?_ _)); exact BK144.out) hb); have n1_ := Aside0.mk (blk_below (g := gb146) (o := .cells #[.int .u64 t154, .int .u64 t155] 26 (0, 0)) (by (with_reducible repeat (first | refine blk_drewN ?_ _ | refine blk_drew ?_ | refine blk_alloc ?_ _)); exact BK146.out) hb); have n2_ := Aside0.mk (below_step (by repeat (first | (with_reducible first | exact HB.out | apply below_alloc | apply pw_below_drewN | apply below_drew1 | refine below_set ?_ GE144.out | refine below_set ?_ GE146.out) | exact HB.out)) hb); clear BK144; clear BK146; clear HB; have BK144 := n0_; have BK146 := n1_; have HB := n2_; clear n0_ n1_ n2_; (try clear hb); (try clear hb2); (try clear hk); (try clear hi)))
                            go_ret
                            exact ⟨by first | rfl | (simp [errW_none, errW_some] <;> rfl) | (simp only [← hji38, ← hji40]; first | rfl | (simp [errW_none, errW_some] <;> rfl)) | (simp [*, errW_none, errW_some] <;> rfl), by repeat (first | (with_reducible first | exact HB.out | apply below_alloc | apply pw_below_drewN | apply below_drew1 | refine below_set ?_ GE144.out | refine below_set ?_ GE146.out) | exact HB.out)⟩
                        · rw [if_neg c51] at H
                          have c51b0 : (t158 == (Go.bits .or .u64 t151 (ji40))) = false := beq_eq_false_iff_ne.mpr c51
                          have c51b1 : (t158 != (Go.bits .or .u64 t151 (ji40))) = true := bne_iff_ne.mpr c51
                          obtain rfl := Option.some.inj H
                          have p150 : 0 ≤ (x8_2 : Int) := of_decide_eq_true (by first | (with_reducible assumption) | assumption)
                          have q150 : x8_2 < (l0_1.length : Int) := of_decide_eq_true (by first | (with_reducible assumption) | assumption)
                          obtain ⟨ad150, e150, hx150_0⟩ := Kd.at_int HR0_1.out x8_2 p150 q150
                          cases e150
                          replace hx150_0 := (HB.out.cell (World.block_lt_of_cell? w _ hx150_0)).trans hx150_0
                          replace p150 := eq_true p150
                          replace q150 := eq_true q150
                          have hnb74 := NB146_144.out
                          have hnc74 := NB144_146.out
                          have hcz75_0 : wr.cell? ⟨gb146, 0, none⟩ = some (.int .u64 x147000_2) := (blk_cell BK146.out 0).trans rfl
                          have hcz75_1 : wr.cell? ⟨gb146, 1, none⟩ = some (.int .u64 x147001_2) := (blk_cell BK146.out 1).trans rfl
                          have hfz75_0 := blk_frozen BK146.out 0
                          have hfz75_1 := blk_frozen BK146.out 1
                          go_wp2_with (first | ((with_reducible refine gate_callee (f := 20) rfl ?_); refine goesL_ (some 51) rfl rfl Try.func20 (by kernel_rfl) rfl #[.agg #[.int .u64 x147000_2, .int .u64 x147001_2]] rfl (by (try simp only [List.map_toArray, List.map_cons, List.map_nil]); first | done | rfl | (simp only [List.length_drop, List.length_take]; rfl)) ?_; (with_reducible refine (window_Window_Bits.calls x147000_2 x147001_2 t151 _ A15.out).mono ?_); rintro e w76 ⟨rfl, hb⟩; refine ⟨_, rfl, ?_⟩; have n0_ := Aside0.mk (blk_below (g := gb144) (o := .cells #[.slice A0_0 l0_0.length c0_0, .slice (some ad150) l0_1.length c0_1, .int .u8 a0_2, .int .u64 a0_3] 48 (0, 0)) (by (with_reducible repeat (first | refine blk_drewN ?_ _ | refine blk_drew ?_ | refine blk_alloc ?_ _)); exact BK144.out) hb); have n1_ := Aside0.mk (blk_below (g := gb146) (o := .cells #[.int .u64 x147000_2, .int .u64 x147001_2] 26 (0, 0)) (by (with_reducible repeat (first | refine blk_drewN ?_ _ | refine blk_drew ?_ | refine blk_alloc ?_ _)); exact BK146.out) hb); have n2_ := Aside0.mk (below_step (by repeat (first | (with_reducible first | exact HB.out | apply below_alloc | apply pw_below_drewN | apply below_drew1 | refine below_set ?_ GE144.out | refine below_set ?_ GE146.out) | exact HB.out)) hb); clear BK144; clear BK146; clear HB; have BK144 := n0_; have BK146 := n1_; have HB := n2_; clear n0_ n1_ n2_; (try clear hb); (try clear hb2); (try clear hk); (try clear hi); have hcz77_0 : w76.cell? ⟨gb146, 0, none⟩ = some (.int .u64 x147000_2) := (blk_cell BK146.out 0).trans rfl; have hcz77_1 : w76.cell? ⟨gb146, 1, none⟩ = some (.int .u64 x147001_2) := (blk_cell BK146.out 1).trans rfl; have hfz77_0 := blk_frozen BK146.out 0; have hfz77_1 := blk_frozen BK146.out 1) | ((with_reducible refine gate_callee (f := 18) rfl ?_); refine goesL_ (some 53) rfl rfl Try.func18 (by kernel_rfl) rfl #[.agg #[.int .u64 x147000_2, .int .u64 x147001_2]] rfl (by (try simp only [List.map_toArray, List.map_cons, List.map_nil]); first | done | rfl | (simp only [List.length_drop, List.length_take]; rfl)) ?_; (with_reducible refine (window_Window_High.calls x147000_2 x147001_2 t152 _ A16.out).mono ?_); rintro e w78 ⟨rfl, hb⟩; refine ⟨_, rfl, ?_⟩; have n0_ := Aside0.mk (blk_below (g := gb144) (o := .cells #[.slice A0_0 l0_0.length c0_0, .slice (some ad150) l0_1.length c0_1, .int .u8 a0_2, .int .u64 a0_3] 48 (0, 0)) (by (with_reducible repeat (first | refine blk_drewN ?_ _ | refine blk_drew ?_ | refine blk_alloc ?_ _)); exact BK144.out) hb); have n1_ := Aside0.mk (blk_below (g := gb146) (o := .cells #[.int .u64 x147000_2, .int .u64 x147001_2] 26 (0, 0)) (by (with_reducible repeat (first | refine blk_drewN ?_ _ | refine blk_drew ?_ | refine blk_alloc ?_ _)); exact BK146.out) hb); have n2_ := Aside0.mk (below_step (by repeat (first | (with_reducible first | exact HB.out | apply below_alloc | apply pw_below_drewN | apply below_drew1 | refine below_set ?_ GE144.out | refine below_set ?_ GE146.out) | exact HB.out)) hb); clear BK144; clear BK146; clear HB; have BK144 := n0_; have BK146 := n1_; have HB := n2_; clear n0_ n1_ n2_; (try clear hb); (try clear hb2); (try clear hk); (try clear hi)) | ((with_reducible refine gate_callee (f := 16) rfl ?_); refine goesL_ (some 57) rfl rfl Try.func16 (by kernel_rfl) rfl #[.pointer (some ⟨gb146, 0, none⟩), .int .u64 (IntKind.u64.wrap (t152 - (ji38)))] rfl (by (try simp only [List.map_toArray, List.map_cons, List.map_nil]); first | done | (simp only [hji38]; rfl) | rfl | (simp only [List.length_drop, List.length_take]; rfl)) ?_; (with_reducible refine (window_Window_Mark.calls k2 gb146 x147000_2 x147001_2 (IntKind.u64.wrap (t152 - (ji38))) t153 t154 t155 w _ ?side1 ?side2 A17.out).mono ?_); (case side1 => repeat (first | (with_reducible first | exact (Aside0.mk (IsS26.mk_ BK146.out GE146.out)).out | apply IsS26.alloc | apply IsS26.drewN | apply IsS26.drew | apply IsS26.set_0 | apply IsS26.set_1 | refine IsS26.far ?_ NB146_144.out _) | exact (Aside0.mk (IsS26.mk_ BK146.out GE146.out)).out)); (case side2 => repeat (first | (with_reducible first | exact HB.out | apply below_alloc | apply pw_below_drewN | apply below_drew1 | refine below_set ?_ (IsS26.ge (Aside0.mk (IsS26.mk_ BK146.out GE146.out)).out) | refine below_set ?_ GE144.out) | exact HB.out)); rintro e w79 ⟨rfl, hi, hb, hk⟩; refine ⟨_, rfl, ?_⟩; have n0_ := Aside0.mk (KeepBut.blk hk (g' := gb144) (o := .cells #[.slice A0_0 l0_0.length c0_0, .slice (some ad150) l0_1.length c0_1, .int .u8 a0_2, .int .u64 a0_3] 48 (0, 0)) (by (with_reducible repeat (first | refine blk_drewN ?_ _ | refine blk_drew ?_ | refine blk_alloc ?_ _)); exact BK144.out) NB144_146.out (by simp)); have n1_ := Aside0.mk (hb); have n2_ := Aside0.mk (hi.1); clear BK144; clear HB; clear BK146; have BK144 := n0_; have HB := n1_; have BK146 := n2_; clear n0_ n1_ n2_; (try clear hb); (try clear hb2); (try clear hk); (try clear hi)) | ((with_reducible refine gate_callee (f := 12) rfl ?_); refine goesL_ (some 58) rfl rfl Try.func12 (by kernel_rfl) rfl #[.int .i64 t153] rfl (by (try simp only [List.map_toArray, List.map_cons, List.map_nil]); first | done | rfl | (simp only [List.length_drop, List.length_take]; rfl)) ?_; (with_reducible refine (joustlaw09_num.calls t153 t156 _ A18.out).mono ?_); rintro e w' ⟨rfl, ⟨nd, rfl⟩⟩; refine ⟨_, rfl, ?_⟩; have hcz80_0 : w79.cell? ⟨gb146, 0, none⟩ = some (.int .u64 t154) := (blk_cell BK146.out 0).trans rfl; have hcz80_1 : w79.cell? ⟨gb146, 1, none⟩ = some (.int .u64 t155) := (blk_cell BK146.out 1).trans rfl; have hfz80_0 := blk_frozen BK146.out 0; have hfz80_1 := blk_frozen BK146.out 1) | (go_at_call 20; (with_reducible refine (window_Window_Bits.calls t154 t155 t158 _ A48.out).mono ?_); rintro e w81 ⟨rfl, hb⟩; have n0_ := Aside0.mk (blk_below (g := gb144) (o := .cells #[.slice A0_0 l0_0.length c0_0, .slice (some ad150) l0_1.length c0_1, .int .u8 a0_2, .int .u64 a0_3] 48 (0, 0)) (by (with_reducible repeat (first | refine blk_drewN ?_ _ | refine blk_drew ?_ | refine blk_alloc ?_ _)); exact BK144.out) hb); have n1_ := Aside0.mk (blk_below (g := gb146) (o := .cells #[.int .u64 t154, .int .u64 t155] 26 (0, 0)) (by (with_reducible repeat (first | refine blk_drewN ?_ _ | refine blk_drew ?_ | refine blk_alloc ?_ _)); exact BK146.out) hb); have n2_ := Aside0.mk (below_step (by repeat (first | (with_reducible first | exact HB.out | apply below_alloc | apply pw_below_drewN | apply below_drew1 | refine below_set ?_ GE144.out | refine below_set ?_ GE146.out) | exact HB.out)) hb); clear BK144; clear BK146; clear HB; have BK144 := n0_; have BK146 := n1_; have HB := n2_; clear n0_ n1_ n2_; (try clear hb); (try clear hb2); (try clear hk); (try clear hi)))
                          go_ret
                          exact ⟨by first | rfl | (simp [errW_none, errW_some] <;> rfl) | (simp only [← hji38, ← hji40]; first | rfl | (simp [errW_none, errW_some] <;> rfl)) | (simp [*, errW_none, errW_some] <;> rfl), by repeat (first | (with_reducible first | exact HB.out | apply below_alloc | apply pw_below_drewN | apply below_drew1 | refine below_set ?_ GE144.out | refine below_set ?_ GE146.out) | exact HB.out)⟩
                    · rw [if_neg c39] at H
                      exact absurd H (by simp)
                · rw [if_neg c14] at H
                  exact absurd H (by simp)
              · rw [if_neg c13] at H
                have c13b0 : decide (x8_2 < (l0_1.length : Int)) = false := decide_eq_false c13
                clear c13
                replace H := Option.bind_eq_some_iff.mp H
                obtain ⟨t161, A820, H⟩ := H
                replace H : ((window_Window_High.f x147000_2 x147001_2).bind fun t162 => (if a0_3 > t162 then (if (IntKind.u64.wrap (a0_3 - t162)) > 64 then ((window_Window_Mark.f k2 x147000_2 x147001_2 a0_3).bind fun bt163 => ((joustlaw09_num.f bt163.1).bind fun t166 => (if t166 = 92 then ((window_Window_Bits.f bt163.2.1 bt163.2.2).bind fun t167 => (if t167 = t161 then ((window_Window_High.f bt163.2.1 bt163.2.2).bind fun t168 => (joustlaw09_WindowSteps.j3 k2 ((1 + (Int.tmod a0_2 64)) % 256) t161 t162 (t168 != t162) bt163.2.1 bt163.2.2 x147000_2 x147001_2)) else (joustlaw09_WindowSteps.j3 k2 ((1 + (Int.tmod a0_2 64)) % 256) t161 t162 true bt163.2.1 bt163.2.2 x147000_2 x147001_2))) else (joustlaw09_WindowSteps.j3 k2 ((1 + (Int.tmod a0_2 64)) % 256) t161 t162 true bt163.2.1 bt163.2.2 x147000_2 x147001_2)))) else (joustlaw09_WindowSteps.j3 k2 ((1 + (Int.tmod a0_2 64)) % 256) t161 t162 false x147000_2 x147001_2 x147000_2 x147001_2)) else (joustlaw09_WindowSteps.j3 k2 ((1 + (Int.tmod a0_2 64)) % 256) t161 t162 false x147000_2 x147001_2 x147000_2 x147001_2))) = some r := H
                have A82 := Aside0.mk A820
                clear A820
                replace H := Option.bind_eq_some_iff.mp H
                obtain ⟨t162, A830, H⟩ := H
                replace H : (if a0_3 > t162 then (if (IntKind.u64.wrap (a0_3 - t162)) > 64 then ((window_Window_Mark.f k2 x147000_2 x147001_2 a0_3).bind fun bt163 => ((joustlaw09_num.f bt163.1).bind fun t166 => (if t166 = 92 then ((window_Window_Bits.f bt163.2.1 bt163.2.2).bind fun t167 => (if t167 = t161 then ((window_Window_High.f bt163.2.1 bt163.2.2).bind fun t168 => (joustlaw09_WindowSteps.j3 k2 ((1 + (Int.tmod a0_2 64)) % 256) t161 t162 (t168 != t162) bt163.2.1 bt163.2.2 x147000_2 x147001_2)) else (joustlaw09_WindowSteps.j3 k2 ((1 + (Int.tmod a0_2 64)) % 256) t161 t162 true bt163.2.1 bt163.2.2 x147000_2 x147001_2))) else (joustlaw09_WindowSteps.j3 k2 ((1 + (Int.tmod a0_2 64)) % 256) t161 t162 true bt163.2.1 bt163.2.2 x147000_2 x147001_2)))) else (joustlaw09_WindowSteps.j3 k2 ((1 + (Int.tmod a0_2 64)) % 256) t161 t162 false x147000_2 x147001_2 x147000_2 x147001_2)) else (joustlaw09_WindowSteps.j3 k2 ((1 + (Int.tmod a0_2 64)) % 256) t161 t162 false x147000_2 x147001_2 x147000_2 x147001_2)) = some r := H
                have A83 := Aside0.mk A830
                clear A830
                have HC84 := Aside0.mk H
                clear H
                have hnb85 := NB146_144.out
                have hnc85 := NB144_146.out
                have hcz86_0 : wr.cell? ⟨gb146, 0, none⟩ = some (.int .u64 x147000_2) := (blk_cell BK146.out 0).trans rfl
                have hcz86_1 : wr.cell? ⟨gb146, 1, none⟩ = some (.int .u64 x147001_2) := (blk_cell BK146.out 1).trans rfl
                have hfz86_0 := blk_frozen BK146.out 0
                have hfz86_1 := blk_frozen BK146.out 1
                go_upto_region 28 with (first | ((with_reducible refine gate_dst (N := 13) rfl ?_); refine box_event ?hg (N := 13) ?hd (cs := #[.int .u64 0, .int .u64 0]) (t := 26) ?hr ?_; (case hd => rfl); (case hg => rfl); (case hr => first | (go_simp; done) | (go_simp; rfl)); intro gb160 hg w87 hbox hb; have n0_ := Aside0.mk (blk_below (g := gb144) (o := .cells #[.slice A0_0 l0_0.length c0_0, .slice A0_1 l0_1.length c0_1, .int .u8 a0_2, .int .u64 a0_3] 48 (0, 0)) (by (with_reducible repeat (first | refine blk_drewN ?_ _ | refine blk_drew ?_ | refine blk_alloc ?_ _)); exact BK144.out) hb); have n1_ := Aside0.mk (blk_below (g := gb146) (o := .cells #[.int .u64 x147000_2, .int .u64 x147001_2] 26 (0, 0)) (by (with_reducible repeat (first | refine blk_drewN ?_ _ | refine blk_drew ?_ | refine blk_alloc ?_ _)); exact BK146.out) hb); have n2_ := Aside0.mk (below_step (by repeat (first | (with_reducible first | exact HB.out | apply below_alloc | apply pw_below_drewN | apply below_drew1 | refine below_set ?_ GE144.out | refine below_set ?_ GE146.out) | exact HB.out)) hb); have n3_ := Aside0.mk (hbox); have n4_ := Aside0.mk ((by rw [hg]; exact (below_size (by repeat (first | (with_reducible first | exact HB.out | apply below_alloc | apply pw_below_drewN | apply below_drew1 | refine below_set ?_ GE144.out | refine below_set ?_ GE146.out) | exact HB.out))) : w.heap.size ≤ gb160)); have n5_ := Aside0.mk ((by rw [hg]; exact (below_size (by repeat (first | (with_reducible first | exact HB.out | apply below_alloc | apply pw_below_drewN | apply below_drew1 | refine below_set ?_ GE144.out | refine below_set ?_ GE146.out) | exact HB.out))) : w.heap.size ≤ gb160)); have n6_ := Aside0.mk ((by rw [hg]; exact Nat.ne_of_lt (blk_lt (g := gb144) (o := .cells #[.slice A0_0 l0_0.length c0_0, .slice A0_1 l0_1.length c0_1, .int .u8 a0_2, .int .u64 a0_3] 48 (0, 0)) (by (with_reducible repeat (first | refine blk_drewN ?_ _ | refine blk_drew ?_ | refine blk_alloc ?_ _)); exact BK144.out)) : gb144 ≠ gb160)); have n7_ := Aside0.mk ((by rw [hg]; exact Nat.ne_of_gt (blk_lt (g := gb144) (o := .cells #[.slice A0_0 l0_0.length c0_0, .slice A0_1 l0_1.length c0_1, .int .u8 a0_2, .int .u64 a0_3] 48 (0, 0)) (by (with_reducible repeat (first | refine blk_drewN ?_ _ | refine blk_drew ?_ | refine blk_alloc ?_ _)); exact BK144.out)) : gb160 ≠ gb144)); have n8_ := Aside0.mk ((by rw [hg]; exact Nat.ne_of_lt (blk_lt (g := gb146) (o := .cells #[.int .u64 x147000_2, .int .u64 x147001_2] 26 (0, 0)) (by (with_reducible repeat (first | refine blk_drewN ?_ _ | refine blk_drew ?_ | refine blk_alloc ?_ _)); exact BK146.out)) : gb146 ≠ gb160)); have n9_ := Aside0.mk ((by rw [hg]; exact Nat.ne_of_gt (blk_lt (g := gb146) (o := .cells #[.int .u64 x147000_2, .int .u64 x147001_2] 26 (0, 0)) (by (with_reducible repeat (first | refine blk_drewN ?_ _ | refine blk_drew ?_ | refine blk_alloc ?_ _)); exact BK146.out)) : gb160 ≠ gb146)); clear BK144; clear BK146; clear HB; have BK144 := n0_; have BK146 := n1_; have HB := n2_; have BK160 := n3_; have GW160 := n4_; have GE160 := n5_; have NB144_160 := n6_; have NB160_144 := n7_; have NB146_160 := n8_; have NB160_146 := n9_; clear n0_ n1_ n2_ n3_ n4_ n5_ n6_ n7_ n8_ n9_; clear hb hbox hg; have hnb88 := NB160_144.out; have hnc88 := NB144_160.out; have hnb89 := NB160_146.out; have hnc89 := NB146_160.out; have hcz90_0 : w87.cell? ⟨gb160, 0, none⟩ = some (.int .u64 0) := (blk_cell BK160.out 0).trans rfl; have hcz90_1 : w87.cell? ⟨gb160, 1, none⟩ = some (.int .u64 0) := (blk_cell BK160.out 1).trans rfl; have hfz90_0 := blk_frozen BK160.out 0; have hfz90_1 := blk_frozen BK160.out 1; have hcz91_0 : w87.cell? ⟨gb146, 0, none⟩ = some (.int .u64 x147000_2) := (blk_cell BK146.out 0).trans rfl; have hcz91_1 : w87.cell? ⟨gb146, 1, none⟩ = some (.int .u64 x147001_2) := (blk_cell BK146.out 1).trans rfl; have hfz91_0 := blk_frozen BK146.out 0; have hfz91_1 := blk_frozen BK146.out 1) | ((with_reducible refine gate_callee (f := 20) rfl ?_); refine goesL_ (some 105) rfl rfl Try.func20 (by kernel_rfl) rfl #[.agg #[.int .u64 x147000_2, .int .u64 x147001_2]] rfl (by (try simp only [List.map_toArray, List.map_cons, List.map_nil]); first | done | rfl | (simp only [List.length_drop, List.length_take]; rfl)) ?_; (with_reducible refine (window_Window_Bits.calls x147000_2 x147001_2 t161 _ A82.out).mono ?_); rintro e w92 ⟨rfl, hb⟩; refine ⟨_, rfl, ?_⟩; have n0_ := Aside0.mk (blk_below (g := gb144) (o := .cells #[.slice A0_0 l0_0.length c0_0, .slice A0_1 l0_1.length c0_1, .int .u8 a0_2, .int .u64 a0_3] 48 (0, 0)) (by (with_reducible repeat (first | refine blk_drewN ?_ _ | refine blk_drew ?_ | refine blk_alloc ?_ _)); refine blk_far ?_ NB144_160.out _; (with_reducible repeat (first | refine blk_drewN ?_ _ | refine blk_drew ?_ | refine blk_alloc ?_ _)); refine blk_far ?_ NB144_160.out _; (with_reducible repeat (first | refine blk_drewN ?_ _ | refine blk_drew ?_ | refine blk_alloc ?_ _)); exact BK144.out) hb); have n1_ := Aside0.mk (blk_below (g := gb146) (o := .cells #[.int .u64 x147000_2, .int .u64 x147001_2] 26 (0, 0)) (by (with_reducible repeat (first | refine blk_drewN ?_ _ | refine blk_drew ?_ | refine blk_alloc ?_ _)); refine blk_far ?_ NB146_160.out _; (with_reducible repeat (first | refine blk_drewN ?_ _ | refine blk_drew ?_ | refine blk_alloc ?_ _)); refine blk_far ?_ NB146_160.out _; (with_reducible repeat (first | refine blk_drewN ?_ _ | refine blk_drew ?_ | refine blk_alloc ?_ _)); exact BK146.out) hb); have n2_ := Aside0.mk (blk_below (g := gb160) (o := .cells #[.int .u64 x147000_2, .int .u64 x147001_2] 26 (0, 0)) (by (with_reducible repeat (first | refine blk_drewN ?_ _ | refine blk_drew ?_ | refine blk_alloc ?_ _)); refine blk_put (cs := #[.int .u64 x147000_2, .int .u64 0]) ?_ 1 _ rfl; (with_reducible repeat (first | refine blk_drewN ?_ _ | refine blk_drew ?_ | refine blk_alloc ?_ _)); refine blk_put (cs := #[.int .u64 0, .int .u64 0]) ?_ 0 _ rfl; (with_reducible repeat (first | refine blk_drewN ?_ _ | refine blk_drew ?_ | refine blk_alloc ?_ _)); exact BK160.out) hb); have n3_ := Aside0.mk (below_step (by repeat (first | (with_reducible first | exact HB.out | apply below_alloc | apply pw_below_drewN | apply below_drew1 | refine below_set ?_ GE144.out | refine below_set ?_ GE146.out | refine below_set ?_ GE160.out) | exact HB.out)) hb); clear BK144; clear BK146; clear BK160; clear HB; have BK144 := n0_; have BK146 := n1_; have BK160 := n2_; have HB := n3_; clear n0_ n1_ n2_ n3_; (try clear hb); (try clear hb2); (try clear hk); (try clear hi); have hcz93_0 : w92.cell? ⟨gb146, 0, none⟩ = some (.int .u64 x147000_2) := (blk_cell BK146.out 0).trans rfl; have hcz93_1 : w92.cell? ⟨gb146, 1, none⟩ = some (.int .u64 x147001_2) := (blk_cell BK146.out 1).trans rfl; have hfz93_0 := blk_frozen BK146.out 0; have hfz93_1 := blk_frozen BK146.out 1) | ((with_reducible refine gate_callee (f := 18) rfl ?_); refine goesL_ (some 107) rfl rfl Try.func18 (by kernel_rfl) rfl #[.agg #[.int .u64 x147000_2, .int .u64 x147001_2]] rfl (by (try simp only [List.map_toArray, List.map_cons, List.map_nil]); first | done | rfl | (simp only [List.length_drop, List.length_take]; rfl)) ?_; (with_reducible refine (window_Window_High.calls x147000_2 x147001_2 t162 _ A83.out).mono ?_); rintro e w94 ⟨rfl, hb⟩; refine ⟨_, rfl, ?_⟩; have n0_ := Aside0.mk (blk_below (g := gb144) (o := .cells #[.slice A0_0 l0_0.length c0_0, .slice A0_1 l0_1.length c0_1, .int .u8 a0_2, .int .u64 a0_3] 48 (0, 0)) (by (with_reducible repeat (first | refine blk_drewN ?_ _ | refine blk_drew ?_ | refine blk_alloc ?_ _)); exact BK144.out) hb); have n1_ := Aside0.mk (blk_below (g := gb146) (o := .cells #[.int .u64 x147000_2, .int .u64 x147001_2] 26 (0, 0)) (by (with_reducible repeat (first | refine blk_drewN ?_ _ | refine blk_drew ?_ | refine blk_alloc ?_ _)); exact BK146.out) hb); have n2_ := Aside0.mk (blk_below (g := gb160) (o := .cells #[.int .u64 x147000_2, .int .u64 x147001_2] 26 (0, 0)) (by (with_reducible repeat (first | refine blk_drewN ?_ _ | refine blk_drew ?_ | refine blk_alloc ?_ _)); exact BK160.out) hb); have n3_ := Aside0.mk (below_step (by repeat (first | (with_reducible first | exact HB.out | apply below_alloc | apply pw_below_drewN | apply below_drew1 | refine below_set ?_ GE144.out | refine below_set ?_ GE146.out | refine below_set ?_ GE160.out) | exact HB.out)) hb); clear BK144; clear BK146; clear BK160; clear HB; have BK144 := n0_; have BK146 := n1_; have BK160 := n2_; have HB := n3_; clear n0_ n1_ n2_ n3_; (try clear hb); (try clear hb2); (try clear hk); (try clear hi)))
                (try simp only [Act.put, List.setIfInBounds_toArray, List.set_cons_zero, List.set_cons_succ])
                go_cut [134] (fun v134 wc => ∃ (kq : Nat) (x134_83 : Bool) (x147000_83 : Int) (x147001_83 : Int), v134 = .bool x134_83 ∧ Aside0 (joustlaw09_WindowSteps.j3 kq ((1 + (Int.tmod a0_2 64)) % 256) t161 t162 x134_83 x147000_83 x147001_83 x147000_2 x147001_2 = some r) ∧ Aside0 (kq ≤ k2) ∧ Aside0 (wc.heap[gb144]? = some (.cells #[(.slice A0_0 l0_0.length c0_0), (.slice A0_1 l0_1.length c0_1), .int .u8 a0_2, .int .u64 a0_3] 48 (0, 0))) ∧ Aside0 (wc.heap[gb146]? = some (.cells #[.int .u64 x147000_83, .int .u64 x147001_83] 26 (0, 0))) ∧ Aside0 (wc.heap[gb160]? = some (.cells #[.int .u64 x147000_2, .int .u64 x147001_2] 26 (0, 0))) ∧ Aside0 (Below w.heap.size w wc))
                case first => as_aux_lemma =>
                  have H := HC84.out
                  clear HC84
                  by_cases c95 : a0_3 > t162
                  · rw [if_pos c95] at H
                    have c95b0 : decide (t162 < a0_3) = true := decide_eq_true c95
                    clear c95
                    (first | rw [c95b0] | (simp only [i64_w, i32_w]; rw [c95b0]) | skip)
                    by_cases c96 : (IntKind.u64.wrap (a0_3 - t162)) > 64
                    · rw [if_pos c96] at H
                      have c96b0 : decide (64 < (IntKind.u64.wrap (a0_3 - t162))) = true := decide_eq_true c96
                      clear c96
                      replace H := Option.bind_eq_some_iff.mp H
                      obtain ⟨⟨t163, t164, t165⟩, A970, H⟩ := H
                      replace H : ((joustlaw09_num.f t163).bind fun t166 => (if t166 = 92 then ((window_Window_Bits.f t164 t165).bind fun t167 => (if t167 = t161 then ((window_Window_High.f t164 t165).bind fun t168 => (joustlaw09_WindowSteps.j3 k2 ((1 + (Int.tmod a0_2 64)) % 256) t161 t162 (t168 != t162) t164 t165 x147000_2 x147001_2)) else (joustlaw09_WindowSteps.j3 k2 ((1 + (Int.tmod a0_2 64)) % 256) t161 t162 true t164 t165 x147000_2 x147001_2))) else (joustlaw09_WindowSteps.j3 k2 ((1 + (Int.tmod a0_2 64)) % 256) t161 t162 true t164 t165 x147000_2 x147001_2))) = some r := H
                      have A97 := Aside0.mk A970
                      clear A970
                      replace H := Option.bind_eq_some_iff.mp H
                      obtain ⟨t166, A980, H⟩ := H
                      replace H : (if t166 = 92 then ((window_Window_Bits.f t164 t165).bind fun t167 => (if t167 = t161 then ((window_Window_High.f t164 t165).bind fun t168 => (joustlaw09_WindowSteps.j3 k2 ((1 + (Int.tmod a0_2 64)) % 256) t161 t162 (t168 != t162) t164 t165 x147000_2 x147001_2)) else (joustlaw09_WindowSteps.j3 k2 ((1 + (Int.tmod a0_2 64)) % 256) t161 t162 true t164 t165 x147000_2 x147001_2))) else (joustlaw09_WindowSteps.j3 k2 ((1 + (Int.tmod a0_2 64)) % 256) t161 t162 true t164 t165 x147000_2 x147001_2)) = some r := H
                      have A98 := Aside0.mk A980
                      clear A980
                      by_cases c99 : t166 = 92
                      · rw [if_pos c99] at H
                        have c99b0 : (t166 == 92) = true := beq_iff_eq.mpr c99
                        have c99b1 : (t166 != 92) = false := bne_eq_false_iff_eq.mpr c99
                        clear c99
                        replace H := Option.bind_eq_some_iff.mp H
                        obtain ⟨t167, A1000, H⟩ := H
                        replace H : (if t167 = t161 then ((window_Window_High.f t164 t165).bind fun t168 => (joustlaw09_WindowSteps.j3 k2 ((1 + (Int.tmod a0_2 64)) % 256) t161 t162 (t168 != t162) t164 t165 x147000_2 x147001_2)) else (joustlaw09_WindowSteps.j3 k2 ((1 + (Int.tmod a0_2 64)) % 256) t161 t162 true t164 t165 x147000_2 x147001_2)) = some r := H
                        have A100 := Aside0.mk A1000
                        clear A1000
                        by_cases c101 : t167 = t161
                        · rw [if_pos c101] at H
                          have c101b0 : (t167 == t161) = true := beq_iff_eq.mpr c101
                          have c101b1 : (t167 != t161) = false := bne_eq_false_iff_eq.mpr c101
                          clear c101
                          replace H := Option.bind_eq_some_iff.mp H
                          obtain ⟨t168, A1020, H⟩ := H
                          replace H : (joustlaw09_WindowSteps.j3 k2 ((1 + (Int.tmod a0_2 64)) % 256) t161 t162 (t168 != t162) t164 t165 x147000_2 x147001_2) = some r := H
                          have A102 := Aside0.mk A1020
                          clear A1020
                          have H' := Aside0.mk H
                          clear H
                          go_wp2_with (first | (go_at_call 16; (with_reducible refine (window_Window_Mark.calls k2 gb146 x147000_2 x147001_2 a0_3 t163 t164 t165 w _ ?side1 ?side2 A97.out).mono ?_); (case side1 => repeat (first | (with_reducible first | exact (Aside0.mk (IsS26.mk_ BK146.out GE146.out)).out | apply IsS26.alloc | apply IsS26.drewN | apply IsS26.drew | apply IsS26.set_0 | apply IsS26.set_1 | refine IsS26.far ?_ NB146_144.out _ | refine IsS26.far ?_ NB146_160.out _) | exact (Aside0.mk (IsS26.mk_ BK146.out GE146.out)).out)); (case side2 => repeat (first | (with_reducible first | exact HB.out | apply below_alloc | apply pw_below_drewN | apply below_drew1 | refine below_set ?_ (IsS26.ge (Aside0.mk (IsS26.mk_ BK146.out GE146.out)).out) | refine below_set ?_ GE144.out | refine below_set ?_ GE160.out) | exact HB.out)); rintro e w103 ⟨rfl, hi, hb, hk⟩; have n0_ := Aside0.mk (KeepBut.blk hk (g' := gb144) (o := .cells #[.slice A0_0 l0_0.length c0_0, .slice A0_1 l0_1.length c0_1, .int .u8 a0_2, .int .u64 a0_3] 48 (0, 0)) (by (with_reducible repeat (first | refine blk_drewN ?_ _ | refine blk_drew ?_ | refine blk_alloc ?_ _)); exact BK144.out) NB144_146.out (by simp)); have n1_ := Aside0.mk (KeepBut.blk hk (g' := gb160) (o := .cells #[.int .u64 x147000_2, .int .u64 x147001_2] 26 (0, 0)) (by (with_reducible repeat (first | refine blk_drewN ?_ _ | refine blk_drew ?_ | refine blk_alloc ?_ _)); exact BK160.out) NB160_146.out (by simp)); have n2_ := Aside0.mk (hb); have n3_ := Aside0.mk (hi.1); clear BK144; clear BK160; clear HB; clear BK146; have BK144 := n0_; have BK160 := n1_; have HB := n2_; have BK146 := n3_; clear n0_ n1_ n2_ n3_; (try clear hb); (try clear hb2); (try clear hk); (try clear hi)) | (go_at_call 12; (with_reducible refine (joustlaw09_num.calls t163 t166 _ A98.out).mono ?_); rintro e w' ⟨rfl, ⟨nd, rfl⟩⟩; have hnb104 := NB146_144.out; have hnc104 := NB144_146.out; have hnb105 := NB146_160.out; have hnc105 := NB160_146.out; have hcz106_0 : w103.cell? ⟨gb146, 0, none⟩ = some (.int .u64 t164) := (blk_cell BK146.out 0).trans rfl; have hcz106_1 : w103.cell? ⟨gb146, 1, none⟩ = some (.int .u64 t165) := (blk_cell BK146.out 1).trans rfl; have hfz106_0 := blk_frozen BK146.out 0; have hfz106_1 := blk_frozen BK146.out 1) | (go_at_call 20; (with_reducible refine (window_Window_Bits.calls t164 t165 t167 _ A100.out).mono ?_); rintro e w107 ⟨rfl, hb⟩; have n0_ := Aside0.mk (blk_below (g := gb144) (o := .cells #[.slice A0_0 l0_0.length c0_0, .slice A0_1 l0_1.length c0_1, .int .u8 a0_2, .int .u64 a0_3] 48 (0, 0)) (by (with_reducible repeat (first | refine blk_drewN ?_ _ | refine blk_drew ?_ | refine blk_alloc ?_ _)); exact BK144.out) hb); have n1_ := Aside0.mk (blk_below (g := gb146) (o := .cells #[.int .u64 t164, .int .u64 t165] 26 (0, 0)) (by (with_reducible repeat (first | refine blk_drewN ?_ _ | refine blk_drew ?_ | refine blk_alloc ?_ _)); exact BK146.out) hb); have n2_ := Aside0.mk (blk_below (g := gb160) (o := .cells #[.int .u64 x147000_2, .int .u64 x147001_2] 26 (0, 0)) (by (with_reducible repeat (first | refine blk_drewN ?_ _ | refine blk_drew ?_ | refine blk_alloc ?_ _)); exact BK160.out) hb); have n3_ := Aside0.mk (below_step (by repeat (first | (with_reducible first | exact HB.out | apply below_alloc | apply pw_below_drewN | apply below_drew1 | refine below_set ?_ GE144.out | refine below_set ?_ GE146.out | refine below_set ?_ GE160.out) | exact HB.out)) hb); clear BK144; clear BK146; clear BK160; clear HB; have BK144 := n0_; have BK146 := n1_; have BK160 := n2_; have HB := n3_; clear n0_ n1_ n2_ n3_; (try clear hb); (try clear hb2); (try clear hk); (try clear hi); have hcz108_0 : w107.cell? ⟨gb146, 0, none⟩ = some (.int .u64 t164) := (blk_cell BK146.out 0).trans rfl; have hcz108_1 : w107.cell? ⟨gb146, 1, none⟩ = some (.int .u64 t165) := (blk_cell BK146.out 1).trans rfl; have hfz108_0 := blk_frozen BK146.out 0; have hfz108_1 := blk_frozen BK146.out 1) | (go_at_call 18; (with_reducible refine (window_Window_High.calls t164 t165 t168 _ A102.out).mono ?_); rintro e w109 ⟨rfl, hb⟩; have n0_ := Aside0.mk (blk_below (g := gb144) (o := .cells #[.slice A0_0 l0_0.length c0_0, .slice A0_1 l0_1.length c0_1, .int .u8 a0_2, .int .u64 a0_3] 48 (0, 0)) (by (with_reducible repeat (first | refine blk_drewN ?_ _ | refine blk_drew ?_ | refine blk_alloc ?_ _)); exact BK144.out) hb); have n1_ := Aside0.mk (blk_below (g := gb146) (o := .cells #[.int .u64 t164, .int .u64 t165] 26 (0, 0)) (by (with_reducible repeat (first | refine blk_drewN ?_ _ | refine blk_drew ?_ | refine blk_alloc ?_ _)); exact BK146.out) hb); have n2_ := Aside0.mk (blk_below (g := gb160) (o := .cells #[.int .u64 x147000_2, .int .u64 x147001_2] 26 (0, 0)) (by (with_reducible repeat (first | refine blk_drewN ?_ _ | refine blk_drew ?_ | refine blk_alloc ?_ _)); exact BK160.out) hb); have n3_ := Aside0.mk (below_step (by repeat (first | (with_reducible first | exact HB.out | apply below_alloc | apply pw_below_drewN | apply below_drew1 | refine below_set ?_ GE144.out | refine below_set ?_ GE146.out | refine below_set ?_ GE160.out) | exact HB.out)) hb); clear BK144; clear BK146; clear BK160; clear HB; have BK144 := n0_; have BK146 := n1_; have BK160 := n2_; have HB := n3_; clear n0_ n1_ n2_ n3_; (try clear hb); (try clear hb2); (try clear hk); (try clear hi)))
                          go_meet
                          case rel => exact ⟨_, ((t168 != t162)), (t164), (t165), (by first | rfl | (simp; done) | (simp [*]; done)), H', ⟨by have := HJ3.out; have := HK2.out; first | omega | exact Nat.le_refl _⟩, ⟨by (with_reducible repeat (first | refine blk_drewN ?_ _ | refine blk_drew ?_ | refine blk_alloc ?_ _)); exact BK144.out⟩, ⟨by (with_reducible repeat (first | refine blk_drewN ?_ _ | refine blk_drew ?_ | refine blk_alloc ?_ _)); exact BK146.out⟩, ⟨by (with_reducible repeat (first | refine blk_drewN ?_ _ | refine blk_drew ?_ | refine blk_alloc ?_ _)); exact BK160.out⟩, ⟨by repeat (first | (with_reducible first | exact HB.out | apply below_alloc | apply pw_below_drewN | apply below_drew1 | refine below_set ?_ GE144.out | refine below_set ?_ GE146.out | refine below_set ?_ GE160.out) | exact HB.out)⟩⟩
                        · rw [if_neg c101] at H
                          have c101b0 : (t167 == t161) = false := beq_eq_false_iff_ne.mpr c101
                          have c101b1 : (t167 != t161) = true := bne_iff_ne.mpr c101
                          have H' := Aside0.mk H
                          clear H
                          go_wp2_with (first | (go_at_call 16; (with_reducible refine (window_Window_Mark.calls k2 gb146 x147000_2 x147001_2 a0_3 t163 t164 t165 w _ ?side1 ?side2 A97.out).mono ?_); (case side1 => repeat (first | (with_reducible first | exact (Aside0.mk (IsS26.mk_ BK146.out GE146.out)).out | apply IsS26.alloc | apply IsS26.drewN | apply IsS26.drew | apply IsS26.set_0 | apply IsS26.set_1 | refine IsS26.far ?_ NB146_144.out _ | refine IsS26.far ?_ NB146_160.out _) | exact (Aside0.mk (IsS26.mk_ BK146.out GE146.out)).out)); (case side2 => repeat (first | (with_reducible first | exact HB.out | apply below_alloc | apply pw_below_drewN | apply below_drew1 | refine below_set ?_ (IsS26.ge (Aside0.mk (IsS26.mk_ BK146.out GE146.out)).out) | refine below_set ?_ GE144.out | refine below_set ?_ GE160.out) | exact HB.out)); rintro e w110 ⟨rfl, hi, hb, hk⟩; have n0_ := Aside0.mk (KeepBut.blk hk (g' := gb144) (o := .cells #[.slice A0_0 l0_0.length c0_0, .slice A0_1 l0_1.length c0_1, .int .u8 a0_2, .int .u64 a0_3] 48 (0, 0)) (by (with_reducible repeat (first | refine blk_drewN ?_ _ | refine blk_drew ?_ | refine blk_alloc ?_ _)); exact BK144.out) NB144_146.out (by simp)); have n1_ := Aside0.mk (KeepBut.blk hk (g' := gb160) (o := .cells #[.int .u64 x147000_2, .int .u64 x147001_2] 26 (0, 0)) (by (with_reducible repeat (first | refine blk_drewN ?_ _ | refine blk_drew ?_ | refine blk_alloc ?_ _)); exact BK160.out) NB160_146.out (by simp)); have n2_ := Aside0.mk (hb); have n3_ := Aside0.mk (hi.1); clear BK144; clear BK160; clear HB; clear BK146; have BK144 := n0_; have BK160 := n1_; have HB := n2_; have BK146 := n3_; clear n0_ n1_ n2_ n3_; (try clear hb); (try clear hb2); (try clear hk); (try clear hi)) | (go_at_call 12; (with_reducible refine (joustlaw09_num.calls t163 t166 _ A98.out).mono ?_); rintro e w' ⟨rfl, ⟨nd, rfl⟩⟩; have hnb111 := NB146_144.out; have hnc111 := NB144_146.out; have hnb112 := NB146_160.out; have hnc112 := NB160_146.out; have hcz113_0 : w110.cell? ⟨gb146, 0, none⟩ = some (.int .u64 t164) := (blk_cell BK146.out 0).trans rfl; have hcz113_1 : w110.cell? ⟨gb146, 1, none⟩ = some (.int .u64 t165) := (blk_cell BK146.out 1).trans rfl; have hfz113_0 := blk_frozen BK146.out 0; have hfz113_1 := blk_frozen BK146.out 1) | (go_at_call 20; (with_reducible refine (window_Window_Bits.calls t164 t165 t167 _ A100.out).mono ?_); rintro e w114 ⟨rfl, hb⟩; have n0_ := Aside0.mk (blk_below (g := gb144) (o := .cells #[.slice A0_0 l0_0.length c0_0, .slice A0_1 l0_1.length c0_1, .int .u8 a0_2, .int .u64 a0_3] 48 (0, 0)) (by (with_reducible repeat (first | refine blk_drewN ?_ _ | refine blk_drew ?_ | refine blk_alloc ?_ _)); exact BK144.out) hb); have n1_ := Aside0.mk (blk_below (g := gb146) (o := .cells #[.int .u64 t164, .int .u64 t165] 26 (0, 0)) (by (with_reducible repeat (first | refine blk_drewN ?_ _ | refine blk_drew ?_ | refine blk_alloc ?_ _)); exact BK146.out) hb); have n2_ := Aside0.mk (blk_below (g := gb160) (o := .cells #[.int .u64 x147000_2, .int .u64 x147001_2] 26 (0, 0)) (by (with_reducible repeat (first | refine blk_drewN ?_ _ | refine blk_drew ?_ | refine blk_alloc ?_ _)); exact BK160.out) hb); have n3_ := Aside0.mk (below_step (by repeat (first | (with_reducible first | exact HB.out | apply below_alloc | apply pw_below_drewN | apply below_drew1 | refine below_set ?_ GE144.out | refine below_set ?_ GE146.out | refine below_set ?_ GE160.out) | exact HB.out)) hb); clear BK144; clear BK146; clear BK160; clear HB; have BK144 := n0_; have BK146 := n1_; have BK160 := n2_; have HB := n3_; clear n0_ n1_ n2_ n3_; (try clear hb); (try clear hb2); (try clear hk); (try clear hi)))
                          go_meet
                          case rel => exact ⟨_, (true), (t164), (t165), (by first | rfl | (simp; done) | (simp [*]; done)), H', ⟨by have := HJ3.out; have := HK2.out; first | omega | exact Nat.le_refl _⟩, ⟨by (with_reducible repeat (first | refine blk_drewN ?_ _ | refine blk_drew ?_ | refine blk_alloc ?_ _)); exact BK144.out⟩, ⟨by (with_reducible repeat (first | refine blk_drewN ?_ _ | refine blk_drew ?_ | refine blk_alloc ?_ _)); exact BK146.out⟩, ⟨by (with_reducible repeat (first | refine blk_drewN ?_ _ | refine blk_drew ?_ | refine blk_alloc ?_ _)); exact BK160.out⟩, ⟨by repeat (first | (with_reducible first | exact HB.out | apply below_alloc | apply pw_below_drewN | apply below_drew1 | refine below_set ?_ GE144.out | refine below_set ?_ GE146.out | refine below_set ?_ GE160.out) | exact HB.out)⟩⟩
                      · rw [if_neg c99] at H
                        have c99b0 : (t166 == 92) = false := beq_eq_false_iff_ne.mpr c99
                        have c99b1 : (t166 != 92) = true := bne_iff_ne.mpr c99
                        have H' := Aside0.mk H
                        clear H
                        go_wp2_with (first | (go_at_call 16; (with_reducible refine (window_Window_Mark.calls k2 gb146 x147000_2 x147001_2 a0_3 t163 t164 t165 w _ ?side1 ?side2 A97.out).mono ?_); (case side1 => repeat (first | (with_reducible first | exact (Aside0.mk (IsS26.mk_ BK146.out GE146.out)).out | apply IsS26.alloc | apply IsS26.drewN | apply IsS26.drew | apply IsS26.set_0 | apply IsS26.set_1 | refine IsS26.far ?_ NB146_144.out _ | refine IsS26.far ?_ NB146_160.out _) | exact (Aside0.mk (IsS26.mk_ BK146.out GE146.out)).out)); (case side2 => repeat (first | (with_reducible first | exact HB.out | apply below_alloc | apply pw_below_drewN | apply below_drew1 | refine below_set ?_ (IsS26.ge (Aside0.mk (IsS26.mk_ BK146.out GE146.out)).out) | refine below_set ?_ GE144.out | refine below_set ?_ GE160.out) | exact HB.out)); rintro e w115 ⟨rfl, hi, hb, hk⟩; have n0_ := Aside0.mk (KeepBut.blk hk (g' := gb144) (o := .cells #[.slice A0_0 l0_0.length c0_0, .slice A0_1 l0_1.length c0_1, .int .u8 a0_2, .int .u64 a0_3] 48 (0, 0)) (by (with_reducible repeat (first | refine blk_drewN ?_ _ | refine blk_drew ?_ | refine blk_alloc ?_ _)); exact BK144.out) NB144_146.out (by simp)); have n1_ := Aside0.mk (KeepBut.blk hk (g' := gb160) (o := .cells #[.int .u64 x147000_2, .int .u64 x147001_2] 26 (0, 0)) (by (with_reducible repeat (first | refine blk_drewN ?_ _ | refine blk_drew ?_ | refine blk_alloc ?_ _)); exact BK160.out) NB160_146.out (by simp)); have n2_ := Aside0.mk (hb); have n3_ := Aside0.mk (hi.1); clear BK144; clear BK160; clear HB; clear BK146; have BK144 := n0_; have BK160 := n1_; have HB := n2_; have BK146 := n3_; clear n0_ n1_ n2_ n3_; (try clear hb); (try clear hb2); (try clear hk); (try clear hi)) | (go_at_call 12; (with_reducible refine (joustlaw09_num.calls t163 t166 _ A98.out).mono ?_); rintro e w' ⟨rfl, ⟨nd, rfl⟩⟩))
                        go_meet
                        case rel => exact ⟨_, (true), (t164), (t165), (by first | rfl | (simp; done) | (simp [*]; done)), H', ⟨by have := HJ3.out; have := HK2.out; first | omega | exact Nat.le_refl _⟩, ⟨by (with_reducible repeat (first | refine blk_drewN ?_ _ | refine blk_drew ?_ | refine blk_alloc ?_ _)); exact BK144.out⟩, ⟨by (with_reducible repeat (first | refine blk_drewN ?_ _ | refine blk_drew ?_ | refine blk_alloc ?_ _)); exact BK146.out⟩, ⟨by (with_reducible repeat (first | refine blk_drewN ?_ _ | refine blk_drew ?_ | refine blk_alloc ?_ _)); exact BK160.out⟩, ⟨by repeat (first | (with_reducible first | exact HB.out | apply below_alloc | apply pw_below_drewN | apply below_drew1 | refine below_set ?_ GE144.out | refine below_set ?_ GE146.out | refine below_set ?_ GE160.out) | exact HB.out)⟩⟩
                    · rw [if_neg c96] at H
                      have c96b0 : decide (64 < (IntKind.u64.wrap (a0_3 - t162))) = false := decide_eq_false c96
                      clear c96
                      have H' := Aside0.mk H
                      clear H
                      go_wp2
                      go_meet
                      case rel => exact ⟨_, (false), (x147000_2), (x147001_2), (by first | rfl | (simp; done) | (simp [*]; done)), H', ⟨by have := HJ3.out; have := HK2.out; first | omega | exact Nat.le_refl _⟩, ⟨by (with_reducible repeat (first | refine blk_drewN ?_ _ | refine blk_drew ?_ | refine blk_alloc ?_ _)); exact BK144.out⟩, ⟨by (with_reducible repeat (first | refine blk_drewN ?_ _ | refine blk_drew ?_ | refine blk_alloc ?_ _)); exact BK146.out⟩, ⟨by (with_reducible repeat (first | refine blk_drewN ?_ _ | refine blk_drew ?_ | refine blk_alloc ?_ _)); exact BK160.out⟩, ⟨by repeat (first | (with_reducible first | exact HB.out | apply below_alloc | apply pw_below_drewN | apply below_drew1 | refine below_set ?_ GE144.out | refine below_set ?_ GE146.out | refine below_set ?_ GE160.out) | exact HB.out)⟩⟩
                  · rw [if_neg c95] at H
                    have c95b0 : decide (t162 < a0_3) = false := decide_eq_false c95
                    clear c95
                    (first | rw [c95b0] | (simp only [i64_w, i32_w]; rw [c95b0]) | skip)
                    have H' := Aside0.mk H
                    clear H
                    go_wp2
                    go_meet
                    case rel => exact ⟨_, (false), (x147000_2), (x147001_2), (by first | rfl | (simp; done) | (simp [*]; done)), H', ⟨by have := HJ3.out; have := HK2.out; first | omega | exact Nat.le_refl _⟩, ⟨by (with_reducible repeat (first | refine blk_drewN ?_ _ | refine blk_drew ?_ | refine blk_alloc ?_ _)); exact BK144.out⟩, ⟨by (with_reducible repeat (first | refine blk_drewN ?_ _ | refine blk_drew ?_ | refine blk_alloc ?_ _)); exact BK146.out⟩, ⟨by (with_reducible repeat (first | refine blk_drewN ?_ _ | refine blk_drew ?_ | refine blk_alloc ?_ _)); exact BK160.out⟩, ⟨by repeat (first | (with_reducible first | exact HB.out | apply below_alloc | apply pw_below_drewN | apply below_drew1 | refine below_set ?_ GE144.out | refine below_set ?_ GE146.out | refine below_set ?_ GE160.out) | exact HB.out)⟩⟩
                case rest => as_aux_lemma =>
                  clear HC84
                  try clear c1
                  try clear p1
                  try clear q1
                  try clear hx1
                  try clear c2
                  try clear p2
                  try clear c3
                  try clear c4
                  try clear c5
                  try clear c6
                  try clear p6
                  try clear c7
                  try clear c8
                  try clear c9
                  try clear c9b0
                  try clear c9b1
                  try clear c10
                  try clear c11
                  try clear c12
                  try clear c13
                  try clear c13b0
                  try clear c14
                  try clear c14b0
                  try clear p15
                  try clear q15
                  try clear hx15
                  try clear c16
                  try clear c18
                  try clear c19
                  try clear c19b0
                  try clear c20
                  try clear c21
                  try clear c27
                  try clear c27b0
                  try clear c27b1
                  try clear c28
                  try clear c28b0
                  try clear c28b1
                  try clear c29
                  try clear c31
                  try clear c31b0
                  try clear c31b1
                  try clear c32
                  try clear c35
                  try clear c39
                  try clear c39b0
                  try clear c39b1
                  try clear c41
                  try clear c41b0
                  try clear c41b1
                  try clear c41b2
                  try clear c42
                  try clear c49
                  try clear c49b0
                  try clear c50
                  try clear c50b0
                  try clear c51
                  try clear c51b0
                  try clear c51b1
                  try clear c53
                  try clear c53b0
                  try clear c53b1
                  try clear c54
                  try clear c64
                  try clear p64
                  try clear c74
                  try clear c85
                  try clear c88
                  try clear c89
                  try clear c95
                  try clear c95b0
                  try clear c96
                  try clear c96b0
                  try clear c99
                  try clear c99b0
                  try clear c99b1
                  try clear c101
                  try clear c101b0
                  try clear c101b1
                  try clear c104
                  try clear c105
                  try clear c111
                  try clear c112
                  try clear hcz106_0
                  try clear hcz106_1
                  try clear hcz108_0
                  try clear hcz108_1
                  try clear hcz113_0
                  try clear hcz113_1
                  try clear hcz22_0
                  try clear hcz22_1
                  try clear hcz24_0
                  try clear hcz24_1
                  try clear hcz33_0
                  try clear hcz33_1
                  try clear hcz36_0
                  try clear hcz36_1
                  try clear hcz43_0
                  try clear hcz43_1
                  try clear hcz45_0
                  try clear hcz45_1
                  try clear hcz55_0
                  try clear hcz55_1
                  try clear hcz57_0
                  try clear hcz57_1
                  try clear hcz60_0
                  try clear hcz60_1
                  try clear hcz62_0
                  try clear hcz62_1
                  try clear hcz65_0
                  try clear hcz65_1
                  try clear hcz67_0
                  try clear hcz67_1
                  try clear hcz70_0
                  try clear hcz70_1
                  try clear hcz72_0
                  try clear hcz72_1
                  try clear hcz75_0
                  try clear hcz75_1
                  try clear hcz77_0
                  try clear hcz77_1
                  try clear hcz7_0
                  try clear hcz7_1
                  try clear hcz7_2
                  try clear hcz7_3
                  try clear hcz80_0
                  try clear hcz80_1
                  try clear hcz86_0
                  try clear hcz86_1
                  try clear hcz90_0
                  try clear hcz90_1
                  try clear hcz91_0
                  try clear hcz91_1
                  try clear hcz93_0
                  try clear hcz93_1
                  try clear hfz106_0
                  try clear hfz106_1
                  try clear hfz108_0
                  try clear hfz108_1
                  try clear hfz113_0
                  try clear hfz113_1
                  try clear hfz22_0
                  try clear hfz22_1
                  try clear hfz24_0
                  try clear hfz24_1
                  try clear hfz33_0
                  try clear hfz33_1
                  try clear hfz36_0
                  try clear hfz36_1
                  try clear hfz43_0
                  try clear hfz43_1
                  try clear hfz45_0
                  try clear hfz45_1
                  try clear hfz55_0
                  try clear hfz55_1
                  try clear hfz57_0
                  try clear hfz57_1
                  try clear hfz60_0
                  try clear hfz60_1
                  try clear hfz62_0
                  try clear hfz62_1
                  try clear hfz65_0
                  try clear hfz65_1
                  try clear hfz67_0
                  try clear hfz67_1
                  try clear hfz70_0
                  try clear hfz70_1
                  try clear hfz72_0
                  try clear hfz72_1
                  try clear hfz75_0
                  try clear hfz75_1
                  try clear hfz77_0
                  try clear hfz77_1
                  try clear hfz7_0
                  try clear hfz7_1
                  try clear hfz7_2
                  try clear hfz7_3
                  try clear hfz80_0
                  try clear hfz80_1
                  try clear hfz86_0
                  try clear hfz86_1
                  try clear hfz90_0
                  try clear hfz90_1
                  try clear hfz91_0
                  try clear hfz91_1
                  try clear hfz93_0
                  try clear hfz93_1
                  try clear hx150_0
                  try clear p1
                  try clear p15
                  try clear p150
                  try clear p2
                  try clear p6
                  try clear q1
                  try clear q15
                  try clear q150
                  obtain ⟨kq, x134_83, x147000_83, x147001_83, rfl, HA, HJ83, BK144, BK146, BK160, HB⟩ := hcut
                  cases kq with
                  | zero => exact absurd HA.out (by simp [joustlaw09_WindowSteps.j3])
                  | succ kj83 =>
                    have H := HA.out
                    clear HA
                    simp only [joustlaw09_WindowSteps.j3] at H
                    by_cases c116 : x134_83 = true
                    · subst c116
                      have H1 : (some false) = some r := by rw [if_pos rfl] at H; exact H
                      clear H
                      have H := H1
                      clear H1
                      obtain rfl := Option.some.inj H
                      go_wp2
                      go_ret
                      exact ⟨by first | rfl | (simp [errW_none, errW_some] <;> rfl) | (simp [*, errW_none, errW_some] <;> rfl), by repeat (first | (with_reducible first | exact HB.out | apply below_alloc | apply pw_below_drewN | apply below_drew1 | refine below_set ?_ GE144.out | refine below_set ?_ GE146.out | refine below_set ?_ GE160.out) | exact HB.out)⟩
                    · replace c116 := Bool.eq_false_iff.mpr c116
                      subst c116
                      have H1 : ((window_Window_Mark.f kj83 x147000_83 x147001_83 (IntKind.u64.wrap (t162 + ((1 + (Int.tmod a0_2 64)) % 256)))).bind fun bt169 => ((joustlaw09_num.f bt169.1).bind fun t172 => (if t172 = 0 then ((window_Window_High.f bt169.2.1 bt169.2.2).bind fun t173 => (if t173 = (IntKind.u64.wrap (t162 + ((1 + (Int.tmod a0_2 64)) % 256))) then ((window_Window_Bits.f bt169.2.1 bt169.2.2).bind fun t174 => (if 0 ≤ ((1 + (Int.tmod a0_2 64)) % 256) then (joustlaw09_WindowSteps.j4 kj83 ((1 + (Int.tmod a0_2 64)) % 256) t161 t162 (t174 != (Go.bits .or .u64 (shl .u64 t161 ((1 + (Int.tmod a0_2 64)) % 256)) 1)) bt169.2.1 bt169.2.2 x147000_2 x147001_2) else (none))) else (joustlaw09_WindowSteps.j4 kj83 ((1 + (Int.tmod a0_2 64)) % 256) t161 t162 true bt169.2.1 bt169.2.2 x147000_2 x147001_2))) else (joustlaw09_WindowSteps.j4 kj83 ((1 + (Int.tmod a0_2 64)) % 256) t161 t162 true bt169.2.1 bt169.2.2 x147000_2 x147001_2)))) = some r := by rw [if_neg (show ¬ (false = true) by decide)] at H; exact H
                      clear H
                      have H := H1
                      clear H1
                      have HC117 := Aside0.mk H
                      clear H
                      go_upto_region 30 with (fail)
                      go_cut [157] (fun v157 wc => ∃ (kq : Nat) (x157_116 : Bool) (x147000_116 : Int) (x147001_116 : Int), v157 = .bool x157_116 ∧ Aside0 (joustlaw09_WindowSteps.j4 kq ((1 + (Int.tmod a0_2 64)) % 256) t161 t162 x157_116 x147000_116 x147001_116 x147000_2 x147001_2 = some r) ∧ Aside0 (kq ≤ kj83) ∧ Aside0 (wc.heap[gb144]? = some (.cells #[(.slice A0_0 l0_0.length c0_0), (.slice A0_1 l0_1.length c0_1), .int .u8 a0_2, .int .u64 a0_3] 48 (0, 0))) ∧ Aside0 (wc.heap[gb146]? = some (.cells #[.int .u64 x147000_116, .int .u64 x147001_116] 26 (0, 0))) ∧ Aside0 (wc.heap[gb160]? = some (.cells #[.int .u64 x147000_2, .int .u64 x147001_2] 26 (0, 0))) ∧ Aside0 (Below w.heap.size w wc))
                      case first => as_aux_lemma =>
                        have H := HC117.out
                        clear HC117
                        replace H := Option.bind_eq_some_iff.mp H
                        obtain ⟨⟨t169, t170, t171⟩, A1180, H⟩ := H
                        replace H : ((joustlaw09_num.f t169).bind fun t172 => (if t172 = 0 then ((window_Window_High.f t170 t171).bind fun t173 => (if t173 = (IntKind.u64.wrap (t162 + ((1 + (Int.tmod a0_2 64)) % 256))) then ((window_Window_Bits.f t170 t171).bind fun t174 => (if 0 ≤ ((1 + (Int.tmod a0_2 64)) % 256) then (joustlaw09_WindowSteps.j4 kj83 ((1 + (Int.tmod a0_2 64)) % 256) t161 t162 (t174 != (Go.bits .or .u64 (shl .u64 t161 ((1 + (Int.tmod a0_2 64)) % 256)) 1)) t170 t171 x147000_2 x147001_2) else (none))) else (joustlaw09_WindowSteps.j4 kj83 ((1 + (Int.tmod a0_2 64)) % 256) t161 t162 true t170 t171 x147000_2 x147001_2))) else (joustlaw09_WindowSteps.j4 kj83 ((1 + (Int.tmod a0_2 64)) % 256) t161 t162 true t170 t171 x147000_2 x147001_2))) = some r := H
                        have A118 := Aside0.mk A1180
                        clear A1180
                        replace H := Option.bind_eq_some_iff.mp H
                        obtain ⟨t172, A1190, H⟩ := H
                        replace H : (if t172 = 0 then ((window_Window_High.f t170 t171).bind fun t173 => (if t173 = (IntKind.u64.wrap (t162 + ((1 + (Int.tmod a0_2 64)) % 256))) then ((window_Window_Bits.f t170 t171).bind fun t174 => (if 0 ≤ ((1 + (Int.tmod a0_2 64)) % 256) then (joustlaw09_WindowSteps.j4 kj83 ((1 + (Int.tmod a0_2 64)) % 256) t161 t162 (t174 != (Go.bits .or .u64 (shl .u64 t161 ((1 + (Int.tmod a0_2 64)) % 256)) 1)) t170 t171 x147000_2 x147001_2) else (none))) else (joustlaw09_WindowSteps.j4 kj83 ((1 + (Int.tmod a0_2 64)) % 256) t161 t162 true t170 t171 x147000_2 x147001_2))) else (joustlaw09_WindowSteps.j4 kj83 ((1 + (Int.tmod a0_2 64)) % 256) t161 t162 true t170 t171 x147000_2 x147001_2)) = some r := H
                        have A119 := Aside0.mk A1190
                        clear A1190
                        by_cases c120 : t172 = 0
                        · rw [if_pos c120] at H
                          have c120b0 : (t172 == 0) = true := beq_iff_eq.mpr c120
                          have c120b1 : (t172 != 0) = false := bne_eq_false_iff_eq.mpr c120
                          clear c120
                          (first | rw [c120b0] | (simp only [i64_w, i32_w]; rw [c120b0]) | skip)
                          replace H := Option.bind_eq_some_iff.mp H
                          obtain ⟨t173, A1210, H⟩ := H
                          replace H : (if t173 = (IntKind.u64.wrap (t162 + ((1 + (Int.tmod a0_2 64)) % 256))) then ((window_Window_Bits.f t170 t171).bind fun t174 => (if 0 ≤ ((1 + (Int.tmod a0_2 64)) % 256) then (joustlaw09_WindowSteps.j4 kj83 ((1 + (Int.tmod a0_2 64)) % 256) t161 t162 (t174 != (Go.bits .or .u64 (shl .u64 t161 ((1 + (Int.tmod a0_2 64)) % 256)) 1)) t170 t171 x147000_2 x147001_2) else (none))) else (joustlaw09_WindowSteps.j4 kj83 ((1 + (Int.tmod a0_2 64)) % 256) t161 t162 true t170 t171 x147000_2 x147001_2)) = some r := H
                          have A121 := Aside0.mk A1210
                          clear A1210
                          by_cases c122 : t173 = (IntKind.u64.wrap (t162 + ((1 + (Int.tmod a0_2 64)) % 256)))
                          · rw [if_pos c122] at H
                            have c122b0 : (t173 == (IntKind.u64.wrap (t162 + ((1 + (Int.tmod a0_2 64)) % 256)))) = true := beq_iff_eq.mpr c122
                            have c122b1 : (t173 != (IntKind.u64.wrap (t162 + ((1 + (Int.tmod a0_2 64)) % 256)))) = false := bne_eq_false_iff_eq.mpr c122
                            clear c122
                            replace H := Option.bind_eq_some_iff.mp H
                            obtain ⟨t174, A1230, H⟩ := H
                            replace H : (if 0 ≤ ((1 + (Int.tmod a0_2 64)) % 256) then (joustlaw09_WindowSteps.j4 kj83 ((1 + (Int.tmod a0_2 64)) % 256) t161 t162 (t174 != (Go.bits .or .u64 (shl .u64 t161 ((1 + (Int.tmod a0_2 64)) % 256)) 1)) t170 t171 x147000_2 x147001_2) else (none)) = some r := H
                            have A123 := Aside0.mk A1230
                            clear A1230
                            obtain ⟨ji124, hji124⟩ : ∃ j_ : Int, ((1 + (Int.tmod a0_2 64)) % 256) = j_ := ⟨_, rfl⟩
                            replace H : (if 0 ≤ (ji124) then (joustlaw09_WindowSteps.j4 kj83 (ji124) t161 t162 (t174 != (Go.bits .or .u64 (shl .u64 t161 (ji124)) 1)) t170 t171 x147000_2 x147001_2) else (none)) = some r := by first | (rw [hji124] at H; exact H) | (simp only [hji124] at H ⊢; exact H)
                            (try rw [hji124] at c122b0)
                            (try rw [hji124] at c122b1)
                            (try rw [hji124] at A118)
                            (try rw [hji124] at A119)
                            (try rw [hji124] at A121)
                            (try rw [hji124] at A123)
                            by_cases c125 : 0 ≤ (ji124)
                            · rw [if_pos c125] at H
                              have c125b0 := eq_true c125
                              have c125b1 : decide (0 ≤ (ji124)) = true := decide_eq_true c125
                              clear c125
                              obtain ⟨ji126, hji126⟩ : ∃ j_ : Int, (shl .u64 t161 (ji124)) = j_ := ⟨_, rfl⟩
                              replace H : (joustlaw09_WindowSteps.j4 kj83 (ji124) t161 t162 (t174 != (Go.bits .or .u64 (ji126) 1)) t170 t171 x147000_2 x147001_2) = some r := by first | (rw [hji126] at H; exact H) | (simp only [hji126] at H ⊢; exact H)
                              (try rw [hji126] at A118)
                              (try rw [hji126] at A119)
                              (try rw [hji126] at A121)
                              (try rw [hji126] at A123)
                              have hji126_ : (IntKind.u64.wrap (t161 * 2 ^ min (ji124).toNat 64)) = ji126 := hji126
                              have hji126z : (ji124) ≤ 64 → (IntKind.u64.wrap (t161 * 2 ^ (ji124).toNat)) = ji126 := shl_small hji126
                              have H' := Aside0.mk H
                              clear H
                              go_wp2_with (first | ((with_reducible refine gate_callee (f := 16) rfl ?_); refine goesL_ (some 138) rfl rfl Try.func16 (by kernel_rfl) rfl #[.pointer (some ⟨gb146, 0, none⟩), .int .u64 (IntKind.u64.wrap (t162 + (ji124)))] rfl (by (try simp only [List.map_toArray, List.map_cons, List.map_nil]); first | done | (simp only [hji124]; rfl) | rfl | (simp only [List.length_drop, List.length_take]; rfl)) ?_; (with_reducible refine (window_Window_Mark.calls kj83 gb146 x147000_83 x147001_83 (IntKind.u64.wrap (t162 + (ji124))) t169 t170 t171 w _ ?side1 ?side2 A118.out).mono ?_); (case side1 => repeat (first | (with_reducible first | exact (Aside0.mk (IsS26.mk_ BK146.out GE146.out)).out | apply IsS26.alloc | apply IsS26.drewN | apply IsS26.drew | apply IsS26.set_0 | apply IsS26.set_1 | refine IsS26.far ?_ NB146_144.out _ | refine IsS26.far ?_ NB146_160.out _) | exact (Aside0.mk (IsS26.mk_ BK146.out GE146.out)).out)); (case side2 => repeat (first | (with_reducible first | exact HB.out | apply below_alloc | apply pw_below_drewN | apply below_drew1 | refine below_set ?_ (IsS26.ge (Aside0.mk (IsS26.mk_ BK146.out GE146.out)).out) | refine below_set ?_ GE144.out | refine below_set ?_ GE160.out) | exact HB.out)); rintro e w127 ⟨rfl, hi, hb, hk⟩; refine ⟨_, rfl, ?_⟩; have n0_ := Aside0.mk (KeepBut.blk hk (g' := gb144) (o := .cells #[.slice A0_0 l0_0.length c0_0, .slice A0_1 l0_1.length c0_1, .int .u8 a0_2, .int .u64 a0_3] 48 (0, 0)) (by (with_reducible repeat (first | refine blk_drewN ?_ _ | refine blk_drew ?_ | refine blk_alloc ?_ _)); exact BK144.out) NB144_146.out (by simp)); have n1_ := Aside0.mk (KeepBut.blk hk (g' := gb160) (o := .cells #[.int .u64 x147000_2, .int .u64 x147001_2] 26 (0, 0)) (by (with_reducible repeat (first | refine blk_drewN ?_ _ | refine blk_drew ?_ | refine blk_alloc ?_ _)); exact BK160.out) NB160_146.out (by simp)); have n2_ := Aside0.mk (hb); have n3_ := Aside0.mk (hi.1); clear BK144; clear BK160; clear HB; clear BK146; have BK144 := n0_; have BK160 := n1_; have HB := n2_; have BK146 := n3_; clear n0_ n1_ n2_ n3_; (try clear hb); (try clear hb2); (try clear hk); (try clear hi)) | ((with_reducible refine gate_callee (f := 12) rfl ?_); refine goesL_ (some 139) rfl rfl Try.func12 (by kernel_rfl) rfl #[.int .i64 t169] rfl (by (try simp only [List.map_toArray, List.map_cons, List.map_nil]); first | done | rfl | (simp only [List.length_drop, List.length_take]; rfl)) ?_; (with_reducible refine (joustlaw09_num.calls t169 t172 _ A119.out).mono ?_); rintro e w' ⟨rfl, ⟨nd, rfl⟩⟩; refine ⟨_, rfl, ?_⟩; have hnb128 := NB146_144.out; have hnc128 := NB144_146.out; have hnb129 := NB146_160.out; have hnc129 := NB160_146.out; have hcz130_0 : w127.cell? ⟨gb146, 0, none⟩ = some (.int .u64 t170) := (blk_cell BK146.out 0).trans rfl; have hcz130_1 : w127.cell? ⟨gb146, 1, none⟩ = some (.int .u64 t171) := (blk_cell BK146.out 1).trans rfl; have hfz130_0 := blk_frozen BK146.out 0; have hfz130_1 := blk_frozen BK146.out 1) | (go_at_call 18; (with_reducible refine (window_Window_High.calls t170 t171 t173 _ A121.out).mono ?_); rintro e w131 ⟨rfl, hb⟩; have n0_ := Aside0.mk (blk_below (g := gb144) (o := .cells #[.slice A0_0 l0_0.length c0_0, .slice A0_1 l0_1.length c0_1, .int .u8 a0_2, .int .u64 a0_3] 48 (0, 0)) (by (with_reducible repeat (first | refine blk_drewN ?_ _ | refine blk_drew ?_ | refine blk_alloc ?_ _)); exact BK144.out) hb); have n1_ := Aside0.mk (blk_below (g := gb146) (o := .cells #[.int .u64 t170, .int .u64 t171] 26 (0, 0)) (by (with_reducible repeat (first | refine blk_drewN ?_ _ | refine blk_drew ?_ | refine blk_alloc ?_ _)); exact BK146.out) hb); have n2_ := Aside0.mk (blk_below (g := gb160) (o := .cells #[.int .u64 x147000_2, .int .u64 x147001_2] 26 (0, 0)) (by (with_reducible repeat (first | refine blk_drewN ?_ _ | refine blk_drew ?_ | refine blk_alloc ?_ _)); exact BK160.out) hb); have n3_ := Aside0.mk (below_step (by repeat (first | (with_reducible first | exact HB.out | apply below_alloc | apply pw_below_drewN | apply below_drew1 | refine below_set ?_ GE144.out | refine below_set ?_ GE146.out | refine below_set ?_ GE160.out) | exact HB.out)) hb); clear BK144; clear BK146; clear BK160; clear HB; have BK144 := n0_; have BK146 := n1_; have BK160 := n2_; have HB := n3_; clear n0_ n1_ n2_ n3_; (try clear hb); (try clear hb2); (try clear hk); (try clear hi); have hcz132_0 : w131.cell? ⟨gb146, 0, none⟩ = some (.int .u64 t170) := (blk_cell BK146.out 0).trans rfl; have hcz132_1 : w131.cell? ⟨gb146, 1, none⟩ = some (.int .u64 t171) := (blk_cell BK146.out 1).trans rfl; have hfz132_0 := blk_frozen BK146.out 0; have hfz132_1 := blk_frozen BK146.out 1) | (go_at_call 20; (with_reducible refine (window_Window_Bits.calls t170 t171 t174 _ A123.out).mono ?_); rintro e w133 ⟨rfl, hb⟩; have n0_ := Aside0.mk (blk_below (g := gb144) (o := .cells #[.slice A0_0 l0_0.length c0_0, .slice A0_1 l0_1.length c0_1, .int .u8 a0_2, .int .u64 a0_3] 48 (0, 0)) (by (with_reducible repeat (first | refine blk_drewN ?_ _ | refine blk_drew ?_ | refine blk_alloc ?_ _)); exact BK144.out) hb); have n1_ := Aside0.mk (blk_below (g := gb146) (o := .cells #[.int .u64 t170, .int .u64 t171] 26 (0, 0)) (by (with_reducible repeat (first | refine blk_drewN ?_ _ | refine blk_drew ?_ | refine blk_alloc ?_ _)); exact BK146.out) hb); have n2_ := Aside0.mk (blk_below (g := gb160) (o := .cells #[.int .u64 x147000_2, .int .u64 x147001_2] 26 (0, 0)) (by (with_reducible repeat (first | refine blk_drewN ?_ _ | refine blk_drew ?_ | refine blk_alloc ?_ _)); exact BK160.out) hb); have n3_ := Aside0.mk (below_step (by repeat (first | (with_reducible first | exact HB.out | apply below_alloc | apply pw_below_drewN | apply below_drew1 | refine below_set ?_ GE144.out | refine below_set ?_ GE146.out | refine below_set ?_ GE160.out) | exact HB.out)) hb); clear BK144; clear BK146; clear BK160; clear HB; have BK144 := n0_; have BK146 := n1_; have BK160 := n2_; have HB := n3_; clear n0_ n1_ n2_ n3_; (try clear hb); (try clear hb2); (try clear hk); (try clear hi)))
                              (try simp only [← hji124])
                              go_meet
                              case rel => exact ⟨_, ((t174 != (Go.bits .or .u64 (ji126) 1))), (t170), (t171), (by first | rfl | (simp; done) | (simp only [← hji126] <;> (first | rfl | simp)) | (simp [*]; done)), (by rw [hji124]; exact H'), ⟨by have := HJ3.out; have := HK2.out; have := HJ83.out; first | omega | exact Nat.le_refl _⟩, ⟨by (with_reducible repeat (first | refine blk_drewN ?_ _ | refine blk_drew ?_ | refine blk_alloc ?_ _)); exact BK144.out⟩, ⟨by (with_reducible repeat (first | refine blk_drewN ?_ _ | refine blk_drew ?_ | refine blk_alloc ?_ _)); exact BK146.out⟩, ⟨by (with_reducible repeat (first | refine blk_drewN ?_ _ | refine blk_drew ?_ | refine blk_alloc ?_ _)); exact BK160.out⟩, ⟨by repeat (first | (with_reducible first | exact HB.out | apply below_alloc | apply pw_below_drewN | apply below_drew1 | refine below_set ?_ GE144.out | refine below_set ?_ GE146.out | refine below_set ?_ GE160.out) | exact HB.out)⟩⟩
                            · rw [if_neg c125] at H
                              exact absurd H (by simp)
                          · rw [if_neg c122] at H
                            have c122b0 : (t173 == (IntKind.u64.wrap (t162 + ((1 + (Int.tmod a0_2 64)) % 256)))) = false := beq_eq_false_iff_ne.mpr c122
                            have c122b1 : (t173 != (IntKind.u64.wrap (t162 + ((1 + (Int.tmod a0_2 64)) % 256)))) = true := bne_iff_ne.mpr c122
                            have H' := Aside0.mk H
                            clear H
                            go_wp2_with (first | ((with_reducible refine gate_callee (f := 16) rfl ?_); refine goesL_ (some 138) rfl rfl Try.func16 (by kernel_rfl) rfl #[.pointer (some ⟨gb146, 0, none⟩), .int .u64 (IntKind.u64.wrap (t162 + ((1 + (Int.tmod a0_2 64)) % 256)))] rfl (by (try simp only [List.map_toArray, List.map_cons, List.map_nil]); first | done | rfl | (simp only [List.length_drop, List.length_take]; rfl)) ?_; (with_reducible refine (window_Window_Mark.calls kj83 gb146 x147000_83 x147001_83 (IntKind.u64.wrap (t162 + ((1 + (Int.tmod a0_2 64)) % 256))) t169 t170 t171 w _ ?side1 ?side2 A118.out).mono ?_); (case side1 => repeat (first | (with_reducible first | exact (Aside0.mk (IsS26.mk_ BK146.out GE146.out)).out | apply IsS26.alloc | apply IsS26.drewN | apply IsS26.drew | apply IsS26.set_0 | apply IsS26.set_1 | refine IsS26.far ?_ NB146_144.out _ | refine IsS26.far ?_ NB146_160.out _) | exact (Aside0.mk (IsS26.mk_ BK146.out GE146.out)).out)); (case side2 => repeat (first | (with_reducible first | exact HB.out | apply below_alloc | apply pw_below_drewN | apply below_drew1 | refine below_set ?_ (IsS26.ge (Aside0.mk (IsS26.mk_ BK146.out GE146.out)).out) | refine below_set ?_ GE144.out | refine below_set ?_ GE160.out) | exact HB.out)); rintro e w134 ⟨rfl, hi, hb, hk⟩; refine ⟨_, rfl, ?_⟩; have n0_ := Aside0.mk (KeepBut.blk hk (g' := gb144) (o := .cells #[.slice A0_0 l0_0.length c0_0, .slice A0_1 l0_1.length c0_1, .int .u8 a0_2, .int .u64 a0_3] 48 (0, 0)) (by (with_reducible repeat (first | refine blk_drewN ?_ _ | refine blk_drew ?_ | refine blk_alloc ?_ _)); exact BK144.out) NB144_146.out (by simp)); have n1_ := Aside0.mk (KeepBut.blk hk (g' := gb160) (o := .cells #[.int .u64 x147000_2, .int .u64 x147001_2] 26 (0, 0)) (by (with_reducible repeat (first | refine blk_drewN ?_ _ | refine blk_drew ?_ | refine blk_alloc ?_ _)); exact BK160.out) NB160_146.out (by simp)); have n2_ := Aside0.mk (hb); have n3_ := Aside0.mk (hi.1); clear BK144; clear BK160; clear HB; clear BK146; have BK144 := n0_; have BK160 := n1_; have HB := n2_; have BK146 := n3_; clear n0_ n1_ n2_ n3_; (try clear hb); (try clear hb2); (try clear hk); (try clear hi)) | ((with_reducible refine gate_callee (f := 12) rfl ?_); refine goesL_ (some 139) rfl rfl Try.func12 (by kernel_rfl) rfl #[.int .i64 t169] rfl (by (try simp only [List.map_toArray, List.map_cons, List.map_nil]); first | done | rfl | (simp only [List.length_drop, List.length_take]; rfl)) ?_; (with_reducible refine (joustlaw09_num.calls t169 t172 _ A119.out).mono ?_); rintro e w' ⟨rfl, ⟨nd, rfl⟩⟩; refine ⟨_, rfl, ?_⟩; have hnb135 := NB146_144.out; have hnc135 := NB144_146.out; have hnb136 := NB146_160.out; have hnc136 := NB160_146.out; have hcz137_0 : w134.cell? ⟨gb146, 0, none⟩ = some (.int .u64 t170) := (blk_cell BK146.out 0).trans rfl; have hcz137_1 : w134.cell? ⟨gb146, 1, none⟩ = some (.int .u64 t171) := (blk_cell BK146.out 1).trans rfl; have hfz137_0 := blk_frozen BK146.out 0; have hfz137_1 := blk_frozen BK146.out 1) | (go_at_call 18; (with_reducible refine (window_Window_High.calls t170 t171 t173 _ A121.out).mono ?_); rintro e w138 ⟨rfl, hb⟩; have n0_ := Aside0.mk (blk_below (g := gb144) (o := .cells #[.slice A0_0 l0_0.length c0_0, .slice A0_1 l0_1.length c0_1, .int .u8 a0_2, .int .u64 a0_3] 48 (0, 0)) (by (with_reducible repeat (first | refine blk_drewN ?_ _ | refine blk_drew ?_ | refine blk_alloc ?_ _)); exact BK144.out) hb); have n1_ := Aside0.mk (blk_below (g := gb146) (o := .cells #[.int .u64 t170, .int .u64 t171] 26 (0, 0)) (by (with_reducible repeat (first | refine blk_drewN ?_ _ | refine blk_drew ?_ | refine blk_alloc ?_ _)); exact BK146.out) hb); have n2_ := Aside0.mk (blk_below (g := gb160) (o := .cells #[.int .u64 x147000_2, .int .u64 x147001_2] 26 (0, 0)) (by (with_reducible repeat (first | refine blk_drewN ?_ _ | refine blk_drew ?_ | refine blk_alloc ?_ _)); exact BK160.out) hb); have n3_ := Aside0.mk (below_step (by repeat (first | (with_reducible first | exact HB.out | apply below_alloc | apply pw_below_drewN | apply below_drew1 | refine below_set ?_ GE144.out | refine below_set ?_ GE146.out | refine below_set ?_ GE160.out) | exact HB.out)) hb); clear BK144; clear BK146; clear BK160; clear HB; have BK144 := n0_; have BK146 := n1_; have BK160 := n2_; have HB := n3_; clear n0_ n1_ n2_ n3_; (try clear hb); (try clear hb2); (try clear hk); (try clear hi)))
                            go_meet
                            case rel => exact ⟨_, (true), (t170), (t171), (by first | rfl | (simp; done) | (simp [*]; done)), H', ⟨by have := HJ3.out; have := HK2.out; have := HJ83.out; first | omega | exact Nat.le_refl _⟩, ⟨by (with_reducible repeat (first | refine blk_drewN ?_ _ | refine blk_drew ?_ | refine blk_alloc ?_ _)); exact BK144.out⟩, ⟨by (with_reducible repeat (first | refine blk_drewN ?_ _ | refine blk_drew ?_ | refine blk_alloc ?_ _)); exact BK146.out⟩, ⟨by (with_reducible repeat (first | refine blk_drewN ?_ _ | refine blk_drew ?_ | refine blk_alloc ?_ _)); exact BK160.out⟩, ⟨by repeat (first | (with_reducible first | exact HB.out | apply below_alloc | apply pw_below_drewN | apply below_drew1 | refine below_set ?_ GE144.out | refine below_set ?_ GE146.out | refine below_set ?_ GE160.out) | exact HB.out)⟩⟩
                        · rw [if_neg c120] at H
                          have c120b0 : (t172 == 0) = false := beq_eq_false_iff_ne.mpr c120
                          have c120b1 : (t172 != 0) = true := bne_iff_ne.mpr c120
                          (first | rw [c120b0] | (simp only [i64_w, i32_w]; rw [c120b0]) | skip)
                          have H' := Aside0.mk H
                          clear H
                          go_wp2_with (first | ((with_reducible refine gate_callee (f := 16) rfl ?_); refine goesL_ (some 138) rfl rfl Try.func16 (by kernel_rfl) rfl #[.pointer (some ⟨gb146, 0, none⟩), .int .u64 (IntKind.u64.wrap (t162 + ((1 + (Int.tmod a0_2 64)) % 256)))] rfl (by (try simp only [List.map_toArray, List.map_cons, List.map_nil]); first | done | rfl | (simp only [List.length_drop, List.length_take]; rfl)) ?_; (with_reducible refine (window_Window_Mark.calls kj83 gb146 x147000_83 x147001_83 (IntKind.u64.wrap (t162 + ((1 + (Int.tmod a0_2 64)) % 256))) t169 t170 t171 w _ ?side1 ?side2 A118.out).mono ?_); (case side1 => repeat (first | (with_reducible first | exact (Aside0.mk (IsS26.mk_ BK146.out GE146.out)).out | apply IsS26.alloc | apply IsS26.drewN | apply IsS26.drew | apply IsS26.set_0 | apply IsS26.set_1 | refine IsS26.far ?_ NB146_144.out _ | refine IsS26.far ?_ NB146_160.out _) | exact (Aside0.mk (IsS26.mk_ BK146.out GE146.out)).out)); (case side2 => repeat (first | (with_reducible first | exact HB.out | apply below_alloc | apply pw_below_drewN | apply below_drew1 | refine below_set ?_ (IsS26.ge (Aside0.mk (IsS26.mk_ BK146.out GE146.out)).out) | refine below_set ?_ GE144.out | refine below_set ?_ GE160.out) | exact HB.out)); rintro e w139 ⟨rfl, hi, hb, hk⟩; refine ⟨_, rfl, ?_⟩; have n0_ := Aside0.mk (KeepBut.blk hk (g' := gb144) (o := .cells #[.slice A0_0 l0_0.length c0_0, .slice A0_1 l0_1.length c0_1, .int .u8 a0_2, .int .u64 a0_3] 48 (0, 0)) (by (with_reducible repeat (first | refine blk_drewN ?_ _ | refine blk_drew ?_ | refine blk_alloc ?_ _)); exact BK144.out) NB144_146.out (by simp)); have n1_ := Aside0.mk (KeepBut.blk hk (g' := gb160) (o := .cells #[.int .u64 x147000_2, .int .u64 x147001_2] 26 (0, 0)) (by (with_reducible repeat (first | refine blk_drewN ?_ _ | refine blk_drew ?_ | refine blk_alloc ?_ _)); exact BK160.out) NB160_146.out (by simp)); have n2_ := Aside0.mk (hb); have n3_ := Aside0.mk (hi.1); clear BK144; clear BK160; clear HB; clear BK146; have BK144 := n0_; have BK160 := n1_; have HB := n2_; have BK146 := n3_; clear n0_ n1_ n2_ n3_; (try clear hb); (try clear hb2); (try clear hk); (try clear hi)) | ((with_reducible refine gate_callee (f := 12) rfl ?_); refine goesL_ (some 139) rfl rfl Try.func12 (by kernel_rfl) rfl #[.int .i64 t169] rfl (by (try simp only [List.map_toArray, List.map_cons, List.map_nil]); first | done | rfl | (simp only [List.length_drop, List.length_take]; rfl)) ?_; (with_reducible refine (joustlaw09_num.calls t169 t172 _ A119.out).mono ?_); rintro e w' ⟨rfl, ⟨nd, rfl⟩⟩; refine ⟨_, rfl, ?_⟩))
                          go_meet
                          case rel => exact ⟨_, (true), (t170), (t171), (by first | rfl | (simp; done) | (simp [*]; done)), H', ⟨by have := HJ3.out; have := HK2.out; have := HJ83.out; first | omega | exact Nat.le_refl _⟩, ⟨by (with_reducible repeat (first | refine blk_drewN ?_ _ | refine blk_drew ?_ | refine blk_alloc ?_ _)); exact BK144.out⟩, ⟨by (with_reducible repeat (first | refine blk_drewN ?_ _ | refine blk_drew ?_ | refine blk_alloc ?_ _)); exact BK146.out⟩, ⟨by (with_reducible repeat (first | refine blk_drewN ?_ _ | refine blk_drew ?_ | refine blk_alloc ?_ _)); exact BK160.out⟩, ⟨by repeat (first | (with_reducible first | exact HB.out | apply below_alloc | apply pw_below_drewN | apply below_drew1 | refine below_set ?_ GE144.out | refine below_set ?_ GE146.out | refine below_set ?_ GE160.out) | exact HB.out)⟩⟩
                      case rest => as_aux_lemma =>
                        clear HC117
                        try clear c1
                        try clear p1
                        try clear q1
                        try clear hx1
                        try clear c2
                        try clear p2
                        try clear c3
                        try clear c4
                        try clear c5
                        try clear c6
                        try clear p6
                        try clear c7
                        try clear c8
                        try clear c9
                        try clear c9b0
                        try clear c9b1
                        try clear c10
                        try clear c11
                        try clear c12
                        try clear c13
                        try clear c13b0
                        try clear c14
                        try clear c14b0
                        try clear p15
                        try clear q15
                        try clear hx15
                        try clear c16
                        try clear c18
                        try clear c19
                        try clear c19b0
                        try clear c20
                        try clear c21
                        try clear c27
                        try clear c27b0
                        try clear c27b1
                        try clear c28
                        try clear c28b0
                        try clear c28b1
                        try clear c29
                        try clear c31
                        try clear c31b0
                        try clear c31b1
                        try clear c32
                        try clear c35
                        try clear c39
                        try clear c39b0
                        try clear c39b1
                        try clear c41
                        try clear c41b0
                        try clear c41b1
                        try clear c41b2
                        try clear c42
                        try clear c49
                        try clear c49b0
                        try clear c50
                        try clear c50b0
                        try clear c51
                        try clear c51b0
                        try clear c51b1
                        try clear c53
                        try clear c53b0
                        try clear c53b1
                        try clear c54
                        try clear c64
                        try clear p64
                        try clear c74
                        try clear c85
                        try clear c88
                        try clear c89
                        try clear c95
                        try clear c95b0
                        try clear c96
                        try clear c96b0
                        try clear c99
                        try clear c99b0
                        try clear c99b1
                        try clear c101
                        try clear c101b0
                        try clear c101b1
                        try clear c104
                        try clear c105
                        try clear c111
                        try clear c112
                        try clear c116
                        try clear c120
                        try clear c120b0
                        try clear c120b1
                        try clear c122
                        try clear c122b0
                        try clear c122b1
                        try clear c125
                        try clear c125b0
                        try clear c125b1
                        try clear c128
                        try clear c129
                        try clear c135
                        try clear c136
                        try clear hcz106_0
                        try clear hcz106_1
                        try clear hcz108_0
                        try clear hcz108_1
                        try clear hcz113_0
                        try clear hcz113_1
                        try clear hcz130_0
                        try clear hcz130_1
                        try clear hcz132_0
                        try clear hcz132_1
                        try clear hcz137_0
                        try clear hcz137_1
                        try clear hcz22_0
                        try clear hcz22_1
                        try clear hcz24_0
                        try clear hcz24_1
                        try clear hcz33_0
                        try clear hcz33_1
                        try clear hcz36_0
                        try clear hcz36_1
                        try clear hcz43_0
                        try clear hcz43_1
                        try clear hcz45_0
                        try clear hcz45_1
                        try clear hcz55_0
                        try clear hcz55_1
                        try clear hcz57_0
                        try clear hcz57_1
                        try clear hcz60_0
                        try clear hcz60_1
                        try clear hcz62_0
                        try clear hcz62_1
                        try clear hcz65_0
                        try clear hcz65_1
                        try clear hcz67_0
                        try clear hcz67_1
                        try clear hcz70_0
                        try clear hcz70_1
                        try clear hcz72_0
                        try clear hcz72_1
                        try clear hcz75_0
                        try clear hcz75_1
                        try clear hcz77_0
                        try clear hcz77_1
                        try clear hcz7_0
                        try clear hcz7_1
                        try clear hcz7_2
                        try clear hcz7_3
                        try clear hcz80_0
                        try clear hcz80_1
                        try clear hcz86_0
                        try clear hcz86_1
                        try clear hcz90_0
                        try clear hcz90_1
                        try clear hcz91_0
                        try clear hcz91_1
                        try clear hcz93_0
                        try clear hcz93_1
                        try clear hfz106_0
                        try clear hfz106_1
                        try clear hfz108_0
                        try clear hfz108_1
                        try clear hfz113_0
                        try clear hfz113_1
                        try clear hfz130_0
                        try clear hfz130_1
                        try clear hfz132_0
                        try clear hfz132_1
                        try clear hfz137_0
                        try clear hfz137_1
                        try clear hfz22_0
                        try clear hfz22_1
                        try clear hfz24_0
                        try clear hfz24_1
                        try clear hfz33_0
                        try clear hfz33_1
                        try clear hfz36_0
                        try clear hfz36_1
                        try clear hfz43_0
                        try clear hfz43_1
                        try clear hfz45_0
                        try clear hfz45_1
                        try clear hfz55_0
                        try clear hfz55_1
                        try clear hfz57_0
                        try clear hfz57_1
                        try clear hfz60_0
                        try clear hfz60_1
                        try clear hfz62_0
                        try clear hfz62_1
                        try clear hfz65_0
                        try clear hfz65_1
                        try clear hfz67_0
                        try clear hfz67_1
                        try clear hfz70_0
                        try clear hfz70_1
                        try clear hfz72_0
                        try clear hfz72_1
                        try clear hfz75_0
                        try clear hfz75_1
                        try clear hfz77_0
                        try clear hfz77_1
                        try clear hfz7_0
                        try clear hfz7_1
                        try clear hfz7_2
                        try clear hfz7_3
                        try clear hfz80_0
                        try clear hfz80_1
                        try clear hfz86_0
                        try clear hfz86_1
                        try clear hfz90_0
                        try clear hfz90_1
                        try clear hfz91_0
                        try clear hfz91_1
                        try clear hfz93_0
                        try clear hfz93_1
                        try clear hx150_0
                        try clear p1
                        try clear p15
                        try clear p150
                        try clear p2
                        try clear p6
                        try clear p64
                        try clear q1
                        try clear q15
                        try clear q150
                        obtain ⟨kq, x157_116, x147000_116, x147001_116, rfl, HA, HJ116, BK144, BK146, BK160, HB⟩ := hcut
                        cases kq with
                        | zero => exact absurd HA.out (by simp [joustlaw09_WindowSteps.j4])
                        | succ kj116 =>
                          have H := HA.out
                          clear HA
                          simp only [joustlaw09_WindowSteps.j4] at H
                          by_cases c140 : x157_116 = true
                          · subst c140
                            have H1 : (some false) = some r := by rw [if_pos rfl] at H; exact H
                            clear H
                            have H := H1
                            clear H1
                            obtain rfl := Option.some.inj H
                            go_wp2
                            go_ret
                            exact ⟨by first | rfl | (simp [errW_none, errW_some] <;> rfl) | (simp [*, errW_none, errW_some] <;> rfl), by repeat (first | (with_reducible first | exact HB.out | apply below_alloc | apply pw_below_drewN | apply below_drew1 | refine below_set ?_ GE144.out | refine below_set ?_ GE146.out | refine below_set ?_ GE160.out) | exact HB.out)⟩
                          · replace c140 := Bool.eq_false_iff.mpr c140
                            subst c140
                            have H1 : ((window_Window_High.f x147000_2 x147001_2).bind fun t175 => (if t175 = t162 then ((window_Window_Bits.f x147000_2 x147001_2).bind fun t176 => (if t176 = t161 then ((window_Window_Check.f kj116 x147000_2 x147001_2 (IntKind.u64.wrap (t162 + ((1 + (Int.tmod a0_2 64)) % 256)))).bind fun t177 => ((joustlaw09_num.f t177).bind fun t178 => (if t178 = 0 then ((window_Window_Check.f kj116 x147000_116 x147001_116 (IntKind.u64.wrap (t162 + ((1 + (Int.tmod a0_2 64)) % 256)))).bind fun t179 => ((joustlaw09_num.f t179).bind fun t180 => (some (t180 == 91)))) else (some false)))) else (some false))) else (some false))) = some r := by rw [if_neg (show ¬ (false = true) by decide)] at H; exact H
                            clear H
                            have H := H1
                            clear H1
                            replace H := Option.bind_eq_some_iff.mp H
                            obtain ⟨t175, A1410, H⟩ := H
                            replace H : (if t175 = t162 then ((window_Window_Bits.f x147000_2 x147001_2).bind fun t176 => (if t176 = t161 then ((window_Window_Check.f kj116 x147000_2 x147001_2 (IntKind.u64.wrap (t162 + ((1 + (Int.tmod a0_2 64)) % 256)))).bind fun t177 => ((joustlaw09_num.f t177).bind fun t178 => (if t178 = 0 then ((window_Window_Check.f kj116 x147000_116 x147001_116 (IntKind.u64.wrap (t162 + ((1 + (Int.tmod a0_2 64)) % 256)))).bind fun t179 => ((joustlaw09_num.f t179).bind fun t180 => (some (t180 == 91)))) else (some false)))) else (some false))) else (some false)) = some r := H
                            have A141 := Aside0.mk A1410
                            clear A1410
                            by_cases c142 : t175 = t162
                            · rw [if_pos c142] at H
                              have c142b0 : (t175 == t162) = true := beq_iff_eq.mpr c142
                              have c142b1 : (t175 != t162) = false := bne_eq_false_iff_eq.mpr c142
                              clear c142
                              replace H := Option.bind_eq_some_iff.mp H
                              obtain ⟨t176, A1430, H⟩ := H
                              replace H : (if t176 = t161 then ((window_Window_Check.f kj116 x147000_2 x147001_2 (IntKind.u64.wrap (t162 + ((1 + (Int.tmod a0_2 64)) % 256)))).bind fun t177 => ((joustlaw09_num.f t177).bind fun t178 => (if t178 = 0 then ((window_Window_Check.f kj116 x147000_116 x147001_116 (IntKind.u64.wrap (t162 + ((1 + (Int.tmod a0_2 64)) % 256)))).bind fun t179 => ((joustlaw09_num.f t179).bind fun t180 => (some (t180 == 91)))) else (some false)))) else (some false)) = some r := H
                              have A143 := Aside0.mk A1430
                              clear A1430
                              by_cases c144 : t176 = t161
                              · rw [if_pos c144] at H
                                have c144b0 : (t176 == t161) = true := beq_iff_eq.mpr c144
                                have c144b1 : (t176 != t161) = false := bne_eq_false_iff_eq.mpr c144
                                clear c144
                                replace H := Option.bind_eq_some_iff.mp H
                                obtain ⟨t177, A1450, H⟩ := H
                                replace H : ((joustlaw09_num.f t177).bind fun t178 => (if t178 = 0 then ((window_Window_Check.f kj116 x147000_116 x147001_116 (IntKind.u64.wrap (t162 + ((1 + (Int.tmod a0_2 64)) % 256)))).bind fun t179 => ((joustlaw09_num.f t179).bind fun t180 => (some (t180 == 91)))) else (some false))) = some r := H
                                have A145 := Aside0.mk A1450
                                clear A1450
                                replace H := Option.bind_eq_some_iff.mp H
                                obtain ⟨t178, A1460, H⟩ := H
                                replace H : (if t178 = 0 then ((window_Window_Check.f kj116 x147000_116 x147001_116 (IntKind.u64.wrap (t162 + ((1 + (Int.tmod a0_2 64)) % 256)))).bind fun t179 => ((joustlaw09_num.f t179).bind fun t180 => (some (t180 == 91)))) else (some false)) = some r := H
                                have A146 := Aside0.mk A1460
                                clear A1460
                                by_cases c147 : t178 = 0
                                · rw [if_pos c147] at H
                                  have c147b0 : (t178 == 0) = true := beq_iff_eq.mpr c147
                                  have c147b1 : (t178 != 0) = false := bne_eq_false_iff_eq.mpr c147
                                  clear c147
                                  replace H := Option.bind_eq_some_iff.mp H
                                  obtain ⟨t179, A1480, H⟩ := H
                                  replace H : ((joustlaw09_num.f t179).bind fun t180 => (some (t180 == 91))) = some r := H
                                  have A148 := Aside0.mk A1480
                                  clear A1480
                                  replace H := Option.bind_eq_some_iff.mp H
                                  obtain ⟨t180, A1490, H⟩ := H
                                  replace H : (some (t180 == 91)) = some r := H
                                  have A149 := Aside0.mk A1490
                                  clear A1490
                                  obtain rfl := Option.some.inj H
                                  have hnb150 := NB160_144.out
                                  have hnc150 := NB144_160.out
                                  have hnb151 := NB160_146.out
                                  have hnc151 := NB146_160.out
                                  have hcz152_0 : wc.cell? ⟨gb160, 0, none⟩ = some (.int .u64 x147000_2) := (blk_cell BK160.out 0).trans rfl
                                  have hcz152_1 : wc.cell? ⟨gb160, 1, none⟩ = some (.int .u64 x147001_2) := (blk_cell BK160.out 1).trans rfl
                                  have hfz152_0 := blk_frozen BK160.out 0
                                  have hfz152_1 := blk_frozen BK160.out 1
                                  go_wp2_with (first | ((with_reducible refine gate_callee (f := 18) rfl ?_); refine goesL_ (some 159) rfl rfl Try.func18 (by kernel_rfl) rfl #[.agg #[.int .u64 x147000_2, .int .u64 x147001_2]] rfl (by (try simp only [List.map_toArray, List.map_cons, List.map_nil]); first | done | rfl | (simp only [List.length_drop, List.length_take]; rfl)) ?_; (with_reducible refine (window_Window_High.calls x147000_2 x147001_2 t175 _ A141.out).mono ?_); rintro e w153 ⟨rfl, hb⟩; refine ⟨_, rfl, ?_⟩; have n0_ := Aside0.mk (blk_below (g := gb144) (o := .cells #[.slice A0_0 l0_0.length c0_0, .slice A0_1 l0_1.length c0_1, .int .u8 a0_2, .int .u64 a0_3] 48 (0, 0)) (by (with_reducible repeat (first | refine blk_drewN ?_ _ | refine blk_drew ?_ | refine blk_alloc ?_ _)); exact BK144.out) hb); have n1_ := Aside0.mk (blk_below (g := gb146) (o := .cells #[.int .u64 x147000_116, .int .u64 x147001_116] 26 (0, 0)) (by (with_reducible repeat (first | refine blk_drewN ?_ _ | refine blk_drew ?_ | refine blk_alloc ?_ _)); exact BK146.out) hb); have n2_ := Aside0.mk (blk_below (g := gb160) (o := .cells #[.int .u64 x147000_2, .int .u64 x147001_2] 26 (0, 0)) (by (with_reducible repeat (first | refine blk_drewN ?_ _ | refine blk_drew ?_ | refine blk_alloc ?_ _)); exact BK160.out) hb); have n3_ := Aside0.mk (below_step (by repeat (first | (with_reducible first | exact HB.out | apply below_alloc | apply pw_below_drewN | apply below_drew1 | refine below_set ?_ GE144.out | refine below_set ?_ GE146.out | refine below_set ?_ GE160.out) | exact HB.out)) hb); clear BK144; clear BK146; clear BK160; clear HB; have BK144 := n0_; have BK146 := n1_; have BK160 := n2_; have HB := n3_; clear n0_ n1_ n2_ n3_; (try clear hb); (try clear hb2); (try clear hk); (try clear hi); have hcz154_0 : w153.cell? ⟨gb160, 0, none⟩ = some (.int .u64 x147000_2) := (blk_cell BK160.out 0).trans rfl; have hcz154_1 : w153.cell? ⟨gb160, 1, none⟩ = some (.int .u64 x147001_2) := (blk_cell BK160.out 1).trans rfl; have hfz154_0 := blk_frozen BK160.out 0; have hfz154_1 := blk_frozen BK160.out 1) | (go_at_call 20; (with_reducible refine (window_Window_Bits.calls x147000_2 x147001_2 t176 _ A143.out).mono ?_); rintro e w155 ⟨rfl, hb⟩; have n0_ := Aside0.mk (blk_below (g := gb144) (o := .cells #[.slice A0_0 l0_0.length c0_0, .slice A0_1 l0_1.length c0_1, .int .u8 a0_2, .int .u64 a0_3] 48 (0, 0)) (by (with_reducible repeat (first | refine blk_drewN ?_ _ | refine blk_drew ?_ | refine blk_alloc ?_ _)); exact BK144.out) hb); have n1_ := Aside0.mk (blk_below (g := gb146) (o := .cells #[.int .u64 x147000_116, .int .u64 x147001_116] 26 (0, 0)) (by (with_reducible repeat (first | refine blk_drewN ?_ _ | refine blk_drew ?_ | refine blk_alloc ?_ _)); exact BK146.out) hb); have n2_ := Aside0.mk (blk_below (g := gb160) (o := .cells #[.int .u64 x147000_2, .int .u64 x147001_2] 26 (0, 0)) (by (with_reducible repeat (first | refine blk_drewN ?_ _ | refine blk_drew ?_ | refine blk_alloc ?_ _)); exact BK160.out) hb); have n3_ := Aside0.mk (below_step (by repeat (first | (with_reducible first | exact HB.out | apply below_alloc | apply pw_below_drewN | apply below_drew1 | refine below_set ?_ GE144.out | refine below_set ?_ GE146.out | refine below_set ?_ GE160.out) | exact HB.out)) hb); clear BK144; clear BK146; clear BK160; clear HB; have BK144 := n0_; have BK146 := n1_; have BK160 := n2_; have HB := n3_; clear n0_ n1_ n2_ n3_; (try clear hb); (try clear hb2); (try clear hk); (try clear hi); have hcz156_0 : w155.cell? ⟨gb160, 0, none⟩ = some (.int .u64 x147000_2) := (blk_cell BK160.out 0).trans rfl; have hcz156_1 : w155.cell? ⟨gb160, 1, none⟩ = some (.int .u64 x147001_2) := (blk_cell BK160.out 1).trans rfl; have hfz156_0 := blk_frozen BK160.out 0; have hfz156_1 := blk_frozen BK160.out 1) | (go_at_call 13; (with_reducible refine (window_Window_Check.calls kj116 x147000_2 x147001_2 (IntKind.u64.wrap (t162 + ((1 + (Int.tmod a0_2 64)) % 256))) t177 _ A145.out).mono ?_); rintro e w157 ⟨rfl, hb⟩; have n0_ := Aside0.mk (blk_below (g := gb144) (o := .cells #[.slice A0_0 l0_0.length c0_0, .slice A0_1 l0_1.length c0_1, .int .u8 a0_2, .int .u64 a0_3] 48 (0, 0)) (by (with_reducible repeat (first | refine blk_drewN ?_ _ | refine blk_drew ?_ | refine blk_alloc ?_ _)); exact BK144.out) hb); have n1_ := Aside0.mk (blk_below (g := gb146) (o := .cells #[.int .u64 x147000_116, .int .u64 x147001_116] 26 (0, 0)) (by (with_reducible repeat (first | refine blk_drewN ?_ _ | refine blk_drew ?_ | refine blk_alloc ?_ _)); exact BK146.out) hb); have n2_ := Aside0.mk (blk_below (g := gb160) (o := .cells #[.int .u64 x147000_2, .int .u64 x147001_2] 26 (0, 0)) (by (with_reducible repeat (first | refine blk_drewN ?_ _ | refine blk_drew ?_ | refine blk_alloc ?_ _)); exact BK160.out) hb); have n3_ := Aside0.mk (below_step (by repeat (first | (with_reducible first | exact HB.out | apply below_alloc | apply pw_below_drewN | apply below_drew1 | refine below_set ?_ GE144.out | refine below_set ?_ GE146.out | refine below_set ?_ GE160.out) | exact HB.out)) hb); clear BK144; clear BK146; clear BK160; clear HB; have BK144 := n0_; have BK146 := n1_; have BK160 := n2_; have HB := n3_; clear n0_ n1_ n2_ n3_; (try clear hb); (try clear hb2); (try clear hk); (try clear hi)) | (go_at_call 12; (with_reducible refine (joustlaw09_num.calls t177 t178 _ A146.out).mono ?_); rintro e w' ⟨rfl, ⟨nd, rfl⟩⟩; have hnb158 := NB146_144.out; have hnc158 := NB144_146.out; have hcz159_0 : w157.cell? ⟨gb146, 0, none⟩ = some (.int .u64 x147000_116) := (blk_cell BK146.out 0).trans rfl; have hcz159_1 : w157.cell? ⟨gb146, 1, none⟩ = some (.int .u64 x147001_116) := (blk_cell BK146.out 1).trans rfl; have hfz159_0 := blk_frozen BK146.out 0; have hfz159_1 := blk_frozen BK146.out 1) | (go_at_call 13; (with_reducible refine (window_Window_Check.calls kj116 x147000_116 x147001_116 (IntKind.u64.wrap (t162 + ((1 + (Int.tmod a0_2 64)) % 256))) t179 _ A148.out).mono ?_); rintro e w160 ⟨rfl, hb⟩; have n0_ := Aside0.mk (blk_below (g := gb144) (o := .cells #[.slice A0_0 l0_0.length c0_0, .slice A0_1 l0_1.length c0_1, .int .u8 a0_2, .int .u64 a0_3] 48 (0, 0)) (by (with_reducible repeat (first | refine blk_drewN ?_ _ | refine blk_drew ?_ | refine blk_alloc ?_ _)); exact BK144.out) hb); have n1_ := Aside0.mk (blk_below (g := gb146) (o := .cells #[.int .u64 x147000_116, .int .u64 x147001_116] 26 (0, 0)) (by (with_reducible repeat (first | refine blk_drewN ?_ _ | refine blk_drew ?_ | refine blk_alloc ?_ _)); exact BK146.out) hb); have n2_ := Aside0.mk (blk_below (g := gb160) (o := .cells #[.int .u64 x147000_2, .int .u64 x147001_2] 26 (0, 0)) (by (with_reducible repeat (first | refine blk_drewN ?_ _ | refine blk_drew ?_ | refine blk_alloc ?_ _)); exact BK160.out) hb); have n3_ := Aside0.mk (below_step (by repeat (first | (with_reducible first | exact HB.out | apply below_alloc | apply pw_below_drewN | apply below_drew1 | refine below_set ?_ GE144.out | refine below_set ?_ GE146.out | refine below_set ?_ GE160.out) | exact HB.out)) hb); clear BK144; clear BK146; clear BK160; clear HB; have BK144 := n0_; have BK146 := n1_; have BK160 := n2_; have HB := n3_; clear n0_ n1_ n2_ n3_; (try clear hb); (try clear hb2); (try clear hk); (try clear hi)) | (go_at_call 12; (with_reducible refine (joustlaw09_num.calls t179 t180 _ A149.out).mono ?_); rintro e w' ⟨rfl, ⟨nd, rfl⟩⟩))
                                  go_ret
                                  exact ⟨by first | rfl | (simp [errW_none, errW_some] <;> rfl) | (simp [*, errW_none, errW_some] <;> rfl), by repeat (first | (with_reducible first | exact HB.out | apply below_alloc | apply pw_below_drewN | apply below_drew1 | refine below_set ?_ GE144.out | refine below_set ?_ GE146.out | refine below_set ?_ GE160.out) | exact HB.out)⟩
                                · rw [if_neg c147] at H
                                  have c147b0 : (t178 == 0) = false := beq_eq_false_iff_ne.mpr c147
                                  have c147b1 : (t178 != 0) = true := bne_iff_ne.mpr c147
                                  obtain rfl := Option.some.inj H
                                  have hnb161 := NB160_144.out
                                  have hnc161 := NB144_160.out
                                  have hnb162 := NB160_146.out
                                  have hnc162 := NB146_160.out
                                  have hcz163_0 : wc.cell? ⟨gb160, 0, none⟩ = some (.int .u64 x147000_2) := (blk_cell BK160.out 0).trans rfl
                                  have hcz163_1 : wc.cell? ⟨gb160, 1, none⟩ = some (.int .u64 x147001_2) := (blk_cell BK160.out 1).trans rfl
                                  have hfz163_0 := blk_frozen BK160.out 0
                                  have hfz163_1 := blk_frozen BK160.out 1
                                  go_wp2_with (first | ((with_reducible refine gate_callee (f := 18) rfl ?_); refine goesL_ (some 159) rfl rfl Try.func18 (by kernel_rfl) rfl #[.agg #[.int .u64 x147000_2, .int .u64 x147001_2]] rfl (by (try simp only [List.map_toArray, List.map_cons, List.map_nil]); first | done | rfl | (simp only [List.length_drop, List.length_take]; rfl)) ?_; (with_reducible refine (window_Window_High.calls x147000_2 x147001_2 t175 _ A141.out).mono ?_); rintro e w164 ⟨rfl, hb⟩; refine ⟨_, rfl, ?_⟩; have n0_ := Aside0.mk (blk_below (g := gb144) (o := .cells #[.slice A0_0 l0_0.length c0_0, .slice A0_1 l0_1.length c0_1, .int .u8 a0_2, .int .u64 a0_3] 48 (0, 0)) (by (with_reducible repeat (first | refine blk_drewN ?_ _ | refine blk_drew ?_ | refine blk_alloc ?_ _)); exact BK144.out) hb); have n1_ := Aside0.mk (blk_below (g := gb146) (o := .cells #[.int .u64 x147000_116, .int .u64 x147001_116] 26 (0, 0)) (by (with_reducible repeat (first | refine blk_drewN ?_ _ | refine blk_drew ?_ | refine blk_alloc ?_ _)); exact BK146.out) hb); have n2_ := Aside0.mk (blk_below (g := gb160) (o := .cells #[.int .u64 x147000_2, .int .u64 x147001_2] 26 (0, 0)) (by (with_reducible repeat (first | refine blk_drewN ?_ _ | refine blk_drew ?_ | refine blk_alloc ?_ _)); exact BK160.out) hb); have n3_ := Aside0.mk (below_step (by repeat (first | (with_reducible first | exact HB.out | apply below_alloc | apply pw_below_drewN | apply below_drew1 | refine below_set ?_ GE144.out | refine below_set ?_ GE146.out | refine below_set ?_ GE160.out) | exact HB.out)) hb); clear BK144; clear BK146; clear BK160; clear HB; have BK144 := n0_; have BK146 := n1_; have BK160 := n2_; have HB := n3_; clear n0_ n1_ n2_ n3_; (try clear hb); (try clear hb2); (try clear hk); (try clear hi); have hcz165_0 : w164.cell? ⟨gb160, 0, none⟩ = some (.int .u64 x147000_2) := (blk_cell BK160.out 0).trans rfl; have hcz165_1 : w164.cell? ⟨gb160, 1, none⟩ = some (.int .u64 x147001_2) := (blk_cell BK160.out 1).trans rfl; have hfz165_0 := blk_frozen BK160.out 0; have hfz165_1 := blk_frozen BK160.out 1) | (go_at_call 20; (with_reducible refine (window_Window_Bits.calls x147000_2 x147001_2 t176 _ A143.out).mono ?_); rintro e w166 ⟨rfl, hb⟩; have n0_ := Aside0.mk (blk_below (g := gb144) (o := .cells #[.slice A0_0 l0_0.length c0_0, .slice A0_1 l0_1.length c0_1, .int .u8 a0_2, .int .u64 a0_3] 48 (0, 0)) (by (with_reducible repeat (first | refine blk_drewN ?_ _ | refine blk_drew ?_ | refine blk_alloc ?_ _)); exact BK144.out) hb); have n1_ := Aside0.mk (blk_below (g := gb146) (o := .cells #[.int .u64 x147000_116, .int .u64 x147001_116] 26 (0, 0)) (by (with_reducible repeat (first | refine blk_drewN ?_ _ | refine blk_drew ?_ | refine blk_alloc ?_ _)); exact BK146.out) hb); have n2_ := Aside0.mk (blk_below (g := gb160) (o := .cells #[.int .u64 x147000_2, .int .u64 x147001_2] 26 (0, 0)) (by (with_reducible repeat (first | refine blk_drewN ?_ _ | refine blk_drew ?_ | refine blk_alloc ?_ _)); exact BK160.out) hb); have n3_ := Aside0.mk (below_step (by repeat (first | (with_reducible first | exact HB.out | apply below_alloc | apply pw_below_drewN | apply below_drew1 | refine below_set ?_ GE144.out | refine below_set ?_ GE146.out | refine below_set ?_ GE160.out) | exact HB.out)) hb); clear BK144; clear BK146; clear BK160; clear HB; have BK144 := n0_; have BK146 := n1_; have BK160 := n2_; have HB := n3_; clear n0_ n1_ n2_ n3_; (try clear hb); (try clear hb2); (try clear hk); (try clear hi); have hcz167_0 : w166.cell? ⟨gb160, 0, none⟩ = some (.int .u64 x147000_2) := (blk_cell BK160.out 0).trans rfl; have hcz167_1 : w166.cell? ⟨gb160, 1, none⟩ = some (.int .u64 x147001_2) := (blk_cell BK160.out 1).trans rfl; have hfz167_0 := blk_frozen BK160.out 0; have hfz167_1 := blk_frozen BK160.out 1) | (go_at_call 13; (with_reducible refine (window_Window_Check.calls kj116 x147000_2 x147001_2 (IntKind.u64.wrap (t162 + ((1 + (Int.tmod a0_2 64)) % 256))) t177 _ A145.out).mono ?_); rintro e w168 ⟨rfl, hb⟩; have n0_ := Aside0.mk (blk_below (g := gb144) (o := .cells #[.slice A0_0 l0_0.length c0_0, .slice A0_1 l0_1.length c0_1, .int .u8 a0_2, .int .u64 a0_3] 48 (0, 0)) (by (with_reducible repeat (first | refine blk_drewN ?_ _ | refine blk_drew ?_ | refine blk_alloc ?_ _)); exact BK144.out) hb); have n1_ := Aside0.mk (blk_below (g := gb146) (o := .cells #[.int .u64 x147000_116, .int .u64 x147001_116] 26 (0, 0)) (by (with_reducible repeat (first | refine blk_drewN ?_ _ | refine blk_drew ?_ | refine blk_alloc ?_ _)); exact BK146.out) hb); have n2_ := Aside0.mk (blk_below (g := gb160) (o := .cells #[.int .u64 x147000_2, .int .u64 x147001_2] 26 (0, 0)) (by (with_reducible repeat (first | refine blk_drewN ?_ _ | refine blk_drew ?_ | refine blk_alloc ?_ _)); exact BK160.out) hb); have n3_ := Aside0.mk (below_step (by repeat (first | (with_reducible first | exact HB.out | apply below_alloc | apply pw_below_drewN | apply below_drew1 | refine below_set ?_ GE144.out | refine below_set ?_ GE146.out | refine below_set ?_ GE160.out) | exact HB.out)) hb); clear BK144; clear BK146; clear BK160; clear HB; have BK144 := n0_; have BK146 := n1_; have BK160 := n2_; have HB := n3_; clear n0_ n1_ n2_ n3_; (try clear hb); (try clear hb2); (try clear hk); (try clear hi)) | (go_at_call 12; (with_reducible refine (joustlaw09_num.calls t177 t178 _ A146.out).mono ?_); rintro e w' ⟨rfl, ⟨nd, rfl⟩⟩))
                                  go_ret
                                  exact ⟨by first | rfl | (simp [errW_none, errW_some] <;> rfl) | (simp [*, errW_none, errW_some] <;> rfl), by repeat (first | (with_reducible first | exact HB.out | apply below_alloc | apply pw_below_drewN | apply below_drew1 | refine below_set ?_ GE144.out | refine below_set ?_ GE146.out | refine below_set ?_ GE160.out) | exact HB.out)⟩
                              · rw [if_neg c144] at H
                                have c144b0 : (t176 == t161) = false := beq_eq_false_iff_ne.mpr c144
                                have c144b1 : (t176 != t161) = true := bne_iff_ne.mpr c144
                                obtain rfl := Option.some.inj H
                                have hnb169 := NB160_144.out
                                have hnc169 := NB144_160.out
                                have hnb170 := NB160_146.out
                                have hnc170 := NB146_160.out
                                have hcz171_0 : wc.cell? ⟨gb160, 0, none⟩ = some (.int .u64 x147000_2) := (blk_cell BK160.out 0).trans rfl
                                have hcz171_1 : wc.cell? ⟨gb160, 1, none⟩ = some (.int .u64 x147001_2) := (blk_cell BK160.out 1).trans rfl
                                have hfz171_0 := blk_frozen BK160.out 0
                                have hfz171_1 := blk_frozen BK160.out 1
                                go_wp2_with (first | ((with_reducible refine gate_callee (f := 18) rfl ?_); refine goesL_ (some 159) rfl rfl Try.func18 (by kernel_rfl) rfl #[.agg #[.int .u64 x147000_2, .int .u64 x147001_2]] rfl (by (try simp only [List.map_toArray, List.map_cons, List.map_nil]); first | done | rfl | (simp only [List.length_drop, List.length_take]; rfl)) ?_; (with_reducible refine (window_Window_High.calls x147000_2 x147001_2 t175 _ A141.out).mono ?_); rintro e w172 ⟨rfl, hb⟩; refine ⟨_, rfl, ?_⟩; have n0_ := Aside0.mk (blk_below (g := gb144) (o := .cells #[.slice A0_0 l0_0.length c0_0, .slice A0_1 l0_1.length c0_1, .int .u8 a0_2, .int .u64 a0_3] 48 (0, 0)) (by (with_reducible repeat (first | refine blk_drewN ?_ _ | refine blk_drew ?_ | refine blk_alloc ?_ _)); exact BK144.out) hb); have n1_ := Aside0.mk (blk_below (g := gb146) (o := .cells #[.int .u64 x147000_116, .int .u64 x147001_116] 26 (0, 0)) (by (with_reducible repeat (first | refine blk_drewN ?_ _ | refine blk_drew ?_ | refine blk_alloc ?_ _)); exact BK146.out) hb); have n2_ := Aside0.mk (blk_below (g := gb160) (o := .cells #[.int .u64 x147000_2, .int .u64 x147001_2] 26 (0, 0)) (by (with_reducible repeat (first | refine blk_drewN ?_ _ | refine blk_drew ?_ | refine blk_alloc ?_ _)); exact BK160.out) hb); have n3_ := Aside0.mk (below_step (by repeat (first | (with_reducible first | exact HB.out | apply below_alloc | apply pw_below_drewN | apply below_drew1 | refine below_set ?_ GE144.out | refine below_set ?_ GE146.out | refine below_set ?_ GE160.out) | exact HB.out)) hb); clear BK144; clear BK146; clear BK160; clear HB; have BK144 := n0_; have BK146 := n1_; have BK160 := n2_; have HB := n3_; clear n0_ n1_ n2_ n3_; (try clear hb); (try clear hb2); (try clear hk); (try clear hi); have hcz173_0 : w172.cell? ⟨gb160, 0, none⟩ = some (.int .u64 x147000_2) := (blk_cell BK160.out 0).trans rfl; have hcz173_1 : w172.cell? ⟨gb160, 1, none⟩ = some (.int .u64 x147001_2) := (blk_cell BK160.out 1).trans rfl; have hfz173_0 := blk_frozen BK160.out 0; have hfz173_1 := blk_frozen BK160.out 1) | (go_at_call 20; (with_reducible refine (window_Window_Bits.calls x147000_2 x147001_2 t176 _ A143.out).mono ?_); rintro e w174 ⟨rfl, hb⟩; have n0_ := Aside0.mk (blk_below (g := gb144) (o := .cells #[.slice A0_0 l0_0.length c0_0, .slice A0_1 l0_1.length c0_1, .int .u8 a0_2, .int .u64 a0_3] 48 (0, 0)) (by (with_reducible repeat (first | refine blk_drewN ?_ _ | refine blk_drew ?_ | refine blk_alloc ?_ _)); exact BK144.out) hb); have n1_ := Aside0.mk (blk_below (g := gb146) (o := .cells #[.int .u64 x147000_116, .int .u64 x147001_116] 26 (0, 0)) (by (with_reducible repeat (first | refine blk_drewN ?_ _ | refine blk_drew ?_ | refine blk_alloc ?_ _)); exact BK146.out) hb); have n2_ := Aside0.mk (blk_below (g := gb160) (o := .cells #[.int .u64 x147000_2, .int .u64 x147001_2] 26 (0, 0)) (by (with_reducible repeat (first | refine blk_drewN ?_ _ | refine blk_drew ?_ | refine blk_alloc ?_ _)); exact BK160.out) hb); have n3_ := Aside0.mk (below_step (by repeat (first | (with_reducible first | exact HB.out | apply below_alloc | apply pw_below_drewN | apply below_drew1 | refine below_set ?_ GE144.out | refine below_set ?_ GE146.out | refine below_set ?_ GE160.out) | exact HB.out)) hb); clear BK144; clear BK146; clear BK160; clear HB; have BK144 := n0_; have BK146 := n1_; have BK160 := n2_; have HB := n3_; clear n0_ n1_ n2_ n3_; (try clear hb); (try clear hb2); (try clear hk); (try clear hi)))
                                go_ret
                                exact ⟨by first | rfl | (simp [errW_none, errW_some] <;> rfl) | (simp [*, errW_none, errW_some] <;> rfl), by repeat (first | (with_reducible first | exact HB.out | apply below_alloc | apply pw_below_drewN | apply below_drew1 | refine below_set ?_ GE144.out | refine below_set ?_ GE146.out | refine below_set ?_ GE160.out) | exact HB.out)⟩
                            · rw [if_neg c142] at H
                              have c142b0 : (t175 == t162) = false := beq_eq_false_iff_ne.mpr c142
                              have c142b1 : (t175 != t162) = true := bne_iff_ne.mpr c142
                              obtain rfl := Option.some.inj H
                              have hnb175 := NB160_144.out
                              have hnc175 := NB144_160.out
                              have hnb176 := NB160_146.out
                              have hnc176 := NB146_160.out
                              have hcz177_0 : wc.cell? ⟨gb160, 0, none⟩ = some (.int .u64 x147000_2) := (blk_cell BK160.out 0).trans rfl
                              have hcz177_1 : wc.cell? ⟨gb160, 1, none⟩ = some (.int .u64 x147001_2) := (blk_cell BK160.out 1).trans rfl
                              have hfz177_0 := blk_frozen BK160.out 0
                              have hfz177_1 := blk_frozen BK160.out 1
                              go_wp2_with (first | ((with_reducible refine gate_callee (f := 18) rfl ?_); refine goesL_ (some 159) rfl rfl Try.func18 (by kernel_rfl) rfl #[.agg #[.int .u64 x147000_2, .int .u64 x147001_2]] rfl (by (try simp only [List.map_toArray, List.map_cons, List.map_nil]); first | done | rfl | (simp only [List.length_drop, List.length_take]; rfl)) ?_; (with_reducible refine (window_Window_High.calls x147000_2 x147001_2 t175 _ A141.out).mono ?_); rintro e w178 ⟨rfl, hb⟩; refine ⟨_, rfl, ?_⟩; have n0_ := Aside0.mk (blk_below (g := gb144) (o := .cells #[.slice A0_0 l0_0.length c0_0, .slice A0_1 l0_1.length c0_1, .int .u8 a0_2, .int .u64 a0_3] 48 (0, 0)) (by (with_reducible repeat (first | refine blk_drewN ?_ _ | refine blk_drew ?_ | refine blk_alloc ?_ _)); exact BK144.out) hb); have n1_ := Aside0.mk (blk_below (g := gb146) (o := .cells #[.int .u64 x147000_116, .int .u64 x147001_116] 26 (0, 0)) (by (with_reducible repeat (first | refine blk_drewN ?_ _ | refine blk_drew ?_ | refine blk_alloc ?_ _)); exact BK146.out) hb); have n2_ := Aside0.mk (blk_below (g := gb160) (o := .cells #[.int .u64 x147000_2, .int .u64 x147001_2] 26 (0, 0)) (by (with_reducible repeat (first | refine blk_drewN ?_ _ | refine blk_drew ?_ | refine blk_alloc ?_ _)); exact BK160.out) hb); have n3_ := Aside0.mk (below_step (by repeat (first | (with_reducible first | exact HB.out | apply below_alloc | apply pw_below_drewN | apply below_drew1 | refine below_set ?_ GE144.out | refine below_set ?_ GE146.out | refine below_set ?_ GE160.out) | exact HB.out)) hb); clear BK144; clear BK146; clear BK160; clear HB; have BK144 := n0_; have BK146 := n1_; have BK160 := n2_; have HB := n3_; clear n0_ n1_ n2_ n3_; (try clear hb); (try clear hb2); (try clear hk); (try clear hi)))
                              go_ret
                              exact ⟨by first | rfl | (simp [errW_none, errW_some] <;> rfl) | (simp [*, errW_none, errW_some] <;> rfl), by repeat (first | (with_reducible first | exact HB.out | apply below_alloc | apply pw_below_drewN | apply below_drew1 | refine below_set ?_ GE144.out | refine below_set ?_ GE146.out | refine below_set ?_ GE160.out) | exact HB.out)⟩
  · replace c3 := Bool.eq_false_iff.mpr c3
    subst c3
    have H1 : (some false) = some r := by rw [if_neg (show ¬ (false = true) by decide)] at H; exact H
    clear H
    have H := H1
    clear H1
    obtain rfl := Option.some.inj H
    go_enter Try.func6, Try.ntmps6
    go_wp2_with (first | ((with_reducible refine gate_dst (N := 1) rfl ?_); refine box_event ?hg (N := 1) ?hd (cs := #[.slice A0_0 l0_0.length c0_0, .slice A0_1 l0_1.length c0_1, .int .u8 a0_2, .int .u64 a0_3]) (t := 48) ?hr ?_; (case hd => rfl); (case hg => rfl); (case hr => first | (go_simp; done) | (go_simp; rfl)); intro gb144 hg w179 hbox hb; have n0_ := Aside0.mk (below_step (by repeat (first | (with_reducible first | exact HB.out | apply below_alloc | apply pw_below_drewN | apply below_drew1) | exact HB.out)) hb); have n1_ := Aside0.mk (hbox); have n2_ := Aside0.mk ((by rw [hg]; exact (below_size (by repeat (first | (with_reducible first | exact HB.out | apply below_alloc | apply pw_below_drewN | apply below_drew1) | exact HB.out))) : w.heap.size ≤ gb144)); have n3_ := Aside0.mk ((by rw [hg]; exact (below_size (by repeat (first | (with_reducible first | exact HB.out | apply below_alloc | apply pw_below_drewN | apply below_drew1) | exact HB.out))) : w.heap.size ≤ gb144)); clear HB; have HB := n0_; have BK144 := n1_; have GW144 := n2_; have GE144 := n3_; clear n0_ n1_ n2_ n3_; clear hb hbox hg) | ((with_reducible refine gate_callee (f := 11) rfl ?_); refine goesL_ (some 17) rfl rfl Try.func11 (by kernel_rfl) rfl #[] rfl (by (try simp only [List.map_toArray, List.map_cons, List.map_nil]); first | done | rfl | (simp only [List.length_drop, List.length_take]; rfl)) ?_; (with_reducible refine (joustlaw09_alive.calls k  false _ A2.out).mono ?_); rintro e w180 ⟨rfl, hb⟩; refine ⟨_, rfl, ?_⟩; have n0_ := Aside0.mk (blk_below (g := gb144) (o := .cells #[.slice A0_0 l0_0.length c0_0, .slice A0_1 l0_1.length c0_1, .int .u8 a0_2, .int .u64 a0_3] 48 (0, 0)) (by (with_reducible repeat (first | refine blk_drewN ?_ _ | refine blk_drew ?_ | refine blk_alloc ?_ _)); exact BK144.out) hb); have n1_ := Aside0.mk (below_step (by repeat (first | (with_reducible first | exact HB.out | apply below_alloc | apply pw_below_drewN | apply below_drew1 | refine below_set ?_ GE144.out) | exact HB.out)) hb); clear BK144; clear HB; have BK144 := n0_; have HB := n1_; clear n0_ n1_; (try clear hb); (try clear hb2); (try clear hk); (try clear hi)))
    go_ret
    exact ⟨by first | rfl | (simp [errW_none, errW_some] <;> rfl) | (simp [*, errW_none, errW_some] <;> rfl), by repeat (first | (with_reducible first | exact HB.out | apply below_alloc | apply pw_below_drewN | apply below_drew1 | refine below_set ?_ GE144.out) | exact HB.out)⟩

end Go.Proofs.Ytidjnpfpbbffjaa.PWindowSteps
