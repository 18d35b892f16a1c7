/- Proved: the walk of SmoothTurns: true for every two places and every t. -/
import Derived.Test.YtjffkidfoapbjaaTurns0
import Derived.Test.YtjffkidfoapbjaaStep
import Derived.Test.YtjffkidfoapbjaaAlive
namespace Go.Proofs.Ytjffkidfoapbjaa.Fl
open Go.RowKit Go.Proofs.YtjffkidfoapbjaaW.PrintWords Go.Proofs.YtjffkidfoapbjaaW.PrintLast Go.Proofs.YtjffkidfoapbjaaW.PrintMore
set_option linter.unusedVariables false
set_option linter.unusedSimpArgs false
attribute [local go_sem] run_store_float

section
variable {P : Program} {o : Oper} {a : Act} {w : World}
theorem exec_flc (op : BinOp) (t t' : TypeId) (l r : Operand) (ho : o.op = Op.binOp op t l r t') (h6 : op = .eql ∨ op = .neq ∨ op = .lss ∨ op = .leq ∨ op = .gtr ∨ op = .geq) (x y : Nat) (hx : a.eval l = .float .f32 x) (hy : a.eval r = .float .f32 y) (b : Bool) (hb : fcmp op x y = b) :
    (execOp a.eval o).run P w = .ok (.value (.bool b)) w := by
  have hrun := run_flc (P := P) w op t x y h6
  rw [hb] at hrun
  rcases h6 with rfl | rfl | rfl | rfl | rfl | rfl <;> simp [execOp, ho, hx, hy, hrun, Result.andThen, eqGuard]
theorem exec_fl (op : BinOp) (t t' : TypeId) (l r : Operand) (ho : o.op = Op.binOp op t l r t') (h4 : op = .add ∨ op = .sub ∨ op = .mul ∨ op = .quo) (x y z : Nat) (hx : a.eval l = .float .f32 x) (hy : a.eval r = .float .f32 y) (hz : floatBits op .f32 x y = some z) :
    (execOp a.eval o).run P w = .ok (.value (.float .f32 z)) w := by
  have hrun := run_float_arith (P := P) w op t .f32 x y z hz
  rcases h4 with rfl | rfl | rfl | rfl <;> simp [execOp, ho, hx, hy, hrun, Result.andThen, eqGuard]
end
theorem bits_fin {op : BinOp} {x y : Nat} (h : Fin32 (fop op x y)) : floatBits op .f32 x y = some (fop op x y) := by
  unfold fop at h ⊢
  cases hb : floatBits op .f32 x y with
  | none =>
    rw [hb] at h
    exfalso
    revert h
    unfold Fin32 rung
    decide
  | some r => rfl
theorem fin_between {f lo hi : Nat} (hl : Fin32 lo) (hh : Fin32 hi) (h0 : fcmp .geq f lo = true ∨ fcmp .gtr f lo = true) (h1 : fcmp .lss f hi = true) : Fin32 f := by
  have e1 : Ieee.single.signWeight = 2147483648 := by decide
  have e2 : Ieee.single.binade = 8388608 := by decide
  have e3 : Ieee.single.infRung = 2139095040 := by decide
  by_cases hf : Fin32 f
  · exact hf
  · exfalso
    unfold Fin32 rung at hf
    have hr : Ieee.single.read f = .infinity (sgn f) ∨ ∃ g, Ieee.single.read f = .nan (sgn f) g := by
      unfold Ieee.Format.read
      dsimp only
      rw [e1, e2, e3, if_neg (by omega), if_neg (by omega)]
      split
      · exact .inl rfl
      · exact .inr ⟨_, rfl⟩
    obtain ⟨m0, j0, r0, _⟩ := read_fin hl
    obtain ⟨m1, j1, r1, _⟩ := read_fin hh
    unfold fcmp ford Ieee.Format.order at h0 h1
    rw [r0] at h0
    rw [r1] at h1
    rcases hr with hr | ⟨g, hr⟩
    · rw [hr] at h0 h1
      cases hs : sgn f <;> rw [hs] at h0 h1 <;> simp [Ieee.Datum.order] at h0 h1
    · rw [hr] at h1
      simp [Ieee.Datum.order] at h1
def tameF (f : Nat) : Nat := if fcmp .gtr f 3379831808 = true ∧ fcmp .lss f 1232348160 = true then f else 1084227584
def angT (f : Nat) : Nat := if fcmp .geq f 0 = true ∧ fcmp .lss f 1135869952 = true then f else 1135853568
theorem fin_m6 : Fin32 3379831808 := by unfold Fin32 rung; decide
theorem fin_p6 : Fin32 1232348160 := by unfold Fin32 rung; decide
theorem SV_m6 : SV 3379831808 = -1000000 * 2 ^ 149 := by decide +kernel
theorem SV_p6 : SV 1232348160 = 1000000 * 2 ^ 149 := by decide +kernel
theorem tameF_tame (f : Nat) : Tame (tameF f) := by
  unfold tameF
  split
  · rename_i h
    have hf := fin_between fin_m6 fin_p6 (.inr h.1) h.2
    rw [cmp_gtr hf fin_m6, cmp_lss hf fin_p6, SV_m6, SV_p6] at h
    exact ⟨hf, of_decide_eq_true h.1, of_decide_eq_true h.2⟩
  · exact ⟨by unfold Fin32 rung; decide, by decide +kernel, by decide +kernel⟩
theorem angT_ang (f : Nat) : Ang (angT f) := by
  unfold angT
  split
  · rename_i h
    have hf := fin_between fin_0 fin_360 (.inl h.1) h.2
    rw [cmp_geq hf fin_0, cmp_lss hf fin_360, SV_0, SV_360] at h
    exact ⟨hf, of_decide_eq_true h.1, of_decide_eq_true h.2⟩
  · exact ⟨by unfold Fin32 rung; decide, by decide +kernel, by decide +kernel⟩
set_option maxRecDepth 100000 in
theorem tame_calls (f : Nat) (w : World) : Calls Try.prog 17 #[.float .f32 f] w fun e w' => e = .returned (.float .f32 (tameF f)) ∧ Drawn0 w w' := by
  by_cases h1 : fcmp .gtr f 3379831808 = true
  · by_cases h2 : fcmp .lss f 1232348160 = true
    · have e : tameF f = f := if_pos ⟨h1, h2⟩
      rw [e]
      clear e
      go_enter Try.func17, Try.ntmps17
      go_wp2_with (first
      | ((try (refine gate_guard (by rfl) ?_; dsimp only)); refine wpList_fl _ rfl _ _ _ _ _ rfl (by decide) _ _ _ _ rfl rfl (by first | assumption | exact Fe.refl _) (by first | assumption | exact Fe.refl _) ?_; intro z nd hz)
      | ((try (refine gate_guard (by rfl) ?_; dsimp only)); refine wpList_flc _ rfl _ _ _ _ _ rfl (by decide) _ _ _ _ rfl rfl (by first | assumption | exact Fe.refl _) (by first | assumption | exact Fe.refl _) ?_))
      go_ret
      exact ⟨rfl, Drawn0.refl _⟩
    · have e : tameF f = 1084227584 := if_neg (fun h => h2 h.2)
      rw [e]
      clear e
      have h2 : fcmp .lss f 1232348160 = false := by simpa using h2
      go_enter Try.func17, Try.ntmps17
      go_wp2_with (first
      | ((try (refine gate_guard (by rfl) ?_; dsimp only)); refine wpList_fl _ rfl _ _ _ _ _ rfl (by decide) _ _ _ _ rfl rfl (by first | assumption | exact Fe.refl _) (by first | assumption | exact Fe.refl _) ?_; intro z nd hz)
      | ((try (refine gate_guard (by rfl) ?_; dsimp only)); refine wpList_flc _ rfl _ _ _ _ _ rfl (by decide) _ _ _ _ rfl rfl (by first | assumption | exact Fe.refl _) (by first | assumption | exact Fe.refl _) ?_))
      go_ret
      exact ⟨rfl, Drawn0.refl _⟩
  · have e : tameF f = 1084227584 := if_neg (fun h => h1 h.1)
    rw [e]
    clear e
    have h1 : fcmp .gtr f 3379831808 = false := by simpa using h1
    go_enter Try.func17, Try.ntmps17
    go_wp2_with (first
      | ((try (refine gate_guard (by rfl) ?_; dsimp only)); refine wpList_fl _ rfl _ _ _ _ _ rfl (by decide) _ _ _ _ rfl rfl (by first | assumption | exact Fe.refl _) (by first | assumption | exact Fe.refl _) ?_; intro z nd hz)
      | ((try (refine gate_guard (by rfl) ?_; dsimp only)); refine wpList_flc _ rfl _ _ _ _ _ rfl (by decide) _ _ _ _ rfl rfl (by first | assumption | exact Fe.refl _) (by first | assumption | exact Fe.refl _) ?_))
    go_ret
    exact ⟨rfl, Drawn0.refl _⟩
set_option maxRecDepth 100000 in
theorem angt_calls (f : Nat) (w : World) : Calls Try.prog 18 #[.float .f32 f] w fun e w' => e = .returned (.float .f32 (angT f)) ∧ Drawn0 w w' := by
  by_cases h1 : fcmp .geq f 0 = true
  · by_cases h2 : fcmp .lss f 1135869952 = true
    · have e : angT f = f := if_pos ⟨h1, h2⟩
      rw [e]
      clear e
      go_enter Try.func18, Try.ntmps18
      go_wp2_with (first
      | ((try (refine gate_guard (by rfl) ?_; dsimp only)); refine wpList_fl _ rfl _ _ _ _ _ rfl (by decide) _ _ _ _ rfl rfl (by first | assumption | exact Fe.refl _) (by first | assumption | exact Fe.refl _) ?_; intro z nd hz)
      | ((try (refine gate_guard (by rfl) ?_; dsimp only)); refine wpList_flc _ rfl _ _ _ _ _ rfl (by decide) _ _ _ _ rfl rfl (by first | assumption | exact Fe.refl _) (by first | assumption | exact Fe.refl _) ?_))
      go_ret
      exact ⟨rfl, Drawn0.refl _⟩
    · have e : angT f = 1135853568 := if_neg (fun h => h2 h.2)
      rw [e]
      clear e
      have h2 : fcmp .lss f 1135869952 = false := by simpa using h2
      go_enter Try.func18, Try.ntmps18
      go_wp2_with (first
      | ((try (refine gate_guard (by rfl) ?_; dsimp only)); refine wpList_fl _ rfl _ _ _ _ _ rfl (by decide) _ _ _ _ rfl rfl (by first | assumption | exact Fe.refl _) (by first | assumption | exact Fe.refl _) ?_; intro z nd hz)
      | ((try (refine gate_guard (by rfl) ?_; dsimp only)); refine wpList_flc _ rfl _ _ _ _ _ rfl (by decide) _ _ _ _ rfl rfl (by first | assumption | exact Fe.refl _) (by first | assumption | exact Fe.refl _) ?_))
      go_ret
      exact ⟨rfl, Drawn0.refl _⟩
  · have e : angT f = 1135853568 := if_neg (fun h => h1 h.1)
    rw [e]
    clear e
    have h1 : fcmp .geq f 0 = false := by simpa using h1
    go_enter Try.func18, Try.ntmps18
    go_wp2_with (first
      | ((try (refine gate_guard (by rfl) ?_; dsimp only)); refine wpList_fl _ rfl _ _ _ _ _ rfl (by decide) _ _ _ _ rfl rfl (by first | assumption | exact Fe.refl _) (by first | assumption | exact Fe.refl _) ?_; intro z nd hz)
      | ((try (refine gate_guard (by rfl) ?_; dsimp only)); refine wpList_flc _ rfl _ _ _ _ _ rfl (by decide) _ _ _ _ rfl rfl (by first | assumption | exact Fe.refl _) (by first | assumption | exact Fe.refl _) ?_))
    go_ret
    exact ⟨rfl, Drawn0.refl _⟩
set_option maxRecDepth 100000 in
theorem way_calls (a b : Nat) (ha : Ang a) (hb : Ang b) (w : World) : Calls Try.prog 19 #[.float .f32 a, .float .f32 b] w fun e w' => e = .returned (.float .f32 (wayF a b)) ∧ Drawn0 w w' := by
  have hu22 := Try.underlying22
  have f1 := (way_near ha hb).1
  have fd : Fin32 (fop .sub a b) := (sub_rd ha.fin hb.fin (ok_abs (by have := ha.lo; have := ha.hi; have := hb.lo; have := hb.hi; rw [U_val] at *; omega) (by have := ha.lo; have := ha.hi; have := hb.lo; have := hb.hi; rw [U_val] at *; omega))).fin
  have fa := (absF_sv fd (fop_lt fd)).1
  obtain ⟨d, hd⟩ : ∃ d, fop .sub a b = d := ⟨_, rfl⟩
  have hsub : ∀ w : World, (binOp .sub 22 (.float .f32 a) (.float .f32 b)).run Try.prog w = .ok (.float .f32 d) w := fun w => run_float_arith w .sub 22 .f32 a b d (by rw [← hd]; exact bits_fin fd)
  unfold wayF at f1 ⊢
  rw [hd] at f1 fa ⊢
  clear hd fd
  obtain ⟨v, hv⟩ : ∃ v, absF d = v := ⟨_, rfl⟩
  rw [hv] at f1 fa ⊢
  have hs2 : fcmp .gtr v 1127481344 = true → ∀ w : World, (binOp .sub 22 (.float .f32 1135869952) (.float .f32 v)).run Try.prog w = .ok (.float .f32 (fop .sub 1135869952 v)) w := fun h w => run_float_arith w .sub 22 .f32 _ _ _ (bits_fin (by rw [if_pos h] at f1; exact f1))
  cases h1 : fcmp .lss d 0
  · have e : v = d := by rw [← hv]; unfold absF; rw [h1]; rfl
    subst e
    cases h2 : fcmp .gtr v 1127481344
    · rw [if_neg Bool.false_ne_true]
      clear hs2 f1 hv
      go_enter Try.func19, Try.ntmps19
      go_wp2_with (first
      | ((try (refine gate_guard (by rfl) ?_; dsimp only)); refine wpList_flc _ rfl _ _ _ _ _ rfl (by decide) _ _ _ _ rfl rfl (Fe.refl _) (Fe.refl _) ?_; first | rw [h1] | rw [h2] | skip))
      go_ret
      exact ⟨rfl, Drawn0.refl _⟩
    · rw [if_pos rfl]
      have hs2 := hs2 h2
      clear f1 hv
      go_enter Try.func19, Try.ntmps19
      go_wp2_with (first
      | ((try (refine gate_guard (by rfl) ?_; dsimp only)); refine wpList_flc _ rfl _ _ _ _ _ rfl (by decide) _ _ _ _ rfl rfl (Fe.refl _) (Fe.refl _) ?_; first | rw [h1] | rw [h2] | skip))
      go_ret
      exact ⟨rfl, Drawn0.refl _⟩
  · have e : negF d = v := by rw [← hv]; unfold absF; rw [h1]; rfl
    have hneg : ∀ w : World, (Op.unary .neg (.float .f32 d)).run Try.prog w = .ok (.float .f32 v) w := fun w => by rw [← e]; rfl
    clear e hv
    cases h2 : fcmp .gtr v 1127481344
    · rw [if_neg Bool.false_ne_true]
      clear hs2 f1
      go_enter Try.func19, Try.ntmps19
      go_wp2_with (first
      | ((try (refine gate_guard (by rfl) ?_; dsimp only)); refine wpList_flc _ rfl _ _ _ _ _ rfl (by decide) _ _ _ _ rfl rfl (Fe.refl _) (Fe.refl _) ?_; first | rw [h1] | rw [h2] | skip))
      go_ret
      exact ⟨rfl, Drawn0.refl _⟩
    · rw [if_pos rfl]
      have hs2 := hs2 h2
      clear f1
      go_enter Try.func19, Try.ntmps19
      go_wp2_with (first
      | ((try (refine gate_guard (by rfl) ?_; dsimp only)); refine wpList_flc _ rfl _ _ _ _ _ rfl (by decide) _ _ _ _ rfl rfl (Fe.refl _) (Fe.refl _) ?_; first | rw [h1] | rw [h2] | skip))
      go_ret
      exact ⟨rfl, Drawn0.refl _⟩

def mnF (x y : Nat) : Nat := match ford x y with | some .lt => x | some .gt => y | _ => if (Ieee.single.read x).neg then x else y
def mxF (x y : Nat) : Nat := match ford x y with | some .lt => y | some .gt => x | _ => if (Ieee.single.read x).neg then y else x
theorem mn_tame {x y : Nat} (hx : Tame x) (hy : Tame y) : Tame (mnF x y) ∧ SV (mnF x y) = min (SV x) (SV y) := by
  unfold mnF
  rw [ford_fin hx.fin hy.fin]
  simp only [compare, compareOfLessAndEq]
  by_cases h : SV x < SV y
  · rw [if_pos h]; dsimp only; exact ⟨hx, by omega⟩
  · rw [if_neg h]
    by_cases h2 : SV x = SV y
    · rw [if_pos h2]
      dsimp only
      split
      · exact ⟨hx, by omega⟩
      · exact ⟨hy, by omega⟩
    · rw [if_neg h2]; dsimp only; exact ⟨hy, by omega⟩
theorem mx_tame {x y : Nat} (hx : Tame x) (hy : Tame y) : Tame (mxF x y) ∧ SV (mxF x y) = max (SV x) (SV y) := by
  unfold mxF
  rw [ford_fin hx.fin hy.fin]
  simp only [compare, compareOfLessAndEq]
  by_cases h : SV x < SV y
  · rw [if_pos h]; dsimp only; exact ⟨hy, by omega⟩
  · rw [if_neg h]
    by_cases h2 : SV x = SV y
    · rw [if_pos h2]
      dsimp only
      split
      · exact ⟨hy, by omega⟩
      · exact ⟨hx, by omega⟩
    · rw [if_neg h2]; dsimp only; exact ⟨hx, by omega⟩
theorem run_mn {P : Program} (w : World) (x y : Nat) (hx : Fin32 x) (hy : Fin32 y) : (Builtin.min_ #[22, 22] 22 #[.float .f32 x, .float .f32 y]).run P w = .ok (.float .f32 (mnF x y)) w := by
  have h := ford_fin hx hy
  have h' : FloatKind.f32.format.order x y = some (compare (SV x) (SV y)) := h
  unfold mnF
  rw [h]
  generalize compare (SV x) (SV y) = c at h h'
  cases c <;> simp [Builtin.min_, Builtin.min2, h', FloatKind.decode] <;> rfl
theorem run_mx {P : Program} (w : World) (x y : Nat) (hx : Fin32 x) (hy : Fin32 y) : (Builtin.max_ #[22, 22] 22 #[.float .f32 x, .float .f32 y]).run P w = .ok (.float .f32 (mxF x y)) w := by
  have h := ford_fin hx hy
  have h' : FloatKind.f32.format.order x y = some (compare (SV x) (SV y)) := h
  unfold mxF
  rw [h]
  generalize compare (SV x) (SV y) = c at h h'
  cases c <;> simp [Builtin.max_, Builtin.max2, h', FloatKind.decode] <;> rfl
/-- A place that is tame, its angle within a turn. -/
structure PT (p : P3) : Prop where
  x : Tame p.x
  y : Tame p.y
  a : Ang p.a
theorem PT.pn {p : P3} (h : PT p) : PN p := ⟨h.x.fin, h.y.fin, h.a⟩
theorem mix_words (p q : P3) (hp : PT p) (hq : PT q) (t : Nat) (w : World) : Calls Try.prog 12 #[.agg #[.float .f32 p.x, .float .f32 p.y, .float .f32 p.a], .agg #[.float .f32 q.x, .float .f32 q.y, .float .f32 q.a], .float .f32 t] w fun e w' => e = .returned (.agg #[.float .f32 (mixS p.x q.x t), .float .f32 (mixS p.y q.y t), .float .f32 (mixA p.a q.a t)]) ∧ Below w.heap.size w w' := by
  refine (mix_calls p.x p.y p.a q.x q.y q.a t w).mono ?_
  rintro e w' ⟨x, y, z, hx, hy, hz, rfl, hb⟩
  obtain rfl := hx.eq (fin_nan (mixS_near t hp.x hq.x).1)
  obtain rfl := hy.eq (fin_nan (mixS_near t hp.y hq.y).1)
  obtain rfl := hz.eq (fin_nan (mixA_way t hp.a hq.a).1.fin)
  exact ⟨rfl, hb⟩
theorem mix_self_words (p : P3) (hp : PT p) (t : Nat) (w : World) : Calls Try.prog 12 #[.agg #[.float .f32 p.x, .float .f32 p.y, .float .f32 p.a], .agg #[.float .f32 p.x, .float .f32 p.y, .float .f32 p.a], .float .f32 t] w fun e w' => ∃ x y a, e = .returned (.agg #[.float .f32 x, .float .f32 y, .float .f32 a]) ∧ ford x p.x = some .eq ∧ ford y p.y = some .eq ∧ ford a p.a = some .eq ∧ Below w.heap.size w w' := by
  refine (mix_words p p hp hp t w).mono ?_
  rintro e w' ⟨rfl, hb⟩
  obtain ⟨a1, a2⟩ := mixS_self t hp.x.fin
  obtain ⟨b1, b2⟩ := mixS_self t hp.y.fin
  obtain ⟨c1, c2⟩ := mixA_self t hp.a
  exact ⟨_, _, _, rfl, ford_of a1 hp.x.fin a2, ford_of b1 hp.y.fin b2, ford_of c1 hp.a.fin c2, hb⟩
theorem mix_low_words (p q : P3) (hp : PT p) (hq : PT q) (t : Nat) (ht : fcmp .gtr t 0 = false) (w : World) : Calls Try.prog 12 #[.agg #[.float .f32 p.x, .float .f32 p.y, .float .f32 p.a], .agg #[.float .f32 q.x, .float .f32 q.y, .float .f32 q.a], .float .f32 t] w fun e w' => e = .returned (.agg #[.float .f32 p.x, .float .f32 p.y, .float .f32 p.a]) ∧ Below w.heap.size w w' := by
  refine (mix_words p q hp hq t w).mono ?_
  rintro e w' ⟨rfl, hb⟩
  have e1 : ∀ a b : Nat, mixS a b t = a := fun a b => by unfold mixS; rw [ht, if_neg Bool.false_ne_true]
  have e2 : ∀ a b : Nat, mixA a b t = a := fun a b => by unfold mixA; rw [ht, if_neg Bool.false_ne_true]
  rw [e1, e1, e2]
  exact ⟨rfl, hb⟩
theorem mix_one_words (p q : P3) (hp : PT p) (hq : PT q) (w : World) : Calls Try.prog 12 #[.agg #[.float .f32 p.x, .float .f32 p.y, .float .f32 p.a], .agg #[.float .f32 q.x, .float .f32 q.y, .float .f32 q.a], .float .f32 1065353216] w fun e w' => e = .returned (.agg #[.float .f32 q.x, .float .f32 q.y, .float .f32 q.a]) ∧ Below w.heap.size w w' := by
  refine (mix_words p q hp hq 1065353216 w).mono ?_
  rintro e w' ⟨rfl, hb⟩
  have h1 : fcmp .gtr 1065353216 0 = true := by kernel_rfl
  have h2 : fcmp .geq 1065353216 1065353216 = true := by kernel_rfl
  have e1 : ∀ a b : Nat, mixS a b 1065353216 = b := fun a b => by unfold mixS; rw [h1, h2, if_pos rfl, if_pos rfl]
  have e2 : ∀ a b : Nat, mixA a b 1065353216 = b := fun a b => by unfold mixA; rw [h1, h2, if_pos rfl, if_pos rfl]
  rw [e1, e1, e2]
  exact ⟨rfl, hb⟩
theorem gtr_nan : fcmp .gtr 2143289344 0 = false := by kernel_rfl
theorem gtr_ninf : fcmp .gtr 4286578688 0 = false := by kernel_rfl
theorem ninf_word : Ieee.single.write (.infinity true) = 4286578688 := by decide
theorem gtr_0_0 : fcmp .gtr 0 0 = false := by kernel_rfl
theorem neg_parts {t : Nat} (ht : t < 4294967296) : rung (negF t) = rung t ∧ sgn (negF t) = !sgn t := by
  unfold negF rung sgn
  have h1 : (t ^^^ 2147483648) % 2147483648 = t % 2147483648 := by
    have := Nat.xor_mod_two_pow (a := t) (b := 2147483648) (n := 31)
    rw [show (2 : Nat) ^ 31 = 2147483648 by decide] at this
    rw [this, show 2147483648 % 2147483648 = 0 by decide, Nat.xor_zero]
  have h2 : (t ^^^ 2147483648) / 2147483648 = t / 2147483648 ^^^ 1 := by
    have := Nat.xor_div_two_pow (a := t) (b := 2147483648) (n := 31)
    rw [show (2 : Nat) ^ 31 = 2147483648 by decide] at this
    rw [this]
  rw [h1, h2]
  refine ⟨rfl, ?_⟩
  have : t / 2147483648 = 0 ∨ t / 2147483648 = 1 := by omega
  rcases this with e | e <;> rw [e] <;> decide
theorem read_cases (x : Nat) : (∃ m p, Ieee.single.read x = .number (sgn x) m p ∧ rung x < 2139095040) ∨ (Ieee.single.read x = .infinity (sgn x) ∧ rung x = 2139095040) ∨ (∃ f, Ieee.single.read x = .nan (sgn x) f ∧ 2139095040 < rung x) := by
  have e1 : Ieee.single.signWeight = 2147483648 := by decide
  have e2 : Ieee.single.binade = 8388608 := by decide
  have e3 : Ieee.single.infRung = 2139095040 := by decide
  by_cases hf : Fin32 x
  · obtain ⟨m, j, e, _⟩ := read_fin hf
    exact .inl ⟨m, _, e, hf⟩
  · have hf' : ¬ x % 2147483648 < 2139095040 := hf
    right
    unfold Ieee.Format.read
    dsimp only
    rw [e1, e2, e3, if_neg (by omega), if_neg (by omega)]
    by_cases h : x % 2147483648 = 2139095040
    · rw [if_pos h]
      exact .inl ⟨rfl, h⟩
    · rw [if_neg h]
      refine .inr ⟨_, rfl, ?_⟩
      unfold rung
      omega
theorem neg_prod {t : Nat} (ht : t < 4294967296) (d : Ieee.Datum) (hd : (Ieee.Datum.product (Ieee.single.read (negF t)) (Ieee.single.read t)) = some d) : (∃ m p, d = .number true m p) ∨ d = .infinity true := by
  obtain ⟨k1, k2⟩ := neg_parts ht
  have hs : (sgn (negF t) ^^ sgn t) = true := by rw [k2]; cases sgn t <;> rfl
  rcases read_cases t with ⟨m, p, er, hr⟩ | ⟨er, hr⟩ | ⟨f, er, hr⟩
  · rcases read_cases (negF t) with ⟨m', p', er', hr'⟩ | ⟨er', hr'⟩ | ⟨f', er', hr'⟩
    · rw [er, er'] at hd
      simp only [Ieee.Datum.product, Option.some.injEq, hs] at hd
      exact .inl ⟨_, _, hd.symm⟩
    · omega
    · omega
  · rcases read_cases (negF t) with ⟨m', p', er', hr'⟩ | ⟨er', hr'⟩ | ⟨f', er', hr'⟩
    · omega
    · rw [er, er'] at hd
      simp only [Ieee.Datum.product, Option.some.injEq, hs] at hd
      exact .inr hd.symm
    · omega
  · rcases read_cases (negF t) with ⟨m', p', er', hr'⟩ | ⟨er', hr'⟩ | ⟨f', er', hr'⟩
    · omega
    · omega
    · rw [er, er'] at hd
      simp [Ieee.Datum.product] at hd
theorem near_low (m : Nat) (p : Int) : fcmp .gtr (Ieee.single.nearest true m p) 0 = false := by
  rw [nearest_RG true m (-149 - p).toNat p (p + 149 + ((-149 - p).toNat : Int)).toNat (by omega)]
  obtain ⟨r, hr⟩ : ∃ r, min (RG (-149 - p).toNat (m * 2 ^ (p + 149 + ((-149 - p).toNat : Int)).toNat)) 2139095040 = r := ⟨_, rfl⟩
  have hle : r ≤ 2139095040 := by rw [← hr]; exact Nat.min_le_right _ _
  rw [hr]
  clear hr
  rcases Nat.lt_or_ge r 2139095040 with h3 | h3
  · have hw := word_rung true (r := r) (by omega)
    have hf : Fin32 (word true r) := by unfold Fin32; rw [hw]; exact h3
    rw [cmp_gtr hf fin_0, SV_0]
    have : SV (word true r) = -(VAL r : Int) := by unfold SV; rw [hw, word_sgn true (r := r) (by omega), if_pos rfl]
    rw [this]
    exact decide_eq_false (by omega)
  · have hr2 : word true r = 4286578688 := by
      unfold word
      rw [if_pos rfl]
      omega
    rw [hr2]
    exact gtr_ninf
/-- -t * t is not above 0. -/
theorem neg_sq {t z : Nat} (ht : t < 4294967296) (hz : Fe z (fop .mul (negF t) t)) : fcmp .gtr z 0 = false := by
  rw [fcmp_congr hz (Fe.refl 0)]
  have e : fop .mul (negF t) t = ((Ieee.Datum.product (Ieee.single.read (negF t)) (Ieee.single.read t)).map Ieee.single.write).getD 2143289344 := rfl
  rw [e]
  cases hp : Ieee.Datum.product (Ieee.single.read (negF t)) (Ieee.single.read t) with
  | none =>
    rw [Option.map_none, Option.getD_none]
    exact gtr_nan
  | some d =>
    rw [Option.map_some, Option.getD_some]
    rcases neg_prod ht d hp with ⟨m, p, rfl⟩ | rfl
    · exact near_low m p
    · rw [ninf_word]
      exact gtr_ninf
set_option maxHeartbeats 8000000 in
set_option maxRecDepth 100000 in
theorem turns.calls (ax ay aa bx by_ ba t : Nat) (ht : t < 4294967296) (w : World) : Calls Try.prog 5 #[.agg #[.float .f32 ax, .float .f32 ay, .float .f32 aa], .agg #[.float .f32 bx, .float .f32 by_, .float .f32 ba], .float .f32 t] w fun e w' => e = .returned (.bool true) ∧ Below w.heap.size w w' := by
  have hu24 := Try.underlying24
  have hu22 := Try.underlying22
  go_enter Try.func5, Try.ntmps5
  go_wp2_with (first
        | ((try (refine gate_guard (by rfl) ?_; dsimp only)); refine wpList_fl _ rfl _ _ _ _ _ rfl (by decide) _ _ _ _ rfl rfl (by first | assumption | exact Fe.refl _) (by first | assumption | exact Fe.refl _) ?_; intro z nd hz)
        | ((try (refine gate_guard (by rfl) ?_; dsimp only)); refine wpList_flc _ rfl _ _ _ _ _ rfl (by decide) _ _ _ _ rfl rfl (by first | assumption | exact Fe.refl _) (by first | assumption | exact Fe.refl _) ?_)
        | ((with_reducible refine gate_dst (N := 3) rfl ?_); refine box_event ?hg (N := 3) ?hd (cs := #[.float .f32 ax, .float .f32 ay, .float .f32 aa]) (t := 24) ?hr ?_; (case hd => rfl); (case hg => rfl); (case hr => first | (go_simp; done) | (go_simp; rfl)); intro g3 eg3 w1 Xg3 Bg3; have hg3 : w.heap.size ≤ g3 := Nat.le_of_eq eg3.symm; have hB := Bg3; clear eg3)
        | ((with_reducible refine gate_dst (N := 4) rfl ?_); refine box_event ?hg (N := 4) ?hd (cs := #[.float .f32 bx, .float .f32 by_, .float .f32 ba]) (t := 24) ?hr ?_; (case hd => rfl); (case hg => rfl); (case hr => first | (go_simp; done) | (go_simp; rfl)); intro g4 eg4 w2 Xg4 Bg4; have hg4 : w.heap.size ≤ g4 := (by rw [eg4]; exact hB.size); have n34 : g3 ≠ g4 := (by rw [eg4]; exact Nat.ne_of_lt (blk_lt Xg3)); have Xg3 := blk_below Xg3 Bg4; have hB := below_step hB Bg4; clear eg4 Bg3 Bg4)
        | (go_at_call 10; refine (alive_calls _).mono ?_; rintro e w5 ⟨rfl, hb⟩; have Xg3 := blk_below Xg3 hb; have Xg4 := blk_below Xg4 hb; have hB := below_step hB hb; clear hb))
  refine start_ (n := 11) (S := fun w' => w'.cell? ⟨g3, 0, none⟩ = some (.float .f32 ax) ∧ w'.cell? ⟨g3, 1, none⟩ = some (.float .f32 ay) ∧ w'.cell? ⟨g3, 2, none⟩ = some (.float .f32 aa)) (ds := [10]) #[false, false, false, false, false, false, false, false, false, false, false] (by kernel_rfl) rfl rfl ⟨(blk_cell Xg3 0).trans rfl, (blk_cell Xg3 1).trans rfl, (blk_cell Xg3 2).trans rfl⟩ (fun hHeld => ?_)
  refine pure_ (i := 0) (N := some 10) (v := ?_) (a' := ?_) #[true, false, false, false, false, false, false, false, false, false, false] rfl rfl (by kernel_rfl) (fun _ _ _ h => h) (Or.inl ⟨by rfl, ?_⟩) ?_ ?_
  rotate_left
  · intro w'
    go_simp
    with_reducible rfl
  rotate_left
  · simp only [Act.put, List.setIfInBounds_toArray, List.set_cons_zero, List.set_cons_succ, i64_w, i32_w]
    rfl
  refine pure_ (i := 3) (N := some 13) (v := ?_) (a' := ?_) #[true, false, false, true, false, false, false, false, false, false, false] rfl rfl (by kernel_rfl) (fun _ _ _ h => h) (Or.inl ⟨by rfl, ?_⟩) ?_ ?_
  rotate_left
  · intro w'
    go_simp
    with_reducible rfl
  rotate_left
  · simp only [Act.put, List.setIfInBounds_toArray, List.set_cons_zero, List.set_cons_succ, i64_w, i32_w]
    rfl
  refine pure_ (i := 6) (N := some 16) (v := ?_) (a' := ?_) #[true, false, false, true, false, false, true, false, false, false, false] rfl rfl (by kernel_rfl) (fun _ _ _ h => h) (Or.inl ⟨by rfl, ?_⟩) ?_ ?_
  rotate_left
  · intro w'
    go_simp
    with_reducible rfl
  rotate_left
  · simp only [Act.put, List.setIfInBounds_toArray, List.set_cons_zero, List.set_cons_succ, i64_w, i32_w]
    rfl
  refine take_ (i := 1) (N := some 11) (v := ?_) (a' := ?_) #[true, true, false, true, false, false, true, false, false, false, false] rfl rfl (by kernel_rfl) (fun _ _ _ h => h) (Or.inl ⟨by rfl, ?_⟩) hHeld ?_ ?_
  rotate_left
  · rintro w' ⟨s0, s1, s2⟩
    go_simp
    with_reducible rfl
  rotate_left
  · simp only [Act.put, List.setIfInBounds_toArray, List.set_cons_zero, List.set_cons_succ, i64_w, i32_w]
    rfl
  refine take_ (i := 4) (N := some 14) (v := ?_) (a' := ?_) #[true, true, false, true, true, false, true, false, false, false, false] rfl rfl (by kernel_rfl) (fun _ _ _ h => h) (Or.inl ⟨by rfl, ?_⟩) hHeld ?_ ?_
  rotate_left
  · rintro w' ⟨s0, s1, s2⟩
    go_simp
    with_reducible rfl
  rotate_left
  · simp only [Act.put, List.setIfInBounds_toArray, List.set_cons_zero, List.set_cons_succ, i64_w, i32_w]
    rfl
  refine take_ (i := 7) (N := some 17) (v := ?_) (a' := ?_) #[true, true, false, true, true, false, true, true, false, false, false] rfl rfl (by kernel_rfl) (fun _ _ _ h => h) (Or.inl ⟨by rfl, ?_⟩) hHeld ?_ ?_
  rotate_left
  · rintro w' ⟨s0, s1, s2⟩
    go_simp
    with_reducible rfl
  rotate_left
  · simp only [Act.put, List.setIfInBounds_toArray, List.set_cons_zero, List.set_cons_succ, i64_w, i32_w]
    rfl
  refine one_ (i := 2) (N := some 12) #[true, true, true, true, true, false, true, true, false, false, false] rfl rfl (by kernel_rfl) (by decide) (fun K hK => ?_)
  refine goes_ Try.func17 (by kernel_rfl) rfl _ (by rfl) rfl rfl (by simp only [List.map_toArray, List.map_cons, List.map_nil]; rfl) ?_
  refine (tame_calls ax _).mono ?_
  rintro e w8 ⟨rfl, hd1⟩
  refine ⟨_, rfl, ?_⟩
  have hB := dbelow hd1 (below_drew1 hB)
  have Xg3 := dblk hd1 (blk_drew Xg3)
  have Xg4 := dblk hd1 (blk_drew Xg4)
  refine hK.out _ _ ⟨dcell hd1 (hHeld.1), dcell hd1 (hHeld.2.1), dcell hd1 (hHeld.2.2)⟩ (fun hHeld => ?_)
  clear hK K
  refine norm_ (a' := ?_) ?_ ?_
  rotate_left
  · show Act.put _ (some 12) _ = _
    simp only [Act.put, List.setIfInBounds_toArray, List.set_cons_zero, List.set_cons_succ, i64_w, i32_w]
    rfl
  refine one_ (i := 5) (N := some 15) #[true, true, true, true, true, true, true, true, false, false, false] rfl rfl (by kernel_rfl) (by decide) (fun K hK => ?_)
  refine goes_ Try.func17 (by kernel_rfl) rfl _ (by rfl) rfl rfl (by simp only [List.map_toArray, List.map_cons, List.map_nil]; rfl) ?_
  refine (tame_calls ay _).mono ?_
  rintro e w8 ⟨rfl, hd2⟩
  refine ⟨_, rfl, ?_⟩
  have hB := dbelow hd2 hB
  have Xg3 := dblk hd2 Xg3
  have Xg4 := dblk hd2 Xg4
  refine hK.out _ _ ⟨dcell hd2 (hHeld.1), dcell hd2 (hHeld.2.1), dcell hd2 (hHeld.2.2)⟩ (fun hHeld => ?_)
  clear hK K
  refine norm_ (a' := ?_) ?_ ?_
  rotate_left
  · show Act.put _ (some 15) _ = _
    simp only [Act.put, List.setIfInBounds_toArray, List.set_cons_zero, List.set_cons_succ, i64_w, i32_w]
    rfl
  refine one_ (i := 8) (N := some 18) #[true, true, true, true, true, true, true, true, true, false, false] rfl rfl (by kernel_rfl) (by decide) (fun K hK => ?_)
  refine goes_ Try.func18 (by kernel_rfl) rfl _ (by rfl) rfl rfl (by simp only [List.map_toArray, List.map_cons, List.map_nil]; rfl) ?_
  refine (angt_calls aa _).mono ?_
  rintro e w8 ⟨rfl, hd3⟩
  refine ⟨_, rfl, ?_⟩
  have hB := dbelow hd3 hB
  have Xg3 := dblk hd3 Xg3
  have Xg4 := dblk hd3 Xg4
  refine hK.out _ _ ⟨dcell hd3 (hHeld.1), dcell hd3 (hHeld.2.1), dcell hd3 (hHeld.2.2)⟩ (fun hHeld => ?_)
  clear hK K
  refine norm_ (a' := ?_) ?_ ?_
  rotate_left
  · show Act.put _ (some 18) _ = _
    simp only [Act.put, List.setIfInBounds_toArray, List.set_cons_zero, List.set_cons_succ, i64_w, i32_w]
    rfl
  refine pure_ (i := 9) (N := some 19) (v := ?_) (a' := ?_) #[true, true, true, true, true, true, true, true, true, true, false] rfl rfl (by kernel_rfl) (fun _ _ _ h => h) (Or.inl ⟨by rfl, ?_⟩) ?_ ?_
  rotate_left
  · intro w'
    go_simp
    with_reducible rfl
  rotate_left
  · simp only [Act.put, List.setIfInBounds_toArray, List.set_cons_zero, List.set_cons_succ, i64_w, i32_w]
    rfl
  refine last_ (i := 10) (N := none) #[true, true, true, true, true, true, true, true, true, true, true] rfl rfl (by kernel_rfl) (by decide) (fun K hK => ?_)
  have c0 := (blk_cell Xg3 0).trans (show _ = some (.float .f32 ax) from rfl)
  have c1 := (blk_cell Xg3 1).trans (show _ = some (.float .f32 ay) from rfl)
  have c2 := (blk_cell Xg3 2).trans (show _ = some (.float .f32 aa) from rfl)
  have f0 := blk_frozen Xg3 0
  have f1 := blk_frozen Xg3 1
  have f2 := blk_frozen Xg3 2
  refine skip_ (w1 := ?_) (by rfl) rfl ?_ ?_
  rotate_left
  · go_simp
    rfl
  refine hK.out _ _ ?_
  clear hK K
  refine done_ (by kernel_rfl) ?_
  go_wp2_with fail
  have Yg3 := blk_put (blk_put (blk_put Xg3 0 (.float .f32 (tameF ax)) rfl) 1 (.float .f32 (tameF ay)) rfl) 2 (.float .f32 (angT aa)) rfl
  have Yg4 := blk_far (blk_far (blk_far Xg4 (p := ⟨g3, 0, none⟩) n34.symm (.float .f32 (tameF ax))) (p := ⟨g3, 1, none⟩) n34.symm (.float .f32 (tameF ay))) (p := ⟨g3, 2, none⟩) n34.symm (.float .f32 (angT aa))
  have hB := below_set (j := 2) (v := .float .f32 (angT aa)) (below_set (j := 1) (v := .float .f32 (tameF ay)) (below_set (j := 0) (v := .float .f32 (tameF ax)) hB hg3) hg3) hg3
  clear Xg3 Xg4
  generalize ((w8.setCell ⟨g3, 0, none⟩ (.float .f32 (tameF ax))).setCell ⟨g3, 1, none⟩ (.float .f32 (tameF ay))).setCell ⟨g3, 2, none⟩ (.float .f32 (angT aa)) = w6 at Yg3 Yg4 hB ⊢
  have Xg3 := Yg3
  have Xg4 := Yg4
  clear Yg3 Yg4
  refine start_ (n := 11) (S := fun w' => w'.cell? ⟨g4, 0, none⟩ = some (.float .f32 bx) ∧ w'.cell? ⟨g4, 1, none⟩ = some (.float .f32 by_) ∧ w'.cell? ⟨g4, 2, none⟩ = some (.float .f32 ba)) (ds := [10]) #[false, false, false, false, false, false, false, false, false, false, false] (by kernel_rfl) rfl rfl ⟨(blk_cell Xg4 0).trans rfl, (blk_cell Xg4 1).trans rfl, (blk_cell Xg4 2).trans rfl⟩ (fun hHeld => ?_)
  refine pure_ (i := 0) (N := some 20) (v := ?_) (a' := ?_) #[true, false, false, false, false, false, false, false, false, false, false] rfl rfl (by kernel_rfl) (fun _ _ _ h => h) (Or.inl ⟨by rfl, ?_⟩) ?_ ?_
  rotate_left
  · intro w'
    go_simp
    with_reducible rfl
  rotate_left
  · simp only [Act.put, List.setIfInBounds_toArray, List.set_cons_zero, List.set_cons_succ, i64_w, i32_w]
    rfl
  refine pure_ (i := 3) (N := some 23) (v := ?_) (a' := ?_) #[true, false, false, true, false, false, false, false, false, false, false] rfl rfl (by kernel_rfl) (fun _ _ _ h => h) (Or.inl ⟨by rfl, ?_⟩) ?_ ?_
  rotate_left
  · intro w'
    go_simp
    with_reducible rfl
  rotate_left
  · simp only [Act.put, List.setIfInBounds_toArray, List.set_cons_zero, List.set_cons_succ, i64_w, i32_w]
    rfl
  refine pure_ (i := 6) (N := some 26) (v := ?_) (a' := ?_) #[true, false, false, true, false, false, true, false, false, false, false] rfl rfl (by kernel_rfl) (fun _ _ _ h => h) (Or.inl ⟨by rfl, ?_⟩) ?_ ?_
  rotate_left
  · intro w'
    go_simp
    with_reducible rfl
  rotate_left
  · simp only [Act.put, List.setIfInBounds_toArray, List.set_cons_zero, List.set_cons_succ, i64_w, i32_w]
    rfl
  refine take_ (i := 1) (N := some 21) (v := ?_) (a' := ?_) #[true, true, false, true, false, false, true, false, false, false, false] rfl rfl (by kernel_rfl) (fun _ _ _ h => h) (Or.inl ⟨by rfl, ?_⟩) hHeld ?_ ?_
  rotate_left
  · rintro w' ⟨s0, s1, s2⟩
    go_simp
    with_reducible rfl
  rotate_left
  · simp only [Act.put, List.setIfInBounds_toArray, List.set_cons_zero, List.set_cons_succ, i64_w, i32_w]
    rfl
  refine take_ (i := 4) (N := some 24) (v := ?_) (a' := ?_) #[true, true, false, true, true, false, true, false, false, false, false] rfl rfl (by kernel_rfl) (fun _ _ _ h => h) (Or.inl ⟨by rfl, ?_⟩) hHeld ?_ ?_
  rotate_left
  · rintro w' ⟨s0, s1, s2⟩
    go_simp
    with_reducible rfl
  rotate_left
  · simp only [Act.put, List.setIfInBounds_toArray, List.set_cons_zero, List.set_cons_succ, i64_w, i32_w]
    rfl
  refine take_ (i := 7) (N := some 27) (v := ?_) (a' := ?_) #[true, true, false, true, true, false, true, true, false, false, false] rfl rfl (by kernel_rfl) (fun _ _ _ h => h) (Or.inl ⟨by rfl, ?_⟩) hHeld ?_ ?_
  rotate_left
  · rintro w' ⟨s0, s1, s2⟩
    go_simp
    with_reducible rfl
  rotate_left
  · simp only [Act.put, List.setIfInBounds_toArray, List.set_cons_zero, List.set_cons_succ, i64_w, i32_w]
    rfl
  refine one_ (i := 2) (N := some 22) #[true, true, true, true, true, false, true, true, false, false, false] rfl rfl (by kernel_rfl) (by decide) (fun K hK => ?_)
  refine goes_ Try.func17 (by kernel_rfl) rfl _ (by rfl) rfl rfl (by simp only [List.map_toArray, List.map_cons, List.map_nil]; rfl) ?_
  refine (tame_calls bx _).mono ?_
  rintro e w8 ⟨rfl, hd1⟩
  refine ⟨_, rfl, ?_⟩
  have hB := dbelow hd1 (below_drew1 hB)
  have Xg3 := dblk hd1 (blk_drew Xg3)
  have Xg4 := dblk hd1 (blk_drew Xg4)
  refine hK.out _ _ ⟨dcell hd1 (hHeld.1), dcell hd1 (hHeld.2.1), dcell hd1 (hHeld.2.2)⟩ (fun hHeld => ?_)
  clear hK K
  refine norm_ (a' := ?_) ?_ ?_
  rotate_left
  · show Act.put _ (some 22) _ = _
    simp only [Act.put, List.setIfInBounds_toArray, List.set_cons_zero, List.set_cons_succ, i64_w, i32_w]
    rfl
  refine one_ (i := 5) (N := some 25) #[true, true, true, true, true, true, true, true, false, false, false] rfl rfl (by kernel_rfl) (by decide) (fun K hK => ?_)
  refine goes_ Try.func17 (by kernel_rfl) rfl _ (by rfl) rfl rfl (by simp only [List.map_toArray, List.map_cons, List.map_nil]; rfl) ?_
  refine (tame_calls by_ _).mono ?_
  rintro e w8 ⟨rfl, hd2⟩
  refine ⟨_, rfl, ?_⟩
  have hB := dbelow hd2 hB
  have Xg3 := dblk hd2 Xg3
  have Xg4 := dblk hd2 Xg4
  refine hK.out _ _ ⟨dcell hd2 (hHeld.1), dcell hd2 (hHeld.2.1), dcell hd2 (hHeld.2.2)⟩ (fun hHeld => ?_)
  clear hK K
  refine norm_ (a' := ?_) ?_ ?_
  rotate_left
  · show Act.put _ (some 25) _ = _
    simp only [Act.put, List.setIfInBounds_toArray, List.set_cons_zero, List.set_cons_succ, i64_w, i32_w]
    rfl
  refine one_ (i := 8) (N := some 28) #[true, true, true, true, true, true, true, true, true, false, false] rfl rfl (by kernel_rfl) (by decide) (fun K hK => ?_)
  refine goes_ Try.func18 (by kernel_rfl) rfl _ (by rfl) rfl rfl (by simp only [List.map_toArray, List.map_cons, List.map_nil]; rfl) ?_
  refine (angt_calls ba _).mono ?_
  rintro e w8 ⟨rfl, hd3⟩
  refine ⟨_, rfl, ?_⟩
  have hB := dbelow hd3 hB
  have Xg3 := dblk hd3 Xg3
  have Xg4 := dblk hd3 Xg4
  refine hK.out _ _ ⟨dcell hd3 (hHeld.1), dcell hd3 (hHeld.2.1), dcell hd3 (hHeld.2.2)⟩ (fun hHeld => ?_)
  clear hK K
  refine norm_ (a' := ?_) ?_ ?_
  rotate_left
  · show Act.put _ (some 28) _ = _
    simp only [Act.put, List.setIfInBounds_toArray, List.set_cons_zero, List.set_cons_succ, i64_w, i32_w]
    rfl
  refine pure_ (i := 9) (N := some 29) (v := ?_) (a' := ?_) #[true, true, true, true, true, true, true, true, true, true, false] rfl rfl (by kernel_rfl) (fun _ _ _ h => h) (Or.inl ⟨by rfl, ?_⟩) ?_ ?_
  rotate_left
  · intro w'
    go_simp
    with_reducible rfl
  rotate_left
  · simp only [Act.put, List.setIfInBounds_toArray, List.set_cons_zero, List.set_cons_succ, i64_w, i32_w]
    rfl
  refine last_ (i := 10) (N := none) #[true, true, true, true, true, true, true, true, true, true, true] rfl rfl (by kernel_rfl) (by decide) (fun K hK => ?_)
  have c0 := (blk_cell Xg4 0).trans (show _ = some (.float .f32 bx) from rfl)
  have c1 := (blk_cell Xg4 1).trans (show _ = some (.float .f32 by_) from rfl)
  have c2 := (blk_cell Xg4 2).trans (show _ = some (.float .f32 ba) from rfl)
  have f0 := blk_frozen Xg4 0
  have f1 := blk_frozen Xg4 1
  have f2 := blk_frozen Xg4 2
  refine skip_ (w1 := ?_) (by rfl) rfl ?_ ?_
  rotate_left
  · go_simp
    rfl
  refine hK.out _ _ ?_
  clear hK K
  refine done_ (by kernel_rfl) ?_
  have Yg4 := blk_put (blk_put (blk_put Xg4 0 (.float .f32 (tameF bx)) rfl) 1 (.float .f32 (tameF by_)) rfl) 2 (.float .f32 (angT ba)) rfl
  have Yg3 := blk_far (blk_far (blk_far Xg3 (p := ⟨g4, 0, none⟩) n34 (.float .f32 (tameF bx))) (p := ⟨g4, 1, none⟩) n34 (.float .f32 (tameF by_))) (p := ⟨g4, 2, none⟩) n34 (.float .f32 (angT ba))
  have hB := below_set (j := 2) (v := .float .f32 (angT ba)) (below_set (j := 1) (v := .float .f32 (tameF by_)) (below_set (j := 0) (v := .float .f32 (tameF bx)) hB hg4) hg4) hg4
  clear Xg4 Xg3
  generalize ((w8.setCell ⟨g4, 0, none⟩ (.float .f32 (tameF bx))).setCell ⟨g4, 1, none⟩ (.float .f32 (tameF by_))).setCell ⟨g4, 2, none⟩ (.float .f32 (angT ba)) = w7 at Yg4 Yg3 hB ⊢
  have Xg4 := Yg4
  have Xg3 := Yg3
  clear Yg4 Yg3
  obtain ⟨p, hpe⟩ : ∃ p : P3, p = ⟨tameF ax, tameF ay, angT aa⟩ := ⟨_, rfl⟩
  obtain ⟨q, hqe⟩ : ∃ q : P3, q = ⟨tameF bx, tameF by_, angT ba⟩ := ⟨_, rfl⟩
  have hp : PT p := by rw [hpe]; exact ⟨tameF_tame _, tameF_tame _, angT_ang _⟩
  have hq : PT q := by rw [hqe]; exact ⟨tameF_tame _, tameF_tame _, angT_ang _⟩
  have Xg3 : w7.heap[g3]? = some (.cells #[.float .f32 p.x, .float .f32 p.y, .float .f32 p.a] 24 (0, 0)) := by rw [hpe]; exact Xg3
  have Xg4 : w7.heap[g4]? = some (.cells #[.float .f32 q.x, .float .f32 q.y, .float .f32 q.a] 24 (0, 0)) := by rw [hqe]; exact Xg4
  clear hpe hqe
  have HP := Aside0.mk hp
  have HQ := Aside0.mk hq
  clear hp hq
  have hp := HP.out
  have hq := HQ.out
  go_wp2_with (first
    | ((with_reducible refine gate_dst (N := 30) rfl ?_); refine wpList_load_at rfl 24 (.tmp 3) rfl ⟨g3, 0, none⟩ rfl [.float .f32 p.x, .float .f32 p.y, .float .f32 p.a] _ Try.underlying24 rfl (by kernel_rfl) (At.of_blk Xg3) ?_)
    | ((with_reducible refine gate_dst (N := 31) rfl ?_); refine wpList_load_at rfl 24 (.tmp 4) rfl ⟨g4, 0, none⟩ rfl [.float .f32 q.x, .float .f32 q.y, .float .f32 q.a] _ Try.underlying24 rfl (by kernel_rfl) (At.of_blk Xg4) ?_)
    | ((with_reducible refine gate_dst (N := 33) rfl ?_); (with_reducible refine gate_callee (f := 12) rfl ?_); refine goesL_ _ rfl rfl Try.func12 (by kernel_rfl) rfl _ rfl (by simp only [List.map_toArray, List.map_cons, List.map_nil]; rfl) ?_; refine (mix_words p q hp hq t _).mono ?_; rintro e w9 ⟨rfl, hb⟩; refine ⟨_, rfl, ?_⟩; have Xg3 := blk_below Xg3 hb; have Xg4 := blk_below Xg4 hb; have hB := below_step hB hb; clear hb)
    | ((with_reducible refine gate_dst (N := 7) rfl ?_); refine box_event ?hg (N := 7) ?hd (cs := #[.float .f32 0, .float .f32 0, .float .f32 0]) (t := 24) ?hr ?_; (case hd => rfl); (case hg => rfl); (case hr => first | (go_simp; done) | (go_simp; rfl)); intro g7 eg7 w10 Xg7 Bg7; have hg7 : w9.heap.size ≤ g7 := Nat.le_of_eq eg7.symm; clear eg7)
    | ((with_reducible refine gate_store (t := 24) (p := 7) rfl ?_); refine wpList_store_blk rfl 24 (.tmp 7) (.tmp 33) rfl g7 [.float .f32 (mixS p.x q.x t), .float .f32 (mixS p.y q.y t), .float .f32 (mixA p.a q.a t)] rfl rfl 24 _ Xg7 (by kernel_rfl) rfl rfl ?_; intro w11 Xs hb6 hk6 hz6; have hBr := hb6 _ _ Bg7 hg7; have Xg3 := blk_below Xg3 hBr; have Xg4 := blk_below Xg4 hBr; have hB := below_step hB hBr; clear hb6 hk6 hz6 Bg7 hBr Xg7; have Xg7 := Xs; clear Xs))
  obtain ⟨hma, hwf, hwl⟩ := mixA_way t hp.a hq.a
  obtain ⟨fx, lx, ux⟩ := mixS_near t hp.x hq.x
  obtain ⟨fy, ly, uy⟩ := mixS_near t hp.y hq.y
  generalize mixS p.x q.x t = mx at *
  generalize mixS p.y q.y t = my at *
  generalize mixA p.a q.a t = ma at *
  have hge : fcmp .geq ma 0 = true := by rw [cmp_geq hma.fin fin_0, SV_0]; exact decide_eq_true hma.lo
  have hlt : fcmp .lss ma 1135869952 = true := by rw [cmp_lss hma.fin fin_360, SV_360]; exact decide_eq_true hma.hi
  have p_1 := fun w => eq_float w _ (fin_nan hp.x.fin)
  have p_2 := fun w => eq_float w _ (fin_nan hp.y.fin)
  have p_3 := fun w => eq_float w _ (fin_nan hp.a.fin)
  have q_1 := fun w => eq_float w _ (fin_nan hq.x.fin)
  have q_2 := fun w => eq_float w _ (fin_nan hq.y.fin)
  have q_3 := fun w => eq_float w _ (fin_nan hq.a.fin)
  have hneg : ∀ w : World, (Op.unary .neg (.float .f32 t)).run Try.prog w = .ok (.float .f32 (negF t)) w := fun w => rfl
  refine start_ (n := 42) (S := fun w' => At w' ⟨g3, 0, none⟩ [.float .f32 p.x, .float .f32 p.y, .float .f32 p.a] ∧ At w' ⟨g4, 0, none⟩ [.float .f32 q.x, .float .f32 q.y, .float .f32 q.a] ∧ w'.cell? ⟨g7, 2, none⟩ = some (.float .f32 ma)) (ds := []) #[false, false, false, false, false, false, false, false, false, false, false, false, false, false, false, false, false, false, false, false, false, false, false, false, false, false, false, false, false, false, false, false, false, false, false, false, false, false, false, false, false, false] (by kernel_rfl) rfl rfl ⟨(At.of_blk Xg3).drew, (At.of_blk Xg4).drew, (blk_cell Xg7 2).trans rfl⟩ (fun hHeld => ?_)
  refine pure_ (i := 0) (N := some 34) (v := ?_) (a' := ?_) #[true, false, false, false, false, false, false, false, false, false, false, false, false, false, false, false, false, false, false, false, false, false, false, false, false, false, false, false, false, false, false, false, false, false, false, false, false, false, false, false, false, false] rfl rfl (by kernel_rfl) (fun _ _ _ h => h) (Or.inl ⟨by rfl, ?_⟩) ?_ ?_
  rotate_left
  · intro w'
    go_simp
    with_reducible rfl
  rotate_left
  · simp only [Act.put, List.setIfInBounds_toArray, List.set_cons_zero, List.set_cons_succ, i64_w, i32_w]
    rfl
  refine take_ (i := 1) (N := some 35) (v := ?_) (a' := ?_) #[true, true, false, false, false, false, false, false, false, false, false, false, false, false, false, false, false, false, false, false, false, false, false, false, false, false, false, false, false, false, false, false, false, false, false, false, false, false, false, false, false, false] rfl rfl (by kernel_rfl) (fun _ _ _ h => h) (Or.inl ⟨by rfl, ?_⟩) hHeld ?_ ?_
  rotate_left
  · rintro w' ⟨s0, s1, s2⟩
    go_simp
    with_reducible rfl
  rotate_left
  · simp only [Act.put, List.setIfInBounds_toArray, List.set_cons_zero, List.set_cons_succ, i64_w, i32_w]
    rfl
  refine pure_ (i := 2) (N := some 36) (v := ?_) (a' := ?_) #[true, true, true, false, false, false, false, false, false, false, false, false, false, false, false, false, false, false, false, false, false, false, false, false, false, false, false, false, false, false, false, false, false, false, false, false, false, false, false, false, false, false] rfl rfl (by kernel_rfl) (fun _ _ _ h => h) (Or.inl ⟨by rfl, ?_⟩) ?_ ?_
  rotate_left
  · intro w'
    refine Eq.trans (exec_flc .geq 22 22 _ _ (by rfl) (by decide) ma 0 (by rfl) (by rfl) true hge) ?_
    with_reducible rfl
  rotate_left
  · simp only [Act.put, List.setIfInBounds_toArray, List.set_cons_zero, List.set_cons_succ, i64_w, i32_w]
    rfl
  refine pure_ (i := 3) (N := some 37) (v := ?_) (a' := ?_) #[true, true, true, true, false, false, false, false, false, false, false, false, false, false, false, false, false, false, false, false, false, false, false, false, false, false, false, false, false, false, false, false, false, false, false, false, false, false, false, false, false, false] rfl rfl (by kernel_rfl) (fun _ _ _ h => h) (Or.inl ⟨by rfl, ?_⟩) ?_ ?_
  rotate_left
  · intro w'
    go_simp
    with_reducible rfl
  rotate_left
  · simp only [Act.put, List.setIfInBounds_toArray, List.set_cons_zero, List.set_cons_succ, i64_w, i32_w]
    rfl
  refine pure_ (i := 4) (N := some 38) (v := ?_) (a' := ?_) #[true, true, true, true, true, false, false, false, false, false, false, false, false, false, false, false, false, false, false, false, false, false, false, false, false, false, false, false, false, false, false, false, false, false, false, false, false, false, false, false, false, false] rfl rfl (by kernel_rfl) (fun _ _ _ h => h) (Or.inl ⟨by rfl, ?_⟩) ?_ ?_
  rotate_left
  · intro w'
    go_simp
    with_reducible rfl
  rotate_left
  · simp only [Act.put, List.setIfInBounds_toArray, List.set_cons_zero, List.set_cons_succ, i64_w, i32_w]
    rfl
  refine take_ (i := 5) (N := some 39) (v := ?_) (a' := ?_) #[true, true, true, true, true, true, false, false, false, false, false, false, false, false, false, false, false, false, false, false, false, false, false, false, false, false, false, false, false, false, false, false, false, false, false, false, false, false, false, false, false, false] rfl rfl (by kernel_rfl) (fun _ _ _ h => h) (Or.inl ⟨by rfl, ?_⟩) hHeld ?_ ?_
  rotate_left
  · rintro w' ⟨s0, s1, s2⟩
    go_simp
    with_reducible rfl
  rotate_left
  · simp only [Act.put, List.setIfInBounds_toArray, List.set_cons_zero, List.set_cons_succ, i64_w, i32_w]
    rfl
  refine pure_ (i := 6) (N := some 40) (v := ?_) (a' := ?_) #[true, true, true, true, true, true, true, false, false, false, false, false, false, false, false, false, false, false, false, false, false, false, false, false, false, false, false, false, false, false, false, false, false, false, false, false, false, false, false, false, false, false] rfl rfl (by kernel_rfl) (fun _ _ _ h => h) (Or.inl ⟨by rfl, ?_⟩) ?_ ?_
  rotate_left
  · intro w'
    refine Eq.trans (exec_flc .lss 22 22 _ _ (by rfl) (by decide) ma 1135869952 (by rfl) (by rfl) true hlt) ?_
    with_reducible rfl
  rotate_left
  · simp only [Act.put, List.setIfInBounds_toArray, List.set_cons_zero, List.set_cons_succ, i64_w, i32_w]
    rfl
  refine pure_ (i := 7) (N := some 41) (v := ?_) (a' := ?_) #[true, true, true, true, true, true, true, true, false, false, false, false, false, false, false, false, false, false, false, false, false, false, false, false, false, false, false, false, false, false, false, false, false, false, false, false, false, false, false, false, false, false] rfl rfl (by kernel_rfl) (fun _ _ _ h => h) (Or.inl ⟨by rfl, ?_⟩) ?_ ?_
  rotate_left
  · intro w'
    go_simp
    with_reducible rfl
  rotate_left
  · simp only [Act.put, List.setIfInBounds_toArray, List.set_cons_zero, List.set_cons_succ, i64_w, i32_w]
    rfl
  refine pure_ (i := 8) (N := some 42) (v := ?_) (a' := ?_) #[true, true, true, true, true, true, true, true, true, false, false, false, false, false, false, false, false, false, false, false, false, false, false, false, false, false, false, false, false, false, false, false, false, false, false, false, false, false, false, false, false, false] rfl rfl (by kernel_rfl) (fun _ _ _ h => h) (Or.inl ⟨by rfl, ?_⟩) ?_ ?_
  rotate_left
  · intro w'
    go_simp
    with_reducible rfl
  rotate_left
  · simp only [Act.put, List.setIfInBounds_toArray, List.set_cons_zero, List.set_cons_succ, i64_w, i32_w]
    rfl
  refine pure_ (i := 9) (N := some 43) (v := ?_) (a' := ?_) #[true, true, true, true, true, true, true, true, true, true, false, false, false, false, false, false, false, false, false, false, false, false, false, false, false, false, false, false, false, false, false, false, false, false, false, false, false, false, false, false, false, false] rfl rfl (by kernel_rfl) (fun _ _ _ h => h) (Or.inl ⟨by rfl, ?_⟩) ?_ ?_
  rotate_left
  · intro w'
    go_simp
    with_reducible rfl
  rotate_left
  · simp only [Act.put, List.setIfInBounds_toArray, List.set_cons_zero, List.set_cons_succ, i64_w, i32_w]
    rfl
  refine pure_ (i := 12) (N := some 46) (v := ?_) (a' := ?_) #[true, true, true, true, true, true, true, true, true, true, false, false, true, false, false, false, false, false, false, false, false, false, false, false, false, false, false, false, false, false, false, false, false, false, false, false, false, false, false, false, false, false] rfl rfl (by kernel_rfl) (fun _ _ _ h => h) (Or.inl ⟨by rfl, ?_⟩) ?_ ?_
  rotate_left
  · intro w'
    go_simp
    with_reducible rfl
  rotate_left
  · simp only [Act.put, List.setIfInBounds_toArray, List.set_cons_zero, List.set_cons_succ, i64_w, i32_w]
    rfl
  refine take_ (i := 10) (N := some 44) (v := ?_) (a' := ?_) #[true, true, true, true, true, true, true, true, true, true, true, false, true, false, false, false, false, false, false, false, false, false, false, false, false, false, false, false, false, false, false, false, false, false, false, false, false, false, false, false, false, false] rfl rfl (by kernel_rfl) (fun _ _ _ h => h) (Or.inl ⟨by rfl, ?_⟩) hHeld ?_ ?_
  rotate_left
  · rintro w' ⟨s0, s1, s2⟩
    refine Eq.trans (exec_load_at 24 _ (by rfl) ⟨g3, 0, none⟩ (by rfl) [.float .f32 p.x, .float .f32 p.y, .float .f32 p.a] _ Try.underlying24 rfl (by kernel_rfl) s0) ?_
    with_reducible rfl
  rotate_left
  · simp only [Act.put, List.setIfInBounds_toArray, List.set_cons_zero, List.set_cons_succ, i64_w, i32_w]
    rfl
  refine take_ (i := 11) (N := some 45) (v := ?_) (a' := ?_) #[true, true, true, true, true, true, true, true, true, true, true, true, true, false, false, false, false, false, false, false, false, false, false, false, false, false, false, false, false, false, false, false, false, false, false, false, false, false, false, false, false, false] rfl rfl (by kernel_rfl) (fun _ _ _ h => h) (Or.inl ⟨by rfl, ?_⟩) hHeld ?_ ?_
  rotate_left
  · rintro w' ⟨s0, s1, s2⟩
    refine Eq.trans (exec_load_at 24 _ (by rfl) ⟨g3, 0, none⟩ (by rfl) [.float .f32 p.x, .float .f32 p.y, .float .f32 p.a] _ Try.underlying24 rfl (by kernel_rfl) s0) ?_
    with_reducible rfl
  rotate_left
  · simp only [Act.put, List.setIfInBounds_toArray, List.set_cons_zero, List.set_cons_succ, i64_w, i32_w]
    rfl
  refine take_ (i := 14) (N := some 48) (v := ?_) (a' := ?_) #[true, true, true, true, true, true, true, true, true, true, true, true, true, false, true, false, false, false, false, false, false, false, false, false, false, false, false, false, false, false, false, false, false, false, false, false, false, false, false, false, false, false] rfl rfl (by kernel_rfl) (fun _ _ _ h => h) (Or.inl ⟨by rfl, ?_⟩) hHeld ?_ ?_
  rotate_left
  · rintro w' ⟨s0, s1, s2⟩
    refine Eq.trans (exec_load_at 24 _ (by rfl) ⟨g3, 0, none⟩ (by rfl) [.float .f32 p.x, .float .f32 p.y, .float .f32 p.a] _ Try.underlying24 rfl (by kernel_rfl) s0) ?_
    with_reducible rfl
  rotate_left
  · simp only [Act.put, List.setIfInBounds_toArray, List.set_cons_zero, List.set_cons_succ, i64_w, i32_w]
    rfl
  refine one_ (i := 13) (N := some 47) #[true, true, true, true, true, true, true, true, true, true, true, true, true, true, true, false, false, false, false, false, false, false, false, false, false, false, false, false, false, false, false, false, false, false, false, false, false, false, false, false, false, false] rfl rfl (by kernel_rfl) (by decide) (fun K hK => ?_)
  refine goes_ Try.func12 (by kernel_rfl) rfl _ (by rfl) rfl rfl (by simp only [List.map_toArray, List.map_cons, List.map_nil]; rfl) ?_
  refine (mix_self_words p hp t _).mono ?_
  rintro e w12 ⟨x1, y1, a1, rfl, o1, o2, o3, hb1⟩
  refine ⟨_, rfl, ?_⟩
  have hB := below_step (below_drew1 hB) hb1
  have Xg3 := blk_below (blk_drew Xg3) hb1
  have Xg4 := blk_below (blk_drew Xg4) hb1
  have Xg7 := blk_below (blk_drew Xg7) hb1
  have e_1 := fun w => eq_float_of (P := Try.prog) w 9998 22 Try.underlying22 _ _ o1
  have e_2 := fun w => eq_float_of (P := Try.prog) w 9998 22 Try.underlying22 _ _ o2
  have e_3 := fun w => eq_float_of (P := Try.prog) w 9998 22 Try.underlying22 _ _ o3
  clear o1 o2 o3
  refine hK.out _ _ ⟨(hHeld.1).below hb1, (hHeld.2.1).below hb1, pw_cell_below hb1 hHeld.2.2⟩ (fun hHeld => ?_)
  clear hK K
  refine norm_ (a' := ?_) ?_ ?_
  rotate_left
  · show Act.put _ (some 47) _ = _
    simp only [Act.put, List.setIfInBounds_toArray, List.set_cons_zero, List.set_cons_succ, i64_w, i32_w]
    rfl
  refine pure_ (i := 15) (N := some 49) (v := ?_) (a' := ?_) #[true, true, true, true, true, true, true, true, true, true, true, true, true, true, true, true, false, false, false, false, false, false, false, false, false, false, false, false, false, false, false, false, false, false, false, false, false, false, false, false, false, false] rfl rfl (by kernel_rfl) (fun _ _ _ h => h) (Or.inl ⟨by rfl, ?_⟩) ?_ ?_
  rotate_left
  · intro w'
    go_simp
    with_reducible rfl
  rotate_left
  · simp only [Act.put, List.setIfInBounds_toArray, List.set_cons_zero, List.set_cons_succ, i64_w, i32_w]
    rfl
  refine pure_ (i := 16) (N := some 50) (v := ?_) (a' := ?_) #[true, true, true, true, true, true, true, true, true, true, true, true, true, true, true, true, true, false, false, false, false, false, false, false, false, false, false, false, false, false, false, false, false, false, false, false, false, false, false, false, false, false] rfl rfl (by kernel_rfl) (fun _ _ _ h => h) (Or.inl ⟨by rfl, ?_⟩) ?_ ?_
  rotate_left
  · intro w'
    go_simp
    with_reducible rfl
  rotate_left
  · simp only [Act.put, List.setIfInBounds_toArray, List.set_cons_zero, List.set_cons_succ, i64_w, i32_w]
    rfl
  refine pure_ (i := 17) (N := some 51) (v := ?_) (a' := ?_) #[true, true, true, true, true, true, true, true, true, true, true, true, true, true, true, true, true, true, false, false, false, false, false, false, false, false, false, false, false, false, false, false, false, false, false, false, false, false, false, false, false, false] rfl rfl (by kernel_rfl) (fun _ _ _ h => h) (Or.inl ⟨by rfl, ?_⟩) ?_ ?_
  rotate_left
  · intro w'
    go_simp
    with_reducible rfl
  rotate_left
  · simp only [Act.put, List.setIfInBounds_toArray, List.set_cons_zero, List.set_cons_succ, i64_w, i32_w]
    rfl
  refine take_ (i := 18) (N := some 52) (v := ?_) (a' := ?_) #[true, true, true, true, true, true, true, true, true, true, true, true, true, true, true, true, true, true, true, false, false, false, false, false, false, false, false, false, false, false, false, false, false, false, false, false, false, false, false, false, false, false] rfl rfl (by kernel_rfl) (fun _ _ _ h => h) (Or.inl ⟨by rfl, ?_⟩) hHeld ?_ ?_
  rotate_left
  · rintro w' ⟨s0, s1, s2⟩
    refine Eq.trans (exec_load_at 24 _ (by rfl) ⟨g3, 0, none⟩ (by rfl) [.float .f32 p.x, .float .f32 p.y, .float .f32 p.a] _ Try.underlying24 rfl (by kernel_rfl) s0) ?_
    with_reducible rfl
  rotate_left
  · simp only [Act.put, List.setIfInBounds_toArray, List.set_cons_zero, List.set_cons_succ, i64_w, i32_w]
    rfl
  refine take_ (i := 19) (N := some 53) (v := ?_) (a' := ?_) #[true, true, true, true, true, true, true, true, true, true, true, true, true, true, true, true, true, true, true, true, false, false, false, false, false, false, false, false, false, false, false, false, false, false, false, false, false, false, false, false, false, false] rfl rfl (by kernel_rfl) (fun _ _ _ h => h) (Or.inl ⟨by rfl, ?_⟩) hHeld ?_ ?_
  rotate_left
  · rintro w' ⟨s0, s1, s2⟩
    refine Eq.trans (exec_load_at 24 _ (by rfl) ⟨g4, 0, none⟩ (by rfl) [.float .f32 q.x, .float .f32 q.y, .float .f32 q.a] _ Try.underlying24 rfl (by kernel_rfl) s1) ?_
    with_reducible rfl
  rotate_left
  · simp only [Act.put, List.setIfInBounds_toArray, List.set_cons_zero, List.set_cons_succ, i64_w, i32_w]
    rfl
  refine take_ (i := 21) (N := some 55) (v := ?_) (a' := ?_) #[true, true, true, true, true, true, true, true, true, true, true, true, true, true, true, true, true, true, true, true, false, true, false, false, false, false, false, false, false, false, false, false, false, false, false, false, false, false, false, false, false, false] rfl rfl (by kernel_rfl) (fun _ _ _ h => h) (Or.inl ⟨by rfl, ?_⟩) hHeld ?_ ?_
  rotate_left
  · rintro w' ⟨s0, s1, s2⟩
    refine Eq.trans (exec_load_at 24 _ (by rfl) ⟨g3, 0, none⟩ (by rfl) [.float .f32 p.x, .float .f32 p.y, .float .f32 p.a] _ Try.underlying24 rfl (by kernel_rfl) s0) ?_
    with_reducible rfl
  rotate_left
  · simp only [Act.put, List.setIfInBounds_toArray, List.set_cons_zero, List.set_cons_succ, i64_w, i32_w]
    rfl
  refine one_ (i := 20) (N := some 54) #[true, true, true, true, true, true, true, true, true, true, true, true, true, true, true, true, true, true, true, true, true, true, false, false, false, false, false, false, false, false, false, false, false, false, false, false, false, false, false, false, false, false] rfl rfl (by kernel_rfl) (by decide) (fun K hK => ?_)
  refine goes_ Try.func12 (by kernel_rfl) rfl _ (by rfl) rfl rfl (by simp only [List.map_toArray, List.map_cons, List.map_nil]; rfl) ?_
  refine (mix_low_words p q hp hq 0 gtr_0_0 _).mono ?_
  rintro e w12 ⟨rfl, hb2⟩
  refine ⟨_, rfl, ?_⟩
  have hB := below_step hB hb2
  have Xg3 := blk_below Xg3 hb2
  have Xg4 := blk_below Xg4 hb2
  have Xg7 := blk_below Xg7 hb2
  refine hK.out _ _ ⟨(hHeld.1).below hb2, (hHeld.2.1).below hb2, pw_cell_below hb2 hHeld.2.2⟩ (fun hHeld => ?_)
  clear hK K
  refine norm_ (a' := ?_) ?_ ?_
  rotate_left
  · show Act.put _ (some 54) _ = _
    simp only [Act.put, List.setIfInBounds_toArray, List.set_cons_zero, List.set_cons_succ, i64_w, i32_w]
    rfl
  refine pure_ (i := 22) (N := some 56) (v := ?_) (a' := ?_) #[true, true, true, true, true, true, true, true, true, true, true, true, true, true, true, true, true, true, true, true, true, true, true, false, false, false, false, false, false, false, false, false, false, false, false, false, false, false, false, false, false, false] rfl rfl (by kernel_rfl) (fun _ _ _ h => h) (Or.inl ⟨by rfl, ?_⟩) ?_ ?_
  rotate_left
  · intro w'
    go_simp
    with_reducible rfl
  rotate_left
  · simp only [Act.put, List.setIfInBounds_toArray, List.set_cons_zero, List.set_cons_succ, i64_w, i32_w]
    rfl
  refine pure_ (i := 23) (N := some 57) (v := ?_) (a' := ?_) #[true, true, true, true, true, true, true, true, true, true, true, true, true, true, true, true, true, true, true, true, true, true, true, true, false, false, false, false, false, false, false, false, false, false, false, false, false, false, false, false, false, false] rfl rfl (by kernel_rfl) (fun _ _ _ h => h) (Or.inl ⟨by rfl, ?_⟩) ?_ ?_
  rotate_left
  · intro w'
    go_simp
    with_reducible rfl
  rotate_left
  · simp only [Act.put, List.setIfInBounds_toArray, List.set_cons_zero, List.set_cons_succ, i64_w, i32_w]
    rfl
  refine pure_ (i := 24) (N := some 58) (v := ?_) (a' := ?_) #[true, true, true, true, true, true, true, true, true, true, true, true, true, true, true, true, true, true, true, true, true, true, true, true, true, false, false, false, false, false, false, false, false, false, false, false, false, false, false, false, false, false] rfl rfl (by kernel_rfl) (fun _ _ _ h => h) (Or.inl ⟨by rfl, ?_⟩) ?_ ?_
  rotate_left
  · intro w'
    go_simp
    with_reducible rfl
  rotate_left
  · simp only [Act.put, List.setIfInBounds_toArray, List.set_cons_zero, List.set_cons_succ, i64_w, i32_w]
    rfl
  refine take_ (i := 25) (N := some 59) (v := ?_) (a' := ?_) #[true, true, true, true, true, true, true, true, true, true, true, true, true, true, true, true, true, true, true, true, true, true, true, true, true, true, false, false, false, false, false, false, false, false, false, false, false, false, false, false, false, false] rfl rfl (by kernel_rfl) (fun _ _ _ h => h) (Or.inl ⟨by rfl, ?_⟩) hHeld ?_ ?_
  rotate_left
  · rintro w' ⟨s0, s1, s2⟩
    refine Eq.trans (exec_load_at 24 _ (by rfl) ⟨g3, 0, none⟩ (by rfl) [.float .f32 p.x, .float .f32 p.y, .float .f32 p.a] _ Try.underlying24 rfl (by kernel_rfl) s0) ?_
    with_reducible rfl
  rotate_left
  · simp only [Act.put, List.setIfInBounds_toArray, List.set_cons_zero, List.set_cons_succ, i64_w, i32_w]
    rfl
  refine take_ (i := 26) (N := some 60) (v := ?_) (a' := ?_) #[true, true, true, true, true, true, true, true, true, true, true, true, true, true, true, true, true, true, true, true, true, true, true, true, true, true, true, false, false, false, false, false, false, false, false, false, false, false, false, false, false, false] rfl rfl (by kernel_rfl) (fun _ _ _ h => h) (Or.inl ⟨by rfl, ?_⟩) hHeld ?_ ?_
  rotate_left
  · rintro w' ⟨s0, s1, s2⟩
    refine Eq.trans (exec_load_at 24 _ (by rfl) ⟨g4, 0, none⟩ (by rfl) [.float .f32 q.x, .float .f32 q.y, .float .f32 q.a] _ Try.underlying24 rfl (by kernel_rfl) s1) ?_
    with_reducible rfl
  rotate_left
  · simp only [Act.put, List.setIfInBounds_toArray, List.set_cons_zero, List.set_cons_succ, i64_w, i32_w]
    rfl
  refine take_ (i := 28) (N := some 62) (v := ?_) (a' := ?_) #[true, true, true, true, true, true, true, true, true, true, true, true, true, true, true, true, true, true, true, true, true, true, true, true, true, true, true, false, true, false, false, false, false, false, false, false, false, false, false, false, false, false] rfl rfl (by kernel_rfl) (fun _ _ _ h => h) (Or.inl ⟨by rfl, ?_⟩) hHeld ?_ ?_
  rotate_left
  · rintro w' ⟨s0, s1, s2⟩
    refine Eq.trans (exec_load_at 24 _ (by rfl) ⟨g4, 0, none⟩ (by rfl) [.float .f32 q.x, .float .f32 q.y, .float .f32 q.a] _ Try.underlying24 rfl (by kernel_rfl) s1) ?_
    with_reducible rfl
  rotate_left
  · simp only [Act.put, List.setIfInBounds_toArray, List.set_cons_zero, List.set_cons_succ, i64_w, i32_w]
    rfl
  refine one_ (i := 27) (N := some 61) #[true, true, true, true, true, true, true, true, true, true, true, true, true, true, true, true, true, true, true, true, true, true, true, true, true, true, true, true, true, false, false, false, false, false, false, false, false, false, false, false, false, false] rfl rfl (by kernel_rfl) (by decide) (fun K hK => ?_)
  refine goes_ Try.func12 (by kernel_rfl) rfl _ (by rfl) rfl rfl (by simp only [List.map_toArray, List.map_cons, List.map_nil]; rfl) ?_
  refine (mix_one_words p q hp hq _).mono ?_
  rintro e w12 ⟨rfl, hb3⟩
  refine ⟨_, rfl, ?_⟩
  have hB := below_step hB hb3
  have Xg3 := blk_below Xg3 hb3
  have Xg4 := blk_below Xg4 hb3
  have Xg7 := blk_below Xg7 hb3
  refine hK.out _ _ ⟨(hHeld.1).below hb3, (hHeld.2.1).below hb3, pw_cell_below hb3 hHeld.2.2⟩ (fun hHeld => ?_)
  clear hK K
  refine norm_ (a' := ?_) ?_ ?_
  rotate_left
  · show Act.put _ (some 61) _ = _
    simp only [Act.put, List.setIfInBounds_toArray, List.set_cons_zero, List.set_cons_succ, i64_w, i32_w]
    rfl
  refine pure_ (i := 29) (N := some 63) (v := ?_) (a' := ?_) #[true, true, true, true, true, true, true, true, true, true, true, true, true, true, true, true, true, true, true, true, true, true, true, true, true, true, true, true, true, true, false, false, false, false, false, false, false, false, false, false, false, false] rfl rfl (by kernel_rfl) (fun _ _ _ h => h) (Or.inl ⟨by rfl, ?_⟩) ?_ ?_
  rotate_left
  · intro w'
    go_simp
    with_reducible rfl
  rotate_left
  · simp only [Act.put, List.setIfInBounds_toArray, List.set_cons_zero, List.set_cons_succ, i64_w, i32_w]
    rfl
  refine pure_ (i := 30) (N := some 64) (v := ?_) (a' := ?_) #[true, true, true, true, true, true, true, true, true, true, true, true, true, true, true, true, true, true, true, true, true, true, true, true, true, true, true, true, true, true, true, false, false, false, false, false, false, false, false, false, false, false] rfl rfl (by kernel_rfl) (fun _ _ _ h => h) (Or.inl ⟨by rfl, ?_⟩) ?_ ?_
  rotate_left
  · intro w'
    go_simp
    with_reducible rfl
  rotate_left
  · simp only [Act.put, List.setIfInBounds_toArray, List.set_cons_zero, List.set_cons_succ, i64_w, i32_w]
    rfl
  refine pure_ (i := 31) (N := some 65) (v := ?_) (a' := ?_) #[true, true, true, true, true, true, true, true, true, true, true, true, true, true, true, true, true, true, true, true, true, true, true, true, true, true, true, true, true, true, true, true, false, false, false, false, false, false, false, false, false, false] rfl rfl (by kernel_rfl) (fun _ _ _ h => h) (Or.inl ⟨by rfl, ?_⟩) ?_ ?_
  rotate_left
  · intro w'
    go_simp
    with_reducible rfl
  rotate_left
  · simp only [Act.put, List.setIfInBounds_toArray, List.set_cons_zero, List.set_cons_succ, i64_w, i32_w]
    rfl
  refine pure_ (i := 34) (N := some 68) (v := ?_) (a' := ?_) #[true, true, true, true, true, true, true, true, true, true, true, true, true, true, true, true, true, true, true, true, true, true, true, true, true, true, true, true, true, true, true, true, false, false, true, false, false, false, false, false, false, false] rfl rfl (by kernel_rfl) (fun _ _ _ h => h) (Or.inl ⟨by rfl, ?_⟩) ?_ ?_
  rotate_left
  · intro w'
    go_simp
    with_reducible rfl
  rotate_left
  · simp only [Act.put, List.setIfInBounds_toArray, List.set_cons_zero, List.set_cons_succ, i64_w, i32_w]
    rfl
  refine pure_ (i := 35) (N := some 69) (v := ?_) (a' := ?_) #[true, true, true, true, true, true, true, true, true, true, true, true, true, true, true, true, true, true, true, true, true, true, true, true, true, true, true, true, true, true, true, true, false, false, true, true, false, false, false, false, false, false] rfl rfl (by kernel_rfl) (fun _ _ _ h => h) (Or.inl ⟨by rfl, ?_⟩) ?_ ?_
  rotate_left
  · intro w'
    go_simp
    with_reducible rfl
  rotate_left
  · simp only [Act.put, List.setIfInBounds_toArray, List.set_cons_zero, List.set_cons_succ, i64_w, i32_w]
    rfl
  refine pure_ (i := 36) (N := some 70) (v := ?_) (a' := ?_) #[true, true, true, true, true, true, true, true, true, true, true, true, true, true, true, true, true, true, true, true, true, true, true, true, true, true, true, true, true, true, true, true, false, false, true, true, true, false, false, false, false, false] rfl rfl (by kernel_rfl) (fun _ _ _ h => h) (Or.inl ⟨by rfl, ?_⟩) ?_ ?_
  rotate_left
  · intro w'
    go_simp
    with_reducible rfl
  rotate_left
  · simp only [Act.put, List.setIfInBounds_toArray, List.set_cons_zero, List.set_cons_succ, i64_w, i32_w]
    rfl
  refine take_ (i := 32) (N := some 66) (v := ?_) (a' := ?_) #[true, true, true, true, true, true, true, true, true, true, true, true, true, true, true, true, true, true, true, true, true, true, true, true, true, true, true, true, true, true, true, true, true, false, true, true, true, false, false, false, false, false] rfl rfl (by kernel_rfl) (fun _ _ _ h => h) (Or.inl ⟨by rfl, ?_⟩) hHeld ?_ ?_
  rotate_left
  · rintro w' ⟨s0, s1, s2⟩
    refine Eq.trans (exec_load_at 24 _ (by rfl) ⟨g3, 0, none⟩ (by rfl) [.float .f32 p.x, .float .f32 p.y, .float .f32 p.a] _ Try.underlying24 rfl (by kernel_rfl) s0) ?_
    with_reducible rfl
  rotate_left
  · simp only [Act.put, List.setIfInBounds_toArray, List.set_cons_zero, List.set_cons_succ, i64_w, i32_w]
    rfl
  refine take_ (i := 33) (N := some 67) (v := ?_) (a' := ?_) #[true, true, true, true, true, true, true, true, true, true, true, true, true, true, true, true, true, true, true, true, true, true, true, true, true, true, true, true, true, true, true, true, true, true, true, true, true, false, false, false, false, false] rfl rfl (by kernel_rfl) (fun _ _ _ h => h) (Or.inl ⟨by rfl, ?_⟩) hHeld ?_ ?_
  rotate_left
  · rintro w' ⟨s0, s1, s2⟩
    refine Eq.trans (exec_load_at 24 _ (by rfl) ⟨g4, 0, none⟩ (by rfl) [.float .f32 q.x, .float .f32 q.y, .float .f32 q.a] _ Try.underlying24 rfl (by kernel_rfl) s1) ?_
    with_reducible rfl
  rotate_left
  · simp only [Act.put, List.setIfInBounds_toArray, List.set_cons_zero, List.set_cons_succ, i64_w, i32_w]
    rfl
  refine take_ (i := 39) (N := some 73) (v := ?_) (a' := ?_) #[true, true, true, true, true, true, true, true, true, true, true, true, true, true, true, true, true, true, true, true, true, true, true, true, true, true, true, true, true, true, true, true, true, true, true, true, true, false, false, true, false, false] rfl rfl (by kernel_rfl) (fun _ _ _ h => h) (Or.inl ⟨by rfl, ?_⟩) hHeld ?_ ?_
  rotate_left
  · rintro w' ⟨s0, s1, s2⟩
    refine Eq.trans (exec_load_at 24 _ (by rfl) ⟨g3, 0, none⟩ (by rfl) [.float .f32 p.x, .float .f32 p.y, .float .f32 p.a] _ Try.underlying24 rfl (by kernel_rfl) s0) ?_
    with_reducible rfl
  rotate_left
  · simp only [Act.put, List.setIfInBounds_toArray, List.set_cons_zero, List.set_cons_succ, i64_w, i32_w]
    rfl
  refine one_ (i := 37) (N := some 71) #[true, true, true, true, true, true, true, true, true, true, true, true, true, true, true, true, true, true, true, true, true, true, true, true, true, true, true, true, true, true, true, true, true, true, true, true, true, true, false, true, false, false] rfl rfl (by kernel_rfl) (by decide) (fun K hK => ?_)
  refine fl_step (by rfl) rfl _ _ _ _ _ rfl (by decide) _ _ _ _ rfl rfl (Fe.refl _) (Fe.refl _) ?_
  intro tz nz htz
  have hlow := neg_sq ht htz
  refine hK.out _ _ ⟨⟨hHeld.1.out⟩, ⟨hHeld.2.1.out⟩, hHeld.2.2⟩ (fun hHeld => ?_)
  clear hK K
  refine norm_ (a' := ?_) ?_ ?_
  rotate_left
  · show Act.put _ (some 71) _ = _
    simp only [Act.put, List.setIfInBounds_toArray, List.set_cons_zero, List.set_cons_succ, i64_w, i32_w]
    rfl
  refine one_ (i := 38) (N := some 72) #[true, true, true, true, true, true, true, true, true, true, true, true, true, true, true, true, true, true, true, true, true, true, true, true, true, true, true, true, true, true, true, true, true, true, true, true, true, true, true, true, false, false] rfl rfl (by kernel_rfl) (by decide) (fun K hK => ?_)
  refine goes_ Try.func12 (by kernel_rfl) rfl _ (by rfl) rfl rfl (by simp only [List.map_toArray, List.map_cons, List.map_nil]; rfl) ?_
  refine (mix_low_words p q hp hq tz hlow _).mono ?_
  rintro e w12 ⟨rfl, hb4⟩
  refine ⟨_, rfl, ?_⟩
  have hB := below_step (pw_below_drewN hB _) hb4
  have Xg3 := blk_below (blk_drewN Xg3 _) hb4
  have Xg4 := blk_below (blk_drewN Xg4 _) hb4
  have Xg7 := blk_below (blk_drewN Xg7 _) hb4
  refine hK.out _ _ ⟨(hHeld.1).below hb4, (hHeld.2.1).below hb4, pw_cell_below hb4 hHeld.2.2⟩ (fun hHeld => ?_)
  clear hK K
  refine norm_ (a' := ?_) ?_ ?_
  rotate_left
  · show Act.put _ (some 72) _ = _
    simp only [Act.put, List.setIfInBounds_toArray, List.set_cons_zero, List.set_cons_succ, i64_w, i32_w]
    rfl
  refine pure_ (i := 40) (N := some 74) (v := ?_) (a' := ?_) #[true, true, true, true, true, true, true, true, true, true, true, true, true, true, true, true, true, true, true, true, true, true, true, true, true, true, true, true, true, true, true, true, true, true, true, true, true, true, true, true, true, false] rfl rfl (by kernel_rfl) (fun _ _ _ h => h) (Or.inl ⟨by rfl, ?_⟩) ?_ ?_
  rotate_left
  · intro w'
    go_simp
    with_reducible rfl
  rotate_left
  · simp only [Act.put, List.setIfInBounds_toArray, List.set_cons_zero, List.set_cons_succ, i64_w, i32_w]
    rfl
  refine pure_ (i := 41) (N := some 75) (v := ?_) (a' := ?_) #[true, true, true, true, true, true, true, true, true, true, true, true, true, true, true, true, true, true, true, true, true, true, true, true, true, true, true, true, true, true, true, true, true, true, true, true, true, true, true, true, true, true] rfl rfl (by kernel_rfl) (fun _ _ _ h => h) (Or.inl ⟨by rfl, ?_⟩) ?_ ?_
  rotate_left
  · intro w'
    go_simp
    with_reducible rfl
  rotate_left
  · simp only [Act.put, List.setIfInBounds_toArray, List.set_cons_zero, List.set_cons_succ, i64_w, i32_w]
    rfl
  refine done_ (by kernel_rfl) ?_
  clear hneg p_1 p_2 p_3 q_1 q_2 q_3 e_1 e_2 e_3 hHeld hlow
  obtain ⟨tmn, smn⟩ := mn_tame hp.x hq.x
  obtain ⟨tmx, smx⟩ := mx_tame hp.x hq.x
  obtain ⟨tny, sny⟩ := mn_tame hp.y hq.y
  obtain ⟨txy, sxy⟩ := mx_tame hp.y hq.y
  obtain ⟨b1, b2⟩ := below_one tmn fx (by rw [smn]; exact lx)
  obtain ⟨b3, b4⟩ := above_one tmx fx (by rw [smx]; exact ux)
  obtain ⟨b5, b6⟩ := below_one tny fy (by rw [sny]; exact ly)
  obtain ⟨b7, b8⟩ := above_one txy fy (by rw [sxy]; exact uy)
  have r1 := fun w => run_mn (P := Try.prog) w p.x q.x hp.x.fin hq.x.fin
  have r2 := fun w => run_mx (P := Try.prog) w p.x q.x hp.x.fin hq.x.fin
  have r3 := fun w => run_mn (P := Try.prog) w p.y q.y hp.y.fin hq.y.fin
  have r4 := fun w => run_mx (P := Try.prog) w p.y q.y hp.y.fin hq.y.fin
  have k1 := fun w => run_float_arith (P := Try.prog) w .sub 22 .f32 _ _ _ (bits_fin b1)
  have k2 := fun w => run_float_arith (P := Try.prog) w .add 22 .f32 _ _ _ (bits_fin b3)
  have k3 := fun w => run_float_arith (P := Try.prog) w .sub 22 .f32 _ _ _ (bits_fin b5)
  have k4 := fun w => run_float_arith (P := Try.prog) w .add 22 .f32 _ _ _ (bits_fin b7)
  generalize fop .sub (mnF p.x q.x) 1065353216 = v1 at *
  generalize fop .add (mxF p.x q.x) 1065353216 = v2 at *
  generalize fop .sub (mnF p.y q.y) 1065353216 = v3 at *
  generalize fop .add (mxF p.y q.y) 1065353216 = v4 at *
  clear tmn smn tmx smx tny sny txy sxy b1 b3 b5 b7 lx ux ly uy
  have c3_0 : w12.cell? ⟨g3, 0, none⟩ = some (.float .f32 p.x) := (blk_cell Xg3 0).trans rfl
  have c3_1 : w12.cell? ⟨g3, 1, none⟩ = some (.float .f32 p.y) := (blk_cell Xg3 1).trans rfl
  have c4_0 : w12.cell? ⟨g4, 0, none⟩ = some (.float .f32 q.x) := (blk_cell Xg4 0).trans rfl
  have c4_1 : w12.cell? ⟨g4, 1, none⟩ = some (.float .f32 q.y) := (blk_cell Xg4 1).trans rfl
  have c7_0 : w12.cell? ⟨g7, 0, none⟩ = some (.float .f32 mx) := (blk_cell Xg7 0).trans rfl
  have c7_1 : w12.cell? ⟨g7, 1, none⟩ = some (.float .f32 my) := (blk_cell Xg7 1).trans rfl
  go_wp2_with (first
    | ((try (refine gate_guard (by rfl) ?_; dsimp only)); refine wpList_flc _ rfl _ _ _ _ _ rfl (by decide) _ _ _ _ rfl rfl (Fe.refl _) (Fe.refl _) ?_; first | rw [b2] | rw [b4] | rw [b6] | rw [b8]))
  refine start_ (n := 16) (S := fun w' => w'.cell? ⟨g3, 2, none⟩ = some (.float .f32 p.a) ∧ w'.cell? ⟨g7, 2, none⟩ = some (.float .f32 ma) ∧ w'.cell? ⟨g4, 2, none⟩ = some (.float .f32 q.a)) (ds := [13]) #[false, false, false, false, false, false, false, false, false, false, false, false, false, false, false, false] (by kernel_rfl) rfl rfl ⟨(blk_cell Xg3 2).trans rfl, (blk_cell Xg7 2).trans rfl, (blk_cell Xg4 2).trans rfl⟩ (fun hHeld => ?_)
  refine pure_ (i := 0) (N := some 119) (v := ?_) (a' := ?_) #[true, false, false, false, false, false, false, false, false, false, false, false, false, false, false, false] rfl rfl (by kernel_rfl) (fun _ _ _ h => h) (Or.inl ⟨by rfl, ?_⟩) ?_ ?_
  rotate_left
  · intro w'
    go_simp
    with_reducible rfl
  rotate_left
  · simp only [Act.put, List.setIfInBounds_toArray, List.set_cons_zero, List.set_cons_succ, i64_w, i32_w]
    rfl
  refine pure_ (i := 2) (N := some 121) (v := ?_) (a' := ?_) #[true, false, true, false, false, false, false, false, false, false, false, false, false, false, false, false] rfl rfl (by kernel_rfl) (fun _ _ _ h => h) (Or.inl ⟨by rfl, ?_⟩) ?_ ?_
  rotate_left
  · intro w'
    go_simp
    with_reducible rfl
  rotate_left
  · simp only [Act.put, List.setIfInBounds_toArray, List.set_cons_zero, List.set_cons_succ, i64_w, i32_w]
    rfl
  refine pure_ (i := 5) (N := some 124) (v := ?_) (a' := ?_) #[true, false, true, false, false, true, false, false, false, false, false, false, false, false, false, false] rfl rfl (by kernel_rfl) (fun _ _ _ h => h) (Or.inl ⟨by rfl, ?_⟩) ?_ ?_
  rotate_left
  · intro w'
    go_simp
    with_reducible rfl
  rotate_left
  · simp only [Act.put, List.setIfInBounds_toArray, List.set_cons_zero, List.set_cons_succ, i64_w, i32_w]
    rfl
  refine pure_ (i := 7) (N := some 126) (v := ?_) (a' := ?_) #[true, false, true, false, false, true, false, true, false, false, false, false, false, false, false, false] rfl rfl (by kernel_rfl) (fun _ _ _ h => h) (Or.inl ⟨by rfl, ?_⟩) ?_ ?_
  rotate_left
  · intro w'
    go_simp
    with_reducible rfl
  rotate_left
  · simp only [Act.put, List.setIfInBounds_toArray, List.set_cons_zero, List.set_cons_succ, i64_w, i32_w]
    rfl
  refine take_ (i := 1) (N := some 120) (v := ?_) (a' := ?_) #[true, true, true, false, false, true, false, true, false, false, false, false, false, false, false, false] rfl rfl (by kernel_rfl) (fun _ _ _ h => h) (Or.inl ⟨by rfl, ?_⟩) hHeld ?_ ?_
  rotate_left
  · rintro w' ⟨s0, s1, s2⟩
    go_simp
    with_reducible rfl
  rotate_left
  · simp only [Act.put, List.setIfInBounds_toArray, List.set_cons_zero, List.set_cons_succ, i64_w, i32_w]
    rfl
  refine take_ (i := 3) (N := some 122) (v := ?_) (a' := ?_) #[true, true, true, true, false, true, false, true, false, false, false, false, false, false, false, false] rfl rfl (by kernel_rfl) (fun _ _ _ h => h) (Or.inl ⟨by rfl, ?_⟩) hHeld ?_ ?_
  rotate_left
  · rintro w' ⟨s0, s1, s2⟩
    go_simp
    with_reducible rfl
  rotate_left
  · simp only [Act.put, List.setIfInBounds_toArray, List.set_cons_zero, List.set_cons_succ, i64_w, i32_w]
    rfl
  refine take_ (i := 6) (N := some 125) (v := ?_) (a' := ?_) #[true, true, true, true, false, true, true, true, false, false, false, false, false, false, false, false] rfl rfl (by kernel_rfl) (fun _ _ _ h => h) (Or.inl ⟨by rfl, ?_⟩) hHeld ?_ ?_
  rotate_left
  · rintro w' ⟨s0, s1, s2⟩
    go_simp
    with_reducible rfl
  rotate_left
  · simp only [Act.put, List.setIfInBounds_toArray, List.set_cons_zero, List.set_cons_succ, i64_w, i32_w]
    rfl
  refine take_ (i := 8) (N := some 127) (v := ?_) (a' := ?_) #[true, true, true, true, false, true, true, true, true, false, false, false, false, false, false, false] rfl rfl (by kernel_rfl) (fun _ _ _ h => h) (Or.inl ⟨by rfl, ?_⟩) hHeld ?_ ?_
  rotate_left
  · rintro w' ⟨s0, s1, s2⟩
    go_simp
    with_reducible rfl
  rotate_left
  · simp only [Act.put, List.setIfInBounds_toArray, List.set_cons_zero, List.set_cons_succ, i64_w, i32_w]
    rfl
  refine one_ (i := 4) (N := some 123) #[true, true, true, true, true, true, true, true, true, false, false, false, false, false, false, false] rfl rfl (by kernel_rfl) (by decide) (fun K hK => ?_)
  refine goes_ Try.func19 (by kernel_rfl) rfl _ (by rfl) rfl rfl (by simp only [List.map_toArray, List.map_cons, List.map_nil]; rfl) ?_
  refine (way_calls p.a ma hp.a hma _).mono ?_
  rintro e w8 ⟨rfl, hd1⟩
  refine ⟨_, rfl, ?_⟩
  have hB := dbelow hd1 (below_drew1 hB)
  have Xg3 := dblk hd1 (blk_drew Xg3)
  have Xg4 := dblk hd1 (blk_drew Xg4)
  have Xg7 := dblk hd1 (blk_drew Xg7)
  refine hK.out _ _ ⟨dcell hd1 (hHeld.1), dcell hd1 (hHeld.2.1), dcell hd1 (hHeld.2.2)⟩ (fun hHeld => ?_)
  clear hK K
  refine norm_ (a' := ?_) ?_ ?_
  rotate_left
  · show Act.put _ (some 123) _ = _
    simp only [Act.put, List.setIfInBounds_toArray, List.set_cons_zero, List.set_cons_succ, i64_w, i32_w]
    rfl
  refine one_ (i := 9) (N := some 128) #[true, true, true, true, true, true, true, true, true, true, false, false, false, false, false, false] rfl rfl (by kernel_rfl) (by decide) (fun K hK => ?_)
  refine goes_ Try.func19 (by kernel_rfl) rfl _ (by rfl) rfl rfl (by simp only [List.map_toArray, List.map_cons, List.map_nil]; rfl) ?_
  refine (way_calls p.a q.a hp.a hq.a _).mono ?_
  rintro e w8 ⟨rfl, hd2⟩
  refine ⟨_, rfl, ?_⟩
  have hB := dbelow hd2 hB
  have Xg3 := dblk hd2 Xg3
  have Xg4 := dblk hd2 Xg4
  have Xg7 := dblk hd2 Xg7
  refine hK.out _ _ ⟨dcell hd2 (hHeld.1), dcell hd2 (hHeld.2.1), dcell hd2 (hHeld.2.2)⟩ (fun hHeld => ?_)
  clear hK K
  refine norm_ (a' := ?_) ?_ ?_
  rotate_left
  · show Act.put _ (some 128) _ = _
    simp only [Act.put, List.setIfInBounds_toArray, List.set_cons_zero, List.set_cons_succ, i64_w, i32_w]
    rfl
  refine pure_ (i := 10) (N := some 129) (v := ?_) (a' := ?_) #[true, true, true, true, true, true, true, true, true, true, true, false, false, false, false, false] rfl rfl (by kernel_rfl) (fun _ _ _ h => h) (Or.inl ⟨by rfl, ?_⟩) ?_ ?_
  rotate_left
  · intro w'
    refine Eq.trans (exec_fl .add 22 22 _ _ (by rfl) (by decide) _ _ _ (by rfl) (by rfl) (bits_fin hwf)) ?_
    with_reducible rfl
  rotate_left
  · simp only [Act.put, List.setIfInBounds_toArray, List.set_cons_zero, List.set_cons_succ, i64_w, i32_w]
    rfl
  refine pure_ (i := 11) (N := some 130) (v := ?_) (a' := ?_) #[true, true, true, true, true, true, true, true, true, true, true, true, false, false, false, false] rfl rfl (by kernel_rfl) (fun _ _ _ h => h) (Or.inl ⟨by rfl, ?_⟩) ?_ ?_
  rotate_left
  · intro w'
    refine Eq.trans (exec_flc .leq 22 22 _ _ (by rfl) (by decide) _ _ (by rfl) (by rfl) true hwl) ?_
    with_reducible rfl
  rotate_left
  · simp only [Act.put, List.setIfInBounds_toArray, List.set_cons_zero, List.set_cons_succ, i64_w, i32_w]
    rfl
  refine pure_ (i := 12) (N := some 131) (v := ?_) (a' := ?_) #[true, true, true, true, true, true, true, true, true, true, true, true, true, false, false, false] rfl rfl (by kernel_rfl) (fun _ _ _ h => h) (Or.inl ⟨by rfl, ?_⟩) ?_ ?_
  rotate_left
  · intro w'
    go_simp
    with_reducible rfl
  rotate_left
  · simp only [Act.put, List.setIfInBounds_toArray, List.set_cons_zero, List.set_cons_succ, i64_w, i32_w]
    rfl
  refine last_ (i := 13) (N := some 132) #[true, true, true, true, true, true, true, true, true, true, true, true, true, true, false, false] rfl rfl (by kernel_rfl) (by decide) (fun K hK => ?_)
  refine goes_ Try.func10 (by kernel_rfl) rfl _ (by rfl) rfl rfl (by simp only [List.map_toArray, List.map_cons, List.map_nil]; rfl) ?_
  refine (alive_calls _).mono ?_
  rintro e w13 ⟨rfl, hb⟩
  refine ⟨_, rfl, ?_⟩
  have hB := below_step hB hb
  refine hK.out _ _ ?_
  clear hK K
  refine norm_ (a' := ?_) ?_ ?_
  rotate_left
  · show Act.put _ (some 132) _ = _
    simp only [Act.put, List.setIfInBounds_toArray, List.set_cons_zero, List.set_cons_succ, i64_w, i32_w]
    rfl
  refine pure_ (i := 14) (N := some 133) (v := ?_) (a' := ?_) #[true, true, true, true, true, true, true, true, true, true, true, true, true, true, true, false] rfl rfl (by kernel_rfl) (fun _ _ _ h => h) (Or.inl ⟨by rfl, ?_⟩) ?_ ?_
  rotate_left
  · intro w'
    go_simp
    with_reducible rfl
  rotate_left
  · simp only [Act.put, List.setIfInBounds_toArray, List.set_cons_zero, List.set_cons_succ, i64_w, i32_w]
    rfl
  refine pure_ (i := 15) (N := some 6) (v := ?_) (a' := ?_) #[true, true, true, true, true, true, true, true, true, true, true, true, true, true, true, true] rfl rfl (by kernel_rfl) (fun _ _ _ h => h) (Or.inl ⟨by rfl, ?_⟩) ?_ ?_
  rotate_left
  · intro w'
    go_simp
    with_reducible rfl
  rotate_left
  · simp only [Act.put, List.setIfInBounds_toArray, List.set_cons_zero, List.set_cons_succ, i64_w, i32_w]
    rfl
  refine done_ (by kernel_rfl) ?_
  go_wp2
  go_ret
  exact ⟨rfl, hB⟩
end Go.Proofs.Ytjffkidfoapbjaa.Fl
