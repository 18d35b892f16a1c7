/- Proved: floats in a walk, one NaN as good as another. -/
import Derived.Test.YtjffkidfoapbjaaProg
import Derived.Below
import Derived.Deep.Draws
import Derived.Deep.AppendLies
import Derived.Maps.AppendAt
import Derived.OwnWalk
import Derived.Laws.BytesArg
import Derived.Laws.MakeOwn
import Derived.Laws.OwnMore
import Derived.Deep.OwnRows
import Derived.Tactics
import Derived.Lib.ConvBytes
import Derived.Laws.Slices
import Derived.WalkKit
import Derived.KernelRfl
import Derived.RowKit3
import Derived.Deep.LoopGhost
import Derived.Deep.QuietTactic
import Derived.BigQuiet
import Derived.WideLaws
import Derived.Deep.DeepCutAuto
import Derived.Deep.CutBlock
import Derived.Deep.RegionHeld3
import Derived.Laws.Rows
import Derived.Lib.AppendStr
import Derived.ArgAppend
import Derived.Laws.IdiomCopy
import Derived.OrdersHeld
import Derived.Laws.BitsLemmas
import Derived.RowKit
import Derived.Test.YtjffkidfoapbjaaWWords
import Derived.Test.YtjffkidfoapbjaaWLast
import Derived.Test.YtjffkidfoapbjaaWTab
import Derived.Test.YtjffkidfoapbjaaWFour
import Derived.Test.YtjffkidfoapbjaaWQPut
import Derived.Test.YtjffkidfoapbjaaWApart
import Derived.Test.YtjffkidfoapbjaaWArr
import Derived.Test.YtjffkidfoapbjaaWZeros
import Derived.Test.YtjffkidfoapbjaaWFoot
import Derived.Test.YtjffkidfoapbjaaWKept
import Derived.Test.YtjffkidfoapbjaaWShare
import Derived.Test.YtjffkidfoapbjaaWN
import Derived.Test.YtjffkidfoapbjaaWFootNe
import Derived.Test.YtjffkidfoapbjaaWAt
import Derived.Test.YtjffkidfoapbjaaWEqStruct
import Derived.Test.YtjffkidfoapbjaaWRepsOne
import Derived.Test.YtjffkidfoapbjaaWInv
import Derived.Test.YtjffkidfoapbjaaWInvWords
import Derived.Test.YtjffkidfoapbjaaWGuard
import Derived.Test.YtjffkidfoapbjaaWNEv
import Derived.Test.YtjffkidfoapbjaaWMore
import Derived.Laws.FloatArith
namespace Go.Proofs.Ytjffkidfoapbjaa.Fl
open Go.RowKit Go.Proofs.YtjffkidfoapbjaaW.PrintWords

/-- Is the word no number? -/
def nan (x : Nat) : Bool := (Ieee.single.read x).isNaN
/-- Two words are one: the same, or both no number. -/
def Fe (x y : Nat) : Prop := x = y ∨ (nan x = true ∧ nan y = true)
/-- An operation's answer, with one word for all that are no number. -/
def fop (op : BinOp) (x y : Nat) : Nat := (floatBits op .f32 x y).getD 2143289344
def ford (x y : Nat) : Option Ordering := Ieee.single.order x y
def fcmp (op : BinOp) (x y : Nat) : Bool :=
  match op with
  | .eql => ford x y == some .eq
  | .neq => ford x y != some .eq
  | .lss => ford x y == some .lt
  | .leq => ford x y == some .lt || ford x y == some .eq
  | .gtr => ford x y == some .gt
  | _ => ford x y == some .gt || ford x y == some .eq

theorem Fe.refl (x : Nat) : Fe x x := .inl rfl
theorem Fe.symm {x y : Nat} (h : Fe x y) : Fe y x := h.elim (fun h => .inl h.symm) (fun h => .inr ⟨h.2, h.1⟩)
theorem Fe.trans {x y z : Nat} (h : Fe x y) (k : Fe y z) : Fe x z := by
  rcases h with rfl | ⟨h1, h2⟩
  · exact k
  · rcases k with rfl | ⟨k1, k2⟩
    · exact .inr ⟨h1, h2⟩
    · exact .inr ⟨h1, k2⟩
theorem Fe.eq {x y : Nat} (h : Fe x y) (hn : nan y = false) : x = y := h.elim id fun h => by rw [h.2] at hn; cases hn

theorem nan_read {x : Nat} (h : nan x = true) : ∃ s f, Ieee.single.read x = .nan s f := by
  unfold nan at h
  generalize Ieee.single.read x = d at *
  cases d <;> simp [Ieee.Datum.isNaN] at h
  exact ⟨_, _, rfl⟩

theorem bits_nan_left {op : BinOp} {x y : Nat} (h : nan x = true) : floatBits op .f32 x y = none := by
  obtain ⟨s, f, e⟩ := nan_read h
  unfold floatBits
  cases op <;> simp only [FloatKind.format, Ieee.Format.add, Ieee.Format.sub, Ieee.Format.mul, Ieee.Format.div, e] <;> first | rfl | (generalize Ieee.single.read y = d; cases d <;> rfl)
theorem bits_nan_right {op : BinOp} {x y : Nat} (h : nan y = true) : floatBits op .f32 x y = none := by
  obtain ⟨s, f, e⟩ := nan_read h
  unfold floatBits
  cases op <;> simp only [FloatKind.format, Ieee.Format.add, Ieee.Format.sub, Ieee.Format.mul, Ieee.Format.div, e] <;> first | rfl | (generalize Ieee.single.read x = d; cases d <;> rfl)
theorem ford_nan_left {x y : Nat} (h : nan x = true) : ford x y = none := by
  obtain ⟨s, f, e⟩ := nan_read h
  unfold ford Ieee.Format.order
  rw [e]
  generalize Ieee.single.read y = d; cases d <;> rfl
theorem ford_nan_right {x y : Nat} (h : nan y = true) : ford x y = none := by
  obtain ⟨s, f, e⟩ := nan_read h
  unfold ford Ieee.Format.order
  rw [e]
  generalize Ieee.single.read x = d; cases d <;> rfl

theorem bits_congr {op : BinOp} {x x' y y' : Nat} (h : Fe x x') (k : Fe y y') : floatBits op .f32 x y = floatBits op .f32 x' y' := by
  rcases h with rfl | ⟨h1, h2⟩
  · rcases k with rfl | ⟨k1, k2⟩
    · rfl
    · rw [bits_nan_right k1, bits_nan_right k2]
  · rw [bits_nan_left h1, bits_nan_left h2]
theorem fop_congr {op : BinOp} {x x' y y' : Nat} (h : Fe x x') (k : Fe y y') : fop op x y = fop op x' y' := by unfold fop; rw [bits_congr h k]
theorem ford_congr {x x' y y' : Nat} (h : Fe x x') (k : Fe y y') : ford x y = ford x' y' := by
  rcases h with rfl | ⟨h1, h2⟩
  · rcases k with rfl | ⟨k1, k2⟩
    · rfl
    · rw [ford_nan_right k1, ford_nan_right k2]
  · rw [ford_nan_left h1, ford_nan_left h2]
theorem fcmp_congr {op : BinOp} {x x' y y' : Nat} (h : Fe x x') (k : Fe y y') : fcmp op x y = fcmp op x' y' := by unfold fcmp; rw [ford_congr h k]

theorem nan_of (v : Nat) (h : 2139095040 < v % 2147483648) : nan v = true := by
  have e1 : Ieee.single.signWeight = 2147483648 := by decide
  have e2 : Ieee.single.binade = 8388608 := by decide
  have e3 : Ieee.single.infRung = 2139095040 := by decide
  unfold nan Ieee.Format.read
  dsimp only
  rw [e1, e2, e3, if_neg (by omega), if_neg (by omega), if_neg (by omega)]
  rfl
/-- A word drawn for a NaN is one. -/
theorem nan_cut (x y t : Nat) : nan (Question.cut (.nanBits .f32 x y) t) = true := by
  have h1 := Nat.mod_lt (t / 2) (show 0 < 8388607 by decide)
  have h2 := Nat.mod_lt t (show 0 < 2 by decide)
  refine nan_of _ ?_
  show 2139095040 < (t % 2 * 2147483648 + 2139095040 + 1 + t / 2 % 8388607) % 2147483648
  generalize t / 2 % 8388607 = r at *
  generalize t % 2 = m at *
  obtain rfl | rfl : m = 0 ∨ m = 1 := by omega
  · omega
  · omega
theorem nan_q : nan 2143289344 = true := by kernel_rfl

theorem run_fl {P : Program} (w : World) (op : BinOp) (t : TypeId) (x y : Nat) (hop : op = .add ∨ op = .sub ∨ op = .mul ∨ op = .quo) :
    ∃ z n, (binOp op t (.float .f32 x) (.float .f32 y)).run P w = .ok (.float .f32 z) (w.drewN n) ∧ Fe z (fop op x y) := by
  cases hb : floatBits op .f32 x y with
  | some r => exact ⟨r, 0, run_float_arith w op t .f32 x y r hb, .inl (by simp [fop, hb])⟩
  | none =>
    refine ⟨Question.cut (.nanBits .f32 x y) (w.tape w.drawn (.nanBits .f32 x y)), 1, ?_, .inr ⟨nan_cut _ _ _, by simp [fop, hb, nan_q]⟩⟩
    unfold floatBits at hb
    rcases hop with rfl | rfl | rfl | rfl <;> simp only at hb <;> simp [binOp, Op.floatArith, hb, Question.forced] <;> rfl

section
variable {P : Program} (w : World) {ops : Array Oper} {rest : List Oper} {o : Oper} {a : Act} {Q : Exit → Act → World → Prop}
/-- '+', '-', '*', '/' at the operation. -/
theorem wpList_fl (hg : o.guard = none) (op : BinOp) (t t' : TypeId) (l r : Operand) (hop : o.op = Op.binOp op t l r t') (h4 : op = .add ∨ op = .sub ∨ op = .mul ∨ op = .quo) (x y X Y : Nat) (hx : a.eval l = .float .f32 x) (hy : a.eval r = .float .f32 y) (hX : Fe x X) (hY : Fe y Y)
    (hK : ∀ z n, Fe z (fop op X Y) → wpList P ops Q rest (a.put o.dst (.float .f32 z)) (w.drewN n)) : wpList P ops Q (o :: rest) a w := by
  refine wpList_plain hg fun K' hK' => ?_
  obtain ⟨z, n, hrun, hz⟩ := run_fl (P := P) w op t x y h4
  rw [fop_congr hX hY] at hz
  unfold Oper.wp
  have hk := hK' _ _ (hK z n hz)
  rcases h4 with rfl | rfl | rfl | rfl <;> simp [execOp, hop, hx, hy, hrun, Result.andThen, eqGuard] <;> exact hk

theorem run_flc (op : BinOp) (t : TypeId) (x y : Nat) (hop : op = .eql ∨ op = .neq ∨ op = .lss ∨ op = .leq ∨ op = .gtr ∨ op = .geq) :
    (binOp op t (.float .f32 x) (.float .f32 y)).run P w = .ok (.bool (fcmp op x y)) w := by
  rcases hop with rfl | rfl | rfl | rfl | rfl | rfl <;> simp [binOp, Op.floatCmp, fcmp, ford, FloatKind.format]

/-- A comparison at the operation. -/
theorem wpList_flc (hg : o.guard = none) (op : BinOp) (t t' : TypeId) (l r : Operand) (hop : o.op = Op.binOp op t l r t') (h4 : op = .eql ∨ op = .neq ∨ op = .lss ∨ op = .leq ∨ op = .gtr ∨ op = .geq) (x y X Y : Nat) (hx : a.eval l = .float .f32 x) (hy : a.eval r = .float .f32 y) (hX : Fe x X) (hY : Fe y Y)
    (hK : wpList P ops Q rest (a.put o.dst (.bool (fcmp op X Y))) w) : wpList P ops Q (o :: rest) a w := by
  refine wpList_plain hg fun K' hK' => ?_
  have hrun := run_flc (P := P) w op t x y h4
  rw [fcmp_congr hX hY] at hrun
  have hk := hK' _ _ hK
  unfold Oper.wp
  rcases h4 with rfl | rfl | rfl | rfl | rfl | rfl <;> simp [execOp, hop, hx, hy, hrun, Result.andThen, eqGuard] <;> exact hk
end

/-- A float is stored as an integer is. -/
theorem run_store_float (P : Program) (w : World) (a : Addr) (m : Mode) (k : FloatKind) (b : Nat) : (store a (.float k b) m).run P w = stored P w a (.float k b) m := run_store P w a _ m rfl
theorem dcell {w w' : World} (h : Drawn0 w w') {a : Addr} {v : Value} (hc : w.cell? a = some v) : w'.cell? a = some v := by
  obtain ⟨⟨n, rfl⟩⟩ := h
  exact hc
theorem dblk {w w' : World} (h : Drawn0 w w') {g : Nat} {o : Obj} (hc : w.heap[g]? = some o) : w'.heap[g]? = some o := by
  obtain ⟨⟨n, rfl⟩⟩ := h
  exact hc
theorem dbelow {w0 w w' : World} (h : Drawn0 w w') (hb : Below w0.heap.size w0 w) : Below w0.heap.size w0 w' := below_step hb h.below
theorem Drawn0.then {w w1 w2 : World} (h : Drawn0 w w1) (k : Drawn0 w1 w2) : Drawn0 w w2 := by
  obtain ⟨⟨m, rfl⟩⟩ := k
  exact h.step m
end Go.Proofs.Ytjffkidfoapbjaa.Fl
