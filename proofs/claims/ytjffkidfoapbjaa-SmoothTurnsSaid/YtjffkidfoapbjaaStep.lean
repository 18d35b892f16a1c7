/- Proved: a float operation in a region that draws its order. -/
import Derived.Test.YtjffkidfoapbjaaFl
namespace Go.Proofs.Ytjffkidfoapbjaa.Fl
open Go.RowKit Go.Proofs.YtjffkidfoapbjaaW.PrintWords Go.Proofs.YtjffkidfoapbjaaW.PrintLast
variable {P : Program} {ops : Array Oper} {Q : Exit → Act → World → Prop}

/-- '+', '-', '*', '/' as an operation that is run where it alone may come up. -/
theorem fl_step {oi : Oper} {N : Option Tmp} {a : Act} {w : World} {K : Act → World → Prop} (hw : Region.wanted oi (yielded ops a.tmps) = true) (hN : oi.dst = N) (op : BinOp) (t t' : TypeId) (l r : Operand) (hop : oi.op = Op.binOp op t l r t') (h4 : op = .add ∨ op = .sub ∨ op = .mul ∨ op = .quo) (x y X Y : Nat) (hx : a.eval l = .float .f32 x) (hy : a.eval r = .float .f32 y) (hX : Fe x X) (hY : Fe y Y)
    (hK : ∀ z n, Fe z (fop op X Y) → K (a.put N (.float .f32 z)) (w.drewN n)) : if Region.wanted oi (yielded ops a.tmps) = true then Oper.wp P oi a w K Q else K (a.put N undef) w := by
  rw [if_pos hw]
  subst hN
  obtain ⟨z, n, hrun, hz⟩ := run_fl (P := P) w op t x y h4
  rw [fop_congr hX hY] at hz
  have hk := hK z n hz
  unfold Oper.wp
  rcases h4 with rfl | rfl | rfl | rfl <;> simp [execOp, hop, hx, hy, hrun, Result.andThen, eqGuard] <;> exact hk
end Go.Proofs.Ytjffkidfoapbjaa.Fl
