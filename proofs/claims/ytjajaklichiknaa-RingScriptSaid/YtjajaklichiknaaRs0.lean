/- Proved: words for RingScript: a script as a list; what reads as one; a region's facts changed midway. -/
import Derived.Test.YtjajaklichiknaaPs3
import Derived.Laws.Cover2
import Derived.Lib.SmallJoins
import Derived.SizedLaws
import Derived.Deep.Slices
namespace Go.Proofs.Ytjajaklichiknaa.Rg
open Go.RowKit Go.Proofs.YtjajaklichiknaaW.PrintWords Go.Proofs.YtjajaklichiknaaW.PrintLast Go.Proofs.YtjajaklichiknaaW.PrintMore
set_option linter.unusedVariables false
set_option linter.unusedSimpArgs false

/-! ### 1. Whole structs -/
/-- From an address on lie these cells. -/
structure At (w : World) (ad : Addr) (cs : List Value) : Prop where mk :: (out : ∀ j v, cs[j]? = some v → w.cell? (ad.add j) = some v)
theorem At.below {w w' : World} {ad : Addr} {cs : List Value} (h : At w ad cs) (hb : Below w.heap.size w w') : At w' ad cs := ⟨fun j v hj => pw_cell_below hb (h.out j v hj)⟩
theorem At.drew {w : World} {ad : Addr} {cs : List Value} (h : At w ad cs) : At w.drew ad cs := ⟨h.out⟩
theorem At.drawn {w w' : World} {ad : Addr} {cs : List Value} (h : At w ad cs) (d : Drawn0 w w') : At w' ad cs := ⟨fun j v hj => dcell d (h.out j v hj)⟩
theorem At.of_blk {w : World} {g : Nat} {cs : List Value} {t : TypeId} (h : w.heap[g]? = some (.cells cs.toArray t (0, 0))) : At w ⟨g, 0, none⟩ cs := ⟨fun j v hj => by
  rw [add_plain, blk_cell h j]
  simpa using hj⟩
theorem At.of_mid {w : World} {g : Nat} {cs ds es : List Value} {t : TypeId} (h : w.heap[g]? = some (.cells (ds ++ cs ++ es).toArray t (0, 0))) : At w ⟨g, ds.length, none⟩ cs := ⟨fun j v hj => by
  have hj' := (List.getElem?_eq_some_iff.1 hj).1
  have e : (⟨g, ds.length, none⟩ : Addr).add j = ⟨g, ds.length + j, none⟩ := by unfold Addr.add; split <;> simp_all
  rw [e, blk_cell h]
  rw [List.getElem?_toArray, List.append_assoc, List.getElem?_append_right (by omega), Nat.add_sub_cancel_left, List.getElem?_append_left hj', hj]⟩
theorem At.cell {w : World} {ad : Addr} {cs : List Value} (h : At w ad cs) (j : Nat) {v : Value} (hj : cs[j]? = some v) : w.cell? (ad.add j) = some v := h.out j v hj

section
variable {P : Program}
theorem run_loadVar_at (w : World) (ad : Addr) (ty : TypeId) (cs : List Value) (d : TypeDesc) (h : At w ad cs)
    (hu : P.underlying ty = some d) (hd : (match d with | .struct _ | .array _ _ => true | _ => false) = true) (hi : (P.info? ty).map (·.size) = some cs.length) :
    (loadVar ty ad).run P w = .ok (.agg cs.toArray) w := by
  have hl := run_loadCells_list (P := P) w ad cs h.out
  cases hq : P.info? ty with
  | none => simp [hq] at hi
  | some i =>
    have hs : i.size = cs.length := by simpa [hq] using hi
    have hagg : (isAgg ty).run P w = .ok true w := by
      unfold isAgg
      rw [Sem.run_bind, run_underlying hu w]
      cases d <;> simp_all
    simp [loadVar, Sem.run_bind, hagg, sizeOf, typeInfo, hq, hs, hl]
theorem exec_load_at {o : Oper} {a : Act} {w : World} (ty : TypeId) (x : Operand) (ho : o.op = .load ty x) (ad : Addr) (hx : a.eval x = .pointer (some ad)) (cs : List Value) (d : TypeDesc)
    (hu : P.underlying ty = some d) (hd : (match d with | .struct _ | .array _ _ => true | _ => false) = true) (hi : (P.info? ty).map (·.size) = some cs.length) (h : At w ad cs) :
    (execOp a.eval o).run P w = .ok (.value (.agg cs.toArray)) w := by
  unfold execOp
  simp only [ho, hx, Instr.loadAt, Instr.sureAddr, Sem.run_bind, Sem.run_pure, Result.andThen_ok, run_loadVar_at w ad ty cs d h hu hd hi]
variable {ops : Array Oper} {rest : List Oper} {o : Oper} {a : Act} {w : World} {Q : Exit → Act → World → Prop}
theorem wpList_load_at (hgd : o.guard = none) (ty : TypeId) (x : Operand) (ho : o.op = .load ty x) (ad : Addr) (hx : a.eval x = .pointer (some ad)) (cs : List Value) (d : TypeDesc)
    (hu : P.underlying ty = some d) (hd : (match d with | .struct _ | .array _ _ => true | _ => false) = true) (hi : (P.info? ty).map (·.size) = some cs.length) (h0 : At w ad cs)
    (h : wpList P ops Q rest (a.put o.dst (.agg cs.toArray)) w) : wpList P ops Q (o :: rest) a w := by
  refine wpList_plain hgd fun K hK => ?_
  have hr := exec_load_at (P := P) (o := o) (a := a) (w := w) ty x ho ad hx cs d hu hd hi h0
  unfold Oper.wp
  rw [hr]
  exact hK _ _ h
/-- A struct is stored over a whole block. -/
theorem wpList_store_blk (hgd : o.guard = none) (ty : TypeId) (x y : Operand) (ho : o.op = .store ty x y) (g : Nat) (cs : List Value) (hx : a.eval x = .pointer (some ⟨g, 0, none⟩)) (hy : a.eval y = .agg cs.toArray)
    (t : TypeId) (old : Array Value) (hg : w.heap[g]? = some (.cells old t (0, 0))) (hi : (P.info? ty).map (·.size) = some cs.length) (hold : old.size = cs.length) (h1 : cs.all (·.oneCell') = true)
    (h : ∀ w1, w1.heap[g]? = some (.cells cs.toArray t (0, 0)) → (∀ (B : Nat) (w0 : World), Below B w0 w → B ≤ g → Below B w0 w1) → (∀ k, k ≠ g → w1.heap[k]? = w.heap[k]?) → w1.heap.size = w.heap.size → wpList P ops Q rest (a.put o.dst undef) w1) : wpList P ops Q (o :: rest) a w := by
  refine wpList_plain hgd fun K hK => ?_
  refine wp_store_row ty x y ho g cs.toArray hx hy t old hg (by simpa using hi) (by simpa using hold) (by simpa using h1) (hK _ _ ?_)
  refine h _ (setRow_heap w g old cs.toArray t _ hg) (fun B w0 hb hB => ?_) (fun k hk => setRow_other w g k _ hk) (by simp)
  exact ⟨hb.os, hb.tape, hb.output, by simp; exact hb.size, fun i hi => (setRow_other w g i _ (by omega)).trans (hb.block i hi)⟩
end

/-! ### 2. What is done -/
structure Op3 where
  kind : Int
  at_ : Int
  n : Int
instance : Inhabited Op3 := ⟨⟨0, 0, 0⟩⟩
def Op3.cs (o : Op3) : List Value := [.int .i64 o.kind, .int .i64 o.at_, .int .i64 o.n]
structure ORow (w : World) (A : Option Addr) (n : Nat) (l : List Op3) : Prop where
  len : l.length = n
  at_ : ∀ k, k < n → ∃ ad, A = some ad ∧ At w (ad.add (k * 3)) (l.getD k default).cs
theorem ORow.below {w w' : World} {A : Option Addr} {n : Nat} {l : List Op3} (h : ORow w A n l) (hb : Below w.heap.size w w') : ORow w' A n l := ⟨h.len, fun k hk => by
  obtain ⟨ad, e, hc⟩ := h.at_ k hk
  exact ⟨ad, e, hc.below hb⟩⟩
section
variable {H : Type} {enc : TypeId × Value → H} {w : World} {base : Nat} {spare : Nat → Bool} {held : Bool} {fuel : Nat}
theorem row_cons {n : Nat} {l : List Value} (h : l.length = n + 1) : ∃ c r, l = c :: r ∧ r.length = n := by
  match l, h with
  | c :: r, h => exact ⟨c, r, rfl, by simpa using h⟩
theorem row_nil {l : List Value} (h : l.length = 0) : l = [] := List.eq_nil_of_length_eq_zero h
theorem cells3 : Try.prog.cellsOf 3 = 1 := by kernel_rfl
theorem cells61 : Try.prog.cellsOf 61 = 3 := by kernel_rfl
theorem trod_op {cs : List Value} {x : DataW H × List MemPlace} (h : DataW.trod enc Try.prog w base spare held fuel 61 cs = some x) : ∃ o : Op3, cs = o.cs ∧ -9223372036854775808 ≤ o.n ∧ o.n ≤ 9223372036854775807 := by
  obtain ⟨xs, n, _, rfl, hl, hlen, hf⟩ := DataW.trod_struct Try.underlying61 h
  rw [cells61] at hl
  obtain ⟨c0, r0, rfl, l0⟩ := row_cons hl
  obtain ⟨c1, r1, rfl, l1⟩ := row_cons l0
  obtain ⟨c2, r2, rfl, l2⟩ := row_cons l1
  obtain rfl := row_nil l2
  clear hl l0 l1 l2
  have f0 : DataW.trod enc Try.prog w base spare held n 3 (([c0, c1, c2].drop 0).take (Try.prog.cellsOf 3)) = xs[0]? := hf 0 _ rfl
  simp only [cells3, List.drop_succ_cons, List.drop_zero, List.take_succ_cons, List.take_zero] at f0
  cases e0 : xs[0]? with
  | none => rw [List.getElem?_eq_none_iff, hlen] at e0; simp at e0
  | some y0 =>
  rw [e0] at f0
  obtain ⟨ki, q0, _, wki⟩ := DataW.trod_int Try.underlying3 f0
  simp only [List.cons.injEq, and_true] at q0
  have f1 : DataW.trod enc Try.prog w base spare held n 3 (([c0, c1, c2].drop 1).take (Try.prog.cellsOf 3)) = xs[1]? := hf 1 _ rfl
  simp only [cells3, List.drop_succ_cons, List.drop_zero, List.take_succ_cons, List.take_zero] at f1
  cases e1 : xs[1]? with
  | none => rw [List.getElem?_eq_none_iff, hlen] at e1; simp at e1
  | some y1 =>
  rw [e1] at f1
  obtain ⟨at_, q1, _, wat_⟩ := DataW.trod_int Try.underlying3 f1
  simp only [List.cons.injEq, and_true] at q1
  have f2 : DataW.trod enc Try.prog w base spare held n 3 (([c0, c1, c2].drop 2).take (Try.prog.cellsOf 3)) = xs[2]? := hf 2 _ rfl
  simp only [cells3, List.drop_succ_cons, List.drop_zero, List.take_succ_cons, List.take_zero] at f2
  cases e2 : xs[2]? with
  | none => rw [List.getElem?_eq_none_iff, hlen] at e2; simp at e2
  | some y2 =>
  rw [e2] at f2
  obtain ⟨nn, q2, _, wnn⟩ := DataW.trod_int Try.underlying3 f2
  simp only [List.cons.injEq, and_true] at q2
  obtain ⟨b0, b1⟩ := bounds_i64 wnn
  refine ⟨⟨ki, at_, nn⟩, ?_, b0, b1⟩
  subst q0 q1 q2
  rfl
theorem trod_ops {A : Option Addr} {n c : Nat} {x : DataW H × List MemPlace} (h : DataW.trod enc Try.prog w base spare held fuel 50 [.slice A n c] = some x) : ∃ l : List Op3, ORow w A l.length l ∧ (∀ k, k < l.length → -9223372036854775808 ≤ (l.getD k default).n ∧ (l.getD k default).n ≤ 9223372036854775807) ∧ n = l.length ∧ l.length ≤ 9223372036854775807 := by
  rcases Go.Deep.open_slice Try.underlying50 h with ⟨hc, _⟩ | ⟨a, len', cap', m, k, D, Pl, hc, _, hl, hm, hm', _, hcell⟩
  · simp only [List.cons.injEq, Value.slice.injEq, and_true] at hc
    obtain ⟨rfl, rfl, rfl⟩ := hc
    exact ⟨[], ⟨rfl, fun k hk => absurd hk (Nat.not_lt_zero k)⟩, fun k hk => absurd hk (Nat.not_lt_zero k), rfl, Nat.zero_le _⟩
  · simp only [List.cons.injEq, Value.slice.injEq, and_true] at hc
    obtain ⟨rfl, rfl, rfl⟩ := hc
    have hle : n ≤ m := by rw [hm']; split <;> omega
    have hall : ∀ i, i < n → ∃ o : Op3, At w (a.add (i * 3)) o.cs ∧ -9223372036854775808 ≤ o.n ∧ o.n ≤ 9223372036854775807 := by
      intro i hi
      obtain ⟨cs, h1, h2⟩ := hcell i (by omega)
      obtain ⟨o, rfl, b0⟩ := trod_op h2
      obtain ⟨_, hlen, hc2⟩ := World.cells?_some h1
      rw [cells61] at hc2
      refine ⟨o, ⟨fun j v hj => ?_⟩, b0⟩
      have hj3 : j < 3 := (List.getElem?_eq_some_iff.1 hj).1
      rw [hc2 j hj3]
      exact hj
    obtain ⟨f, hf⟩ := Go.Deep.choose_lt hall
    have hg : ∀ i, i < n → ((List.range n).map f).getD i default = f i := fun i hi => by simp [List.getD_eq_getElem?_getD, hi]
    have hln : ((List.range n).map f).length = n := by simp
    refine ⟨(List.range n).map f, ⟨rfl, fun k hk => ⟨a, rfl, ?_⟩⟩, fun k hk => ?_, hln.symm, ?_⟩
    · rw [hln] at hk
      rw [hg k hk]; exact (hf k hk).1
    · rw [hln] at hk
      rw [hg k hk]; exact (hf k hk).2
    · rw [hln]
      unfold maxLen at hm
      omega
end
/-! ### 3. A region's facts, changed midway -/
theorem swapS {P : Program} {md : Region.Mode} {ops : Array Oper} {Q : Exit → Act → World → Prop} {S2 : World → Prop} {ds ds' : List Nat} : ∀ {fuel : Nat} {l : Array Bool} {a : Act} {w : World}, wpAnyLast P md ops Q S2 ds' fuel l a w → wpAnyLast P md ops Q (fun _ => True) ds fuel l a w
  | 0, _, _, _, h => h
  | fuel + 1, _, _, _, h => ⟨h.1, fun i hi => wpOp_mono (fun a' w' h' => ⟨fun _ _ => trivial, swapS h'.2⟩) (h.2 i hi)⟩
/-! ### 4. The play as it begins -/
theorem pq_init {w0 w2 w3 w4 : World} {p g gd g' gd' : Nat} {Z Z' : Nat → Prop} (hb : Below w0.heap.size w0 w2) (hp : w0.heap.size ≤ p) (hp2 : p < w2.heap.size) (P0 : Pair w3 w2.heap.size g gd Z) (hO0 : Only w2 w3 (fun k => k = p)) (P1 : Pair w4 w3.heap.size g' gd' Z') (hO : Only w3 w4 (fun k => k = p))
    (hc : w4.heap[p]? = some (.cells #[.pointer (some ⟨g, 0, none⟩), .pointer (some ⟨g', 0, none⟩), .pointer (some ⟨gd, 0, none⟩), .pointer (some ⟨gd', 0, none⟩), .slice none 0 0, .slice none 0 0] 57 (0, 0))) : Pq w0 w4 p g g' gd gd' Z Z' (.slice none 0 0) (.slice none 0 0) 0 0 [] [] := by
  have h1 := hb.size
  have h2 := hO0.size
  have h3 := hO.size
  have hz : ¬ Z p := fun e => by have := (P0.lt p e).1; omega
  have base : ∀ {w : World} {B g gd : Nat} {Z : Nat → Prop}, Pair w B g gd Z → w0.heap.size ≤ B → Pair w w0.heap.size g gd Z := fun h hB => by
    obtain ⟨gt, n, S, q, hq, hd, hS, hBB, rfl⟩ := h.ex
    exact ⟨gt, n, S, q, hq, hd.base hB, hS, ⟨Nat.le_trans hB hBB.1, Nat.le_trans hB hBB.2⟩, rfl⟩
  refine ⟨hc, (base P0 h1).only hO (fun k e e' => hz (e' ▸ e)), base P1 (by omega), fun k e e' => by have := (P0.lt k e).2; have := (P1.lt k e').1; omega, ⟨hz, fun e => by have := (P1.lt p e).1; omega, hp⟩, own_nil _ _ _ _, own_nil _ _ _ _, fun k hk => absurd hk (by simp [Value.ownBlock]), fun k hk => absurd hk (by simp [Value.ownBlock]), fun k hk => absurd hk (by simp [Value.ownBlock]), ⟨Nat.le_refl _, fun i hi => absurd hi (Nat.not_lt_zero i)⟩, (hO0.then hO).below hb h1 (fun k e => e ▸ hp)⟩
/-- A step, whatever it is. -/
theorem step_any {w0 w : World} {p M : Nat} (o : Op3) (h : Step w0 w p M) (hm : (M + 1) * 24 ≤ 140737488355328) (hn0 : -9223372036854775808 ≤ o.n) (hn1 : o.n ≤ 9223372036854775807) : Calls Try.prog 24 #[.pointer (some ⟨p, 0, none⟩), .agg o.cs.toArray] w fun r w' => r = .returned (.bool true) ∧ Step w0 w' p (M + 1) := by
  obtain ⟨g0, g1, d0, d1, Z0, Z1, vt, vw, m, lt, lw, hM, h⟩ := h
  obtain ⟨kd, at_, nn⟩ := o
  have hm2 : (m + 1) * 24 ≤ 140737488355328 := by omega
  have go : ∀ (r : Ending) (w' : World), r = .returned (.bool true) ∧ Step w0 w' p (m + 1) → r = .returned (.bool true) ∧ Step w0 w' p (M + 1) := fun r w' q => ⟨q.1, q.2.mono (by omega)⟩
  cases hat : (Int.tmod at_ 2 != 0) with
  | false =>
    by_cases k1 : kd = 1
    · subst k1
      exact (step_0_1 h hm2 at_ nn hat hn0 hn1).mono go
    by_cases k2 : kd = 2
    · subst k2
      exact (step_0_2 h hm2 at_ nn hat hn0 hn1).mono go
    by_cases k3 : kd = 3
    · subst k3
      exact (step_0_3 h hm2 at_ nn hat hn0 hn1).mono go
    by_cases k4 : kd = 4
    · subst k4
      exact (step_0_4 h hm2 at_ nn hat hn0 hn1).mono go
    by_cases k5 : kd = 5
    · subst k5
      exact (step_0_5 h hm2 at_ nn hat hn0 hn1).mono go
    by_cases k6 : kd = 6
    · subst k6
      exact (step_0_6 h hm2 at_ nn hat hn0 hn1).mono go
    exact (step_0_0 h hm2 kd at_ nn hat hn0 hn1 k1 k2 k3 k4 k5 k6).mono go
  | true =>
    by_cases k1 : kd = 1
    · subst k1
      exact (step_1_1 h hm2 at_ nn hat hn0 hn1).mono go
    by_cases k2 : kd = 2
    · subst k2
      exact (step_1_2 h hm2 at_ nn hat hn0 hn1).mono go
    by_cases k3 : kd = 3
    · subst k3
      exact (step_1_3 h hm2 at_ nn hat hn0 hn1).mono go
    by_cases k4 : kd = 4
    · subst k4
      exact (step_1_4 h hm2 at_ nn hat hn0 hn1).mono go
    by_cases k5 : kd = 5
    · subst k5
      exact (step_1_5 h hm2 at_ nn hat hn0 hn1).mono go
    by_cases k6 : kd = 6
    · subst k6
      exact (step_1_6 h hm2 at_ nn hat hn0 hn1).mono go
    exact (step_1_0 h hm2 kd at_ nn hat hn0 hn1 k1 k2 k3 k4 k5 k6).mono go
end Go.Proofs.Ytjajaklichiknaa.Rg
