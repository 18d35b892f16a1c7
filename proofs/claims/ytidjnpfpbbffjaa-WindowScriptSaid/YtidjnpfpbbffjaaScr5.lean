/- Proved: the program's window answers as the document's; both Marks; what holds of two windows and their documents. -/
import Derived.Test.YtidjnpfpbbffjaaScr4
import Derived.Test.YtidjnpfpbbffjaaPureWindowOnce
namespace Go.Proofs.Ytidjnpfpbbffjaa.Scr
open Go.Proofs.Ytidjnpfpbbffjaa.PWindowOnce Go.Proofs.Ytidjnpfpbbffjaa.Pure Go.RowKit Go.Proofs.YtidjnpfpbbffjaaW.PrintWords Go.Proofs.YtidjnpfpbbffjaaW.PrintLast Go.Proofs.YtidjnpfpbbffjaaW.PrintMore
set_option linter.unusedVariables false
set_option linter.unusedSimpArgs false

/-! ### 1. Whole structs -/
/-- From an address on lie these cells. -/
structure At (w : World) (ad : Addr) (cs : List Value) : Prop where mk :: (out : ∀ j v, cs[j]? = some v → w.cell? (ad.add j) = some v)
theorem At.below {w w' : World} {ad : Addr} {cs : List Value} (h : At w ad cs) (hb : Below w.heap.size w w') : At w' ad cs := ⟨fun j v hj => pw_cell_below hb (h.out j v hj)⟩
theorem At.drew {w : World} {ad : Addr} {cs : List Value} (h : At w ad cs) : At w.drew ad cs := ⟨h.out⟩
theorem At.of_blk {w : World} {g : Nat} {cs : List Value} {t : TypeId} (h : w.heap[g]? = some (.cells cs.toArray t (0, 0))) : At w ⟨g, 0, none⟩ cs := ⟨fun j v hj => by
  rw [add_plain, blk_cell h j]
  simpa using hj⟩
theorem At.of_mid {w : World} {g : Nat} {cs ds es : List Value} {t : TypeId} (h : w.heap[g]? = some (.cells (ds ++ cs ++ es).toArray t (0, 0))) : At w ⟨g, ds.length, none⟩ cs := ⟨fun j v hj => by
  have hj' := (List.getElem?_eq_some_iff.1 hj).1
  have e : (⟨g, ds.length, none⟩ : Addr).add j = ⟨g, ds.length + j, none⟩ := by unfold Addr.add; split <;> simp_all
  rw [e, blk_cell h]
  rw [List.getElem?_toArray, List.append_assoc, List.getElem?_append_right (by omega), Nat.add_sub_cancel_left, List.getElem?_append_left hj', hj]⟩
theorem At.cell {w : World} {ad : Addr} {cs : List Value} (h : At w ad cs) (j : Nat) {v : Value} (hj : cs[j]? = some v) : w.cell? (ad.add j) = some v := h.out j v hj

section
variable {P : Program}
theorem run_loadVar_at (w : World) (ad : Addr) (ty : TypeId) (cs : List Value) (d : TypeDesc) (h : At w ad cs)
    (hu : P.underlying ty = some d) (hd : (match d with | .struct _ | .array _ _ => true | _ => false) = true) (hi : (P.info? ty).map (·.size) = some cs.length) :
    (loadVar ty ad).run P w = .ok (.agg cs.toArray) w := by
  have hl := run_loadCells_list (P := P) w ad cs h.out
  cases hq : P.info? ty with
  | none => simp [hq] at hi
  | some i =>
    have hs : i.size = cs.length := by simpa [hq] using hi
    have hagg : (isAgg ty).run P w = .ok true w := by
      unfold isAgg
      rw [Sem.run_bind, run_underlying hu w]
      cases d <;> simp_all
    simp [loadVar, Sem.run_bind, hagg, sizeOf, typeInfo, hq, hs, hl]
theorem exec_load_at {o : Oper} {a : Act} {w : World} (ty : TypeId) (x : Operand) (ho : o.op = .load ty x) (ad : Addr) (hx : a.eval x = .pointer (some ad)) (cs : List Value) (d : TypeDesc)
    (hu : P.underlying ty = some d) (hd : (match d with | .struct _ | .array _ _ => true | _ => false) = true) (hi : (P.info? ty).map (·.size) = some cs.length) (h : At w ad cs) :
    (execOp a.eval o).run P w = .ok (.value (.agg cs.toArray)) w := by
  unfold execOp
  simp only [ho, hx, Instr.loadAt, Instr.sureAddr, Sem.run_bind, Sem.run_pure, Result.andThen_ok, run_loadVar_at w ad ty cs d h hu hd hi]
variable {ops : Array Oper} {rest : List Oper} {o : Oper} {a : Act} {w : World} {Q : Exit → Act → World → Prop}
theorem wpList_load_at (hgd : o.guard = none) (ty : TypeId) (x : Operand) (ho : o.op = .load ty x) (ad : Addr) (hx : a.eval x = .pointer (some ad)) (cs : List Value) (d : TypeDesc)
    (hu : P.underlying ty = some d) (hd : (match d with | .struct _ | .array _ _ => true | _ => false) = true) (hi : (P.info? ty).map (·.size) = some cs.length) (h0 : At w ad cs)
    (h : wpList P ops Q rest (a.put o.dst (.agg cs.toArray)) w) : wpList P ops Q (o :: rest) a w := by
  refine wpList_plain hgd fun K hK => ?_
  have hr := exec_load_at (P := P) (o := o) (a := a) (w := w) ty x ho ad hx cs d hu hd hi h0
  unfold Oper.wp
  rw [hr]
  exact hK _ _ h
/-- A struct is stored over a whole block. -/
theorem wpList_store_blk (hgd : o.guard = none) (ty : TypeId) (x y : Operand) (ho : o.op = .store ty x y) (g : Nat) (cs : List Value) (hx : a.eval x = .pointer (some ⟨g, 0, none⟩)) (hy : a.eval y = .agg cs.toArray)
    (t : TypeId) (old : Array Value) (hg : w.heap[g]? = some (.cells old t (0, 0))) (hi : (P.info? ty).map (·.size) = some cs.length) (hold : old.size = cs.length) (h1 : cs.all (·.oneCell') = true)
    (h : ∀ w1, w1.heap[g]? = some (.cells cs.toArray t (0, 0)) → (∀ (B : Nat) (w0 : World), Below B w0 w → B ≤ g → Below B w0 w1) → (∀ k, k ≠ g → w1.heap[k]? = w.heap[k]?) → w1.heap.size = w.heap.size → wpList P ops Q rest (a.put o.dst undef) w1) : wpList P ops Q (o :: rest) a w := by
  refine wpList_plain hgd fun K hK => ?_
  refine wp_store_row ty x y ho g cs.toArray hx hy t old hg (by simpa using hi) (by simpa using hold) (by simpa using h1) (hK _ _ ?_)
  refine h _ (setRow_heap w g old cs.toArray t _ hg) (fun B w0 hb hB => ?_) (fun k hk => setRow_other w g k _ hk) (by simp)
  exact ⟨hb.os, hb.tape, hb.output, by simp; exact hb.size, fun i hi => (setRow_other w g i _ (by omega)).trans (hb.block i hi)⟩
end


/-! ### 2. What is done -/
structure OpV where
  pos : Int
  look : Bool
  copy : Bool
  seq : Nat
instance : Inhabited OpV := ⟨⟨0, false, false, 0⟩⟩
def OpV.cs (o : OpV) : List Value := [.int .i64 o.pos, .bool o.look, .bool o.copy, .int .u64 (o.seq : Int)]
structure ORow (w : World) (A : Option Addr) (n : Nat) (l : List OpV) : Prop where
  len : l.length = n
  at_ : ∀ k, k < n → ∃ ad, A = some ad ∧ At w (ad.add (k * 4)) (l.getD k default).cs
theorem ORow.below {w w' : World} {A : Option Addr} {n : Nat} {l : List OpV} (h : ORow w A n l) (hb : Below w.heap.size w w') : ORow w' A n l := ⟨h.len, fun k hk => by
  obtain ⟨ad, e, hc⟩ := h.at_ k hk
  exact ⟨ad, e, hc.below hb⟩⟩

/-! ### 3. Plain laws -/
structure I2 (hi bi : Nat) (T : List Nat) : Prop where
  i : Inv hi bi T
  z : ∀ j, j < 64 → hi ≤ j → bi.testBit j = false
theorem I2.begin : I2 0 0 [] := ⟨Inv.begin, fun j _ _ => Nat.zero_testBit j⟩
theorem I2.rb_ {hi bi : Nat} {T : List Nat} (I : I2 hi bi T) : rb T hi 64 = bi := rb_eq I.i.hb (fun j hj => by
  by_cases c : j < hi
  · rw [I.i.bit j hj c]
    exact ⟨fun h => ⟨c, h⟩, fun h => h.2⟩
  · rw [I.z j hj (by omega)]
    exact ⟨fun h => absurd h (by simp), fun h => absurd h.1 c⟩)
theorem chk {hi bi s : Nat} {T : List Nat} (I : I2 hi bi T) (hs : s < 18446744073709551616) : window_Window_Check.f 1 hi bi s = some (rcheck T hi s) := by
  unfold rcheck
  by_cases c1 : hi < s
  · rw [if_pos c1]
    by_cases c2 : 64 < s - hi
    · rw [if_pos c2]
      exact check_far 1 (by decide) hi bi s I.i.hh I.i.hb hs c1 c2
    · rw [if_neg c2]
      exact check_up 1 (by decide) hi bi s I.i.hh I.i.hb hs c1 (by omega)
  · rw [if_neg c1]
    by_cases c0 : s = 0
    · rw [if_pos (Or.inl c0)]
      exact check_zero 1 (by decide) hi bi s I.i.hh I.i.hb hs c0
    · by_cases c2 : 64 ≤ hi - s
      · rw [if_pos (Or.inr c2)]
        exact check_old 1 (by decide) hi bi s I.i.hh I.i.hb hs (by omega) c2
      · rw [if_neg (fun h => h.elim c0 c2), check_in 1 (by decide) hi bi s I.i.hh I.i.hb hs (by omega) (by omega) (by omega)]
        have h := I.i.seen (s := s) (by omega) (by omega) (by omega)
        by_cases c3 : s ∈ T
        · rw [if_pos c3, if_pos (h.2 c3)]
        · rw [if_neg c3, if_neg (fun e => c3 (h.1 e))]
def nHi (T : List Nat) (hi s : Nat) : Nat := if rcheck T hi s = 0 ∧ hi < s then s else hi
def nBi (T : List Nat) (hi bi s : Nat) : Nat := if rcheck T hi s = 0 then (if hi < s then shlN bi (s - hi) ||| 1 else bi ||| 2 ^ (hi - s)) else bi
def nT (T : List Nat) (hi s : Nat) : List Nat := if rcheck T hi s = 0 then T ++ [s] else T
theorem nT_len (T : List Nat) (hi s : Nat) : (nT T hi s).length ≤ T.length + 1 := by unfold nT; split <;> simp
theorem rc_up {T : List Nat} {hi s : Nat} (h : rcheck T hi s = 0) (c : hi < s) : s - hi ≤ 64 := by
  unfold rcheck at h
  rw [if_pos c] at h
  by_cases c2 : 64 < s - hi
  · rw [if_pos c2] at h
    cases h
  · omega
theorem rc_down {T : List Nat} {hi s : Nat} (h : rcheck T hi s = 0) (c : ¬ hi < s) : 0 < s ∧ hi - s < 64 := by
  unfold rcheck at h
  rw [if_neg c] at h
  by_cases c2 : s = 0 ∨ 64 ≤ hi - s
  · rw [if_pos c2] at h
    cases h
  · omega
theorem Inv.perm {hi bi s : Nat} {T : List Nat} (h : Inv hi bi (s :: T)) : Inv hi bi (T ++ [s]) := by
  have e : ∀ x, x ∈ T ++ [s] ↔ x ∈ s :: T := fun x => by simp [or_comm]
  exact ⟨h.hh, h.hb, fun x hx => h.all x ((e x).1 hx), fun j hj hjs => by rw [h.bit j hj hjs, e]⟩
theorem bit_one (j : Nat) : (1 : Nat).testBit j = decide (j = 0) := by
  have := Nat.testBit_two_pow (n := 0) (m := j)
  rw [Nat.pow_zero] at this
  rw [this]
  by_cases z : j = 0 <;> simp [z]; omega
theorem I2.next {hi bi s : Nat} {T : List Nat} (I : I2 hi bi T) (hs : s < 18446744073709551616) : I2 (nHi T hi s) (nBi T hi bi s) (nT T hi s) := by
  unfold nHi nBi nT
  by_cases c : rcheck T hi s = 0
  · by_cases c1 : hi < s
    · rw [if_pos ⟨c, c1⟩, if_pos c, if_pos c1, if_pos c]
      have h64 := rc_up c c1
      refine ⟨Inv.perm (I.i.up s hs c1 h64), fun j hj hjs => ?_⟩
      rw [Nat.testBit_or, shlN_bit _ _ _ h64, bit_one, I.z (j - (s - hi)) (by omega) (by omega)]
      have : ¬ j = 0 := by omega
      simp [this]
    · rw [if_neg (fun h => c1 h.2), if_pos c, if_neg c1, if_pos c]
      obtain ⟨h0, h64⟩ := rc_down c c1
      refine ⟨Inv.perm (I.i.down s h0 (by omega) h64), fun j hj hjs => ?_⟩
      rw [Nat.testBit_or, Nat.testBit_two_pow, I.z j hj hjs]
      have : ¬ hi - s = j := by omega
      simp [this]
  · rw [if_neg (fun h => c h.1), if_neg c, if_neg c]
    exact I

/-! ### 4. Both Marks -/
theorem pmark0 (g : Nat) (hi bi s : Nat) (T : List Nat) (y0 y1 y2 y3 : Int) (I : I2 hi bi T) (hs : s < 18446744073709551616) (w : World) (hb : w.heap[g]? = some (.cells #[.int .u64 (hi : Int), .int .u64 (bi : Int), .int .u64 (y2 : Int), .int .u64 (y3 : Int)] 27 (0, 0))) : Calls Try.prog 16 #[.pointer (some ⟨g, 0, none⟩), .int .u64 (s : Int)] w fun e w' => e = .returned (.int .i64 (rcheck T hi s)) ∧ w'.heap[g]? = some (.cells #[.int .u64 (nHi T hi s : Int), .int .u64 (nBi T hi bi s : Int), .int .u64 (y2 : Int), .int .u64 (y3 : Int)] 27 (0, 0)) ∧ Only w w' (fun k => k = g) := by
  have hC := chk I hs
  have hh := I.i.hh
  by_cases c : rcheck T hi s = 0
  · rw [c] at hC
    unfold nHi nBi
    rw [c]
    by_cases c1 : hi < s
    · rw [if_pos ⟨rfl, c1⟩, if_pos rfl, if_pos c1]
      exact mark0_up g hi bi s y0 y1 y2 y3 ((s - hi : Nat) : Int) ((shlN bi (s - hi) : Nat) : Int) _ w hb hC (by omega) (by rw [wu64 (by omega) (by omega)]; omega) (by omega) (shl_nat bi (s - hi)) (or_nat _ 1 (shlN_lt _ _) (by decide))
    · obtain ⟨h0, h64⟩ := rc_down c c1
      rw [if_neg (fun h => c1 h.2), if_pos rfl, if_neg c1]
      exact mark0_down g hi bi s y0 y1 y2 y3 ((hi - s : Nat) : Int) ((2 ^ (hi - s) : Nat) : Int) _ w hb hC (by omega) (by rw [wu64 (by omega) (by omega)]; omega) (by omega) (one_shl (hi - s) h64) (or_nat _ _ I.i.hb (two_pow_lt _ h64))
  · unfold nHi nBi
    rw [if_neg (fun h => c h.1), if_neg c]
    refine (mark0_stay g hi bi s y0 y1 y2 y3 (rcheck T hi s) w hb hC c).mono ?_
    rintro e w' ⟨rfl, hB⟩
    exact ⟨rfl, (hB.block g (blk_lt hb)).trans hb, Only.of_below hB _⟩
theorem pmark2 (g : Nat) (hi bi s : Nat) (T : List Nat) (y0 y1 y2 y3 : Int) (I : I2 hi bi T) (hs : s < 18446744073709551616) (w : World) (hb : w.heap[g]? = some (.cells #[.int .u64 (y0 : Int), .int .u64 (y1 : Int), .int .u64 (hi : Int), .int .u64 (bi : Int)] 27 (0, 0))) : Calls Try.prog 16 #[.pointer (some ⟨g, 2, none⟩), .int .u64 (s : Int)] w fun e w' => e = .returned (.int .i64 (rcheck T hi s)) ∧ w'.heap[g]? = some (.cells #[.int .u64 (y0 : Int), .int .u64 (y1 : Int), .int .u64 (nHi T hi s : Int), .int .u64 (nBi T hi bi s : Int)] 27 (0, 0)) ∧ Only w w' (fun k => k = g) := by
  have hC := chk I hs
  have hh := I.i.hh
  by_cases c : rcheck T hi s = 0
  · rw [c] at hC
    unfold nHi nBi
    rw [c]
    by_cases c1 : hi < s
    · rw [if_pos ⟨rfl, c1⟩, if_pos rfl, if_pos c1]
      exact mark2_up g hi bi s y0 y1 y2 y3 ((s - hi : Nat) : Int) ((shlN bi (s - hi) : Nat) : Int) _ w hb hC (by omega) (by rw [wu64 (by omega) (by omega)]; omega) (by omega) (shl_nat bi (s - hi)) (or_nat _ 1 (shlN_lt _ _) (by decide))
    · obtain ⟨h0, h64⟩ := rc_down c c1
      rw [if_neg (fun h => c1 h.2), if_pos rfl, if_neg c1]
      exact mark2_down g hi bi s y0 y1 y2 y3 ((hi - s : Nat) : Int) ((2 ^ (hi - s) : Nat) : Int) _ w hb hC (by omega) (by rw [wu64 (by omega) (by omega)]; omega) (by omega) (one_shl (hi - s) h64) (or_nat _ _ I.i.hb (two_pow_lt _ h64))
  · unfold nHi nBi
    rw [if_neg (fun h => c h.1), if_neg c]
    refine (mark2_stay g hi bi s y0 y1 y2 y3 (rcheck T hi s) w hb hC c).mono ?_
    rintro e w' ⟨rfl, hB⟩
    exact ⟨rfl, (hB.block g (blk_lt hb)).trans hb, Only.of_below hB _⟩
theorem rmark (B g : Nat) (v : Value) (T : List Nat) (top s : Nat) (ht : top < 18446744073709551616) (hs : s < 18446744073709551616) (w : World) (h : DW w B g v T top) (hBw : B ≤ w.heap.size) (hlen : T.length < 1000) : Calls Try.prog 17 #[.pointer (some ⟨g, 0, none⟩), .int .u64 (s : Int)] w fun e w' => ∃ v', e = .returned (.int .i64 (rcheck T top s)) ∧ DW w' B g v' (nT T top s) (nHi T top s) ∧ Only w w' (fun k => k = g ∨ v.ownBlock = some k) ∧ (v'.ownBlock = v.ownBlock ∨ ∃ b, v'.ownBlock = some b ∧ w.heap.size ≤ b) := by
  by_cases c : rcheck T top s = 0
  · unfold nHi nT
    by_cases c1 : top < s
    · rw [if_pos c, if_pos ⟨c, c1⟩, c]
      exact rmark_up B g v T top s ht hs w h hBw c c1 hlen
    · rw [if_pos c, if_neg (fun h => c1 h.2), c]
      exact rmark_down B g v T top s ht hs w h hBw c c1 hlen
  · unfold nHi nT
    rw [if_neg c, if_neg (fun h => c h.1)]
    refine (rmark_stay B g v T top s _ ht hs w h rfl c).mono ?_
    rintro e w' ⟨rfl, rfl⟩
    exact ⟨v, rfl, h, Only.refl _ _, .inl rfl⟩

/-! ### 5. Two windows and their documents -/
structure St (B : Nat) (w : World) (gw gd g0 g1 h0 b0 h1 b1 : Nat) (v0 v1 : Value) (T0 : List Nat) (t0 : Nat) (T1 : List Nat) (t1 : Nat) : Prop where
  arr : w.heap[gw]? = some (.cells #[.int .u64 (h0 : Int), .int .u64 (b0 : Int), .int .u64 (h1 : Int), .int .u64 (b1 : Int)] 27 (0, 0))
  ptr : w.heap[gd]? = some (.cells #[.pointer (some ⟨g0, 0, none⟩), .pointer (some ⟨g1, 0, none⟩)] 28 (0, 0))
  d0 : DW w B g0 v0 T0 t0
  d1 : DW w B g1 v1 T1 t1
  ne : gw ≠ gd ∧ g0 ≠ gw ∧ g0 ≠ gd ∧ g1 ≠ gw ∧ g1 ≠ gd ∧ g0 ≠ g1
  r0 : ∀ k, v0.ownBlock = some k → k ≠ gw ∧ k ≠ gd ∧ k ≠ g1
  r1 : ∀ k, v1.ownBlock = some k → k ≠ gw ∧ k ≠ gd ∧ k ≠ g0
  r : ∀ k, v0.ownBlock = some k → v1.ownBlock = some k → False
  lo : B ≤ gw ∧ B ≤ gd ∧ B ≤ g0 ∧ B ≤ g1
/-- The block of what is done, apart from the rest. -/
structure Ob (w : World) (go gw gd g0 g1 : Nat) (v0 v1 : Value) (o : OpV) : Prop where
  blk : w.heap[go]? = some (.cells #[.int .i64 o.pos, .bool o.look, .bool o.copy, .int .u64 (o.seq : Int)] 34 (0, 0))
  ne : go ≠ gw ∧ go ≠ gd ∧ go ≠ g0 ∧ go ≠ g1
  r0 : ∀ k, v0.ownBlock = some k → go ≠ k
  r1 : ∀ k, v1.ownBlock = some k → go ≠ k
section
variable {B : Nat} {w w' : World} {gw gd g0 g1 h0 b0 h1 b1 : Nat} {v0 v1 : Value} {T0 : List Nat} {t0 : Nat} {T1 : List Nat} {t1 : Nat}
theorem St.below (h : St B w gw gd g0 g1 h0 b0 h1 b1 v0 v1 T0 t0 T1 t1) (hb : Below w.heap.size w w') : St B w' gw gd g0 g1 h0 b0 h1 b1 v0 v1 T0 t0 T1 t1 :=
  ⟨blk_below h.arr hb, blk_below h.ptr hb, h.d0.below hb, h.d1.below hb, h.ne, h.r0, h.r1, h.r, h.lo⟩
theorem St.drew (h : St B w gw gd g0 g1 h0 b0 h1 b1 v0 v1 T0 t0 T1 t1) : St B w.drew gw gd g0 g1 h0 b0 h1 b1 v0 v1 T0 t0 T1 t1 := h.below (below_drew1 (Below.refl _ _))
theorem St.size (h : St B w gw gd g0 g1 h0 b0 h1 b1 v0 v1 T0 t0 T1 t1) : B ≤ w.heap.size := Nat.le_trans h.lo.1 (Nat.le_of_lt (blk_lt h.arr))
theorem St.setw (h : St B w gw gd g0 g1 h0 b0 h1 b1 v0 v1 T0 t0 T1 t1) {x0 y0 x1 y1 : Nat} (hO : Only w w' (fun k => k = gw)) (hb : w'.heap[gw]? = some (.cells #[.int .u64 (x0 : Int), .int .u64 (y0 : Int), .int .u64 (x1 : Int), .int .u64 (y1 : Int)] 27 (0, 0))) : St B w' gw gd g0 g1 x0 y0 x1 y1 v0 v1 T0 t0 T1 t1 :=
  ⟨hb, hO.blk h.ptr (fun e => h.ne.1 e.symm), h.d0.only hO h.ne.2.1 (fun k hk => (h.r0 k hk).1), h.d1.only hO h.ne.2.2.2.1 (fun k hk => (h.r1 k hk).1), h.ne, h.r0, h.r1, h.r, h.lo⟩
theorem St.mk0 (h : St B w gw gd g0 g1 h0 b0 h1 b1 v0 v1 T0 t0 T1 t1) {v : Value} {T : List Nat} {t : Nat} (hd : DW w' B g0 v T t) (hO : Only w w' (fun k => k = g0 ∨ v0.ownBlock = some k)) (hat : v.ownBlock = v0.ownBlock ∨ ∃ b, v.ownBlock = some b ∧ w.heap.size ≤ b) : St B w' gw gd g0 g1 h0 b0 h1 b1 v v1 T t T1 t1 := by
  obtain ⟨n1, n2, n3, n4, n5, n6⟩ := h.ne
  have l1 := blk_lt h.arr
  have l2 := blk_lt h.ptr
  have l3 := h.d1.lt
  refine ⟨hO.blk h.arr ?_, hO.blk h.ptr ?_, hd, h.d1.only hO ?_ ?_, h.ne, ?_, h.r1, ?_, h.lo⟩
  · rintro (e | e)
    · exact n2 e.symm
    · exact (h.r0 _ e).1 rfl
  · rintro (e | e)
    · exact n3 e.symm
    · exact (h.r0 _ e).2.1 rfl
  · rintro (e | e)
    · exact n6 e.symm
    · exact (h.r0 _ e).2.2 rfl
  · rintro k hk (e | e)
    · exact (h.r1 k hk).2.2 e
    · exact h.r k e hk
  · intro k hk
    rcases hat with e | ⟨b, e, hb⟩
    · exact h.r0 k (e ▸ hk)
    · rw [hk] at e
      injection e with e
      subst e
      exact ⟨by omega, by omega, by omega⟩
  · intro k hk hk1
    rcases hat with e | ⟨b, e, hb⟩
    · exact h.r k (e ▸ hk) hk1
    · rw [hk] at e
      injection e with e
      subst e
      have := (own_lt h.d1.own k hk1).1
      omega
theorem St.mk1 (h : St B w gw gd g0 g1 h0 b0 h1 b1 v0 v1 T0 t0 T1 t1) {v : Value} {T : List Nat} {t : Nat} (hd : DW w' B g1 v T t) (hO : Only w w' (fun k => k = g1 ∨ v1.ownBlock = some k)) (hat : v.ownBlock = v1.ownBlock ∨ ∃ b, v.ownBlock = some b ∧ w.heap.size ≤ b) : St B w' gw gd g0 g1 h0 b0 h1 b1 v0 v T0 t0 T t := by
  obtain ⟨n1, n2, n3, n4, n5, n6⟩ := h.ne
  have l1 := blk_lt h.arr
  have l2 := blk_lt h.ptr
  have l3 := h.d0.lt
  refine ⟨hO.blk h.arr ?_, hO.blk h.ptr ?_, h.d0.only hO ?_ ?_, hd, h.ne, h.r0, ?_, ?_, h.lo⟩
  · rintro (e | e)
    · exact n4 e.symm
    · exact (h.r1 _ e).1 rfl
  · rintro (e | e)
    · exact n5 e.symm
    · exact (h.r1 _ e).2.1 rfl
  · rintro (e | e)
    · exact n6 e
    · exact (h.r1 _ e).2.2 rfl
  · rintro k hk (e | e)
    · exact (h.r0 k hk).2.2 e
    · exact h.r k hk e
  · intro k hk
    rcases hat with e | ⟨b, e, hb⟩
    · exact h.r1 k (e ▸ hk)
    · rw [hk] at e
      injection e with e
      subst e
      exact ⟨by omega, by omega, by omega⟩
  · intro k hk1 hk
    rcases hat with e | ⟨b, e, hb⟩
    · exact h.r k hk1 (e ▸ hk)
    · rw [hk] at e
      injection e with e
      subst e
      have := (own_lt h.d0.own k hk1).1
      omega
theorem Ob.only {go : Nat} {o : OpV} {S : Nat → Prop} (h : Ob w go gw gd g0 g1 v0 v1 o) (hO : Only w w' S) (hs : ¬ S go) : Ob w' go gw gd g0 g1 v0 v1 o := ⟨hO.blk h.blk hs, h.ne, h.r0, h.r1⟩
theorem Ob.below {go : Nat} {o : OpV} (h : Ob w go gw gd g0 g1 v0 v1 o) (hb : Below w.heap.size w w') : Ob w' go gw gd g0 g1 v0 v1 o := ⟨blk_below h.blk hb, h.ne, h.r0, h.r1⟩
theorem Ob.drew {go : Nat} {o : OpV} (h : Ob w go gw gd g0 g1 v0 v1 o) : Ob w.drew go gw gd g0 g1 v0 v1 o := ⟨h.blk, h.ne, h.r0, h.r1⟩
theorem Ob.own0 {go : Nat} {o : OpV} (h : Ob w go gw gd g0 g1 v0 v1 o) {v : Value} {n : Nat} (hat : v.ownBlock = v0.ownBlock ∨ ∃ b, v.ownBlock = some b ∧ n ≤ b) (hn : go < n) : Ob w go gw gd g0 g1 v v1 o := ⟨h.blk, h.ne, fun k hk => by
  rcases hat with e | ⟨b, e, hb⟩
  · exact h.r0 k (e ▸ hk)
  · rw [hk] at e
    injection e with e
    omega, h.r1⟩
theorem Ob.own1 {go : Nat} {o : OpV} (h : Ob w go gw gd g0 g1 v0 v1 o) {v : Value} {n : Nat} (hat : v.ownBlock = v1.ownBlock ∨ ∃ b, v.ownBlock = some b ∧ n ≤ b) (hn : go < n) : Ob w go gw gd g0 g1 v0 v o := ⟨h.blk, h.ne, h.r0, fun k hk => by
  rcases hat with e | ⟨b, e, hb⟩
  · exact h.r1 k (e ▸ hk)
  · rw [hk] at e
    injection e with e
    omega⟩
theorem only_cell {S : Nat → Prop} (hO : Only w w' S) {p : Addr} {v : Value} (hc : w.cell? p = some v) (hs : ¬ S p.block) : w'.cell? p = some v := by
  have hk := hO.block p.block (World.block_lt_of_cell? w _ hc) hs
  unfold World.cell? at hc ⊢
  rw [hk]
  exact hc
end
/-- A copy of a document's row. -/
theorem run_copy29 (w : World) {B g : Nat} {v : Value} {T : List Nat} {t : Nat} (h : DW w B g v T t) (ty : TypeId) :
    ∃ A1 c1 w1, (Builtin.append_ #[29, 29] ty #[.slice none 0 0, v]).run Try.prog w = .ok (.slice A1 T.length c1) w1 ∧ w1.ownsRow w.heap.size 24 1 (.slice A1 T.length c1) T.length (encs eu T) ∧ Below w.heap.size w w1 := by
  obtain ⟨i0, hi, hzz⟩ := Option.map_eq_some_iff.1 (show (Try.prog.info? 24).map (fun i => (i.zero, i.size, i.bytes)) = some (some (.int .u64 0), 1, 8) by kernel_rfl)
  simp only [Prod.mk.injEq] at hzz
  obtain ⟨hz0, hz1, hz2⟩ := hzz
  have hl := h.len
  obtain ⟨A, c, rfl, hr⟩ := h.rw
  rcases Nat.eq_zero_or_pos T.length with h0 | h0
  · obtain rfl : T = [] := List.eq_nil_of_length_eq_zero h0
    refine ⟨none, 0, w, ?_, own_nil _ _ _ _, Below.refl _ _⟩
    cases A <;> simp [Builtin.append_, run_underlying Try.underlying29, sizeOf, typeInfo, hi, Builtin.lenOf, Builtin.firstCells, loadCells, loadCellsFrom]
  · obtain ⟨g2, c2, e, _, _⟩ := h.own.form h0
    injection e with e1 e2 e3
    subst e1
    obtain ⟨v1, w1, hrun, ho, hg, _⟩ := run_append_own_at (P := Try.prog) w w.heap.size 29 ty 24 i0 _ 1 8 Try.underlying29 hi hz0 hz1 hz2 rfl (by decide) (.slice none 0 0) 0 [] (own_nil _ _ _ _) ⟨g2, 0, none⟩ T.length c (encs eu T) (by simp [encs])
      (fun j u hu => h.own.cells (g := g2) rfl j u hu)
      (fun u hu => by
        simp only [encs, List.mem_map] at hu
        obtain ⟨x, _, rfl⟩ := hu
        rfl)
      (by simp only [maxLen]; omega) (by omega) (Nat.le_refl _)
    have ho' : w1.ownsRow w.heap.size 24 1 v1 T.length (encs eu T) := by simpa using ho
    obtain ⟨A1, c1, rfl⟩ := own_slice ho'
    exact ⟨A1, c1, w1, hrun, ho', ⟨hg.os, hg.tape, hg.output, hg.size, fun i hi => hg.block i hi (by simp [Value.ownBlock])⟩⟩
section
variable {P : Program} {o : Oper} {a : Act} {w : World}
theorem exec_append_run (s x : Operand) (t : TypeId) (ho : o.op = .call { callee := .builtin .append, args := #[s, x], argTypes := #[t, t] }) (v u v1 : Value) (w1 : World) (hs : a.eval s = v) (hx : a.eval x = u)
    (hr : (Builtin.append_ #[t, t] o.type #[v, u]).run P w = .ok v1 w1) : (execOp a.eval o).run P w = .ok (.value v1) w1 := by
  unfold execOp
  simp only [ho, resolve, invoke, builtin, Sem.run_bind, Sem.run_pure, Result.andThen_ok, List.map_toArray, List.map_cons, List.map_nil, hs, hx, hr]
end
theorem St.copy0 {B : Nat} {w w1 : World} {gw gd g0 g1 h0 b0 h1 b1 : Nat} {v0 v1 v : Value} {T0 : List Nat} {t0 : Nat} {T1 : List Nat} {t1 : Nat} (h : St B w gw gd g0 g1 h0 b0 h1 b1 v0 v1 T0 t0 T1 t1) (hb : Below w.heap.size w w1) (ho : w1.ownsRow w.heap.size 24 1 v T0.length (encs eu T0)) :
    St B ((w1.alloc (.cells #[v, .int .u64 (t0 : Int)] 31)).setCell ⟨gd, 1, none⟩ (.pointer (some ⟨w1.heap.size, 0, none⟩))) gw gd g0 w1.heap.size h0 b0 h1 b1 v0 v T0 t0 T0 t0 ∧ Only w ((w1.alloc (.cells #[v, .int .u64 (t0 : Int)] 31)).setCell ⟨gd, 1, none⟩ (.pointer (some ⟨w1.heap.size, 0, none⟩))) (fun k => k = gd) := by
  have h1 := h.below hb
  obtain ⟨n1, n2, n3, n4, n5, n6⟩ := h.ne
  have l1 := blk_lt h.arr
  have l2 := blk_lt h.ptr
  have l3 := h.d0.lt
  have l4 := h.d1.lt
  have hz := hb.size
  have hB := h.size
  have hO2 : Only (w1.alloc (.cells #[v, .int .u64 (t0 : Int)] 31)) ((w1.alloc (.cells #[v, .int .u64 (t0 : Int)] 31)).setCell ⟨gd, 1, none⟩ (.pointer (some ⟨w1.heap.size, 0, none⟩))) (fun k => k = gd) := (Only.refl _ _).set rfl
  have hO1 : Only w1 ((w1.alloc (.cells #[v, .int .u64 (t0 : Int)] 31)).setCell ⟨gd, 1, none⟩ (.pointer (some ⟨w1.heap.size, 0, none⟩))) (fun k => k = gd) := (Only.of_below ((Below.refl w1.heap.size w1).alloc (Nat.le_refl _) _) _).then hO2
  have hlv := own_lt ho
  have hv : ∀ k, v.ownBlock = some k → w.heap.size ≤ k ∧ k < w1.heap.size := fun k hk => ⟨(hlv k hk).2, (hlv k hk).1⟩
  have hnew : DW ((w1.alloc (.cells #[v, .int .u64 (t0 : Int)] 31)).setCell ⟨gd, 1, none⟩ (.pointer (some ⟨w1.heap.size, 0, none⟩))) B w1.heap.size v T0 t0 :=
    ⟨hO2.blk (heap_alloc_new w1 _) (by omega), hO2.own (own_less (ho.alloc _) hB) (fun k hk e => by have := hv k hk; omega), fun k hk e => by have := hv k hk; omega, h.d0.len⟩
  refine ⟨⟨hO1.blk h1.arr n1, ?_, h1.d0.only hO1 n3 (fun k hk => (h.r0 k hk).2.1), hnew, ?_, ?_, ?_, ?_, ?_⟩, (Only.of_below hb _).then hO1⟩
  · have hp := blk_set (show (w1.alloc (.cells #[v, .int .u64 (t0 : Int)] 31)).heap[gd]? = _ from by rw [heap_alloc_old _ _ (by omega)]; exact h1.ptr) 1 (.pointer (some ⟨w1.heap.size, 0, none⟩))
    simpa using hp
  · exact ⟨n1, n2, n3, by omega, by omega, by omega⟩
  · intro k hk
    have h2 := (own_lt h.d0.own k hk).1
    exact ⟨(h.r0 k hk).1, (h.r0 k hk).2.1, by omega⟩
  · intro k hk
    have := hv k hk
    exact ⟨by omega, by omega, by omega⟩
  · intro k hk hk1
    have h2 := (own_lt h.d0.own k hk).1
    have := hv k hk1
    omega
  · exact ⟨h.lo.1, h.lo.2.1, h.lo.2.2.1, by omega⟩
theorem St.copy1 {B : Nat} {w w1 : World} {gw gd g0 g1 h0 b0 h1 b1 : Nat} {v0 v1 v : Value} {T0 : List Nat} {t0 : Nat} {T1 : List Nat} {t1 : Nat} (h : St B w gw gd g0 g1 h0 b0 h1 b1 v0 v1 T0 t0 T1 t1) (hb : Below w.heap.size w w1) (ho : w1.ownsRow w.heap.size 24 1 v T1.length (encs eu T1)) :
    St B ((w1.alloc (.cells #[v, .int .u64 (t1 : Int)] 31)).setCell ⟨gd, 0, none⟩ (.pointer (some ⟨w1.heap.size, 0, none⟩))) gw gd w1.heap.size g1 h0 b0 h1 b1 v v1 T1 t1 T1 t1 ∧ Only w ((w1.alloc (.cells #[v, .int .u64 (t1 : Int)] 31)).setCell ⟨gd, 0, none⟩ (.pointer (some ⟨w1.heap.size, 0, none⟩))) (fun k => k = gd) := by
  have h1 := h.below hb
  obtain ⟨n1, n2, n3, n4, n5, n6⟩ := h.ne
  have l1 := blk_lt h.arr
  have l2 := blk_lt h.ptr
  have l3 := h.d0.lt
  have l4 := h.d1.lt
  have hz := hb.size
  have hB := h.size
  have hO2 : Only (w1.alloc (.cells #[v, .int .u64 (t1 : Int)] 31)) ((w1.alloc (.cells #[v, .int .u64 (t1 : Int)] 31)).setCell ⟨gd, 0, none⟩ (.pointer (some ⟨w1.heap.size, 0, none⟩))) (fun k => k = gd) := (Only.refl _ _).set rfl
  have hO1 : Only w1 ((w1.alloc (.cells #[v, .int .u64 (t1 : Int)] 31)).setCell ⟨gd, 0, none⟩ (.pointer (some ⟨w1.heap.size, 0, none⟩))) (fun k => k = gd) := (Only.of_below ((Below.refl w1.heap.size w1).alloc (Nat.le_refl _) _) _).then hO2
  have hlv := own_lt ho
  have hv : ∀ k, v.ownBlock = some k → w.heap.size ≤ k ∧ k < w1.heap.size := fun k hk => ⟨(hlv k hk).2, (hlv k hk).1⟩
  have hnew : DW ((w1.alloc (.cells #[v, .int .u64 (t1 : Int)] 31)).setCell ⟨gd, 0, none⟩ (.pointer (some ⟨w1.heap.size, 0, none⟩))) B w1.heap.size v T1 t1 :=
    ⟨hO2.blk (heap_alloc_new w1 _) (by omega), hO2.own (own_less (ho.alloc _) hB) (fun k hk e => by have := hv k hk; omega), fun k hk e => by have := hv k hk; omega, h.d1.len⟩
  refine ⟨⟨hO1.blk h1.arr n1, ?_, hnew, h1.d1.only hO1 n5 (fun k hk => (h.r1 k hk).2.1), ?_, ?_, ?_, ?_, ?_⟩, (Only.of_below hb _).then hO1⟩
  · have hp := blk_set (show (w1.alloc (.cells #[v, .int .u64 (t1 : Int)] 31)).heap[gd]? = _ from by rw [heap_alloc_old _ _ (by omega)]; exact h1.ptr) 0 (.pointer (some ⟨w1.heap.size, 0, none⟩))
    simpa using hp
  · exact ⟨n1, by omega, by omega, n4, n5, by omega⟩
  · intro k hk
    have := hv k hk
    exact ⟨by omega, by omega, by omega⟩
  · intro k hk
    have h2 := (own_lt h.d1.own k hk).1
    exact ⟨(h.r1 k hk).1, (h.r1 k hk).2.1, by omega⟩
  · intro k hk hk1
    have h2 := (own_lt h.d1.own k hk1).1
    have := hv k hk
    omega
  · exact ⟨h.lo.1, h.lo.2.1, by omega, h.lo.2.2.2⟩
end Go.Proofs.Ytidjnpfpbbffjaa.Scr
