/- Proved: words for views: whole structs loaded and stored, rows of things seen and of places, what is shown between two views. -/
import Derived.Test.YtjffkidfoapbjaaMix
import Derived.Test.YtjffkidfoapbjaaOf
import Derived.Laws.CopyRow
namespace Go.Proofs.Ytjffkidfoapbjaa.Fl
open Go.RowKit Go.Proofs.YtjffkidfoapbjaaW.PrintWords Go.Proofs.YtjffkidfoapbjaaW.PrintLast Go.Proofs.YtjffkidfoapbjaaW.PrintMore
set_option linter.unusedVariables false
set_option linter.unusedSimpArgs false

/-! ### 1. Whole structs -/
/-- From an address on lie these cells. -/
structure At (w : World) (ad : Addr) (cs : List Value) : Prop where mk :: (out : ∀ j v, cs[j]? = some v → w.cell? (ad.add j) = some v)
theorem At.below {w w' : World} {ad : Addr} {cs : List Value} (h : At w ad cs) (hb : Below w.heap.size w w') : At w' ad cs := ⟨fun j v hj => pw_cell_below hb (h.out j v hj)⟩
theorem At.drew {w : World} {ad : Addr} {cs : List Value} (h : At w ad cs) : At w.drew ad cs := ⟨h.out⟩
theorem At.drawn {w w' : World} {ad : Addr} {cs : List Value} (h : At w ad cs) (d : Drawn0 w w') : At w' ad cs := ⟨fun j v hj => dcell d (h.out j v hj)⟩
theorem At.of_blk {w : World} {g : Nat} {cs : List Value} {t : TypeId} (h : w.heap[g]? = some (.cells cs.toArray t (0, 0))) : At w ⟨g, 0, none⟩ cs := ⟨fun j v hj => by
  rw [add_plain, blk_cell h j]
  simpa using hj⟩
theorem At.of_mid {w : World} {g : Nat} {cs ds es : List Value} {t : TypeId} (h : w.heap[g]? = some (.cells (ds ++ cs ++ es).toArray t (0, 0))) : At w ⟨g, ds.length, none⟩ cs := ⟨fun j v hj => by
  have hj' := (List.getElem?_eq_some_iff.1 hj).1
  have e : (⟨g, ds.length, none⟩ : Addr).add j = ⟨g, ds.length + j, none⟩ := by unfold Addr.add; split <;> simp_all
  rw [e, blk_cell h]
  rw [List.getElem?_toArray, List.append_assoc, List.getElem?_append_right (by omega), Nat.add_sub_cancel_left, List.getElem?_append_left hj', hj]⟩
theorem At.cell {w : World} {ad : Addr} {cs : List Value} (h : At w ad cs) (j : Nat) {v : Value} (hj : cs[j]? = some v) : w.cell? (ad.add j) = some v := h.out j v hj

section
variable {P : Program}
theorem run_loadVar_at (w : World) (ad : Addr) (ty : TypeId) (cs : List Value) (d : TypeDesc) (h : At w ad cs)
    (hu : P.underlying ty = some d) (hd : (match d with | .struct _ | .array _ _ => true | _ => false) = true) (hi : (P.info? ty).map (·.size) = some cs.length) :
    (loadVar ty ad).run P w = .ok (.agg cs.toArray) w := by
  have hl := run_loadCells_list (P := P) w ad cs h.out
  cases hq : P.info? ty with
  | none => simp [hq] at hi
  | some i =>
    have hs : i.size = cs.length := by simpa [hq] using hi
    have hagg : (isAgg ty).run P w = .ok true w := by
      unfold isAgg
      rw [Sem.run_bind, run_underlying hu w]
      cases d <;> simp_all
    simp [loadVar, Sem.run_bind, hagg, sizeOf, typeInfo, hq, hs, hl]
theorem exec_load_at {o : Oper} {a : Act} {w : World} (ty : TypeId) (x : Operand) (ho : o.op = .load ty x) (ad : Addr) (hx : a.eval x = .pointer (some ad)) (cs : List Value) (d : TypeDesc)
    (hu : P.underlying ty = some d) (hd : (match d with | .struct _ | .array _ _ => true | _ => false) = true) (hi : (P.info? ty).map (·.size) = some cs.length) (h : At w ad cs) :
    (execOp a.eval o).run P w = .ok (.value (.agg cs.toArray)) w := by
  unfold execOp
  simp only [ho, hx, Instr.loadAt, Instr.sureAddr, Sem.run_bind, Sem.run_pure, Result.andThen_ok, run_loadVar_at w ad ty cs d h hu hd hi]
variable {ops : Array Oper} {rest : List Oper} {o : Oper} {a : Act} {w : World} {Q : Exit → Act → World → Prop}
theorem wpList_load_at (hgd : o.guard = none) (ty : TypeId) (x : Operand) (ho : o.op = .load ty x) (ad : Addr) (hx : a.eval x = .pointer (some ad)) (cs : List Value) (d : TypeDesc)
    (hu : P.underlying ty = some d) (hd : (match d with | .struct _ | .array _ _ => true | _ => false) = true) (hi : (P.info? ty).map (·.size) = some cs.length) (h0 : At w ad cs)
    (h : wpList P ops Q rest (a.put o.dst (.agg cs.toArray)) w) : wpList P ops Q (o :: rest) a w := by
  refine wpList_plain hgd fun K hK => ?_
  have hr := exec_load_at (P := P) (o := o) (a := a) (w := w) ty x ho ad hx cs d hu hd hi h0
  unfold Oper.wp
  rw [hr]
  exact hK _ _ h
/-- A struct is stored over a whole block. -/
theorem wpList_store_blk (hgd : o.guard = none) (ty : TypeId) (x y : Operand) (ho : o.op = .store ty x y) (g : Nat) (cs : List Value) (hx : a.eval x = .pointer (some ⟨g, 0, none⟩)) (hy : a.eval y = .agg cs.toArray)
    (t : TypeId) (old : Array Value) (hg : w.heap[g]? = some (.cells old t (0, 0))) (hi : (P.info? ty).map (·.size) = some cs.length) (hold : old.size = cs.length) (h1 : cs.all (·.oneCell') = true)
    (h : ∀ w1, w1.heap[g]? = some (.cells cs.toArray t (0, 0)) → (∀ (B : Nat) (w0 : World), Below B w0 w → B ≤ g → Below B w0 w1) → (∀ k, k ≠ g → w1.heap[k]? = w.heap[k]?) → w1.heap.size = w.heap.size → wpList P ops Q rest (a.put o.dst undef) w1) : wpList P ops Q (o :: rest) a w := by
  refine wpList_plain hgd fun K hK => ?_
  refine wp_store_row ty x y ho g cs.toArray hx hy t old hg (by simpa using hi) (by simpa using hold) (by simpa using h1) (hK _ _ ?_)
  refine h _ (setRow_heap w g old cs.toArray t _ hg) (fun B w0 hb hB => ?_) (fun k hk => setRow_other w g k _ hk) (by simp)
  exact ⟨hb.os, hb.tape, hb.output, by simp; exact hb.size, fun i hi => (setRow_other w g i _ (by omega)).trans (hb.block i hi)⟩
end

/-! ### 2. Things seen -/
structure S5 where
  ki : Int
  id : Int
  x : Int
  y : Int
  hd : Int
def S5.cs (s : S5) : List Value := [.int .i64 s.ki, .int .i64 s.id, .int .i64 s.x, .int .i64 s.y, .int .i64 s.hd]
instance : Inhabited S5 := ⟨⟨0, 0, 0, 0, 0⟩⟩
/-- A slice of things, by its cells. -/
structure SRow (w : World) (A : Option Addr) (n : Nat) (l : List S5) : Prop where
  len : l.length = n
  at_ : ∀ k, k < n → ∃ ad, A = some ad ∧ At w (ad.add (k * 5)) (l.getD k default).cs
theorem SRow.below {w w' : World} {A : Option Addr} {n : Nat} {l : List S5} (h : SRow w A n l) (hb : Below w.heap.size w w') : SRow w' A n l := ⟨h.len, fun k hk => by
  obtain ⟨ad, e, hc⟩ := h.at_ k hk
  exact ⟨ad, e, hc.below hb⟩⟩
theorem SRow.drawn {w w' : World} {A : Option Addr} {n : Nat} {l : List S5} (h : SRow w A n l) (hd : Drawn0 w w') : SRow w' A n l := h.below hd.below
theorem SRow.nil (w : World) (A : Option Addr) : SRow w A 0 [] := ⟨rfl, fun k hk => absurd hk (Nat.not_lt_zero k)⟩

/-! ### 3. Places -/
structure P3 where
  x : Nat
  y : Nat
  a : Nat
def P3.cs (p : P3) : List Value := [.float .f32 p.x, .float .f32 p.y, .float .f32 p.a]
instance : Inhabited P3 := ⟨⟨0, 0, 0⟩⟩
structure PF (p q : P3) : Prop where
  x : Fe p.x q.x
  y : Fe p.y q.y
  a : Fe p.a q.a
theorem PF.refl (p : P3) : PF p p := ⟨Fe.refl _, Fe.refl _, Fe.refl _⟩
theorem PF.symm {p q : P3} (h : PF p q) : PF q p := ⟨h.x.symm, h.y.symm, h.a.symm⟩
theorem PF.trans {p q r : P3} (h : PF p q) (k : PF q r) : PF p r := ⟨h.x.trans k.x, h.y.trans k.y, h.a.trans k.a⟩
/-- Two rows of places are one. -/
structure PFs (ps qs : List P3) : Prop where
  len : ps.length = qs.length
  at_ : ∀ k, k < ps.length → PF (ps.getD k default) (qs.getD k default)
theorem PFs.refl (ps : List P3) : PFs ps ps := ⟨rfl, fun _ _ => PF.refl _⟩
theorem PFs.symm {ps qs : List P3} (h : PFs ps qs) : PFs qs ps := ⟨h.len.symm, fun k hk => (h.at_ k (by rw [h.len]; exact hk)).symm⟩
theorem PFs.trans {ps qs rs : List P3} (h : PFs ps qs) (k : PFs qs rs) : PFs ps rs := ⟨h.len.trans k.len, fun i hi => (h.at_ i hi).trans (k.at_ i (by rw [← h.len]; exact hi))⟩
theorem PFs.snoc {ps qs : List P3} {p q : P3} (h : PFs ps qs) (k : PF p q) : PFs (ps ++ [p]) (qs ++ [q]) := ⟨by simp [h.len], fun i hi => by
  have hl := h.len
  rw [List.getD_eq_getElem?_getD, List.getD_eq_getElem?_getD]
  by_cases hlt : i < ps.length
  · rw [List.getElem?_append_left hlt, List.getElem?_append_left (by omega)]
    have := h.at_ i hlt
    rwa [List.getD_eq_getElem?_getD, List.getD_eq_getElem?_getD] at this
  · rw [List.length_append, List.length_singleton] at hi
    obtain rfl : i = ps.length := by omega
    rw [List.getElem?_append_right (Nat.le_refl _), hl, List.getElem?_append_right (Nat.le_refl _)]
    simpa using k⟩
def rowP (ps : List P3) : List Value := ps.flatMap P3.cs
theorem rowP_snoc (ps : List P3) (p : P3) : rowP ps ++ p.cs = rowP (ps ++ [p]) := by simp [rowP]
theorem rowP_len (ps : List P3) : (rowP ps).length = ps.length * 3 := by
  induction ps with
  | nil => rfl
  | cons p ps ih => rw [show rowP (p :: ps) = p.cs ++ rowP ps from rfl, List.length_append, ih, List.length_cons]; simp [P3.cs]; omega
theorem rowP_get (ps : List P3) (k j : Nat) (hk : k < ps.length) (hj : j < 3) : (rowP ps)[k * 3 + j]? = (ps.getD k default).cs[j]? := by
  induction ps generalizing k with
  | nil => simp at hk
  | cons p ps ih =>
    rw [show rowP (p :: ps) = p.cs ++ rowP ps from rfl]
    cases k with
    | zero => rw [List.getElem?_append_left (by simp [P3.cs]; omega)]; simp
    | succ k =>
      rw [List.getElem?_append_right (by simp [P3.cs]; omega), show (k + 1) * 3 + j - p.cs.length = k * 3 + j from by simp [P3.cs]; omega, ih k (by simpa using hk)]
      simp
/-- A slice of places of the call's own. -/
abbrev OwnP (w : World) (base : Nat) (v : Value) (ps : List P3) : Prop := w.ownsRow base 24 3 v ps.length (rowP ps)
/-- A slice of places that is read. -/
structure PRow (w : World) (A : Option Addr) (n : Nat) (l : List P3) : Prop where
  len : l.length = n
  at_ : ∀ k, k < n → ∃ ad, A = some ad ∧ At w (ad.add (k * 3)) (l.getD k default).cs
theorem PRow.below {w w' : World} {A : Option Addr} {n : Nat} {l : List P3} (h : PRow w A n l) (hb : Below w.heap.size w w') : PRow w' A n l := ⟨h.len, fun k hk => by
  obtain ⟨ad, e, hc⟩ := h.at_ k hk
  exact ⟨ad, e, hc.below hb⟩⟩
theorem PRow.drawn {w w' : World} {A : Option Addr} {n : Nat} {l : List P3} (h : PRow w A n l) (hd : Drawn0 w w') : PRow w' A n l := h.below hd.below
theorem own_prow {w : World} {base : Nat} {v : Value} {ps : List P3} (h : OwnP w base v ps) : ∃ A c, v = .slice A ps.length c ∧ ps.length ≤ c ∧ PRow w A ps.length ps := by
  rcases h.2 with ⟨rfl, h0⟩ | ⟨g, cap, cur, rfl, _, _, hle, _⟩
  · rw [h0]
    exact ⟨none, 0, rfl, Nat.le_refl _, h0, fun k hk => absurd hk (Nat.not_lt_zero k)⟩
  · refine ⟨_, _, rfl, hle, rfl, fun k hk => ⟨_, rfl, ⟨fun j v hj => ?_⟩⟩⟩
    have hj3 : j < 3 := (List.getElem?_eq_some_iff.1 hj).1
    have hc := h.cells (g := g) rfl (k * 3 + j) v (by rw [rowP_get ps k j hk hj3, hj])
    rw [add_plain] at hc ⊢
    have e : (⟨g, k * 3, none⟩ : Addr).add j = ⟨g, k * 3 + j, none⟩ := by unfold Addr.add; split <;> simp_all
    rw [e]
    exact hc

/-! ### 4. What is shown -/
def ofP (x y h : Int) : P3 := ⟨fixF x, fixF y, angF (Go.bits .and .i64 h 255)⟩
def S5.p (s : S5) : P3 := ofP s.x s.y s.hd
def mixP (p q : P3) (t : Nat) : P3 := ⟨mixS p.x q.x t, mixS p.y q.y t, mixA p.a q.a t⟩
theorem fe_ite {c : Bool} {a b a' b' : Nat} (h : Fe a a') (k : Fe b b') : Fe (if c = true then a else b) (if c = true then a' else b') := by
  cases c
  · exact k
  · exact h
theorem share_congr {a b t a' b' : Nat} (h : Fe a a') (k : Fe b b') : Fe (share a b t) (share a' b' t) := by
  unfold share
  rw [fop_congr (op := .sub) k h]
  exact .inl (fop_congr h (Fe.refl _))
theorem angle_congr {a b t a' b' : Nat} (h : Fe a a') (k : Fe b b') : Fe (angle a b t) (angle a' b' t) := by
  unfold angle
  rw [fop_congr (op := .sub) k h, fop_congr (op := .add) h (Fe.refl _)]
  exact Fe.refl _
theorem mixS_congr {a b a' b' : Nat} (t : Nat) (h : Fe a a') (k : Fe b b') : Fe (mixS a b t) (mixS a' b' t) := fe_ite (fe_ite k (share_congr h k)) h
theorem mixA_congr {a b a' b' : Nat} (t : Nat) (h : Fe a a') (k : Fe b b') : Fe (mixA a b t) (mixA a' b' t) := fe_ite (fe_ite k (angle_congr h k)) h
theorem mixP_congr {p q p' q' : P3} (t : Nat) (h : PF p p') (k : PF q q') : PF (mixP p q t) (mixP p' q' t) := ⟨mixS_congr t h.x k.x, mixS_congr t h.y k.y, mixA_congr t h.a k.a⟩
def S5.meets (s r : S5) : Bool := s.ki == r.ki && s.id == r.id
def hits (s : S5) (bs : List S5) (t : Nat) : List P3 :=
  match bs.find? s.meets with
  | some r => [mixP s.p r.p t]
  | none => []
def seenB (ss bs : List S5) (t : Nat) : List P3 := ss.flatMap fun s => hits s bs t
theorem seenB_nil (bs : List S5) (t : Nat) : seenB [] bs t = [] := rfl
theorem take_succ_getD (l : List S5) (k : Nat) (h : k < l.length) : l.take (k + 1) = l.take k ++ [l.getD k default] := by
  rw [List.take_succ_eq_append_getElem h]
  congr 2
  simp [List.getD_eq_getElem?_getD, h]
theorem seenB_step (ss bs : List S5) (t k : Nat) (h : k < ss.length) : seenB (ss.take (k + 1)) bs t = seenB (ss.take k) bs t ++ hits (ss.getD k default) bs t := by
  rw [take_succ_getD ss k h]
  simp [seenB]
/-- None of the first m meets it. -/
def Apart (s : S5) (bs : List S5) (m : Nat) : Prop := ∀ j, j < m → s.meets (bs.getD j default) = false
theorem Apart.zero (s : S5) (bs : List S5) : Apart s bs 0 := fun j hj => absurd hj (Nat.not_lt_zero j)
theorem Apart.step {s : S5} {bs : List S5} {m : Nat} (h : Apart s bs m) (k : s.meets (bs.getD m default) = false) : Apart s bs (m + 1) := fun j hj => by
  rcases Nat.lt_or_ge j m with h1 | h1
  · exact h j h1
  · obtain rfl : j = m := by omega
    exact k
theorem hits_none {s : S5} {bs : List S5} {t : Nat} (h : Apart s bs bs.length) : hits s bs t = [] := by
  have : bs.find? s.meets = none := List.find?_eq_none.2 fun r hr => by
    obtain ⟨j, hj, rfl⟩ := List.mem_iff_getElem.1 hr
    have := h j hj
    simpa [List.getD_eq_getElem?_getD, hj] using this
  simp [hits, this]
theorem find_first {s : S5} : ∀ {bs : List S5} {m : Nat}, Apart s bs m → m < bs.length → s.meets (bs.getD m default) = true → bs.find? s.meets = some (bs.getD m default)
  | [], m, _, hm, _ => absurd hm (Nat.not_lt_zero m)
  | r :: bs, 0, _, _, hk => by
    have hk' : s.meets r = true := by simpa using hk
    simp [List.find?_cons, hk']
  | r :: bs, m + 1, h, hm, hk => by
    have h0 : s.meets r = false := by simpa using h 0 (by omega)
    have h1 : Apart s bs m := fun j hj => by simpa using h (j + 1) (by omega)
    have := find_first h1 (by simpa using hm) (by simpa using hk)
    simp [List.find?_cons, h0, this]
theorem hits_some {s : S5} {bs : List S5} {t m : Nat} (h : Apart s bs m) (hm : m < bs.length) (k : s.meets (bs.getD m default) = true) : hits s bs t = [mixP s.p (bs.getD m default).p t] := by
  simp [hits, find_first h hm k]
theorem meets_yes {s r : S5} (h1 : s.ki = r.ki) (h2 : s.id = r.id) : s.meets r = true := by simp [S5.meets, h1, h2]
theorem meets_no1 {s r : S5} (h1 : ¬ s.ki = r.ki) : s.meets r = false := by simp [S5.meets, h1]
theorem meets_no2 {s r : S5} (h1 : ¬ s.id = r.id) : s.meets r = false := by simp [S5.meets, h1]
theorem hits_le (s : S5) (bs : List S5) (t : Nat) : (hits s bs t).length ≤ 1 := by
  unfold hits
  split <;> simp
theorem seenB_le (ss bs : List S5) (t : Nat) : (seenB ss bs t).length ≤ ss.length := by
  induction ss with
  | nil => simp [seenB]
  | cons s ss ih =>
    have := hits_le s bs t
    simp only [seenB, List.flatMap_cons, List.length_append, List.length_cons] at ih ⊢
    omega
end Go.Proofs.Ytjffkidfoapbjaa.Fl
