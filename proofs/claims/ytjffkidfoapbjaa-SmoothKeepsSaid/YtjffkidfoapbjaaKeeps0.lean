/- Proved: words for SmoothKeeps: lists of places written full with a mark and lengthened; rows of lists. -/
import Derived.Test.YtjffkidfoapbjaaLent
import Derived.Test.YtjffkidfoapbjaaBetw
import Derived.Test.YtjffkidfoapbjaaAlive
import Derived.Laws.OwnMore
namespace Go.Proofs.Ytjffkidfoapbjaa.Fl
open Go.RowKit Go.Proofs.YtjffkidfoapbjaaW.PrintWords Go.Proofs.YtjffkidfoapbjaaW.PrintLast Go.Proofs.YtjffkidfoapbjaaW.PrintMore
set_option linter.unusedVariables false
set_option linter.unusedSimpArgs false

/-- Every block of places is kept. -/
def K24 (w w' : World) : Prop := ∀ (g : Nat) (cur : Array Value), w.heap[g]? = some (.cells cur 24 (0, 0)) → w'.heap[g]? = some (.cells cur 24 (0, 0))
theorem K24.of_below {w w' : World} (h : Below w.heap.size w w') : K24 w w' := fun g cur hg => blk_below hg h
theorem K24.trans {a b c : World} (h : K24 a b) (k : K24 b c) : K24 a c := fun g cur hg => k g cur (h g cur hg)
theorem K24.refl (a : World) : K24 a a := fun g cur hg => hg
theorem K24.drew {a b : World} (h : K24 a b) : K24 a b.drew := h
/-- What is written is a row of lists. -/
theorem K24.grown51 {w w' : World} {base n : Nat} {v : Value} {xs : List Value} (ho : w.ownsRow base 51 1 v n xs) (hg : w.grownBy w' v.ownBlock) : K24 w w' := fun g cur h => by
  refine (hg.block g (blk_lt h) ?_).trans h
  exact own_ne ho h (by decide)
/-- What is written is a row of places that was not there. -/
theorem K24.grown24 {wk w w' : World} {base n : Nat} {v : Value} {xs : List Value} (hk : K24 wk w) (ho : w.ownsRow base 24 3 v n xs) (hb : wk.heap.size ≤ base) (hg : w.grownBy w' v.ownBlock) : K24 wk w' := fun g cur h => by
  have h1 := hk g cur h
  refine (hg.block g (blk_lt h1) fun e => ?_).trans h1
  have := own_base ho g e.symm
  have := blk_lt h
  omega
/-- A list of n places, each the mark m. -/
structure Full (w : World) (v : Value) (n : Nat) (m : P3) : Prop where mk :: (out : ∃ A c, v = .slice A n c ∧ (0 < n → ∃ g cur, A = some ⟨g, 0, none⟩ ∧ w.heap[g]? = some (.cells cur 24 (0, 0)) ∧ ∀ i, i < n → At w ⟨g, i * 3, none⟩ m.cs))
theorem at_kept {w w' : World} {g o : Nat} {cs : List Value} {t : TypeId} {cur : Array Value} (h : At w ⟨g, o, none⟩ cs) (hg : w.heap[g]? = some (.cells cur t (0, 0))) (hg' : w'.heap[g]? = some (.cells cur t (0, 0))) : At w' ⟨g, o, none⟩ cs := ⟨fun j v hj => by
  have hc := h.out j v hj
  have e : ∀ x : World, x.heap[g]? = some (.cells cur t (0, 0)) → x.cell? ((⟨g, o, none⟩ : Addr).add j) = cur[o + j]? := fun x hx => by
    by_cases hj0 : j = 0
    · subst hj0
      rw [show (⟨g, o, none⟩ : Addr).add 0 = ⟨g, o, none⟩ by simp [Addr.add], blk_cell hx]
      rfl
    · rw [show (⟨g, o, none⟩ : Addr).add j = ⟨g, o + j, none⟩ by unfold Addr.add; simp [hj0], blk_cell hx]
  rw [e w hg] at hc
  rw [e w' hg', hc]⟩
theorem Full.kept {w w' : World} {v : Value} {n : Nat} {m : P3} (h : Full w v n m) (k : K24 w w') : Full w' v n m := by
  obtain ⟨A, c, e, hr⟩ := h.out
  refine ⟨A, c, e, fun h0 => ?_⟩
  obtain ⟨g, cur, eA, hg, hc⟩ := hr h0
  exact ⟨g, cur, eA, k g cur hg, fun i hi => at_kept (hc i hi) hg (k g cur hg)⟩
theorem Full.below {w w' : World} {v : Value} {n : Nat} {m : P3} (h : Full w v n m) (k : Below w.heap.size w w') : Full w' v n m := h.kept (.of_below k)
theorem rep_get (n i : Nat) (m : P3) (h : i < n) : (List.replicate n m).getD i default = m := by simp [List.getD_eq_getElem?_getD, h]
theorem full_of_own {w : World} {base n : Nat} {v : Value} {m : P3} (h : w.ownsRow base 24 3 v n (rowP (List.replicate n m))) : Full w v n m := by
  rcases h.2 with ⟨rfl, h0⟩ | ⟨g, cap, cur, rfl, hb, hg, hle, _⟩
  · exact ⟨none, 0, by rw [h0], fun h1 => absurd h1 (by omega)⟩
  · refine ⟨_, _, rfl, fun _ => ⟨g, cur, rfl, hg, fun i hi => ⟨fun j u hj => ?_⟩⟩⟩
    have hj3 : j < 3 := (List.getElem?_eq_some_iff.1 hj).1
    have hc := h.cells (g := g) rfl (i * 3 + j) u (by rw [rowP_get _ i j (by simp; exact hi) hj3, rep_get n i m hi, hj])
    rw [add_plain] at hc
    by_cases hj0 : j = 0
    · subst hj0
      rw [show (⟨g, i * 3, none⟩ : Addr).add 0 = ⟨g, i * 3, none⟩ by simp [Addr.add]]
      exact hc
    · rw [show (⟨g, i * 3, none⟩ : Addr).add j = ⟨g, i * 3 + j, none⟩ by unfold Addr.add; simp [hj0]]
      exact hc

/-- One place more: the row is kept, or all that was there is. -/
theorem run_app3 {P : Program} (w : World) (base : Nat) (ty : TypeId) (i0 : TypeInfo) (ht : P.underlying 51 = some (.slice 24)) (hi : P.info? 24 = some i0) (hz0 : i0.zero = some (.agg #[.float .f32 0, .float .f32 0, .float .f32 0])) (hz1 : i0.size = 3) (hz2 : i0.bytes = 12)
    (v : Value) (n : Nat) (xs : List Value) (hown : w.ownsRow base 24 3 v n xs) (a : Addr) (c : Nat) (m : P3) (hn : ∀ j u, m.cs[j]? = some u → w.cell? (a.add j) = some u) (hl : (n + 1) * 12 ≤ 140737488355328) (hbase : base ≤ w.heap.size) :
    ∃ v' w', (Builtin.append_ #[51, 51] ty #[v, .slice (some a) 1 c]).run P w = .ok v' w' ∧ w'.ownsRow base 24 3 v' (n + 1) (xs ++ m.cs) ∧ w.grownBy w' v.ownBlock ∧ ((v'.ownBlock = v.ownBlock ∧ v.ownBlock ≠ none) ∨ (v'.ownBlock = some w.heap.size ∧ Below w.heap.size w w')) := by
  have h1 : ∀ u ∈ m.cs, u.oneCell' = true := by simp [P3.cs]; exact ⟨rfl, rfl, rfl⟩
  have hb : ∀ o, Below w.heap.size w (w.drew.alloc o) := fun o => ((Below.refl w.heap.size w).drew).alloc (Nat.le_refl _) o
  obtain ⟨v', w', hr, h2, h3, h4, h5⟩ := run_append_own_at (P := P) w base 51 ty 24 i0 _ 3 12 ht hi hz0 hz1 hz2 rfl (by omega) v n xs hown a 1 c m.cs rfl hn h1 (by simp only [maxLen]; omega) hl hbase
  refine ⟨v', w', hr, h2, h3, ?_⟩
  rcases hown.2 with ⟨rfl, rfl⟩ | ⟨g, cap, cur, rfl, hbg, hg, hnc, hcm, hcs, htake⟩
  · have hr2 := run_append_nil (P := P) w 51 ty 24 i0 _ ht hi hz0 a 1 c m.cs (by rw [hz1]; rfl) hn (by omega) (by omega) (by rw [hz2]; omega)
    rw [hr] at hr2
    injection hr2 with e1 e2
    subst e1 e2
    exact .inr ⟨rfl, hb _⟩
  · by_cases hroom : n + 1 ≤ cap
    · obtain ⟨w2, hr2, _, _⟩ := run_append_fits (P := P) w base 51 ty 24 i0 3 ht hi hz1 g n cap xs hown a 1 c m.cs rfl hn h1 hroom
      rw [hr] at hr2
      injection hr2 with e1 e2
      subst e1 e2
      exact .inl ⟨rfl, by simp [Value.ownBlock]⟩
    · have holds : ∀ j u, xs[j]? = some u → w.cell? ((⟨g, 0, none⟩ : Addr).add j) = some u := hown.cells (g := g) rfl
      have hr2 := run_append_grow (P := P) w 51 ty 24 i0 _ ht hi hz0 ⟨g, 0, none⟩ n cap xs (by rw [hown.1, hz1]) holds a 1 c m.cs (by rw [hz1]; rfl) hn (by omega) (by omega) (growslice_fits (by omega) (by rw [hz2]; exact hl))
      rw [hr] at hr2
      injection hr2 with e1 e2
      subst e1 e2
      exact .inr ⟨rfl, hb _⟩
section
variable {P : Program} {ops : Array Oper} {rest : List Oper} {o : Oper} {a : Act} {Q : Exit → Act → World → Prop}
theorem wp_app3 {W : World} (base : Nat) (hgd : o.guard = none) (s x : Operand)
    (ho : o.op = .call { callee := .builtin .append, args := #[s, x], argTypes := #[51, 51] })
    (ht : P.underlying 51 = some (.slice 24)) (hinfo : (P.info? 24).map (fun i => (i.zero, i.size, i.bytes)) = some (some (.agg #[.float .f32 0, .float .f32 0, .float .f32 0]), 3, 12))
    (v : Value) (n : Nat) (xs : List Value) (m : P3) (hs : a.eval s = v) (hx : a.eval x = .slice (some ⟨W.heap.size, 0, none⟩) 1 1)
    (HO : W.ownsRow base 24 3 v n xs) (hbase : base ≤ W.heap.size) (hl : (n + 1) * 12 ≤ 140737488355328)
    (h : ∀ v1 w1, w1.ownsRow base 24 3 v1 (n + 1) (xs ++ m.cs) → W.grownBy w1 v.ownBlock → ((v1.ownBlock = v.ownBlock ∧ v.ownBlock ≠ none) ∨ (∃ b, v1.ownBlock = some b ∧ W.heap.size ≤ b) ∧ Below W.heap.size W w1) → wpList P ops Q rest (a.put o.dst v1) w1) :
    wpList P ops Q (o :: rest) a (W.alloc (.cells #[.float .f32 m.x, .float .f32 m.y, .float .f32 m.a] 24)) := by
  obtain ⟨i0, hi, hzz⟩ := Option.map_eq_some_iff.1 hinfo
  simp only [Prod.mk.injEq] at hzz
  obtain ⟨hz0, hz1, hz2⟩ := hzz
  refine wpList_plain hgd fun K hK => ?_
  obtain ⟨v', w', hr, h2, h3, h5⟩ := run_app3 (P := P) (W.alloc (.cells #[.float .f32 m.x, .float .f32 m.y, .float .f32 m.a] 24)) base o.type i0 ht hi hz0 hz1 hz2 v n xs (HO.alloc _) ⟨W.heap.size, 0, none⟩ 1 m
    (At.of_blk (cs := m.cs) (heap_alloc_new W (.cells #[.float .f32 m.x, .float .f32 m.y, .float .f32 m.a] 24))).out hl (by simp; omega)
  have hk := hK _ _ (h v' w' h2 (World.grownBy.trans (World.grownBy_alloc W _ _) h3) (h5.imp id fun ⟨e, hb⟩ => ⟨⟨_, e, by simp⟩, below_then ((Below.refl W.heap.size W).alloc (Nat.le_refl _) _) (by simp) hb⟩))
  unfold Oper.wp execOp
  simp only [ho, resolve, invoke, builtin, Sem.run_bind, Sem.run_pure, Result.andThen_ok, List.map_toArray, List.map_cons, List.map_nil, hs, hx, hr]
  exact hk
end
theorem rowP_rep (n : Nat) (m : P3) : rowP (List.replicate n m) ++ m.cs = rowP (List.replicate (n + 1) m) := by rw [rowP_snoc, List.replicate_succ']
/-- The short list stays full while the long one grows. -/
theorem Full.app {w w1 : World} {base N n : Nat} {v v1 vs : Value} {m : P3} (h : Full w vs n m) (ho : w1.ownsRow base 24 3 v1 (N + 1) (rowP (List.replicate (N + 1) m))) (hn : n ≤ N) (hg : w.grownBy w1 v.ownBlock) (hat : (v1.ownBlock = v.ownBlock ∧ v.ownBlock ≠ none) ∨ (∃ b, v1.ownBlock = some b ∧ w.heap.size ≤ b) ∧ Below w.heap.size w w1) : Full w1 vs n m := by
  obtain ⟨A, c, e, hr⟩ := h.out
  refine ⟨A, c, e, fun h0 => ?_⟩
  obtain ⟨g, cur, eA, hgg, hc⟩ := hr h0
  by_cases e1 : v.ownBlock = some g
  · rcases hat with ⟨e2, _⟩ | ⟨_, hb⟩
    · obtain ⟨A', c', e3, hr'⟩ := (full_of_own ho).out
      obtain ⟨g', cur', eA', hg', hc'⟩ := hr' (by omega)
      have : g' = g := by
        rw [e3, eA'] at e2
        rw [e1] at e2
        simpa [Value.ownBlock] using e2
      subst this
      exact ⟨g', cur', eA, hg', fun i hi => hc' i (by omega)⟩
    · exact ⟨g, cur, eA, blk_below hgg hb, fun i hi => (hc i hi).below hb⟩
  · have hk : w1.heap[g]? = some (.cells cur 24 (0, 0)) := (hg.block g (blk_lt hgg) (fun e2 => e1 e2.symm)).trans hgg
    exact ⟨g, cur, eA, hk, fun i hi => at_kept (hc i hi) hgg hk⟩

/-! ### Two rows of lists -/
def Sep (v1 v2 : Value) : Prop := ∀ k, v1.ownBlock = some k → v2.ownBlock ≠ some k
theorem Sep.symm {v1 v2 : Value} (h : Sep v1 v2) : Sep v2 v1 := fun k hk e => h k e hk
theorem Sep.app {w : World} {v1 v2 v2' : Value} (h : Sep v1 v2) (hat : v2'.ownBlock = v2.ownBlock ∨ ∃ b, v2'.ownBlock = some b ∧ w.heap.size ≤ b) (hlt : ∀ k, v1.ownBlock = some k → k < w.heap.size) : Sep v1 v2' := fun k hk e => by
  rcases hat with e1 | ⟨b, e1, hb⟩
  · exact h k hk (e1.symm.trans e)
  · have := hlt k hk
    rw [e1] at e
    injection e with e
    omega
theorem Sep.none (v : Value) : Sep v (.slice none 0 0) := fun k _ e => by simp [Value.ownBlock] at e
theorem own_sep {w w1 : World} {b n size : Nat} {e : TypeId} {v v' : Value} {xs : List Value} (h : w.ownsRow b e size v n xs) (hg : w.grownBy w1 v'.ownBlock) (hs : Sep v v') : w1.ownsRow b e size v n xs := by
  refine own_other h hg ?_
  cases hv : v.ownBlock with
  | none => exact .inl rfl
  | some k => exact .inr (fun e => hs k hv e.symm)
theorem own_2451 {w w1 : World} {b b' n n' size size' : Nat} {v v' : Value} {xs xs' : List Value} (h : w.ownsRow b 24 size v n xs) (h' : w.ownsRow b' 51 size' v' n' xs') (hg : w.grownBy w1 v'.ownBlock) : w1.ownsRow b 24 size v n xs := own_other h hg (own_type_ne h h' (by decide))
theorem own_5124 {w w1 : World} {b b' n n' size size' : Nat} {v v' : Value} {xs xs' : List Value} (h : w.ownsRow b 51 size v n xs) (h' : w.ownsRow b' 24 size' v' n' xs') (hg : w.grownBy w1 v'.ownBlock) : w1.ownsRow b 51 size v n xs := own_other h hg (own_type_ne h h' (by decide))
theorem own_k24 {w w1 : World} {b n : Nat} {v : Value} {xs : List Value} (h : w.ownsRow b 24 3 v n xs) (k : K24 w w1) : w1.ownsRow b 24 3 v n xs := by
  obtain ⟨h1, h2⟩ := h
  refine ⟨h1, h2.imp id fun ⟨g, cap, cur, he, hb, hr, hrest⟩ => ⟨g, cap, cur, he, hb, k g cur hr, hrest⟩⟩
/-- The mark of a round. -/
def mkP (k : Nat) : P3 := ⟨floatOfInt .f32 ((k : Int) + 1), 0, 3239051264⟩
theorem mk_all : (List.range 4).all (fun k => nan (floatOfInt .f32 ((k : Int) + 1)) == false) = true := by kernel_rfl
theorem mk_nan (k : Nat) (h : k < 4) : nan (floatOfInt .f32 ((k : Int) + 1)) = false := by
  have := List.all_eq_true.1 mk_all k (by simp; omega)
  simpa using this
theorem nan_m9 : nan 3239051264 = false := by kernel_rfl
/-- What rounds have left: k lists and their longer ones, each full with its mark. -/
structure Olds (w : World) (n k : Nat) (la lm : List Value) : Prop where
  na : la.length = k
  nm : lm.length = k
  at_ : ∀ j, j < k → Full w (la.getD j undef) n (mkP j) ∧ Full w (lm.getD j undef) (n + 40) (mkP j)
theorem Olds.kept {w w' : World} {n k : Nat} {la lm : List Value} (h : Olds w n k la lm) (k' : K24 w w') : Olds w' n k la lm := ⟨h.na, h.nm, fun j hj => ⟨(h.at_ j hj).1.kept k', (h.at_ j hj).2.kept k'⟩⟩
theorem getD_last (l : List Value) (v : Value) {j k : Nat} (hl : l.length = k) (hj : j < k + 1) : (l ++ [v]).getD j undef = if j < k then l.getD j undef else v := by
  subst hl
  split
  · rename_i h
    rw [List.getD_eq_getElem?_getD, List.getD_eq_getElem?_getD, List.getElem?_append_left h]
  · have : j = l.length := by omega
    subst this
    simp [List.getD_eq_getElem?_getD]
theorem Olds.snoc {w : World} {n k : Nat} {la lm : List Value} {a m : Value} (h : Olds w n k la lm) (ha : Full w a n (mkP k)) (hm : Full w m (n + 40) (mkP k)) : Olds w n (k + 1) (la ++ [a]) (lm ++ [m]) := by
  refine ⟨by simp [h.na], by simp [h.nm], fun j hj => ?_⟩
  rw [getD_last la a h.na hj, getD_last lm m h.nm hj]
  split
  · rename_i h1; exact h.at_ j h1
  · have : j = k := by omega
    subst this
    exact ⟨ha, hm⟩
theorem Olds.zero (w : World) (n : Nat) : Olds w n 0 [] [] := ⟨rfl, rfl, fun j hj => absurd hj (Nat.not_lt_zero j)⟩
/-- A row of places filled up to i. -/
theorem fillP_set (i : Nat) (m : P3) (ps : List P3) (h : i < ps.length) : (((rowP (List.replicate i m ++ ps.drop i)).set (i * 3) (.float .f32 m.x)).set (i * 3 + 1) (.float .f32 m.y)).set (i * 3 + 2) (.float .f32 m.a) = rowP (List.replicate (i + 1) m ++ ps.drop (i + 1)) := by
  have h1 : (rowP (List.replicate i m)).length = i * 3 := by rw [rowP_len]; simp
  have e : rowP (List.replicate i m ++ ps.drop i) = rowP (List.replicate i m) ++ ((ps[i]).cs ++ rowP (ps.drop (i + 1))) := by
    have ea : ∀ A B : List P3, rowP (A ++ B) = rowP A ++ rowP B := fun A B => by simp [rowP]
    rw [ea, List.drop_eq_getElem_cons h]
    rfl
  have e2 : rowP (List.replicate (i + 1) m ++ ps.drop (i + 1)) = rowP (List.replicate i m) ++ (m.cs ++ rowP (ps.drop (i + 1))) := by
    rw [List.replicate_succ']
    simp [rowP]
  rw [e, e2]
  rw [List.set_append_right _ _ (by omega), List.set_append_right _ _ (by omega), List.set_append_right _ _ (by omega), h1]
  congr 1
  rw [show i * 3 - i * 3 = 0 by omega, show i * 3 + 1 - i * 3 = 1 by omega, show i * 3 + 2 - i * 3 = 2 by omega]
  rfl
theorem fillP_own {w : World} {base g n c i : Nat} {m : P3} {ps : List P3} (h : w.ownsRow base 24 3 (.slice (some ⟨g, 0, none⟩) n c) n (rowP (List.replicate i m ++ ps.drop i))) (hn : ps.length = n) (hi : i < n) :
    (((w.setCell ⟨g, i * 3, none⟩ (.float .f32 m.x)).setCell ⟨g, i * 3 + 1, none⟩ (.float .f32 m.y)).setCell ⟨g, i * 3 + 2, none⟩ (.float .f32 m.a)).ownsRow base 24 3 (.slice (some ⟨g, 0, none⟩) n c) n (rowP (List.replicate (i + 1) m ++ ps.drop (i + 1))) := by
  have h1 := (World.ownsRow.stored h (i * 3) (.float .f32 m.x)).1
  have h2 := (World.ownsRow.stored h1 (i * 3 + 1) (.float .f32 m.y)).1
  have h3 := (World.ownsRow.stored h2 (i * 3 + 2) (.float .f32 m.a)).1
  rwa [fillP_set i m ps (by omega)] at h3
theorem fillP_cell {w : World} {base g n c : Nat} {qs : List P3} (h : w.ownsRow base 24 3 (.slice (some ⟨g, 0, none⟩) n c) n (rowP qs)) (hq : qs.length = n) (i : Nat) (hi : i < n) : (∃ x y a, w.cell? ⟨g, i * 3, none⟩ = some (.float .f32 x) ∧ w.cell? ⟨g, i * 3 + 1, none⟩ = some (.float .f32 y) ∧ w.cell? ⟨g, i * 3 + 2, none⟩ = some (.float .f32 a)) ∧ w.frozen? ⟨g, i * 3, none⟩ = false ∧ w.frozen? ⟨g, i * 3 + 1, none⟩ = false ∧ w.frozen? ⟨g, i * 3 + 2, none⟩ = false := by
  have hc : ∀ j, j < 3 → w.cell? ⟨g, i * 3 + j, none⟩ = (qs.getD i default).cs[j]? := fun j hj => by
    rw [World.ownsRow.cellAt h (i * 3 + j) (by omega), rowP_get qs i j (by omega) hj]
  refine ⟨⟨_, _, _, hc 0 (by omega), hc 1 (by omega), hc 2 (by omega)⟩, World.ownsRow.frozenAt h _, World.ownsRow.frozenAt h _, World.ownsRow.frozenAt h _⟩
end Go.Proofs.Ytjffkidfoapbjaa.Fl
