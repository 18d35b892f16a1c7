/- Proved: rows of texts that are filled with a mark and lengthened. -/
import Derived.Test.YtlainhbmfphojaaTu2
namespace Go.Proofs.Ytlainhbmfphojaa.Tb
open Go.RowKit Go.Maps Go.Proofs.YtlainhbmfphojaaW.PrintWords Go.Proofs.YtlainhbmfphojaaW.PrintLast Go.Proofs.YtlainhbmfphojaaW.PrintMore
set_option linter.unusedVariables false
set_option linter.unusedSimpArgs false

theorem pw_cell_below' {w w' : World} (hb : Below w.heap.size w w') {p : Addr} {v : Value} (h : w.cell? p = some v) : w'.cell? p = some v := cell_below hb h
/-- One number more: the row is kept or all that was there is. -/
theorem run_app1 {P : Program} (w : World) (base : Nat) (ty : TypeId) (i0 : TypeInfo) (ht : P.underlying 22 = some (.slice 9)) (hi : P.info? 9 = some i0) (hz0 : i0.zero = some (.string ⟨#[]⟩)) (hz1 : i0.size = 1) (hz2 : i0.bytes = 16)
    (v : Value) (n : Nat) (xs : List Value) (hown : w.ownsRow base 9 1 v n xs) (a : Addr) (c : Nat) (y : ByteArray) (hnews : w.cell? a = some (.string y)) (hl : (n + 1) * 16 ≤ 140737488355328) (hbase : base ≤ w.heap.size) :
    ∃ v' w', (Builtin.append_ #[22, 22] ty #[v, .slice (some a) 1 c]).run P w = .ok v' w' ∧ w'.ownsRow base 9 1 v' (n + 1) (xs ++ [.string y]) ∧ w.grownBy w' v.ownBlock ∧ ((v'.ownBlock = v.ownBlock ∧ v.ownBlock ≠ none) ∨ (v'.ownBlock = some w.heap.size ∧ Below w.heap.size w w')) := by
  have hn : ∀ j u, [Value.string y][j]? = some u → w.cell? (a.add j) = some u := by
    intro j u hu
    match j with
    | 0 =>
      have e : a.add 0 = a := by simp [Addr.add]
      rw [e, hnews]
      simpa using hu
    | j + 1 => simp at hu
  have h1 : ∀ u ∈ [Value.string y], u.oneCell' = true := by simp; rfl
  have hb : ∀ o, Below w.heap.size w (w.drew.alloc o) := fun o => ((Below.refl w.heap.size w).drew).alloc (Nat.le_refl _) o
  obtain ⟨v', w', hr, h2, h3, h4, h5⟩ := run_append_own_at (P := P) w base 22 ty 9 i0 (.string ⟨#[]⟩) 1 16 ht hi hz0 hz1 hz2 rfl (by omega) v n xs hown a 1 c [.string y] rfl hn h1 (by simp only [maxLen]; omega) hl hbase
  refine ⟨v', w', hr, h2, h3, ?_⟩
  rcases hown.2 with ⟨rfl, rfl⟩ | ⟨g, cap, cur, rfl, hbg, hg, hnc, hcm, hcs, htake⟩
  · have hr2 := run_append_nil (P := P) w 22 ty 9 i0 (.string ⟨#[]⟩) ht hi hz0 a 1 c [.string y] (by rw [hz1]; rfl) hn (by omega) (by omega) (by rw [hz2]; omega)
    rw [hr] at hr2
    injection hr2 with e1 e2
    subst e1 e2
    exact .inr ⟨rfl, hb _⟩
  · by_cases hroom : n + 1 ≤ cap
    · obtain ⟨w2, hr2, _, _⟩ := run_append_fits (P := P) w base 22 ty 9 i0 1 ht hi hz1 g n cap xs hown a 1 c [.string y] rfl hn h1 hroom
      rw [hr] at hr2
      injection hr2 with e1 e2
      subst e1 e2
      exact .inl ⟨rfl, by simp [Value.ownBlock]⟩
    · have holds : ∀ j u, xs[j]? = some u → w.cell? ((⟨g, 0, none⟩ : Addr).add j) = some u := hown.cells (g := g) rfl
      have hr2 := run_append_grow (P := P) w 22 ty 9 i0 (.string ⟨#[]⟩) ht hi hz0 ⟨g, 0, none⟩ n cap xs (by rw [hown.1, hz1]) holds a 1 c [.string y] (by rw [hz1]; rfl) hn (by omega) (by omega) (growslice_fits (by omega) (by rw [hz2]; exact hl))
      rw [hr] at hr2
      injection hr2 with e1 e2
      subst e1 e2
      exact .inr ⟨rfl, hb _⟩
section
variable {P : Program} {ops : Array Oper} {rest : List Oper} {o : Oper} {a : Act} {Q : Exit → Act → World → Prop}
theorem wp_app1 {W : World} (base : Nat) (hgd : o.guard = none) (s x : Operand)
    (ho : o.op = .call { callee := .builtin .append, args := #[s, x], argTypes := #[22, 22] })
    (ht : P.underlying 22 = some (.slice 9)) (hinfo : (P.info? 9).map (fun i => (i.zero, i.size, i.bytes)) = some (some (.string ⟨#[]⟩), 1, 16))
    (v : Value) (n : Nat) (xs : List Value) (y : ByteArray) (hs : a.eval s = v) (hx : a.eval x = .slice (some ⟨W.heap.size, 0, none⟩) 1 1)
    (HO : W.ownsRow base 9 1 v n xs) (hbase : base ≤ W.heap.size) (hl : (n + 1) * 16 ≤ 140737488355328)
    (h : ∀ v1 w1, w1.ownsRow base 9 1 v1 (n + 1) (xs ++ [.string y]) → W.grownBy w1 v.ownBlock → ((v1.ownBlock = v.ownBlock ∧ v.ownBlock ≠ none) ∨ (∃ b, v1.ownBlock = some b ∧ W.heap.size ≤ b) ∧ Below W.heap.size W w1) → wpList P ops Q rest (a.put o.dst v1) w1) :
    wpList P ops Q (o :: rest) a (W.alloc (.cells #[.string y] 9)) := by
  obtain ⟨i0, hi, hzz⟩ := Option.map_eq_some_iff.1 hinfo
  simp only [Prod.mk.injEq] at hzz
  obtain ⟨hz0, hz1, hz2⟩ := hzz
  refine wpList_plain hgd fun K hK => ?_
  obtain ⟨v', w', hr, h2, h3, h5⟩ := run_app1 (P := P) (W.alloc (.cells #[.string y] 9)) base o.type i0 ht hi hz0 hz1 hz2 v n xs (HO.alloc _) ⟨W.heap.size, 0, none⟩ 1 y
    ((blk_cell (heap_alloc_new W (.cells #[.string y] 9)) 0).trans rfl) hl (by simp; omega)
  have hk := hK _ _ (h v' w' h2 (World.grownBy.trans (World.grownBy_alloc W _ _) h3) (h5.imp id fun ⟨e, hb⟩ => ⟨⟨_, e, by simp⟩, below_then ((Below.refl W.heap.size W).alloc (Nat.le_refl _) _) (by simp) hb⟩))
  unfold Oper.wp execOp
  simp only [ho, resolve, invoke, builtin, Sem.run_bind, Sem.run_pure, Result.andThen_ok, List.map_toArray, List.map_cons, List.map_nil, hs, hx, hr]
  exact hk
end

/-- A list that was filled with a mark c (its block gx, its length nx), and the longer one that began as it. -/
structure LX (w : World) (b gx nx m : Nat) (c : ByteArray) (vl : Value) : Prop where
  own : w.ownsRow b 9 1 vl (nx + m) (encs eS (List.replicate (nx + m) c))
  cells : ∀ i, i < nx → w.cell? ⟨gx, i, none⟩ = some (.string c)
  lt : 0 < nx → gx < w.heap.size
theorem LX.app {w w1 : World} {b gx nx m : Nat} {c : ByteArray} {vl v1 : Value} (h : LX w b gx nx m c vl) (ho : w1.ownsRow b 9 1 v1 (nx + m + 1) (encs eS (List.replicate (nx + m) c) ++ [.string c])) (hg : w.grownBy w1 vl.ownBlock) (hat : (v1.ownBlock = vl.ownBlock ∧ vl.ownBlock ≠ none) ∨ (∃ b, v1.ownBlock = some b ∧ w.heap.size ≤ b) ∧ Below w.heap.size w w1) : LX w1 b gx nx (m + 1) c v1 := by
  have ho' : w1.ownsRow b 9 1 v1 (nx + (m + 1)) (encs eS (List.replicate (nx + (m + 1)) c)) := by
    rw [← Nat.add_assoc, List.replicate_succ', encs_append]
    exact ho
  refine ⟨ho', fun i hi => ?_, fun h0 => Nat.lt_of_lt_of_le (h.lt h0) hg.size⟩
  have hlt := h.lt (by omega)
  by_cases e : vl.ownBlock = some gx
  · rcases hat with ⟨e1, _⟩ | ⟨_, hb⟩
    · have hc := ho'.cells (g := gx) (e1.trans e) i (.string c) (by
        have := encs_get (enc := eS) (d := ByteArray.empty) (List.replicate (nx + (m + 1)) c) i (by simp; omega)
        rw [this]
        simp [List.getD_eq_getElem?_getD, show i < nx + (m + 1) by omega])
      rwa [add_plain] at hc
    · exact pw_cell_below hb (h.cells i hi)
  · have hk := hg.block gx hlt (fun e2 => e e2.symm)
    have hc := h.cells i hi
    unfold World.cell? at hc ⊢
    rw [hk]
    exact hc
theorem LX.only {w w1 : World} {S : Nat → Prop} {b gx nx m : Nat} {c : ByteArray} {vl : Value} (h : LX w b gx nx m c vl) (hO : Only w w1 S) (h1 : ∀ k, vl.ownBlock = some k → ¬ S k) (h2 : 0 < nx → ¬ S gx) : LX w1 b gx nx m c vl :=
  ⟨hO.own h.own h1, fun i hi => by
    have hk := hO.block gx (h.lt (by omega)) (h2 (by omega))
    have hc := h.cells i hi
    unfold World.cell? at hc ⊢
    rw [hk]
    exact hc, fun h0 => Nat.lt_of_lt_of_le (h.lt h0) hO.size⟩
theorem fill_set (k : Nat) (c : ByteArray) (xs : List ByteArray) (h : k < xs.length) : (List.replicate k c ++ xs.drop k).set k c = List.replicate (k + 1) c ++ xs.drop (k + 1) := by
  rw [List.set_append_right _ _ (by simp), List.drop_eq_getElem_cons h, List.length_replicate, Nat.sub_self, List.set_cons_zero, List.replicate_succ', List.append_assoc]
  rfl
theorem fill_get (k : Nat) (c : ByteArray) (xs : List ByteArray) (h : k < xs.length) : (List.replicate k c ++ xs.drop k).getD k ByteArray.empty = xs.getD k ByteArray.empty := by
  rw [List.getD_eq_getElem?_getD, List.getElem?_append_right (by simp), List.length_replicate, Nat.sub_self, List.getElem?_drop]
  simp [List.getD_eq_getElem?_getD]
theorem LX.start {w : World} {b g n c : Nat} {A : Option Addr} {m : ByteArray} (h : w.ownsRow b 9 1 (.slice A n c) n (encs eS (List.replicate n m))) (hA : 0 < n → A = some ⟨g, 0, none⟩) : LX w b g n 0 m (.slice A n c) := by
  refine ⟨h, fun i hi => ?_, fun h0 => ?_⟩
  · have e := hA (by omega)
    subst e
    have := (own_at_of (d := ByteArray.empty) h (i : Int) (by omega) (by omega)).1
    simp only [Int.toNat_natCast, rdOf] at this
    rw [this]
    simp [List.getD_eq_getElem?_getD, hi]
  · have e := hA h0
    subst e
    exact own_lt h g rfl
end Go.Proofs.Ytlainhbmfphojaa.Tb
