/- Proved: the document's Mark of a window with a row of its own. -/
import Derived.Test.YtidjnpfpbbffjaaScr3
namespace Go.Proofs.Ytidjnpfpbbffjaa.Scr
open Go.RowKit Go.Proofs.YtidjnpfpbbffjaaW.PrintWords Go.Proofs.YtidjnpfpbbffjaaW.PrintLast Go.Proofs.YtidjnpfpbbffjaaW.PrintMore
set_option linter.unusedVariables false
set_option linter.unusedSimpArgs false

/-- One number more: the row is kept or all that was there is. -/
theorem run_app1 {P : Program} (w : World) (base : Nat) (ty : TypeId) (i0 : TypeInfo) (ht : P.underlying 29 = some (.slice 24)) (hi : P.info? 24 = some i0) (hz0 : i0.zero = some (.int .u64 0)) (hz1 : i0.size = 1) (hz2 : i0.bytes = 8)
    (v : Value) (n : Nat) (xs : List Value) (hown : w.ownsRow base 24 1 v n xs) (a : Addr) (c : Nat) (y : Int) (hnews : w.cell? a = some (.int .u64 y)) (hl : (n + 1) * 8 ≤ 140737488355328) (hbase : base ≤ w.heap.size) :
    ∃ v' w', (Builtin.append_ #[29, 29] ty #[v, .slice (some a) 1 c]).run P w = .ok v' w' ∧ w'.ownsRow base 24 1 v' (n + 1) (xs ++ [.int .u64 y]) ∧ w.grownBy w' v.ownBlock ∧ ((v'.ownBlock = v.ownBlock ∧ v.ownBlock ≠ none) ∨ (v'.ownBlock = some w.heap.size ∧ Below w.heap.size w w')) := by
  have hn : ∀ j u, [Value.int .u64 y][j]? = some u → w.cell? (a.add j) = some u := by
    intro j u hu
    match j with
    | 0 =>
      have e : a.add 0 = a := by simp [Addr.add]
      rw [e, hnews]
      simpa using hu
    | j + 1 => simp at hu
  have h1 : ∀ u ∈ [Value.int .u64 y], u.oneCell' = true := by simp; rfl
  have hb : ∀ o, Below w.heap.size w (w.drew.alloc o) := fun o => ((Below.refl w.heap.size w).drew).alloc (Nat.le_refl _) o
  obtain ⟨v', w', hr, h2, h3, h4, h5⟩ := run_append_own_at (P := P) w base 29 ty 24 i0 (.int .u64 0) 1 8 ht hi hz0 hz1 hz2 rfl (by omega) v n xs hown a 1 c [.int .u64 y] rfl hn h1 (by simp only [maxLen]; omega) hl hbase
  refine ⟨v', w', hr, h2, h3, ?_⟩
  rcases hown.2 with ⟨rfl, rfl⟩ | ⟨g, cap, cur, rfl, hbg, hg, hnc, hcm, hcs, htake⟩
  · have hr2 := run_append_nil (P := P) w 29 ty 24 i0 (.int .u64 0) ht hi hz0 a 1 c [.int .u64 y] (by rw [hz1]; rfl) hn (by omega) (by omega) (by rw [hz2]; omega)
    rw [hr] at hr2
    injection hr2 with e1 e2
    subst e1 e2
    exact .inr ⟨rfl, hb _⟩
  · by_cases hroom : n + 1 ≤ cap
    · obtain ⟨w2, hr2, _, _⟩ := run_append_fits (P := P) w base 29 ty 24 i0 1 ht hi hz1 g n cap xs hown a 1 c [.int .u64 y] rfl hn h1 hroom
      rw [hr] at hr2
      injection hr2 with e1 e2
      subst e1 e2
      exact .inl ⟨rfl, by simp [Value.ownBlock]⟩
    · have holds : ∀ j u, xs[j]? = some u → w.cell? ((⟨g, 0, none⟩ : Addr).add j) = some u := hown.cells (g := g) rfl
      have hr2 := run_append_grow (P := P) w 29 ty 24 i0 (.int .u64 0) ht hi hz0 ⟨g, 0, none⟩ n cap xs (by rw [hown.1, hz1]) holds a 1 c [.int .u64 y] (by rw [hz1]; rfl) hn (by omega) (by omega) (growslice_fits (by omega) (by rw [hz2]; exact hl))
      rw [hr] at hr2
      injection hr2 with e1 e2
      subst e1 e2
      exact .inr ⟨rfl, hb _⟩
section
variable {P : Program} {ops : Array Oper} {rest : List Oper} {o : Oper} {a : Act} {Q : Exit → Act → World → Prop}
theorem wp_app1 {W : World} (base : Nat) (hgd : o.guard = none) (s x : Operand)
    (ho : o.op = .call { callee := .builtin .append, args := #[s, x], argTypes := #[29, 29] })
    (ht : P.underlying 29 = some (.slice 24)) (hinfo : (P.info? 24).map (fun i => (i.zero, i.size, i.bytes)) = some (some (.int .u64 0), 1, 8))
    (v : Value) (n : Nat) (xs : List Value) (y : Int) (hs : a.eval s = v) (hx : a.eval x = .slice (some ⟨W.heap.size, 0, none⟩) 1 1)
    (HO : W.ownsRow base 24 1 v n xs) (hbase : base ≤ W.heap.size) (hl : (n + 1) * 8 ≤ 140737488355328)
    (h : ∀ v1 w1, w1.ownsRow base 24 1 v1 (n + 1) (xs ++ [.int .u64 y]) → W.grownBy w1 v.ownBlock → ((v1.ownBlock = v.ownBlock ∧ v.ownBlock ≠ none) ∨ (∃ b, v1.ownBlock = some b ∧ W.heap.size ≤ b) ∧ Below W.heap.size W w1) → wpList P ops Q rest (a.put o.dst v1) w1) :
    wpList P ops Q (o :: rest) a (W.alloc (.cells #[.int .u64 y] 24)) := by
  obtain ⟨i0, hi, hzz⟩ := Option.map_eq_some_iff.1 hinfo
  simp only [Prod.mk.injEq] at hzz
  obtain ⟨hz0, hz1, hz2⟩ := hzz
  refine wpList_plain hgd fun K hK => ?_
  obtain ⟨v', w', hr, h2, h3, h5⟩ := run_app1 (P := P) (W.alloc (.cells #[.int .u64 y] 24)) base o.type i0 ht hi hz0 hz1 hz2 v n xs (HO.alloc _) ⟨W.heap.size, 0, none⟩ 1 y
    ((blk_cell (heap_alloc_new W (.cells #[.int .u64 y] 24)) 0).trans rfl) hl (by simp; omega)
  have hk := hK _ _ (h v' w' h2 (World.grownBy.trans (World.grownBy_alloc W _ _) h3) (h5.imp id fun ⟨e, hb⟩ => ⟨⟨_, e, by simp⟩, below_then ((Below.refl W.heap.size W).alloc (Nat.le_refl _) _) (by simp) hb⟩))
  unfold Oper.wp execOp
  simp only [ho, resolve, invoke, builtin, Sem.run_bind, Sem.run_pure, Result.andThen_ok, List.map_toArray, List.map_cons, List.map_nil, hs, hx, hr]
  exact hk
end


theorem own_slice {w : World} {base n : Nat} {e : TypeId} {v : Value} {xs : List Nat} (h : w.ownsRow base e 1 v n (encs (fun x : Nat => Value.int .u64 (x : Int)) xs)) : ∃ A c, v = .slice A n c := by
  obtain ⟨A, c, e, _⟩ := own_reads_of (d := 0) h
  exact ⟨A, c, e⟩
abbrev eu (x : Nat) : Value := .int .u64 (x : Int)
/-- A document's window whose row is its own. -/
structure DW (w : World) (B g : Nat) (v : Value) (T : List Nat) (top : Nat) : Prop where
  blk : w.heap[g]? = some (.cells #[v, .int .u64 (top : Int)] 31 (0, 0))
  own : w.ownsRow B 24 1 v T.length (encs eu T)
  ne : ∀ k, v.ownBlock = some k → k ≠ g
  len : T.length ≤ 1000
theorem add_plain' (g i j : Nat) : (⟨g, i, none⟩ : Addr).add j = ⟨g, i + j, none⟩ := by unfold Addr.add; split <;> simp_all
theorem DW.rw {w : World} {B g : Nat} {v : Value} {T : List Nat} {top : Nat} (h : DW w B g v T top) : ∃ A c, v = .slice A T.length c ∧ RW w g A c T top := by
  obtain ⟨A, c, rfl, hr⟩ := own_reads_of (d := 0) h.own
  refine ⟨A, c, rfl, ⟨h.blk, fun j hj => ?_, h.len⟩⟩
  obtain ⟨g2, c2, e, _, _⟩ := h.own.form (by omega)
  injection e with e1 e2 e3
  subst e1
  have hc := h.own.cells (g := g2) rfl j (eu T[j]) (by
    have := encs_get (enc := eu) (d := 0) T j hj
    rw [this]
    simp [List.getD_eq_getElem?_getD, hj])
  exact ⟨g2, 0, rfl, by rwa [add_plain'] at hc⟩
theorem own_lt {w : World} {base n size : Nat} {e : TypeId} {v : Value} {xs : List Value} (h : w.ownsRow base e size v n xs) : ∀ k, v.ownBlock = some k → k < w.heap.size ∧ base ≤ k := by
  intro k hk
  rcases h.2 with ⟨rfl, _⟩ | ⟨g, c, cur, rfl, hb, hr, _⟩
  · cases hk
  · cases hk
    exact ⟨blk_lt hr, hb⟩
theorem DW.only {w w1 : World} {S : Nat → Prop} {B g : Nat} {v : Value} {T : List Nat} {top : Nat} (h : DW w B g v T top) (hO : Only w w1 S) (h1 : ¬ S g) (h2 : ∀ k, v.ownBlock = some k → ¬ S k) : DW w1 B g v T top :=
  ⟨hO.blk h.blk h1, hO.own h.own h2, h.ne, h.len⟩
theorem DW.below {w w1 : World} {B g : Nat} {v : Value} {T : List Nat} {top : Nat} (h : DW w B g v T top) (hb : Below w.heap.size w w1) : DW w1 B g v T top :=
  h.only (Only.of_below hb (fun _ => False)) (fun h => h) (fun _ _ h => h)
theorem DW.lt {w : World} {B g : Nat} {v : Value} {T : List Nat} {top : Nat} (h : DW w B g v T top) : g < w.heap.size := blk_lt h.blk
theorem only_grown {w w1 : World} {v : Value} (hg : w.grownBy w1 v.ownBlock) : Only w w1 (fun k => v.ownBlock = some k) := ⟨hg.os, hg.tape, hg.output, hg.size, fun k hk hs => hg.block k hk (fun e => hs e.symm)⟩

set_option maxHeartbeats 2000000 in
set_option maxRecDepth 100000 in
theorem rmark_stay (B g : Nat) (v : Value) (T : List Nat) (top s : Nat) (r : Int) (ht : top < 18446744073709551616) (hs : s < 18446744073709551616) (w : World) (h : DW w B g v T top) (hC : rcheck T top s = r) (hr : r ≠ 0) : Calls Try.prog 17 #[.pointer (some ⟨g, 0, none⟩), .int .u64 (s : Int)] w fun e w' => e = .returned (.int .i64 r) ∧ w' = w := by
  have hu36 := Try.underlying36
  obtain ⟨A, c, rfl, hR⟩ := h.rw
  have c1 : (r == 0) = false := beq_eq_false_iff_ne.mpr hr
  have c2 : (r != 0) = true := bne_iff_ne.mpr hr
  have HC := Aside0.mk hC
  clear hC hr
  go_enter Try.func17, Try.ntmps17
  go_wp2_with (first
    | (go_at_call 14; refine (rcheck_calls g A c T top s ht hs _ hR).mono ?_; rintro e w1 ⟨rfl, ew⟩; rw [HC.out]; subst ew))
  go_ret
  exact ⟨rfl, rfl⟩

set_option maxHeartbeats 4000000 in
set_option maxRecDepth 100000 in
theorem rmark_up (B g : Nat) (v : Value) (T : List Nat) (top s : Nat) (ht : top < 18446744073709551616) (hs : s < 18446744073709551616) (w : World) (h : DW w B g v T top) (hBw : B ≤ w.heap.size) (hC : rcheck T top s = 0) (hlt : top < s) (hlen : T.length < 1000) : Calls Try.prog 17 #[.pointer (some ⟨g, 0, none⟩), .int .u64 (s : Int)] w fun e w' => ∃ v', e = .returned (.int .i64 0) ∧ DW w' B g v' (T ++ [s]) s ∧ Only w w' (fun k => k = g ∨ v.ownBlock = some k) ∧ (v'.ownBlock = v.ownBlock ∨ ∃ b, v'.ownBlock = some b ∧ w.heap.size ≤ b) := by
  have hu36 := Try.underlying36
  have hu31 := Try.underlying31
  have hu29 := Try.underlying29
  have hu24 := Try.underlying24
  obtain ⟨A, c, rfl, hR⟩ := h.rw
  have c3 : decide ((top : Int) < (s : Int)) = true := decide_eq_true (Int.ofNat_lt.mpr hlt)
  have HC := Aside0.mk hC
  clear hC
  have hc0 := blk_cell h.blk 0
  have hf0 := blk_frozen h.blk 0
  have hc1 := blk_cell h.blk 1
  have hf1 := blk_frozen h.blk 1
  simp only [List.getElem?_toArray, List.getElem?_cons_zero, List.getElem?_cons_succ] at hc0 hc1
  go_enter Try.func17, Try.ntmps17
  go_wp2_with (first
    | (go_at_call 14; refine (rcheck_calls g A c T top s ht hs _ hR).mono ?_; rintro e w1 ⟨rfl, ew⟩; rw [HC.out]; have ew := ew.symm; subst ew)
    | (at_builtin; refine wp_app1 B rfl (.tmp 16) (.tmp 18) rfl Try.underlying29 (by kernel_rfl) _ T.length (encs eu T) s rfl rfl h.own hBw (by omega) ?_; intro v1 w1 ho hg hat; rw [← show encs eu (T ++ [s]) = encs eu T ++ [Value.int .u64 (s : Int)] from encs_append _ _] at ho; obtain ⟨A1, cap1, rfl⟩ := own_slice ho; have hb := blk_grown h.blk hg (fun e => h.ne g e.symm rfl); clear hc0 hf0 hc1 hf1; have hc0 := blk_cell hb 0; have hf0 := blk_frozen hb 0; have hc1 := blk_cell hb 1; have hf1 := blk_frozen hb 1; simp only [List.getElem?_toArray, List.getElem?_cons_zero, List.getElem?_cons_succ] at hc0 hc1))
  go_ret
  have hb2 : ((w1.setCell ⟨g, 0, none⟩ (.slice A1 (T.length + 1) cap1)).setCell ⟨g, 1, none⟩ (.int .u64 (s : Int))).heap[g]? = some (.cells #[.slice A1 (T.length + 1) cap1, .int .u64 (s : Int)] 31 (0, 0)) := by simpa using blk_set (blk_set hb 0 (.slice A1 (T.length + 1) cap1)) 1 (.int .u64 (s : Int))
  have hO : Only w ((w1.setCell ⟨g, 0, none⟩ (.slice A1 (T.length + 1) cap1)).setCell ⟨g, 1, none⟩ (.int .u64 (s : Int))) (fun k => k = g ∨ (Value.slice A T.length c).ownBlock = some k) := (((only_grown hg).mono (fun k e => .inr e)).set (.inl rfl)).set (.inl rfl)
  have hn1 : ∀ k, (Value.slice A1 (T.length + 1) cap1).ownBlock = some k → k ≠ g := fun k hk e => by
    rcases hat with ⟨e1, _⟩ | ⟨⟨b, e1, hbb⟩, _⟩
    · exact h.ne k (e1 ▸ hk) e
    · rw [hk] at e1
      injection e1 with e1
      have := h.lt
      omega
  have hown : w1.ownsRow B 24 1 (.slice A1 (T.length + 1) cap1) (T ++ [s]).length (encs eu (T ++ [s])) := by
    rw [List.length_append]
    exact ho
  refine ⟨_, rfl, ⟨hb2, ?_, hn1, by simp; omega⟩, hO, hat.imp (fun e => e.1) (fun e => e.1)⟩
  exact (show Only w1 ((w1.setCell ⟨g, 0, none⟩ (.slice A1 (T.length + 1) cap1)).setCell ⟨g, 1, none⟩ (.int .u64 (s : Int))) (fun k => k = g) from ((Only.refl w1 (fun k => k = g)).set rfl).set rfl).own hown (fun k hk e => hn1 k hk e)

set_option maxHeartbeats 4000000 in
set_option maxRecDepth 100000 in
theorem rmark_down (B g : Nat) (v : Value) (T : List Nat) (top s : Nat) (ht : top < 18446744073709551616) (hs : s < 18446744073709551616) (w : World) (h : DW w B g v T top) (hBw : B ≤ w.heap.size) (hC : rcheck T top s = 0) (hlt : ¬ top < s) (hlen : T.length < 1000) : Calls Try.prog 17 #[.pointer (some ⟨g, 0, none⟩), .int .u64 (s : Int)] w fun e w' => ∃ v', e = .returned (.int .i64 0) ∧ DW w' B g v' (T ++ [s]) top ∧ Only w w' (fun k => k = g ∨ v.ownBlock = some k) ∧ (v'.ownBlock = v.ownBlock ∨ ∃ b, v'.ownBlock = some b ∧ w.heap.size ≤ b) := by
  have hu36 := Try.underlying36
  have hu31 := Try.underlying31
  have hu29 := Try.underlying29
  have hu24 := Try.underlying24
  obtain ⟨A, c, rfl, hR⟩ := h.rw
  have c3 : decide ((top : Int) < (s : Int)) = false := decide_eq_false (by omega)
  have HC := Aside0.mk hC
  clear hC
  have hc0 := blk_cell h.blk 0
  have hf0 := blk_frozen h.blk 0
  have hc1 := blk_cell h.blk 1
  have hf1 := blk_frozen h.blk 1
  simp only [List.getElem?_toArray, List.getElem?_cons_zero, List.getElem?_cons_succ] at hc0 hc1
  go_enter Try.func17, Try.ntmps17
  go_wp2_with (first
    | (go_at_call 14; refine (rcheck_calls g A c T top s ht hs _ hR).mono ?_; rintro e w1 ⟨rfl, ew⟩; rw [HC.out]; have ew := ew.symm; subst ew)
    | (at_builtin; refine wp_app1 B rfl (.tmp 16) (.tmp 18) rfl Try.underlying29 (by kernel_rfl) _ T.length (encs eu T) s rfl rfl h.own hBw (by omega) ?_; intro v1 w1 ho hg hat; rw [← show encs eu (T ++ [s]) = encs eu T ++ [Value.int .u64 (s : Int)] from encs_append _ _] at ho; obtain ⟨A1, cap1, rfl⟩ := own_slice ho; have hb := blk_grown h.blk hg (fun e => h.ne g e.symm rfl); clear hc0 hf0 hc1 hf1; have hc0 := blk_cell hb 0; have hf0 := blk_frozen hb 0; have hc1 := blk_cell hb 1; have hf1 := blk_frozen hb 1; simp only [List.getElem?_toArray, List.getElem?_cons_zero, List.getElem?_cons_succ] at hc0 hc1))
  go_ret
  have hb2 : (w1.setCell ⟨g, 0, none⟩ (.slice A1 (T.length + 1) cap1)).heap[g]? = some (.cells #[.slice A1 (T.length + 1) cap1, .int .u64 (top : Int)] 31 (0, 0)) := by simpa using blk_set hb 0 (.slice A1 (T.length + 1) cap1)
  have hO : Only w (w1.setCell ⟨g, 0, none⟩ (.slice A1 (T.length + 1) cap1)) (fun k => k = g ∨ (Value.slice A T.length c).ownBlock = some k) := ((only_grown hg).mono (fun k e => .inr e)).set (.inl rfl)
  have hn1 : ∀ k, (Value.slice A1 (T.length + 1) cap1).ownBlock = some k → k ≠ g := fun k hk e => by
    rcases hat with ⟨e1, _⟩ | ⟨⟨b, e1, hbb⟩, _⟩
    · exact h.ne k (e1 ▸ hk) e
    · rw [hk] at e1
      injection e1 with e1
      have := h.lt
      omega
  have hown : w1.ownsRow B 24 1 (.slice A1 (T.length + 1) cap1) (T ++ [s]).length (encs eu (T ++ [s])) := by
    rw [List.length_append]
    exact ho
  refine ⟨_, rfl, ⟨hb2, ?_, hn1, by simp; omega⟩, hO, hat.imp (fun e => e.1) (fun e => e.1)⟩
  exact (show Only w1 (w1.setCell ⟨g, 0, none⟩ (.slice A1 (T.length + 1) cap1)) (fun k => k = g) from (Only.refl w1 (fun k => k = g)).set rfl).own hown (fun k hk e => hn1 k hk e)
end Go.Proofs.Ytidjnpfpbbffjaa.Scr
