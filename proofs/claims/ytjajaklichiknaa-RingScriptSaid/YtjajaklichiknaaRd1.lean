/- Proved: the walks of the document's ring: New, Push, Pop and At. -/
import Derived.Test.YtjajaklichiknaaRd0
namespace Go.Proofs.Ytjajaklichiknaa.Rg
open Go.RowKit Go.Proofs.YtjajaklichiknaaW.PrintWords Go.Proofs.YtjajaklichiknaaW.PrintLast Go.Proofs.YtjajaklichiknaaW.PrintMore
set_option linter.unusedVariables false
set_option linter.unusedSimpArgs false

/-- The document's ring at gd, of s at most, in the blocks S: the list q. -/
structure RD (w : World) (B gd s : Nat) (S : Nat → Prop) (q : List Int) : Prop where
  ex : ∃ v : Value, w.heap[gd]? = some (.cells #[v, .int .i64 (s : Int)] 73 (0, 0)) ∧ OQ w B v q ∧ v.ownBlock ≠ some gd ∧ B ≤ gd ∧ (0 < s ∧ s ≤ 4096 ∧ q.length ≤ s) ∧ S = fun k => k = gd ∨ v.ownBlock = some k
/-- What a step does to the blocks. -/
structure Nx (w w' : World) (S S' : Nat → Prop) : Prop where
  only : Only w w' S
  new : ∀ k, S' k → S k ∨ w.heap.size ≤ k
section
variable {w w' : World} {B gd s : Nat} {S S' : Nat → Prop} {q : List Int}
theorem RD.lt (h : RD w B gd s S q) : ∀ k, S k → B ≤ k ∧ k < w.heap.size := by
  obtain ⟨v, h1, h2, h3, h4, h5, rfl⟩ := h.ex
  rintro k (rfl | hk)
  · exact ⟨h4, blk_lt h1⟩
  · exact h2.lt k hk
theorem RD.size (h : RD w B gd s S q) : 0 < s ∧ s ≤ 4096 ∧ q.length ≤ s := by
  obtain ⟨v, h1, h2, h3, h4, h5, rfl⟩ := h.ex
  exact h5
theorem RD.only {T : Nat → Prop} (h : RD w B gd s S q) (hO : Only w w' T) (hs : ∀ k, S k → ¬ T k) : RD w' B gd s S q := by
  obtain ⟨v, h1, h2, h3, h4, h5, rfl⟩ := h.ex
  exact ⟨v, hO.blk h1 (hs gd (.inl rfl)), h2.only hO (fun k hk => hs k (.inr hk)), h3, h4, h5, rfl⟩
theorem RD.below (h : RD w B gd s S q) (hb : Below w.heap.size w w') : RD w' B gd s S q := h.only (Only.of_below hb (fun _ => False)) (fun _ _ q => q)
theorem RD.drawn (h : RD w B gd s S q) (hd : Drawn0 w w') : RD w' B gd s S q := h.below hd.below
theorem Nx.apart (h : Nx w w' S S') {k : Nat} (hk : ¬ S k) (hl : k < w.heap.size) : ¬ S' k := fun c => (h.new k c).elim hk (fun c => by omega)
end
/-- append onto such a row, in a walk. -/
theorem oq_append {P : Program} {ops : Array Oper} {Q : Exit → Act → World → Prop} {o : Oper} {rest : List Oper} {a : Act} {w : World} {base : Nat} {v : Value} {q : List Int} (hP : P = Try.prog) (hgd : o.guard = none) (s x : Operand) (ho : o.op = .call { callee := .builtin .append, args := #[s, x], argTypes := #[22, 22] })
    (ad : Addr) (c : Nat) (y : Int) (hs : a.eval s = v) (hx : a.eval x = .slice (some ad) 1 c) (h : OQ w base v q) (ha : w.cell? ad = some (ei y)) (hl : (q.length + 1) * 8 ≤ 140737488355328) (hbase : base ≤ w.heap.size)
    (k : ∀ v' w', OQ w' base v' (q ++ [y]) → w.grownBy w' v.ownBlock → (v'.ownBlock = v.ownBlock ∨ v'.ownBlock = some w.heap.size) → wpList P ops Q rest (a.put o.dst v') w') : wpList P ops Q (o :: rest) a w := by
  subst hP
  obtain ⟨v', w', hr, h1, h2, h3⟩ := h.push o.type ad c y ha hl hbase
  refine wpList_plain hgd fun K hK => ?_
  unfold Oper.wp execOp
  simp only [ho, resolve, invoke, builtin, Sem.run_bind, Sem.run_pure, Result.andThen_ok, List.map_toArray, List.map_cons, List.map_nil, hs, hx, hr]
  exact hK _ _ (k v' w' h1 h2 h3)
set_option maxHeartbeats 4000000 in
set_option maxRecDepth 100000 in
theorem rnew_bad (w : World) (n : Int) (h : n < 1 ∨ 4096 < n) : Calls Try.prog 30 #[.int .i64 n] w fun r w' => r = .returned (.tuple #[.pointer none, .int .i64 110]) ∧ w' = w := by
  have hu3 := Try.underlying3
  have hu22 := Try.underlying22
  have hu73 := Try.underlying73
  have hu53 := Try.underlying53
  by_cases c1 : n < 1
  · go_enter Try.func30, Try.ntmps30
    go_wp2_with fail
    go_ret2
    exact ⟨rfl, rfl⟩
  · have c2 : 4096 < n := by omega
    go_enter Try.func30, Try.ntmps30
    go_wp2_with fail
    go_ret2
    exact ⟨rfl, rfl⟩
set_option maxHeartbeats 4000000 in
set_option maxRecDepth 100000 in
theorem rnew_ok (w : World) (n : Nat) (h0 : 0 < n) (h1 : n ≤ 4096) : Calls Try.prog 30 #[.int .i64 (n : Int)] w fun r w' => ∃ gd S, r = .returned (.tuple #[.pointer (some ⟨gd, 0, none⟩), .int .i64 0]) ∧ RD w' w.heap.size gd n S [] ∧ Below w.heap.size w w' := by
  have hu3 := Try.underlying3
  have hu22 := Try.underlying22
  have hu73 := Try.underlying73
  have hu53 := Try.underlying53
  have c1 : ¬ (n : Int) < 1 := by omega
  have c2 : ¬ (4096 : Int) < n := by omega
  go_enter Try.func30, Try.ntmps30
  go_wp2_with fail
  go_ret2
  exact ⟨w.heap.size, rfl, ⟨_, ⟨.slice none 0 0, al_at w _, OQ.nil _ _, by simp [Value.ownBlock], Nat.le_refl _, ⟨h0, h1, Nat.zero_le _⟩, rfl⟩⟩, al_bel w _⟩
set_option maxHeartbeats 4000000 in
set_option maxRecDepth 100000 in
theorem rpush_full {w : World} {B gd s : Nat} {S : Nat → Prop} {q : List Int} (x : Int) (h : RD w B gd s S q) (hl : q.length = s) : Calls Try.prog 31 #[.pointer (some ⟨gd, 0, none⟩), .int .i64 x] w fun r w' => r = .returned (.int .i64 111) ∧ Drawn0 w w' := by
  have hu3 := Try.underlying3
  have hu22 := Try.underlying22
  have hu73 := Try.underlying73
  have hu53 := Try.underlying53
  obtain ⟨v, hg, hq, hne, hB, hsz, rfl⟩ := h.ex
  obtain ⟨A, c, rfl, hnc, hR⟩ := hq.slice
  have cd0 := blk_cell hg 0
  have fd0 := blk_frozen hg 0
  have cd1 := blk_cell hg 1
  have fd1 := blk_frozen hg 1
  simp only [List.getElem?_toArray, List.getElem?_cons_zero, List.getElem?_cons_succ] at cd0 cd1
  have c1 : decide ((s : Int) ≤ (q.length : Int)) = true := decide_eq_true (by omega)
  have c2 : (s : Int) ≤ (q.length : Int) := by omega
  go_enter Try.func31, Try.ntmps31
  go_wp2_with fail
  refine start_ (n := 10) (S := fun w' => w'.cell? ⟨gd, 0, none⟩ = some (.slice A q.length c) ∧ w'.cell? ⟨gd, 1, none⟩ = some (.int .i64 (s : Int))) (ds := []) #[false, false, false, false, false, false, false, false, false, false] (by kernel_rfl) rfl rfl ⟨cd0, cd1⟩ (fun hHeld => ?_)
  refine pure_ (i := 0) (N := some 5) (v := ?_) (a' := ?_) #[true, false, false, false, false, false, false, false, false, false] rfl rfl (by kernel_rfl) (fun _ _ _ h => h) (Or.inl ⟨by rfl, ?_⟩) ?_ ?_
  rotate_left
  · intro w'
    go_simp
    with_reducible rfl
  rotate_left
  · simp only [Act.put, List.setIfInBounds_toArray, List.set_cons_zero, List.set_cons_succ, i64_w, i32_w]
    rfl
  refine pure_ (i := 1) (N := some 6) (v := ?_) (a' := ?_) #[true, true, false, false, false, false, false, false, false, false] rfl rfl (by kernel_rfl) (fun _ _ _ h => h) (Or.inl ⟨by rfl, ?_⟩) ?_ ?_
  rotate_left
  · intro w'
    go_simp
    with_reducible rfl
  rotate_left
  · simp only [Act.put, List.setIfInBounds_toArray, List.set_cons_zero, List.set_cons_succ, i64_w, i32_w]
    rfl
  refine pure_ (i := 2) (N := some 7) (v := ?_) (a' := ?_) #[true, true, true, false, false, false, false, false, false, false] rfl rfl (by kernel_rfl) (fun _ _ _ h => h) (Or.inl ⟨by rfl, ?_⟩) ?_ ?_
  rotate_left
  · intro w'
    go_simp
    with_reducible rfl
  rotate_left
  · simp only [Act.put, List.setIfInBounds_toArray, List.set_cons_zero, List.set_cons_succ, i64_w, i32_w]
    rfl
  refine pure_ (i := 5) (N := some 10) (v := ?_) (a' := ?_) #[true, true, true, false, false, true, false, false, false, false] rfl rfl (by kernel_rfl) (fun _ _ _ h => h) (Or.inl ⟨by rfl, ?_⟩) ?_ ?_
  rotate_left
  · intro w'
    go_simp
    with_reducible rfl
  rotate_left
  · simp only [Act.put, List.setIfInBounds_toArray, List.set_cons_zero, List.set_cons_succ, i64_w, i32_w]
    rfl
  refine pure_ (i := 6) (N := some 11) (v := ?_) (a' := ?_) #[true, true, true, false, false, true, true, false, false, false] rfl rfl (by kernel_rfl) (fun _ _ _ h => h) (Or.inl ⟨by rfl, ?_⟩) ?_ ?_
  rotate_left
  · intro w'
    go_simp
    with_reducible rfl
  rotate_left
  · simp only [Act.put, List.setIfInBounds_toArray, List.set_cons_zero, List.set_cons_succ, i64_w, i32_w]
    rfl
  refine pure_ (i := 7) (N := some 12) (v := ?_) (a' := ?_) #[true, true, true, false, false, true, true, true, false, false] rfl rfl (by kernel_rfl) (fun _ _ _ h => h) (Or.inl ⟨by rfl, ?_⟩) ?_ ?_
  rotate_left
  · intro w'
    go_simp
    with_reducible rfl
  rotate_left
  · simp only [Act.put, List.setIfInBounds_toArray, List.set_cons_zero, List.set_cons_succ, i64_w, i32_w]
    rfl
  refine take_ (i := 3) (N := some 8) (v := ?_) (a' := ?_) #[true, true, true, true, false, true, true, true, false, false] rfl rfl (by kernel_rfl) (fun _ _ _ h => h) (Or.inl ⟨by rfl, ?_⟩) hHeld ?_ ?_
  rotate_left
  · rintro w' ⟨s0, s1⟩
    go_simp
    with_reducible rfl
  rotate_left
  · simp only [Act.put, List.setIfInBounds_toArray, List.set_cons_zero, List.set_cons_succ, i64_w, i32_w]
    rfl
  refine pure_ (i := 4) (N := some 9) (v := ?_) (a' := ?_) #[true, true, true, true, true, true, true, true, false, false] rfl rfl (by kernel_rfl) (fun _ _ _ h => h) (Or.inl ⟨by rfl, ?_⟩) ?_ ?_
  rotate_left
  · intro w'
    go_simp
    with_reducible rfl
  rotate_left
  · simp only [Act.put, List.setIfInBounds_toArray, List.set_cons_zero, List.set_cons_succ, i64_w, i32_w]
    rfl
  refine take_ (i := 8) (N := some 13) (v := ?_) (a' := ?_) #[true, true, true, true, true, true, true, true, true, false] rfl rfl (by kernel_rfl) (fun _ _ _ h => h) (Or.inl ⟨by rfl, ?_⟩) hHeld ?_ ?_
  rotate_left
  · rintro w' ⟨s0, s1⟩
    go_simp
    with_reducible rfl
  rotate_left
  · simp only [Act.put, List.setIfInBounds_toArray, List.set_cons_zero, List.set_cons_succ, i64_w, i32_w]
    rfl
  refine pure_ (i := 9) (N := some 14) (v := ?_) (a' := ?_) #[true, true, true, true, true, true, true, true, true, true] rfl rfl (by kernel_rfl) (fun _ _ _ h => h) (Or.inl ⟨by rfl, ?_⟩) ?_ ?_
  rotate_left
  · intro w'
    go_simp
    with_reducible rfl
  rotate_left
  · simp only [Act.put, List.setIfInBounds_toArray, List.set_cons_zero, List.set_cons_succ, i64_w, i32_w]
    rfl
  refine done_ (by kernel_rfl) ?_
  clear hHeld
  go_wp2_with fail
  go_ret
  exact ⟨rfl, drawn_drew (Drawn0.refl _)⟩
set_option maxHeartbeats 4000000 in
set_option maxRecDepth 100000 in
theorem rpush_room {w : World} {B gd s : Nat} {S : Nat → Prop} {q : List Int} (x : Int) (h : RD w B gd s S q) (hl : q.length < s) : Calls Try.prog 31 #[.pointer (some ⟨gd, 0, none⟩), .int .i64 x] w fun r w' => ∃ S', r = .returned (.int .i64 0) ∧ RD w' B gd s S' (q ++ [x]) ∧ Nx w w' S S' := by
  have hu3 := Try.underlying3
  have hu22 := Try.underlying22
  have hu73 := Try.underlying73
  have hu53 := Try.underlying53
  obtain ⟨v, hg, hq, hne, hB, hsz, rfl⟩ := h.ex
  obtain ⟨A, c, rfl, hnc, hR⟩ := hq.slice
  have cd0 := blk_cell hg 0
  have fd0 := blk_frozen hg 0
  have cd1 := blk_cell hg 1
  have fd1 := blk_frozen hg 1
  simp only [List.getElem?_toArray, List.getElem?_cons_zero, List.getElem?_cons_succ] at cd0 cd1
  have c1 : decide ((s : Int) ≤ (q.length : Int)) = false := decide_eq_false (by omega)
  have c2 : ¬ (s : Int) ≤ (q.length : Int) := by omega
  have c3 : ¬ s ≤ q.length := by omega
  have hgl := blk_lt hg
  have hBl : B ≤ w.heap.size := Nat.le_trans hB (Nat.le_of_lt hgl)
  have hal : Below w.drew.heap.size w.drew (w.drew.alloc (.cells #[.int .i64 x] 3)) := al_bel _ _
  have hq2 : OQ (w.drew.alloc (.cells #[.int .i64 x] 3)) B (.slice A q.length c) q := hq.only (Only.of_below (below_step (drew_bel w) hal) (fun _ => False)) (fun _ _ q => q)
  have HQ2 := Aside0.mk hq2
  have HSZ := Aside0.mk hsz
  have HL := Aside0.mk hl
  have HNE := Aside0.mk hne
  clear hq hq2 hsz
  go_enter Try.func31, Try.ntmps31
  go_wp2_with fail
  refine start_ (n := 10) (S := fun w' => w'.cell? ⟨gd, 0, none⟩ = some (.slice A q.length c) ∧ w'.cell? ⟨gd, 1, none⟩ = some (.int .i64 (s : Int))) (ds := []) #[false, false, false, false, false, false, false, false, false, false] (by kernel_rfl) rfl rfl ⟨cd0, cd1⟩ (fun hHeld => ?_)
  refine pure_ (i := 0) (N := some 5) (v := ?_) (a' := ?_) #[true, false, false, false, false, false, false, false, false, false] rfl rfl (by kernel_rfl) (fun _ _ _ h => h) (Or.inl ⟨by rfl, ?_⟩) ?_ ?_
  rotate_left
  · intro w'
    go_simp
    with_reducible rfl
  rotate_left
  · simp only [Act.put, List.setIfInBounds_toArray, List.set_cons_zero, List.set_cons_succ, i64_w, i32_w]
    rfl
  refine pure_ (i := 1) (N := some 6) (v := ?_) (a' := ?_) #[true, true, false, false, false, false, false, false, false, false] rfl rfl (by kernel_rfl) (fun _ _ _ h => h) (Or.inl ⟨by rfl, ?_⟩) ?_ ?_
  rotate_left
  · intro w'
    go_simp
    with_reducible rfl
  rotate_left
  · simp only [Act.put, List.setIfInBounds_toArray, List.set_cons_zero, List.set_cons_succ, i64_w, i32_w]
    rfl
  refine pure_ (i := 2) (N := some 7) (v := ?_) (a' := ?_) #[true, true, true, false, false, false, false, false, false, false] rfl rfl (by kernel_rfl) (fun _ _ _ h => h) (Or.inl ⟨by rfl, ?_⟩) ?_ ?_
  rotate_left
  · intro w'
    go_simp
    with_reducible rfl
  rotate_left
  · simp only [Act.put, List.setIfInBounds_toArray, List.set_cons_zero, List.set_cons_succ, i64_w, i32_w]
    rfl
  refine pure_ (i := 5) (N := some 10) (v := ?_) (a' := ?_) #[true, true, true, false, false, true, false, false, false, false] rfl rfl (by kernel_rfl) (fun _ _ _ h => h) (Or.inl ⟨by rfl, ?_⟩) ?_ ?_
  rotate_left
  · intro w'
    go_simp
    with_reducible rfl
  rotate_left
  · simp only [Act.put, List.setIfInBounds_toArray, List.set_cons_zero, List.set_cons_succ, i64_w, i32_w]
    rfl
  refine pure_ (i := 6) (N := some 11) (v := ?_) (a' := ?_) #[true, true, true, false, false, true, true, false, false, false] rfl rfl (by kernel_rfl) (fun _ _ _ h => h) (Or.inl ⟨by rfl, ?_⟩) ?_ ?_
  rotate_left
  · intro w'
    go_simp
    with_reducible rfl
  rotate_left
  · simp only [Act.put, List.setIfInBounds_toArray, List.set_cons_zero, List.set_cons_succ, i64_w, i32_w]
    rfl
  refine pure_ (i := 7) (N := some 12) (v := ?_) (a' := ?_) #[true, true, true, false, false, true, true, true, false, false] rfl rfl (by kernel_rfl) (fun _ _ _ h => h) (Or.inl ⟨by rfl, ?_⟩) ?_ ?_
  rotate_left
  · intro w'
    go_simp
    with_reducible rfl
  rotate_left
  · simp only [Act.put, List.setIfInBounds_toArray, List.set_cons_zero, List.set_cons_succ, i64_w, i32_w]
    rfl
  refine take_ (i := 3) (N := some 8) (v := ?_) (a' := ?_) #[true, true, true, true, false, true, true, true, false, false] rfl rfl (by kernel_rfl) (fun _ _ _ h => h) (Or.inl ⟨by rfl, ?_⟩) hHeld ?_ ?_
  rotate_left
  · rintro w' ⟨s0, s1⟩
    go_simp
    with_reducible rfl
  rotate_left
  · simp only [Act.put, List.setIfInBounds_toArray, List.set_cons_zero, List.set_cons_succ, i64_w, i32_w]
    rfl
  refine pure_ (i := 4) (N := some 9) (v := ?_) (a' := ?_) #[true, true, true, true, true, true, true, true, false, false] rfl rfl (by kernel_rfl) (fun _ _ _ h => h) (Or.inl ⟨by rfl, ?_⟩) ?_ ?_
  rotate_left
  · intro w'
    go_simp
    with_reducible rfl
  rotate_left
  · simp only [Act.put, List.setIfInBounds_toArray, List.set_cons_zero, List.set_cons_succ, i64_w, i32_w]
    rfl
  refine take_ (i := 8) (N := some 13) (v := ?_) (a' := ?_) #[true, true, true, true, true, true, true, true, true, false] rfl rfl (by kernel_rfl) (fun _ _ _ h => h) (Or.inl ⟨by rfl, ?_⟩) hHeld ?_ ?_
  rotate_left
  · rintro w' ⟨s0, s1⟩
    go_simp
    with_reducible rfl
  rotate_left
  · simp only [Act.put, List.setIfInBounds_toArray, List.set_cons_zero, List.set_cons_succ, i64_w, i32_w]
    rfl
  refine pure_ (i := 9) (N := some 14) (v := ?_) (a' := ?_) #[true, true, true, true, true, true, true, true, true, true] rfl rfl (by kernel_rfl) (fun _ _ _ h => h) (Or.inl ⟨by rfl, ?_⟩) ?_ ?_
  rotate_left
  · intro w'
    go_simp
    with_reducible rfl
  rotate_left
  · simp only [Act.put, List.setIfInBounds_toArray, List.set_cons_zero, List.set_cons_succ, i64_w, i32_w]
    rfl
  refine done_ (by kernel_rfl) ?_
  clear hHeld c1 c2 c3
  go_wp2_with (at_builtin; refine oq_append (base := B) (q := q) rfl rfl (.tmp 19) (.tmp 21) rfl ⟨w.heap.size, 0, none⟩ 1 x rfl rfl HQ2.out ((blk_cell (al_at w.drew (.cells #[.int .i64 x] 3)) 0).trans rfl) (by have := HSZ.out; omega) (Nat.le_trans hBl hal.size) ?_; intro v5 w5 ho5 hg5 hat5; obtain ⟨A5, c5, rfl, hnc5, hR5⟩ := ho5.slice; rw [List.length_append, List.length_singleton] at ho5 hat5 ⊢; have HO5 := Aside0.mk ho5; have HG5 := Aside0.mk hg5; have HAT := Aside0.mk hat5; have hgd1 := (hal.block _ hgl).trans (show w.drew.heap[gd]? = _ from hg); have hgd5 := (hg5.block _ (blk_lt hgd1) (fun e => hne e.symm)).trans hgd1; have HGD := Aside0.mk hgd5; clear cd0 fd0 cd1 fd1 ho5 hg5 hat5; have cd0 := blk_cell hgd5 0; have fd0 := blk_frozen hgd5 0; simp only [List.getElem?_toArray, List.getElem?_cons_zero, List.getElem?_cons_succ] at cd0)
  go_ret
  have hne5 : (Value.slice A5 (q.length + 1) c5).ownBlock ≠ some gd := fun e => by
    rcases HAT.out with h | h
    · exact HNE.out (h ▸ e)
    · rw [h] at e
      injection e with e
      have h9 : gd < (w.drew.alloc (.cells #[.int .i64 x] 3)).heap.size := Nat.lt_of_lt_of_le hgl hal.size
      exact Nat.lt_irrefl _ (e ▸ h9)
  have hO : Only w (w5.setCell ⟨gd, 0, none⟩ (.slice A5 (q.length + 1) c5)) (fun k => k = gd ∨ (Value.slice A q.length c).ownBlock = some k) :=
    ((Only.of_below (below_step (drew_bel w) hal) _).then (⟨HG5.out.os, HG5.out.tape, HG5.out.output, HG5.out.size, fun k hk hs => HG5.out.block k hk (fun e => hs (.inr e.symm))⟩ : Only _ w5 (fun k => k = gd ∨ (Value.slice A q.length c).ownBlock = some k))).set (.inl rfl)
  refine ⟨_, rfl, ⟨.slice A5 (q.length + 1) c5, by simpa using blk_set HGD.out 0 (.slice A5 (q.length + 1) c5), HO5.out.only ((Only.refl w5 (fun k => k = gd)).set rfl) (fun k hk e => hne5 (e ▸ hk)), hne5, hB, ⟨HSZ.out.1, HSZ.out.2.1, by rw [List.length_append, List.length_singleton]; exact HL.out⟩, rfl⟩, hO, ?_⟩
  rintro k (rfl | hk)
  · exact .inl (.inl rfl)
  · rcases HAT.out with h | h
    · exact .inl (.inr (h ▸ hk))
    · rw [h] at hk
      injection hk with hk
      exact .inr (hk ▸ hal.size)
set_option maxHeartbeats 4000000 in
set_option maxRecDepth 100000 in
theorem rpop_none {w : World} {B gd s : Nat} {S : Nat → Prop} (h : RD w B gd s S []) : Calls Try.prog 32 #[.pointer (some ⟨gd, 0, none⟩)] w fun r w' => r = .returned (.tuple #[.int .i64 0, .bool false]) ∧ w' = w := by
  obtain ⟨q, hq0⟩ : ∃ q : List Int, q = [] := ⟨_, rfl⟩
  rw [← hq0] at h
  have hu3 := Try.underlying3
  have hu22 := Try.underlying22
  have hu73 := Try.underlying73
  have hu53 := Try.underlying53
  obtain ⟨v, hg, hq, hne, hB, hsz, rfl⟩ := h.ex
  obtain ⟨A, c, rfl, hnc, hR⟩ := hq.slice
  have cd0 := blk_cell hg 0
  have fd0 := blk_frozen hg 0
  have cd1 := blk_cell hg 1
  have fd1 := blk_frozen hg 1
  simp only [List.getElem?_toArray, List.getElem?_cons_zero, List.getElem?_cons_succ] at cd0 cd1
  have e0 : ((q.length : Int) == 0) = true := by rw [hq0]; rfl
  clear hq0
  go_enter Try.func32, Try.ntmps32
  go_wp2_with fail
  go_ret2
  exact ⟨rfl, rfl⟩
set_option maxHeartbeats 4000000 in
set_option maxRecDepth 100000 in
theorem rpop_some {w : World} {B gd s : Nat} {S : Nat → Prop} {x : Int} {q : List Int} (h : RD w B gd s S (x :: q)) : Calls Try.prog 32 #[.pointer (some ⟨gd, 0, none⟩)] w fun r w' => r = .returned (.tuple #[.int .i64 x, .bool true]) ∧ RD w' B gd s S q ∧ Only w w' S := by
  have hu3 := Try.underlying3
  have hu22 := Try.underlying22
  have hu73 := Try.underlying73
  have hu53 := Try.underlying53
  obtain ⟨v, hg, hq, hne, hB, hsz, rfl⟩ := h.ex
  obtain ⟨A, c, rfl, hnc, hR⟩ := hq.slice
  have HQF := Aside0.mk hq
  obtain ⟨a, rfl, hn, hnc2, hq2⟩ := hq.tail
  obtain ⟨ad, ea, hcell⟩ := hR.2.2 (by simp)
  injection ea with ea
  subst ea
  have hx : w.cell? a = some (.int .i64 x) := by simpa [Addr.add] using hcell 0 (by simp)
  have cd0 := blk_cell hg 0
  have fd0 := blk_frozen hg 0
  simp only [List.getElem?_toArray, List.getElem?_cons_zero, List.getElem?_cons_succ] at cd0
  obtain ⟨m, hm⟩ : ∃ m, (x :: q).length = m := ⟨_, rfl⟩
  have hmq : m = q.length + 1 := by rw [← hm]; rfl
  rw [hm] at cd0 hq2 hnc
  have m1 : ((m : Int) == 0) = false := by simp only [beq_eq_false_iff_ne, ne_eq]; omega
  have m2 : (1 : Int) ≤ (m : Int) := by omega
  have m3 : (0 : Int) < (m : Int) := by omega
  have m4 : (m : Int) ≤ (c : Int) := Int.ofNat_le.mpr hnc
  have HMQ := Aside0.mk hmq
  have HQ2 := Aside0.mk hq2
  have HSZ := Aside0.mk hsz
  have HG := Aside0.mk hg
  clear hmq hq2 hsz hm hcell hq hR
  by_cases hc1 : c = 1
  · subst hc1
    go_enter Try.func32, Try.ntmps32
    go_wp2_with fail
    go_ret2
    have hO : Only w (w.setCell ⟨gd, 0, none⟩ (.slice (some a) 0 0)) (fun k => k = gd) := (Only.refl w _).set rfl
    have hq0 : q = [] := List.eq_nil_of_length_eq_zero (by have := HMQ.out; omega)
    have hq3 : OQ w B (.slice (some a) 0 0) q := by
      rcases HQF.out with ⟨h, _⟩ | ⟨g, o, cap, cur, hv, hb, hg2, hn2, hm2, hs2, _⟩
      · cases h
      · injection hv with h1 h2 h3
        injection h1 with h1
        subst h1
        rw [hq0]
        exact .inr ⟨g, o, 0, cur, rfl, hb, hg2, Nat.le_refl _, Nat.zero_le _, by omega, fun j hj => absurd hj (Nat.not_lt_zero j)⟩
    refine ⟨rfl, ⟨.slice (some a) 0 0, by simpa using blk_set HG.out 0 (.slice (some a) 0 0), hq3.only hO (fun k hk e => hne (e ▸ hk)), hne, hB, ⟨HSZ.out.1, HSZ.out.2.1, by have := HSZ.out.2.2; simp only [List.length_cons] at this; omega⟩, rfl⟩, hO.mono (fun k hk => .inl hk)⟩
  · go_enter Try.func32, Try.ntmps32
    go_wp2_with fail
    go_ret2
    have hO : Only w (w.setCell ⟨gd, 0, none⟩ (.slice (some (a.add 1)) (m - 1) (c - 1))) (fun k => k = gd) := (Only.refl w _).set rfl
    have hset : (w.setCell ⟨gd, 0, none⟩ (.slice (some (a.add 1)) (m - 1) (c - 1))).heap[gd]? = some (.cells #[.slice (some (a.add 1)) (m - 1) (c - 1), .int .i64 (s : Int)] 73 (0, 0)) := by simpa using blk_set HG.out 0 (.slice (some (a.add 1)) (m - 1) (c - 1))
    exact ⟨rfl, ⟨.slice (some (a.add 1)) (m - 1) (c - 1), hset, HQ2.out.only hO (fun k hk e => hne (e ▸ hk)), hne, hB, ⟨HSZ.out.1, HSZ.out.2.1, by have := HSZ.out.2.2; simp only [List.length_cons] at this; omega⟩, rfl⟩, hO.mono (fun k hk => .inl hk)⟩
set_option maxHeartbeats 4000000 in
set_option maxRecDepth 100000 in
theorem rat_out {w : World} {B gd s : Nat} {S : Nat → Prop} {q : List Int} (i : Int) (h : RD w B gd s S q) (hi : i < 0 ∨ (q.length : Int) ≤ i) : Calls Try.prog 33 #[.pointer (some ⟨gd, 0, none⟩), .int .i64 i] w fun r w' => r = .returned (.tuple #[.int .i64 0, .bool false]) ∧ w' = w := by
  have hu3 := Try.underlying3
  have hu22 := Try.underlying22
  have hu73 := Try.underlying73
  have hu53 := Try.underlying53
  obtain ⟨v, hg, hq, hne, hB, hsz, rfl⟩ := h.ex
  obtain ⟨A, c, rfl, hnc, hR⟩ := hq.slice
  have cd0 := blk_cell hg 0
  have fd0 := blk_frozen hg 0
  have cd1 := blk_cell hg 1
  have fd1 := blk_frozen hg 1
  simp only [List.getElem?_toArray, List.getElem?_cons_zero, List.getElem?_cons_succ] at cd0 cd1
  by_cases c1 : i < 0
  · go_enter Try.func33, Try.ntmps33
    go_wp2_with fail
    go_ret2
    exact ⟨rfl, rfl⟩
  · have c2 : (q.length : Int) ≤ i := hi.resolve_left c1
    have c3 : 0 ≤ i := by omega
    clear hi
    go_enter Try.func33, Try.ntmps33
    go_wp2_with fail
    go_ret2
    exact ⟨rfl, rfl⟩
set_option maxHeartbeats 4000000 in
set_option maxRecDepth 100000 in
theorem rat_in {w : World} {B gd s : Nat} {S : Nat → Prop} {q : List Int} (i : Nat) (h : RD w B gd s S q) (hi : i < q.length) : Calls Try.prog 33 #[.pointer (some ⟨gd, 0, none⟩), .int .i64 (i : Int)] w fun r w' => r = .returned (.tuple #[.int .i64 (q.getD i 0), .bool true]) ∧ w' = w := by
  have hu3 := Try.underlying3
  have hu22 := Try.underlying22
  have hu73 := Try.underlying73
  have hu53 := Try.underlying53
  obtain ⟨v, hg, hq, hne, hB, hsz, rfl⟩ := h.ex
  obtain ⟨A, c, rfl, hnc, hR⟩ := hq.slice
  have cd0 := blk_cell hg 0
  have fd0 := blk_frozen hg 0
  have cd1 := blk_cell hg 1
  have fd1 := blk_frozen hg 1
  simp only [List.getElem?_toArray, List.getElem?_cons_zero, List.getElem?_cons_succ] at cd0 cd1
  obtain ⟨ad, rfl, hcell⟩ := hR.2.2 (Nat.lt_of_le_of_lt (Nat.zero_le _) hi)
  have hx := hcell i hi
  obtain ⟨y, hy⟩ : ∃ y, q.getD i 0 = y := ⟨_, rfl⟩
  rw [hy] at hx ⊢
  have c1 : ¬ (i : Int) < 0 := by omega
  have c2 : (i : Int) < (q.length : Int) := Int.ofNat_lt.mpr hi
  have c3 : ¬ (q.length : Int) ≤ (i : Int) := by omega
  clear hcell hy hR
  go_enter Try.func33, Try.ntmps33
  go_wp2_with fail
  go_ret2
  exact ⟨rfl, rfl⟩
end Go.Proofs.Ytjajaklichiknaa.Rg
