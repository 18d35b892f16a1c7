/- Proved: same, lent and still: two lists of places that are one; a copy of what is seen, a mark behind it; that it stands as it was. -/
import Derived.Test.YtjffkidfoapbjaaSeen
import Derived.Test.YtjffkidfoapbjaaOne
namespace Go.Proofs.Ytjffkidfoapbjaa.Fl
open Go.RowKit Go.Proofs.YtjffkidfoapbjaaW.PrintWords Go.Proofs.YtjffkidfoapbjaaW.PrintLast Go.Proofs.YtjffkidfoapbjaaW.PrintMore
set_option linter.unusedVariables false
set_option linter.unusedSimpArgs false
attribute [local go_sem] run_store_float

/-! ### Things seen, in one's own row -/
def rowS (l : List S5) : List Value := l.flatMap S5.cs
theorem rowS_snoc (l : List S5) (s : S5) : rowS l ++ s.cs = rowS (l ++ [s]) := by simp [rowS]
theorem rowS_len (l : List S5) : (rowS l).length = l.length * 5 := by
  induction l with
  | nil => rfl
  | cons s l ih => rw [show rowS (s :: l) = s.cs ++ rowS l from rfl, List.length_append, ih, List.length_cons]; simp [S5.cs]; omega
theorem rowS_get (l : List S5) (k j : Nat) (hk : k < l.length) (hj : j < 5) : (rowS l)[k * 5 + j]? = (l.getD k default).cs[j]? := by
  induction l generalizing k with
  | nil => simp at hk
  | cons s l ih =>
    rw [show rowS (s :: l) = s.cs ++ rowS l from rfl]
    cases k with
    | zero => rw [List.getElem?_append_left (by simp [S5.cs]; omega)]; simp
    | succ k =>
      rw [List.getElem?_append_right (by simp [S5.cs]; omega), show (k + 1) * 5 + j - s.cs.length = k * 5 + j from by simp [S5.cs]; omega, ih k (by simpa using hk)]
      simp
/-- A thing's place is turned. -/
def S5.turn (s : S5) (z : Int) : S5 := { s with x := z }
theorem rowS_set (l : List S5) (k : Nat) (z : Int) (hk : k < l.length) : (rowS l).set (k * 5 + 2) (.int .i64 z) = rowS (l.set k ((l.getD k default).turn z)) := by
  induction l generalizing k with
  | nil => simp at hk
  | cons s l ih =>
    cases k with
    | zero => simp [rowS, S5.cs, S5.turn]
    | succ k =>
      have h5 : s.cs.length = 5 := rfl
      rw [show rowS (s :: l) = s.cs ++ rowS l from rfl, List.set_append_right _ _ (by rw [h5]; omega), show (k + 1) * 5 + 2 - s.cs.length = k * 5 + 2 from by rw [h5]; omega, ih k (by simpa using hk)]
      simp [rowS]
abbrev OwnS (w : World) (base : Nat) (v : Value) (l : List S5) : Prop := w.ownsRow base 55 5 v l.length (rowS l)
theorem own_srow {w : World} {base g n c : Nat} {l : List S5} (h : OwnS w base (.slice (some ⟨g, 0, none⟩) n c) l) (m : Nat) (hm : m ≤ l.length) : SRow w (some ⟨g, 0, none⟩) m (l.take m) := by
  refine ⟨by rw [List.length_take]; omega, fun k hk => ⟨_, rfl, ⟨fun j v hj => ?_⟩⟩⟩
  have e : (l.take m).getD k default = l.getD k default := by simp [List.getD_eq_getElem?_getD, List.getElem?_take, hk]
  rw [e] at hj
  have hj5 : j < 5 := (List.getElem?_eq_some_iff.1 hj).1
  have hc := World.ownsRow.cells h (g := g) rfl (k * 5 + j) v (by rw [rowS_get l k j (by omega) hj5, hj])
  rw [add_plain] at hc ⊢
  have e : (⟨g, k * 5, none⟩ : Addr).add j = ⟨g, k * 5 + j, none⟩ := by unfold Addr.add; split <;> simp_all
  rw [e]
  exact hc
theorem own_turn {w : World} {base g n c : Nat} {l : List S5} (h : OwnS w base (.slice (some ⟨g, 0, none⟩) n c) l) (hn : l.length = n) (k : Nat) (hk : k < n) (z : Int) :
    OwnS (w.setCell ⟨g, k * 5 + 2, none⟩ (.int .i64 z)) base (.slice (some ⟨g, 0, none⟩) n c) (l.set k ((l.getD k default).turn z)) ∧ w.grownBy (w.setCell ⟨g, k * 5 + 2, none⟩ (.int .i64 z)) (some g) := by
  subst hn
  have h1 := World.ownsRow.stored h (k * 5 + 2) (.int .i64 z)
  rw [rowS_set l k z hk] at h1
  refine ⟨?_, h1.2⟩
  unfold OwnS
  rw [List.length_set]
  exact h1.1

theorem addr_add_add (ad : Addr) (i j : Nat) : (ad.add i).add j = ad.add (i + j) := by
  unfold Addr.add
  by_cases h1 : i = 0 <;> by_cases h2 : j = 0 <;> simp [h1, h2, Nat.add_assoc]
/-- append(nil, s...): a copy. -/
theorem run_copy (w : World) (A : Option Addr) (n c : Nat) (l : List S5) (h : SRow w A n l) (hn : n * 40 ≤ 140737488355328) (t : TypeId) :
    ∃ v1 w1, (Builtin.append_ #[45, 45] t #[.slice none 0 0, .slice A n c]).run Try.prog w = .ok v1 w1 ∧ OwnS w1 w.heap.size v1 l ∧ Below w.heap.size w w1 := by
  obtain ⟨i0, hi, hzz⟩ := Option.map_eq_some_iff.1 (show (Try.prog.info? 55).map (fun i => (i.zero, i.size, i.bytes)) = some (some (.agg #[.int .i64 0, .int .i64 0, .int .i64 0, .int .i64 0, .int .i64 0]), 5, 40) by kernel_rfl)
  simp only [Prod.mk.injEq] at hzz
  obtain ⟨hz0, hz1, hz2⟩ := hzz
  rcases Nat.eq_zero_or_pos n with h0 | h0
  · subst h0
    obtain rfl : l = [] := List.eq_nil_of_length_eq_zero h.len
    refine ⟨.slice none 0 0, w, ?_, own_nil _ _ _ _, Below.refl _ _⟩
    cases A <;> simp [Builtin.append_, run_underlying Try.underlying45, sizeOf, typeInfo, hi, Builtin.lenOf, Builtin.firstCells, loadCells, loadCellsFrom]
  · obtain ⟨ad, eA, _⟩ := h.at_ 0 h0
    subst eA
    obtain ⟨v1, w1, hr, ho, hg, _⟩ := run_append_own_at (P := Try.prog) w w.heap.size 45 t 55 i0 _ 5 40 Try.underlying45 hi hz0 hz1 hz2 rfl (by decide) (.slice none 0 0) 0 [] (own_nil _ _ _ _) ad n c (rowS l) (by rw [rowS_len, h.len])
      (fun j u hu => by
        have hj : j < l.length * 5 := by rw [← rowS_len]; exact (List.getElem?_eq_some_iff.1 hu).1
        have hk : j / 5 < n := by rw [← h.len]; omega
        obtain ⟨ad', e', hc⟩ := h.at_ (j / 5) hk
        injection e' with e'
        subst e'
        have e : j / 5 * 5 + j % 5 = j := by omega
        rw [← e, rowS_get l (j / 5) (j % 5) (by rw [h.len]; exact hk) (by omega)] at hu
        have := hc.out _ _ hu
        rwa [addr_add_add, e] at this)
      (fun u hu => by
        simp only [rowS, List.mem_flatMap] at hu
        obtain ⟨s, _, hs⟩ := hu
        simp only [S5.cs, List.mem_cons, List.not_mem_nil, or_false] at hs
        rcases hs with rfl | rfl | rfl | rfl | rfl <;> rfl)
      (by simp only [maxLen]; omega) (by omega) (Nat.le_refl _)
    refine ⟨v1, w1, hr, ?_, ?_⟩
    · have := h.len
      subst this
      simpa using ho
    · exact ⟨hg.os, hg.tape, hg.output, hg.size, fun i hi => hg.block i hi (by simp [Value.ownBlock])⟩
section
variable {P : Program} {ops : Array Oper} {rest : List Oper} {o : Oper} {a : Act} {w : World} {Q : Exit → Act → World → Prop}
theorem wpList_append_run (hgd : o.guard = none) (s x : Operand) (t : TypeId) (ho : o.op = .call { callee := .builtin .append, args := #[s, x], argTypes := #[t, t] }) (v u v1 : Value) (w1 : World) (hs : a.eval s = v) (hx : a.eval x = u)
    (hr : (Builtin.append_ #[t, t] o.type #[v, u]).run P w = .ok v1 w1) (h : wpList P ops Q rest (a.put o.dst v1) w1) : wpList P ops Q (o :: rest) a w := by
  refine wpList_plain hgd fun K hK => ?_
  unfold Oper.wp execOp
  simp only [ho, resolve, invoke, builtin, Sem.run_bind, Sem.run_pure, Result.andThen_ok, List.map_toArray, List.map_cons, List.map_nil, hs, hx, hr]
  exact hK _ _ h
end
def mark : S5 := ⟨-71, 0, 0, 0, 0⟩
set_option maxHeartbeats 2000000 in
set_option maxRecDepth 100000 in
theorem same_calls (A B : Option Addr) (n m c d : Nat) (hnm : n = m) (ps qs : List P3) (w : World) (hP : PRow w A n ps) (hQ : PRow w B m qs) (hPQ : PFs ps qs) (hn : n ≤ 9223372036854775807) : Calls Try.prog 25 #[.slice A n c, .slice B m d] w fun e w' => e = .returned (.bool true) ∧ Below w.heap.size w w' := by
  subst hnm
  have hu51 := Try.underlying51
  have hu24 := Try.underlying24
  have hu3 := Try.underlying3
  have hnn : (n : Int) ≤ 9223372036854775807 := by omega
  go_enter Try.func25, Try.ntmps25
  go_wp2_with fail
  go_loopw [5] (fun i wr => ∃ k : Nat, k ≤ n ∧ i = .int .i64 k ∧ Aside0 (Below w.heap.size w wr)) (fun i _ => n - (intOf i).toNat)
  case atStart => exact ⟨0, Nat.zero_le _, rfl, ⟨Below.refl _ _⟩⟩
  case round =>
    obtain ⟨k, hk, rfl, HB⟩ := hrel
    have hB := HB.out
    clear HB
    by_cases hlt : k < n
    · obtain ⟨aA, e1, hp⟩ := (hP.below hB).at_ k hlt
      obtain ⟨bA, e2, hq⟩ := (hQ.below hB).at_ k hlt
      subst e1
      subst e2
      have hpq := Aside0.mk (hPQ.at_ k (by rw [hP.len]; exact hlt))
      generalize ps.getD k default = p at hp hpq
      generalize qs.getD k default = q at hq hpq
      have hp : At wr (aA.add (k * 3)) [.float .f32 p.x, .float .f32 p.y, .float .f32 p.a] := hp
      have hq : At wr (bA.add (k * 3)) [.float .f32 q.x, .float .f32 q.y, .float .f32 q.a] := hq
      have hk2 : (k : Int) < (n : Int) := Int.ofNat_lt.mpr hlt
      have hk0 : (0 : Int) ≤ k := Int.natCast_nonneg k
      go_wp2_with fail
      refine start_ (n := 10) (S := fun w' => At w' (aA.add (k * 3)) [.float .f32 p.x, .float .f32 p.y, .float .f32 p.a] ∧ At w' (bA.add (k * 3)) [.float .f32 q.x, .float .f32 q.y, .float .f32 q.a]) (ds := [8]) #[false, false, false, false, false, false, false, false, false, false] (by kernel_rfl) rfl rfl ⟨hp.drew, hq.drew⟩ (fun hHeld => ?_)
      refine pure_ (i := 0) (N := some 17) (v := ?_) (a' := ?_) #[true, false, false, false, false, false, false, false, false, false] rfl rfl (by kernel_rfl) (fun _ _ _ h => h) (Or.inl ⟨by rfl, ?_⟩) ?_ ?_
      rotate_left
      · intro w'
        go_simp
        with_reducible rfl
      rotate_left
      · simp only [Act.put, List.setIfInBounds_toArray, List.set_cons_zero, List.set_cons_succ, i64_w, i32_w]
        rfl
      refine pure_ (i := 1) (N := some 18) (v := ?_) (a' := ?_) #[true, true, false, false, false, false, false, false, false, false] rfl rfl (by kernel_rfl) (fun _ _ _ h => h) (Or.inl ⟨by rfl, ?_⟩) ?_ ?_
      rotate_left
      · intro w'
        go_simp
        with_reducible rfl
      rotate_left
      · simp only [Act.put, List.setIfInBounds_toArray, List.set_cons_zero, List.set_cons_succ, i64_w, i32_w]
        rfl
      refine pure_ (i := 2) (N := some 19) (v := ?_) (a' := ?_) #[true, true, true, false, false, false, false, false, false, false] rfl rfl (by kernel_rfl) (fun _ _ _ h => h) (Or.inl ⟨by rfl, ?_⟩) ?_ ?_
      rotate_left
      · intro w'
        go_simp
        with_reducible rfl
      rotate_left
      · simp only [Act.put, List.setIfInBounds_toArray, List.set_cons_zero, List.set_cons_succ, i64_w, i32_w]
        rfl
      refine pure_ (i := 4) (N := some 21) (v := ?_) (a' := ?_) #[true, true, true, false, true, false, false, false, false, false] rfl rfl (by kernel_rfl) (fun _ _ _ h => h) (Or.inl ⟨by rfl, ?_⟩) ?_ ?_
      rotate_left
      · intro w'
        go_simp
        with_reducible rfl
      rotate_left
      · simp only [Act.put, List.setIfInBounds_toArray, List.set_cons_zero, List.set_cons_succ, i64_w, i32_w]
        rfl
      refine pure_ (i := 5) (N := some 22) (v := ?_) (a' := ?_) #[true, true, true, false, true, true, false, false, false, false] rfl rfl (by kernel_rfl) (fun _ _ _ h => h) (Or.inl ⟨by rfl, ?_⟩) ?_ ?_
      rotate_left
      · intro w'
        go_simp
        with_reducible rfl
      rotate_left
      · simp only [Act.put, List.setIfInBounds_toArray, List.set_cons_zero, List.set_cons_succ, i64_w, i32_w]
        rfl
      refine pure_ (i := 6) (N := some 23) (v := ?_) (a' := ?_) #[true, true, true, false, true, true, true, false, false, false] rfl rfl (by kernel_rfl) (fun _ _ _ h => h) (Or.inl ⟨by rfl, ?_⟩) ?_ ?_
      rotate_left
      · intro w'
        go_simp
        with_reducible rfl
      rotate_left
      · simp only [Act.put, List.setIfInBounds_toArray, List.set_cons_zero, List.set_cons_succ, i64_w, i32_w]
        rfl
      refine take_ (i := 3) (N := some 20) (v := ?_) (a' := ?_) #[true, true, true, true, true, true, true, false, false, false] rfl rfl (by kernel_rfl) (fun _ _ _ h => h) (Or.inl ⟨by rfl, ?_⟩) hHeld ?_ ?_
      rotate_left
      · rintro w' ⟨s0, s1⟩
        refine Eq.trans (exec_load_at 24 _ (by rfl) (aA.add (k * 3)) (by rfl) [.float .f32 p.x, .float .f32 p.y, .float .f32 p.a] _ Try.underlying24 rfl (by kernel_rfl) s0) ?_
        with_reducible rfl
      rotate_left
      · simp only [Act.put, List.setIfInBounds_toArray, List.set_cons_zero, List.set_cons_succ, i64_w, i32_w]
        rfl
      refine take_ (i := 7) (N := some 24) (v := ?_) (a' := ?_) #[true, true, true, true, true, true, true, true, false, false] rfl rfl (by kernel_rfl) (fun _ _ _ h => h) (Or.inl ⟨by rfl, ?_⟩) hHeld ?_ ?_
      rotate_left
      · rintro w' ⟨s0, s1⟩
        refine Eq.trans (exec_load_at 24 _ (by rfl) (bA.add (k * 3)) (by rfl) [.float .f32 q.x, .float .f32 q.y, .float .f32 q.a] _ Try.underlying24 rfl (by kernel_rfl) s1) ?_
        with_reducible rfl
      rotate_left
      · simp only [Act.put, List.setIfInBounds_toArray, List.set_cons_zero, List.set_cons_succ, i64_w, i32_w]
        rfl
      refine last_ (i := 8) (N := some 25) #[true, true, true, true, true, true, true, true, true, false] rfl rfl (by kernel_rfl) (by decide) (fun K hK => ?_)
      refine goes_ Try.func11 (by kernel_rfl) rfl _ (by rfl) rfl rfl (by simp only [List.map_toArray, List.map_cons, List.map_nil]; rfl) ?_
      refine (one_calls p.x p.y p.a q.x q.y q.a hpq.out.x hpq.out.y hpq.out.a _).mono ?_
      rintro e w8 ⟨rfl, hb1⟩
      refine ⟨_, rfl, ?_⟩
      have hB := below_step (below_drew1 hB) hb1
      refine hK.out _ _ ?_
      clear hK K
      refine norm_ (a' := ?_) ?_ ?_
      rotate_left
      · show Act.put _ (some 25) _ = _
        simp only [Act.put, List.setIfInBounds_toArray, List.set_cons_zero, List.set_cons_succ, i64_w, i32_w]
        rfl
      refine pure_ (i := 9) (N := some 26) (v := ?_) (a' := ?_) #[true, true, true, true, true, true, true, true, true, true] rfl rfl (by kernel_rfl) (fun _ _ _ h => h) (Or.inl ⟨by rfl, ?_⟩) ?_ ?_
      rotate_left
      · intro w'
        go_simp
        with_reducible rfl
      rotate_left
      · simp only [Act.put, List.setIfInBounds_toArray, List.set_cons_zero, List.set_cons_succ, i64_w, i32_w]
        rfl
      refine done_ (by kernel_rfl) ?_

      go_wp2
      go_roundw
      case rel => exact ⟨k + 1, by omega, by go_num, ⟨hB⟩⟩
      case measure => simp [intOf]; omega
    · obtain rfl : k = n := by omega
      go_wp2_with fail
      go_ret
      exact ⟨rfl, hB⟩
set_option maxHeartbeats 2000000 in
set_option maxRecDepth 100000 in
theorem lent_calls (atk apl au av avx avy ahd ahe aen aam aco awt asp asc : Int) (anm : ByteArray) (aA : Option Addr) (an ac : Nat) (w : World) (l : List S5) (hS : SRow w aA an l) (hn : an * 40 ≤ 140737488351232) : Calls Try.prog 24 #[.agg #[.int .u64 atk, .int .i64 apl, .string anm, .int .i64 au, .int .i64 av, .int .i64 avx, .int .i64 avy, .int .i64 ahd, .int .i64 ahe, .int .i64 aen, .int .i64 aam, .int .i64 aco, .int .i64 awt, .int .i64 asp, .int .i64 asc, .slice aA an ac]] w fun e w' => ∃ g c, e = .returned (.slice (some ⟨g, 0, none⟩) (an + 1) c) ∧ an + 1 ≤ c ∧ OwnS w' w.heap.size (.slice (some ⟨g, 0, none⟩) (an + 1) c) (l ++ [mark]) ∧ Below w.heap.size w w' := by
  have hu45 := Try.underlying45
  have hu55 := Try.underlying55
  have hu47 := Try.underlying47
  have hln : l.length * 40 ≤ 140737488351232 := by rw [hS.len]; exact hn
  go_enter Try.func24, Try.ntmps24
  go_wp2_with (first
    | ((with_reducible refine gate_dst (N := 1) rfl ?_); refine box_event ?hg (N := 1) ?hd (cs := #[.int .u64 atk, .int .i64 apl, .string anm, .int .i64 au, .int .i64 av, .int .i64 avx, .int .i64 avy, .int .i64 ahd, .int .i64 ahe, .int .i64 aen, .int .i64 aam, .int .i64 aco, .int .i64 awt, .int .i64 asp, .int .i64 asc, .slice aA an ac]) (t := 47) ?hr ?_; (case hd => rfl); (case hg => rfl); (case hr => first | (go_simp; done) | (go_simp; rfl)); intro g1 eg1 w1 Xg1 Bg1; have hB0 := Bg1.size; have hB1 := Bg1; have hS1 := hS.below Bg1; clear eg1; have cg1_15 : w1.cell? ⟨g1, 15, none⟩ = some (.slice aA an ac) := (blk_cell Xg1 15).trans rfl)
    | ((with_reducible refine gate_dst (N := 7) rfl ?_); obtain ⟨v2, w2, hrun, hown2, hB2⟩ := run_copy w1 aA an ac l hS1 (by omega) 45; refine wpList_append_run rfl (.tmp 4) (.tmp 6) 45 rfl _ _ _ _ rfl rfl hrun ?_)
    | ((with_reducible refine gate_dst (N := 11) rfl ?_); refine print_append_cells (w0 := w1) w1.heap.size rfl (.tmp 8) (.tmp 10) 45 55 (.agg #[.int .i64 0, .int .i64 0, .int .i64 0, .int .i64 0, .int .i64 0]) 5 40 rfl Try.underlying45 (by kernel_rfl) rfl (by decide) (by decide) _ _ _ [.int .i64 (-71), .int .i64 0, .int .i64 0, .int .i64 0, .int .i64 0] rfl rfl rfl (by simp [Value.oneCell']) hown2 hB2 hB2.size (by omega) ?_; intro v3 w3 hown3 hB3 hg3 hat3))
  go_ret
  have hl : (l ++ [mark]).length = an + 1 := by rw [List.length_append, hS.len]; rfl
  have hO : OwnS w3 w.heap.size v3 (l ++ [mark]) := by
    unfold OwnS
    rw [hl, ← rowS_snoc]
    exact own_less (by rw [hS.len] at hown3; exact hown3) hB0
  obtain ⟨g, c, rfl, _, _⟩ := hO.form (by rw [hl]; omega)
  rw [hl]
  rw [hl] at hO
  exact ⟨g, c, rfl, own_le hO, hO, below_step hB1 hB3⟩
set_option maxHeartbeats 2000000 in
set_option maxRecDepth 100000 in
theorem still_calls (atk apl au av avx avy ahd ahe aen aam aco awt asp asc : Int) (anm : ByteArray) (aA : Option Addr) (an ac : Nat) (w : World) (g1 c base : Nat) (l : List S5) (hO : OwnS w base (.slice (some ⟨g1, 0, none⟩) (an + 1) c) (l ++ [mark])) (hS : SRow w aA an l) (hn : an * 40 ≤ 140737488351232) : Calls Try.prog 28 #[.slice (some ⟨g1, 0, none⟩) (an + 1) c, .agg #[.int .u64 atk, .int .i64 apl, .string anm, .int .i64 au, .int .i64 av, .int .i64 avx, .int .i64 avy, .int .i64 ahd, .int .i64 ahe, .int .i64 aen, .int .i64 aam, .int .i64 aco, .int .i64 awt, .int .i64 asp, .int .i64 asc, .slice aA an ac]] w fun e w' => e = .returned (.bool true) ∧ Below w.heap.size w w' := by
  have hu45 := Try.underlying45
  have hu55 := Try.underlying55
  have hu47 := Try.underlying47
  have hu38 := Try.underlying38
  have hu3 := Try.underlying3
  have hu2 := Try.underlying2
  have hl : (l ++ [mark]).length = an + 1 := by rw [List.length_append, hS.len]; rfl
  have hS0 := own_srow hO (an + 1) (Nat.le_of_eq hl.symm)
  rw [List.take_of_length_le (Nat.le_of_eq hl)] at hS0
  clear hO
  have hnn : (an : Int) ≤ 140737488351232 := by omega
  have hn0 : (0 : Int) ≤ an := Int.natCast_nonneg an
  have hnl : (an : Int) < ((an + 1 : Nat) : Int) := by omega
  have hnl2 : (an : Int) < (an : Int) + 1 := by omega
  have hmk : At w ⟨g1, an * 5, none⟩ (mark).cs := by
    obtain ⟨ad, e, hc⟩ := hS0.at_ an (Nat.lt_succ_self an)
    injection e with e
    subst e
    rw [add_plain] at hc
    have e1 : (l ++ [mark]).getD an default = mark := by
      have := hS.len
      subst this
      simp [List.getD_eq_getElem?_getD]
    rwa [e1] at hc
  have hc0 : w.cell? ⟨g1, an * 5, none⟩ = some (.int .i64 (-71)) := by
    have := hmk.cell 0 rfl
    rwa [show (⟨g1, an * 5, none⟩ : Addr).add 0 = ⟨g1, an * 5, none⟩ by simp [Addr.add]] at this
  clear hmk
  go_enter Try.func28, Try.ntmps28
  go_wp2_with (first
    | ((with_reducible refine gate_dst (N := 3) rfl ?_); refine box_event ?hg (N := 3) ?hd (cs := #[.int .u64 atk, .int .i64 apl, .string anm, .int .i64 au, .int .i64 av, .int .i64 avx, .int .i64 avy, .int .i64 ahd, .int .i64 ahe, .int .i64 aen, .int .i64 aam, .int .i64 aco, .int .i64 awt, .int .i64 asp, .int .i64 asc, .slice aA an ac]) (t := 47) ?hr ?_; (case hd => rfl); (case hg => rfl); (case hr => first | (go_simp; done) | (go_simp; rfl)); intro g3 eg3 w1 Xg3 Bg3; have hc0 := pw_cell_below Bg3 hc0; clear eg3; have cg3_15 : w1.cell? ⟨g3, 15, none⟩ = some (.slice aA an ac) := (blk_cell Xg3 15).trans rfl))
  go_loopw [6] (fun i wr => ∃ k : Nat, k ≤ an ∧ i = .int .i64 k ∧ Aside0 (Drawn0 w1 wr)) (fun i _ => an - (intOf i).toNat)
  case atStart => exact ⟨0, Nat.zero_le _, rfl, ⟨Drawn0.refl _⟩⟩
  case round =>
    clear hc0 cg3_15
    obtain ⟨k, hk, rfl, HD⟩ := hrel
    have hD := HD.out
    clear HD
    have cg3_15 : wr.cell? ⟨g3, 15, none⟩ = some (.slice aA an ac) := dcell hD ((blk_cell Xg3 15).trans rfl)
    by_cases hlt : k < an
    · obtain ⟨ad, e1, hc2⟩ := ((hS.below Bg3).drawn hD).at_ k hlt
      subst e1
      obtain ⟨ad2, e2, hc1⟩ := ((hS0.below Bg3).drawn hD).at_ k (by omega)
      injection e2 with e2
      subst e2
      rw [add_plain] at hc1
      have e3 : (l ++ [mark]).getD k default = l.getD k default := by
        rw [List.getD_eq_getElem?_getD, List.getD_eq_getElem?_getD, List.getElem?_append_left (by rw [hS.len]; exact hlt)]
      rw [e3] at hc1
      clear e3
      generalize l.getD k default = s at hc1 hc2
      have hc1 : At wr ⟨g1, k * 5, none⟩ [.int .i64 s.ki, .int .i64 s.id, .int .i64 s.x, .int .i64 s.y, .int .i64 s.hd] := hc1
      have hc2 : At wr (ad.add (k * 5)) [.int .i64 s.ki, .int .i64 s.id, .int .i64 s.x, .int .i64 s.y, .int .i64 s.hd] := hc2
      have hk2 : (k : Int) < (an : Int) := Int.ofNat_lt.mpr hlt
      have hk0 : (0 : Int) ≤ k := Int.natCast_nonneg k
      have hk3 : (k : Int) < ((an + 1 : Nat) : Int) := by omega
      have hk4 : (k : Int) < (an : Int) + 1 := by omega
      go_wp2_with fail
      refine start_ (n := 10) (S := fun w' => At w' ⟨g1, k * 5, none⟩ [.int .i64 s.ki, .int .i64 s.id, .int .i64 s.x, .int .i64 s.y, .int .i64 s.hd] ∧ At w' (ad.add (k * 5)) [.int .i64 s.ki, .int .i64 s.id, .int .i64 s.x, .int .i64 s.y, .int .i64 s.hd] ∧ w'.cell? ⟨g3, 15, none⟩ = some (.slice (some ad) an ac)) (ds := []) #[false, false, false, false, false, false, false, false, false, false] (by kernel_rfl) rfl rfl ⟨hc1.drew, hc2.drew, cg3_15⟩ (fun hHeld => ?_)
      refine pure_ (i := 0) (N := some 28) (v := ?_) (a' := ?_) #[true, false, false, false, false, false, false, false, false, false] rfl rfl (by kernel_rfl) (fun _ _ _ h => h) (Or.inl ⟨by rfl, ?_⟩) ?_ ?_
      rotate_left
      · intro w'
        go_simp
        with_reducible rfl
      rotate_left
      · simp only [Act.put, List.setIfInBounds_toArray, List.set_cons_zero, List.set_cons_succ, i64_w, i32_w]
        rfl
      refine pure_ (i := 1) (N := some 29) (v := ?_) (a' := ?_) #[true, true, false, false, false, false, false, false, false, false] rfl rfl (by kernel_rfl) (fun _ _ _ h => h) (Or.inl ⟨by rfl, ?_⟩) ?_ ?_
      rotate_left
      · intro w'
        go_simp
        with_reducible rfl
      rotate_left
      · simp only [Act.put, List.setIfInBounds_toArray, List.set_cons_zero, List.set_cons_succ, i64_w, i32_w]
        rfl
      refine pure_ (i := 2) (N := some 30) (v := ?_) (a' := ?_) #[true, true, true, false, false, false, false, false, false, false] rfl rfl (by kernel_rfl) (fun _ _ _ h => h) (Or.inl ⟨by rfl, ?_⟩) ?_ ?_
      rotate_left
      · intro w'
        go_simp
        with_reducible rfl
      rotate_left
      · simp only [Act.put, List.setIfInBounds_toArray, List.set_cons_zero, List.set_cons_succ, i64_w, i32_w]
        rfl
      refine pure_ (i := 4) (N := some 32) (v := ?_) (a' := ?_) #[true, true, true, false, true, false, false, false, false, false] rfl rfl (by kernel_rfl) (fun _ _ _ h => h) (Or.inl ⟨by rfl, ?_⟩) ?_ ?_
      rotate_left
      · intro w'
        go_simp
        with_reducible rfl
      rotate_left
      · simp only [Act.put, List.setIfInBounds_toArray, List.set_cons_zero, List.set_cons_succ, i64_w, i32_w]
        rfl
      refine pure_ (i := 6) (N := some 34) (v := ?_) (a' := ?_) #[true, true, true, false, true, false, true, false, false, false] rfl rfl (by kernel_rfl) (fun _ _ _ h => h) (Or.inl ⟨by rfl, ?_⟩) ?_ ?_
      rotate_left
      · intro w'
        go_simp
        with_reducible rfl
      rotate_left
      · simp only [Act.put, List.setIfInBounds_toArray, List.set_cons_zero, List.set_cons_succ, i64_w, i32_w]
        rfl
      refine take_ (i := 3) (N := some 31) (v := ?_) (a' := ?_) #[true, true, true, true, true, false, true, false, false, false] rfl rfl (by kernel_rfl) (fun _ _ _ h => h) (Or.inl ⟨by rfl, ?_⟩) hHeld ?_ ?_
      rotate_left
      · rintro w' ⟨s0, s1, s2⟩
        refine Eq.trans (exec_load_at 55 _ (by rfl) ⟨g1, k * 5, none⟩ (by rfl) [.int .i64 s.ki, .int .i64 s.id, .int .i64 s.x, .int .i64 s.y, .int .i64 s.hd] _ Try.underlying55 rfl (by kernel_rfl) s0) ?_
        with_reducible rfl
      rotate_left
      · simp only [Act.put, List.setIfInBounds_toArray, List.set_cons_zero, List.set_cons_succ, i64_w, i32_w]
        rfl
      refine take_ (i := 5) (N := some 33) (v := ?_) (a' := ?_) #[true, true, true, true, true, true, true, false, false, false] rfl rfl (by kernel_rfl) (fun _ _ _ h => h) (Or.inl ⟨by rfl, ?_⟩) hHeld ?_ ?_
      rotate_left
      · rintro w' ⟨s0, s1, s2⟩
        go_simp
        with_reducible rfl
      rotate_left
      · simp only [Act.put, List.setIfInBounds_toArray, List.set_cons_zero, List.set_cons_succ, i64_w, i32_w]
        rfl
      refine pure_ (i := 7) (N := some 35) (v := ?_) (a' := ?_) #[true, true, true, true, true, true, true, true, false, false] rfl rfl (by kernel_rfl) (fun _ _ _ h => h) (Or.inl ⟨by rfl, ?_⟩) ?_ ?_
      rotate_left
      · intro w'
        go_simp
        with_reducible rfl
      rotate_left
      · simp only [Act.put, List.setIfInBounds_toArray, List.set_cons_zero, List.set_cons_succ, i64_w, i32_w]
        rfl
      refine take_ (i := 8) (N := some 36) (v := ?_) (a' := ?_) #[true, true, true, true, true, true, true, true, true, false] rfl rfl (by kernel_rfl) (fun _ _ _ h => h) (Or.inl ⟨by rfl, ?_⟩) hHeld ?_ ?_
      rotate_left
      · rintro w' ⟨s0, s1, s2⟩
        refine Eq.trans (exec_load_at 55 _ (by rfl) (ad.add (k * 5)) (by rfl) [.int .i64 s.ki, .int .i64 s.id, .int .i64 s.x, .int .i64 s.y, .int .i64 s.hd] _ Try.underlying55 rfl (by kernel_rfl) s1) ?_
        with_reducible rfl
      rotate_left
      · simp only [Act.put, List.setIfInBounds_toArray, List.set_cons_zero, List.set_cons_succ, i64_w, i32_w]
        rfl
      refine pure_ (i := 9) (N := some 37) (v := ?_) (a' := ?_) #[true, true, true, true, true, true, true, true, true, true] rfl rfl (by kernel_rfl) (fun _ _ _ h => h) (Or.inl ⟨by rfl, ?_⟩) ?_ ?_
      rotate_left
      · intro w'
        go_simp
        with_reducible rfl
      rotate_left
      · simp only [Act.put, List.setIfInBounds_toArray, List.set_cons_zero, List.set_cons_succ, i64_w, i32_w]
        rfl
      refine done_ (by kernel_rfl) ?_

      go_wp2
      go_roundw
      case rel => exact ⟨k + 1, by omega, by go_num, ⟨hD.step 1⟩⟩
      case measure => simp [intOf]; omega
    · obtain rfl : k = an := by omega
      go_wp2_with fail
      go_ret
      exact ⟨rfl, dbelow hD Bg3⟩
end Go.Proofs.Ytjffkidfoapbjaa.Fl
