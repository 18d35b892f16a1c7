/- Proved: a list of numbers in its own memory: more come, the first go. -/
import Derived.Test.YtjajaklichiknaaIt3
namespace Go.Proofs.Ytjajaklichiknaa.Rg
open Go.RowKit Go.Proofs.YtjajaklichiknaaW.PrintWords Go.Proofs.YtjajaklichiknaaW.PrintLast Go.Proofs.YtjajaklichiknaaW.PrintMore
set_option linter.unusedVariables false
set_option linter.unusedSimpArgs false

theorem add_o (g o k : Nat) : (⟨g, o, none⟩ : Addr).add k = ⟨g, o + k, none⟩ := by
  unfold Addr.add
  split
  · rename_i h; subst h; rfl
  · rfl
theorem al_lt' (w : World) (o : Obj) {k : Nat} (h : k < w.heap.size) : (w.alloc o).heap[k]? = w.heap[k]? := ((Below.refl w.heap.size w).alloc (Nat.le_refl _) o).block k h
/-- The list q, in memory of its own (from base on), wherever in its block it begins. -/
def OQ (w : World) (base : Nat) (v : Value) (q : List Int) : Prop :=
  (v = .slice none 0 0 ∧ q = []) ∨ ∃ g o cap cur, v = .slice (some ⟨g, o, none⟩) q.length cap ∧ base ≤ g ∧ w.heap[g]? = some (.cells cur 3 (0, 0)) ∧ q.length ≤ cap ∧ cap ≤ maxLen ∧ o + cap ≤ cur.size ∧ ∀ j, j < q.length → cur[o + j]? = some (ei (q.getD j 0))
section
variable {w w' : World} {base : Nat} {v : Value} {q : List Int}
theorem OQ.nil (w : World) (base : Nat) : OQ w base (.slice none 0 0) [] := .inl ⟨rfl, rfl⟩
theorem OQ.lt (h : OQ w base v q) : ∀ k, v.ownBlock = some k → base ≤ k ∧ k < w.heap.size := by
  intro k hk
  rcases h with ⟨rfl, _⟩ | ⟨g, o, cap, cur, rfl, hb, hg, _⟩
  · cases hk
  · cases hk
    exact ⟨hb, blk_lt hg⟩
theorem OQ.only {T : Nat → Prop} (h : OQ w base v q) (hO : Only w w' T) (hs : ∀ k, v.ownBlock = some k → ¬ T k) : OQ w' base v q := by
  rcases h with h | ⟨g, o, cap, cur, rfl, hb, hg, hr⟩
  · exact .inl h
  · exact .inr ⟨g, o, cap, cur, rfl, hb, hO.blk hg (hs g rfl), hr⟩
theorem OQ.slice (h : OQ w base v q) : ∃ A c, v = .slice A q.length c ∧ q.length ≤ c ∧ ReadsOf ei 0 w A q.length q := by
  rcases h with ⟨rfl, rfl⟩ | ⟨g, o, cap, cur, rfl, hb, hg, hn, hm, hs, hq⟩
  · exact ⟨none, 0, rfl, Nat.le_refl _, ⟨rfl, Nat.zero_le _, fun h => absurd h (Nat.lt_irrefl 0)⟩⟩
  · refine ⟨_, cap, rfl, hn, rfl, by unfold maxLen at hm; omega, fun h => ⟨_, rfl, fun j hj => ?_⟩⟩
    rw [add_o, blk_cell hg (o + j)]
    exact hq j hj
/-- The first has gone. -/
theorem OQ.tail {x : Int} {A : Option Addr} {n c : Nat} (h : OQ w base (.slice A n c) (x :: q)) : ∃ a, A = some a ∧ n = q.length + 1 ∧ n ≤ c ∧ OQ w base (.slice (some (a.add 1)) (n - 1) (c - 1)) q := by
  rcases h with ⟨_, h⟩ | ⟨g, o, cap, cur, hv, hb, hg, hn, hm, hs, hq⟩
  · cases h
  · injection hv with h1 h2 h3
    subst h1 h2 h3
    simp only [List.length_cons] at hn ⊢
    refine ⟨_, rfl, trivial, hn, .inr ⟨g, o + 1, c - 1, cur, by rw [add_o]; rfl, hb, hg, by omega, by omega, by omega, fun j hj => ?_⟩⟩
    have := hq (j + 1) (by simp only [List.length_cons]; omega)
    rw [show o + (j + 1) = o + 1 + j by omega] at this
    simpa using this
theorem info3 : ∃ i : TypeInfo, Try.prog.info? 3 = some i ∧ i.zero = some (.int .i64 0) ∧ i.size = 1 ∧ i.bytes = 8 := by
  have h : (Try.prog.info? 3).map (fun i => (i.zero, i.size, i.bytes)) = some (some (.int .i64 0), 1, 8) := by kernel_rfl
  obtain ⟨i, hi, he⟩ := Option.map_eq_some_iff.1 h
  simp only [Prod.mk.injEq] at he
  exact ⟨i, hi, he.1, he.2.1, he.2.2⟩
theorem append_at_o (ty : TypeId) {i : TypeInfo} (hi : Try.prog.info? 3 = some i) (h1 : i.size = 1) (g o n cap : Nat) (cur : Array Value) (hg : w.heap[g]? = some (.cells cur 3 (0, 0))) (a : Addr) (c : Nat) (y : Int) (ha : w.cell? a = some (ei y)) (hroom : n + 1 ≤ cap) (hfit : o + n + 1 ≤ cur.size) :
    (Builtin.append_ #[22, 22] ty #[.slice (some ⟨g, o, none⟩) n cap, .slice (some a) 1 c]).run Try.prog w = .ok (.slice (some ⟨g, o, none⟩) (n + 1) cap) (w.setRow g (cur.toList.take (o + n) ++ [ei y] ++ cur.toList.drop (o + n + 1)).toArray) := by
  have hnews : ∀ j u, ([ei y] : List Value)[j]? = some u → w.cell? (a.add j) = some u := by
    intro j u hu
    rcases j with _ | j
    · simpa [Addr.add] using (by simpa using hu : ei y = u) ▸ ha
    · simp at hu
  have hf := run_firstCells_some (P := Try.prog) w i.size 1 a 1 c [ei y] (by rw [h1]; rfl) hnews
  have hst := run_storeCells_at Try.prog g (o + n) 3 [ei y] 0 cur w hg (by simpa using hfit) (fun u hu => by rw [List.mem_singleton.1 hu]; rfl)
  simp only [Nat.add_zero] at hst
  rw [h1] at hf
  simp only [List.length_singleton] at hst
  simp [Builtin.append_, run_underlying Try.underlying22, sizeOf, typeInfo, hi, h1, Builtin.lenOf, hroom, hf, add_o, hst]
/-- One more. -/
theorem OQ.push (h : OQ w base v q) (ty : TypeId) (a : Addr) (c : Nat) (y : Int) (ha : w.cell? a = some (ei y)) (hl : (q.length + 1) * 8 ≤ 140737488355328) (hbase : base ≤ w.heap.size) :
    ∃ v' w', (Builtin.append_ #[22, 22] ty #[v, .slice (some a) 1 c]).run Try.prog w = .ok v' w' ∧ OQ w' base v' (q ++ [y]) ∧ w.grownBy w' v.ownBlock ∧ (v'.ownBlock = v.ownBlock ∨ v'.ownBlock = some w.heap.size) := by
  obtain ⟨i, hi, hz, h1, hb8⟩ := info3
  have hnews : ∀ j u, ([ei y] : List Value)[j]? = some u → w.cell? (a.add j) = some u := by
    intro j u hu
    rcases j with _ | j
    · simpa [Addr.add] using (by simpa using hu : ei y = u) ▸ ha
    · simp at hu
  have fresh : ∀ (old : Nat) (olds : List Value), olds.length = q.length → (∀ j, j < q.length → olds[j]? = some (ei (q.getD j 0))) → OQ (w.drew.alloc (.cells (olds.toArray ++ [ei y].toArray ++ Builtin.zeroCells (Value.int .i64 0).cells (grownCap w (q.length + 1) old 3 - (q.length + 1))) 3)) base (.slice (some ⟨w.heap.size, 0, none⟩) (q.length + 1) (grownCap w (q.length + 1) old 3)) (q ++ [y]) := by
    intro old olds ho hos
    have hge := grownCap_ge w (q.length + 1) old 3
    have hcm : grownCap w (q.length + 1) old 3 ≤ maxLen := grownCap_le_maxLen w (q.length + 1) old 3 (by unfold maxLen; omega)
    refine .inr ⟨w.heap.size, 0, _, _, by rw [List.length_append, List.length_singleton], hbase, al_at w.drew _, by rw [List.length_append, List.length_singleton]; exact hge, hcm, ?_, fun j hj => ?_⟩
    · simp only [Array.size_append, List.size_toArray, size_zeroCells, ho, List.length_singleton]
      show 0 + grownCap w (q.length + 1) old 3 ≤ q.length + 1 + (grownCap w (q.length + 1) old 3 - (q.length + 1)) * 1
      omega
    · rw [List.length_append, List.length_singleton] at hj
      rw [Nat.zero_add, Array.getElem?_append_left (by simp [ho]; omega)]
      by_cases c1 : j < q.length
      · rw [Array.getElem?_append_left (by simp [ho]; exact c1)]
        have := hos j c1
        simp only [List.getElem?_toArray]
        rw [this]
        simp [List.getD_eq_getElem?_getD, List.getElem?_append_left c1]
      · obtain rfl : j = q.length := by omega
        rw [Array.getElem?_append_right (by simp [ho])]
        simp [ho, List.getD_eq_getElem?_getD]
  rcases h with ⟨rfl, rfl⟩ | ⟨g, o, cap, cur, rfl, hb, hg, hn, hm, hs, hq⟩
  · have hr := run_append_nil (P := Try.prog) w 22 ty 3 i (.int .i64 0) Try.underlying22 hi hz a 1 c [ei y] (by rw [h1]; rfl) hnews (by omega) (by omega) (by rw [hb8]; omega)
    have hf := fresh 0 [] rfl (fun j hj => absurd hj (Nat.not_lt_zero j))
    simp only [List.length_nil, Nat.zero_add] at hf
    refine ⟨_, _, hr, by simpa using hf, ⟨rfl, rfl, rfl, by simp, fun k hk _ => al_lt' w.drew _ hk⟩, .inr rfl⟩
  · by_cases hroom : q.length + 1 ≤ cap
    · have hr := append_at_o (w := w) ty hi h1 g o q.length cap cur hg a c y ha hroom (by omega)
      refine ⟨_, _, hr, .inr ⟨g, o, cap, _, by rw [List.length_append, List.length_singleton], hb, setRow_heap w g cur _ 3 _ hg, by rw [List.length_append, List.length_singleton]; exact hroom, hm, ?_, fun j hj => ?_⟩, ⟨rfl, rfl, rfl, by simp, fun k _ hk => setRow_other w g k _ (fun e => hk (by simp [Value.ownBlock, e]))⟩, .inl rfl⟩
      · simp only [List.size_toArray, List.length_append, List.length_take, List.length_drop, Array.length_toList, List.length_singleton]
        omega
      · rw [List.length_append, List.length_singleton] at hj
        have hcl : (cur.toList.take (o + q.length)).length = o + q.length := by have e := Array.length_toList (xs := cur); rw [List.length_take]; omega
        simp only [List.getElem?_toArray, List.append_assoc]
        by_cases c1 : j < q.length
        · rw [List.getElem?_append_left (by rw [hcl]; omega), List.getElem?_take, if_pos (by omega)]
          have := hq j c1
          rw [← Array.getElem?_toList] at this
          rw [this]
          simp [List.getD_eq_getElem?_getD, List.getElem?_append_left c1]
        · obtain rfl : j = q.length := by omega
          rw [List.getElem?_append_right (by rw [hcl]; exact Nat.le_refl _), hcl]
          simp [List.getD_eq_getElem?_getD]
    · have hr := run_append_grow (P := Try.prog) w 22 ty 3 i (.int .i64 0) Try.underlying22 hi hz ⟨g, o, none⟩ q.length cap (encs ei q) (by rw [h1, Nat.mul_one]; simp [encs]) (fun j u hu => by
          have hj : j < q.length := by
            rcases Nat.lt_or_ge j q.length with h | h
            · exact h
            · simp [encs, List.getElem?_eq_none h] at hu
          rw [add_o, blk_cell hg (o + j), hq j hj, ← hu]
          simp [encs, List.getD_eq_getElem?_getD, hj]) a 1 c [ei y] (by rw [h1]; rfl) hnews (by omega) (by omega) (by rw [hb8]; exact growslice_fits (by omega) hl)
      have hf := fresh cap (encs ei q) (by simp [encs]) (fun j hj => by simp [encs, List.getD_eq_getElem?_getD, hj])
      exact ⟨_, _, hr, hf, ⟨rfl, rfl, rfl, by simp, fun k hk _ => al_lt' w.drew _ hk⟩, .inr rfl⟩
end
end Go.Proofs.Ytjajaklichiknaa.Rg
