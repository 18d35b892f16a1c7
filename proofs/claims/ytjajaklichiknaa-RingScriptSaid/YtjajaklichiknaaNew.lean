/- Proved: the walks of New and same; a ring as a list. -/
import Derived.Test.YtjajaklichiknaaPush
namespace Go.Proofs.Ytjajaklichiknaa.Rg
open Go.RowKit Go.Proofs.YtjajaklichiknaaW.PrintWords Go.Proofs.YtjajaklichiknaaW.PrintLast Go.Proofs.YtjajaklichiknaaW.PrintMore
set_option linter.unusedVariables false
set_option linter.unusedSimpArgs false

/-- A ring as a list: what there is, first in first. -/
def RQ (w : World) (g gt n : Nat) (q : List Int) : Prop := ∃ xs f, RC w g gt n f q.length xs ∧ ∀ i, i < q.length → xs.getD ((f + i) % n) 0 = q.getD i 0
theorem RQ.drawn {w w' : World} {g gt n : Nat} {q : List Int} (h : RQ w g gt n q) (d : Drawn0 w w') : RQ w' g gt n q := let ⟨xs, f, hc, hq⟩ := h; ⟨xs, f, hc.drawn d, hq⟩
theorem RQ.drew {w : World} {g gt n : Nat} {q : List Int} (h : RQ w g gt n q) : RQ w.drew g gt n q := let ⟨xs, f, hc, hq⟩ := h; ⟨xs, f, hc.drew, hq⟩
theorem RQ.below {w w' : World} {g gt n : Nat} {q : List Int} (h : RQ w g gt n q) (d : Below w.heap.size w w') : RQ w' g gt n q := let ⟨xs, f, hc, hq⟩ := h; ⟨xs, f, hc.below d, hq⟩
theorem RQ.only {w w' : World} {g gt n : Nat} {q : List Int} {S : Nat → Prop} (h : RQ w g gt n q) (d : Only w w' S) (h1 : ¬ S g) (h2 : ¬ S gt) : RQ w' g gt n q := let ⟨xs, f, hc, hq⟩ := h; ⟨xs, f, hc.only d h1 h2, hq⟩
theorem RQ.len {w : World} {g gt n : Nat} {q : List Int} (h : RQ w g gt n q) : q.length ≤ n := let ⟨xs, f, hc, hq⟩ := h; hc.hm
theorem RQ.size {w : World} {g gt n : Nat} {q : List Int} (h : RQ w g gt n q) : 0 < n ∧ n ≤ 4096 := let ⟨xs, f, hc, hq⟩ := h; ⟨hc.n0, hc.n1⟩
theorem RQ.lt {w : World} {g gt n : Nat} {q : List Int} (h : RQ w g gt n q) : g < w.heap.size ∧ gt < w.heap.size := let ⟨xs, f, hc, hq⟩ := h; ⟨blk_lt hc.hg, blk_lt hc.ht⟩
theorem mod2 {a n : Nat} (h : a < 2 * n) : a % n = if a < n then a else a - n := by
  split
  · exact Nat.mod_eq_of_lt ‹_›
  · rw [Nat.mod_eq_sub_mod (by omega), Nat.mod_eq_of_lt (by omega)]
theorem getD_set (xs : List Int) (j i : Nat) (x : Int) (hj : j < xs.length) : (xs.set j x).getD i 0 = if i = j then x else xs.getD i 0 := by
  simp only [List.getD_eq_getElem?_getD]
  by_cases e : i = j
  · subst e
    simp [hj]
  · rw [List.getElem?_set_ne (fun h => e h.symm), if_neg e]
section
variable (w : World) {g gt n : Nat} {q : List Int} (h : RQ w g gt n q)
include h
theorem lenq_calls : Calls Try.prog 14 #[.pointer (some ⟨g, 0, none⟩)] w fun e w' => e = .returned (.int .i64 q.length) ∧ Drawn0 w w' := by
  obtain ⟨xs, f, hc, hq⟩ := h
  exact len_calls w hc
theorem roomq_calls : Calls Try.prog 16 #[.pointer (some ⟨g, 0, none⟩)] w fun e w' => e = .returned (.int .i64 ((n - q.length : Nat) : Int)) ∧ Drawn0 w w' := by
  obtain ⟨xs, f, hc, hq⟩ := h
  exact room_calls w hc
theorem pushq_full (x : Int) (hm : q.length = n) : Calls Try.prog 11 #[.pointer (some ⟨g, 0, none⟩), .int .i64 x] w fun e w' => e = .returned (.int .i64 111) ∧ Drawn0 w w' := by
  obtain ⟨xs, f, hc, hq⟩ := h
  exact push_full w hc x hm
theorem pushq_room (x : Int) (hlt : q.length < n) : Calls Try.prog 11 #[.pointer (some ⟨g, 0, none⟩), .int .i64 x] w fun e w' => e = .returned (.int .i64 0) ∧ RQ w' g gt n (q ++ [x]) ∧ Only w w' (fun k => k = g ∨ k = gt) := by
  obtain ⟨xs, f, hc, hq⟩ := h
  refine (push_room w hc x hlt).mono ?_
  rintro e w' ⟨rfl, h1, h2⟩
  refine ⟨rfl, ⟨_, f, by rw [List.length_append]; exact h1, fun i hi => ?_⟩, h2⟩
  have hf := hc.hf
  have hn := hc.hn
  rw [List.length_append, List.length_singleton] at hi
  rw [getD_set _ _ _ _ (by rw [hn]; exact Nat.mod_lt _ hc.n0), mod2 (a := f + i) (by omega), mod2 (a := f + q.length) (by omega)]
  by_cases e : i = q.length
  · subst e
    rw [if_pos rfl]
    simp
  · rw [if_neg (by split <;> split <;> omega), ← mod2 (by omega), hq i (by omega)]
    simp [List.getD_eq_getElem?_getD, List.getElem?_append_left (show i < q.length by omega)]
theorem popq_none (hm : q = []) : Calls Try.prog 13 #[.pointer (some ⟨g, 0, none⟩)] w fun e w' => e = .returned (.tuple #[.int .i64 0, .bool false]) ∧ Drawn0 w w' := by
  obtain ⟨xs, f, hc, hq⟩ := h
  exact pop_none w hc (by rw [hm]; rfl)
theorem popq_some (x : Int) (r : List Int) (hm : q = x :: r) : Calls Try.prog 13 #[.pointer (some ⟨g, 0, none⟩)] w fun e w' => e = .returned (.tuple #[.int .i64 x, .bool true]) ∧ RQ w' g gt n r ∧ Only w w' (fun k => k = g ∨ k = gt) := by
  obtain ⟨xs, f, hc, hq⟩ := h
  subst hm
  have hf := hc.hf
  have hn := hc.hn
  have hm := hc.hm
  rw [List.length_cons] at hm
  refine (pop_some w hc (by simp)).mono ?_
  rintro e w' ⟨rfl, h1, h2⟩
  have e0 := hq 0 (by simp)
  rw [Nat.add_zero, Nat.mod_eq_of_lt hf] at e0
  refine ⟨by rw [e0]; rfl, ⟨_, _, h1, fun i hi => ?_⟩, h2⟩
  rw [getD_set _ _ _ _ (by omega)]
  have e1 : ((f + 1) % n + i) % n = (f + (i + 1)) % n := by rw [Nat.mod_add_mod]; congr 1; omega
  rw [e1, if_neg (by rw [mod2 (a := f + (i + 1)) (by omega)]; split <;> omega), hq (i + 1) (by simp; omega)]
  simp
theorem atq_out (i : Int) (hi : i < 0 ∨ (q.length : Int) ≤ i) : Calls Try.prog 21 #[.pointer (some ⟨g, 0, none⟩), .int .i64 i] w fun e w' => e = .returned (.tuple #[.int .i64 0, .bool false]) ∧ Drawn0 w w' := by
  obtain ⟨xs, f, hc, hq⟩ := h
  exact at_out w hc i hi
theorem atq_in (i : Nat) (hi : i < q.length) : Calls Try.prog 21 #[.pointer (some ⟨g, 0, none⟩), .int .i64 i] w fun e w' => e = .returned (.tuple #[.int .i64 (q.getD i 0), .bool true]) ∧ Drawn0 w w' := by
  obtain ⟨xs, f, hc, hq⟩ := h
  rw [← hq i hi]
  exact at_in w hc i hi
end
set_option maxRecDepth 100000 in
theorem new_bad (w : World) (s : Int) (hs : s < 1 ∨ 4096 < s) : Calls Try.prog 9 #[.int .i64 s] w fun e w' => e = .returned (.tuple #[.pointer none, .int .i64 110]) ∧ Drawn0 w w' := by
  by_cases h1 : s < 1
  · go_enter Try.func9, Try.ntmps9
    go_wp2
    go_ret2
    exact ⟨rfl, Drawn0.refl _⟩
  · have h2 : 4096 < s := by omega
    have h3 : 1 ≤ s := by omega
    go_enter Try.func9, Try.ntmps9
    go_wp2
    go_ret2
    exact ⟨rfl, Drawn0.refl _⟩
set_option maxRecDepth 100000 in
theorem new_ok (w : World) (n : Nat) (h0 : 0 < n) (h1 : n ≤ 4096) : Calls Try.prog 9 #[.int .i64 n] w fun e w' => ∃ g gt, e = .returned (.tuple #[.pointer (some ⟨g, 0, none⟩), .int .i64 0]) ∧ RQ w' g gt n [] ∧ w.heap.size ≤ g ∧ w.heap.size ≤ gt ∧ g ≠ gt ∧ Below w.heap.size w w' := by
  have hu65 := Try.underlying65
  have hmk := print_make_of (P := Try.prog) 22 3 (.int .i64 0) 8 Try.underlying22 (by kernel_rfl) rfl (by decide) n (by omega)
  have hn1 : (1 : Int) ≤ n := by omega
  have hn2 : (n : Int) ≤ 4096 := by omega
  go_enter Try.func9, Try.ntmps9
  go_wp2
  go_ret2
  have e1 : ∀ o : Obj, (w.alloc o).heap.size = w.heap.size + 1 := fun o => by simp
  have B1 := (Below.refl w.heap.size w).alloc (Nat.le_refl _) (.cells (madeCells #[.int .i64 0] n) 3)
  have B2 := B1.alloc B1.size (.cells #[.slice (some ⟨w.heap.size, 0, none⟩) n n, .int .i64 0, .int .i64 0] 65)
  refine ⟨w.heap.size + 1, w.heap.size, rfl, ⟨List.replicate n 0, 0, ⟨?_, ?_, by omega, by simp, h0, h1, h0, Nat.zero_le _⟩, fun i hi => absurd hi (Nat.not_lt_zero _)⟩, by omega, Nat.le_refl _, by omega, B2⟩
  · have := heap_alloc_new (w.alloc (.cells (madeCells #[.int .i64 0] n) 3)) (.cells #[.slice (some ⟨w.heap.size, 0, none⟩) n n, .int .i64 0, .int .i64 0] 65)
    rw [e1] at this
    exact this
  · have hX : (w.alloc (.cells (madeCells #[.int .i64 0] n) 3)).heap[w.heap.size]? = some (.cells (encs ei (List.replicate n 0)).toArray 3 (0, 0)) := by
      refine (heap_alloc_new _ _).trans ?_
      have : madeCells #[.int .i64 0] n = (encs ei (List.replicate n 0)).toArray := by
        apply Array.ext
        · simp [encs, madeCells]
        · intro i h1 h2
          simp [encs, madeCells, Nat.mod_one]
      rw [this]
    exact blk_below hX ((Below.refl _ _).alloc (Nat.le_refl _) _)
end Go.Proofs.Ytjajaklichiknaa.Rg
