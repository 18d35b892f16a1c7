/- Proved: the walks over a ring of texts: New, Push, Pop, Take. -/
import Derived.Test.YtjajaklichiknaaAlive
namespace Go.Proofs.Ytjajaklichiknaa.Rs
open Go.RowKit Go.Proofs.YtjajaklichiknaaW.PrintWords Go.Proofs.YtjajaklichiknaaW.PrintLast Go.Proofs.YtjajaklichiknaaW.PrintMore
open Go.Proofs.Ytjajaklichiknaa.Rg (Only dcell dblk dbelow drawn_drew mod2 wrap_id own_far)
set_option linter.unusedVariables false
set_option linter.unusedSimpArgs false
abbrev ei (x : ByteArray) : Value := .string x
abbrev z0 : ByteArray := ⟨#[]⟩
/-- A ring of numbers: its block g, its row's block gt, its size n, where its first lies, how many there are, what its row holds. -/
structure RC (w : World) (g gt n f m : Nat) (xs : List ByteArray) : Prop where
  hg : w.heap[g]? = some (.cells #[.slice (some ⟨gt, 0, none⟩) n n, .int .i64 f, .int .i64 m] 68 (0, 0))
  ht : w.heap[gt]? = some (.cells (encs ei xs).toArray 9 (0, 0))
  hne : g ≠ gt
  hn : xs.length = n
  n0 : 0 < n
  n1 : n ≤ 4096
  hf : f < n
  hm : m ≤ n
section
variable {w : World} {g gt n f m : Nat} {xs : List ByteArray}
theorem RC.c0 (h : RC w g gt n f m xs) : w.cell? ⟨g, 0, none⟩ = some (.slice (some ⟨gt, 0, none⟩) n n) := (blk_cell h.hg 0).trans rfl
theorem RC.c1 (h : RC w g gt n f m xs) : w.cell? ⟨g, 1, none⟩ = some (.int .i64 f) := (blk_cell h.hg 1).trans rfl
theorem RC.c2 (h : RC w g gt n f m xs) : w.cell? ⟨g, 2, none⟩ = some (.int .i64 m) := (blk_cell h.hg 2).trans rfl
theorem RC.at_ (h : RC w g gt n f m xs) (j : Nat) (hj : j < n) : w.cell? ⟨gt, j, none⟩ = some (.string (xs.getD j z0)) := by
  refine (blk_cell h.ht j).trans ?_
  have := encs_get (enc := ei) (d := z0) xs j (by rw [h.hn]; exact hj)
  simpa using this
theorem RC.drawn {w' : World} (h : RC w g gt n f m xs) (d : Drawn0 w w') : RC w' g gt n f m xs := ⟨dblk d h.hg, dblk d h.ht, h.hne, h.hn, h.n0, h.n1, h.hf, h.hm⟩
theorem RC.below {w' : World} (h : RC w g gt n f m xs) (d : Below w.heap.size w w') : RC w' g gt n f m xs := ⟨blk_below h.hg d, blk_below h.ht d, h.hne, h.hn, h.n0, h.n1, h.hf, h.hm⟩
theorem RC.drew (h : RC w g gt n f m xs) : RC w.drew g gt n f m xs := ⟨h.hg, h.ht, h.hne, h.hn, h.n0, h.n1, h.hf, h.hm⟩
theorem RC.only {w' : World} {S : Nat → Prop} (h : RC w g gt n f m xs) (d : Only w w' S) (h1 : ¬ S g) (h2 : ¬ S gt) : RC w' g gt n f m xs := ⟨d.blk h.hg h1, d.blk h.ht h2, h.hne, h.hn, h.n0, h.n1, h.hf, h.hm⟩
end
section
variable (w : World) {g gt n f m : Nat} {xs : List ByteArray} (h : RC w g gt n f m xs)
include h
set_option maxRecDepth 100000 in
theorem room_calls : Calls Try.prog 27 #[.pointer (some ⟨g, 0, none⟩)] w fun e w' => e = .returned (.int .i64 ((n - m : Nat) : Int)) ∧ Drawn0 w w' := by
  have hu65 := Try.underlying68
  have hm := h.hm
  have n1 := h.n1
  have hw : wrap64 ((n : Int) - m) = ((n - m : Nat) : Int) := by rw [wrap_id (by omega) (by omega)]; omega
  go_enter Try.func27, Try.ntmps27
  go_wp2_with fail
  refine start_ (n := 11) (S := fun w' => w'.cell? ⟨g, 0, none⟩ = some (.slice (some ⟨gt, 0, none⟩) n n) ∧ w'.cell? ⟨g, 2, none⟩ = some (.int .i64 m)) (ds := []) #[false, false, false, false, false, false, false, false, false, false, false] (by kernel_rfl) rfl rfl ⟨h.c0, h.c2⟩ (fun hHeld => ?_)
  refine pure_ (i := 0) (N := some 3) (v := ?_) (a' := ?_) #[true, false, false, false, false, false, false, false, false, false, false] rfl rfl (by kernel_rfl) (fun _ _ _ h => h) (Or.inl ⟨by rfl, ?_⟩) ?_ ?_
  rotate_left
  · intro w'
    go_simp
    with_reducible rfl
  rotate_left
  · simp only [Act.put, List.setIfInBounds_toArray, List.set_cons_zero, List.set_cons_succ, i64_w, i32_w]
    rfl
  refine pure_ (i := 1) (N := some 4) (v := ?_) (a' := ?_) #[true, true, false, false, false, false, false, false, false, false, false] rfl rfl (by kernel_rfl) (fun _ _ _ h => h) (Or.inl ⟨by rfl, ?_⟩) ?_ ?_
  rotate_left
  · intro w'
    go_simp
    with_reducible rfl
  rotate_left
  · simp only [Act.put, List.setIfInBounds_toArray, List.set_cons_zero, List.set_cons_succ, i64_w, i32_w]
    rfl
  refine pure_ (i := 2) (N := some 5) (v := ?_) (a' := ?_) #[true, true, true, false, false, false, false, false, false, false, false] rfl rfl (by kernel_rfl) (fun _ _ _ h => h) (Or.inl ⟨by rfl, ?_⟩) ?_ ?_
  rotate_left
  · intro w'
    go_simp
    with_reducible rfl
  rotate_left
  · simp only [Act.put, List.setIfInBounds_toArray, List.set_cons_zero, List.set_cons_succ, i64_w, i32_w]
    rfl
  refine pure_ (i := 5) (N := some 8) (v := ?_) (a' := ?_) #[true, true, true, false, false, true, false, false, false, false, false] rfl rfl (by kernel_rfl) (fun _ _ _ h => h) (Or.inl ⟨by rfl, ?_⟩) ?_ ?_
  rotate_left
  · intro w'
    go_simp
    with_reducible rfl
  rotate_left
  · simp only [Act.put, List.setIfInBounds_toArray, List.set_cons_zero, List.set_cons_succ, i64_w, i32_w]
    rfl
  refine pure_ (i := 6) (N := some 9) (v := ?_) (a' := ?_) #[true, true, true, false, false, true, true, false, false, false, false] rfl rfl (by kernel_rfl) (fun _ _ _ h => h) (Or.inl ⟨by rfl, ?_⟩) ?_ ?_
  rotate_left
  · intro w'
    go_simp
    with_reducible rfl
  rotate_left
  · simp only [Act.put, List.setIfInBounds_toArray, List.set_cons_zero, List.set_cons_succ, i64_w, i32_w]
    rfl
  refine pure_ (i := 7) (N := some 10) (v := ?_) (a' := ?_) #[true, true, true, false, false, true, true, true, false, false, false] rfl rfl (by kernel_rfl) (fun _ _ _ h => h) (Or.inl ⟨by rfl, ?_⟩) ?_ ?_
  rotate_left
  · intro w'
    go_simp
    with_reducible rfl
  rotate_left
  · simp only [Act.put, List.setIfInBounds_toArray, List.set_cons_zero, List.set_cons_succ, i64_w, i32_w]
    rfl
  refine take_ (i := 3) (N := some 6) (v := ?_) (a' := ?_) #[true, true, true, true, false, true, true, true, false, false, false] rfl rfl (by kernel_rfl) (fun _ _ _ h => h) (Or.inl ⟨by rfl, ?_⟩) hHeld ?_ ?_
  rotate_left
  · rintro w' ⟨s0, s1⟩
    go_simp
    with_reducible rfl
  rotate_left
  · simp only [Act.put, List.setIfInBounds_toArray, List.set_cons_zero, List.set_cons_succ, i64_w, i32_w]
    rfl
  refine pure_ (i := 4) (N := some 7) (v := ?_) (a' := ?_) #[true, true, true, true, true, true, true, true, false, false, false] rfl rfl (by kernel_rfl) (fun _ _ _ h => h) (Or.inl ⟨by rfl, ?_⟩) ?_ ?_
  rotate_left
  · intro w'
    go_simp
    with_reducible rfl
  rotate_left
  · simp only [Act.put, List.setIfInBounds_toArray, List.set_cons_zero, List.set_cons_succ, i64_w, i32_w]
    rfl
  refine take_ (i := 8) (N := some 11) (v := ?_) (a' := ?_) #[true, true, true, true, true, true, true, true, true, false, false] rfl rfl (by kernel_rfl) (fun _ _ _ h => h) (Or.inl ⟨by rfl, ?_⟩) hHeld ?_ ?_
  rotate_left
  · rintro w' ⟨s0, s1⟩
    go_simp
    with_reducible rfl
  rotate_left
  · simp only [Act.put, List.setIfInBounds_toArray, List.set_cons_zero, List.set_cons_succ, i64_w, i32_w]
    rfl
  refine pure_ (i := 9) (N := some 12) (v := ?_) (a' := ?_) #[true, true, true, true, true, true, true, true, true, true, false] rfl rfl (by kernel_rfl) (fun _ _ _ h => h) (Or.inl ⟨by rfl, ?_⟩) ?_ ?_
  rotate_left
  · intro w'
    go_simp
    with_reducible rfl
  rotate_left
  · simp only [Act.put, List.setIfInBounds_toArray, List.set_cons_zero, List.set_cons_succ, i64_w, i32_w]
    rfl
  refine pure_ (i := 10) (N := some 2) (v := ?_) (a' := ?_) #[true, true, true, true, true, true, true, true, true, true, true] rfl rfl (by kernel_rfl) (fun _ _ _ h => h) (Or.inl ⟨by rfl, ?_⟩) ?_ ?_
  rotate_left
  · intro w'
    go_simp
    with_reducible rfl
  rotate_left
  · simp only [Act.put, List.setIfInBounds_toArray, List.set_cons_zero, List.set_cons_succ, i64_w, i32_w]
    rfl
  refine done_ (by kernel_rfl) ?_

  go_wp2
  rw [hw]
  go_ret
  exact ⟨rfl, ⟨⟨_, rfl⟩⟩⟩
set_option maxRecDepth 100000 in
theorem place_calls (i : Nat) (hi : i ≤ n) : Calls Try.prog 28 #[.pointer (some ⟨g, 0, none⟩), .int .i64 i] w fun e w' => e = .returned (.int .i64 (((f + i) % n : Nat) : Int)) ∧ Drawn0 w w' := by
  have hu65 := Try.underlying68
  have n1 := h.n1
  have n0 := h.n0
  have hf := h.hf
  have hw : wrap64 ((f : Int) + i) = ((f + i : Nat) : Int) := by rw [wrap_id (by omega) (by omega)]; omega
  have hnz : ¬ n = 0 := by omega
  go_enter Try.func28, Try.ntmps28
  go_wp2_with fail
  refine start_ (n := 13) (S := fun w' => w'.cell? ⟨g, 0, none⟩ = some (.slice (some ⟨gt, 0, none⟩) n n) ∧ w'.cell? ⟨g, 1, none⟩ = some (.int .i64 f)) (ds := []) #[false, false, false, false, false, false, false, false, false, false, false, false, false] (by kernel_rfl) rfl rfl ⟨h.c0, h.c1⟩ (fun hHeld => ?_)
  refine pure_ (i := 0) (N := some 5) (v := ?_) (a' := ?_) #[true, false, false, false, false, false, false, false, false, false, false, false, false] rfl rfl (by kernel_rfl) (fun _ _ _ h => h) (Or.inl ⟨by rfl, ?_⟩) ?_ ?_
  rotate_left
  · intro w'
    go_simp
    with_reducible rfl
  rotate_left
  · simp only [Act.put, List.setIfInBounds_toArray, List.set_cons_zero, List.set_cons_succ, i64_w, i32_w]
    rfl
  refine pure_ (i := 1) (N := some 6) (v := ?_) (a' := ?_) #[true, true, false, false, false, false, false, false, false, false, false, false, false] rfl rfl (by kernel_rfl) (fun _ _ _ h => h) (Or.inl ⟨by rfl, ?_⟩) ?_ ?_
  rotate_left
  · intro w'
    go_simp
    with_reducible rfl
  rotate_left
  · simp only [Act.put, List.setIfInBounds_toArray, List.set_cons_zero, List.set_cons_succ, i64_w, i32_w]
    rfl
  refine pure_ (i := 2) (N := some 7) (v := ?_) (a' := ?_) #[true, true, true, false, false, false, false, false, false, false, false, false, false] rfl rfl (by kernel_rfl) (fun _ _ _ h => h) (Or.inl ⟨by rfl, ?_⟩) ?_ ?_
  rotate_left
  · intro w'
    go_simp
    with_reducible rfl
  rotate_left
  · simp only [Act.put, List.setIfInBounds_toArray, List.set_cons_zero, List.set_cons_succ, i64_w, i32_w]
    rfl
  refine pure_ (i := 4) (N := some 9) (v := ?_) (a' := ?_) #[true, true, true, false, true, false, false, false, false, false, false, false, false] rfl rfl (by kernel_rfl) (fun _ _ _ h => h) (Or.inl ⟨by rfl, ?_⟩) ?_ ?_
  rotate_left
  · intro w'
    go_simp
    with_reducible rfl
  rotate_left
  · simp only [Act.put, List.setIfInBounds_toArray, List.set_cons_zero, List.set_cons_succ, i64_w, i32_w]
    rfl
  refine pure_ (i := 6) (N := some 11) (v := ?_) (a' := ?_) #[true, true, true, false, true, false, true, false, false, false, false, false, false] rfl rfl (by kernel_rfl) (fun _ _ _ h => h) (Or.inl ⟨by rfl, ?_⟩) ?_ ?_
  rotate_left
  · intro w'
    go_simp
    with_reducible rfl
  rotate_left
  · simp only [Act.put, List.setIfInBounds_toArray, List.set_cons_zero, List.set_cons_succ, i64_w, i32_w]
    rfl
  refine pure_ (i := 7) (N := some 12) (v := ?_) (a' := ?_) #[true, true, true, false, true, false, true, true, false, false, false, false, false] rfl rfl (by kernel_rfl) (fun _ _ _ h => h) (Or.inl ⟨by rfl, ?_⟩) ?_ ?_
  rotate_left
  · intro w'
    go_simp
    with_reducible rfl
  rotate_left
  · simp only [Act.put, List.setIfInBounds_toArray, List.set_cons_zero, List.set_cons_succ, i64_w, i32_w]
    rfl
  refine pure_ (i := 8) (N := some 13) (v := ?_) (a' := ?_) #[true, true, true, false, true, false, true, true, true, false, false, false, false] rfl rfl (by kernel_rfl) (fun _ _ _ h => h) (Or.inl ⟨by rfl, ?_⟩) ?_ ?_
  rotate_left
  · intro w'
    go_simp
    with_reducible rfl
  rotate_left
  · simp only [Act.put, List.setIfInBounds_toArray, List.set_cons_zero, List.set_cons_succ, i64_w, i32_w]
    rfl
  refine take_ (i := 3) (N := some 8) (v := ?_) (a' := ?_) #[true, true, true, true, true, false, true, true, true, false, false, false, false] rfl rfl (by kernel_rfl) (fun _ _ _ h => h) (Or.inl ⟨by rfl, ?_⟩) hHeld ?_ ?_
  rotate_left
  · rintro w' ⟨s0, s1⟩
    go_simp
    with_reducible rfl
  rotate_left
  · simp only [Act.put, List.setIfInBounds_toArray, List.set_cons_zero, List.set_cons_succ, i64_w, i32_w]
    rfl
  refine pure_ (i := 5) (N := some 10) (v := ?_) (a' := ?_) #[true, true, true, true, true, true, true, true, true, false, false, false, false] rfl rfl (by kernel_rfl) (fun _ _ _ h => h) (Or.inl ⟨by rfl, ?_⟩) ?_ ?_
  rotate_left
  · intro w'
    go_simp
    with_reducible rfl
  rotate_left
  · simp only [Act.put, List.setIfInBounds_toArray, List.set_cons_zero, List.set_cons_succ, i64_w, i32_w]
    rfl
  refine take_ (i := 9) (N := some 14) (v := ?_) (a' := ?_) #[true, true, true, true, true, true, true, true, true, true, false, false, false] rfl rfl (by kernel_rfl) (fun _ _ _ h => h) (Or.inl ⟨by rfl, ?_⟩) hHeld ?_ ?_
  rotate_left
  · rintro w' ⟨s0, s1⟩
    go_simp
    with_reducible rfl
  rotate_left
  · simp only [Act.put, List.setIfInBounds_toArray, List.set_cons_zero, List.set_cons_succ, i64_w, i32_w]
    rfl
  refine pure_ (i := 10) (N := some 15) (v := ?_) (a' := ?_) #[true, true, true, true, true, true, true, true, true, true, true, false, false] rfl rfl (by kernel_rfl) (fun _ _ _ h => h) (Or.inl ⟨by rfl, ?_⟩) ?_ ?_
  rotate_left
  · intro w'
    go_simp
    with_reducible rfl
  rotate_left
  · simp only [Act.put, List.setIfInBounds_toArray, List.set_cons_zero, List.set_cons_succ, i64_w, i32_w]
    rfl
  refine pure_ (i := 11) (N := some 16) (v := ?_) (a' := ?_) #[true, true, true, true, true, true, true, true, true, true, true, true, false] rfl rfl (by kernel_rfl) (fun _ _ _ h => h) (Or.inl ⟨by rfl, ?_⟩) ?_ ?_
  rotate_left
  · intro w'
    go_simp
    with_reducible rfl
  rotate_left
  · simp only [Act.put, List.setIfInBounds_toArray, List.set_cons_zero, List.set_cons_succ, i64_w, i32_w]
    rfl
  refine pure_ (i := 12) (N := some 4) (v := ?_) (a' := ?_) #[true, true, true, true, true, true, true, true, true, true, true, true, true] rfl rfl (by kernel_rfl) (fun _ _ _ h => h) (Or.inl ⟨by rfl, ?_⟩) ?_ ?_
  rotate_left
  · intro w'
    go_simp
    with_reducible rfl
  rotate_left
  · simp only [Act.put, List.setIfInBounds_toArray, List.set_cons_zero, List.set_cons_succ, i64_w, i32_w]
    rfl
  refine done_ (by kernel_rfl) ?_

  go_wp2
  have hq : ((f : Int) + i).tmod n = (((f + i) % n : Nat) : Int) := by rw [← Int.natCast_add, ← Int.ofNat_tmod]
  rw [hq]
  go_ret
  exact ⟨rfl, ⟨⟨_, rfl⟩⟩⟩
end
section
variable (w : World) {g gt n f m : Nat} {xs : List ByteArray} (h : RC w g gt n f m xs)
include h
omit h in
theorem set_enc (j : Nat) (x : ByteArray) : (encs ei xs).toArray.setIfInBounds j (.string x) = (encs ei (xs.set j x)).toArray := by
  simp [encs, List.map_set]
theorem place_at (i j : Nat) (hi : i ≤ n) (ej : (f + i) % n = j) : Calls Try.prog 28 #[.pointer (some ⟨g, 0, none⟩), .int .i64 i] w fun e w' => e = .returned (.int .i64 (j : Int)) ∧ Drawn0 w w' := by
  subst ej
  exact place_calls w h i hi
theorem place_one : Calls Try.prog 28 #[.pointer (some ⟨g, 0, none⟩), .int .i64 1] w fun e w' => e = .returned (.int .i64 (((f + 1) % n : Nat) : Int)) ∧ Drawn0 w w' := place_calls w h 1 (by have := h.n0; omega)
set_option maxHeartbeats 1000000 in
set_option maxRecDepth 100000 in
theorem push_full (x : ByteArray) (hm : m = n) : Calls Try.prog 18 #[.pointer (some ⟨g, 0, none⟩), .string x] w fun e w' => e = .returned (.int .i64 111) ∧ Drawn0 w w' := by
  have hu65 := Try.underlying68
  subst hm
  go_enter Try.func18, Try.ntmps18
  go_wp2_with (go_at_call 27; refine (room_calls _ h).mono ?_; rintro e w1 ⟨rfl, hd⟩; rw [Nat.sub_self])
  go_ret
  exact ⟨rfl, hd⟩
set_option maxHeartbeats 1000000 in
set_option maxRecDepth 100000 in
theorem push_room (x : ByteArray) (hlt : m < n) : Calls Try.prog 18 #[.pointer (some ⟨g, 0, none⟩), .string x] w fun e w' => e = .returned (.int .i64 0) ∧ RC w' g gt n f (m + 1) (xs.set ((f + m) % n) x) ∧ Only w w' (fun k => k = g ∨ k = gt) := by
  have hu65 := Try.underlying68
  have n1 := h.n1
  have hz : ¬ n - m = 0 := by omega
  have hz2 : (((n - m : Nat) : Int) == 0) = false := by simp only [beq_eq_false_iff_ne, ne_eq]; omega
  go_enter Try.func18, Try.ntmps18
  · skip
    go_wp2_with (go_at_call 27; refine (room_calls _ h).mono ?_; rintro e w1 ⟨rfl, hd⟩)
    have h := h.drawn hd
    have hO := (Only.refl w (fun k => k = g ∨ k = gt)).drawn hd
    have hO := hO.drew
    clear hd
    obtain ⟨j, ej⟩ : ∃ j, (f + m) % n = j := ⟨_, rfl⟩
    have hj : j < n := ej ▸ Nat.mod_lt _ h.n0
    have hjI : (j : Int) < (n : Int) := Int.ofNat_lt.mpr hj
    have hj0 : (0 : Int) ≤ j := Int.natCast_nonneg j
    refine start_ (n := 13) (S := fun w' => w'.cell? ⟨g, 0, none⟩ = some (.slice (some ⟨gt, 0, none⟩) n n) ∧ w'.cell? ⟨g, 2, none⟩ = some (.int .i64 m) ∧ w'.cell? ⟨gt, j, none⟩ = some (.string (xs.getD j z0))) (ds := [12]) #[false, false, false, false, false, false, false, false, false, false, false, false, false] (by kernel_rfl) rfl rfl ⟨h.c0, h.c2, h.at_ j hj⟩ (fun hHeld => ?_)
    refine pure_ (i := 0) (N := some 8) (v := ?_) (a' := ?_) #[true, false, false, false, false, false, false, false, false, false, false, false, false] rfl rfl (by kernel_rfl) (fun _ _ _ h => h) (Or.inl ⟨by rfl, ?_⟩) ?_ ?_
    rotate_left
    · intro w'
      go_simp
      with_reducible rfl
    rotate_left
    · simp only [Act.put, List.setIfInBounds_toArray, List.set_cons_zero, List.set_cons_succ, i64_w, i32_w]
      rfl
    refine pure_ (i := 1) (N := some 9) (v := ?_) (a' := ?_) #[true, true, false, false, false, false, false, false, false, false, false, false, false] rfl rfl (by kernel_rfl) (fun _ _ _ h => h) (Or.inl ⟨by rfl, ?_⟩) ?_ ?_
    rotate_left
    · intro w'
      go_simp
      with_reducible rfl
    rotate_left
    · simp only [Act.put, List.setIfInBounds_toArray, List.set_cons_zero, List.set_cons_succ, i64_w, i32_w]
      rfl
    refine pure_ (i := 2) (N := some 10) (v := ?_) (a' := ?_) #[true, true, true, false, false, false, false, false, false, false, false, false, false] rfl rfl (by kernel_rfl) (fun _ _ _ h => h) (Or.inl ⟨by rfl, ?_⟩) ?_ ?_
    rotate_left
    · intro w'
      go_simp
      with_reducible rfl
    rotate_left
    · simp only [Act.put, List.setIfInBounds_toArray, List.set_cons_zero, List.set_cons_succ, i64_w, i32_w]
      rfl
    refine pure_ (i := 4) (N := some 12) (v := ?_) (a' := ?_) #[true, true, true, false, true, false, false, false, false, false, false, false, false] rfl rfl (by kernel_rfl) (fun _ _ _ h => h) (Or.inl ⟨by rfl, ?_⟩) ?_ ?_
    rotate_left
    · intro w'
      go_simp
      with_reducible rfl
    rotate_left
    · simp only [Act.put, List.setIfInBounds_toArray, List.set_cons_zero, List.set_cons_succ, i64_w, i32_w]
      rfl
    refine pure_ (i := 5) (N := some 13) (v := ?_) (a' := ?_) #[true, true, true, false, true, true, false, false, false, false, false, false, false] rfl rfl (by kernel_rfl) (fun _ _ _ h => h) (Or.inl ⟨by rfl, ?_⟩) ?_ ?_
    rotate_left
    · intro w'
      go_simp
      with_reducible rfl
    rotate_left
    · simp only [Act.put, List.setIfInBounds_toArray, List.set_cons_zero, List.set_cons_succ, i64_w, i32_w]
      rfl
    refine pure_ (i := 6) (N := some 14) (v := ?_) (a' := ?_) #[true, true, true, false, true, true, true, false, false, false, false, false, false] rfl rfl (by kernel_rfl) (fun _ _ _ h => h) (Or.inl ⟨by rfl, ?_⟩) ?_ ?_
    rotate_left
    · intro w'
      go_simp
      with_reducible rfl
    rotate_left
    · simp only [Act.put, List.setIfInBounds_toArray, List.set_cons_zero, List.set_cons_succ, i64_w, i32_w]
      rfl
    refine pure_ (i := 7) (N := some 15) (v := ?_) (a' := ?_) #[true, true, true, false, true, true, true, true, false, false, false, false, false] rfl rfl (by kernel_rfl) (fun _ _ _ h => h) (Or.inl ⟨by rfl, ?_⟩) ?_ ?_
    rotate_left
    · intro w'
      go_simp
      with_reducible rfl
    rotate_left
    · simp only [Act.put, List.setIfInBounds_toArray, List.set_cons_zero, List.set_cons_succ, i64_w, i32_w]
      rfl
    refine pure_ (i := 10) (N := some 18) (v := ?_) (a' := ?_) #[true, true, true, false, true, true, true, true, false, false, true, false, false] rfl rfl (by kernel_rfl) (fun _ _ _ h => h) (Or.inl ⟨by rfl, ?_⟩) ?_ ?_
    rotate_left
    · intro w'
      go_simp
      with_reducible rfl
    rotate_left
    · simp only [Act.put, List.setIfInBounds_toArray, List.set_cons_zero, List.set_cons_succ, i64_w, i32_w]
      rfl
    refine take_ (i := 3) (N := some 11) (v := ?_) (a' := ?_) #[true, true, true, true, true, true, true, true, false, false, true, false, false] rfl rfl (by kernel_rfl) (fun _ _ _ h => h) (Or.inl ⟨by rfl, ?_⟩) hHeld ?_ ?_
    rotate_left
    · rintro w' ⟨s0, s1, s2⟩
      go_simp
      with_reducible rfl
    rotate_left
    · simp only [Act.put, List.setIfInBounds_toArray, List.set_cons_zero, List.set_cons_succ, i64_w, i32_w]
      rfl
    refine take_ (i := 8) (N := some 16) (v := ?_) (a' := ?_) #[true, true, true, true, true, true, true, true, true, false, true, false, false] rfl rfl (by kernel_rfl) (fun _ _ _ h => h) (Or.inl ⟨by rfl, ?_⟩) hHeld ?_ ?_
    rotate_left
    · rintro w' ⟨s0, s1, s2⟩
      go_simp
      with_reducible rfl
    rotate_left
    · simp only [Act.put, List.setIfInBounds_toArray, List.set_cons_zero, List.set_cons_succ, i64_w, i32_w]
      rfl
    refine one_ (i := 9) (N := some 17) #[true, true, true, true, true, true, true, true, true, true, true, false, false] rfl rfl (by kernel_rfl) (by decide) (fun K hK => ?_)
    refine goes_ Try.func28 (by kernel_rfl) rfl _ (by rfl) rfl rfl (by simp only [List.map_toArray, List.map_cons, List.map_nil]; rfl) ?_
    refine (place_at _ h.drew m j h.hm ej).mono ?_
    rintro e u1 ⟨rfl, hd1⟩
    refine ⟨_, rfl, ?_⟩
    have h := h.drew.drawn hd1
    have hO := hO.drawn hd1
    refine hK.out _ _ ⟨dcell hd1 (hHeld.1), dcell hd1 (hHeld.2.1), dcell hd1 (hHeld.2.2)⟩ (fun hHeld => ?_)
    clear hK K
    refine norm_ (a' := ?_) ?_ ?_
    rotate_left
    · show Act.put _ (some 17) _ = _
      simp only [Act.put, List.setIfInBounds_toArray, List.set_cons_zero, List.set_cons_succ, i64_w, i32_w]
      rfl
    refine pure_ (i := 11) (N := some 19) (v := ?_) (a' := ?_) #[true, true, true, true, true, true, true, true, true, true, true, true, false] rfl rfl (by kernel_rfl) (fun _ _ _ h => h) (Or.inl ⟨by rfl, ?_⟩) ?_ ?_
    rotate_left
    · intro w'
      go_simp
      with_reducible rfl
    rotate_left
    · simp only [Act.put, List.setIfInBounds_toArray, List.set_cons_zero, List.set_cons_succ, i64_w, i32_w]
      rfl
    refine last_ (i := 12) (N := none) #[true, true, true, true, true, true, true, true, true, true, true, true, true] rfl rfl (by kernel_rfl) (by decide) (fun K hK => ?_)
    have hs := h.at_ j hj
    have hs2 := blk_frozen h.ht j
    refine skip_ (w1 := ?_) (by rfl) rfl ?_ ?_
    rotate_left
    · go_simp
      rfl
    refine hK.out _ _ ?_
    clear hK K
    refine done_ (by kernel_rfl) ?_

    have hz9 := h.hne
    have Xg : (_ : World).heap[g]? = _ := blk_far h.hg (p := ⟨gt, j, none⟩) hz9 (.string x)
    have Xt : (_ : World).heap[gt]? = _ := blk_set h.ht j (.string x)
    have hO := hO.set (p := ⟨gt, j, none⟩) (v := .string x) (.inr rfl)
    generalize World.setCell _ ⟨gt, j, none⟩ (.string x) = w9 at Xg Xt hO ⊢
    have c2 : w9.cell? ⟨g, 2, none⟩ = some (.int .i64 m) := (blk_cell Xg 2).trans rfl
    have f2 := blk_frozen Xg 2
    go_wp2
    go_ret
    refine ⟨rfl, ⟨blk_set Xg 2 _, ?_, h.hne, by rw [List.length_set]; exact h.hn, h.n0, h.n1, h.hf, by omega⟩, hO.set (.inl rfl)⟩
    rw [ej]
    exact (blk_far Xt (p := ⟨g, 2, none⟩) (fun e => hz9 e.symm) _).trans (by rw [set_enc])
set_option maxHeartbeats 1000000 in
set_option maxRecDepth 100000 in
theorem pop_none (hm : m = 0) : Calls Try.prog 19 #[.pointer (some ⟨g, 0, none⟩)] w fun e w' => e = .returned (.tuple #[.string z0, .bool false]) ∧ Drawn0 w w' := by
  have hu65 := Try.underlying68
  subst hm
  have c2 := h.c2
  go_enter Try.func19, Try.ntmps19
  go_wp2
  go_ret2
  exact ⟨rfl, Drawn0.refl _⟩
set_option maxHeartbeats 1000000 in
set_option maxRecDepth 100000 in
theorem pop_some (hlt : 0 < m) : Calls Try.prog 19 #[.pointer (some ⟨g, 0, none⟩)] w fun e w' => e = .returned (.tuple #[.string (xs.getD f z0), .bool true]) ∧ RC w' g gt n ((f + 1) % n) (m - 1) (xs.set f z0) ∧ Only w w' (fun k => k = g ∨ k = gt) := by
  have hu65 := Try.underlying68
  have n1 := h.n1
  have hmn := h.hm
  have c2 := h.c2
  have hf := h.hf
  have hfI : (f : Int) < (n : Int) := Int.ofNat_lt.mpr hf
  have hf0 : (0 : Int) ≤ f := Int.natCast_nonneg f
  have hz : ¬ m = 0 := by omega
  go_enter Try.func19, Try.ntmps19
  · skip
    go_wp2_with fail
    clear c2
    refine start_ (n := 11) (S := fun w' => w'.cell? ⟨g, 0, none⟩ = some (.slice (some ⟨gt, 0, none⟩) n n) ∧ w'.cell? ⟨g, 1, none⟩ = some (.int .i64 f) ∧ w'.cell? ⟨gt, f, none⟩ = some (.string (xs.getD f z0))) (ds := []) #[false, false, false, false, false, false, false, false, false, false, false] (by kernel_rfl) rfl rfl ⟨h.c0, h.c1, h.at_ f hf⟩ (fun hHeld => ?_)
    refine pure_ (i := 0) (N := some 12) (v := ?_) (a' := ?_) #[true, false, false, false, false, false, false, false, false, false, false] rfl rfl (by kernel_rfl) (fun _ _ _ h => h) (Or.inl ⟨by rfl, ?_⟩) ?_ ?_
    rotate_left
    · intro w'
      go_simp
      with_reducible rfl
    rotate_left
    · simp only [Act.put, List.setIfInBounds_toArray, List.set_cons_zero, List.set_cons_succ, i64_w, i32_w]
      rfl
    refine pure_ (i := 1) (N := some 13) (v := ?_) (a' := ?_) #[true, true, false, false, false, false, false, false, false, false, false] rfl rfl (by kernel_rfl) (fun _ _ _ h => h) (Or.inl ⟨by rfl, ?_⟩) ?_ ?_
    rotate_left
    · intro w'
      go_simp
      with_reducible rfl
    rotate_left
    · simp only [Act.put, List.setIfInBounds_toArray, List.set_cons_zero, List.set_cons_succ, i64_w, i32_w]
      rfl
    refine pure_ (i := 2) (N := some 14) (v := ?_) (a' := ?_) #[true, true, true, false, false, false, false, false, false, false, false] rfl rfl (by kernel_rfl) (fun _ _ _ h => h) (Or.inl ⟨by rfl, ?_⟩) ?_ ?_
    rotate_left
    · intro w'
      go_simp
      with_reducible rfl
    rotate_left
    · simp only [Act.put, List.setIfInBounds_toArray, List.set_cons_zero, List.set_cons_succ, i64_w, i32_w]
      rfl
    refine pure_ (i := 4) (N := some 16) (v := ?_) (a' := ?_) #[true, true, true, false, true, false, false, false, false, false, false] rfl rfl (by kernel_rfl) (fun _ _ _ h => h) (Or.inl ⟨by rfl, ?_⟩) ?_ ?_
    rotate_left
    · intro w'
      go_simp
      with_reducible rfl
    rotate_left
    · simp only [Act.put, List.setIfInBounds_toArray, List.set_cons_zero, List.set_cons_succ, i64_w, i32_w]
      rfl
    refine pure_ (i := 5) (N := some 17) (v := ?_) (a' := ?_) #[true, true, true, false, true, true, false, false, false, false, false] rfl rfl (by kernel_rfl) (fun _ _ _ h => h) (Or.inl ⟨by rfl, ?_⟩) ?_ ?_
    rotate_left
    · intro w'
      go_simp
      with_reducible rfl
    rotate_left
    · simp only [Act.put, List.setIfInBounds_toArray, List.set_cons_zero, List.set_cons_succ, i64_w, i32_w]
      rfl
    refine pure_ (i := 6) (N := some 18) (v := ?_) (a' := ?_) #[true, true, true, false, true, true, true, false, false, false, false] rfl rfl (by kernel_rfl) (fun _ _ _ h => h) (Or.inl ⟨by rfl, ?_⟩) ?_ ?_
    rotate_left
    · intro w'
      go_simp
      with_reducible rfl
    rotate_left
    · simp only [Act.put, List.setIfInBounds_toArray, List.set_cons_zero, List.set_cons_succ, i64_w, i32_w]
      rfl
    refine take_ (i := 3) (N := some 15) (v := ?_) (a' := ?_) #[true, true, true, true, true, true, true, false, false, false, false] rfl rfl (by kernel_rfl) (fun _ _ _ h => h) (Or.inl ⟨by rfl, ?_⟩) hHeld ?_ ?_
    rotate_left
    · rintro w' ⟨s0, s1, s2⟩
      go_simp
      with_reducible rfl
    rotate_left
    · simp only [Act.put, List.setIfInBounds_toArray, List.set_cons_zero, List.set_cons_succ, i64_w, i32_w]
      rfl
    refine take_ (i := 7) (N := some 19) (v := ?_) (a' := ?_) #[true, true, true, true, true, true, true, true, false, false, false] rfl rfl (by kernel_rfl) (fun _ _ _ h => h) (Or.inl ⟨by rfl, ?_⟩) hHeld ?_ ?_
    rotate_left
    · rintro w' ⟨s0, s1, s2⟩
      go_simp
      with_reducible rfl
    rotate_left
    · simp only [Act.put, List.setIfInBounds_toArray, List.set_cons_zero, List.set_cons_succ, i64_w, i32_w]
      rfl
    refine pure_ (i := 8) (N := some 20) (v := ?_) (a' := ?_) #[true, true, true, true, true, true, true, true, true, false, false] rfl rfl (by kernel_rfl) (fun _ _ _ h => h) (Or.inl ⟨by rfl, ?_⟩) ?_ ?_
    rotate_left
    · intro w'
      go_simp
      with_reducible rfl
    rotate_left
    · simp only [Act.put, List.setIfInBounds_toArray, List.set_cons_zero, List.set_cons_succ, i64_w, i32_w]
      rfl
    refine take_ (i := 9) (N := some 21) (v := ?_) (a' := ?_) #[true, true, true, true, true, true, true, true, true, true, false] rfl rfl (by kernel_rfl) (fun _ _ _ h => h) (Or.inl ⟨by rfl, ?_⟩) hHeld ?_ ?_
    rotate_left
    · rintro w' ⟨s0, s1, s2⟩
      go_simp
      with_reducible rfl
    rotate_left
    · simp only [Act.put, List.setIfInBounds_toArray, List.set_cons_zero, List.set_cons_succ, i64_w, i32_w]
      rfl
    refine pure_ (i := 10) (N := some 5) (v := ?_) (a' := ?_) #[true, true, true, true, true, true, true, true, true, true, true] rfl rfl (by kernel_rfl) (fun _ _ _ h => h) (Or.inl ⟨by rfl, ?_⟩) ?_ ?_
    rotate_left
    · intro w'
      go_simp
      with_reducible rfl
    rotate_left
    · simp only [Act.put, List.setIfInBounds_toArray, List.set_cons_zero, List.set_cons_succ, i64_w, i32_w]
      rfl
    refine done_ (by kernel_rfl) ?_

    have h := h.drew
    have hO := (Only.refl w (fun k => k = g ∨ k = gt)).drew
    go_wp2_with fail
    refine start_ (n := 11) (S := fun w' => w'.cell? ⟨g, 0, none⟩ = some (.slice (some ⟨gt, 0, none⟩) n n) ∧ w'.cell? ⟨g, 1, none⟩ = some (.int .i64 f) ∧ w'.cell? ⟨gt, f, none⟩ = some (.string (xs.getD f z0))) (ds := [10]) #[false, false, false, false, false, false, false, false, false, false, false] (by kernel_rfl) rfl rfl ⟨h.c0, h.c1, h.at_ f hf⟩ (fun hHeld => ?_)
    refine pure_ (i := 0) (N := some 22) (v := ?_) (a' := ?_) #[true, false, false, false, false, false, false, false, false, false, false] rfl rfl (by kernel_rfl) (fun _ _ _ h => h) (Or.inl ⟨by rfl, ?_⟩) ?_ ?_
    rotate_left
    · intro w'
      go_simp
      with_reducible rfl
    rotate_left
    · simp only [Act.put, List.setIfInBounds_toArray, List.set_cons_zero, List.set_cons_succ, i64_w, i32_w]
      rfl
    refine pure_ (i := 1) (N := some 23) (v := ?_) (a' := ?_) #[true, true, false, false, false, false, false, false, false, false, false] rfl rfl (by kernel_rfl) (fun _ _ _ h => h) (Or.inl ⟨by rfl, ?_⟩) ?_ ?_
    rotate_left
    · intro w'
      go_simp
      with_reducible rfl
    rotate_left
    · simp only [Act.put, List.setIfInBounds_toArray, List.set_cons_zero, List.set_cons_succ, i64_w, i32_w]
      rfl
    refine pure_ (i := 2) (N := some 24) (v := ?_) (a' := ?_) #[true, true, true, false, false, false, false, false, false, false, false] rfl rfl (by kernel_rfl) (fun _ _ _ h => h) (Or.inl ⟨by rfl, ?_⟩) ?_ ?_
    rotate_left
    · intro w'
      go_simp
      with_reducible rfl
    rotate_left
    · simp only [Act.put, List.setIfInBounds_toArray, List.set_cons_zero, List.set_cons_succ, i64_w, i32_w]
      rfl
    refine pure_ (i := 4) (N := some 26) (v := ?_) (a' := ?_) #[true, true, true, false, true, false, false, false, false, false, false] rfl rfl (by kernel_rfl) (fun _ _ _ h => h) (Or.inl ⟨by rfl, ?_⟩) ?_ ?_
    rotate_left
    · intro w'
      go_simp
      with_reducible rfl
    rotate_left
    · simp only [Act.put, List.setIfInBounds_toArray, List.set_cons_zero, List.set_cons_succ, i64_w, i32_w]
      rfl
    refine pure_ (i := 5) (N := some 27) (v := ?_) (a' := ?_) #[true, true, true, false, true, true, false, false, false, false, false] rfl rfl (by kernel_rfl) (fun _ _ _ h => h) (Or.inl ⟨by rfl, ?_⟩) ?_ ?_
    rotate_left
    · intro w'
      go_simp
      with_reducible rfl
    rotate_left
    · simp only [Act.put, List.setIfInBounds_toArray, List.set_cons_zero, List.set_cons_succ, i64_w, i32_w]
      rfl
    refine pure_ (i := 6) (N := some 28) (v := ?_) (a' := ?_) #[true, true, true, false, true, true, true, false, false, false, false] rfl rfl (by kernel_rfl) (fun _ _ _ h => h) (Or.inl ⟨by rfl, ?_⟩) ?_ ?_
    rotate_left
    · intro w'
      go_simp
      with_reducible rfl
    rotate_left
    · simp only [Act.put, List.setIfInBounds_toArray, List.set_cons_zero, List.set_cons_succ, i64_w, i32_w]
      rfl
    refine pure_ (i := 8) (N := some 30) (v := ?_) (a' := ?_) #[true, true, true, false, true, true, true, false, true, false, false] rfl rfl (by kernel_rfl) (fun _ _ _ h => h) (Or.inl ⟨by rfl, ?_⟩) ?_ ?_
    rotate_left
    · intro w'
      go_simp
      with_reducible rfl
    rotate_left
    · simp only [Act.put, List.setIfInBounds_toArray, List.set_cons_zero, List.set_cons_succ, i64_w, i32_w]
      rfl
    refine take_ (i := 3) (N := some 25) (v := ?_) (a' := ?_) #[true, true, true, true, true, true, true, false, true, false, false] rfl rfl (by kernel_rfl) (fun _ _ _ h => h) (Or.inl ⟨by rfl, ?_⟩) hHeld ?_ ?_
    rotate_left
    · rintro w' ⟨s0, s1, s2⟩
      go_simp
      with_reducible rfl
    rotate_left
    · simp only [Act.put, List.setIfInBounds_toArray, List.set_cons_zero, List.set_cons_succ, i64_w, i32_w]
      rfl
    refine take_ (i := 7) (N := some 29) (v := ?_) (a' := ?_) #[true, true, true, true, true, true, true, true, true, false, false] rfl rfl (by kernel_rfl) (fun _ _ _ h => h) (Or.inl ⟨by rfl, ?_⟩) hHeld ?_ ?_
    rotate_left
    · rintro w' ⟨s0, s1, s2⟩
      go_simp
      with_reducible rfl
    rotate_left
    · simp only [Act.put, List.setIfInBounds_toArray, List.set_cons_zero, List.set_cons_succ, i64_w, i32_w]
      rfl
    refine pure_ (i := 9) (N := some 31) (v := ?_) (a' := ?_) #[true, true, true, true, true, true, true, true, true, true, false] rfl rfl (by kernel_rfl) (fun _ _ _ h => h) (Or.inl ⟨by rfl, ?_⟩) ?_ ?_
    rotate_left
    · intro w'
      go_simp
      with_reducible rfl
    rotate_left
    · simp only [Act.put, List.setIfInBounds_toArray, List.set_cons_zero, List.set_cons_succ, i64_w, i32_w]
      rfl
    refine last_ (i := 10) (N := none) #[true, true, true, true, true, true, true, true, true, true, true] rfl rfl (by kernel_rfl) (by decide) (fun K hK => ?_)
    have hs := h.at_ f hf
    have hs2 := blk_frozen h.ht f
    refine skip_ (w1 := ?_) (by rfl) rfl ?_ ?_
    rotate_left
    · go_simp
      rfl
    refine hK.out _ _ ?_
    clear hK K
    refine done_ (by kernel_rfl) ?_

    have hz9 := h.hne
    have Xg : ((w.setCell ⟨gt, f, none⟩ (.string z0)).drew.drew).heap[g]? = _ := blk_far h.drew.hg (p := ⟨gt, f, none⟩) hz9 (.string z0)
    have Xt : ((w.setCell ⟨gt, f, none⟩ (.string z0)).drew.drew).heap[gt]? = some (.cells (encs ei (xs.set f z0)).toArray 9 (0, 0)) := by
      rw [← set_enc]
      exact blk_set h.drew.ht f (.string z0)
    have hO : Only w ((w.setCell ⟨gt, f, none⟩ (.string z0)).drew.drew) (fun k => k = g ∨ k = gt) := hO.drew.set (p := ⟨gt, f, none⟩) (v := .string z0) (.inr rfl)
    generalize (w.setCell ⟨gt, f, none⟩ (.string z0)).drew.drew = w9 at Xg Xt hO ⊢
    have h9 : RC w9 g gt n f m (xs.set f z0) := ⟨Xg, Xt, h.hne, by rw [List.length_set]; exact h.hn, h.n0, h.n1, h.hf, h.hm⟩
    clear h Xg Xt
    go_wp2_with (go_at_call 28; refine (place_one _ h9).mono ?_; rintro e w10 ⟨rfl, hd⟩; have h10 := h9.drawn hd; have hO := hO.drawn hd; have c1 := h10.c1; have c2 := h10.c2; have f1 := blk_frozen h10.hg 1; have f2 := blk_frozen h10.hg 2; clear hd)
    go_ret2
    have hm1 : ((m : Int) - 1) = ((m - 1 : Nat) : Int) := by omega
    refine ⟨rfl, ⟨?_, ?_, h10.hne, h10.hn, h10.n0, h10.n1, Nat.mod_lt _ h10.n0, by omega⟩, (hO.set (.inl rfl)).set (.inl rfl)⟩
    · rw [← hm1]
      exact blk_set (blk_set h10.hg 1 _) 2 _
    · exact blk_far (blk_far h10.ht (p := ⟨g, 1, none⟩) (fun e => hz9 e.symm) _) (p := ⟨g, 2, none⟩) (fun e => hz9 e.symm) _
end
/-- A ring as a list: what there is, first in first. -/
def RQ (w : World) (g gt n : Nat) (q : List ByteArray) : Prop := ∃ xs f, RC w g gt n f q.length xs ∧ ∀ i, i < q.length → xs.getD ((f + i) % n) z0 = q.getD i z0
theorem RQ.drawn {w w' : World} {g gt n : Nat} {q : List ByteArray} (h : RQ w g gt n q) (d : Drawn0 w w') : RQ w' g gt n q := let ⟨xs, f, hc, hq⟩ := h; ⟨xs, f, hc.drawn d, hq⟩
theorem RQ.drew {w : World} {g gt n : Nat} {q : List ByteArray} (h : RQ w g gt n q) : RQ w.drew g gt n q := let ⟨xs, f, hc, hq⟩ := h; ⟨xs, f, hc.drew, hq⟩
theorem RQ.below {w w' : World} {g gt n : Nat} {q : List ByteArray} (h : RQ w g gt n q) (d : Below w.heap.size w w') : RQ w' g gt n q := let ⟨xs, f, hc, hq⟩ := h; ⟨xs, f, hc.below d, hq⟩
theorem RQ.only {w w' : World} {g gt n : Nat} {q : List ByteArray} {S : Nat → Prop} (h : RQ w g gt n q) (d : Only w w' S) (h1 : ¬ S g) (h2 : ¬ S gt) : RQ w' g gt n q := let ⟨xs, f, hc, hq⟩ := h; ⟨xs, f, hc.only d h1 h2, hq⟩
theorem RQ.len {w : World} {g gt n : Nat} {q : List ByteArray} (h : RQ w g gt n q) : q.length ≤ n := let ⟨xs, f, hc, hq⟩ := h; hc.hm
theorem RQ.size {w : World} {g gt n : Nat} {q : List ByteArray} (h : RQ w g gt n q) : 0 < n ∧ n ≤ 4096 := let ⟨xs, f, hc, hq⟩ := h; ⟨hc.n0, hc.n1⟩
theorem RQ.lt {w : World} {g gt n : Nat} {q : List ByteArray} (h : RQ w g gt n q) : g < w.heap.size ∧ gt < w.heap.size := let ⟨xs, f, hc, hq⟩ := h; ⟨blk_lt hc.hg, blk_lt hc.ht⟩
theorem getD_set (xs : List ByteArray) (j i : Nat) (x : ByteArray) (hj : j < xs.length) : (xs.set j x).getD i z0 = if i = j then x else xs.getD i z0 := by
  simp only [List.getD_eq_getElem?_getD]
  by_cases e : i = j
  · subst e
    simp [hj]
  · rw [List.getElem?_set_ne (fun h => e h.symm), if_neg e]
section
variable (w : World) {g gt n : Nat} {q : List ByteArray} (h : RQ w g gt n q)
include h
theorem roomq_calls : Calls Try.prog 27 #[.pointer (some ⟨g, 0, none⟩)] w fun e w' => e = .returned (.int .i64 ((n - q.length : Nat) : Int)) ∧ Drawn0 w w' := by
  obtain ⟨xs, f, hc, hq⟩ := h
  exact room_calls w hc
theorem pushq_full (x : ByteArray) (hm : q.length = n) : Calls Try.prog 18 #[.pointer (some ⟨g, 0, none⟩), .string x] w fun e w' => e = .returned (.int .i64 111) ∧ Drawn0 w w' := by
  obtain ⟨xs, f, hc, hq⟩ := h
  exact push_full w hc x hm
theorem pushq_room (x : ByteArray) (hlt : q.length < n) : Calls Try.prog 18 #[.pointer (some ⟨g, 0, none⟩), .string x] w fun e w' => e = .returned (.int .i64 0) ∧ RQ w' g gt n (q ++ [x]) ∧ Only w w' (fun k => k = g ∨ k = gt) := by
  obtain ⟨xs, f, hc, hq⟩ := h
  refine (push_room w hc x hlt).mono ?_
  rintro e w' ⟨rfl, h1, h2⟩
  refine ⟨rfl, ⟨_, f, by rw [List.length_append]; exact h1, fun i hi => ?_⟩, h2⟩
  have hf := hc.hf
  have hn := hc.hn
  rw [List.length_append, List.length_singleton] at hi
  rw [getD_set _ _ _ _ (by rw [hn]; exact Nat.mod_lt _ hc.n0), mod2 (a := f + i) (by omega), mod2 (a := f + q.length) (by omega)]
  by_cases e : i = q.length
  · subst e
    rw [if_pos rfl]
    simp
  · rw [if_neg (by split <;> split <;> omega), ← mod2 (by omega), hq i (by omega)]
    simp [List.getD_eq_getElem?_getD, List.getElem?_append_left (show i < q.length by omega)]
theorem popq_none (hm : q = []) : Calls Try.prog 19 #[.pointer (some ⟨g, 0, none⟩)] w fun e w' => e = .returned (.tuple #[.string z0, .bool false]) ∧ Drawn0 w w' := by
  obtain ⟨xs, f, hc, hq⟩ := h
  exact pop_none w hc (by rw [hm]; rfl)
theorem popq_some (x : ByteArray) (r : List ByteArray) (hm : q = x :: r) : Calls Try.prog 19 #[.pointer (some ⟨g, 0, none⟩)] w fun e w' => e = .returned (.tuple #[.string x, .bool true]) ∧ RQ w' g gt n r ∧ Only w w' (fun k => k = g ∨ k = gt) := by
  obtain ⟨xs, f, hc, hq⟩ := h
  subst hm
  have hf := hc.hf
  have hn := hc.hn
  have hm := hc.hm
  rw [List.length_cons] at hm
  refine (pop_some w hc (by simp)).mono ?_
  rintro e w' ⟨rfl, h1, h2⟩
  have e0 := hq 0 (by simp)
  rw [Nat.add_zero, Nat.mod_eq_of_lt hf] at e0
  refine ⟨by rw [e0]; rfl, ⟨_, _, h1, fun i hi => ?_⟩, h2⟩
  rw [getD_set _ _ _ _ (by omega)]
  have e1 : ((f + 1) % n + i) % n = (f + (i + 1)) % n := by rw [Nat.mod_add_mod]; congr 1; omega
  rw [e1, if_neg (by rw [mod2 (a := f + (i + 1)) (by omega)]; split <;> omega), hq (i + 1) (by simp; omega)]
  simp
end
set_option maxRecDepth 100000 in
theorem new_bad (w : World) (s : Int) (hs : s < 1 ∨ 4096 < s) : Calls Try.prog 17 #[.int .i64 s] w fun e w' => e = .returned (.tuple #[.pointer none, .int .i64 110]) ∧ Drawn0 w w' := by
  by_cases h1 : s < 1
  · go_enter Try.func17, Try.ntmps17
    go_wp2
    go_ret2
    exact ⟨rfl, Drawn0.refl _⟩
  · have h2 : 4096 < s := by omega
    have h3 : 1 ≤ s := by omega
    go_enter Try.func17, Try.ntmps17
    go_wp2
    go_ret2
    exact ⟨rfl, Drawn0.refl _⟩
set_option maxRecDepth 100000 in
theorem new_ok (w : World) (n : Nat) (h0 : 0 < n) (h1 : n ≤ 4096) : Calls Try.prog 17 #[.int .i64 n] w fun e w' => ∃ g gt, e = .returned (.tuple #[.pointer (some ⟨g, 0, none⟩), .int .i64 0]) ∧ RQ w' g gt n [] ∧ w.heap.size ≤ g ∧ w.heap.size ≤ gt ∧ g ≠ gt ∧ Below w.heap.size w w' := by
  have hu65 := Try.underlying68
  have hmk := print_make_of (P := Try.prog) 42 9 (.string z0) 16 Try.underlying42 (by kernel_rfl) rfl (by decide) n (by omega)
  have hn1 : (1 : Int) ≤ n := by omega
  have hn2 : (n : Int) ≤ 4096 := by omega
  go_enter Try.func17, Try.ntmps17
  go_wp2
  go_ret2
  have e1 : ∀ o : Obj, (w.alloc o).heap.size = w.heap.size + 1 := fun o => by simp
  have B1 := (Below.refl w.heap.size w).alloc (Nat.le_refl _) (.cells (madeCells #[.string z0] n) 9)
  have B2 := B1.alloc B1.size (.cells #[.slice (some ⟨w.heap.size, 0, none⟩) n n, .int .i64 0, .int .i64 0] 68)
  refine ⟨w.heap.size + 1, w.heap.size, rfl, ⟨List.replicate n z0, 0, ⟨?_, ?_, by omega, by simp, h0, h1, h0, Nat.zero_le _⟩, fun i hi => absurd hi (Nat.not_lt_zero _)⟩, by omega, Nat.le_refl _, by omega, B2⟩
  · have := heap_alloc_new (w.alloc (.cells (madeCells #[.string z0] n) 9)) (.cells #[.slice (some ⟨w.heap.size, 0, none⟩) n n, .int .i64 0, .int .i64 0] 68)
    rw [e1] at this
    exact this
  · have hX : (w.alloc (.cells (madeCells #[.string z0] n) 9)).heap[w.heap.size]? = some (.cells (encs ei (List.replicate n z0)).toArray 9 (0, 0)) := by
      refine (heap_alloc_new _ _).trans ?_
      have : madeCells #[.string z0] n = (encs ei (List.replicate n z0)).toArray := by
        apply Array.ext
        · simp [encs, madeCells]
        · intro i h1 h2
          simp [encs, madeCells, Nat.mod_one]
      rw [this]
    exact blk_below hX ((Below.refl _ _).alloc (Nat.le_refl _) _)
theorem RQ.base {B : Nat} {w w' : World} {g gt n : Nat} {q : List ByteArray} (h : RQ w g gt n q) (d : Below B w w') (h1 : g < B) (h2 : gt < B) : RQ w' g gt n q :=
  let ⟨xs, f, hc, hq⟩ := h; ⟨xs, f, ⟨(d.block g h1).trans hc.hg, (d.block gt h2).trans hc.ht, hc.hne, hc.hn, hc.n0, hc.n1, hc.hf, hc.hm⟩, hq⟩
theorem drop_cons (q : List ByteArray) (j : Nat) (hj : j < q.length) : q.drop j = q.getD j z0 :: q.drop (j + 1) := by
  rw [List.drop_eq_getElem_cons hj]
  simp [List.getD_eq_getElem?_getD, hj]
theorem take_snoc (q : List ByteArray) (j : Nat) (hj : j < q.length) : q.take j ++ [q.getD j z0] = q.take (j + 1) := by
  rw [List.take_succ_eq_append_getElem hj]
  simp [List.getD_eq_getElem?_getD, hj]
/-- What was taken, and what is left. -/
structure Taken (w w' : World) (g gt n : Nat) (q : List ByteArray) (k : Nat) (v : Value) : Prop where
  own : w'.ownsRow w.heap.size 9 1 v (q.take k).length (encs ei (q.take k))
  ring : RQ w' g gt n (q.drop k)
  only : Only w w' (fun k => k = g ∨ k = gt)
theorem Taken.of {w w' : World} {g gt n j : Nat} {q : List ByteArray} {k : Nat} {v : Value} (hj : j = min k q.length) (h1 : w'.ownsRow w.heap.size 9 1 v (q.take j).length (encs ei (q.take j))) (h2 : RQ w' g gt n (q.drop j)) (h3 : Only w w' (fun k => k = g ∨ k = gt)) : Taken w w' g gt n q k v := by
  have e1 : q.take k = q.take j := by rw [hj, List.take_eq_take_iff]; omega
  have e2 : q.drop k = q.drop j := by
    rcases Nat.le_total k q.length with hle | hle
    · rw [show j = k by omega]
    · rw [List.drop_eq_nil_of_le hle, List.drop_eq_nil_of_le (by omega)]
  exact ⟨by rw [e1]; exact h1, by rw [e2]; exact h2, h3⟩
set_option maxHeartbeats 2000000 in
set_option maxRecDepth 100000 in
theorem take_calls (w : World) {g gt n : Nat} {q : List ByteArray} (h : RQ w g gt n q) (k : Int) (hk0 : -9223372036854775808 ≤ k) (hk1 : k ≤ 9223372036854775807) : Calls Try.prog 20 #[.pointer (some ⟨g, 0, none⟩), .int .i64 k] w fun e w' => ∃ v, e = .returned v ∧ Taken w w' g gt n q k.toNat v := by
  have hu65 := Try.underlying68
  obtain ⟨s0, s1⟩ := h.size
  have hlen := h.len
  have hRQ := h
  obtain ⟨l0, l1⟩ := h.lt
  have c2 : w.cell? ⟨g, 2, none⟩ = some (.int .i64 q.length) := by obtain ⟨xs, f, hc, hq⟩ := h; exact hc.c2
  go_enter Try.func20, Try.ntmps20
  go_wp2_with fail
  all_goals
    go_loopw [1, 5, 6, 7] (fun nn out _ _ wr => ∃ (j : Nat) (c : Int), nn = .int .i64 c ∧ c.toNat + j = min k.toNat q.length ∧ (-9223372036854775808 ≤ c ∧ c ≤ 4096) ∧ Aside0 (wr.ownsRow w.heap.size 9 1 out (q.take j).length (encs ei (q.take j))) ∧ Aside0 (RQ wr g gt n (q.drop j)) ∧ Aside0 (Only w wr (fun k => k = g ∨ k = gt)))
      (fun nn _ _ _ _ => (intOf nn).toNat)
    case atStart => exact ⟨0, _, rfl, by omega, ⟨by omega, by omega⟩, ⟨own_nil _ _ _ _⟩, ⟨hRQ⟩, ⟨Only.refl _ _⟩⟩
    case round =>
      obtain ⟨j, c, rfl, hc, ⟨hc0, hc1⟩, HO, HR, HW⟩ := hrel
      by_cases hlt : 0 < c
      · have hown := HO.out
        have hR := HR.out
        have hW := HW.out
        clear HO HR HW
        have hj : j < q.length := by omega
        have hjt : (q.take j).length = j := by rw [List.length_take]; omega
        obtain ⟨x, hx1, hx2⟩ : ∃ x, q.drop j = x :: q.drop (j + 1) ∧ q.take j ++ [x] = q.take (j + 1) := ⟨_, drop_cons q j hj, take_snoc q j hj⟩
        have hP := popq_some wr hR _ _ hx1
        have hfar := own_far hown l0 l1
        go_wp2_with (first
          | (go_at_call 19; refine hP.mono ?_; rintro e w4 ⟨rfl, hR4, hO4⟩; have hW4 := hW.then hO4; have hown4 := hO4.own hown hfar; clear hR hW hown hO4 hP hfar)
          | (at_builtin; refine print_append_of (w0 := w4) ei w.heap.size rfl (.tmp 23) (.tmp 25) 42 9 (.string z0) 16 rfl Try.underlying42 (by kernel_rfl) rfl (by decide) _ (q.take j) x rfl rfl rfl hown4 (Below.refl _ _) hW4.size (by omega) ?_; intro v5 w5 hown5 hB5 hg5 hat5; have hR5 := hR4.base hB5 l0 l1; have hW5 := hW4.base hB5; clear hR4 hW4 hown4 hg5 hat5; rw [hx2] at hown5))
        go_roundw
        case rel => exact ⟨j + 1, c - 1, by go_num, by omega, ⟨by omega, by omega⟩, ⟨hown5⟩, ⟨hR5⟩, ⟨hW5⟩⟩
        case measure => simp [intOf]; omega
      · go_wp2_with fail
        go_ret
        exact ⟨_, rfl, Taken.of (by omega) HO.out HR.out HW.out⟩
theorem Taken.slice {w w' : World} {g gt n k : Nat} {q : List ByteArray} {v : Value} (h : Taken w w' g gt n q k v) (l : List ByteArray) (m : Nat) (hl : q.take k = l) (hm : l.length = m) : ∃ A c, v = .slice A m c ∧ m ≤ c ∧ ReadsOf ei z0 w' A m l := by
  subst hl hm
  exact own_reads_of_le h.own
end Go.Proofs.Ytjajaklichiknaa.Rs
