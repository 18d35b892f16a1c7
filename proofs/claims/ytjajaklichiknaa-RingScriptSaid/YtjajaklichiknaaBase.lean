/- Proved: the walks of Len, Room, place and num over a ring of numbers. -/
import Derived.Test.YtjajaklichiknaaProg
import Derived.Below
import Derived.Deep.Draws
import Derived.Deep.AppendLies
import Derived.Maps.AppendAt
import Derived.OwnWalk
import Derived.Laws.BytesArg
import Derived.Laws.MakeOwn
import Derived.Laws.OwnMore
import Derived.Deep.OwnRows
import Derived.Tactics
import Derived.Lib.ConvBytes
import Derived.Laws.Slices
import Derived.WalkKit
import Derived.KernelRfl
import Derived.RowKit3
import Derived.Deep.LoopGhost
import Derived.Deep.QuietTactic
import Derived.BigQuiet
import Derived.WideLaws
import Derived.Deep.DeepCutAuto
import Derived.Deep.CutBlock
import Derived.Deep.RegionHeld3
import Derived.Laws.Rows
import Derived.Lib.AppendStr
import Derived.ArgAppend
import Derived.Laws.IdiomCopy
import Derived.OrdersHeld
import Derived.Laws.BitsLemmas
import Derived.RowKit
import Derived.Test.YtjajaklichiknaaWWords
import Derived.Test.YtjajaklichiknaaWLast
import Derived.Test.YtjajaklichiknaaWTab
import Derived.Test.YtjajaklichiknaaWFour
import Derived.Test.YtjajaklichiknaaWQPut
import Derived.Test.YtjajaklichiknaaWApart
import Derived.Test.YtjajaklichiknaaWArr
import Derived.Test.YtjajaklichiknaaWZeros
import Derived.Test.YtjajaklichiknaaWFoot
import Derived.Test.YtjajaklichiknaaWKept
import Derived.Test.YtjajaklichiknaaWShare
import Derived.Test.YtjajaklichiknaaWN
import Derived.Test.YtjajaklichiknaaWFootNe
import Derived.Test.YtjajaklichiknaaWAt
import Derived.Test.YtjajaklichiknaaWEqStruct
import Derived.Test.YtjajaklichiknaaWRepsOne
import Derived.Test.YtjajaklichiknaaWInv
import Derived.Test.YtjajaklichiknaaWInvWords
import Derived.Test.YtjajaklichiknaaWGuard
import Derived.Test.YtjajaklichiknaaWNEv
import Derived.Test.YtjajaklichiknaaWMore
import Derived.Laws.FloatArith
namespace Go.Proofs.Ytjajaklichiknaa.Rg
open Go.RowKit Go.Proofs.YtjajaklichiknaaW.PrintWords Go.Proofs.YtjajaklichiknaaW.PrintLast Go.Proofs.YtjajaklichiknaaW.PrintMore
set_option linter.unusedVariables false
set_option linter.unusedSimpArgs false

theorem dcell {w w' : World} (h : Drawn0 w w') {a : Addr} {v : Value} (hc : w.cell? a = some v) : w'.cell? a = some v := by
  obtain ⟨⟨n, rfl⟩⟩ := h
  exact hc
theorem dblk {w w' : World} (h : Drawn0 w w') {g : Nat} {o : Obj} (hc : w.heap[g]? = some o) : w'.heap[g]? = some o := by
  obtain ⟨⟨n, rfl⟩⟩ := h
  exact hc
theorem dbelow {w0 w w' : World} (h : Drawn0 w w') (hb : Below w0.heap.size w0 w) : Below w0.heap.size w0 w' := below_step hb h.below
theorem Drawn0.then {w w1 w2 : World} (h : Drawn0 w w1) (k : Drawn0 w1 w2) : Drawn0 w w2 := by
  obtain ⟨⟨m, rfl⟩⟩ := k
  exact h.step m
theorem drawn_drew {w w1 : World} (h : Drawn0 w w1) : Drawn0 w w1.drew := h.step 1

/-- What is done touches these blocks alone. -/
structure Only (w w' : World) (S : Nat → Prop) : Prop where
  os : w'.os = w.os
  tape : w'.tape = w.tape
  output : w'.output = w.output
  size : w.heap.size ≤ w'.heap.size
  block : ∀ k, k < w.heap.size → ¬ S k → w'.heap[k]? = w.heap[k]?
theorem Only.refl (w : World) (S : Nat → Prop) : Only w w S := ⟨rfl, rfl, rfl, Nat.le_refl _, fun _ _ _ => rfl⟩
theorem Only.of_below {w w' : World} (h : Below w.heap.size w w') (S : Nat → Prop) : Only w w' S := ⟨h.os, h.tape, h.output, h.size, fun k hk _ => h.block k hk⟩
theorem Only.then {w w1 w2 : World} {S : Nat → Prop} (h : Only w w1 S) (k : Only w1 w2 S) : Only w w2 S :=
  ⟨k.os.trans h.os, k.tape.trans h.tape, k.output.trans h.output, Nat.le_trans h.size k.size, fun i hi hs => (k.block i (Nat.lt_of_lt_of_le hi h.size) hs).trans (h.block i hi hs)⟩
theorem Only.drew {w w1 : World} {S : Nat → Prop} (h : Only w w1 S) : Only w w1.drew S := ⟨h.os, h.tape, h.output, h.size, h.block⟩
theorem Only.drawn {w w1 w2 : World} {S : Nat → Prop} (h : Only w w1 S) (k : Drawn0 w1 w2) : Only w w2 S := h.then (.of_below k.below S)
theorem Only.set {w w1 : World} {S : Nat → Prop} {p : Addr} {v : Value} (h : Only w w1 S) (hp : S p.block) : Only w (w1.setCell p v) S :=
  h.then ⟨rfl, rfl, rfl, by simp [World.setCell], fun k _ hs => Below.heap_setCell w1 p v k (fun e => hs (e ▸ hp))⟩
theorem Only.below {B : Nat} {w0 w w' : World} {S : Nat → Prop} (h : Only w w' S) (hb : Below B w0 w) (hB : B ≤ w.heap.size) (hS : ∀ k, S k → B ≤ k) : Below B w0 w' :=
  ⟨h.os.trans hb.os, h.tape.trans hb.tape, h.output.trans hb.output, Nat.le_trans hb.size h.size, fun k hk => (h.block k (Nat.lt_of_lt_of_le hk hB) (fun hs => absurd (hS k hs) (by omega))).trans (hb.block k hk)⟩
theorem Only.blk {w w' : World} {S : Nat → Prop} (h : Only w w' S) {g : Nat} {o : Obj} (hc : w.heap[g]? = some o) (hs : ¬ S g) : w'.heap[g]? = some o := (h.block g (blk_lt hc) hs).trans hc
theorem Only.own {w w' : World} {S : Nat → Prop} (h : Only w w' S) {base n size : Nat} {e : TypeId} {v : Value} {xs : List Value} (ho : w.ownsRow base e size v n xs) (hs : ∀ k, v.ownBlock = some k → ¬ S k) : w'.ownsRow base e size v n xs := by
  obtain ⟨h1, h2⟩ := ho
  refine ⟨h1, h2.imp id fun ⟨g, cap, cur, he, hb, hr, hrest⟩ => ⟨g, cap, cur, he, hb, h.blk hr (hs g (by rw [he]; rfl)), hrest⟩⟩

abbrev ei (x : Int) : Value := .int .i64 x
/-- A ring of numbers: its block g, its row's block gt, its size n, where its first lies, how many there are, what its row holds. -/
structure RC (w : World) (g gt n f m : Nat) (xs : List Int) : Prop where
  hg : w.heap[g]? = some (.cells #[.slice (some ⟨gt, 0, none⟩) n n, .int .i64 f, .int .i64 m] 65 (0, 0))
  ht : w.heap[gt]? = some (.cells (encs ei xs).toArray 3 (0, 0))
  hne : g ≠ gt
  hn : xs.length = n
  n0 : 0 < n
  n1 : n ≤ 4096
  hf : f < n
  hm : m ≤ n
section
variable {w : World} {g gt n f m : Nat} {xs : List Int}
theorem RC.c0 (h : RC w g gt n f m xs) : w.cell? ⟨g, 0, none⟩ = some (.slice (some ⟨gt, 0, none⟩) n n) := (blk_cell h.hg 0).trans rfl
theorem RC.c1 (h : RC w g gt n f m xs) : w.cell? ⟨g, 1, none⟩ = some (.int .i64 f) := (blk_cell h.hg 1).trans rfl
theorem RC.c2 (h : RC w g gt n f m xs) : w.cell? ⟨g, 2, none⟩ = some (.int .i64 m) := (blk_cell h.hg 2).trans rfl
theorem RC.at_ (h : RC w g gt n f m xs) (j : Nat) (hj : j < n) : w.cell? ⟨gt, j, none⟩ = some (.int .i64 (xs.getD j 0)) := by
  refine (blk_cell h.ht j).trans ?_
  have := encs_get (enc := ei) (d := 0) xs j (by rw [h.hn]; exact hj)
  simpa using this
theorem RC.drawn {w' : World} (h : RC w g gt n f m xs) (d : Drawn0 w w') : RC w' g gt n f m xs := ⟨dblk d h.hg, dblk d h.ht, h.hne, h.hn, h.n0, h.n1, h.hf, h.hm⟩
theorem RC.below {w' : World} (h : RC w g gt n f m xs) (d : Below w.heap.size w w') : RC w' g gt n f m xs := ⟨blk_below h.hg d, blk_below h.ht d, h.hne, h.hn, h.n0, h.n1, h.hf, h.hm⟩
theorem RC.drew (h : RC w g gt n f m xs) : RC w.drew g gt n f m xs := ⟨h.hg, h.ht, h.hne, h.hn, h.n0, h.n1, h.hf, h.hm⟩
theorem RC.only {w' : World} {S : Nat → Prop} (h : RC w g gt n f m xs) (d : Only w w' S) (h1 : ¬ S g) (h2 : ¬ S gt) : RC w' g gt n f m xs := ⟨d.blk h.hg h1, d.blk h.ht h2, h.hne, h.hn, h.n0, h.n1, h.hf, h.hm⟩
end
theorem wrap_id {a : Int} (h0 : -9223372036854775808 ≤ a) (h1 : a ≤ 9223372036854775807) : wrap64 a = a := by unfold wrap64; omega

section
variable (w : World) {g gt n f m : Nat} {xs : List Int} (h : RC w g gt n f m xs)
include h
set_option maxRecDepth 100000 in
theorem len_calls : Calls Try.prog 14 #[.pointer (some ⟨g, 0, none⟩)] w fun e w' => e = .returned (.int .i64 m) ∧ Drawn0 w w' := by
  have hu65 := Try.underlying65
  have c2 := h.c2
  go_enter Try.func14, Try.ntmps14
  go_wp2
  go_ret
  exact ⟨rfl, Drawn0.refl _⟩
set_option maxRecDepth 100000 in
theorem room_calls : Calls Try.prog 16 #[.pointer (some ⟨g, 0, none⟩)] w fun e w' => e = .returned (.int .i64 ((n - m : Nat) : Int)) ∧ Drawn0 w w' := by
  have hu65 := Try.underlying65
  have hm := h.hm
  have n1 := h.n1
  have hw : wrap64 ((n : Int) - m) = ((n - m : Nat) : Int) := by rw [wrap_id (by omega) (by omega)]; omega
  go_enter Try.func16, Try.ntmps16
  go_wp2_with fail
  refine start_ (n := 11) (S := fun w' => w'.cell? ⟨g, 0, none⟩ = some (.slice (some ⟨gt, 0, none⟩) n n) ∧ w'.cell? ⟨g, 2, none⟩ = some (.int .i64 m)) (ds := []) #[false, false, false, false, false, false, false, false, false, false, false] (by kernel_rfl) rfl rfl ⟨h.c0, h.c2⟩ (fun hHeld => ?_)
  refine pure_ (i := 0) (N := some 3) (v := ?_) (a' := ?_) #[true, false, false, false, false, false, false, false, false, false, false] rfl rfl (by kernel_rfl) (fun _ _ _ h => h) (Or.inl ⟨by rfl, ?_⟩) ?_ ?_
  rotate_left
  · intro w'
    go_simp
    with_reducible rfl
  rotate_left
  · simp only [Act.put, List.setIfInBounds_toArray, List.set_cons_zero, List.set_cons_succ, i64_w, i32_w]
    rfl
  refine pure_ (i := 1) (N := some 4) (v := ?_) (a' := ?_) #[true, true, false, false, false, false, false, false, false, false, false] rfl rfl (by kernel_rfl) (fun _ _ _ h => h) (Or.inl ⟨by rfl, ?_⟩) ?_ ?_
  rotate_left
  · intro w'
    go_simp
    with_reducible rfl
  rotate_left
  · simp only [Act.put, List.setIfInBounds_toArray, List.set_cons_zero, List.set_cons_succ, i64_w, i32_w]
    rfl
  refine pure_ (i := 2) (N := some 5) (v := ?_) (a' := ?_) #[true, true, true, false, false, false, false, false, false, false, false] rfl rfl (by kernel_rfl) (fun _ _ _ h => h) (Or.inl ⟨by rfl, ?_⟩) ?_ ?_
  rotate_left
  · intro w'
    go_simp
    with_reducible rfl
  rotate_left
  · simp only [Act.put, List.setIfInBounds_toArray, List.set_cons_zero, List.set_cons_succ, i64_w, i32_w]
    rfl
  refine pure_ (i := 5) (N := some 8) (v := ?_) (a' := ?_) #[true, true, true, false, false, true, false, false, false, false, false] rfl rfl (by kernel_rfl) (fun _ _ _ h => h) (Or.inl ⟨by rfl, ?_⟩) ?_ ?_
  rotate_left
  · intro w'
    go_simp
    with_reducible rfl
  rotate_left
  · simp only [Act.put, List.setIfInBounds_toArray, List.set_cons_zero, List.set_cons_succ, i64_w, i32_w]
    rfl
  refine pure_ (i := 6) (N := some 9) (v := ?_) (a' := ?_) #[true, true, true, false, false, true, true, false, false, false, false] rfl rfl (by kernel_rfl) (fun _ _ _ h => h) (Or.inl ⟨by rfl, ?_⟩) ?_ ?_
  rotate_left
  · intro w'
    go_simp
    with_reducible rfl
  rotate_left
  · simp only [Act.put, List.setIfInBounds_toArray, List.set_cons_zero, List.set_cons_succ, i64_w, i32_w]
    rfl
  refine pure_ (i := 7) (N := some 10) (v := ?_) (a' := ?_) #[true, true, true, false, false, true, true, true, false, false, false] rfl rfl (by kernel_rfl) (fun _ _ _ h => h) (Or.inl ⟨by rfl, ?_⟩) ?_ ?_
  rotate_left
  · intro w'
    go_simp
    with_reducible rfl
  rotate_left
  · simp only [Act.put, List.setIfInBounds_toArray, List.set_cons_zero, List.set_cons_succ, i64_w, i32_w]
    rfl
  refine take_ (i := 3) (N := some 6) (v := ?_) (a' := ?_) #[true, true, true, true, false, true, true, true, false, false, false] rfl rfl (by kernel_rfl) (fun _ _ _ h => h) (Or.inl ⟨by rfl, ?_⟩) hHeld ?_ ?_
  rotate_left
  · rintro w' ⟨s0, s1⟩
    go_simp
    with_reducible rfl
  rotate_left
  · simp only [Act.put, List.setIfInBounds_toArray, List.set_cons_zero, List.set_cons_succ, i64_w, i32_w]
    rfl
  refine pure_ (i := 4) (N := some 7) (v := ?_) (a' := ?_) #[true, true, true, true, true, true, true, true, false, false, false] rfl rfl (by kernel_rfl) (fun _ _ _ h => h) (Or.inl ⟨by rfl, ?_⟩) ?_ ?_
  rotate_left
  · intro w'
    go_simp
    with_reducible rfl
  rotate_left
  · simp only [Act.put, List.setIfInBounds_toArray, List.set_cons_zero, List.set_cons_succ, i64_w, i32_w]
    rfl
  refine take_ (i := 8) (N := some 11) (v := ?_) (a' := ?_) #[true, true, true, true, true, true, true, true, true, false, false] rfl rfl (by kernel_rfl) (fun _ _ _ h => h) (Or.inl ⟨by rfl, ?_⟩) hHeld ?_ ?_
  rotate_left
  · rintro w' ⟨s0, s1⟩
    go_simp
    with_reducible rfl
  rotate_left
  · simp only [Act.put, List.setIfInBounds_toArray, List.set_cons_zero, List.set_cons_succ, i64_w, i32_w]
    rfl
  refine pure_ (i := 9) (N := some 12) (v := ?_) (a' := ?_) #[true, true, true, true, true, true, true, true, true, true, false] rfl rfl (by kernel_rfl) (fun _ _ _ h => h) (Or.inl ⟨by rfl, ?_⟩) ?_ ?_
  rotate_left
  · intro w'
    go_simp
    with_reducible rfl
  rotate_left
  · simp only [Act.put, List.setIfInBounds_toArray, List.set_cons_zero, List.set_cons_succ, i64_w, i32_w]
    rfl
  refine pure_ (i := 10) (N := some 2) (v := ?_) (a' := ?_) #[true, true, true, true, true, true, true, true, true, true, true] rfl rfl (by kernel_rfl) (fun _ _ _ h => h) (Or.inl ⟨by rfl, ?_⟩) ?_ ?_
  rotate_left
  · intro w'
    go_simp
    with_reducible rfl
  rotate_left
  · simp only [Act.put, List.setIfInBounds_toArray, List.set_cons_zero, List.set_cons_succ, i64_w, i32_w]
    rfl
  refine done_ (by kernel_rfl) ?_

  go_wp2
  rw [hw]
  go_ret
  exact ⟨rfl, ⟨⟨_, rfl⟩⟩⟩
set_option maxRecDepth 100000 in
theorem place_calls (i : Nat) (hi : i ≤ n) : Calls Try.prog 26 #[.pointer (some ⟨g, 0, none⟩), .int .i64 i] w fun e w' => e = .returned (.int .i64 (((f + i) % n : Nat) : Int)) ∧ Drawn0 w w' := by
  have hu65 := Try.underlying65
  have n1 := h.n1
  have n0 := h.n0
  have hf := h.hf
  have hw : wrap64 ((f : Int) + i) = ((f + i : Nat) : Int) := by rw [wrap_id (by omega) (by omega)]; omega
  have hnz : ¬ n = 0 := by omega
  go_enter Try.func26, Try.ntmps26
  go_wp2_with fail
  refine start_ (n := 13) (S := fun w' => w'.cell? ⟨g, 0, none⟩ = some (.slice (some ⟨gt, 0, none⟩) n n) ∧ w'.cell? ⟨g, 1, none⟩ = some (.int .i64 f)) (ds := []) #[false, false, false, false, false, false, false, false, false, false, false, false, false] (by kernel_rfl) rfl rfl ⟨h.c0, h.c1⟩ (fun hHeld => ?_)
  refine pure_ (i := 0) (N := some 5) (v := ?_) (a' := ?_) #[true, false, false, false, false, false, false, false, false, false, false, false, false] rfl rfl (by kernel_rfl) (fun _ _ _ h => h) (Or.inl ⟨by rfl, ?_⟩) ?_ ?_
  rotate_left
  · intro w'
    go_simp
    with_reducible rfl
  rotate_left
  · simp only [Act.put, List.setIfInBounds_toArray, List.set_cons_zero, List.set_cons_succ, i64_w, i32_w]
    rfl
  refine pure_ (i := 1) (N := some 6) (v := ?_) (a' := ?_) #[true, true, false, false, false, false, false, false, false, false, false, false, false] rfl rfl (by kernel_rfl) (fun _ _ _ h => h) (Or.inl ⟨by rfl, ?_⟩) ?_ ?_
  rotate_left
  · intro w'
    go_simp
    with_reducible rfl
  rotate_left
  · simp only [Act.put, List.setIfInBounds_toArray, List.set_cons_zero, List.set_cons_succ, i64_w, i32_w]
    rfl
  refine pure_ (i := 2) (N := some 7) (v := ?_) (a' := ?_) #[true, true, true, false, false, false, false, false, false, false, false, false, false] rfl rfl (by kernel_rfl) (fun _ _ _ h => h) (Or.inl ⟨by rfl, ?_⟩) ?_ ?_
  rotate_left
  · intro w'
    go_simp
    with_reducible rfl
  rotate_left
  · simp only [Act.put, List.setIfInBounds_toArray, List.set_cons_zero, List.set_cons_succ, i64_w, i32_w]
    rfl
  refine pure_ (i := 4) (N := some 9) (v := ?_) (a' := ?_) #[true, true, true, false, true, false, false, false, false, false, false, false, false] rfl rfl (by kernel_rfl) (fun _ _ _ h => h) (Or.inl ⟨by rfl, ?_⟩) ?_ ?_
  rotate_left
  · intro w'
    go_simp
    with_reducible rfl
  rotate_left
  · simp only [Act.put, List.setIfInBounds_toArray, List.set_cons_zero, List.set_cons_succ, i64_w, i32_w]
    rfl
  refine pure_ (i := 6) (N := some 11) (v := ?_) (a' := ?_) #[true, true, true, false, true, false, true, false, false, false, false, false, false] rfl rfl (by kernel_rfl) (fun _ _ _ h => h) (Or.inl ⟨by rfl, ?_⟩) ?_ ?_
  rotate_left
  · intro w'
    go_simp
    with_reducible rfl
  rotate_left
  · simp only [Act.put, List.setIfInBounds_toArray, List.set_cons_zero, List.set_cons_succ, i64_w, i32_w]
    rfl
  refine pure_ (i := 7) (N := some 12) (v := ?_) (a' := ?_) #[true, true, true, false, true, false, true, true, false, false, false, false, false] rfl rfl (by kernel_rfl) (fun _ _ _ h => h) (Or.inl ⟨by rfl, ?_⟩) ?_ ?_
  rotate_left
  · intro w'
    go_simp
    with_reducible rfl
  rotate_left
  · simp only [Act.put, List.setIfInBounds_toArray, List.set_cons_zero, List.set_cons_succ, i64_w, i32_w]
    rfl
  refine pure_ (i := 8) (N := some 13) (v := ?_) (a' := ?_) #[true, true, true, false, true, false, true, true, true, false, false, false, false] rfl rfl (by kernel_rfl) (fun _ _ _ h => h) (Or.inl ⟨by rfl, ?_⟩) ?_ ?_
  rotate_left
  · intro w'
    go_simp
    with_reducible rfl
  rotate_left
  · simp only [Act.put, List.setIfInBounds_toArray, List.set_cons_zero, List.set_cons_succ, i64_w, i32_w]
    rfl
  refine take_ (i := 3) (N := some 8) (v := ?_) (a' := ?_) #[true, true, true, true, true, false, true, true, true, false, false, false, false] rfl rfl (by kernel_rfl) (fun _ _ _ h => h) (Or.inl ⟨by rfl, ?_⟩) hHeld ?_ ?_
  rotate_left
  · rintro w' ⟨s0, s1⟩
    go_simp
    with_reducible rfl
  rotate_left
  · simp only [Act.put, List.setIfInBounds_toArray, List.set_cons_zero, List.set_cons_succ, i64_w, i32_w]
    rfl
  refine pure_ (i := 5) (N := some 10) (v := ?_) (a' := ?_) #[true, true, true, true, true, true, true, true, true, false, false, false, false] rfl rfl (by kernel_rfl) (fun _ _ _ h => h) (Or.inl ⟨by rfl, ?_⟩) ?_ ?_
  rotate_left
  · intro w'
    go_simp
    with_reducible rfl
  rotate_left
  · simp only [Act.put, List.setIfInBounds_toArray, List.set_cons_zero, List.set_cons_succ, i64_w, i32_w]
    rfl
  refine take_ (i := 9) (N := some 14) (v := ?_) (a' := ?_) #[true, true, true, true, true, true, true, true, true, true, false, false, false] rfl rfl (by kernel_rfl) (fun _ _ _ h => h) (Or.inl ⟨by rfl, ?_⟩) hHeld ?_ ?_
  rotate_left
  · rintro w' ⟨s0, s1⟩
    go_simp
    with_reducible rfl
  rotate_left
  · simp only [Act.put, List.setIfInBounds_toArray, List.set_cons_zero, List.set_cons_succ, i64_w, i32_w]
    rfl
  refine pure_ (i := 10) (N := some 15) (v := ?_) (a' := ?_) #[true, true, true, true, true, true, true, true, true, true, true, false, false] rfl rfl (by kernel_rfl) (fun _ _ _ h => h) (Or.inl ⟨by rfl, ?_⟩) ?_ ?_
  rotate_left
  · intro w'
    go_simp
    with_reducible rfl
  rotate_left
  · simp only [Act.put, List.setIfInBounds_toArray, List.set_cons_zero, List.set_cons_succ, i64_w, i32_w]
    rfl
  refine pure_ (i := 11) (N := some 16) (v := ?_) (a' := ?_) #[true, true, true, true, true, true, true, true, true, true, true, true, false] rfl rfl (by kernel_rfl) (fun _ _ _ h => h) (Or.inl ⟨by rfl, ?_⟩) ?_ ?_
  rotate_left
  · intro w'
    go_simp
    with_reducible rfl
  rotate_left
  · simp only [Act.put, List.setIfInBounds_toArray, List.set_cons_zero, List.set_cons_succ, i64_w, i32_w]
    rfl
  refine pure_ (i := 12) (N := some 4) (v := ?_) (a' := ?_) #[true, true, true, true, true, true, true, true, true, true, true, true, true] rfl rfl (by kernel_rfl) (fun _ _ _ h => h) (Or.inl ⟨by rfl, ?_⟩) ?_ ?_
  rotate_left
  · intro w'
    go_simp
    with_reducible rfl
  rotate_left
  · simp only [Act.put, List.setIfInBounds_toArray, List.set_cons_zero, List.set_cons_succ, i64_w, i32_w]
    rfl
  refine done_ (by kernel_rfl) ?_

  go_wp2
  have hq : ((f : Int) + i).tmod n = (((f + i) % n : Nat) : Int) := by rw [← Int.natCast_add, ← Int.ofNat_tmod]
  rw [hq]
  go_ret
  exact ⟨rfl, ⟨⟨_, rfl⟩⟩⟩
end
set_option maxRecDepth 100000 in
theorem num_calls (w : World) (e : Int) : Calls Try.prog 10 #[.int .i64 e] w fun e' w' => e' = .returned (.int .i64 e) ∧ Drawn0 w w' := by
  go_enter Try.func10, Try.ntmps10
  go_wp2
  go_ret
  exact ⟨rfl, Drawn0.refl _⟩
end Go.Proofs.Ytjajaklichiknaa.Rg
