/- Proved: a thing is taken out of the list, or laid at its end. -/
import Derived.Test.YtlainhbmfphojaaProg
import Derived.Below
import Derived.Deep.Draws
import Derived.Deep.AppendLies
import Derived.Maps.AppendAt
import Derived.OwnWalk
import Derived.Laws.BytesArg
import Derived.Laws.MakeOwn
import Derived.Laws.OwnMore
import Derived.Deep.OwnRows
import Derived.Tactics
import Derived.Lib.ConvBytes
import Derived.Laws.Slices
import Derived.WalkKit
import Derived.KernelRfl
import Derived.RowKit3
import Derived.Deep.LoopGhost
import Derived.Deep.QuietTactic
import Derived.BigQuiet
import Derived.WideLaws
import Derived.Deep.DeepCutAuto
import Derived.Deep.CutBlock
import Derived.Deep.RegionHeld3
import Derived.Laws.Rows
import Derived.Lib.AppendStr
import Derived.ArgAppend
import Derived.Laws.IdiomCopy
import Derived.OrdersHeld
import Derived.Laws.BitsLemmas
import Derived.RowKit
import Derived.Test.YtlainhbmfphojaaWWords
import Derived.Test.YtlainhbmfphojaaWLast
import Derived.Test.YtlainhbmfphojaaWTab
import Derived.Test.YtlainhbmfphojaaWFour
import Derived.Test.YtlainhbmfphojaaWQPut
import Derived.Test.YtlainhbmfphojaaWApart
import Derived.Test.YtlainhbmfphojaaWArr
import Derived.Test.YtlainhbmfphojaaWZeros
import Derived.Test.YtlainhbmfphojaaWFoot
import Derived.Test.YtlainhbmfphojaaWKept
import Derived.Test.YtlainhbmfphojaaWShare
import Derived.Test.YtlainhbmfphojaaWN
import Derived.Test.YtlainhbmfphojaaWFootNe
import Derived.Test.YtlainhbmfphojaaWAt
import Derived.Test.YtlainhbmfphojaaWEqStruct
import Derived.Test.YtlainhbmfphojaaWRepsOne
import Derived.Test.YtlainhbmfphojaaWInv
import Derived.Test.YtlainhbmfphojaaWInvWords
import Derived.Test.YtlainhbmfphojaaWGuard
import Derived.Test.YtlainhbmfphojaaWNEv
import Derived.Test.YtlainhbmfphojaaWMore
import Derived.Laws.FloatArith
import Derived.Maps.OwnOps
import Derived.Maps.OwnSet
import Derived.Maps.Views
import Derived.StringKeys
import Derived.Great.Walk
namespace Go.Proofs.Ytlainhbmfphojaa.Tb
open Go.RowKit Go.Maps Go.Proofs.YtlainhbmfphojaaW.PrintWords Go.Proofs.YtlainhbmfphojaaW.PrintLast Go.Proofs.YtlainhbmfphojaaW.PrintMore
set_option linter.unusedVariables false
set_option linter.unusedSimpArgs false
/-- What is done touches these blocks alone. -/
structure Only (w w' : World) (S : Nat → Prop) : Prop where
  os : w'.os = w.os
  tape : w'.tape = w.tape
  output : w'.output = w.output
  size : w.heap.size ≤ w'.heap.size
  block : ∀ k, k < w.heap.size → ¬ S k → w'.heap[k]? = w.heap[k]?
theorem Only.refl (w : World) (S : Nat → Prop) : Only w w S := ⟨rfl, rfl, rfl, Nat.le_refl _, fun _ _ _ => rfl⟩
theorem Only.of_below {w w' : World} (h : Below w.heap.size w w') (S : Nat → Prop) : Only w w' S := ⟨h.os, h.tape, h.output, h.size, fun k hk _ => h.block k hk⟩
theorem Only.then {w w1 w2 : World} {S : Nat → Prop} (h : Only w w1 S) (k : Only w1 w2 S) : Only w w2 S :=
  ⟨k.os.trans h.os, k.tape.trans h.tape, k.output.trans h.output, Nat.le_trans h.size k.size, fun i hi hs => (k.block i (Nat.lt_of_lt_of_le hi h.size) hs).trans (h.block i hi hs)⟩
theorem Only.drew {w w1 : World} {S : Nat → Prop} (h : Only w w1 S) : Only w w1.drew S := ⟨h.os, h.tape, h.output, h.size, h.block⟩
theorem Only.set {w w1 : World} {S : Nat → Prop} {p : Addr} {v : Value} (h : Only w w1 S) (hp : S p.block) : Only w (w1.setCell p v) S :=
  h.then ⟨rfl, rfl, rfl, by simp [World.setCell], fun k _ hs => Below.heap_setCell w1 p v k (fun e => hs (e ▸ hp))⟩
theorem Only.below {B : Nat} {w0 w w' : World} {S : Nat → Prop} (h : Only w w' S) (hb : Below B w0 w) (hB : B ≤ w.heap.size) (hS : ∀ k, S k → B ≤ k) : Below B w0 w' :=
  ⟨h.os.trans hb.os, h.tape.trans hb.tape, h.output.trans hb.output, Nat.le_trans hb.size h.size, fun k hk => (h.block k (Nat.lt_of_lt_of_le hk hB) (fun hs => absurd (hS k hs) (by omega))).trans (hb.block k hk)⟩
theorem Only.blk {w w' : World} {S : Nat → Prop} (h : Only w w' S) {g : Nat} {o : Obj} (hc : w.heap[g]? = some o) (hs : ¬ S g) : w'.heap[g]? = some o := (h.block g (blk_lt hc) hs).trans hc
theorem Only.own {w w' : World} {S : Nat → Prop} (h : Only w w' S) {base n size : Nat} {e : TypeId} {v : Value} {xs : List Value} (ho : w.ownsRow base e size v n xs) (hs : ∀ k, v.ownBlock = some k → ¬ S k) : w'.ownsRow base e size v n xs := by
  obtain ⟨h1, h2⟩ := ho
  refine ⟨h1, h2.imp id fun ⟨g, cap, cur, he, hb, hr, hrest⟩ => ⟨g, cap, cur, he, hb, h.blk hr (hs g (by rw [he]; rfl)), hrest⟩⟩
theorem Only.mono {w w1 : World} {S T : Nat → Prop} (h : Only w w1 S) (hs : ∀ k, S k → T k) : Only w w1 T := ⟨h.os, h.tape, h.output, h.size, fun k hk ht => h.block k hk (fun e => ht (hs k e))⟩
theorem Only.map {w w' : World} {S : Nat → Prop} (h : Only w w' S) {H : Type} {P : Program} {k : TypeId} {R : Value → Option (DataW H × List MemPlace)} {b n : Nat} {D : DataW H} (hm : w.ownsMap P k R b n D) (hs : ¬ S b) : w'.ownsMap P k R b n D := by
  have hl := hm.lt
  obtain ⟨es, clock, hb, F, hn, hD⟩ := hm
  exact ⟨es, clock, (h.block b hl hs).trans hb, F, hn, hD⟩
theorem only_cell {w w' : World} {S : Nat → Prop} (hO : Only w w' S) {p : Addr} {v : Value} (hc : w.cell? p = some v) (hs : ¬ S p.block) : w'.cell? p = some v := by
  have hk := hO.block p.block (World.block_lt_of_cell? w _ hc) hs
  unfold World.cell? at hc ⊢
  rw [hk]
  exact hc
theorem cell_below {w w' : World} (hb : Below w.heap.size w w') {p : Addr} {v : Value} (h : w.cell? p = some v) : w'.cell? p = some v := (hb.cell (World.block_lt_of_cell? w _ h)).trans h
theorem blk_set4 {W : World} {g : Nat} {a b c d : Value} {t : TypeId} (h : W.heap[g]? = some (.cells #[a, b, c, d] t (0, 0))) (x : Value) :
    (W.setCell ⟨g, 0, none⟩ x).heap[g]? = some (.cells #[x, b, c, d] t (0, 0)) ∧ (W.setCell ⟨g, 1, none⟩ x).heap[g]? = some (.cells #[a, x, c, d] t (0, 0)) ∧ (W.setCell ⟨g, 2, none⟩ x).heap[g]? = some (.cells #[a, b, x, d] t (0, 0)) ∧ (W.setCell ⟨g, 3, none⟩ x).heap[g]? = some (.cells #[a, b, c, x] t (0, 0)) :=
  ⟨by simpa using blk_set h 0 x, by simpa using blk_set h 1 x, by simpa using blk_set h 2 x, by simpa using blk_set h 3 x⟩

set_option maxHeartbeats 4000000 in
set_option maxRecDepth 100000 in
theorem outI_00 (g e gm : Nat) (n : Int) (fp lp : Option Addr) (ve : Value) (ke : ByteArray) (w : World) (hg : w.heap[g]? = some (.cells #[.int .i64 n, .map (some gm), .pointer fp, .pointer lp] 54 (0, 0))) (he : w.heap[e]? = some (.cells #[.string ke, ve, .pointer none, .pointer none] 57 (0, 0))) (n0 : g ≠ e) : Calls Try.prog 29 #[.pointer (some ⟨g, 0, none⟩), .pointer (some ⟨e, 0, none⟩)] w fun r w' => r = .returned (.tuple #[]) ∧ ((w'.heap[g]? = some (.cells #[.int .i64 n, .map (some gm), .pointer none, .pointer none] 54 (0, 0))) ∧ (w'.heap[e]? = some (.cells #[.string ke, ve, .pointer none, .pointer none] 57 (0, 0)))) ∧ Only w w' (fun k => k = g ∨ k = e) := by
  have hu54 := Try.underlying54
  have hu57 := Try.underlying57
  have hu52 := Try.underlying52
  have hu26 := Try.underlying26
  have m0 := Ne.symm n0
  have cg0 := blk_cell hg 0
  have fg0 := blk_frozen hg 0
  have cg1 := blk_cell hg 1
  have fg1 := blk_frozen hg 1
  have cg2 := blk_cell hg 2
  have fg2 := blk_frozen hg 2
  have cg3 := blk_cell hg 3
  have fg3 := blk_frozen hg 3
  simp only [List.getElem?_toArray, List.getElem?_cons_zero, List.getElem?_cons_succ] at cg0 cg1 cg2 cg3
  have ce0 := blk_cell he 0
  have fe0 := blk_frozen he 0
  have ce1 := blk_cell he 1
  have fe1 := blk_frozen he 1
  have ce2 := blk_cell he 2
  have fe2 := blk_frozen he 2
  have ce3 := blk_cell he 3
  have fe3 := blk_frozen he 3
  simp only [List.getElem?_toArray, List.getElem?_cons_zero, List.getElem?_cons_succ] at ce0 ce1 ce2 ce3
  go_enter Try.func29, Try.ntmps29
  go_wp2_with fail
  refine Go.Great.bodyPost_end0 rfl rfl ⟨rfl, ⟨(blk_far (blk_far (blk_set4 (blk_set4 hg (.pointer none)).2.2.1 (.pointer none)).2.2.2 n0 (.pointer none)) n0 (.pointer none)), (blk_set4 (blk_set4 (blk_far (blk_far he m0 (.pointer none)) m0 (.pointer none)) (.pointer none)).2.2.1 (.pointer none)).2.2.2⟩, ?_⟩
  first | exact (Only.set (Only.set (Only.set (Only.set (Only.refl w _) (by simp)) (by simp)) (by simp)) (by simp)) | exact Only.drew (Only.set (Only.set (Only.set (Only.set (Only.refl w _) (by simp)) (by simp)) (by simp)) (by simp)) | exact (Only.set (Only.set (Only.set (Only.set (Only.drew (Only.refl w _)) (by simp)) (by simp)) (by simp)) (by simp))

set_option maxHeartbeats 4000000 in
set_option maxRecDepth 100000 in
theorem outI_01 (g e gm : Nat) (n : Int) (fp lp : Option Addr) (ve : Value) (ke : ByteArray) (b : Nat) (kb : ByteArray) (vb : Value) (xb : Option Addr) (w : World) (hg : w.heap[g]? = some (.cells #[.int .i64 n, .map (some gm), .pointer fp, .pointer lp] 54 (0, 0))) (he : w.heap[e]? = some (.cells #[.string ke, ve, .pointer none, .pointer (some ⟨b, 0, none⟩)] 57 (0, 0))) (hb : w.heap[b]? = some (.cells #[.string kb, vb, .pointer (some ⟨e, 0, none⟩), .pointer xb] 57 (0, 0))) (n0 : g ≠ e) (n1 : b ≠ g) (n2 : b ≠ e) : Calls Try.prog 29 #[.pointer (some ⟨g, 0, none⟩), .pointer (some ⟨e, 0, none⟩)] w fun r w' => r = .returned (.tuple #[]) ∧ ((w'.heap[g]? = some (.cells #[.int .i64 n, .map (some gm), .pointer (some ⟨b, 0, none⟩), .pointer lp] 54 (0, 0))) ∧ (w'.heap[e]? = some (.cells #[.string ke, ve, .pointer none, .pointer none] 57 (0, 0))) ∧ (w'.heap[b]? = some (.cells #[.string kb, vb, .pointer none, .pointer xb] 57 (0, 0)))) ∧ Only w w' (fun k => k = g ∨ k = e ∨ k = b) := by
  have hu54 := Try.underlying54
  have hu57 := Try.underlying57
  have hu52 := Try.underlying52
  have hu26 := Try.underlying26
  have m0 := Ne.symm n0
  have m1 := Ne.symm n1
  have m2 := Ne.symm n2
  have cg0 := blk_cell hg 0
  have fg0 := blk_frozen hg 0
  have cg1 := blk_cell hg 1
  have fg1 := blk_frozen hg 1
  have cg2 := blk_cell hg 2
  have fg2 := blk_frozen hg 2
  have cg3 := blk_cell hg 3
  have fg3 := blk_frozen hg 3
  simp only [List.getElem?_toArray, List.getElem?_cons_zero, List.getElem?_cons_succ] at cg0 cg1 cg2 cg3
  have ce0 := blk_cell he 0
  have fe0 := blk_frozen he 0
  have ce1 := blk_cell he 1
  have fe1 := blk_frozen he 1
  have ce2 := blk_cell he 2
  have fe2 := blk_frozen he 2
  have ce3 := blk_cell he 3
  have fe3 := blk_frozen he 3
  simp only [List.getElem?_toArray, List.getElem?_cons_zero, List.getElem?_cons_succ] at ce0 ce1 ce2 ce3
  have cb0 := blk_cell hb 0
  have fb0 := blk_frozen hb 0
  have cb1 := blk_cell hb 1
  have fb1 := blk_frozen hb 1
  have cb2 := blk_cell hb 2
  have fb2 := blk_frozen hb 2
  have cb3 := blk_cell hb 3
  have fb3 := blk_frozen hb 3
  simp only [List.getElem?_toArray, List.getElem?_cons_zero, List.getElem?_cons_succ] at cb0 cb1 cb2 cb3
  go_enter Try.func29, Try.ntmps29
  go_wp2_with fail
  have hg2 : (w.setCell ⟨g, 2, none⟩ (.pointer (some ⟨b, 0, none⟩))).heap[g]? = _ := (blk_set4 hg (.pointer (some ⟨b, 0, none⟩))).2.2.1
  have he2 : (w.setCell ⟨g, 2, none⟩ (.pointer (some ⟨b, 0, none⟩))).heap[e]? = _ := (blk_far he m0 (.pointer (some ⟨b, 0, none⟩)))
  have hb2 : (w.setCell ⟨g, 2, none⟩ (.pointer (some ⟨b, 0, none⟩))).heap[b]? = _ := (blk_far hb n1 (.pointer (some ⟨b, 0, none⟩)))
  have hO : Only w (w.setCell ⟨g, 2, none⟩ (.pointer (some ⟨b, 0, none⟩))) (fun k => k = g ∨ k = e ∨ k = b) := ((Only.refl w (fun k => k = g ∨ k = e ∨ k = b)).set (by simp))
  clear cg0 fg0 cg1 fg1 cg2 fg2 cg3 fg3 ce0 fe0 ce1 fe1 ce2 fe2 ce3 fe3 cb0 fb0 cb1 fb1 cb2 fb2 cb3 fb3
  generalize (w.setCell ⟨g, 2, none⟩ (.pointer (some ⟨b, 0, none⟩))) = w2 at hg2 he2 hb2 hO ⊢
  have cg0 := blk_cell hg2 0
  have fg0 := blk_frozen hg2 0
  have cg1 := blk_cell hg2 1
  have fg1 := blk_frozen hg2 1
  have cg2 := blk_cell hg2 2
  have fg2 := blk_frozen hg2 2
  have cg3 := blk_cell hg2 3
  have fg3 := blk_frozen hg2 3
  simp only [List.getElem?_toArray, List.getElem?_cons_zero, List.getElem?_cons_succ] at cg0 cg1 cg2 cg3
  have ce0 := blk_cell he2 0
  have fe0 := blk_frozen he2 0
  have ce1 := blk_cell he2 1
  have fe1 := blk_frozen he2 1
  have ce2 := blk_cell he2 2
  have fe2 := blk_frozen he2 2
  have ce3 := blk_cell he2 3
  have fe3 := blk_frozen he2 3
  simp only [List.getElem?_toArray, List.getElem?_cons_zero, List.getElem?_cons_succ] at ce0 ce1 ce2 ce3
  have cb0 := blk_cell hb2 0
  have fb0 := blk_frozen hb2 0
  have cb1 := blk_cell hb2 1
  have fb1 := blk_frozen hb2 1
  have cb2 := blk_cell hb2 2
  have fb2 := blk_frozen hb2 2
  have cb3 := blk_cell hb2 3
  have fb3 := blk_frozen hb2 3
  simp only [List.getElem?_toArray, List.getElem?_cons_zero, List.getElem?_cons_succ] at cb0 cb1 cb2 cb3
  refine start_ (n := 11) (S := fun w' => w'.cell? ⟨e, 2, none⟩ = some (.pointer none) ∧ w'.cell? ⟨e, 3, none⟩ = some (.pointer (some ⟨b, 0, none⟩))) (ds := [10]) #[false, false, false, false, false, false, false, false, false, false, false] (by kernel_rfl) rfl rfl ⟨ce2, ce3⟩ (fun hHeld => ?_)
  refine pure_ (i := 0) (N := some 38) (v := ?_) (a' := ?_) #[true, false, false, false, false, false, false, false, false, false, false] rfl rfl (by kernel_rfl) (fun _ _ _ h => h) (Or.inl ⟨by rfl, ?_⟩) ?_ ?_
  rotate_left
  · intro w'
    go_simp
    with_reducible rfl
  rotate_left
  · simp only [Act.put, List.setIfInBounds_toArray, List.set_cons_zero, List.set_cons_succ, i64_w, i32_w]
    rfl
  refine pure_ (i := 1) (N := some 39) (v := ?_) (a' := ?_) #[true, true, false, false, false, false, false, false, false, false, false] rfl rfl (by kernel_rfl) (fun _ _ _ h => h) (Or.inl ⟨by rfl, ?_⟩) ?_ ?_
  rotate_left
  · intro w'
    go_simp
    with_reducible rfl
  rotate_left
  · simp only [Act.put, List.setIfInBounds_toArray, List.set_cons_zero, List.set_cons_succ, i64_w, i32_w]
    rfl
  refine pure_ (i := 2) (N := some 40) (v := ?_) (a' := ?_) #[true, true, true, false, false, false, false, false, false, false, false] rfl rfl (by kernel_rfl) (fun _ _ _ h => h) (Or.inl ⟨by rfl, ?_⟩) ?_ ?_
  rotate_left
  · intro w'
    go_simp
    with_reducible rfl
  rotate_left
  · simp only [Act.put, List.setIfInBounds_toArray, List.set_cons_zero, List.set_cons_succ, i64_w, i32_w]
    rfl
  refine pure_ (i := 4) (N := some 42) (v := ?_) (a' := ?_) #[true, true, true, false, true, false, false, false, false, false, false] rfl rfl (by kernel_rfl) (fun _ _ _ h => h) (Or.inl ⟨by rfl, ?_⟩) ?_ ?_
  rotate_left
  · intro w'
    go_simp
    with_reducible rfl
  rotate_left
  · simp only [Act.put, List.setIfInBounds_toArray, List.set_cons_zero, List.set_cons_succ, i64_w, i32_w]
    rfl
  refine pure_ (i := 5) (N := some 43) (v := ?_) (a' := ?_) #[true, true, true, false, true, true, false, false, false, false, false] rfl rfl (by kernel_rfl) (fun _ _ _ h => h) (Or.inl ⟨by rfl, ?_⟩) ?_ ?_
  rotate_left
  · intro w'
    go_simp
    with_reducible rfl
  rotate_left
  · simp only [Act.put, List.setIfInBounds_toArray, List.set_cons_zero, List.set_cons_succ, i64_w, i32_w]
    rfl
  refine pure_ (i := 6) (N := some 44) (v := ?_) (a' := ?_) #[true, true, true, false, true, true, true, false, false, false, false] rfl rfl (by kernel_rfl) (fun _ _ _ h => h) (Or.inl ⟨by rfl, ?_⟩) ?_ ?_
  rotate_left
  · intro w'
    go_simp
    with_reducible rfl
  rotate_left
  · simp only [Act.put, List.setIfInBounds_toArray, List.set_cons_zero, List.set_cons_succ, i64_w, i32_w]
    rfl
  refine take_ (i := 3) (N := some 41) (v := ?_) (a' := ?_) #[true, true, true, true, true, true, true, false, false, false, false] rfl rfl (by kernel_rfl) (fun _ _ _ h => h) (Or.inl ⟨by rfl, ?_⟩) hHeld ?_ ?_
  rotate_left
  · rintro w' ⟨s0, s1⟩
    go_simp
    with_reducible rfl
  rotate_left
  · simp only [Act.put, List.setIfInBounds_toArray, List.set_cons_zero, List.set_cons_succ, i64_w, i32_w]
    rfl
  refine take_ (i := 7) (N := some 45) (v := ?_) (a' := ?_) #[true, true, true, true, true, true, true, true, false, false, false] rfl rfl (by kernel_rfl) (fun _ _ _ h => h) (Or.inl ⟨by rfl, ?_⟩) hHeld ?_ ?_
  rotate_left
  · rintro w' ⟨s0, s1⟩
    go_simp
    with_reducible rfl
  rotate_left
  · simp only [Act.put, List.setIfInBounds_toArray, List.set_cons_zero, List.set_cons_succ, i64_w, i32_w]
    rfl
  refine pure_ (i := 8) (N := some 46) (v := ?_) (a' := ?_) #[true, true, true, true, true, true, true, true, true, false, false] rfl rfl (by kernel_rfl) (fun _ _ _ h => h) (Or.inl ⟨by rfl, ?_⟩) ?_ ?_
  rotate_left
  · intro w'
    go_simp
    with_reducible rfl
  rotate_left
  · simp only [Act.put, List.setIfInBounds_toArray, List.set_cons_zero, List.set_cons_succ, i64_w, i32_w]
    rfl
  refine pure_ (i := 9) (N := some 47) (v := ?_) (a' := ?_) #[true, true, true, true, true, true, true, true, true, true, false] rfl rfl (by kernel_rfl) (fun _ _ _ h => h) (Or.inl ⟨by rfl, ?_⟩) ?_ ?_
  rotate_left
  · intro w'
    go_simp
    with_reducible rfl
  rotate_left
  · simp only [Act.put, List.setIfInBounds_toArray, List.set_cons_zero, List.set_cons_succ, i64_w, i32_w]
    rfl
  refine last_ (i := 10) (N := none) #[true, true, true, true, true, true, true, true, true, true, true] rfl rfl (by kernel_rfl) (by decide) (fun K hK => ?_)
  refine skip_ (w1 := ?_) (by rfl) rfl ?_ ?_
  rotate_left
  · go_simp
    rfl
  refine hK.out _ _ ?_
  clear hK K
  refine done_ (by kernel_rfl) ?_
  go_wp2_with fail
  refine Go.Great.bodyPost_end0 rfl rfl ⟨rfl, ⟨(blk_far (blk_far (blk_far hg2 m1 (.pointer none)) n0 (.pointer none)) n0 (.pointer none)), (blk_set4 (blk_set4 (blk_far he2 m2 (.pointer none)) (.pointer none)).2.2.1 (.pointer none)).2.2.2, (blk_far (blk_far (blk_set4 hb2 (.pointer none)).2.2.1 n2 (.pointer none)) n2 (.pointer none))⟩, ?_⟩
  first | exact hO.then (Only.set (Only.set (Only.set (Only.drew (Only.refl w2 _)) (by simp)) (by simp)) (by simp)) | exact hO.then (Only.drew (Only.set (Only.set (Only.set (Only.refl w2 _) (by simp)) (by simp)) (by simp)))

set_option maxHeartbeats 4000000 in
set_option maxRecDepth 100000 in
theorem outI_10 (g e gm : Nat) (n : Int) (fp lp : Option Addr) (ve : Value) (ke : ByteArray) (a : Nat) (ka : ByteArray) (va : Value) (xa : Option Addr) (w : World) (hg : w.heap[g]? = some (.cells #[.int .i64 n, .map (some gm), .pointer fp, .pointer lp] 54 (0, 0))) (he : w.heap[e]? = some (.cells #[.string ke, ve, .pointer (some ⟨a, 0, none⟩), .pointer none] 57 (0, 0))) (ha : w.heap[a]? = some (.cells #[.string ka, va, .pointer xa, .pointer (some ⟨e, 0, none⟩)] 57 (0, 0))) (n0 : g ≠ e) (n1 : a ≠ g) (n2 : a ≠ e) : Calls Try.prog 29 #[.pointer (some ⟨g, 0, none⟩), .pointer (some ⟨e, 0, none⟩)] w fun r w' => r = .returned (.tuple #[]) ∧ ((w'.heap[g]? = some (.cells #[.int .i64 n, .map (some gm), .pointer fp, .pointer (some ⟨a, 0, none⟩)] 54 (0, 0))) ∧ (w'.heap[e]? = some (.cells #[.string ke, ve, .pointer none, .pointer none] 57 (0, 0))) ∧ (w'.heap[a]? = some (.cells #[.string ka, va, .pointer xa, .pointer none] 57 (0, 0)))) ∧ Only w w' (fun k => k = g ∨ k = e ∨ k = a) := by
  have hu54 := Try.underlying54
  have hu57 := Try.underlying57
  have hu52 := Try.underlying52
  have hu26 := Try.underlying26
  have m0 := Ne.symm n0
  have m1 := Ne.symm n1
  have m2 := Ne.symm n2
  have cg0 := blk_cell hg 0
  have fg0 := blk_frozen hg 0
  have cg1 := blk_cell hg 1
  have fg1 := blk_frozen hg 1
  have cg2 := blk_cell hg 2
  have fg2 := blk_frozen hg 2
  have cg3 := blk_cell hg 3
  have fg3 := blk_frozen hg 3
  simp only [List.getElem?_toArray, List.getElem?_cons_zero, List.getElem?_cons_succ] at cg0 cg1 cg2 cg3
  have ce0 := blk_cell he 0
  have fe0 := blk_frozen he 0
  have ce1 := blk_cell he 1
  have fe1 := blk_frozen he 1
  have ce2 := blk_cell he 2
  have fe2 := blk_frozen he 2
  have ce3 := blk_cell he 3
  have fe3 := blk_frozen he 3
  simp only [List.getElem?_toArray, List.getElem?_cons_zero, List.getElem?_cons_succ] at ce0 ce1 ce2 ce3
  have ca0 := blk_cell ha 0
  have fa0 := blk_frozen ha 0
  have ca1 := blk_cell ha 1
  have fa1 := blk_frozen ha 1
  have ca2 := blk_cell ha 2
  have fa2 := blk_frozen ha 2
  have ca3 := blk_cell ha 3
  have fa3 := blk_frozen ha 3
  simp only [List.getElem?_toArray, List.getElem?_cons_zero, List.getElem?_cons_succ] at ca0 ca1 ca2 ca3
  go_enter Try.func29, Try.ntmps29
  go_wp2_with fail
  refine start_ (n := 11) (S := fun w' => w'.cell? ⟨e, 2, none⟩ = some (.pointer (some ⟨a, 0, none⟩)) ∧ w'.cell? ⟨e, 3, none⟩ = some (.pointer none)) (ds := [10]) #[false, false, false, false, false, false, false, false, false, false, false] (by kernel_rfl) rfl rfl ⟨ce2, ce3⟩ (fun hHeld => ?_)
  refine pure_ (i := 0) (N := some 16) (v := ?_) (a' := ?_) #[true, false, false, false, false, false, false, false, false, false, false] rfl rfl (by kernel_rfl) (fun _ _ _ h => h) (Or.inl ⟨by rfl, ?_⟩) ?_ ?_
  rotate_left
  · intro w'
    go_simp
    with_reducible rfl
  rotate_left
  · simp only [Act.put, List.setIfInBounds_toArray, List.set_cons_zero, List.set_cons_succ, i64_w, i32_w]
    rfl
  refine pure_ (i := 1) (N := some 17) (v := ?_) (a' := ?_) #[true, true, false, false, false, false, false, false, false, false, false] rfl rfl (by kernel_rfl) (fun _ _ _ h => h) (Or.inl ⟨by rfl, ?_⟩) ?_ ?_
  rotate_left
  · intro w'
    go_simp
    with_reducible rfl
  rotate_left
  · simp only [Act.put, List.setIfInBounds_toArray, List.set_cons_zero, List.set_cons_succ, i64_w, i32_w]
    rfl
  refine pure_ (i := 2) (N := some 18) (v := ?_) (a' := ?_) #[true, true, true, false, false, false, false, false, false, false, false] rfl rfl (by kernel_rfl) (fun _ _ _ h => h) (Or.inl ⟨by rfl, ?_⟩) ?_ ?_
  rotate_left
  · intro w'
    go_simp
    with_reducible rfl
  rotate_left
  · simp only [Act.put, List.setIfInBounds_toArray, List.set_cons_zero, List.set_cons_succ, i64_w, i32_w]
    rfl
  refine pure_ (i := 4) (N := some 20) (v := ?_) (a' := ?_) #[true, true, true, false, true, false, false, false, false, false, false] rfl rfl (by kernel_rfl) (fun _ _ _ h => h) (Or.inl ⟨by rfl, ?_⟩) ?_ ?_
  rotate_left
  · intro w'
    go_simp
    with_reducible rfl
  rotate_left
  · simp only [Act.put, List.setIfInBounds_toArray, List.set_cons_zero, List.set_cons_succ, i64_w, i32_w]
    rfl
  refine pure_ (i := 5) (N := some 21) (v := ?_) (a' := ?_) #[true, true, true, false, true, true, false, false, false, false, false] rfl rfl (by kernel_rfl) (fun _ _ _ h => h) (Or.inl ⟨by rfl, ?_⟩) ?_ ?_
  rotate_left
  · intro w'
    go_simp
    with_reducible rfl
  rotate_left
  · simp only [Act.put, List.setIfInBounds_toArray, List.set_cons_zero, List.set_cons_succ, i64_w, i32_w]
    rfl
  refine pure_ (i := 6) (N := some 22) (v := ?_) (a' := ?_) #[true, true, true, false, true, true, true, false, false, false, false] rfl rfl (by kernel_rfl) (fun _ _ _ h => h) (Or.inl ⟨by rfl, ?_⟩) ?_ ?_
  rotate_left
  · intro w'
    go_simp
    with_reducible rfl
  rotate_left
  · simp only [Act.put, List.setIfInBounds_toArray, List.set_cons_zero, List.set_cons_succ, i64_w, i32_w]
    rfl
  refine take_ (i := 3) (N := some 19) (v := ?_) (a' := ?_) #[true, true, true, true, true, true, true, false, false, false, false] rfl rfl (by kernel_rfl) (fun _ _ _ h => h) (Or.inl ⟨by rfl, ?_⟩) hHeld ?_ ?_
  rotate_left
  · rintro w' ⟨s0, s1⟩
    go_simp
    with_reducible rfl
  rotate_left
  · simp only [Act.put, List.setIfInBounds_toArray, List.set_cons_zero, List.set_cons_succ, i64_w, i32_w]
    rfl
  refine take_ (i := 7) (N := some 23) (v := ?_) (a' := ?_) #[true, true, true, true, true, true, true, true, false, false, false] rfl rfl (by kernel_rfl) (fun _ _ _ h => h) (Or.inl ⟨by rfl, ?_⟩) hHeld ?_ ?_
  rotate_left
  · rintro w' ⟨s0, s1⟩
    go_simp
    with_reducible rfl
  rotate_left
  · simp only [Act.put, List.setIfInBounds_toArray, List.set_cons_zero, List.set_cons_succ, i64_w, i32_w]
    rfl
  refine pure_ (i := 8) (N := some 24) (v := ?_) (a' := ?_) #[true, true, true, true, true, true, true, true, true, false, false] rfl rfl (by kernel_rfl) (fun _ _ _ h => h) (Or.inl ⟨by rfl, ?_⟩) ?_ ?_
  rotate_left
  · intro w'
    go_simp
    with_reducible rfl
  rotate_left
  · simp only [Act.put, List.setIfInBounds_toArray, List.set_cons_zero, List.set_cons_succ, i64_w, i32_w]
    rfl
  refine pure_ (i := 9) (N := some 25) (v := ?_) (a' := ?_) #[true, true, true, true, true, true, true, true, true, true, false] rfl rfl (by kernel_rfl) (fun _ _ _ h => h) (Or.inl ⟨by rfl, ?_⟩) ?_ ?_
  rotate_left
  · intro w'
    go_simp
    with_reducible rfl
  rotate_left
  · simp only [Act.put, List.setIfInBounds_toArray, List.set_cons_zero, List.set_cons_succ, i64_w, i32_w]
    rfl
  refine last_ (i := 10) (N := none) #[true, true, true, true, true, true, true, true, true, true, true] rfl rfl (by kernel_rfl) (by decide) (fun K hK => ?_)
  refine skip_ (w1 := ?_) (by rfl) rfl ?_ ?_
  rotate_left
  · go_simp
    rfl
  refine hK.out _ _ ?_
  clear hK K
  refine done_ (by kernel_rfl) ?_
  go_wp2_with fail
  refine Go.Great.bodyPost_end0 rfl rfl ⟨rfl, ⟨(blk_far (blk_far (blk_set4 (blk_far hg m1 (.pointer none)) (.pointer (some ⟨a, 0, none⟩))).2.2.2 n0 (.pointer none)) n0 (.pointer none)), (blk_set4 (blk_set4 (blk_far (blk_far he m2 (.pointer none)) m0 (.pointer (some ⟨a, 0, none⟩))) (.pointer none)).2.2.1 (.pointer none)).2.2.2, (blk_far (blk_far (blk_far (blk_set4 ha (.pointer none)).2.2.2 n1 (.pointer (some ⟨a, 0, none⟩))) n2 (.pointer none)) n2 (.pointer none))⟩, ?_⟩
  first | exact (Only.set (Only.set (Only.set (Only.set (Only.refl w _) (by simp)) (by simp)) (by simp)) (by simp)) | exact Only.drew (Only.set (Only.set (Only.set (Only.set (Only.refl w _) (by simp)) (by simp)) (by simp)) (by simp)) | exact (Only.set (Only.set (Only.set (Only.set (Only.drew (Only.refl w _)) (by simp)) (by simp)) (by simp)) (by simp))

set_option maxHeartbeats 4000000 in
set_option maxRecDepth 100000 in
theorem outI_11 (g e gm : Nat) (n : Int) (fp lp : Option Addr) (ve : Value) (ke : ByteArray) (a : Nat) (ka : ByteArray) (va : Value) (xa : Option Addr) (b : Nat) (kb : ByteArray) (vb : Value) (xb : Option Addr) (w : World) (hg : w.heap[g]? = some (.cells #[.int .i64 n, .map (some gm), .pointer fp, .pointer lp] 54 (0, 0))) (he : w.heap[e]? = some (.cells #[.string ke, ve, .pointer (some ⟨a, 0, none⟩), .pointer (some ⟨b, 0, none⟩)] 57 (0, 0))) (ha : w.heap[a]? = some (.cells #[.string ka, va, .pointer xa, .pointer (some ⟨e, 0, none⟩)] 57 (0, 0))) (hb : w.heap[b]? = some (.cells #[.string kb, vb, .pointer (some ⟨e, 0, none⟩), .pointer xb] 57 (0, 0))) (n0 : g ≠ e) (n1 : a ≠ g) (n2 : a ≠ e) (n3 : b ≠ g) (n4 : b ≠ e) (n5 : a ≠ b) : Calls Try.prog 29 #[.pointer (some ⟨g, 0, none⟩), .pointer (some ⟨e, 0, none⟩)] w fun r w' => r = .returned (.tuple #[]) ∧ ((w'.heap[g]? = some (.cells #[.int .i64 n, .map (some gm), .pointer fp, .pointer lp] 54 (0, 0))) ∧ (w'.heap[e]? = some (.cells #[.string ke, ve, .pointer none, .pointer none] 57 (0, 0))) ∧ (w'.heap[a]? = some (.cells #[.string ka, va, .pointer xa, .pointer (some ⟨b, 0, none⟩)] 57 (0, 0))) ∧ (w'.heap[b]? = some (.cells #[.string kb, vb, .pointer (some ⟨a, 0, none⟩), .pointer xb] 57 (0, 0)))) ∧ Only w w' (fun k => k = g ∨ k = e ∨ k = a ∨ k = b) := by
  have hu54 := Try.underlying54
  have hu57 := Try.underlying57
  have hu52 := Try.underlying52
  have hu26 := Try.underlying26
  have m0 := Ne.symm n0
  have m1 := Ne.symm n1
  have m2 := Ne.symm n2
  have m3 := Ne.symm n3
  have m4 := Ne.symm n4
  have m5 := Ne.symm n5
  have cg0 := blk_cell hg 0
  have fg0 := blk_frozen hg 0
  have cg1 := blk_cell hg 1
  have fg1 := blk_frozen hg 1
  have cg2 := blk_cell hg 2
  have fg2 := blk_frozen hg 2
  have cg3 := blk_cell hg 3
  have fg3 := blk_frozen hg 3
  simp only [List.getElem?_toArray, List.getElem?_cons_zero, List.getElem?_cons_succ] at cg0 cg1 cg2 cg3
  have ce0 := blk_cell he 0
  have fe0 := blk_frozen he 0
  have ce1 := blk_cell he 1
  have fe1 := blk_frozen he 1
  have ce2 := blk_cell he 2
  have fe2 := blk_frozen he 2
  have ce3 := blk_cell he 3
  have fe3 := blk_frozen he 3
  simp only [List.getElem?_toArray, List.getElem?_cons_zero, List.getElem?_cons_succ] at ce0 ce1 ce2 ce3
  have ca0 := blk_cell ha 0
  have fa0 := blk_frozen ha 0
  have ca1 := blk_cell ha 1
  have fa1 := blk_frozen ha 1
  have ca2 := blk_cell ha 2
  have fa2 := blk_frozen ha 2
  have ca3 := blk_cell ha 3
  have fa3 := blk_frozen ha 3
  simp only [List.getElem?_toArray, List.getElem?_cons_zero, List.getElem?_cons_succ] at ca0 ca1 ca2 ca3
  have cb0 := blk_cell hb 0
  have fb0 := blk_frozen hb 0
  have cb1 := blk_cell hb 1
  have fb1 := blk_frozen hb 1
  have cb2 := blk_cell hb 2
  have fb2 := blk_frozen hb 2
  have cb3 := blk_cell hb 3
  have fb3 := blk_frozen hb 3
  simp only [List.getElem?_toArray, List.getElem?_cons_zero, List.getElem?_cons_succ] at cb0 cb1 cb2 cb3
  go_enter Try.func29, Try.ntmps29
  go_wp2_with fail
  refine start_ (n := 11) (S := fun w' => w'.cell? ⟨e, 2, none⟩ = some (.pointer (some ⟨a, 0, none⟩)) ∧ w'.cell? ⟨e, 3, none⟩ = some (.pointer (some ⟨b, 0, none⟩))) (ds := [10]) #[false, false, false, false, false, false, false, false, false, false, false] (by kernel_rfl) rfl rfl ⟨ce2, ce3⟩ (fun hHeld => ?_)
  refine pure_ (i := 0) (N := some 16) (v := ?_) (a' := ?_) #[true, false, false, false, false, false, false, false, false, false, false] rfl rfl (by kernel_rfl) (fun _ _ _ h => h) (Or.inl ⟨by rfl, ?_⟩) ?_ ?_
  rotate_left
  · intro w'
    go_simp
    with_reducible rfl
  rotate_left
  · simp only [Act.put, List.setIfInBounds_toArray, List.set_cons_zero, List.set_cons_succ, i64_w, i32_w]
    rfl
  refine pure_ (i := 1) (N := some 17) (v := ?_) (a' := ?_) #[true, true, false, false, false, false, false, false, false, false, false] rfl rfl (by kernel_rfl) (fun _ _ _ h => h) (Or.inl ⟨by rfl, ?_⟩) ?_ ?_
  rotate_left
  · intro w'
    go_simp
    with_reducible rfl
  rotate_left
  · simp only [Act.put, List.setIfInBounds_toArray, List.set_cons_zero, List.set_cons_succ, i64_w, i32_w]
    rfl
  refine pure_ (i := 2) (N := some 18) (v := ?_) (a' := ?_) #[true, true, true, false, false, false, false, false, false, false, false] rfl rfl (by kernel_rfl) (fun _ _ _ h => h) (Or.inl ⟨by rfl, ?_⟩) ?_ ?_
  rotate_left
  · intro w'
    go_simp
    with_reducible rfl
  rotate_left
  · simp only [Act.put, List.setIfInBounds_toArray, List.set_cons_zero, List.set_cons_succ, i64_w, i32_w]
    rfl
  refine pure_ (i := 4) (N := some 20) (v := ?_) (a' := ?_) #[true, true, true, false, true, false, false, false, false, false, false] rfl rfl (by kernel_rfl) (fun _ _ _ h => h) (Or.inl ⟨by rfl, ?_⟩) ?_ ?_
  rotate_left
  · intro w'
    go_simp
    with_reducible rfl
  rotate_left
  · simp only [Act.put, List.setIfInBounds_toArray, List.set_cons_zero, List.set_cons_succ, i64_w, i32_w]
    rfl
  refine pure_ (i := 5) (N := some 21) (v := ?_) (a' := ?_) #[true, true, true, false, true, true, false, false, false, false, false] rfl rfl (by kernel_rfl) (fun _ _ _ h => h) (Or.inl ⟨by rfl, ?_⟩) ?_ ?_
  rotate_left
  · intro w'
    go_simp
    with_reducible rfl
  rotate_left
  · simp only [Act.put, List.setIfInBounds_toArray, List.set_cons_zero, List.set_cons_succ, i64_w, i32_w]
    rfl
  refine pure_ (i := 6) (N := some 22) (v := ?_) (a' := ?_) #[true, true, true, false, true, true, true, false, false, false, false] rfl rfl (by kernel_rfl) (fun _ _ _ h => h) (Or.inl ⟨by rfl, ?_⟩) ?_ ?_
  rotate_left
  · intro w'
    go_simp
    with_reducible rfl
  rotate_left
  · simp only [Act.put, List.setIfInBounds_toArray, List.set_cons_zero, List.set_cons_succ, i64_w, i32_w]
    rfl
  refine take_ (i := 3) (N := some 19) (v := ?_) (a' := ?_) #[true, true, true, true, true, true, true, false, false, false, false] rfl rfl (by kernel_rfl) (fun _ _ _ h => h) (Or.inl ⟨by rfl, ?_⟩) hHeld ?_ ?_
  rotate_left
  · rintro w' ⟨s0, s1⟩
    go_simp
    with_reducible rfl
  rotate_left
  · simp only [Act.put, List.setIfInBounds_toArray, List.set_cons_zero, List.set_cons_succ, i64_w, i32_w]
    rfl
  refine take_ (i := 7) (N := some 23) (v := ?_) (a' := ?_) #[true, true, true, true, true, true, true, true, false, false, false] rfl rfl (by kernel_rfl) (fun _ _ _ h => h) (Or.inl ⟨by rfl, ?_⟩) hHeld ?_ ?_
  rotate_left
  · rintro w' ⟨s0, s1⟩
    go_simp
    with_reducible rfl
  rotate_left
  · simp only [Act.put, List.setIfInBounds_toArray, List.set_cons_zero, List.set_cons_succ, i64_w, i32_w]
    rfl
  refine pure_ (i := 8) (N := some 24) (v := ?_) (a' := ?_) #[true, true, true, true, true, true, true, true, true, false, false] rfl rfl (by kernel_rfl) (fun _ _ _ h => h) (Or.inl ⟨by rfl, ?_⟩) ?_ ?_
  rotate_left
  · intro w'
    go_simp
    with_reducible rfl
  rotate_left
  · simp only [Act.put, List.setIfInBounds_toArray, List.set_cons_zero, List.set_cons_succ, i64_w, i32_w]
    rfl
  refine pure_ (i := 9) (N := some 25) (v := ?_) (a' := ?_) #[true, true, true, true, true, true, true, true, true, true, false] rfl rfl (by kernel_rfl) (fun _ _ _ h => h) (Or.inl ⟨by rfl, ?_⟩) ?_ ?_
  rotate_left
  · intro w'
    go_simp
    with_reducible rfl
  rotate_left
  · simp only [Act.put, List.setIfInBounds_toArray, List.set_cons_zero, List.set_cons_succ, i64_w, i32_w]
    rfl
  refine last_ (i := 10) (N := none) #[true, true, true, true, true, true, true, true, true, true, true] rfl rfl (by kernel_rfl) (by decide) (fun K hK => ?_)
  refine skip_ (w1 := ?_) (by rfl) rfl ?_ ?_
  rotate_left
  · go_simp
    rfl
  refine hK.out _ _ ?_
  clear hK K
  refine done_ (by kernel_rfl) ?_
  go_wp2_with fail
  have hg2 : (w.setCell ⟨a, 3, none⟩ (.pointer (some ⟨b, 0, none⟩))).drew.heap[g]? = _ := (blk_far hg m1 (.pointer (some ⟨b, 0, none⟩)))
  have he2 : (w.setCell ⟨a, 3, none⟩ (.pointer (some ⟨b, 0, none⟩))).drew.heap[e]? = _ := (blk_far he m2 (.pointer (some ⟨b, 0, none⟩)))
  have ha2 : (w.setCell ⟨a, 3, none⟩ (.pointer (some ⟨b, 0, none⟩))).drew.heap[a]? = _ := (blk_set4 ha (.pointer (some ⟨b, 0, none⟩))).2.2.2
  have hb2 : (w.setCell ⟨a, 3, none⟩ (.pointer (some ⟨b, 0, none⟩))).drew.heap[b]? = _ := (blk_far hb m5 (.pointer (some ⟨b, 0, none⟩)))
  have hO : Only w (w.setCell ⟨a, 3, none⟩ (.pointer (some ⟨b, 0, none⟩))).drew (fun k => k = g ∨ k = e ∨ k = a ∨ k = b) := ((Only.refl w (fun k => k = g ∨ k = e ∨ k = a ∨ k = b)).set (by simp)).drew
  clear cg0 fg0 cg1 fg1 cg2 fg2 cg3 fg3 ce0 fe0 ce1 fe1 ce2 fe2 ce3 fe3 ca0 fa0 ca1 fa1 ca2 fa2 ca3 fa3 cb0 fb0 cb1 fb1 cb2 fb2 cb3 fb3
  clear hHeld
  generalize (w.setCell ⟨a, 3, none⟩ (.pointer (some ⟨b, 0, none⟩))).drew = w2 at hg2 he2 ha2 hb2 hO ⊢
  have cg0 := blk_cell hg2 0
  have fg0 := blk_frozen hg2 0
  have cg1 := blk_cell hg2 1
  have fg1 := blk_frozen hg2 1
  have cg2 := blk_cell hg2 2
  have fg2 := blk_frozen hg2 2
  have cg3 := blk_cell hg2 3
  have fg3 := blk_frozen hg2 3
  simp only [List.getElem?_toArray, List.getElem?_cons_zero, List.getElem?_cons_succ] at cg0 cg1 cg2 cg3
  have ce0 := blk_cell he2 0
  have fe0 := blk_frozen he2 0
  have ce1 := blk_cell he2 1
  have fe1 := blk_frozen he2 1
  have ce2 := blk_cell he2 2
  have fe2 := blk_frozen he2 2
  have ce3 := blk_cell he2 3
  have fe3 := blk_frozen he2 3
  simp only [List.getElem?_toArray, List.getElem?_cons_zero, List.getElem?_cons_succ] at ce0 ce1 ce2 ce3
  have ca0 := blk_cell ha2 0
  have fa0 := blk_frozen ha2 0
  have ca1 := blk_cell ha2 1
  have fa1 := blk_frozen ha2 1
  have ca2 := blk_cell ha2 2
  have fa2 := blk_frozen ha2 2
  have ca3 := blk_cell ha2 3
  have fa3 := blk_frozen ha2 3
  simp only [List.getElem?_toArray, List.getElem?_cons_zero, List.getElem?_cons_succ] at ca0 ca1 ca2 ca3
  have cb0 := blk_cell hb2 0
  have fb0 := blk_frozen hb2 0
  have cb1 := blk_cell hb2 1
  have fb1 := blk_frozen hb2 1
  have cb2 := blk_cell hb2 2
  have fb2 := blk_frozen hb2 2
  have cb3 := blk_cell hb2 3
  have fb3 := blk_frozen hb2 3
  simp only [List.getElem?_toArray, List.getElem?_cons_zero, List.getElem?_cons_succ] at cb0 cb1 cb2 cb3
  refine start_ (n := 11) (S := fun w' => w'.cell? ⟨e, 2, none⟩ = some (.pointer (some ⟨a, 0, none⟩)) ∧ w'.cell? ⟨e, 3, none⟩ = some (.pointer (some ⟨b, 0, none⟩))) (ds := [10]) #[false, false, false, false, false, false, false, false, false, false, false] (by kernel_rfl) rfl rfl ⟨ce2, ce3⟩ (fun hHeld => ?_)
  refine pure_ (i := 0) (N := some 38) (v := ?_) (a' := ?_) #[true, false, false, false, false, false, false, false, false, false, false] rfl rfl (by kernel_rfl) (fun _ _ _ h => h) (Or.inl ⟨by rfl, ?_⟩) ?_ ?_
  rotate_left
  · intro w'
    go_simp
    with_reducible rfl
  rotate_left
  · simp only [Act.put, List.setIfInBounds_toArray, List.set_cons_zero, List.set_cons_succ, i64_w, i32_w]
    rfl
  refine pure_ (i := 1) (N := some 39) (v := ?_) (a' := ?_) #[true, true, false, false, false, false, false, false, false, false, false] rfl rfl (by kernel_rfl) (fun _ _ _ h => h) (Or.inl ⟨by rfl, ?_⟩) ?_ ?_
  rotate_left
  · intro w'
    go_simp
    with_reducible rfl
  rotate_left
  · simp only [Act.put, List.setIfInBounds_toArray, List.set_cons_zero, List.set_cons_succ, i64_w, i32_w]
    rfl
  refine pure_ (i := 2) (N := some 40) (v := ?_) (a' := ?_) #[true, true, true, false, false, false, false, false, false, false, false] rfl rfl (by kernel_rfl) (fun _ _ _ h => h) (Or.inl ⟨by rfl, ?_⟩) ?_ ?_
  rotate_left
  · intro w'
    go_simp
    with_reducible rfl
  rotate_left
  · simp only [Act.put, List.setIfInBounds_toArray, List.set_cons_zero, List.set_cons_succ, i64_w, i32_w]
    rfl
  refine pure_ (i := 4) (N := some 42) (v := ?_) (a' := ?_) #[true, true, true, false, true, false, false, false, false, false, false] rfl rfl (by kernel_rfl) (fun _ _ _ h => h) (Or.inl ⟨by rfl, ?_⟩) ?_ ?_
  rotate_left
  · intro w'
    go_simp
    with_reducible rfl
  rotate_left
  · simp only [Act.put, List.setIfInBounds_toArray, List.set_cons_zero, List.set_cons_succ, i64_w, i32_w]
    rfl
  refine pure_ (i := 5) (N := some 43) (v := ?_) (a' := ?_) #[true, true, true, false, true, true, false, false, false, false, false] rfl rfl (by kernel_rfl) (fun _ _ _ h => h) (Or.inl ⟨by rfl, ?_⟩) ?_ ?_
  rotate_left
  · intro w'
    go_simp
    with_reducible rfl
  rotate_left
  · simp only [Act.put, List.setIfInBounds_toArray, List.set_cons_zero, List.set_cons_succ, i64_w, i32_w]
    rfl
  refine pure_ (i := 6) (N := some 44) (v := ?_) (a' := ?_) #[true, true, true, false, true, true, true, false, false, false, false] rfl rfl (by kernel_rfl) (fun _ _ _ h => h) (Or.inl ⟨by rfl, ?_⟩) ?_ ?_
  rotate_left
  · intro w'
    go_simp
    with_reducible rfl
  rotate_left
  · simp only [Act.put, List.setIfInBounds_toArray, List.set_cons_zero, List.set_cons_succ, i64_w, i32_w]
    rfl
  refine take_ (i := 3) (N := some 41) (v := ?_) (a' := ?_) #[true, true, true, true, true, true, true, false, false, false, false] rfl rfl (by kernel_rfl) (fun _ _ _ h => h) (Or.inl ⟨by rfl, ?_⟩) hHeld ?_ ?_
  rotate_left
  · rintro w' ⟨s0, s1⟩
    go_simp
    with_reducible rfl
  rotate_left
  · simp only [Act.put, List.setIfInBounds_toArray, List.set_cons_zero, List.set_cons_succ, i64_w, i32_w]
    rfl
  refine take_ (i := 7) (N := some 45) (v := ?_) (a' := ?_) #[true, true, true, true, true, true, true, true, false, false, false] rfl rfl (by kernel_rfl) (fun _ _ _ h => h) (Or.inl ⟨by rfl, ?_⟩) hHeld ?_ ?_
  rotate_left
  · rintro w' ⟨s0, s1⟩
    go_simp
    with_reducible rfl
  rotate_left
  · simp only [Act.put, List.setIfInBounds_toArray, List.set_cons_zero, List.set_cons_succ, i64_w, i32_w]
    rfl
  refine pure_ (i := 8) (N := some 46) (v := ?_) (a' := ?_) #[true, true, true, true, true, true, true, true, true, false, false] rfl rfl (by kernel_rfl) (fun _ _ _ h => h) (Or.inl ⟨by rfl, ?_⟩) ?_ ?_
  rotate_left
  · intro w'
    go_simp
    with_reducible rfl
  rotate_left
  · simp only [Act.put, List.setIfInBounds_toArray, List.set_cons_zero, List.set_cons_succ, i64_w, i32_w]
    rfl
  refine pure_ (i := 9) (N := some 47) (v := ?_) (a' := ?_) #[true, true, true, true, true, true, true, true, true, true, false] rfl rfl (by kernel_rfl) (fun _ _ _ h => h) (Or.inl ⟨by rfl, ?_⟩) ?_ ?_
  rotate_left
  · intro w'
    go_simp
    with_reducible rfl
  rotate_left
  · simp only [Act.put, List.setIfInBounds_toArray, List.set_cons_zero, List.set_cons_succ, i64_w, i32_w]
    rfl
  refine last_ (i := 10) (N := none) #[true, true, true, true, true, true, true, true, true, true, true] rfl rfl (by kernel_rfl) (by decide) (fun K hK => ?_)
  refine skip_ (w1 := ?_) (by rfl) rfl ?_ ?_
  rotate_left
  · go_simp
    rfl
  refine hK.out _ _ ?_
  clear hK K
  refine done_ (by kernel_rfl) ?_
  go_wp2_with fail
  refine Go.Great.bodyPost_end0 rfl rfl ⟨rfl, ⟨(blk_far (blk_far (blk_far hg2 m3 (.pointer (some ⟨a, 0, none⟩))) n0 (.pointer none)) n0 (.pointer none)), (blk_set4 (blk_set4 (blk_far he2 m4 (.pointer (some ⟨a, 0, none⟩))) (.pointer none)).2.2.1 (.pointer none)).2.2.2, (blk_far (blk_far (blk_far ha2 n5 (.pointer (some ⟨a, 0, none⟩))) n2 (.pointer none)) n2 (.pointer none)), (blk_far (blk_far (blk_set4 hb2 (.pointer (some ⟨a, 0, none⟩))).2.2.1 n4 (.pointer none)) n4 (.pointer none))⟩, ?_⟩
  first | exact hO.then (Only.set (Only.set (Only.set (Only.drew (Only.refl w2 _)) (by simp)) (by simp)) (by simp)) | exact hO.then (Only.drew (Only.set (Only.set (Only.set (Only.refl w2 _) (by simp)) (by simp)) (by simp)))

set_option maxHeartbeats 4000000 in
set_option maxRecDepth 100000 in
theorem endI_0 (g e gm : Nat) (n : Int) (fp xe : Option Addr) (ve : Value) (ke : ByteArray) (w : World) (hg : w.heap[g]? = some (.cells #[.int .i64 n, .map (some gm), .pointer fp, .pointer none] 54 (0, 0))) (he : w.heap[e]? = some (.cells #[.string ke, ve, .pointer xe, .pointer none] 57 (0, 0))) (n0 : g ≠ e) : Calls Try.prog 30 #[.pointer (some ⟨g, 0, none⟩), .pointer (some ⟨e, 0, none⟩)] w fun r w' => r = .returned (.tuple #[]) ∧ ((w'.heap[g]? = some (.cells #[.int .i64 n, .map (some gm), .pointer (some ⟨e, 0, none⟩), .pointer (some ⟨e, 0, none⟩)] 54 (0, 0))) ∧ (w'.heap[e]? = some (.cells #[.string ke, ve, .pointer none, .pointer none] 57 (0, 0)))) ∧ Only w w' (fun k => k = g ∨ k = e) := by
  have hu54 := Try.underlying54
  have hu57 := Try.underlying57
  have hu52 := Try.underlying52
  have hu26 := Try.underlying26
  have m0 := Ne.symm n0
  have cg0 := blk_cell hg 0
  have fg0 := blk_frozen hg 0
  have cg1 := blk_cell hg 1
  have fg1 := blk_frozen hg 1
  have cg2 := blk_cell hg 2
  have fg2 := blk_frozen hg 2
  have cg3 := blk_cell hg 3
  have fg3 := blk_frozen hg 3
  simp only [List.getElem?_toArray, List.getElem?_cons_zero, List.getElem?_cons_succ] at cg0 cg1 cg2 cg3
  have ce0 := blk_cell he 0
  have fe0 := blk_frozen he 0
  have ce1 := blk_cell he 1
  have fe1 := blk_frozen he 1
  have ce2 := blk_cell he 2
  have fe2 := blk_frozen he 2
  have ce3 := blk_cell he 3
  have fe3 := blk_frozen he 3
  simp only [List.getElem?_toArray, List.getElem?_cons_zero, List.getElem?_cons_succ] at ce0 ce1 ce2 ce3
  go_enter Try.func30, Try.ntmps30
  go_wp2_with fail
  refine Go.Great.bodyPost_end0 rfl rfl ⟨rfl, ⟨(blk_set4 (blk_set4 (blk_far hg n0 (.pointer none)) (.pointer (some ⟨e, 0, none⟩))).2.2.1 (.pointer (some ⟨e, 0, none⟩))).2.2.2, (blk_far (blk_far (blk_set4 he (.pointer none)).2.2.1 m0 (.pointer (some ⟨e, 0, none⟩))) m0 (.pointer (some ⟨e, 0, none⟩)))⟩, ?_⟩
  exact Only.set (Only.set (Only.set (Only.refl w _) (by simp)) (by simp)) (by simp)

set_option maxHeartbeats 4000000 in
set_option maxRecDepth 100000 in
theorem endI_1 (g e gm : Nat) (n : Int) (fp xe : Option Addr) (ve : Value) (ke : ByteArray) (z : Nat) (kz : ByteArray) (vz : Value) (xz nz : Option Addr) (w : World) (hg : w.heap[g]? = some (.cells #[.int .i64 n, .map (some gm), .pointer fp, .pointer (some ⟨z, 0, none⟩)] 54 (0, 0))) (he : w.heap[e]? = some (.cells #[.string ke, ve, .pointer xe, .pointer none] 57 (0, 0))) (hz : w.heap[z]? = some (.cells #[.string kz, vz, .pointer xz, .pointer nz] 57 (0, 0))) (n0 : g ≠ e) (n1 : z ≠ g) (n2 : z ≠ e) : Calls Try.prog 30 #[.pointer (some ⟨g, 0, none⟩), .pointer (some ⟨e, 0, none⟩)] w fun r w' => r = .returned (.tuple #[]) ∧ ((w'.heap[g]? = some (.cells #[.int .i64 n, .map (some gm), .pointer fp, .pointer (some ⟨e, 0, none⟩)] 54 (0, 0))) ∧ (w'.heap[e]? = some (.cells #[.string ke, ve, .pointer (some ⟨z, 0, none⟩), .pointer none] 57 (0, 0))) ∧ (w'.heap[z]? = some (.cells #[.string kz, vz, .pointer xz, .pointer (some ⟨e, 0, none⟩)] 57 (0, 0)))) ∧ Only w w' (fun k => k = g ∨ k = e ∨ k = z) := by
  have hu54 := Try.underlying54
  have hu57 := Try.underlying57
  have hu52 := Try.underlying52
  have hu26 := Try.underlying26
  have m0 := Ne.symm n0
  have m1 := Ne.symm n1
  have m2 := Ne.symm n2
  have cg0 := blk_cell hg 0
  have fg0 := blk_frozen hg 0
  have cg1 := blk_cell hg 1
  have fg1 := blk_frozen hg 1
  have cg2 := blk_cell hg 2
  have fg2 := blk_frozen hg 2
  have cg3 := blk_cell hg 3
  have fg3 := blk_frozen hg 3
  simp only [List.getElem?_toArray, List.getElem?_cons_zero, List.getElem?_cons_succ] at cg0 cg1 cg2 cg3
  have ce0 := blk_cell he 0
  have fe0 := blk_frozen he 0
  have ce1 := blk_cell he 1
  have fe1 := blk_frozen he 1
  have ce2 := blk_cell he 2
  have fe2 := blk_frozen he 2
  have ce3 := blk_cell he 3
  have fe3 := blk_frozen he 3
  simp only [List.getElem?_toArray, List.getElem?_cons_zero, List.getElem?_cons_succ] at ce0 ce1 ce2 ce3
  have cz0 := blk_cell hz 0
  have fz0 := blk_frozen hz 0
  have cz1 := blk_cell hz 1
  have fz1 := blk_frozen hz 1
  have cz2 := blk_cell hz 2
  have fz2 := blk_frozen hz 2
  have cz3 := blk_cell hz 3
  have fz3 := blk_frozen hz 3
  simp only [List.getElem?_toArray, List.getElem?_cons_zero, List.getElem?_cons_succ] at cz0 cz1 cz2 cz3
  go_enter Try.func30, Try.ntmps30
  go_wp2_with fail
  refine Go.Great.bodyPost_end0 rfl rfl ⟨rfl, ⟨(blk_set4 (blk_far (blk_far hg n0 (.pointer (some ⟨z, 0, none⟩))) m1 (.pointer (some ⟨e, 0, none⟩))) (.pointer (some ⟨e, 0, none⟩))).2.2.2, (blk_far (blk_far (blk_set4 he (.pointer (some ⟨z, 0, none⟩))).2.2.1 m2 (.pointer (some ⟨e, 0, none⟩))) m0 (.pointer (some ⟨e, 0, none⟩))), (blk_far (blk_set4 (blk_far hz n2 (.pointer (some ⟨z, 0, none⟩))) (.pointer (some ⟨e, 0, none⟩))).2.2.2 n1 (.pointer (some ⟨e, 0, none⟩)))⟩, ?_⟩
  exact Only.set (Only.set (Only.set (Only.refl w _) (by simp)) (by simp)) (by simp)

set_option maxHeartbeats 4000000 in
set_option maxRecDepth 100000 in
theorem outS_00 (g e gm : Nat) (n : Int) (fp lp : Option Addr) (ve : Value) (ke : ByteArray) (w : World) (hg : w.heap[g]? = some (.cells #[.int .i64 n, .map (some gm), .pointer fp, .pointer lp] 62 (0, 0))) (he : w.heap[e]? = some (.cells #[.string ke, ve, .pointer none, .pointer none] 65 (0, 0))) (n0 : g ≠ e) : Calls Try.prog 31 #[.pointer (some ⟨g, 0, none⟩), .pointer (some ⟨e, 0, none⟩)] w fun r w' => r = .returned (.tuple #[]) ∧ ((w'.heap[g]? = some (.cells #[.int .i64 n, .map (some gm), .pointer none, .pointer none] 62 (0, 0))) ∧ (w'.heap[e]? = some (.cells #[.string ke, ve, .pointer none, .pointer none] 65 (0, 0)))) ∧ Only w w' (fun k => k = g ∨ k = e) := by
  have hu62 := Try.underlying62
  have hu65 := Try.underlying65
  have hu60 := Try.underlying60
  have hu41 := Try.underlying41
  have m0 := Ne.symm n0
  have cg0 := blk_cell hg 0
  have fg0 := blk_frozen hg 0
  have cg1 := blk_cell hg 1
  have fg1 := blk_frozen hg 1
  have cg2 := blk_cell hg 2
  have fg2 := blk_frozen hg 2
  have cg3 := blk_cell hg 3
  have fg3 := blk_frozen hg 3
  simp only [List.getElem?_toArray, List.getElem?_cons_zero, List.getElem?_cons_succ] at cg0 cg1 cg2 cg3
  have ce0 := blk_cell he 0
  have fe0 := blk_frozen he 0
  have ce1 := blk_cell he 1
  have fe1 := blk_frozen he 1
  have ce2 := blk_cell he 2
  have fe2 := blk_frozen he 2
  have ce3 := blk_cell he 3
  have fe3 := blk_frozen he 3
  simp only [List.getElem?_toArray, List.getElem?_cons_zero, List.getElem?_cons_succ] at ce0 ce1 ce2 ce3
  go_enter Try.func31, Try.ntmps31
  go_wp2_with fail
  refine Go.Great.bodyPost_end0 rfl rfl ⟨rfl, ⟨(blk_far (blk_far (blk_set4 (blk_set4 hg (.pointer none)).2.2.1 (.pointer none)).2.2.2 n0 (.pointer none)) n0 (.pointer none)), (blk_set4 (blk_set4 (blk_far (blk_far he m0 (.pointer none)) m0 (.pointer none)) (.pointer none)).2.2.1 (.pointer none)).2.2.2⟩, ?_⟩
  first | exact (Only.set (Only.set (Only.set (Only.set (Only.refl w _) (by simp)) (by simp)) (by simp)) (by simp)) | exact Only.drew (Only.set (Only.set (Only.set (Only.set (Only.refl w _) (by simp)) (by simp)) (by simp)) (by simp)) | exact (Only.set (Only.set (Only.set (Only.set (Only.drew (Only.refl w _)) (by simp)) (by simp)) (by simp)) (by simp))

set_option maxHeartbeats 4000000 in
set_option maxRecDepth 100000 in
theorem outS_01 (g e gm : Nat) (n : Int) (fp lp : Option Addr) (ve : Value) (ke : ByteArray) (b : Nat) (kb : ByteArray) (vb : Value) (xb : Option Addr) (w : World) (hg : w.heap[g]? = some (.cells #[.int .i64 n, .map (some gm), .pointer fp, .pointer lp] 62 (0, 0))) (he : w.heap[e]? = some (.cells #[.string ke, ve, .pointer none, .pointer (some ⟨b, 0, none⟩)] 65 (0, 0))) (hb : w.heap[b]? = some (.cells #[.string kb, vb, .pointer (some ⟨e, 0, none⟩), .pointer xb] 65 (0, 0))) (n0 : g ≠ e) (n1 : b ≠ g) (n2 : b ≠ e) : Calls Try.prog 31 #[.pointer (some ⟨g, 0, none⟩), .pointer (some ⟨e, 0, none⟩)] w fun r w' => r = .returned (.tuple #[]) ∧ ((w'.heap[g]? = some (.cells #[.int .i64 n, .map (some gm), .pointer (some ⟨b, 0, none⟩), .pointer lp] 62 (0, 0))) ∧ (w'.heap[e]? = some (.cells #[.string ke, ve, .pointer none, .pointer none] 65 (0, 0))) ∧ (w'.heap[b]? = some (.cells #[.string kb, vb, .pointer none, .pointer xb] 65 (0, 0)))) ∧ Only w w' (fun k => k = g ∨ k = e ∨ k = b) := by
  have hu62 := Try.underlying62
  have hu65 := Try.underlying65
  have hu60 := Try.underlying60
  have hu41 := Try.underlying41
  have m0 := Ne.symm n0
  have m1 := Ne.symm n1
  have m2 := Ne.symm n2
  have cg0 := blk_cell hg 0
  have fg0 := blk_frozen hg 0
  have cg1 := blk_cell hg 1
  have fg1 := blk_frozen hg 1
  have cg2 := blk_cell hg 2
  have fg2 := blk_frozen hg 2
  have cg3 := blk_cell hg 3
  have fg3 := blk_frozen hg 3
  simp only [List.getElem?_toArray, List.getElem?_cons_zero, List.getElem?_cons_succ] at cg0 cg1 cg2 cg3
  have ce0 := blk_cell he 0
  have fe0 := blk_frozen he 0
  have ce1 := blk_cell he 1
  have fe1 := blk_frozen he 1
  have ce2 := blk_cell he 2
  have fe2 := blk_frozen he 2
  have ce3 := blk_cell he 3
  have fe3 := blk_frozen he 3
  simp only [List.getElem?_toArray, List.getElem?_cons_zero, List.getElem?_cons_succ] at ce0 ce1 ce2 ce3
  have cb0 := blk_cell hb 0
  have fb0 := blk_frozen hb 0
  have cb1 := blk_cell hb 1
  have fb1 := blk_frozen hb 1
  have cb2 := blk_cell hb 2
  have fb2 := blk_frozen hb 2
  have cb3 := blk_cell hb 3
  have fb3 := blk_frozen hb 3
  simp only [List.getElem?_toArray, List.getElem?_cons_zero, List.getElem?_cons_succ] at cb0 cb1 cb2 cb3
  go_enter Try.func31, Try.ntmps31
  go_wp2_with fail
  have hg2 : (w.setCell ⟨g, 2, none⟩ (.pointer (some ⟨b, 0, none⟩))).heap[g]? = _ := (blk_set4 hg (.pointer (some ⟨b, 0, none⟩))).2.2.1
  have he2 : (w.setCell ⟨g, 2, none⟩ (.pointer (some ⟨b, 0, none⟩))).heap[e]? = _ := (blk_far he m0 (.pointer (some ⟨b, 0, none⟩)))
  have hb2 : (w.setCell ⟨g, 2, none⟩ (.pointer (some ⟨b, 0, none⟩))).heap[b]? = _ := (blk_far hb n1 (.pointer (some ⟨b, 0, none⟩)))
  have hO : Only w (w.setCell ⟨g, 2, none⟩ (.pointer (some ⟨b, 0, none⟩))) (fun k => k = g ∨ k = e ∨ k = b) := ((Only.refl w (fun k => k = g ∨ k = e ∨ k = b)).set (by simp))
  clear cg0 fg0 cg1 fg1 cg2 fg2 cg3 fg3 ce0 fe0 ce1 fe1 ce2 fe2 ce3 fe3 cb0 fb0 cb1 fb1 cb2 fb2 cb3 fb3
  generalize (w.setCell ⟨g, 2, none⟩ (.pointer (some ⟨b, 0, none⟩))) = w2 at hg2 he2 hb2 hO ⊢
  have cg0 := blk_cell hg2 0
  have fg0 := blk_frozen hg2 0
  have cg1 := blk_cell hg2 1
  have fg1 := blk_frozen hg2 1
  have cg2 := blk_cell hg2 2
  have fg2 := blk_frozen hg2 2
  have cg3 := blk_cell hg2 3
  have fg3 := blk_frozen hg2 3
  simp only [List.getElem?_toArray, List.getElem?_cons_zero, List.getElem?_cons_succ] at cg0 cg1 cg2 cg3
  have ce0 := blk_cell he2 0
  have fe0 := blk_frozen he2 0
  have ce1 := blk_cell he2 1
  have fe1 := blk_frozen he2 1
  have ce2 := blk_cell he2 2
  have fe2 := blk_frozen he2 2
  have ce3 := blk_cell he2 3
  have fe3 := blk_frozen he2 3
  simp only [List.getElem?_toArray, List.getElem?_cons_zero, List.getElem?_cons_succ] at ce0 ce1 ce2 ce3
  have cb0 := blk_cell hb2 0
  have fb0 := blk_frozen hb2 0
  have cb1 := blk_cell hb2 1
  have fb1 := blk_frozen hb2 1
  have cb2 := blk_cell hb2 2
  have fb2 := blk_frozen hb2 2
  have cb3 := blk_cell hb2 3
  have fb3 := blk_frozen hb2 3
  simp only [List.getElem?_toArray, List.getElem?_cons_zero, List.getElem?_cons_succ] at cb0 cb1 cb2 cb3
  refine start_ (n := 11) (S := fun w' => w'.cell? ⟨e, 2, none⟩ = some (.pointer none) ∧ w'.cell? ⟨e, 3, none⟩ = some (.pointer (some ⟨b, 0, none⟩))) (ds := [10]) #[false, false, false, false, false, false, false, false, false, false, false] (by kernel_rfl) rfl rfl ⟨ce2, ce3⟩ (fun hHeld => ?_)
  refine pure_ (i := 0) (N := some 38) (v := ?_) (a' := ?_) #[true, false, false, false, false, false, false, false, false, false, false] rfl rfl (by kernel_rfl) (fun _ _ _ h => h) (Or.inl ⟨by rfl, ?_⟩) ?_ ?_
  rotate_left
  · intro w'
    go_simp
    with_reducible rfl
  rotate_left
  · simp only [Act.put, List.setIfInBounds_toArray, List.set_cons_zero, List.set_cons_succ, i64_w, i32_w]
    rfl
  refine pure_ (i := 1) (N := some 39) (v := ?_) (a' := ?_) #[true, true, false, false, false, false, false, false, false, false, false] rfl rfl (by kernel_rfl) (fun _ _ _ h => h) (Or.inl ⟨by rfl, ?_⟩) ?_ ?_
  rotate_left
  · intro w'
    go_simp
    with_reducible rfl
  rotate_left
  · simp only [Act.put, List.setIfInBounds_toArray, List.set_cons_zero, List.set_cons_succ, i64_w, i32_w]
    rfl
  refine pure_ (i := 2) (N := some 40) (v := ?_) (a' := ?_) #[true, true, true, false, false, false, false, false, false, false, false] rfl rfl (by kernel_rfl) (fun _ _ _ h => h) (Or.inl ⟨by rfl, ?_⟩) ?_ ?_
  rotate_left
  · intro w'
    go_simp
    with_reducible rfl
  rotate_left
  · simp only [Act.put, List.setIfInBounds_toArray, List.set_cons_zero, List.set_cons_succ, i64_w, i32_w]
    rfl
  refine pure_ (i := 4) (N := some 42) (v := ?_) (a' := ?_) #[true, true, true, false, true, false, false, false, false, false, false] rfl rfl (by kernel_rfl) (fun _ _ _ h => h) (Or.inl ⟨by rfl, ?_⟩) ?_ ?_
  rotate_left
  · intro w'
    go_simp
    with_reducible rfl
  rotate_left
  · simp only [Act.put, List.setIfInBounds_toArray, List.set_cons_zero, List.set_cons_succ, i64_w, i32_w]
    rfl
  refine pure_ (i := 5) (N := some 43) (v := ?_) (a' := ?_) #[true, true, true, false, true, true, false, false, false, false, false] rfl rfl (by kernel_rfl) (fun _ _ _ h => h) (Or.inl ⟨by rfl, ?_⟩) ?_ ?_
  rotate_left
  · intro w'
    go_simp
    with_reducible rfl
  rotate_left
  · simp only [Act.put, List.setIfInBounds_toArray, List.set_cons_zero, List.set_cons_succ, i64_w, i32_w]
    rfl
  refine pure_ (i := 6) (N := some 44) (v := ?_) (a' := ?_) #[true, true, true, false, true, true, true, false, false, false, false] rfl rfl (by kernel_rfl) (fun _ _ _ h => h) (Or.inl ⟨by rfl, ?_⟩) ?_ ?_
  rotate_left
  · intro w'
    go_simp
    with_reducible rfl
  rotate_left
  · simp only [Act.put, List.setIfInBounds_toArray, List.set_cons_zero, List.set_cons_succ, i64_w, i32_w]
    rfl
  refine take_ (i := 3) (N := some 41) (v := ?_) (a' := ?_) #[true, true, true, true, true, true, true, false, false, false, false] rfl rfl (by kernel_rfl) (fun _ _ _ h => h) (Or.inl ⟨by rfl, ?_⟩) hHeld ?_ ?_
  rotate_left
  · rintro w' ⟨s0, s1⟩
    go_simp
    with_reducible rfl
  rotate_left
  · simp only [Act.put, List.setIfInBounds_toArray, List.set_cons_zero, List.set_cons_succ, i64_w, i32_w]
    rfl
  refine take_ (i := 7) (N := some 45) (v := ?_) (a' := ?_) #[true, true, true, true, true, true, true, true, false, false, false] rfl rfl (by kernel_rfl) (fun _ _ _ h => h) (Or.inl ⟨by rfl, ?_⟩) hHeld ?_ ?_
  rotate_left
  · rintro w' ⟨s0, s1⟩
    go_simp
    with_reducible rfl
  rotate_left
  · simp only [Act.put, List.setIfInBounds_toArray, List.set_cons_zero, List.set_cons_succ, i64_w, i32_w]
    rfl
  refine pure_ (i := 8) (N := some 46) (v := ?_) (a' := ?_) #[true, true, true, true, true, true, true, true, true, false, false] rfl rfl (by kernel_rfl) (fun _ _ _ h => h) (Or.inl ⟨by rfl, ?_⟩) ?_ ?_
  rotate_left
  · intro w'
    go_simp
    with_reducible rfl
  rotate_left
  · simp only [Act.put, List.setIfInBounds_toArray, List.set_cons_zero, List.set_cons_succ, i64_w, i32_w]
    rfl
  refine pure_ (i := 9) (N := some 47) (v := ?_) (a' := ?_) #[true, true, true, true, true, true, true, true, true, true, false] rfl rfl (by kernel_rfl) (fun _ _ _ h => h) (Or.inl ⟨by rfl, ?_⟩) ?_ ?_
  rotate_left
  · intro w'
    go_simp
    with_reducible rfl
  rotate_left
  · simp only [Act.put, List.setIfInBounds_toArray, List.set_cons_zero, List.set_cons_succ, i64_w, i32_w]
    rfl
  refine last_ (i := 10) (N := none) #[true, true, true, true, true, true, true, true, true, true, true] rfl rfl (by kernel_rfl) (by decide) (fun K hK => ?_)
  refine skip_ (w1 := ?_) (by rfl) rfl ?_ ?_
  rotate_left
  · go_simp
    rfl
  refine hK.out _ _ ?_
  clear hK K
  refine done_ (by kernel_rfl) ?_
  go_wp2_with fail
  refine Go.Great.bodyPost_end0 rfl rfl ⟨rfl, ⟨(blk_far (blk_far (blk_far hg2 m1 (.pointer none)) n0 (.pointer none)) n0 (.pointer none)), (blk_set4 (blk_set4 (blk_far he2 m2 (.pointer none)) (.pointer none)).2.2.1 (.pointer none)).2.2.2, (blk_far (blk_far (blk_set4 hb2 (.pointer none)).2.2.1 n2 (.pointer none)) n2 (.pointer none))⟩, ?_⟩
  first | exact hO.then (Only.set (Only.set (Only.set (Only.drew (Only.refl w2 _)) (by simp)) (by simp)) (by simp)) | exact hO.then (Only.drew (Only.set (Only.set (Only.set (Only.refl w2 _) (by simp)) (by simp)) (by simp)))

set_option maxHeartbeats 4000000 in
set_option maxRecDepth 100000 in
theorem outS_10 (g e gm : Nat) (n : Int) (fp lp : Option Addr) (ve : Value) (ke : ByteArray) (a : Nat) (ka : ByteArray) (va : Value) (xa : Option Addr) (w : World) (hg : w.heap[g]? = some (.cells #[.int .i64 n, .map (some gm), .pointer fp, .pointer lp] 62 (0, 0))) (he : w.heap[e]? = some (.cells #[.string ke, ve, .pointer (some ⟨a, 0, none⟩), .pointer none] 65 (0, 0))) (ha : w.heap[a]? = some (.cells #[.string ka, va, .pointer xa, .pointer (some ⟨e, 0, none⟩)] 65 (0, 0))) (n0 : g ≠ e) (n1 : a ≠ g) (n2 : a ≠ e) : Calls Try.prog 31 #[.pointer (some ⟨g, 0, none⟩), .pointer (some ⟨e, 0, none⟩)] w fun r w' => r = .returned (.tuple #[]) ∧ ((w'.heap[g]? = some (.cells #[.int .i64 n, .map (some gm), .pointer fp, .pointer (some ⟨a, 0, none⟩)] 62 (0, 0))) ∧ (w'.heap[e]? = some (.cells #[.string ke, ve, .pointer none, .pointer none] 65 (0, 0))) ∧ (w'.heap[a]? = some (.cells #[.string ka, va, .pointer xa, .pointer none] 65 (0, 0)))) ∧ Only w w' (fun k => k = g ∨ k = e ∨ k = a) := by
  have hu62 := Try.underlying62
  have hu65 := Try.underlying65
  have hu60 := Try.underlying60
  have hu41 := Try.underlying41
  have m0 := Ne.symm n0
  have m1 := Ne.symm n1
  have m2 := Ne.symm n2
  have cg0 := blk_cell hg 0
  have fg0 := blk_frozen hg 0
  have cg1 := blk_cell hg 1
  have fg1 := blk_frozen hg 1
  have cg2 := blk_cell hg 2
  have fg2 := blk_frozen hg 2
  have cg3 := blk_cell hg 3
  have fg3 := blk_frozen hg 3
  simp only [List.getElem?_toArray, List.getElem?_cons_zero, List.getElem?_cons_succ] at cg0 cg1 cg2 cg3
  have ce0 := blk_cell he 0
  have fe0 := blk_frozen he 0
  have ce1 := blk_cell he 1
  have fe1 := blk_frozen he 1
  have ce2 := blk_cell he 2
  have fe2 := blk_frozen he 2
  have ce3 := blk_cell he 3
  have fe3 := blk_frozen he 3
  simp only [List.getElem?_toArray, List.getElem?_cons_zero, List.getElem?_cons_succ] at ce0 ce1 ce2 ce3
  have ca0 := blk_cell ha 0
  have fa0 := blk_frozen ha 0
  have ca1 := blk_cell ha 1
  have fa1 := blk_frozen ha 1
  have ca2 := blk_cell ha 2
  have fa2 := blk_frozen ha 2
  have ca3 := blk_cell ha 3
  have fa3 := blk_frozen ha 3
  simp only [List.getElem?_toArray, List.getElem?_cons_zero, List.getElem?_cons_succ] at ca0 ca1 ca2 ca3
  go_enter Try.func31, Try.ntmps31
  go_wp2_with fail
  refine start_ (n := 11) (S := fun w' => w'.cell? ⟨e, 2, none⟩ = some (.pointer (some ⟨a, 0, none⟩)) ∧ w'.cell? ⟨e, 3, none⟩ = some (.pointer none)) (ds := [10]) #[false, false, false, false, false, false, false, false, false, false, false] (by kernel_rfl) rfl rfl ⟨ce2, ce3⟩ (fun hHeld => ?_)
  refine pure_ (i := 0) (N := some 16) (v := ?_) (a' := ?_) #[true, false, false, false, false, false, false, false, false, false, false] rfl rfl (by kernel_rfl) (fun _ _ _ h => h) (Or.inl ⟨by rfl, ?_⟩) ?_ ?_
  rotate_left
  · intro w'
    go_simp
    with_reducible rfl
  rotate_left
  · simp only [Act.put, List.setIfInBounds_toArray, List.set_cons_zero, List.set_cons_succ, i64_w, i32_w]
    rfl
  refine pure_ (i := 1) (N := some 17) (v := ?_) (a' := ?_) #[true, true, false, false, false, false, false, false, false, false, false] rfl rfl (by kernel_rfl) (fun _ _ _ h => h) (Or.inl ⟨by rfl, ?_⟩) ?_ ?_
  rotate_left
  · intro w'
    go_simp
    with_reducible rfl
  rotate_left
  · simp only [Act.put, List.setIfInBounds_toArray, List.set_cons_zero, List.set_cons_succ, i64_w, i32_w]
    rfl
  refine pure_ (i := 2) (N := some 18) (v := ?_) (a' := ?_) #[true, true, true, false, false, false, false, false, false, false, false] rfl rfl (by kernel_rfl) (fun _ _ _ h => h) (Or.inl ⟨by rfl, ?_⟩) ?_ ?_
  rotate_left
  · intro w'
    go_simp
    with_reducible rfl
  rotate_left
  · simp only [Act.put, List.setIfInBounds_toArray, List.set_cons_zero, List.set_cons_succ, i64_w, i32_w]
    rfl
  refine pure_ (i := 4) (N := some 20) (v := ?_) (a' := ?_) #[true, true, true, false, true, false, false, false, false, false, false] rfl rfl (by kernel_rfl) (fun _ _ _ h => h) (Or.inl ⟨by rfl, ?_⟩) ?_ ?_
  rotate_left
  · intro w'
    go_simp
    with_reducible rfl
  rotate_left
  · simp only [Act.put, List.setIfInBounds_toArray, List.set_cons_zero, List.set_cons_succ, i64_w, i32_w]
    rfl
  refine pure_ (i := 5) (N := some 21) (v := ?_) (a' := ?_) #[true, true, true, false, true, true, false, false, false, false, false] rfl rfl (by kernel_rfl) (fun _ _ _ h => h) (Or.inl ⟨by rfl, ?_⟩) ?_ ?_
  rotate_left
  · intro w'
    go_simp
    with_reducible rfl
  rotate_left
  · simp only [Act.put, List.setIfInBounds_toArray, List.set_cons_zero, List.set_cons_succ, i64_w, i32_w]
    rfl
  refine pure_ (i := 6) (N := some 22) (v := ?_) (a' := ?_) #[true, true, true, false, true, true, true, false, false, false, false] rfl rfl (by kernel_rfl) (fun _ _ _ h => h) (Or.inl ⟨by rfl, ?_⟩) ?_ ?_
  rotate_left
  · intro w'
    go_simp
    with_reducible rfl
  rotate_left
  · simp only [Act.put, List.setIfInBounds_toArray, List.set_cons_zero, List.set_cons_succ, i64_w, i32_w]
    rfl
  refine take_ (i := 3) (N := some 19) (v := ?_) (a' := ?_) #[true, true, true, true, true, true, true, false, false, false, false] rfl rfl (by kernel_rfl) (fun _ _ _ h => h) (Or.inl ⟨by rfl, ?_⟩) hHeld ?_ ?_
  rotate_left
  · rintro w' ⟨s0, s1⟩
    go_simp
    with_reducible rfl
  rotate_left
  · simp only [Act.put, List.setIfInBounds_toArray, List.set_cons_zero, List.set_cons_succ, i64_w, i32_w]
    rfl
  refine take_ (i := 7) (N := some 23) (v := ?_) (a' := ?_) #[true, true, true, true, true, true, true, true, false, false, false] rfl rfl (by kernel_rfl) (fun _ _ _ h => h) (Or.inl ⟨by rfl, ?_⟩) hHeld ?_ ?_
  rotate_left
  · rintro w' ⟨s0, s1⟩
    go_simp
    with_reducible rfl
  rotate_left
  · simp only [Act.put, List.setIfInBounds_toArray, List.set_cons_zero, List.set_cons_succ, i64_w, i32_w]
    rfl
  refine pure_ (i := 8) (N := some 24) (v := ?_) (a' := ?_) #[true, true, true, true, true, true, true, true, true, false, false] rfl rfl (by kernel_rfl) (fun _ _ _ h => h) (Or.inl ⟨by rfl, ?_⟩) ?_ ?_
  rotate_left
  · intro w'
    go_simp
    with_reducible rfl
  rotate_left
  · simp only [Act.put, List.setIfInBounds_toArray, List.set_cons_zero, List.set_cons_succ, i64_w, i32_w]
    rfl
  refine pure_ (i := 9) (N := some 25) (v := ?_) (a' := ?_) #[true, true, true, true, true, true, true, true, true, true, false] rfl rfl (by kernel_rfl) (fun _ _ _ h => h) (Or.inl ⟨by rfl, ?_⟩) ?_ ?_
  rotate_left
  · intro w'
    go_simp
    with_reducible rfl
  rotate_left
  · simp only [Act.put, List.setIfInBounds_toArray, List.set_cons_zero, List.set_cons_succ, i64_w, i32_w]
    rfl
  refine last_ (i := 10) (N := none) #[true, true, true, true, true, true, true, true, true, true, true] rfl rfl (by kernel_rfl) (by decide) (fun K hK => ?_)
  refine skip_ (w1 := ?_) (by rfl) rfl ?_ ?_
  rotate_left
  · go_simp
    rfl
  refine hK.out _ _ ?_
  clear hK K
  refine done_ (by kernel_rfl) ?_
  go_wp2_with fail
  refine Go.Great.bodyPost_end0 rfl rfl ⟨rfl, ⟨(blk_far (blk_far (blk_set4 (blk_far hg m1 (.pointer none)) (.pointer (some ⟨a, 0, none⟩))).2.2.2 n0 (.pointer none)) n0 (.pointer none)), (blk_set4 (blk_set4 (blk_far (blk_far he m2 (.pointer none)) m0 (.pointer (some ⟨a, 0, none⟩))) (.pointer none)).2.2.1 (.pointer none)).2.2.2, (blk_far (blk_far (blk_far (blk_set4 ha (.pointer none)).2.2.2 n1 (.pointer (some ⟨a, 0, none⟩))) n2 (.pointer none)) n2 (.pointer none))⟩, ?_⟩
  first | exact (Only.set (Only.set (Only.set (Only.set (Only.refl w _) (by simp)) (by simp)) (by simp)) (by simp)) | exact Only.drew (Only.set (Only.set (Only.set (Only.set (Only.refl w _) (by simp)) (by simp)) (by simp)) (by simp)) | exact (Only.set (Only.set (Only.set (Only.set (Only.drew (Only.refl w _)) (by simp)) (by simp)) (by simp)) (by simp))

set_option maxHeartbeats 4000000 in
set_option maxRecDepth 100000 in
theorem outS_11 (g e gm : Nat) (n : Int) (fp lp : Option Addr) (ve : Value) (ke : ByteArray) (a : Nat) (ka : ByteArray) (va : Value) (xa : Option Addr) (b : Nat) (kb : ByteArray) (vb : Value) (xb : Option Addr) (w : World) (hg : w.heap[g]? = some (.cells #[.int .i64 n, .map (some gm), .pointer fp, .pointer lp] 62 (0, 0))) (he : w.heap[e]? = some (.cells #[.string ke, ve, .pointer (some ⟨a, 0, none⟩), .pointer (some ⟨b, 0, none⟩)] 65 (0, 0))) (ha : w.heap[a]? = some (.cells #[.string ka, va, .pointer xa, .pointer (some ⟨e, 0, none⟩)] 65 (0, 0))) (hb : w.heap[b]? = some (.cells #[.string kb, vb, .pointer (some ⟨e, 0, none⟩), .pointer xb] 65 (0, 0))) (n0 : g ≠ e) (n1 : a ≠ g) (n2 : a ≠ e) (n3 : b ≠ g) (n4 : b ≠ e) (n5 : a ≠ b) : Calls Try.prog 31 #[.pointer (some ⟨g, 0, none⟩), .pointer (some ⟨e, 0, none⟩)] w fun r w' => r = .returned (.tuple #[]) ∧ ((w'.heap[g]? = some (.cells #[.int .i64 n, .map (some gm), .pointer fp, .pointer lp] 62 (0, 0))) ∧ (w'.heap[e]? = some (.cells #[.string ke, ve, .pointer none, .pointer none] 65 (0, 0))) ∧ (w'.heap[a]? = some (.cells #[.string ka, va, .pointer xa, .pointer (some ⟨b, 0, none⟩)] 65 (0, 0))) ∧ (w'.heap[b]? = some (.cells #[.string kb, vb, .pointer (some ⟨a, 0, none⟩), .pointer xb] 65 (0, 0)))) ∧ Only w w' (fun k => k = g ∨ k = e ∨ k = a ∨ k = b) := by
  have hu62 := Try.underlying62
  have hu65 := Try.underlying65
  have hu60 := Try.underlying60
  have hu41 := Try.underlying41
  have m0 := Ne.symm n0
  have m1 := Ne.symm n1
  have m2 := Ne.symm n2
  have m3 := Ne.symm n3
  have m4 := Ne.symm n4
  have m5 := Ne.symm n5
  have cg0 := blk_cell hg 0
  have fg0 := blk_frozen hg 0
  have cg1 := blk_cell hg 1
  have fg1 := blk_frozen hg 1
  have cg2 := blk_cell hg 2
  have fg2 := blk_frozen hg 2
  have cg3 := blk_cell hg 3
  have fg3 := blk_frozen hg 3
  simp only [List.getElem?_toArray, List.getElem?_cons_zero, List.getElem?_cons_succ] at cg0 cg1 cg2 cg3
  have ce0 := blk_cell he 0
  have fe0 := blk_frozen he 0
  have ce1 := blk_cell he 1
  have fe1 := blk_frozen he 1
  have ce2 := blk_cell he 2
  have fe2 := blk_frozen he 2
  have ce3 := blk_cell he 3
  have fe3 := blk_frozen he 3
  simp only [List.getElem?_toArray, List.getElem?_cons_zero, List.getElem?_cons_succ] at ce0 ce1 ce2 ce3
  have ca0 := blk_cell ha 0
  have fa0 := blk_frozen ha 0
  have ca1 := blk_cell ha 1
  have fa1 := blk_frozen ha 1
  have ca2 := blk_cell ha 2
  have fa2 := blk_frozen ha 2
  have ca3 := blk_cell ha 3
  have fa3 := blk_frozen ha 3
  simp only [List.getElem?_toArray, List.getElem?_cons_zero, List.getElem?_cons_succ] at ca0 ca1 ca2 ca3
  have cb0 := blk_cell hb 0
  have fb0 := blk_frozen hb 0
  have cb1 := blk_cell hb 1
  have fb1 := blk_frozen hb 1
  have cb2 := blk_cell hb 2
  have fb2 := blk_frozen hb 2
  have cb3 := blk_cell hb 3
  have fb3 := blk_frozen hb 3
  simp only [List.getElem?_toArray, List.getElem?_cons_zero, List.getElem?_cons_succ] at cb0 cb1 cb2 cb3
  go_enter Try.func31, Try.ntmps31
  go_wp2_with fail
  refine start_ (n := 11) (S := fun w' => w'.cell? ⟨e, 2, none⟩ = some (.pointer (some ⟨a, 0, none⟩)) ∧ w'.cell? ⟨e, 3, none⟩ = some (.pointer (some ⟨b, 0, none⟩))) (ds := [10]) #[false, false, false, false, false, false, false, false, false, false, false] (by kernel_rfl) rfl rfl ⟨ce2, ce3⟩ (fun hHeld => ?_)
  refine pure_ (i := 0) (N := some 16) (v := ?_) (a' := ?_) #[true, false, false, false, false, false, false, false, false, false, false] rfl rfl (by kernel_rfl) (fun _ _ _ h => h) (Or.inl ⟨by rfl, ?_⟩) ?_ ?_
  rotate_left
  · intro w'
    go_simp
    with_reducible rfl
  rotate_left
  · simp only [Act.put, List.setIfInBounds_toArray, List.set_cons_zero, List.set_cons_succ, i64_w, i32_w]
    rfl
  refine pure_ (i := 1) (N := some 17) (v := ?_) (a' := ?_) #[true, true, false, false, false, false, false, false, false, false, false] rfl rfl (by kernel_rfl) (fun _ _ _ h => h) (Or.inl ⟨by rfl, ?_⟩) ?_ ?_
  rotate_left
  · intro w'
    go_simp
    with_reducible rfl
  rotate_left
  · simp only [Act.put, List.setIfInBounds_toArray, List.set_cons_zero, List.set_cons_succ, i64_w, i32_w]
    rfl
  refine pure_ (i := 2) (N := some 18) (v := ?_) (a' := ?_) #[true, true, true, false, false, false, false, false, false, false, false] rfl rfl (by kernel_rfl) (fun _ _ _ h => h) (Or.inl ⟨by rfl, ?_⟩) ?_ ?_
  rotate_left
  · intro w'
    go_simp
    with_reducible rfl
  rotate_left
  · simp only [Act.put, List.setIfInBounds_toArray, List.set_cons_zero, List.set_cons_succ, i64_w, i32_w]
    rfl
  refine pure_ (i := 4) (N := some 20) (v := ?_) (a' := ?_) #[true, true, true, false, true, false, false, false, false, false, false] rfl rfl (by kernel_rfl) (fun _ _ _ h => h) (Or.inl ⟨by rfl, ?_⟩) ?_ ?_
  rotate_left
  · intro w'
    go_simp
    with_reducible rfl
  rotate_left
  · simp only [Act.put, List.setIfInBounds_toArray, List.set_cons_zero, List.set_cons_succ, i64_w, i32_w]
    rfl
  refine pure_ (i := 5) (N := some 21) (v := ?_) (a' := ?_) #[true, true, true, false, true, true, false, false, false, false, false] rfl rfl (by kernel_rfl) (fun _ _ _ h => h) (Or.inl ⟨by rfl, ?_⟩) ?_ ?_
  rotate_left
  · intro w'
    go_simp
    with_reducible rfl
  rotate_left
  · simp only [Act.put, List.setIfInBounds_toArray, List.set_cons_zero, List.set_cons_succ, i64_w, i32_w]
    rfl
  refine pure_ (i := 6) (N := some 22) (v := ?_) (a' := ?_) #[true, true, true, false, true, true, true, false, false, false, false] rfl rfl (by kernel_rfl) (fun _ _ _ h => h) (Or.inl ⟨by rfl, ?_⟩) ?_ ?_
  rotate_left
  · intro w'
    go_simp
    with_reducible rfl
  rotate_left
  · simp only [Act.put, List.setIfInBounds_toArray, List.set_cons_zero, List.set_cons_succ, i64_w, i32_w]
    rfl
  refine take_ (i := 3) (N := some 19) (v := ?_) (a' := ?_) #[true, true, true, true, true, true, true, false, false, false, false] rfl rfl (by kernel_rfl) (fun _ _ _ h => h) (Or.inl ⟨by rfl, ?_⟩) hHeld ?_ ?_
  rotate_left
  · rintro w' ⟨s0, s1⟩
    go_simp
    with_reducible rfl
  rotate_left
  · simp only [Act.put, List.setIfInBounds_toArray, List.set_cons_zero, List.set_cons_succ, i64_w, i32_w]
    rfl
  refine take_ (i := 7) (N := some 23) (v := ?_) (a' := ?_) #[true, true, true, true, true, true, true, true, false, false, false] rfl rfl (by kernel_rfl) (fun _ _ _ h => h) (Or.inl ⟨by rfl, ?_⟩) hHeld ?_ ?_
  rotate_left
  · rintro w' ⟨s0, s1⟩
    go_simp
    with_reducible rfl
  rotate_left
  · simp only [Act.put, List.setIfInBounds_toArray, List.set_cons_zero, List.set_cons_succ, i64_w, i32_w]
    rfl
  refine pure_ (i := 8) (N := some 24) (v := ?_) (a' := ?_) #[true, true, true, true, true, true, true, true, true, false, false] rfl rfl (by kernel_rfl) (fun _ _ _ h => h) (Or.inl ⟨by rfl, ?_⟩) ?_ ?_
  rotate_left
  · intro w'
    go_simp
    with_reducible rfl
  rotate_left
  · simp only [Act.put, List.setIfInBounds_toArray, List.set_cons_zero, List.set_cons_succ, i64_w, i32_w]
    rfl
  refine pure_ (i := 9) (N := some 25) (v := ?_) (a' := ?_) #[true, true, true, true, true, true, true, true, true, true, false] rfl rfl (by kernel_rfl) (fun _ _ _ h => h) (Or.inl ⟨by rfl, ?_⟩) ?_ ?_
  rotate_left
  · intro w'
    go_simp
    with_reducible rfl
  rotate_left
  · simp only [Act.put, List.setIfInBounds_toArray, List.set_cons_zero, List.set_cons_succ, i64_w, i32_w]
    rfl
  refine last_ (i := 10) (N := none) #[true, true, true, true, true, true, true, true, true, true, true] rfl rfl (by kernel_rfl) (by decide) (fun K hK => ?_)
  refine skip_ (w1 := ?_) (by rfl) rfl ?_ ?_
  rotate_left
  · go_simp
    rfl
  refine hK.out _ _ ?_
  clear hK K
  refine done_ (by kernel_rfl) ?_
  go_wp2_with fail
  have hg2 : (w.setCell ⟨a, 3, none⟩ (.pointer (some ⟨b, 0, none⟩))).drew.heap[g]? = _ := (blk_far hg m1 (.pointer (some ⟨b, 0, none⟩)))
  have he2 : (w.setCell ⟨a, 3, none⟩ (.pointer (some ⟨b, 0, none⟩))).drew.heap[e]? = _ := (blk_far he m2 (.pointer (some ⟨b, 0, none⟩)))
  have ha2 : (w.setCell ⟨a, 3, none⟩ (.pointer (some ⟨b, 0, none⟩))).drew.heap[a]? = _ := (blk_set4 ha (.pointer (some ⟨b, 0, none⟩))).2.2.2
  have hb2 : (w.setCell ⟨a, 3, none⟩ (.pointer (some ⟨b, 0, none⟩))).drew.heap[b]? = _ := (blk_far hb m5 (.pointer (some ⟨b, 0, none⟩)))
  have hO : Only w (w.setCell ⟨a, 3, none⟩ (.pointer (some ⟨b, 0, none⟩))).drew (fun k => k = g ∨ k = e ∨ k = a ∨ k = b) := ((Only.refl w (fun k => k = g ∨ k = e ∨ k = a ∨ k = b)).set (by simp)).drew
  clear cg0 fg0 cg1 fg1 cg2 fg2 cg3 fg3 ce0 fe0 ce1 fe1 ce2 fe2 ce3 fe3 ca0 fa0 ca1 fa1 ca2 fa2 ca3 fa3 cb0 fb0 cb1 fb1 cb2 fb2 cb3 fb3
  clear hHeld
  generalize (w.setCell ⟨a, 3, none⟩ (.pointer (some ⟨b, 0, none⟩))).drew = w2 at hg2 he2 ha2 hb2 hO ⊢
  have cg0 := blk_cell hg2 0
  have fg0 := blk_frozen hg2 0
  have cg1 := blk_cell hg2 1
  have fg1 := blk_frozen hg2 1
  have cg2 := blk_cell hg2 2
  have fg2 := blk_frozen hg2 2
  have cg3 := blk_cell hg2 3
  have fg3 := blk_frozen hg2 3
  simp only [List.getElem?_toArray, List.getElem?_cons_zero, List.getElem?_cons_succ] at cg0 cg1 cg2 cg3
  have ce0 := blk_cell he2 0
  have fe0 := blk_frozen he2 0
  have ce1 := blk_cell he2 1
  have fe1 := blk_frozen he2 1
  have ce2 := blk_cell he2 2
  have fe2 := blk_frozen he2 2
  have ce3 := blk_cell he2 3
  have fe3 := blk_frozen he2 3
  simp only [List.getElem?_toArray, List.getElem?_cons_zero, List.getElem?_cons_succ] at ce0 ce1 ce2 ce3
  have ca0 := blk_cell ha2 0
  have fa0 := blk_frozen ha2 0
  have ca1 := blk_cell ha2 1
  have fa1 := blk_frozen ha2 1
  have ca2 := blk_cell ha2 2
  have fa2 := blk_frozen ha2 2
  have ca3 := blk_cell ha2 3
  have fa3 := blk_frozen ha2 3
  simp only [List.getElem?_toArray, List.getElem?_cons_zero, List.getElem?_cons_succ] at ca0 ca1 ca2 ca3
  have cb0 := blk_cell hb2 0
  have fb0 := blk_frozen hb2 0
  have cb1 := blk_cell hb2 1
  have fb1 := blk_frozen hb2 1
  have cb2 := blk_cell hb2 2
  have fb2 := blk_frozen hb2 2
  have cb3 := blk_cell hb2 3
  have fb3 := blk_frozen hb2 3
  simp only [List.getElem?_toArray, List.getElem?_cons_zero, List.getElem?_cons_succ] at cb0 cb1 cb2 cb3
  refine start_ (n := 11) (S := fun w' => w'.cell? ⟨e, 2, none⟩ = some (.pointer (some ⟨a, 0, none⟩)) ∧ w'.cell? ⟨e, 3, none⟩ = some (.pointer (some ⟨b, 0, none⟩))) (ds := [10]) #[false, false, false, false, false, false, false, false, false, false, false] (by kernel_rfl) rfl rfl ⟨ce2, ce3⟩ (fun hHeld => ?_)
  refine pure_ (i := 0) (N := some 38) (v := ?_) (a' := ?_) #[true, false, false, false, false, false, false, false, false, false, false] rfl rfl (by kernel_rfl) (fun _ _ _ h => h) (Or.inl ⟨by rfl, ?_⟩) ?_ ?_
  rotate_left
  · intro w'
    go_simp
    with_reducible rfl
  rotate_left
  · simp only [Act.put, List.setIfInBounds_toArray, List.set_cons_zero, List.set_cons_succ, i64_w, i32_w]
    rfl
  refine pure_ (i := 1) (N := some 39) (v := ?_) (a' := ?_) #[true, true, false, false, false, false, false, false, false, false, false] rfl rfl (by kernel_rfl) (fun _ _ _ h => h) (Or.inl ⟨by rfl, ?_⟩) ?_ ?_
  rotate_left
  · intro w'
    go_simp
    with_reducible rfl
  rotate_left
  · simp only [Act.put, List.setIfInBounds_toArray, List.set_cons_zero, List.set_cons_succ, i64_w, i32_w]
    rfl
  refine pure_ (i := 2) (N := some 40) (v := ?_) (a' := ?_) #[true, true, true, false, false, false, false, false, false, false, false] rfl rfl (by kernel_rfl) (fun _ _ _ h => h) (Or.inl ⟨by rfl, ?_⟩) ?_ ?_
  rotate_left
  · intro w'
    go_simp
    with_reducible rfl
  rotate_left
  · simp only [Act.put, List.setIfInBounds_toArray, List.set_cons_zero, List.set_cons_succ, i64_w, i32_w]
    rfl
  refine pure_ (i := 4) (N := some 42) (v := ?_) (a' := ?_) #[true, true, true, false, true, false, false, false, false, false, false] rfl rfl (by kernel_rfl) (fun _ _ _ h => h) (Or.inl ⟨by rfl, ?_⟩) ?_ ?_
  rotate_left
  · intro w'
    go_simp
    with_reducible rfl
  rotate_left
  · simp only [Act.put, List.setIfInBounds_toArray, List.set_cons_zero, List.set_cons_succ, i64_w, i32_w]
    rfl
  refine pure_ (i := 5) (N := some 43) (v := ?_) (a' := ?_) #[true, true, true, false, true, true, false, false, false, false, false] rfl rfl (by kernel_rfl) (fun _ _ _ h => h) (Or.inl ⟨by rfl, ?_⟩) ?_ ?_
  rotate_left
  · intro w'
    go_simp
    with_reducible rfl
  rotate_left
  · simp only [Act.put, List.setIfInBounds_toArray, List.set_cons_zero, List.set_cons_succ, i64_w, i32_w]
    rfl
  refine pure_ (i := 6) (N := some 44) (v := ?_) (a' := ?_) #[true, true, true, false, true, true, true, false, false, false, false] rfl rfl (by kernel_rfl) (fun _ _ _ h => h) (Or.inl ⟨by rfl, ?_⟩) ?_ ?_
  rotate_left
  · intro w'
    go_simp
    with_reducible rfl
  rotate_left
  · simp only [Act.put, List.setIfInBounds_toArray, List.set_cons_zero, List.set_cons_succ, i64_w, i32_w]
    rfl
  refine take_ (i := 3) (N := some 41) (v := ?_) (a' := ?_) #[true, true, true, true, true, true, true, false, false, false, false] rfl rfl (by kernel_rfl) (fun _ _ _ h => h) (Or.inl ⟨by rfl, ?_⟩) hHeld ?_ ?_
  rotate_left
  · rintro w' ⟨s0, s1⟩
    go_simp
    with_reducible rfl
  rotate_left
  · simp only [Act.put, List.setIfInBounds_toArray, List.set_cons_zero, List.set_cons_succ, i64_w, i32_w]
    rfl
  refine take_ (i := 7) (N := some 45) (v := ?_) (a' := ?_) #[true, true, true, true, true, true, true, true, false, false, false] rfl rfl (by kernel_rfl) (fun _ _ _ h => h) (Or.inl ⟨by rfl, ?_⟩) hHeld ?_ ?_
  rotate_left
  · rintro w' ⟨s0, s1⟩
    go_simp
    with_reducible rfl
  rotate_left
  · simp only [Act.put, List.setIfInBounds_toArray, List.set_cons_zero, List.set_cons_succ, i64_w, i32_w]
    rfl
  refine pure_ (i := 8) (N := some 46) (v := ?_) (a' := ?_) #[true, true, true, true, true, true, true, true, true, false, false] rfl rfl (by kernel_rfl) (fun _ _ _ h => h) (Or.inl ⟨by rfl, ?_⟩) ?_ ?_
  rotate_left
  · intro w'
    go_simp
    with_reducible rfl
  rotate_left
  · simp only [Act.put, List.setIfInBounds_toArray, List.set_cons_zero, List.set_cons_succ, i64_w, i32_w]
    rfl
  refine pure_ (i := 9) (N := some 47) (v := ?_) (a' := ?_) #[true, true, true, true, true, true, true, true, true, true, false] rfl rfl (by kernel_rfl) (fun _ _ _ h => h) (Or.inl ⟨by rfl, ?_⟩) ?_ ?_
  rotate_left
  · intro w'
    go_simp
    with_reducible rfl
  rotate_left
  · simp only [Act.put, List.setIfInBounds_toArray, List.set_cons_zero, List.set_cons_succ, i64_w, i32_w]
    rfl
  refine last_ (i := 10) (N := none) #[true, true, true, true, true, true, true, true, true, true, true] rfl rfl (by kernel_rfl) (by decide) (fun K hK => ?_)
  refine skip_ (w1 := ?_) (by rfl) rfl ?_ ?_
  rotate_left
  · go_simp
    rfl
  refine hK.out _ _ ?_
  clear hK K
  refine done_ (by kernel_rfl) ?_
  go_wp2_with fail
  refine Go.Great.bodyPost_end0 rfl rfl ⟨rfl, ⟨(blk_far (blk_far (blk_far hg2 m3 (.pointer (some ⟨a, 0, none⟩))) n0 (.pointer none)) n0 (.pointer none)), (blk_set4 (blk_set4 (blk_far he2 m4 (.pointer (some ⟨a, 0, none⟩))) (.pointer none)).2.2.1 (.pointer none)).2.2.2, (blk_far (blk_far (blk_far ha2 n5 (.pointer (some ⟨a, 0, none⟩))) n2 (.pointer none)) n2 (.pointer none)), (blk_far (blk_far (blk_set4 hb2 (.pointer (some ⟨a, 0, none⟩))).2.2.1 n4 (.pointer none)) n4 (.pointer none))⟩, ?_⟩
  first | exact hO.then (Only.set (Only.set (Only.set (Only.drew (Only.refl w2 _)) (by simp)) (by simp)) (by simp)) | exact hO.then (Only.drew (Only.set (Only.set (Only.set (Only.refl w2 _) (by simp)) (by simp)) (by simp)))

set_option maxHeartbeats 4000000 in
set_option maxRecDepth 100000 in
theorem endS_0 (g e gm : Nat) (n : Int) (fp xe : Option Addr) (ve : Value) (ke : ByteArray) (w : World) (hg : w.heap[g]? = some (.cells #[.int .i64 n, .map (some gm), .pointer fp, .pointer none] 62 (0, 0))) (he : w.heap[e]? = some (.cells #[.string ke, ve, .pointer xe, .pointer none] 65 (0, 0))) (n0 : g ≠ e) : Calls Try.prog 32 #[.pointer (some ⟨g, 0, none⟩), .pointer (some ⟨e, 0, none⟩)] w fun r w' => r = .returned (.tuple #[]) ∧ ((w'.heap[g]? = some (.cells #[.int .i64 n, .map (some gm), .pointer (some ⟨e, 0, none⟩), .pointer (some ⟨e, 0, none⟩)] 62 (0, 0))) ∧ (w'.heap[e]? = some (.cells #[.string ke, ve, .pointer none, .pointer none] 65 (0, 0)))) ∧ Only w w' (fun k => k = g ∨ k = e) := by
  have hu62 := Try.underlying62
  have hu65 := Try.underlying65
  have hu60 := Try.underlying60
  have hu41 := Try.underlying41
  have m0 := Ne.symm n0
  have cg0 := blk_cell hg 0
  have fg0 := blk_frozen hg 0
  have cg1 := blk_cell hg 1
  have fg1 := blk_frozen hg 1
  have cg2 := blk_cell hg 2
  have fg2 := blk_frozen hg 2
  have cg3 := blk_cell hg 3
  have fg3 := blk_frozen hg 3
  simp only [List.getElem?_toArray, List.getElem?_cons_zero, List.getElem?_cons_succ] at cg0 cg1 cg2 cg3
  have ce0 := blk_cell he 0
  have fe0 := blk_frozen he 0
  have ce1 := blk_cell he 1
  have fe1 := blk_frozen he 1
  have ce2 := blk_cell he 2
  have fe2 := blk_frozen he 2
  have ce3 := blk_cell he 3
  have fe3 := blk_frozen he 3
  simp only [List.getElem?_toArray, List.getElem?_cons_zero, List.getElem?_cons_succ] at ce0 ce1 ce2 ce3
  go_enter Try.func32, Try.ntmps32
  go_wp2_with fail
  refine Go.Great.bodyPost_end0 rfl rfl ⟨rfl, ⟨(blk_set4 (blk_set4 (blk_far hg n0 (.pointer none)) (.pointer (some ⟨e, 0, none⟩))).2.2.1 (.pointer (some ⟨e, 0, none⟩))).2.2.2, (blk_far (blk_far (blk_set4 he (.pointer none)).2.2.1 m0 (.pointer (some ⟨e, 0, none⟩))) m0 (.pointer (some ⟨e, 0, none⟩)))⟩, ?_⟩
  exact Only.set (Only.set (Only.set (Only.refl w _) (by simp)) (by simp)) (by simp)

set_option maxHeartbeats 4000000 in
set_option maxRecDepth 100000 in
theorem endS_1 (g e gm : Nat) (n : Int) (fp xe : Option Addr) (ve : Value) (ke : ByteArray) (z : Nat) (kz : ByteArray) (vz : Value) (xz nz : Option Addr) (w : World) (hg : w.heap[g]? = some (.cells #[.int .i64 n, .map (some gm), .pointer fp, .pointer (some ⟨z, 0, none⟩)] 62 (0, 0))) (he : w.heap[e]? = some (.cells #[.string ke, ve, .pointer xe, .pointer none] 65 (0, 0))) (hz : w.heap[z]? = some (.cells #[.string kz, vz, .pointer xz, .pointer nz] 65 (0, 0))) (n0 : g ≠ e) (n1 : z ≠ g) (n2 : z ≠ e) : Calls Try.prog 32 #[.pointer (some ⟨g, 0, none⟩), .pointer (some ⟨e, 0, none⟩)] w fun r w' => r = .returned (.tuple #[]) ∧ ((w'.heap[g]? = some (.cells #[.int .i64 n, .map (some gm), .pointer fp, .pointer (some ⟨e, 0, none⟩)] 62 (0, 0))) ∧ (w'.heap[e]? = some (.cells #[.string ke, ve, .pointer (some ⟨z, 0, none⟩), .pointer none] 65 (0, 0))) ∧ (w'.heap[z]? = some (.cells #[.string kz, vz, .pointer xz, .pointer (some ⟨e, 0, none⟩)] 65 (0, 0)))) ∧ Only w w' (fun k => k = g ∨ k = e ∨ k = z) := by
  have hu62 := Try.underlying62
  have hu65 := Try.underlying65
  have hu60 := Try.underlying60
  have hu41 := Try.underlying41
  have m0 := Ne.symm n0
  have m1 := Ne.symm n1
  have m2 := Ne.symm n2
  have cg0 := blk_cell hg 0
  have fg0 := blk_frozen hg 0
  have cg1 := blk_cell hg 1
  have fg1 := blk_frozen hg 1
  have cg2 := blk_cell hg 2
  have fg2 := blk_frozen hg 2
  have cg3 := blk_cell hg 3
  have fg3 := blk_frozen hg 3
  simp only [List.getElem?_toArray, List.getElem?_cons_zero, List.getElem?_cons_succ] at cg0 cg1 cg2 cg3
  have ce0 := blk_cell he 0
  have fe0 := blk_frozen he 0
  have ce1 := blk_cell he 1
  have fe1 := blk_frozen he 1
  have ce2 := blk_cell he 2
  have fe2 := blk_frozen he 2
  have ce3 := blk_cell he 3
  have fe3 := blk_frozen he 3
  simp only [List.getElem?_toArray, List.getElem?_cons_zero, List.getElem?_cons_succ] at ce0 ce1 ce2 ce3
  have cz0 := blk_cell hz 0
  have fz0 := blk_frozen hz 0
  have cz1 := blk_cell hz 1
  have fz1 := blk_frozen hz 1
  have cz2 := blk_cell hz 2
  have fz2 := blk_frozen hz 2
  have cz3 := blk_cell hz 3
  have fz3 := blk_frozen hz 3
  simp only [List.getElem?_toArray, List.getElem?_cons_zero, List.getElem?_cons_succ] at cz0 cz1 cz2 cz3
  go_enter Try.func32, Try.ntmps32
  go_wp2_with fail
  refine Go.Great.bodyPost_end0 rfl rfl ⟨rfl, ⟨(blk_set4 (blk_far (blk_far hg n0 (.pointer (some ⟨z, 0, none⟩))) m1 (.pointer (some ⟨e, 0, none⟩))) (.pointer (some ⟨e, 0, none⟩))).2.2.2, (blk_far (blk_far (blk_set4 he (.pointer (some ⟨z, 0, none⟩))).2.2.1 m2 (.pointer (some ⟨e, 0, none⟩))) m0 (.pointer (some ⟨e, 0, none⟩))), (blk_far (blk_set4 (blk_far hz n2 (.pointer (some ⟨z, 0, none⟩))) (.pointer (some ⟨e, 0, none⟩))).2.2.2 n1 (.pointer (some ⟨e, 0, none⟩)))⟩, ?_⟩
  exact Only.set (Only.set (Only.set (Only.refl w _) (by simp)) (by simp)) (by simp)
end Go.Proofs.Ytlainhbmfphojaa.Tb
