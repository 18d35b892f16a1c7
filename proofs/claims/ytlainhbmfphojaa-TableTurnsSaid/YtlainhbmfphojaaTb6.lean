/- Proved: the walks of Put of a new key, and of Keys. -/
import Derived.Test.YtlainhbmfphojaaTb5
namespace Go.Proofs.Ytlainhbmfphojaa.Tb
open Go.RowKit Go.Maps Go.Proofs.YtlainhbmfphojaaW.PrintWords Go.Proofs.YtlainhbmfphojaaW.PrintLast Go.Proofs.YtlainhbmfphojaaW.PrintMore
set_option linter.unusedVariables false
set_option linter.unusedSimpArgs false

theorem Only.thenT {w w1 w2 : World} {S T : Nat → Prop} (h : Only w w1 S) (k : Only w1 w2 T) (hT : ∀ i, i < w.heap.size → T i → S i) : Only w w2 S :=
  ⟨k.os.trans h.os, k.tape.trans h.tape, k.output.trans h.output, Nat.le_trans h.size k.size, fun i hi hs => (k.block i (Nat.lt_of_lt_of_le hi h.size) (fun c => hs (hT i hi c))).trans (h.block i hi hs)⟩
theorem drew_below (w : World) : Below w.heap.size w w.drew := below_drew1 (Below.refl _ _)
theorem TB.newer {X : Type} {w w' : World} {tb th : TypeId} {enc : X → Value} {B g gm n : Nat} {L : List (E X)} {b : Nat} (h : TB w tb th enc B g gm n L) (hb : b = w.heap.size) : g ≠ b ∧ b ∉ L.map E.blk ∧ gm ≠ b := by
  have hl := h.lt
  subst hb
  exact ⟨fun e => by have := hl g (.inl rfl); omega, fun e => by have := hl _ (.inr (.inr e)); omega, fun e => by have := hl gm (.inr (.inl rfl)); omega⟩
theorem own_base_ {w : World} {base n size : Nat} {e : TypeId} {v : Value} {xs : List Value} (h : w.ownsRow base e size v n xs) : ∀ k, v.ownBlock = some k → base ≤ k := by
  intro k hk
  rcases h.2 with ⟨rfl, _⟩ | ⟨g, c, cur, rfl, hb, hr, _⟩
  · cases hk
  · cases hk
    exact hb
set_option maxHeartbeats 4000000 in
set_option maxRecDepth 100000 in
theorem putI_new {w : World} {B g gm n : Nat} {L : List (E Int)} {s : ByteArray} (x : Int) (h : TB w 54 57 eI B g gm n L) (hs : s.size ≤ maxLen) (hn : s ∉ L.map E.key) (hl : L.length < n) : Calls Try.prog 9 #[.pointer (some ⟨g, 0, none⟩), .string s, .int .i64 x] w fun r w' => ∃ b, r = .returned (.tuple #[.string ⟨#[]⟩, .bool false]) ∧ w.heap.size ≤ b ∧ TB w' 54 57 eI B g gm n (L ++ [⟨s, x, b⟩]) ∧ Only w w' (fun k => TS g gm L k) := by
  have hu51 := Try.underlying51
  have hu52 := Try.underlying52
  have hu54 := Try.underlying54
  have hu57 := Try.underlying57
  have hu3 := Try.underlying3
  have hu26 := Try.underlying26
  have hrun := h.mp.lacks Try.underlying51 (zero52 w) hn hs
  have hC := h.below (drew_below w)
  have hb := h.blk
  have n1 := h.n1
  have hmx : L.length < maxLen := by unfold maxLen; omega
  have hne : ((L.length : Int) == (n : Int)) = false := by simp only [beq_eq_false_iff_ne, ne_eq]; omega
  have hne2 : ¬ (L.length : Int) = (n : Int) := by omega
  have cg0 := blk_cell hb 0
  have fg0 := blk_frozen hb 0
  have cg1 := blk_cell hb 1
  have fg1 := blk_frozen hb 1
  have cg2 := blk_cell hb 2
  have fg2 := blk_frozen hb 2
  have cg3 := blk_cell hb 3
  have fg3 := blk_frozen hb 3
  simp only [List.getElem?_toArray, List.getElem?_cons_zero, List.getElem?_cons_succ] at cg0 cg1 cg2 cg3
  go_enter Try.func9, Try.ntmps9
  go_wp2_with fail
  refine start_ (n := 10) (S := fun w' => w'.cell? ⟨g, 0, none⟩ = some (.int .i64 (n : Int)) ∧ w'.cell? ⟨g, 1, none⟩ = some (.map (some gm)) ∧ ∀ ty, (Builtin.len_ #[51] ty #[.map (some gm)]).run Try.prog w' = .ok (.int .i64 (L.length : Int)) w') (ds := []) #[false, false, false, false, false, false, false, false, false, false] (by kernel_rfl) rfl rfl ⟨cg0, cg1, fun ty => hC.mp.len_run Try.underlying51 ty⟩ (fun hHeld => ?_)
  refine pure_ (i := 0) (N := some 33) (v := ?_) (a' := ?_) #[true, false, false, false, false, false, false, false, false, false] rfl rfl (by kernel_rfl) (fun _ _ _ h => h) (Or.inl ⟨by rfl, ?_⟩) ?_ ?_
  rotate_left
  · intro w'
    go_simp
    with_reducible rfl
  rotate_left
  · simp only [Act.put, List.setIfInBounds_toArray, List.set_cons_zero, List.set_cons_succ, i64_w, i32_w]
    rfl
  refine pure_ (i := 1) (N := some 34) (v := ?_) (a' := ?_) #[true, true, false, false, false, false, false, false, false, false] rfl rfl (by kernel_rfl) (fun _ _ _ h => h) (Or.inl ⟨by rfl, ?_⟩) ?_ ?_
  rotate_left
  · intro w'
    go_simp
    with_reducible rfl
  rotate_left
  · simp only [Act.put, List.setIfInBounds_toArray, List.set_cons_zero, List.set_cons_succ, i64_w, i32_w]
    rfl
  refine pure_ (i := 2) (N := some 35) (v := ?_) (a' := ?_) #[true, true, true, false, false, false, false, false, false, false] rfl rfl (by kernel_rfl) (fun _ _ _ h => h) (Or.inl ⟨by rfl, ?_⟩) ?_ ?_
  rotate_left
  · intro w'
    go_simp
    with_reducible rfl
  rotate_left
  · simp only [Act.put, List.setIfInBounds_toArray, List.set_cons_zero, List.set_cons_succ, i64_w, i32_w]
    rfl
  refine pure_ (i := 5) (N := some 38) (v := ?_) (a' := ?_) #[true, true, true, false, false, true, false, false, false, false] rfl rfl (by kernel_rfl) (fun _ _ _ h => h) (Or.inl ⟨by rfl, ?_⟩) ?_ ?_
  rotate_left
  · intro w'
    go_simp
    with_reducible rfl
  rotate_left
  · simp only [Act.put, List.setIfInBounds_toArray, List.set_cons_zero, List.set_cons_succ, i64_w, i32_w]
    rfl
  refine pure_ (i := 6) (N := some 39) (v := ?_) (a' := ?_) #[true, true, true, false, false, true, true, false, false, false] rfl rfl (by kernel_rfl) (fun _ _ _ h => h) (Or.inl ⟨by rfl, ?_⟩) ?_ ?_
  rotate_left
  · intro w'
    go_simp
    with_reducible rfl
  rotate_left
  · simp only [Act.put, List.setIfInBounds_toArray, List.set_cons_zero, List.set_cons_succ, i64_w, i32_w]
    rfl
  refine pure_ (i := 7) (N := some 40) (v := ?_) (a' := ?_) #[true, true, true, false, false, true, true, true, false, false] rfl rfl (by kernel_rfl) (fun _ _ _ h => h) (Or.inl ⟨by rfl, ?_⟩) ?_ ?_
  rotate_left
  · intro w'
    go_simp
    with_reducible rfl
  rotate_left
  · simp only [Act.put, List.setIfInBounds_toArray, List.set_cons_zero, List.set_cons_succ, i64_w, i32_w]
    rfl
  refine take_ (i := 3) (N := some 36) (v := ?_) (a' := ?_) #[true, true, true, true, false, true, true, true, false, false] rfl rfl (by kernel_rfl) (fun _ _ _ h => h) (Or.inl ⟨by rfl, ?_⟩) hHeld ?_ ?_
  rotate_left
  · rintro w' ⟨s0, s1, s2⟩
    go_simp
    with_reducible rfl
  rotate_left
  · simp only [Act.put, List.setIfInBounds_toArray, List.set_cons_zero, List.set_cons_succ, i64_w, i32_w]
    rfl
  refine take_ (i := 4) (N := some 37) (v := ?_) (a' := ?_) #[true, true, true, true, true, true, true, true, false, false] rfl rfl (by kernel_rfl) (fun _ _ _ h => h) (Or.inl ⟨by rfl, ?_⟩) hHeld ?_ ?_
  rotate_left
  · rintro w' ⟨s0, s1, s2⟩
    go_simp
    with_reducible rfl
  rotate_left
  · simp only [Act.put, List.setIfInBounds_toArray, List.set_cons_zero, List.set_cons_succ, i64_w, i32_w]
    rfl
  refine take_ (i := 8) (N := some 41) (v := ?_) (a' := ?_) #[true, true, true, true, true, true, true, true, true, false] rfl rfl (by kernel_rfl) (fun _ _ _ h => h) (Or.inl ⟨by rfl, ?_⟩) hHeld ?_ ?_
  rotate_left
  · rintro w' ⟨s0, s1, s2⟩
    go_simp
    with_reducible rfl
  rotate_left
  · simp only [Act.put, List.setIfInBounds_toArray, List.set_cons_zero, List.set_cons_succ, i64_w, i32_w]
    rfl
  refine pure_ (i := 9) (N := some 42) (v := ?_) (a' := ?_) #[true, true, true, true, true, true, true, true, true, true] rfl rfl (by kernel_rfl) (fun _ _ _ h => h) (Or.inl ⟨by rfl, ?_⟩) ?_ ?_
  rotate_left
  · intro w'
    go_simp
    with_reducible rfl
  rotate_left
  · simp only [Act.put, List.setIfInBounds_toArray, List.set_cons_zero, List.set_cons_succ, i64_w, i32_w]
    rfl
  refine done_ (by kernel_rfl) ?_
  have hnC := hn
  have hlC := hl
  have o1 := Only.of_below (drew_below w) (fun k => TS g gm L k)
  clear hrun hHeld cg0 cg1 cg2 cg3 fg0 fg1 fg2 fg3
  generalize w.drew = w1 at hC o1 ⊢
  go_wp2_with (first
    | ((with_reducible refine gate_dst (N := 56) rfl ?_); refine box_event ?hg (N := 56) ?hd (cs := #[.string s, .int .i64 x, .pointer none, .pointer none]) (t := 57) ?hr ?_; (case hd => rfl); (case hg => rfl); (case hr => first | (go_simp; done) | (go_simp; rfl)); intro b eb w2 Xb Bb; have eb : b = w1.heap.size := eb; subst eb; have h2 := hC.below Bb; obtain ⟨w3, hrunP, mp3, hg3⟩ := h2.mp.put Try.underlying51 (e := ⟨s, x, w1.heap.size⟩) hnC hs hmx; have o3 : Only w2 w3 (fun k => k = gm) := (⟨hg3.os, hg3.tape, hg3.output, hg3.size, fun k hk hs => hg3.block k hk (fun e => hs (by injection e))⟩); obtain ⟨nb1, nb2, nb3⟩ := hC.newer (w' := w) rfl; have b3 := o3.blk h2.blk hC.gg; have s3 := h2.seg.only o3 (fun x hx c => hC.nm (c ▸ List.mem_map_of_mem hx)); have e3 := o3.blk Xb (fun e => nb3 e.symm); have cg := blk_cell h2.blk 1; simp only [List.getElem?_toArray, List.getElem?_cons_zero, List.getElem?_cons_succ] at cg)
    | (go_at_call 30; refine (endI w3 L ⟨s, x, w1.heap.size⟩ none b3 s3 e3 hC.nd hC.ng nb1 nb2).mono ?_; rintro r w4 ⟨rfl, b4, s4, o4⟩))
  refine bodyPost_ret (results_tmp2 rfl _ _ _) rfl ?_
  have hsz := hC.lt
  have hbz := Bb.size
  refine ⟨_, rfl, o1.size, hC.more b4 s4 (mp3.only o4 (fun c => by rcases c with c | c | c; exact hC.gg c.symm; exact nb3 c; exact hC.nm c)) hnC hs hlC (Nat.le_refl _), ?_⟩
  refine ((o1.then (Only.of_below Bb _)).thenT o3 (fun i _ c => .inr (.inl c))).thenT o4 (fun i hi c => ?_)
  rcases c with c | c | c
  · exact .inl c
  · subst c; exact absurd hi (by have := o1.size; omega)
  · exact .inr (.inr (by exact c))
set_option maxHeartbeats 4000000 in
set_option maxRecDepth 100000 in
theorem putI_full {w : World} {B g gm n : Nat} {e0 : E Int} {S0 : List (E Int)} {s : ByteArray} (x : Int) (h : TB w 54 57 eI B g gm n (e0 :: S0)) (hs : s.size ≤ maxLen) (hn : s ∉ (e0 :: S0).map E.key) (hl : (e0 :: S0).length = n) : Calls Try.prog 9 #[.pointer (some ⟨g, 0, none⟩), .string s, .int .i64 x] w fun r w' => ∃ b, r = .returned (.tuple #[.string e0.key, .bool true]) ∧ w.heap.size ≤ b ∧ TB w' 54 57 eI B g gm n (S0 ++ [⟨s, x, b⟩]) ∧ Only w w' (fun k => TS g gm (e0 :: S0) k) := by
  have hu51 := Try.underlying51
  have hu52 := Try.underlying52
  have hu54 := Try.underlying54
  have hu57 := Try.underlying57
  have hu3 := Try.underlying3
  have hu26 := Try.underlying26
  have hrun := h.mp.lacks Try.underlying51 (zero52 w) hn hs
  have hD := h.below (drew_below w)
  have hb : w.heap[g]? = some (.cells #[.int .i64 (n : Int), .map (some gm), .pointer (some ⟨e0.blk, 0, none⟩), ptr (lst none (e0 :: S0))] 54 (0, 0)) := h.blk
  have he := h.seg.1
  have n1 := h.n1
  have hln : S0.length + 1 = n := by simpa using hl
  have hmx : S0.length < maxLen := by unfold maxLen; omega
  have hlC : S0.length < n := by omega
  have hnC : s ∉ S0.map E.key := fun c => hn (by simp only [List.map_cons, List.mem_cons]; exact .inr c)
  have hne : (((e0 :: S0).length : Int) == (n : Int)) = true := by rw [hl]; simp
  have hne2 : ((e0 :: S0).length : Int) = (n : Int) := by rw [hl]
  have cg0 := blk_cell hb 0
  have fg0 := blk_frozen hb 0
  have cg1 := blk_cell hb 1
  have fg1 := blk_frozen hb 1
  have cg2 := blk_cell hb 2
  have fg2 := blk_frozen hb 2
  have cg3 := blk_cell hb 3
  have fg3 := blk_frozen hb 3
  simp only [List.getElem?_toArray, List.getElem?_cons_zero, List.getElem?_cons_succ] at cg0 cg1 cg2 cg3
  have ce0 := blk_cell he 0
  have fe0 := blk_frozen he 0
  have ce1 := blk_cell he 1
  have fe1 := blk_frozen he 1
  have ce2 := blk_cell he 2
  have fe2 := blk_frozen he 2
  have ce3 := blk_cell he 3
  have fe3 := blk_frozen he 3
  simp only [List.getElem?_toArray, List.getElem?_cons_zero, List.getElem?_cons_succ] at ce0 ce1 ce2 ce3
  go_enter Try.func9, Try.ntmps9
  go_wp2_with fail
  refine start_ (n := 10) (S := fun w' => w'.cell? ⟨g, 0, none⟩ = some (.int .i64 (n : Int)) ∧ w'.cell? ⟨g, 1, none⟩ = some (.map (some gm)) ∧ ∀ ty, (Builtin.len_ #[51] ty #[.map (some gm)]).run Try.prog w' = .ok (.int .i64 (n : Int)) w') (ds := []) #[false, false, false, false, false, false, false, false, false, false] (by kernel_rfl) rfl rfl ⟨cg0, cg1, fun ty => by have := hD.mp.len_run Try.underlying51 ty; rwa [hl] at this⟩ (fun hHeld => ?_)
  refine pure_ (i := 0) (N := some 33) (v := ?_) (a' := ?_) #[true, false, false, false, false, false, false, false, false, false] rfl rfl (by kernel_rfl) (fun _ _ _ h => h) (Or.inl ⟨by rfl, ?_⟩) ?_ ?_
  rotate_left
  · intro w'
    go_simp
    with_reducible rfl
  rotate_left
  · simp only [Act.put, List.setIfInBounds_toArray, List.set_cons_zero, List.set_cons_succ, i64_w, i32_w]
    rfl
  refine pure_ (i := 1) (N := some 34) (v := ?_) (a' := ?_) #[true, true, false, false, false, false, false, false, false, false] rfl rfl (by kernel_rfl) (fun _ _ _ h => h) (Or.inl ⟨by rfl, ?_⟩) ?_ ?_
  rotate_left
  · intro w'
    go_simp
    with_reducible rfl
  rotate_left
  · simp only [Act.put, List.setIfInBounds_toArray, List.set_cons_zero, List.set_cons_succ, i64_w, i32_w]
    rfl
  refine pure_ (i := 2) (N := some 35) (v := ?_) (a' := ?_) #[true, true, true, false, false, false, false, false, false, false] rfl rfl (by kernel_rfl) (fun _ _ _ h => h) (Or.inl ⟨by rfl, ?_⟩) ?_ ?_
  rotate_left
  · intro w'
    go_simp
    with_reducible rfl
  rotate_left
  · simp only [Act.put, List.setIfInBounds_toArray, List.set_cons_zero, List.set_cons_succ, i64_w, i32_w]
    rfl
  refine pure_ (i := 5) (N := some 38) (v := ?_) (a' := ?_) #[true, true, true, false, false, true, false, false, false, false] rfl rfl (by kernel_rfl) (fun _ _ _ h => h) (Or.inl ⟨by rfl, ?_⟩) ?_ ?_
  rotate_left
  · intro w'
    go_simp
    with_reducible rfl
  rotate_left
  · simp only [Act.put, List.setIfInBounds_toArray, List.set_cons_zero, List.set_cons_succ, i64_w, i32_w]
    rfl
  refine pure_ (i := 6) (N := some 39) (v := ?_) (a' := ?_) #[true, true, true, false, false, true, true, false, false, false] rfl rfl (by kernel_rfl) (fun _ _ _ h => h) (Or.inl ⟨by rfl, ?_⟩) ?_ ?_
  rotate_left
  · intro w'
    go_simp
    with_reducible rfl
  rotate_left
  · simp only [Act.put, List.setIfInBounds_toArray, List.set_cons_zero, List.set_cons_succ, i64_w, i32_w]
    rfl
  refine pure_ (i := 7) (N := some 40) (v := ?_) (a' := ?_) #[true, true, true, false, false, true, true, true, false, false] rfl rfl (by kernel_rfl) (fun _ _ _ h => h) (Or.inl ⟨by rfl, ?_⟩) ?_ ?_
  rotate_left
  · intro w'
    go_simp
    with_reducible rfl
  rotate_left
  · simp only [Act.put, List.setIfInBounds_toArray, List.set_cons_zero, List.set_cons_succ, i64_w, i32_w]
    rfl
  refine take_ (i := 3) (N := some 36) (v := ?_) (a' := ?_) #[true, true, true, true, false, true, true, true, false, false] rfl rfl (by kernel_rfl) (fun _ _ _ h => h) (Or.inl ⟨by rfl, ?_⟩) hHeld ?_ ?_
  rotate_left
  · rintro w' ⟨s0, s1, s2⟩
    go_simp
    with_reducible rfl
  rotate_left
  · simp only [Act.put, List.setIfInBounds_toArray, List.set_cons_zero, List.set_cons_succ, i64_w, i32_w]
    rfl
  refine take_ (i := 4) (N := some 37) (v := ?_) (a' := ?_) #[true, true, true, true, true, true, true, true, false, false] rfl rfl (by kernel_rfl) (fun _ _ _ h => h) (Or.inl ⟨by rfl, ?_⟩) hHeld ?_ ?_
  rotate_left
  · rintro w' ⟨s0, s1, s2⟩
    go_simp
    with_reducible rfl
  rotate_left
  · simp only [Act.put, List.setIfInBounds_toArray, List.set_cons_zero, List.set_cons_succ, i64_w, i32_w]
    rfl
  refine take_ (i := 8) (N := some 41) (v := ?_) (a' := ?_) #[true, true, true, true, true, true, true, true, true, false] rfl rfl (by kernel_rfl) (fun _ _ _ h => h) (Or.inl ⟨by rfl, ?_⟩) hHeld ?_ ?_
  rotate_left
  · rintro w' ⟨s0, s1, s2⟩
    go_simp
    with_reducible rfl
  rotate_left
  · simp only [Act.put, List.setIfInBounds_toArray, List.set_cons_zero, List.set_cons_succ, i64_w, i32_w]
    rfl
  refine pure_ (i := 9) (N := some 42) (v := ?_) (a' := ?_) #[true, true, true, true, true, true, true, true, true, true] rfl rfl (by kernel_rfl) (fun _ _ _ h => h) (Or.inl ⟨by rfl, ?_⟩) ?_ ?_
  rotate_left
  · intro w'
    go_simp
    with_reducible rfl
  rotate_left
  · simp only [Act.put, List.setIfInBounds_toArray, List.set_cons_zero, List.set_cons_succ, i64_w, i32_w]
    rfl
  refine done_ (by kernel_rfl) ?_
  clear hrun hHeld
  have cg0 := blk_cell (show w.drew.heap[g]? = _ from hb) 0
  clear cg0
  go_wp2_with (first
    | (go_at_call 28; refine (deleteI_in (P := []) (S := S0) (e := e0) hD).mono ?_; rintro r w1 ⟨rfl, hC, o1⟩; clear cg0 cg1 cg2 cg3 fg0 fg1 fg2 fg3 ce0 ce1 ce2 ce3 fe0 fe1 fe2 fe3)
    | ((with_reducible refine gate_dst (N := 56) rfl ?_); refine box_event ?hg (N := 56) ?hd (cs := #[.string s, .int .i64 x, .pointer none, .pointer none]) (t := 57) ?hr ?_; (case hd => rfl); (case hg => rfl); (case hr => first | (go_simp; done) | (go_simp; rfl)); intro b eb w2 Xb Bb; have eb : b = w1.heap.size := eb; subst eb; have h2 := hC.below Bb; obtain ⟨w3, hrunP, mp3, hg3⟩ := h2.mp.put Try.underlying51 (e := ⟨s, x, w1.heap.size⟩) hnC hs hmx; have o3 : Only w2 w3 (fun k => k = gm) := (⟨hg3.os, hg3.tape, hg3.output, hg3.size, fun k hk hs => hg3.block k hk (fun e => hs (by injection e))⟩); obtain ⟨nb1, nb2, nb3⟩ := hC.newer (w' := w) rfl; have b3 := o3.blk h2.blk hC.gg; have s3 := h2.seg.only o3 (fun x hx c => hC.nm (c ▸ List.mem_map_of_mem hx)); have e3 := o3.blk Xb (fun e => nb3 e.symm); have cg := blk_cell h2.blk 1; simp only [List.getElem?_toArray, List.getElem?_cons_zero, List.getElem?_cons_succ] at cg)
    | (go_at_call 30; refine (endI w3 S0 ⟨s, x, w1.heap.size⟩ none b3 s3 e3 hC.nd hC.ng nb1 nb2).mono ?_; rintro r w4 ⟨rfl, b4, s4, o4⟩))
  refine bodyPost_ret (results_tmp2 rfl _ _ _) rfl ?_
  have hsz := hC.lt
  have hbz := Bb.size
  refine ⟨_, rfl, Nat.le_trans (drew_below w).size o1.size, hC.more b4 s4 (mp3.only o4 (fun c => by rcases c with c | c | c; exact hC.gg c.symm; exact nb3 c; exact hC.nm c)) hnC hs hlC (Nat.le_refl _), ?_⟩
  refine ((((Only.of_below (drew_below w) (fun k => TS g gm (e0 :: S0) k)).then o1).then (Only.of_below Bb _)).thenT o3 (fun i _ c => .inr (.inl c))).thenT o4 (fun i hi c => ?_)
  rcases c with c | c | c
  · exact .inl c
  · subst c; exact absurd hi (by have := o1.size; have := (drew_below w).size; omega)
  · exact .inr (.inr (by simp only [List.map_cons, List.mem_cons]; exact .inr c))
def lenV (v : Value) : Nat := match v with | .slice _ n _ => n | _ => 0
theorem lit1 (w : World) (s : ByteArray) : ReadsOf (fun x : ByteArray => Value.string x) ByteArray.empty (w.alloc (.cells #[.string s] 9)) (some ⟨w.heap.size, 0, none⟩) 1 [s] := by
  obtain ⟨A, c, e, h⟩ := own_reads_of (d := ByteArray.empty) (own_lit_of (enc := fun x : ByteArray => Value.string x) w 0 9 [s] (Nat.zero_le _) (by simp))
  injection e with e1 e2 e3
  subst e1
  exact h
set_option maxHeartbeats 4000000 in
set_option maxRecDepth 100000 in
theorem keysI {w : World} {B g gm n : Nat} {L : List (E Int)} (h : TB w 54 57 eI B g gm n L) : Calls Try.prog 12 #[.pointer (some ⟨g, 0, none⟩)] w fun r w' => ∃ v, r = .returned v ∧ w'.ownsRow w.heap.size 9 1 v (L.map E.key).length (encs (fun x : ByteArray => Value.string x) (L.map E.key)) ∧ Below w.heap.size w w' := by
  have hu51 := Try.underlying51
  have hu52 := Try.underlying52
  have hu54 := Try.underlying54
  have hu57 := Try.underlying57
  have hu3 := Try.underlying3
  have hu26 := Try.underlying26
  have hu22 := Try.underlying22
  obtain ⟨fp, hfp⟩ : ∃ fp, (hd L none).map (fun b : Nat => (⟨b, 0, none⟩ : Addr)) = fp := ⟨_, rfl⟩
  obtain ⟨lp, hlp⟩ : ∃ fp, (lst none L).map (fun b : Nat => (⟨b, 0, none⟩ : Addr)) = fp := ⟨_, rfl⟩
  have hb := h.blk
  simp only [ptr, hfp, hlp] at hb
  have hln : L.length ≤ 4096 := Nat.le_trans h.len h.n1
  have cg0 := blk_cell hb 0
  have fg0 := blk_frozen hb 0
  have cg1 := blk_cell hb 1
  have fg1 := blk_frozen hb 1
  have cg2 := blk_cell hb 2
  have fg2 := blk_frozen hb 2
  have cg3 := blk_cell hb 3
  have fg3 := blk_frozen hb 3
  simp only [List.getElem?_toArray, List.getElem?_cons_zero, List.getElem?_cons_succ] at cg0 cg1 cg2 cg3
  go_enter Try.func12, Try.ntmps12
  go_wp2_with fail
  go_loopw [3, 4] (fun l e wr => ∃ (P S : List (E Int)) (A : Option Addr) (c : Nat), L = P ++ S ∧ l = .slice A (P.map E.key).length c ∧ e = ptr (hd S none) ∧ Aside0 (wr.ownsRow w.heap.size 9 1 (.slice A (P.map E.key).length c) (P.map E.key).length (encs (fun x : ByteArray => Value.string x) (P.map E.key))) ∧ Aside0 (Below w.heap.size w wr)) (fun l _ _ => L.length - lenV l)
  case atStart => exact ⟨[], L, none, 0, rfl, rfl, by rw [← hfp], ⟨own_nil _ _ _ _⟩, ⟨Below.refl _ _⟩⟩
  case round =>
    obtain ⟨P, S, A, c, rfl, rfl, rfl, HO, HB⟩ := hrel
    cases S with
    | nil =>
      have hown := HO.out
      simp only [hd, ptr, Option.map_none]
      go_wp2_with fail
      go_ret
      refine ⟨_, rfl, ?_, HB.out⟩
      simpa using hown
    | cons x S =>
      have hx := blk_below h.seg.at_ HB.out
      have hx : wr.heap[x.blk]? = some (.cells #[.string x.key, .int .i64 x.val, ptr (lst none P), ptr (hd S none)] 57 (0, 0)) := hx
      simp only [hd, ptr, Option.map_some]
      simp only [ptr] at hx
      have cx0 := blk_cell hx 0
      have cx3 := blk_cell hx 3
      simp only [List.getElem?_toArray, List.getElem?_cons_zero, List.getElem?_cons_succ] at cx0 cx3
      have hpl : P.length + 1 ≤ 4096 := by simp at hln; omega
      go_wp2_with (first
        | (at_builtin; refine print_append_row_of (w0 := w) (fun x : ByteArray => Value.string x) ByteArray.empty w.heap.size rfl (.tmp 15) (.tmp 20) 22 9 (.string ⟨#[]⟩) 16 rfl Try.underlying22 (by kernel_rfl) rfl (by decide) (fun _ => rfl) _ (P.map E.key) [x.key] (some ⟨wr.heap.size, 0, none⟩) 1 1 rfl rfl (HO.out.alloc _) (lit1 wr x.key) (HB.out.alloc HB.out.size _) (by simp; exact Nat.le_trans HB.out.size (Nat.le_succ _)) (by simp; omega) ?_; intro v2 w2 hown hB2 hg2 hat2; have e2 : P.map E.key ++ [x.key] = (P ++ [x]).map E.key := (by simp); rw [e2] at hown; clear e2; obtain ⟨A2, c2, rfl⟩ := own_slice hown; clear hat2; have hx2 := blk_grown (hx.trans rfl |> fun h => (heap_alloc_old wr (.cells #[.string x.key] 9) (blk_lt h)).trans h) hg2 (fun e => by have h1 := blk_lt h.seg.at_; have h2 := own_base_ HO.out _ e.symm; omega); clear cx0 cx3; have cx3 := blk_cell hx2 3; simp only [List.getElem?_toArray, List.getElem?_cons_zero, List.getElem?_cons_succ] at cx3))
      go_roundw
      case rel => exact ⟨P ++ [x], S, A2, c2, by simp, by simp, rfl, ⟨hown⟩, ⟨hB2⟩⟩
      case measure => simp [lenV]; omega
set_option maxHeartbeats 4000000 in
set_option maxRecDepth 100000 in
theorem putS_new {w : World} {B g gm n : Nat} {L : List (E ByteArray)} {s : ByteArray} (x : ByteArray) (h : TB w 62 65 eS B g gm n L) (hs : s.size ≤ maxLen) (hn : s ∉ L.map E.key) (hl : L.length < n) : Calls Try.prog 19 #[.pointer (some ⟨g, 0, none⟩), .string s, .string x] w fun r w' => ∃ b, r = .returned (.tuple #[.string ⟨#[]⟩, .bool false]) ∧ w.heap.size ≤ b ∧ TB w' 62 65 eS B g gm n (L ++ [⟨s, x, b⟩]) ∧ Only w w' (fun k => TS g gm L k) := by
  have hu59 := Try.underlying59
  have hu60 := Try.underlying60
  have hu62 := Try.underlying62
  have hu65 := Try.underlying65
  have hu9 := Try.underlying9
  have hu41 := Try.underlying41
  have hrun := h.mp.lacks Try.underlying59 (zero60 w) hn hs
  have hC := h.below (drew_below w)
  have hb := h.blk
  have n1 := h.n1
  have hmx : L.length < maxLen := by unfold maxLen; omega
  have hne : ((L.length : Int) == (n : Int)) = false := by simp only [beq_eq_false_iff_ne, ne_eq]; omega
  have hne2 : ¬ (L.length : Int) = (n : Int) := by omega
  have cg0 := blk_cell hb 0
  have fg0 := blk_frozen hb 0
  have cg1 := blk_cell hb 1
  have fg1 := blk_frozen hb 1
  have cg2 := blk_cell hb 2
  have fg2 := blk_frozen hb 2
  have cg3 := blk_cell hb 3
  have fg3 := blk_frozen hb 3
  simp only [List.getElem?_toArray, List.getElem?_cons_zero, List.getElem?_cons_succ] at cg0 cg1 cg2 cg3
  go_enter Try.func19, Try.ntmps19
  go_wp2_with fail
  refine start_ (n := 10) (S := fun w' => w'.cell? ⟨g, 0, none⟩ = some (.int .i64 (n : Int)) ∧ w'.cell? ⟨g, 1, none⟩ = some (.map (some gm)) ∧ ∀ ty, (Builtin.len_ #[59] ty #[.map (some gm)]).run Try.prog w' = .ok (.int .i64 (L.length : Int)) w') (ds := []) #[false, false, false, false, false, false, false, false, false, false] (by kernel_rfl) rfl rfl ⟨cg0, cg1, fun ty => hC.mp.len_run Try.underlying59 ty⟩ (fun hHeld => ?_)
  refine pure_ (i := 0) (N := some 33) (v := ?_) (a' := ?_) #[true, false, false, false, false, false, false, false, false, false] rfl rfl (by kernel_rfl) (fun _ _ _ h => h) (Or.inl ⟨by rfl, ?_⟩) ?_ ?_
  rotate_left
  · intro w'
    go_simp
    with_reducible rfl
  rotate_left
  · simp only [Act.put, List.setIfInBounds_toArray, List.set_cons_zero, List.set_cons_succ, i64_w, i32_w]
    rfl
  refine pure_ (i := 1) (N := some 34) (v := ?_) (a' := ?_) #[true, true, false, false, false, false, false, false, false, false] rfl rfl (by kernel_rfl) (fun _ _ _ h => h) (Or.inl ⟨by rfl, ?_⟩) ?_ ?_
  rotate_left
  · intro w'
    go_simp
    with_reducible rfl
  rotate_left
  · simp only [Act.put, List.setIfInBounds_toArray, List.set_cons_zero, List.set_cons_succ, i64_w, i32_w]
    rfl
  refine pure_ (i := 2) (N := some 35) (v := ?_) (a' := ?_) #[true, true, true, false, false, false, false, false, false, false] rfl rfl (by kernel_rfl) (fun _ _ _ h => h) (Or.inl ⟨by rfl, ?_⟩) ?_ ?_
  rotate_left
  · intro w'
    go_simp
    with_reducible rfl
  rotate_left
  · simp only [Act.put, List.setIfInBounds_toArray, List.set_cons_zero, List.set_cons_succ, i64_w, i32_w]
    rfl
  refine pure_ (i := 5) (N := some 38) (v := ?_) (a' := ?_) #[true, true, true, false, false, true, false, false, false, false] rfl rfl (by kernel_rfl) (fun _ _ _ h => h) (Or.inl ⟨by rfl, ?_⟩) ?_ ?_
  rotate_left
  · intro w'
    go_simp
    with_reducible rfl
  rotate_left
  · simp only [Act.put, List.setIfInBounds_toArray, List.set_cons_zero, List.set_cons_succ, i64_w, i32_w]
    rfl
  refine pure_ (i := 6) (N := some 39) (v := ?_) (a' := ?_) #[true, true, true, false, false, true, true, false, false, false] rfl rfl (by kernel_rfl) (fun _ _ _ h => h) (Or.inl ⟨by rfl, ?_⟩) ?_ ?_
  rotate_left
  · intro w'
    go_simp
    with_reducible rfl
  rotate_left
  · simp only [Act.put, List.setIfInBounds_toArray, List.set_cons_zero, List.set_cons_succ, i64_w, i32_w]
    rfl
  refine pure_ (i := 7) (N := some 40) (v := ?_) (a' := ?_) #[true, true, true, false, false, true, true, true, false, false] rfl rfl (by kernel_rfl) (fun _ _ _ h => h) (Or.inl ⟨by rfl, ?_⟩) ?_ ?_
  rotate_left
  · intro w'
    go_simp
    with_reducible rfl
  rotate_left
  · simp only [Act.put, List.setIfInBounds_toArray, List.set_cons_zero, List.set_cons_succ, i64_w, i32_w]
    rfl
  refine take_ (i := 3) (N := some 36) (v := ?_) (a' := ?_) #[true, true, true, true, false, true, true, true, false, false] rfl rfl (by kernel_rfl) (fun _ _ _ h => h) (Or.inl ⟨by rfl, ?_⟩) hHeld ?_ ?_
  rotate_left
  · rintro w' ⟨s0, s1, s2⟩
    go_simp
    with_reducible rfl
  rotate_left
  · simp only [Act.put, List.setIfInBounds_toArray, List.set_cons_zero, List.set_cons_succ, i64_w, i32_w]
    rfl
  refine take_ (i := 4) (N := some 37) (v := ?_) (a' := ?_) #[true, true, true, true, true, true, true, true, false, false] rfl rfl (by kernel_rfl) (fun _ _ _ h => h) (Or.inl ⟨by rfl, ?_⟩) hHeld ?_ ?_
  rotate_left
  · rintro w' ⟨s0, s1, s2⟩
    go_simp
    with_reducible rfl
  rotate_left
  · simp only [Act.put, List.setIfInBounds_toArray, List.set_cons_zero, List.set_cons_succ, i64_w, i32_w]
    rfl
  refine take_ (i := 8) (N := some 41) (v := ?_) (a' := ?_) #[true, true, true, true, true, true, true, true, true, false] rfl rfl (by kernel_rfl) (fun _ _ _ h => h) (Or.inl ⟨by rfl, ?_⟩) hHeld ?_ ?_
  rotate_left
  · rintro w' ⟨s0, s1, s2⟩
    go_simp
    with_reducible rfl
  rotate_left
  · simp only [Act.put, List.setIfInBounds_toArray, List.set_cons_zero, List.set_cons_succ, i64_w, i32_w]
    rfl
  refine pure_ (i := 9) (N := some 42) (v := ?_) (a' := ?_) #[true, true, true, true, true, true, true, true, true, true] rfl rfl (by kernel_rfl) (fun _ _ _ h => h) (Or.inl ⟨by rfl, ?_⟩) ?_ ?_
  rotate_left
  · intro w'
    go_simp
    with_reducible rfl
  rotate_left
  · simp only [Act.put, List.setIfInBounds_toArray, List.set_cons_zero, List.set_cons_succ, i64_w, i32_w]
    rfl
  refine done_ (by kernel_rfl) ?_
  have hnC := hn
  have hlC := hl
  have o1 := Only.of_below (drew_below w) (fun k => TS g gm L k)
  clear hrun hHeld cg0 cg1 cg2 cg3 fg0 fg1 fg2 fg3
  generalize w.drew = w1 at hC o1 ⊢
  go_wp2_with (first
    | ((with_reducible refine gate_dst (N := 56) rfl ?_); refine box_event ?hg (N := 56) ?hd (cs := #[.string s, .string x, .pointer none, .pointer none]) (t := 65) ?hr ?_; (case hd => rfl); (case hg => rfl); (case hr => first | (go_simp; done) | (go_simp; rfl)); intro b eb w2 Xb Bb; have eb : b = w1.heap.size := eb; subst eb; have h2 := hC.below Bb; obtain ⟨w3, hrunP, mp3, hg3⟩ := h2.mp.put Try.underlying59 (e := ⟨s, x, w1.heap.size⟩) hnC hs hmx; have o3 : Only w2 w3 (fun k => k = gm) := (⟨hg3.os, hg3.tape, hg3.output, hg3.size, fun k hk hs => hg3.block k hk (fun e => hs (by injection e))⟩); obtain ⟨nb1, nb2, nb3⟩ := hC.newer (w' := w) rfl; have b3 := o3.blk h2.blk hC.gg; have s3 := h2.seg.only o3 (fun x hx c => hC.nm (c ▸ List.mem_map_of_mem hx)); have e3 := o3.blk Xb (fun e => nb3 e.symm); have cg := blk_cell h2.blk 1; simp only [List.getElem?_toArray, List.getElem?_cons_zero, List.getElem?_cons_succ] at cg)
    | (go_at_call 32; refine (endS w3 L ⟨s, x, w1.heap.size⟩ none b3 s3 e3 hC.nd hC.ng nb1 nb2).mono ?_; rintro r w4 ⟨rfl, b4, s4, o4⟩))
  refine bodyPost_ret (results_tmp2 rfl _ _ _) rfl ?_
  have hsz := hC.lt
  have hbz := Bb.size
  refine ⟨_, rfl, o1.size, hC.more b4 s4 (mp3.only o4 (fun c => by rcases c with c | c | c; exact hC.gg c.symm; exact nb3 c; exact hC.nm c)) hnC hs hlC (Nat.le_refl _), ?_⟩
  refine ((o1.then (Only.of_below Bb _)).thenT o3 (fun i _ c => .inr (.inl c))).thenT o4 (fun i hi c => ?_)
  rcases c with c | c | c
  · exact .inl c
  · subst c; exact absurd hi (by have := o1.size; omega)
  · exact .inr (.inr (by exact c))
set_option maxHeartbeats 4000000 in
set_option maxRecDepth 100000 in
theorem putS_full {w : World} {B g gm n : Nat} {e0 : E ByteArray} {S0 : List (E ByteArray)} {s : ByteArray} (x : ByteArray) (h : TB w 62 65 eS B g gm n (e0 :: S0)) (hs : s.size ≤ maxLen) (hn : s ∉ (e0 :: S0).map E.key) (hl : (e0 :: S0).length = n) : Calls Try.prog 19 #[.pointer (some ⟨g, 0, none⟩), .string s, .string x] w fun r w' => ∃ b, r = .returned (.tuple #[.string e0.key, .bool true]) ∧ w.heap.size ≤ b ∧ TB w' 62 65 eS B g gm n (S0 ++ [⟨s, x, b⟩]) ∧ Only w w' (fun k => TS g gm (e0 :: S0) k) := by
  have hu59 := Try.underlying59
  have hu60 := Try.underlying60
  have hu62 := Try.underlying62
  have hu65 := Try.underlying65
  have hu9 := Try.underlying9
  have hu41 := Try.underlying41
  have hrun := h.mp.lacks Try.underlying59 (zero60 w) hn hs
  have hD := h.below (drew_below w)
  have hb : w.heap[g]? = some (.cells #[.int .i64 (n : Int), .map (some gm), .pointer (some ⟨e0.blk, 0, none⟩), ptr (lst none (e0 :: S0))] 62 (0, 0)) := h.blk
  have he := h.seg.1
  have n1 := h.n1
  have hln : S0.length + 1 = n := by simpa using hl
  have hmx : S0.length < maxLen := by unfold maxLen; omega
  have hlC : S0.length < n := by omega
  have hnC : s ∉ S0.map E.key := fun c => hn (by simp only [List.map_cons, List.mem_cons]; exact .inr c)
  have hne : (((e0 :: S0).length : Int) == (n : Int)) = true := by rw [hl]; simp
  have hne2 : ((e0 :: S0).length : Int) = (n : Int) := by rw [hl]
  have cg0 := blk_cell hb 0
  have fg0 := blk_frozen hb 0
  have cg1 := blk_cell hb 1
  have fg1 := blk_frozen hb 1
  have cg2 := blk_cell hb 2
  have fg2 := blk_frozen hb 2
  have cg3 := blk_cell hb 3
  have fg3 := blk_frozen hb 3
  simp only [List.getElem?_toArray, List.getElem?_cons_zero, List.getElem?_cons_succ] at cg0 cg1 cg2 cg3
  have ce0 := blk_cell he 0
  have fe0 := blk_frozen he 0
  have ce1 := blk_cell he 1
  have fe1 := blk_frozen he 1
  have ce2 := blk_cell he 2
  have fe2 := blk_frozen he 2
  have ce3 := blk_cell he 3
  have fe3 := blk_frozen he 3
  simp only [List.getElem?_toArray, List.getElem?_cons_zero, List.getElem?_cons_succ] at ce0 ce1 ce2 ce3
  go_enter Try.func19, Try.ntmps19
  go_wp2_with fail
  refine start_ (n := 10) (S := fun w' => w'.cell? ⟨g, 0, none⟩ = some (.int .i64 (n : Int)) ∧ w'.cell? ⟨g, 1, none⟩ = some (.map (some gm)) ∧ ∀ ty, (Builtin.len_ #[59] ty #[.map (some gm)]).run Try.prog w' = .ok (.int .i64 (n : Int)) w') (ds := []) #[false, false, false, false, false, false, false, false, false, false] (by kernel_rfl) rfl rfl ⟨cg0, cg1, fun ty => by have := hD.mp.len_run Try.underlying59 ty; rwa [hl] at this⟩ (fun hHeld => ?_)
  refine pure_ (i := 0) (N := some 33) (v := ?_) (a' := ?_) #[true, false, false, false, false, false, false, false, false, false] rfl rfl (by kernel_rfl) (fun _ _ _ h => h) (Or.inl ⟨by rfl, ?_⟩) ?_ ?_
  rotate_left
  · intro w'
    go_simp
    with_reducible rfl
  rotate_left
  · simp only [Act.put, List.setIfInBounds_toArray, List.set_cons_zero, List.set_cons_succ, i64_w, i32_w]
    rfl
  refine pure_ (i := 1) (N := some 34) (v := ?_) (a' := ?_) #[true, true, false, false, false, false, false, false, false, false] rfl rfl (by kernel_rfl) (fun _ _ _ h => h) (Or.inl ⟨by rfl, ?_⟩) ?_ ?_
  rotate_left
  · intro w'
    go_simp
    with_reducible rfl
  rotate_left
  · simp only [Act.put, List.setIfInBounds_toArray, List.set_cons_zero, List.set_cons_succ, i64_w, i32_w]
    rfl
  refine pure_ (i := 2) (N := some 35) (v := ?_) (a' := ?_) #[true, true, true, false, false, false, false, false, false, false] rfl rfl (by kernel_rfl) (fun _ _ _ h => h) (Or.inl ⟨by rfl, ?_⟩) ?_ ?_
  rotate_left
  · intro w'
    go_simp
    with_reducible rfl
  rotate_left
  · simp only [Act.put, List.setIfInBounds_toArray, List.set_cons_zero, List.set_cons_succ, i64_w, i32_w]
    rfl
  refine pure_ (i := 5) (N := some 38) (v := ?_) (a' := ?_) #[true, true, true, false, false, true, false, false, false, false] rfl rfl (by kernel_rfl) (fun _ _ _ h => h) (Or.inl ⟨by rfl, ?_⟩) ?_ ?_
  rotate_left
  · intro w'
    go_simp
    with_reducible rfl
  rotate_left
  · simp only [Act.put, List.setIfInBounds_toArray, List.set_cons_zero, List.set_cons_succ, i64_w, i32_w]
    rfl
  refine pure_ (i := 6) (N := some 39) (v := ?_) (a' := ?_) #[true, true, true, false, false, true, true, false, false, false] rfl rfl (by kernel_rfl) (fun _ _ _ h => h) (Or.inl ⟨by rfl, ?_⟩) ?_ ?_
  rotate_left
  · intro w'
    go_simp
    with_reducible rfl
  rotate_left
  · simp only [Act.put, List.setIfInBounds_toArray, List.set_cons_zero, List.set_cons_succ, i64_w, i32_w]
    rfl
  refine pure_ (i := 7) (N := some 40) (v := ?_) (a' := ?_) #[true, true, true, false, false, true, true, true, false, false] rfl rfl (by kernel_rfl) (fun _ _ _ h => h) (Or.inl ⟨by rfl, ?_⟩) ?_ ?_
  rotate_left
  · intro w'
    go_simp
    with_reducible rfl
  rotate_left
  · simp only [Act.put, List.setIfInBounds_toArray, List.set_cons_zero, List.set_cons_succ, i64_w, i32_w]
    rfl
  refine take_ (i := 3) (N := some 36) (v := ?_) (a' := ?_) #[true, true, true, true, false, true, true, true, false, false] rfl rfl (by kernel_rfl) (fun _ _ _ h => h) (Or.inl ⟨by rfl, ?_⟩) hHeld ?_ ?_
  rotate_left
  · rintro w' ⟨s0, s1, s2⟩
    go_simp
    with_reducible rfl
  rotate_left
  · simp only [Act.put, List.setIfInBounds_toArray, List.set_cons_zero, List.set_cons_succ, i64_w, i32_w]
    rfl
  refine take_ (i := 4) (N := some 37) (v := ?_) (a' := ?_) #[true, true, true, true, true, true, true, true, false, false] rfl rfl (by kernel_rfl) (fun _ _ _ h => h) (Or.inl ⟨by rfl, ?_⟩) hHeld ?_ ?_
  rotate_left
  · rintro w' ⟨s0, s1, s2⟩
    go_simp
    with_reducible rfl
  rotate_left
  · simp only [Act.put, List.setIfInBounds_toArray, List.set_cons_zero, List.set_cons_succ, i64_w, i32_w]
    rfl
  refine take_ (i := 8) (N := some 41) (v := ?_) (a' := ?_) #[true, true, true, true, true, true, true, true, true, false] rfl rfl (by kernel_rfl) (fun _ _ _ h => h) (Or.inl ⟨by rfl, ?_⟩) hHeld ?_ ?_
  rotate_left
  · rintro w' ⟨s0, s1, s2⟩
    go_simp
    with_reducible rfl
  rotate_left
  · simp only [Act.put, List.setIfInBounds_toArray, List.set_cons_zero, List.set_cons_succ, i64_w, i32_w]
    rfl
  refine pure_ (i := 9) (N := some 42) (v := ?_) (a' := ?_) #[true, true, true, true, true, true, true, true, true, true] rfl rfl (by kernel_rfl) (fun _ _ _ h => h) (Or.inl ⟨by rfl, ?_⟩) ?_ ?_
  rotate_left
  · intro w'
    go_simp
    with_reducible rfl
  rotate_left
  · simp only [Act.put, List.setIfInBounds_toArray, List.set_cons_zero, List.set_cons_succ, i64_w, i32_w]
    rfl
  refine done_ (by kernel_rfl) ?_
  clear hrun hHeld
  have cg0 := blk_cell (show w.drew.heap[g]? = _ from hb) 0
  clear cg0
  go_wp2_with (first
    | (go_at_call 33; refine (deleteS_in (P := []) (S := S0) (e := e0) hD).mono ?_; rintro r w1 ⟨rfl, hC, o1⟩; clear cg0 cg1 cg2 cg3 fg0 fg1 fg2 fg3 ce0 ce1 ce2 ce3 fe0 fe1 fe2 fe3)
    | ((with_reducible refine gate_dst (N := 56) rfl ?_); refine box_event ?hg (N := 56) ?hd (cs := #[.string s, .string x, .pointer none, .pointer none]) (t := 65) ?hr ?_; (case hd => rfl); (case hg => rfl); (case hr => first | (go_simp; done) | (go_simp; rfl)); intro b eb w2 Xb Bb; have eb : b = w1.heap.size := eb; subst eb; have h2 := hC.below Bb; obtain ⟨w3, hrunP, mp3, hg3⟩ := h2.mp.put Try.underlying59 (e := ⟨s, x, w1.heap.size⟩) hnC hs hmx; have o3 : Only w2 w3 (fun k => k = gm) := (⟨hg3.os, hg3.tape, hg3.output, hg3.size, fun k hk hs => hg3.block k hk (fun e => hs (by injection e))⟩); obtain ⟨nb1, nb2, nb3⟩ := hC.newer (w' := w) rfl; have b3 := o3.blk h2.blk hC.gg; have s3 := h2.seg.only o3 (fun x hx c => hC.nm (c ▸ List.mem_map_of_mem hx)); have e3 := o3.blk Xb (fun e => nb3 e.symm); have cg := blk_cell h2.blk 1; simp only [List.getElem?_toArray, List.getElem?_cons_zero, List.getElem?_cons_succ] at cg)
    | (go_at_call 32; refine (endS w3 S0 ⟨s, x, w1.heap.size⟩ none b3 s3 e3 hC.nd hC.ng nb1 nb2).mono ?_; rintro r w4 ⟨rfl, b4, s4, o4⟩))
  refine bodyPost_ret (results_tmp2 rfl _ _ _) rfl ?_
  have hsz := hC.lt
  have hbz := Bb.size
  refine ⟨_, rfl, Nat.le_trans (drew_below w).size o1.size, hC.more b4 s4 (mp3.only o4 (fun c => by rcases c with c | c | c; exact hC.gg c.symm; exact nb3 c; exact hC.nm c)) hnC hs hlC (Nat.le_refl _), ?_⟩
  refine ((((Only.of_below (drew_below w) (fun k => TS g gm (e0 :: S0) k)).then o1).then (Only.of_below Bb _)).thenT o3 (fun i _ c => .inr (.inl c))).thenT o4 (fun i hi c => ?_)
  rcases c with c | c | c
  · exact .inl c
  · subst c; exact absurd hi (by have := o1.size; have := (drew_below w).size; omega)
  · exact .inr (.inr (by simp only [List.map_cons, List.mem_cons]; exact .inr c))
set_option maxHeartbeats 4000000 in
set_option maxRecDepth 100000 in
theorem keysS {w : World} {B g gm n : Nat} {L : List (E ByteArray)} (h : TB w 62 65 eS B g gm n L) : Calls Try.prog 20 #[.pointer (some ⟨g, 0, none⟩)] w fun r w' => ∃ v, r = .returned v ∧ w'.ownsRow w.heap.size 9 1 v (L.map E.key).length (encs (fun x : ByteArray => Value.string x) (L.map E.key)) ∧ Below w.heap.size w w' := by
  have hu59 := Try.underlying59
  have hu60 := Try.underlying60
  have hu62 := Try.underlying62
  have hu65 := Try.underlying65
  have hu9 := Try.underlying9
  have hu41 := Try.underlying41
  have hu22 := Try.underlying22
  obtain ⟨fp, hfp⟩ : ∃ fp, (hd L none).map (fun b : Nat => (⟨b, 0, none⟩ : Addr)) = fp := ⟨_, rfl⟩
  obtain ⟨lp, hlp⟩ : ∃ fp, (lst none L).map (fun b : Nat => (⟨b, 0, none⟩ : Addr)) = fp := ⟨_, rfl⟩
  have hb := h.blk
  simp only [ptr, hfp, hlp] at hb
  have hln : L.length ≤ 4096 := Nat.le_trans h.len h.n1
  have cg0 := blk_cell hb 0
  have fg0 := blk_frozen hb 0
  have cg1 := blk_cell hb 1
  have fg1 := blk_frozen hb 1
  have cg2 := blk_cell hb 2
  have fg2 := blk_frozen hb 2
  have cg3 := blk_cell hb 3
  have fg3 := blk_frozen hb 3
  simp only [List.getElem?_toArray, List.getElem?_cons_zero, List.getElem?_cons_succ] at cg0 cg1 cg2 cg3
  go_enter Try.func20, Try.ntmps20
  go_wp2_with fail
  go_loopw [3, 4] (fun l e wr => ∃ (P S : List (E ByteArray)) (A : Option Addr) (c : Nat), L = P ++ S ∧ l = .slice A (P.map E.key).length c ∧ e = ptr (hd S none) ∧ Aside0 (wr.ownsRow w.heap.size 9 1 (.slice A (P.map E.key).length c) (P.map E.key).length (encs (fun x : ByteArray => Value.string x) (P.map E.key))) ∧ Aside0 (Below w.heap.size w wr)) (fun l _ _ => L.length - lenV l)
  case atStart => exact ⟨[], L, none, 0, rfl, rfl, by rw [← hfp], ⟨own_nil _ _ _ _⟩, ⟨Below.refl _ _⟩⟩
  case round =>
    obtain ⟨P, S, A, c, rfl, rfl, rfl, HO, HB⟩ := hrel
    cases S with
    | nil =>
      have hown := HO.out
      simp only [hd, ptr, Option.map_none]
      go_wp2_with fail
      go_ret
      refine ⟨_, rfl, ?_, HB.out⟩
      simpa using hown
    | cons x S =>
      have hx := blk_below h.seg.at_ HB.out
      have hx : wr.heap[x.blk]? = some (.cells #[.string x.key, .string x.val, ptr (lst none P), ptr (hd S none)] 65 (0, 0)) := hx
      simp only [hd, ptr, Option.map_some]
      simp only [ptr] at hx
      have cx0 := blk_cell hx 0
      have cx3 := blk_cell hx 3
      simp only [List.getElem?_toArray, List.getElem?_cons_zero, List.getElem?_cons_succ] at cx0 cx3
      have hpl : P.length + 1 ≤ 4096 := by simp at hln; omega
      go_wp2_with (first
        | (at_builtin; refine print_append_row_of (w0 := w) (fun x : ByteArray => Value.string x) ByteArray.empty w.heap.size rfl (.tmp 15) (.tmp 20) 22 9 (.string ⟨#[]⟩) 16 rfl Try.underlying22 (by kernel_rfl) rfl (by decide) (fun _ => rfl) _ (P.map E.key) [x.key] (some ⟨wr.heap.size, 0, none⟩) 1 1 rfl rfl (HO.out.alloc _) (lit1 wr x.key) (HB.out.alloc HB.out.size _) (by simp; exact Nat.le_trans HB.out.size (Nat.le_succ _)) (by simp; omega) ?_; intro v2 w2 hown hB2 hg2 hat2; have e2 : P.map E.key ++ [x.key] = (P ++ [x]).map E.key := (by simp); rw [e2] at hown; clear e2; obtain ⟨A2, c2, rfl⟩ := own_slice hown; clear hat2; have hx2 := blk_grown (hx.trans rfl |> fun h => (heap_alloc_old wr (.cells #[.string x.key] 9) (blk_lt h)).trans h) hg2 (fun e => by have h1 := blk_lt h.seg.at_; have h2 := own_base_ HO.out _ e.symm; omega); clear cx0 cx3; have cx3 := blk_cell hx2 3; simp only [List.getElem?_toArray, List.getElem?_cons_zero, List.getElem?_cons_succ] at cx3))
      go_roundw
      case rel => exact ⟨P ++ [x], S, A2, c2, by simp, by simp, rfl, ⟨hown⟩, ⟨hB2⟩⟩
      case measure => simp [lenV]; omega
end Go.Proofs.Ytlainhbmfphojaa.Tb
