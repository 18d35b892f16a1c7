/- Proved: the walks of Get, Delete and Put. -/
import Derived.Test.YtlainhbmfphojaaTb4
namespace Go.Proofs.Ytlainhbmfphojaa.Tb
open Go.RowKit Go.Maps Go.Proofs.YtlainhbmfphojaaW.PrintWords Go.Proofs.YtlainhbmfphojaaW.PrintLast Go.Proofs.YtlainhbmfphojaaW.PrintMore
set_option linter.unusedVariables false
set_option linter.unusedSimpArgs false

section
variable {X : Type} {w w' : World} {tb th : TypeId} {enc : X → Value} {B g gm n : Nat} {L P S : List (E X)} {e e' : E X}
theorem perm_end {Y : Type} (f : E X → Y) (h : f e' = f e) : ((P ++ S ++ [e']).map f).Perm ((P ++ e :: S).map f) := by
  simp only [List.map_append, List.map_cons, List.map_nil, List.append_assoc, h]
  exact List.Perm.append_left _ (List.perm_append_singleton _ _)
theorem TB.move (h : TB w tb th enc B g gm n (P ++ e :: S)) (ek : e'.key = e.key) (eb : e'.blk = e.blk) (hb : w'.heap[g]? = some (.cells #[.int .i64 (n : Int), .map (some gm), ptr (hd (P ++ S ++ [e']) none), ptr (lst none (P ++ S ++ [e']))] tb (0, 0)))
    (hs : Seg w' th enc none (P ++ S ++ [e']) none) (hO : Only w w' (fun k => k = g ∨ k ∈ (P ++ e :: S).map E.blk)) : TB w' tb th enc B g gm n (P ++ S ++ [e']) := by
  have pb := perm_end (P := P) (S := S) E.blk eb
  have pk := perm_end (P := P) (S := S) E.key ek
  have hmp : Mp w' gm (P ++ e :: S) := h.mp.only hO (fun h2 => h2.elim (fun e => h.gg e.symm) (fun e => h.nm e))
  have hl := h.len
  refine ⟨hb, hs, hmp.perm (by simp) (fun s => pk.mem_iff) (fun x hx => ?_), pb.nodup_iff.2 h.nd, pk.nodup_iff.2 h.kd, fun c => h.ng (pb.mem_iff.1 c), fun c => h.nm (pb.mem_iff.1 c), h.gg, ⟨h.lo.1, h.lo.2.1, fun b hb => h.lo.2.2 b (pb.mem_iff.1 hb)⟩, fun s hs => h.sz s (pk.mem_iff.1 hs), by simp at hl ⊢; omega, h.n0, h.n1⟩
  rcases List.mem_append.1 hx with hx | hx
  · exact ⟨x, by rcases List.mem_append.1 hx with h | h <;> simp [h], rfl, rfl⟩
  · obtain rfl : x = e' := by simpa using hx
    exact ⟨e, by simp, ek.symm, eb.symm⟩
theorem TB.less (h : TB w tb th enc B g gm n (P ++ e :: S)) (hb : w'.heap[g]? = some (.cells #[.int .i64 (n : Int), .map (some gm), ptr (hd (P ++ S) none), ptr (lst none (P ++ S))] tb (0, 0)))
    (hs : Seg w' th enc none (P ++ S) none) (hm : Mp w' gm (P ++ S)) : TB w' tb th enc B g gm n (P ++ S) := by
  have pb : ∀ b, b ∈ (P ++ S).map E.blk → b ∈ (P ++ e :: S).map E.blk := fun b hb => by
    simp only [List.map_append, List.map_cons, List.mem_append, List.mem_cons] at hb ⊢
    rcases hb with h | h <;> simp [h]
  have pk : ∀ b, b ∈ (P ++ S).map E.key → b ∈ (P ++ e :: S).map E.key := fun b hb => by
    simp only [List.map_append, List.map_cons, List.mem_append, List.mem_cons] at hb ⊢
    rcases hb with h | h <;> simp [h]
  have hl := h.len
  have sub : (P ++ S).Sublist (P ++ e :: S) := List.Sublist.append_left (List.sublist_cons_self _ _) _
  exact ⟨hb, hs, hm, (sub.map E.blk).nodup h.nd, (sub.map E.key).nodup h.kd, fun c => h.ng (pb _ c), fun c => h.nm (pb _ c), h.gg, ⟨h.lo.1, h.lo.2.1, fun b hb => h.lo.2.2 b (pb _ hb)⟩, fun s hs => h.sz s (pk _ hs), by simp at hl ⊢; omega, h.n0, h.n1⟩
theorem TB.more (h : TB w tb th enc B g gm n L) (hb : w'.heap[g]? = some (.cells #[.int .i64 (n : Int), .map (some gm), ptr (hd (L ++ [e]) none), ptr (lst none (L ++ [e]))] tb (0, 0)))
    (hs : Seg w' th enc none (L ++ [e]) none) (hm : Mp w' gm (L ++ [e])) (hk : e.key ∉ L.map E.key) (hz : e.key.size ≤ maxLen) (hl : L.length < n) (hn : w.heap.size ≤ e.blk) : TB w' tb th enc B g gm n (L ++ [e]) := by
  have hlt := h.lt
  have hB := h.size
  have l1 := hlt g (.inl rfl)
  have l2 := hlt gm (.inr (.inl rfl))
  have l3 : ∀ b ∈ L.map E.blk, b < e.blk := fun b hb => Nat.lt_of_lt_of_le (hlt b (.inr (.inr hb))) hn
  refine ⟨hb, hs, hm, ?_, ?_, ?_, ?_, h.gg, ⟨h.lo.1, h.lo.2.1, fun b hb => ?_⟩, fun s hs => ?_, by simp; omega, h.n0, h.n1⟩
  · simp only [List.map_append, List.map_cons, List.map_nil, List.nodup_append, List.mem_cons, List.not_mem_nil, or_false, ne_eq]
    exact ⟨h.nd, by simp, fun a ha b hb e => by have := l3 a ha; omega⟩
  · simp only [List.map_append, List.map_cons, List.map_nil, List.nodup_append, List.mem_cons, List.not_mem_nil, or_false, ne_eq]
    exact ⟨h.kd, by simp, fun a ha b hb e => hk (hb ▸ e ▸ ha)⟩
  · simp only [List.map_append, List.map_cons, List.map_nil, List.mem_append, List.mem_cons, List.not_mem_nil, or_false, not_or]
    exact ⟨h.ng, by omega⟩
  · simp only [List.map_append, List.map_cons, List.map_nil, List.mem_append, List.mem_cons, List.not_mem_nil, or_false, not_or]
    exact ⟨h.nm, by omega⟩
  · simp only [List.map_append, List.map_cons, List.map_nil, List.mem_append, List.mem_cons, List.not_mem_nil, or_false] at hb
    rcases hb with hb | rfl
    · exact h.lo.2.2 b hb
    · omega
  · simp only [List.map_append, List.map_cons, List.map_nil, List.mem_append, List.mem_cons, List.not_mem_nil, or_false] at hs
    rcases hs with hs | rfl
    · exact h.sz s hs
    · exact hz
theorem TB.less_nd (h : TB w tb th enc B g gm n (P ++ e :: S)) : ((P ++ S).map E.blk).Nodup ∧ g ∉ (P ++ S).map E.blk ∧ g ≠ e.blk ∧ e.blk ∉ (P ++ S).map E.blk := by
  have nd := h.nd
  have ng := h.ng
  simp only [List.map_append, List.map_cons, List.nodup_append, List.nodup_cons, List.mem_cons, List.mem_append, ne_eq, not_or] at nd ng ⊢
  obtain ⟨a, ⟨b, c⟩, d⟩ := nd
  exact ⟨⟨a, c, fun x hx y hy => d x hx y (.inr hy)⟩, ⟨ng.1, ng.2.2⟩, ng.2.1, fun x => d _ x _ (.inl rfl) rfl, b⟩
/-- A thing's own is laid anew. -/
theorem TB.setval (h : TB w tb th enc B g gm n (P ++ e :: S)) (x : X) : TB (w.setCell ⟨e.blk, 1, none⟩ (enc x)) tb th enc B g gm n (P ++ { e with val := x } :: S) ∧ Only w (w.setCell ⟨e.blk, 1, none⟩ (enc x)) (fun k => k = e.blk) := by
  have hO : Only w (w.setCell ⟨e.blk, 1, none⟩ (enc x)) (fun k => k = e.blk) := (Only.refl w _).set rfl
  obtain ⟨n1, n2, n3, n4⟩ := h.less_nd
  obtain ⟨sP, se, sS⟩ := (seg_append none P (e :: S) none).1 h.seg
  have hnm : gm ≠ e.blk := fun c => h.nm (by simp [c])
  have ehd : hd (P ++ { e with val := x } :: S) none = hd (P ++ e :: S) none := by cases P <;> rfl
  have elt : lst none (P ++ { e with val := x } :: S) = lst none (P ++ e :: S) := by rw [lst_append, lst_append]; rfl
  have eb : (P ++ { e with val := x } :: S).map E.blk = (P ++ e :: S).map E.blk := by simp
  have ek : (P ++ { e with val := x } :: S).map E.key = (P ++ e :: S).map E.key := by simp
  have hl := h.len
  refine ⟨⟨by rw [ehd, elt]; exact hO.blk h.blk n3, (seg_append none P _ none).2 ⟨sP.only hO (fun y hy c => n4 (by simp only [List.map_append, List.mem_append]; exact .inl (c ▸ List.mem_map_of_mem hy))), (blk_set4 se (enc x)).2.1, sS.only hO (fun y hy c => n4 (by simp only [List.map_append, List.mem_append]; exact .inr (c ▸ List.mem_map_of_mem hy)))⟩, ?_, by rw [eb]; exact h.nd, by rw [ek]; exact h.kd, by rw [eb]; exact h.ng, by rw [eb]; exact h.nm, h.gg, by rw [eb]; exact h.lo, by rw [ek]; exact h.sz, by simpa using hl, h.n0, h.n1⟩, hO⟩
  refine (h.mp.only hO hnm).perm (by simp) (fun s => by rw [ek]) (fun y hy => ?_)
  simp only [List.mem_append, List.mem_cons] at hy
  rcases hy with hy | rfl | hy
  · exact ⟨y, by simp [hy], rfl, rfl⟩
  · exact ⟨e, by simp, rfl, rfl⟩
  · exact ⟨y, by simp [hy], rfl, rfl⟩
end
set_option maxHeartbeats 4000000 in
set_option maxRecDepth 100000 in
theorem getI_in {w : World} {B g gm n : Nat} {P S : List (E Int)} {e : E Int} (h : TB w 54 57 eI B g gm n (P ++ e :: S)) : Calls Try.prog 10 #[.pointer (some ⟨g, 0, none⟩), .string e.key] w fun r w' => r = .returned (.tuple #[.int .i64 e.val, .bool true]) ∧ TB w' 54 57 eI B g gm n (P ++ S ++ [e]) ∧ Only w w' (fun k => TS g gm (P ++ e :: S) k) := by
  have hu51 := Try.underlying51
  have hu52 := Try.underlying52
  have hu54 := Try.underlying54
  have hu57 := Try.underlying57
  have hu3 := Try.underlying3
  have hu26 := Try.underlying26
  have hrun := h.mp.found Try.underlying51 (zero52 w) (e := e) (by simp) (h.sz _ (by simp))
  have hb := h.blk
  have he := h.seg.at_
  have cg0 := blk_cell hb 0
  have fg0 := blk_frozen hb 0
  have cg1 := blk_cell hb 1
  have fg1 := blk_frozen hb 1
  have cg2 := blk_cell hb 2
  have fg2 := blk_frozen hb 2
  have cg3 := blk_cell hb 3
  have fg3 := blk_frozen hb 3
  simp only [List.getElem?_toArray, List.getElem?_cons_zero, List.getElem?_cons_succ] at cg0 cg1 cg2 cg3
  have ce0 := blk_cell he 0
  have fe0 := blk_frozen he 0
  have ce1 := blk_cell he 1
  have fe1 := blk_frozen he 1
  have ce2 := blk_cell he 2
  have fe2 := blk_frozen he 2
  have ce3 := blk_cell he 3
  have fe3 := blk_frozen he 3
  simp only [List.getElem?_toArray, List.getElem?_cons_zero, List.getElem?_cons_succ] at ce0 ce1 ce2 ce3
  obtain ⟨n1, n2, n3, n4⟩ := h.less_nd
  go_enter Try.func10, Try.ntmps10
  go_wp2_with (first
    | (go_at_call 29; refine (outI _ P S e h.blk h.seg h.nd h.ng).mono ?_; rintro r w1 ⟨rfl, b1, s1, e1, o1⟩)
    | (go_at_call 30; refine (endI _ (P ++ S) e _ b1 s1 e1 n1 n2 n3 n4).mono ?_; rintro r w2 ⟨rfl, b2, s2, o2⟩; clear hrun; have ce := blk_cell s2.at_ 1; simp only [List.getElem?_toArray, List.getElem?_cons_zero, List.getElem?_cons_succ] at ce))
  refine bodyPost_ret (results_tmp2 rfl _ _ _) rfl ?_
  have o3 : Only w w2 (fun k => k = g ∨ k ∈ (P ++ e :: S).map E.blk) := o1.then (o2.mono (fun k h => by
    rcases h with h | h | h
    · exact .inl h
    · exact .inr (by simp [h])
    · refine .inr ?_
      simp only [List.map_append, List.mem_append] at h
      rcases h with h | h <;> simp [h]))
  exact ⟨rfl, h.move rfl rfl b2 s2 o3, o3.mono (fun k h => h.elim .inl (fun h => .inr (.inr h)))⟩
set_option maxHeartbeats 4000000 in
set_option maxRecDepth 100000 in
theorem deleteI_out {w : World} {B g gm n : Nat} {L : List (E Int)} {s : ByteArray} (h : TB w 54 57 eI B g gm n L) (hs : s.size ≤ maxLen) (hn : s ∉ L.map E.key) : Calls Try.prog 28 #[.pointer (some ⟨g, 0, none⟩), .string s] w fun r w' => r = .returned (.bool false) ∧ w' = w := by
  have hu51 := Try.underlying51
  have hu52 := Try.underlying52
  have hu54 := Try.underlying54
  have hu57 := Try.underlying57
  have hu3 := Try.underlying3
  have hu26 := Try.underlying26
  have hrun := h.mp.lacks Try.underlying51 (zero52 w) hn hs
  have hb := h.blk
  have cg0 := blk_cell hb 0
  have fg0 := blk_frozen hb 0
  have cg1 := blk_cell hb 1
  have fg1 := blk_frozen hb 1
  have cg2 := blk_cell hb 2
  have fg2 := blk_frozen hb 2
  have cg3 := blk_cell hb 3
  have fg3 := blk_frozen hb 3
  simp only [List.getElem?_toArray, List.getElem?_cons_zero, List.getElem?_cons_succ] at cg0 cg1 cg2 cg3
  go_enter Try.func28, Try.ntmps28
  go_wp2_with fail
  go_ret
  exact ⟨rfl, rfl⟩
set_option maxHeartbeats 4000000 in
set_option maxRecDepth 100000 in
theorem deleteI_in {w : World} {B g gm n : Nat} {P S : List (E Int)} {e : E Int} (h : TB w 54 57 eI B g gm n (P ++ e :: S)) : Calls Try.prog 28 #[.pointer (some ⟨g, 0, none⟩), .string e.key] w fun r w' => r = .returned (.bool true) ∧ TB w' 54 57 eI B g gm n (P ++ S) ∧ Only w w' (fun k => TS g gm (P ++ e :: S) k) := by
  have hu51 := Try.underlying51
  have hu52 := Try.underlying52
  have hu54 := Try.underlying54
  have hu57 := Try.underlying57
  have hu3 := Try.underlying3
  have hu26 := Try.underlying26
  have hrun := h.mp.found Try.underlying51 (zero52 w) (e := e) (by simp) (h.sz _ (by simp))
  have hb := h.blk
  have he := h.seg.at_
  have cg0 := blk_cell hb 0
  have fg0 := blk_frozen hb 0
  have cg1 := blk_cell hb 1
  have fg1 := blk_frozen hb 1
  have cg2 := blk_cell hb 2
  have fg2 := blk_frozen hb 2
  have cg3 := blk_cell hb 3
  have fg3 := blk_frozen hb 3
  simp only [List.getElem?_toArray, List.getElem?_cons_zero, List.getElem?_cons_succ] at cg0 cg1 cg2 cg3
  have ce0 := blk_cell he 0
  have fe0 := blk_frozen he 0
  have ce1 := blk_cell he 1
  have fe1 := blk_frozen he 1
  have ce2 := blk_cell he 2
  have fe2 := blk_frozen he 2
  have ce3 := blk_cell he 3
  have fe3 := blk_frozen he 3
  simp only [List.getElem?_toArray, List.getElem?_cons_zero, List.getElem?_cons_succ] at ce0 ce1 ce2 ce3
  obtain ⟨n1, n2, n3, n4⟩ := h.less_nd
  go_enter Try.func28, Try.ntmps28
  go_wp2_with (first
    | (go_at_call 29; refine (outI _ P S e h.blk h.seg h.nd h.ng).mono ?_; rintro r w1 ⟨rfl, b1, s1, e1, o1⟩; clear hrun; obtain ⟨w2, hrun, mp2, hg2⟩ := (h.mp.only o1 (fun h2 => h2.elim (fun e => h.gg e.symm) (fun e => h.nm e))).drop Try.underlying51 rfl h.kd (h.sz _ (by simp)) 0; clear cg0 cg1 cg2 cg3 ce0 ce1 ce2 ce3 fg0 fg1 fg2 fg3 fe0 fe1 fe2 fe3; have cg := blk_cell b1 1; simp only [List.getElem?_toArray, List.getElem?_cons_zero, List.getElem?_cons_succ] at cg))
  go_ret
  have o2 : Only w1 w2 (fun k => k = gm) := ⟨hg2.os, hg2.tape, hg2.output, hg2.size, fun k hk hs => hg2.block k hk (fun e => hs (by injection e))⟩
  have b2 := o2.blk b1 h.gg
  have s2 := s1.only o2 (fun x hx c => h.nm (c ▸ by simp only [List.map_append, List.map_cons, List.mem_append, List.mem_cons]; rcases List.mem_append.1 hx with hx | hx <;> simp [List.mem_map_of_mem hx]))
  exact ⟨rfl, h.less b2 s2 mp2, (o1.mono (fun k h => h.elim .inl (fun h => .inr (.inr h)))).then (o2.mono (fun k h => .inr (.inl h)))⟩
set_option maxHeartbeats 4000000 in
set_option maxRecDepth 100000 in
theorem putI_in {w : World} {B g gm n : Nat} {P S : List (E Int)} {e : E Int} (x : Int) (h : TB w 54 57 eI B g gm n (P ++ e :: S)) : Calls Try.prog 9 #[.pointer (some ⟨g, 0, none⟩), .string e.key, .int .i64 x] w fun r w' => r = .returned (.tuple #[.string ⟨#[]⟩, .bool false]) ∧ TB w' 54 57 eI B g gm n (P ++ S ++ [{ e with val := x }]) ∧ Only w w' (fun k => TS g gm (P ++ e :: S) k) := by
  have hu51 := Try.underlying51
  have hu52 := Try.underlying52
  have hu54 := Try.underlying54
  have hu57 := Try.underlying57
  have hu3 := Try.underlying3
  have hu26 := Try.underlying26
  have hrun := h.mp.found Try.underlying51 (zero52 w) (e := e) (by simp) (h.sz _ (by simp))
  have hb := h.blk
  have he := h.seg.at_
  have cg0 := blk_cell hb 0
  have fg0 := blk_frozen hb 0
  have cg1 := blk_cell hb 1
  have fg1 := blk_frozen hb 1
  have cg2 := blk_cell hb 2
  have fg2 := blk_frozen hb 2
  have cg3 := blk_cell hb 3
  have fg3 := blk_frozen hb 3
  simp only [List.getElem?_toArray, List.getElem?_cons_zero, List.getElem?_cons_succ] at cg0 cg1 cg2 cg3
  have ce0 := blk_cell he 0
  have fe0 := blk_frozen he 0
  have ce1 := blk_cell he 1
  have fe1 := blk_frozen he 1
  have ce2 := blk_cell he 2
  have fe2 := blk_frozen he 2
  have ce3 := blk_cell he 3
  have fe3 := blk_frozen he 3
  simp only [List.getElem?_toArray, List.getElem?_cons_zero, List.getElem?_cons_succ] at ce0 ce1 ce2 ce3
  obtain ⟨h1, o1⟩ := h.setval x
  obtain ⟨n1, n2, n3, n4⟩ := h1.less_nd
  go_enter Try.func9, Try.ntmps9
  go_wp2_with (first
    | (go_at_call 29; refine (outI _ P S { e with val := x } h1.blk h1.seg h1.nd h1.ng).mono ?_; rintro r w1 ⟨rfl, b1, s1, e1, o2⟩; clear hrun)
    | (go_at_call 30; refine (endI _ (P ++ S) { e with val := x } _ b1 s1 e1 n1 n2 n3 n4).mono ?_; rintro r w2 ⟨rfl, b2, s2, o3⟩))
  refine bodyPost_ret (results_tmp2 rfl _ _ _) rfl ?_
  have o4 : Only (w.setCell ⟨e.blk, 1, none⟩ (.int .i64 x)) w2 (fun k => k = g ∨ k ∈ (P ++ { e with val := x } :: S).map E.blk) := o2.then (o3.mono (fun k h => by
    rcases h with h | h | h
    · exact .inl h
    · exact .inr (by simp [show k = e.blk from h])
    · refine .inr ?_
      simp only [List.map_append, List.mem_append] at h
      rcases h with h | h <;> simp [h]))
  refine ⟨rfl, h1.move rfl rfl b2 s2 o4, (o1.mono (fun k h => .inr (.inr (by simp [h])))).then (o4.mono (fun k h => ?_))⟩
  rcases h with h | h
  · exact .inl h
  · exact .inr (.inr (by simpa using h))
set_option maxHeartbeats 4000000 in
set_option maxRecDepth 100000 in
theorem getS_in {w : World} {B g gm n : Nat} {P S : List (E ByteArray)} {e : E ByteArray} (h : TB w 62 65 eS B g gm n (P ++ e :: S)) : Calls Try.prog 22 #[.pointer (some ⟨g, 0, none⟩), .string e.key] w fun r w' => r = .returned (.tuple #[.string e.val, .bool true]) ∧ TB w' 62 65 eS B g gm n (P ++ S ++ [e]) ∧ Only w w' (fun k => TS g gm (P ++ e :: S) k) := by
  have hu59 := Try.underlying59
  have hu60 := Try.underlying60
  have hu62 := Try.underlying62
  have hu65 := Try.underlying65
  have hu9 := Try.underlying9
  have hu41 := Try.underlying41
  have hrun := h.mp.found Try.underlying59 (zero60 w) (e := e) (by simp) (h.sz _ (by simp))
  have hb := h.blk
  have he := h.seg.at_
  have cg0 := blk_cell hb 0
  have fg0 := blk_frozen hb 0
  have cg1 := blk_cell hb 1
  have fg1 := blk_frozen hb 1
  have cg2 := blk_cell hb 2
  have fg2 := blk_frozen hb 2
  have cg3 := blk_cell hb 3
  have fg3 := blk_frozen hb 3
  simp only [List.getElem?_toArray, List.getElem?_cons_zero, List.getElem?_cons_succ] at cg0 cg1 cg2 cg3
  have ce0 := blk_cell he 0
  have fe0 := blk_frozen he 0
  have ce1 := blk_cell he 1
  have fe1 := blk_frozen he 1
  have ce2 := blk_cell he 2
  have fe2 := blk_frozen he 2
  have ce3 := blk_cell he 3
  have fe3 := blk_frozen he 3
  simp only [List.getElem?_toArray, List.getElem?_cons_zero, List.getElem?_cons_succ] at ce0 ce1 ce2 ce3
  obtain ⟨n1, n2, n3, n4⟩ := h.less_nd
  go_enter Try.func22, Try.ntmps22
  go_wp2_with (first
    | (go_at_call 31; refine (outS _ P S e h.blk h.seg h.nd h.ng).mono ?_; rintro r w1 ⟨rfl, b1, s1, e1, o1⟩)
    | (go_at_call 32; refine (endS _ (P ++ S) e _ b1 s1 e1 n1 n2 n3 n4).mono ?_; rintro r w2 ⟨rfl, b2, s2, o2⟩; clear hrun; have ce := blk_cell s2.at_ 1; simp only [List.getElem?_toArray, List.getElem?_cons_zero, List.getElem?_cons_succ] at ce))
  refine bodyPost_ret (results_tmp2 rfl _ _ _) rfl ?_
  have o3 : Only w w2 (fun k => k = g ∨ k ∈ (P ++ e :: S).map E.blk) := o1.then (o2.mono (fun k h => by
    rcases h with h | h | h
    · exact .inl h
    · exact .inr (by simp [h])
    · refine .inr ?_
      simp only [List.map_append, List.mem_append] at h
      rcases h with h | h <;> simp [h]))
  exact ⟨rfl, h.move rfl rfl b2 s2 o3, o3.mono (fun k h => h.elim .inl (fun h => .inr (.inr h)))⟩
set_option maxHeartbeats 4000000 in
set_option maxRecDepth 100000 in
theorem deleteS_out {w : World} {B g gm n : Nat} {L : List (E ByteArray)} {s : ByteArray} (h : TB w 62 65 eS B g gm n L) (hs : s.size ≤ maxLen) (hn : s ∉ L.map E.key) : Calls Try.prog 33 #[.pointer (some ⟨g, 0, none⟩), .string s] w fun r w' => r = .returned (.bool false) ∧ w' = w := by
  have hu59 := Try.underlying59
  have hu60 := Try.underlying60
  have hu62 := Try.underlying62
  have hu65 := Try.underlying65
  have hu9 := Try.underlying9
  have hu41 := Try.underlying41
  have hrun := h.mp.lacks Try.underlying59 (zero60 w) hn hs
  have hb := h.blk
  have cg0 := blk_cell hb 0
  have fg0 := blk_frozen hb 0
  have cg1 := blk_cell hb 1
  have fg1 := blk_frozen hb 1
  have cg2 := blk_cell hb 2
  have fg2 := blk_frozen hb 2
  have cg3 := blk_cell hb 3
  have fg3 := blk_frozen hb 3
  simp only [List.getElem?_toArray, List.getElem?_cons_zero, List.getElem?_cons_succ] at cg0 cg1 cg2 cg3
  go_enter Try.func33, Try.ntmps33
  go_wp2_with fail
  go_ret
  exact ⟨rfl, rfl⟩
set_option maxHeartbeats 4000000 in
set_option maxRecDepth 100000 in
theorem deleteS_in {w : World} {B g gm n : Nat} {P S : List (E ByteArray)} {e : E ByteArray} (h : TB w 62 65 eS B g gm n (P ++ e :: S)) : Calls Try.prog 33 #[.pointer (some ⟨g, 0, none⟩), .string e.key] w fun r w' => r = .returned (.bool true) ∧ TB w' 62 65 eS B g gm n (P ++ S) ∧ Only w w' (fun k => TS g gm (P ++ e :: S) k) := by
  have hu59 := Try.underlying59
  have hu60 := Try.underlying60
  have hu62 := Try.underlying62
  have hu65 := Try.underlying65
  have hu9 := Try.underlying9
  have hu41 := Try.underlying41
  have hrun := h.mp.found Try.underlying59 (zero60 w) (e := e) (by simp) (h.sz _ (by simp))
  have hb := h.blk
  have he := h.seg.at_
  have cg0 := blk_cell hb 0
  have fg0 := blk_frozen hb 0
  have cg1 := blk_cell hb 1
  have fg1 := blk_frozen hb 1
  have cg2 := blk_cell hb 2
  have fg2 := blk_frozen hb 2
  have cg3 := blk_cell hb 3
  have fg3 := blk_frozen hb 3
  simp only [List.getElem?_toArray, List.getElem?_cons_zero, List.getElem?_cons_succ] at cg0 cg1 cg2 cg3
  have ce0 := blk_cell he 0
  have fe0 := blk_frozen he 0
  have ce1 := blk_cell he 1
  have fe1 := blk_frozen he 1
  have ce2 := blk_cell he 2
  have fe2 := blk_frozen he 2
  have ce3 := blk_cell he 3
  have fe3 := blk_frozen he 3
  simp only [List.getElem?_toArray, List.getElem?_cons_zero, List.getElem?_cons_succ] at ce0 ce1 ce2 ce3
  obtain ⟨n1, n2, n3, n4⟩ := h.less_nd
  go_enter Try.func33, Try.ntmps33
  go_wp2_with (first
    | (go_at_call 31; refine (outS _ P S e h.blk h.seg h.nd h.ng).mono ?_; rintro r w1 ⟨rfl, b1, s1, e1, o1⟩; clear hrun; obtain ⟨w2, hrun, mp2, hg2⟩ := (h.mp.only o1 (fun h2 => h2.elim (fun e => h.gg e.symm) (fun e => h.nm e))).drop Try.underlying59 rfl h.kd (h.sz _ (by simp)) 0; clear cg0 cg1 cg2 cg3 ce0 ce1 ce2 ce3 fg0 fg1 fg2 fg3 fe0 fe1 fe2 fe3; have cg := blk_cell b1 1; simp only [List.getElem?_toArray, List.getElem?_cons_zero, List.getElem?_cons_succ] at cg))
  go_ret
  have o2 : Only w1 w2 (fun k => k = gm) := ⟨hg2.os, hg2.tape, hg2.output, hg2.size, fun k hk hs => hg2.block k hk (fun e => hs (by injection e))⟩
  have b2 := o2.blk b1 h.gg
  have s2 := s1.only o2 (fun x hx c => h.nm (c ▸ by simp only [List.map_append, List.map_cons, List.mem_append, List.mem_cons]; rcases List.mem_append.1 hx with hx | hx <;> simp [List.mem_map_of_mem hx]))
  exact ⟨rfl, h.less b2 s2 mp2, (o1.mono (fun k h => h.elim .inl (fun h => .inr (.inr h)))).then (o2.mono (fun k h => .inr (.inl h)))⟩
set_option maxHeartbeats 4000000 in
set_option maxRecDepth 100000 in
theorem putS_in {w : World} {B g gm n : Nat} {P S : List (E ByteArray)} {e : E ByteArray} (x : ByteArray) (h : TB w 62 65 eS B g gm n (P ++ e :: S)) : Calls Try.prog 19 #[.pointer (some ⟨g, 0, none⟩), .string e.key, .string x] w fun r w' => r = .returned (.tuple #[.string ⟨#[]⟩, .bool false]) ∧ TB w' 62 65 eS B g gm n (P ++ S ++ [{ e with val := x }]) ∧ Only w w' (fun k => TS g gm (P ++ e :: S) k) := by
  have hu59 := Try.underlying59
  have hu60 := Try.underlying60
  have hu62 := Try.underlying62
  have hu65 := Try.underlying65
  have hu9 := Try.underlying9
  have hu41 := Try.underlying41
  have hrun := h.mp.found Try.underlying59 (zero60 w) (e := e) (by simp) (h.sz _ (by simp))
  have hb := h.blk
  have he := h.seg.at_
  have cg0 := blk_cell hb 0
  have fg0 := blk_frozen hb 0
  have cg1 := blk_cell hb 1
  have fg1 := blk_frozen hb 1
  have cg2 := blk_cell hb 2
  have fg2 := blk_frozen hb 2
  have cg3 := blk_cell hb 3
  have fg3 := blk_frozen hb 3
  simp only [List.getElem?_toArray, List.getElem?_cons_zero, List.getElem?_cons_succ] at cg0 cg1 cg2 cg3
  have ce0 := blk_cell he 0
  have fe0 := blk_frozen he 0
  have ce1 := blk_cell he 1
  have fe1 := blk_frozen he 1
  have ce2 := blk_cell he 2
  have fe2 := blk_frozen he 2
  have ce3 := blk_cell he 3
  have fe3 := blk_frozen he 3
  simp only [List.getElem?_toArray, List.getElem?_cons_zero, List.getElem?_cons_succ] at ce0 ce1 ce2 ce3
  obtain ⟨h1, o1⟩ := h.setval x
  obtain ⟨n1, n2, n3, n4⟩ := h1.less_nd
  go_enter Try.func19, Try.ntmps19
  go_wp2_with (first
    | (go_at_call 31; refine (outS _ P S { e with val := x } h1.blk h1.seg h1.nd h1.ng).mono ?_; rintro r w1 ⟨rfl, b1, s1, e1, o2⟩; clear hrun)
    | (go_at_call 32; refine (endS _ (P ++ S) { e with val := x } _ b1 s1 e1 n1 n2 n3 n4).mono ?_; rintro r w2 ⟨rfl, b2, s2, o3⟩))
  refine bodyPost_ret (results_tmp2 rfl _ _ _) rfl ?_
  have o4 : Only (w.setCell ⟨e.blk, 1, none⟩ (.string x)) w2 (fun k => k = g ∨ k ∈ (P ++ { e with val := x } :: S).map E.blk) := o2.then (o3.mono (fun k h => by
    rcases h with h | h | h
    · exact .inl h
    · exact .inr (by simp [show k = e.blk from h])
    · refine .inr ?_
      simp only [List.map_append, List.mem_append] at h
      rcases h with h | h <;> simp [h]))
  refine ⟨rfl, h1.move rfl rfl b2 s2 o4, (o1.mono (fun k h => .inr (.inr (by simp [h])))).then (o4.mono (fun k h => ?_))⟩
  rcases h with h | h
  · exact .inl h
  · exact .inr (.inr (by simpa using h))
end Go.Proofs.Ytlainhbmfphojaa.Tb
