/- Proved: the walks of New, Get, Peek, Len, Delete. -/
import Derived.Test.YtlainhbmfphojaaTb3
namespace Go.Proofs.Ytlainhbmfphojaa.Tb
open Go.RowKit Go.Maps Go.Proofs.YtlainhbmfphojaaW.PrintWords Go.Proofs.YtlainhbmfphojaaW.PrintLast Go.Proofs.YtlainhbmfphojaaW.PrintMore
set_option linter.unusedVariables false
set_option linter.unusedSimpArgs false

theorem Seg.at_ {X : Type} {w : World} {t : TypeId} {enc : X → Value} {P S : List (E X)} {e : E X} {p n : Option Nat} (h : Seg w t enc p (P ++ e :: S) n) : w.heap[e.blk]? = some (.cells #[.string e.key, enc e.val, ptr (lst p P), ptr (hd S n)] t (0, 0)) := ((seg_append p P (e :: S) n).1 h).2.1
theorem zero52 (w : World) : (zeroValue 52).run Try.prog w = .ok (.pointer none) w := by kernel_rfl
set_option maxHeartbeats 4000000 in
set_option maxRecDepth 100000 in
theorem peekI_in {w : World} {B g gm n : Nat} {P S : List (E Int)} {e : E Int} (h : TB w 54 57 eI B g gm n (P ++ e :: S)) : Calls Try.prog 11 #[.pointer (some ⟨g, 0, none⟩), .string e.key] w fun r w' => r = .returned (.tuple #[.int .i64 e.val, .bool true]) ∧ w' = w := by
  have hu51 := Try.underlying51
  have hu52 := Try.underlying52
  have hu54 := Try.underlying54
  have hu57 := Try.underlying57
  have hu3 := Try.underlying3
  have hu26 := Try.underlying26
  have hrun := h.mp.found Try.underlying51 (zero52 w) (e := e) (by simp) (h.sz _ (by simp))
  have hb := h.blk
  have he := h.seg.at_
  have cg0 := blk_cell hb 0
  have fg0 := blk_frozen hb 0
  have cg1 := blk_cell hb 1
  have fg1 := blk_frozen hb 1
  have cg2 := blk_cell hb 2
  have fg2 := blk_frozen hb 2
  have cg3 := blk_cell hb 3
  have fg3 := blk_frozen hb 3
  simp only [List.getElem?_toArray, List.getElem?_cons_zero, List.getElem?_cons_succ] at cg0 cg1 cg2 cg3
  have ce0 := blk_cell he 0
  have fe0 := blk_frozen he 0
  have ce1 := blk_cell he 1
  have fe1 := blk_frozen he 1
  have ce2 := blk_cell he 2
  have fe2 := blk_frozen he 2
  have ce3 := blk_cell he 3
  have fe3 := blk_frozen he 3
  simp only [List.getElem?_toArray, List.getElem?_cons_zero, List.getElem?_cons_succ] at ce0 ce1 ce2 ce3
  go_enter Try.func11, Try.ntmps11
  go_wp2_with fail
  refine bodyPost_ret (results_tmp2 rfl _ _ _) rfl ?_
  exact ⟨rfl, rfl⟩
set_option maxHeartbeats 4000000 in
set_option maxRecDepth 100000 in
theorem peekI_out {w : World} {B g gm n : Nat} {L : List (E Int)} {s : ByteArray} (h : TB w 54 57 eI B g gm n L) (hs : s.size ≤ maxLen) (hn : s ∉ L.map E.key) : Calls Try.prog 11 #[.pointer (some ⟨g, 0, none⟩), .string s] w fun r w' => r = .returned (.tuple #[.int .i64 0, .bool false]) ∧ w' = w := by
  have hu51 := Try.underlying51
  have hu52 := Try.underlying52
  have hu54 := Try.underlying54
  have hu57 := Try.underlying57
  have hu3 := Try.underlying3
  have hu26 := Try.underlying26
  have hrun := h.mp.lacks Try.underlying51 (zero52 w) hn hs
  have hb := h.blk
  have cg0 := blk_cell hb 0
  have fg0 := blk_frozen hb 0
  have cg1 := blk_cell hb 1
  have fg1 := blk_frozen hb 1
  have cg2 := blk_cell hb 2
  have fg2 := blk_frozen hb 2
  have cg3 := blk_cell hb 3
  have fg3 := blk_frozen hb 3
  simp only [List.getElem?_toArray, List.getElem?_cons_zero, List.getElem?_cons_succ] at cg0 cg1 cg2 cg3
  go_enter Try.func11, Try.ntmps11
  go_wp2_with fail
  refine bodyPost_ret (results_tmp2 rfl _ _ _) rfl ?_
  exact ⟨rfl, rfl⟩
set_option maxHeartbeats 4000000 in
set_option maxRecDepth 100000 in
theorem getI_out {w : World} {B g gm n : Nat} {L : List (E Int)} {s : ByteArray} (h : TB w 54 57 eI B g gm n L) (hs : s.size ≤ maxLen) (hn : s ∉ L.map E.key) : Calls Try.prog 10 #[.pointer (some ⟨g, 0, none⟩), .string s] w fun r w' => r = .returned (.tuple #[.int .i64 0, .bool false]) ∧ w' = w := by
  have hu51 := Try.underlying51
  have hu52 := Try.underlying52
  have hu54 := Try.underlying54
  have hu57 := Try.underlying57
  have hu3 := Try.underlying3
  have hu26 := Try.underlying26
  have hrun := h.mp.lacks Try.underlying51 (zero52 w) hn hs
  have hb := h.blk
  have cg0 := blk_cell hb 0
  have fg0 := blk_frozen hb 0
  have cg1 := blk_cell hb 1
  have fg1 := blk_frozen hb 1
  have cg2 := blk_cell hb 2
  have fg2 := blk_frozen hb 2
  have cg3 := blk_cell hb 3
  have fg3 := blk_frozen hb 3
  simp only [List.getElem?_toArray, List.getElem?_cons_zero, List.getElem?_cons_succ] at cg0 cg1 cg2 cg3
  go_enter Try.func10, Try.ntmps10
  go_wp2_with fail
  refine bodyPost_ret (results_tmp2 rfl _ _ _) rfl ?_
  exact ⟨rfl, rfl⟩
set_option maxHeartbeats 4000000 in
set_option maxRecDepth 100000 in
theorem lenI {w : World} {B g gm n : Nat} {L : List (E Int)} (h : TB w 54 57 eI B g gm n L) : Calls Try.prog 14 #[.pointer (some ⟨g, 0, none⟩)] w fun r w' => r = .returned (.int .i64 (L.length : Int)) ∧ w' = w := by
  have hu51 := Try.underlying51
  have hu52 := Try.underlying52
  have hu54 := Try.underlying54
  have hu57 := Try.underlying57
  have hu3 := Try.underlying3
  have hu26 := Try.underlying26
  have hrun := fun ty => h.mp.len_run Try.underlying51 ty
  have hb := h.blk
  have cg0 := blk_cell hb 0
  have fg0 := blk_frozen hb 0
  have cg1 := blk_cell hb 1
  have fg1 := blk_frozen hb 1
  have cg2 := blk_cell hb 2
  have fg2 := blk_frozen hb 2
  have cg3 := blk_cell hb 3
  have fg3 := blk_frozen hb 3
  simp only [List.getElem?_toArray, List.getElem?_cons_zero, List.getElem?_cons_succ] at cg0 cg1 cg2 cg3
  go_enter Try.func14, Try.ntmps14
  go_wp2_with fail
  go_ret
  exact ⟨rfl, rfl⟩
set_option maxHeartbeats 4000000 in
set_option maxRecDepth 100000 in
theorem newI_bad (w : World) (n : Int) (h : n < 1 ∨ 4096 < n) : Calls Try.prog 8 #[.int .i64 n] w fun r w' => r = .returned (.tuple #[.pointer none, .int .i64 110]) ∧ w' = w := by
  by_cases c : n < 1
  · go_enter Try.func8, Try.ntmps8
    go_wp2_with fail
    refine bodyPost_ret (results_tmp2 rfl _ _ _) rfl ?_
    exact ⟨rfl, rfl⟩
  · have c2 : 4096 < n := by omega
    go_enter Try.func8, Try.ntmps8
    go_wp2_with fail
    refine bodyPost_ret (results_tmp2 rfl _ _ _) rfl ?_
    exact ⟨rfl, rfl⟩
set_option maxHeartbeats 4000000 in
set_option maxRecDepth 100000 in
theorem newI_ok (w : World) (n : Nat) (h0 : 0 < n) (h1 : n ≤ 4096) : Calls Try.prog 8 #[.int .i64 (n : Int)] w fun r w' => ∃ g gm, r = .returned (.tuple #[.pointer (some ⟨g, 0, none⟩), .int .i64 0]) ∧ TB w' 54 57 eI w.heap.size g gm n ([] : List (E Int)) ∧ Below w.heap.size w w' := by
  have hu51 := Try.underlying51
  have hu52 := Try.underlying52
  have hu54 := Try.underlying54
  have hu57 := Try.underlying57
  have hu3 := Try.underlying3
  have hu26 := Try.underlying26
  have c1 : ¬ (n : Int) < 1 := by omega
  have c2 : ¬ (4096 : Int) < n := by omega
  have hmm := @run_makeMap Try.prog
  go_enter Try.func8, Try.ntmps8
  go_wp2_with (first
    | ((with_reducible refine gate_dst (N := 13) rfl ?_); refine box_event ?hg (N := 13) ?hd (cs := #[.int .i64 (n : Int), .map (some w.heap.size), .pointer none, .pointer none]) (t := 54) ?hr ?_; (case hd => rfl); (case hg => rfl); (case hr => first | (go_simp; done) | (go_simp; rfl)); intro g eg w1 Xg Bg))
  refine bodyPost_ret (results_tmp2 rfl _ _ _) rfl ?_
  have hsz : (w.alloc (.map #[] 0)).heap.size = w.heap.size + 1 := by simp
  have hB0 : Below w.heap.size w (w.alloc (.map #[] 0)) := (Below.refl _ _).alloc (Nat.le_refl _) _
  have hg0 : g = w.heap.size + 1 := eg.trans hsz
  subst hg0
  refine ⟨_, rfl, ⟨w.heap.size, ⟨Xg, trivial, (Mp.made w).only (Only.of_below Bg (fun _ => False)) (fun h => h), by simp, by simp, by simp, by simp, by omega, ⟨by omega, Nat.le_refl _, by simp⟩, by simp, Nat.zero_le _, h0, h1⟩⟩, below_step hB0 Bg⟩
theorem zero60 (w : World) : (zeroValue 60).run Try.prog w = .ok (.pointer none) w := by kernel_rfl
set_option maxHeartbeats 4000000 in
set_option maxRecDepth 100000 in
theorem peekS_in {w : World} {B g gm n : Nat} {P S : List (E ByteArray)} {e : E ByteArray} (h : TB w 62 65 eS B g gm n (P ++ e :: S)) : Calls Try.prog 23 #[.pointer (some ⟨g, 0, none⟩), .string e.key] w fun r w' => r = .returned (.tuple #[.string e.val, .bool true]) ∧ w' = w := by
  have hu59 := Try.underlying59
  have hu60 := Try.underlying60
  have hu62 := Try.underlying62
  have hu65 := Try.underlying65
  have hu9 := Try.underlying9
  have hu41 := Try.underlying41
  have hrun := h.mp.found Try.underlying59 (zero60 w) (e := e) (by simp) (h.sz _ (by simp))
  have hb := h.blk
  have he := h.seg.at_
  have cg0 := blk_cell hb 0
  have fg0 := blk_frozen hb 0
  have cg1 := blk_cell hb 1
  have fg1 := blk_frozen hb 1
  have cg2 := blk_cell hb 2
  have fg2 := blk_frozen hb 2
  have cg3 := blk_cell hb 3
  have fg3 := blk_frozen hb 3
  simp only [List.getElem?_toArray, List.getElem?_cons_zero, List.getElem?_cons_succ] at cg0 cg1 cg2 cg3
  have ce0 := blk_cell he 0
  have fe0 := blk_frozen he 0
  have ce1 := blk_cell he 1
  have fe1 := blk_frozen he 1
  have ce2 := blk_cell he 2
  have fe2 := blk_frozen he 2
  have ce3 := blk_cell he 3
  have fe3 := blk_frozen he 3
  simp only [List.getElem?_toArray, List.getElem?_cons_zero, List.getElem?_cons_succ] at ce0 ce1 ce2 ce3
  go_enter Try.func23, Try.ntmps23
  go_wp2_with fail
  refine bodyPost_ret (results_tmp2 rfl _ _ _) rfl ?_
  exact ⟨rfl, rfl⟩
set_option maxHeartbeats 4000000 in
set_option maxRecDepth 100000 in
theorem peekS_out {w : World} {B g gm n : Nat} {L : List (E ByteArray)} {s : ByteArray} (h : TB w 62 65 eS B g gm n L) (hs : s.size ≤ maxLen) (hn : s ∉ L.map E.key) : Calls Try.prog 23 #[.pointer (some ⟨g, 0, none⟩), .string s] w fun r w' => r = .returned (.tuple #[.string ⟨#[]⟩, .bool false]) ∧ w' = w := by
  have hu59 := Try.underlying59
  have hu60 := Try.underlying60
  have hu62 := Try.underlying62
  have hu65 := Try.underlying65
  have hu9 := Try.underlying9
  have hu41 := Try.underlying41
  have hrun := h.mp.lacks Try.underlying59 (zero60 w) hn hs
  have hb := h.blk
  have cg0 := blk_cell hb 0
  have fg0 := blk_frozen hb 0
  have cg1 := blk_cell hb 1
  have fg1 := blk_frozen hb 1
  have cg2 := blk_cell hb 2
  have fg2 := blk_frozen hb 2
  have cg3 := blk_cell hb 3
  have fg3 := blk_frozen hb 3
  simp only [List.getElem?_toArray, List.getElem?_cons_zero, List.getElem?_cons_succ] at cg0 cg1 cg2 cg3
  go_enter Try.func23, Try.ntmps23
  go_wp2_with fail
  refine bodyPost_ret (results_tmp2 rfl _ _ _) rfl ?_
  exact ⟨rfl, rfl⟩
set_option maxHeartbeats 4000000 in
set_option maxRecDepth 100000 in
theorem getS_out {w : World} {B g gm n : Nat} {L : List (E ByteArray)} {s : ByteArray} (h : TB w 62 65 eS B g gm n L) (hs : s.size ≤ maxLen) (hn : s ∉ L.map E.key) : Calls Try.prog 22 #[.pointer (some ⟨g, 0, none⟩), .string s] w fun r w' => r = .returned (.tuple #[.string ⟨#[]⟩, .bool false]) ∧ w' = w := by
  have hu59 := Try.underlying59
  have hu60 := Try.underlying60
  have hu62 := Try.underlying62
  have hu65 := Try.underlying65
  have hu9 := Try.underlying9
  have hu41 := Try.underlying41
  have hrun := h.mp.lacks Try.underlying59 (zero60 w) hn hs
  have hb := h.blk
  have cg0 := blk_cell hb 0
  have fg0 := blk_frozen hb 0
  have cg1 := blk_cell hb 1
  have fg1 := blk_frozen hb 1
  have cg2 := blk_cell hb 2
  have fg2 := blk_frozen hb 2
  have cg3 := blk_cell hb 3
  have fg3 := blk_frozen hb 3
  simp only [List.getElem?_toArray, List.getElem?_cons_zero, List.getElem?_cons_succ] at cg0 cg1 cg2 cg3
  go_enter Try.func22, Try.ntmps22
  go_wp2_with fail
  refine bodyPost_ret (results_tmp2 rfl _ _ _) rfl ?_
  exact ⟨rfl, rfl⟩
set_option maxHeartbeats 4000000 in
set_option maxRecDepth 100000 in
theorem lenS {w : World} {B g gm n : Nat} {L : List (E ByteArray)} (h : TB w 62 65 eS B g gm n L) : Calls Try.prog 24 #[.pointer (some ⟨g, 0, none⟩)] w fun r w' => r = .returned (.int .i64 (L.length : Int)) ∧ w' = w := by
  have hu59 := Try.underlying59
  have hu60 := Try.underlying60
  have hu62 := Try.underlying62
  have hu65 := Try.underlying65
  have hu9 := Try.underlying9
  have hu41 := Try.underlying41
  have hrun := fun ty => h.mp.len_run Try.underlying59 ty
  have hb := h.blk
  have cg0 := blk_cell hb 0
  have fg0 := blk_frozen hb 0
  have cg1 := blk_cell hb 1
  have fg1 := blk_frozen hb 1
  have cg2 := blk_cell hb 2
  have fg2 := blk_frozen hb 2
  have cg3 := blk_cell hb 3
  have fg3 := blk_frozen hb 3
  simp only [List.getElem?_toArray, List.getElem?_cons_zero, List.getElem?_cons_succ] at cg0 cg1 cg2 cg3
  go_enter Try.func24, Try.ntmps24
  go_wp2_with fail
  go_ret
  exact ⟨rfl, rfl⟩
set_option maxHeartbeats 4000000 in
set_option maxRecDepth 100000 in
theorem newS_bad (w : World) (n : Int) (h : n < 1 ∨ 4096 < n) : Calls Try.prog 18 #[.int .i64 n] w fun r w' => r = .returned (.tuple #[.pointer none, .int .i64 110]) ∧ w' = w := by
  by_cases c : n < 1
  · go_enter Try.func18, Try.ntmps18
    go_wp2_with fail
    refine bodyPost_ret (results_tmp2 rfl _ _ _) rfl ?_
    exact ⟨rfl, rfl⟩
  · have c2 : 4096 < n := by omega
    go_enter Try.func18, Try.ntmps18
    go_wp2_with fail
    refine bodyPost_ret (results_tmp2 rfl _ _ _) rfl ?_
    exact ⟨rfl, rfl⟩
set_option maxHeartbeats 4000000 in
set_option maxRecDepth 100000 in
theorem newS_ok (w : World) (n : Nat) (h0 : 0 < n) (h1 : n ≤ 4096) : Calls Try.prog 18 #[.int .i64 (n : Int)] w fun r w' => ∃ g gm, r = .returned (.tuple #[.pointer (some ⟨g, 0, none⟩), .int .i64 0]) ∧ TB w' 62 65 eS w.heap.size g gm n ([] : List (E ByteArray)) ∧ Below w.heap.size w w' := by
  have hu59 := Try.underlying59
  have hu60 := Try.underlying60
  have hu62 := Try.underlying62
  have hu65 := Try.underlying65
  have hu9 := Try.underlying9
  have hu41 := Try.underlying41
  have c1 : ¬ (n : Int) < 1 := by omega
  have c2 : ¬ (4096 : Int) < n := by omega
  have hmm := @run_makeMap Try.prog
  go_enter Try.func18, Try.ntmps18
  go_wp2_with (first
    | ((with_reducible refine gate_dst (N := 13) rfl ?_); refine box_event ?hg (N := 13) ?hd (cs := #[.int .i64 (n : Int), .map (some w.heap.size), .pointer none, .pointer none]) (t := 62) ?hr ?_; (case hd => rfl); (case hg => rfl); (case hr => first | (go_simp; done) | (go_simp; rfl)); intro g eg w1 Xg Bg))
  refine bodyPost_ret (results_tmp2 rfl _ _ _) rfl ?_
  have hsz : (w.alloc (.map #[] 0)).heap.size = w.heap.size + 1 := by simp
  have hB0 : Below w.heap.size w (w.alloc (.map #[] 0)) := (Below.refl _ _).alloc (Nat.le_refl _) _
  have hg0 : g = w.heap.size + 1 := eg.trans hsz
  subst hg0
  refine ⟨_, rfl, ⟨w.heap.size, ⟨Xg, trivial, (Mp.made w).only (Only.of_below Bg (fun _ => False)) (fun h => h), by simp, by simp, by simp, by simp, by omega, ⟨by omega, Nat.le_refl _, by simp⟩, by simp, Nat.zero_le _, h0, h1⟩⟩, below_step hB0 Bg⟩
end Go.Proofs.Ytlainhbmfphojaa.Tb
