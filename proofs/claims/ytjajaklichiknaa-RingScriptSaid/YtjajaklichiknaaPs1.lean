/- Proved: the walk of begin: a ring and the document's, laid into their places. -/
import Derived.Test.YtjajaklichiknaaPs0
namespace Go.Proofs.Ytjajaklichiknaa.Rg
open Go.RowKit Go.Proofs.YtjajaklichiknaaW.PrintWords Go.Proofs.YtjajaklichiknaaW.PrintLast Go.Proofs.YtjajaklichiknaaW.PrintMore
set_option linter.unusedVariables false
set_option linter.unusedSimpArgs false

theorem OQ.base {w : World} {B B' : Nat} {v : Value} {q : List Int} (h : OQ w B' v q) (hB : B ≤ B') : OQ w B v q := by
  rcases h with h | ⟨g, o, cap, cur, e, hb, hr⟩
  · exact .inl h
  · exact .inr ⟨g, o, cap, cur, e, Nat.le_trans hB hb, hr⟩
theorem RD.base {w : World} {B B' gd s : Nat} {S : Nat → Prop} {q : List Int} (h : RD w B' gd s S q) (hB : B ≤ B') : RD w B gd s S q := by
  obtain ⟨v, h1, h2, h3, h4, h5, h6⟩ := h.ex
  exact ⟨v, h1, h2.base hB, h3, Nat.le_trans hB h4, h5, h6⟩
set_option maxHeartbeats 16000000 in
set_option maxRecDepth 100000 in
theorem begin_bad {w : World} (p : Nat) (at_ n : Int) (h : n < 1 ∨ 4096 < n) : Calls Try.prog 23 #[.pointer (some ⟨p, 0, none⟩), .int .i64 at_, .int .i64 n] w fun r w' => r = .returned (.bool true) ∧ Below w.heap.size w w' := by
  have hu3 := Try.underlying3
  have hu22 := Try.underlying22
  have hu24 := Try.underlying24
  have hu51 := Try.underlying51
  have hu52 := Try.underlying52
  have hu53 := Try.underlying53
  have hu54 := Try.underlying54
  have hu57 := Try.underlying57
  have hu65 := Try.underlying65
  have hu73 := Try.underlying73
  have hu4 := Try.underlying4
  go_enter Try.func23, Try.ntmps23
  go_upto_region 3 with (first | (go_at_call 9; refine (new_bad _ _ h).mono ?_; rintro e w1 ⟨rfl, hd1⟩) | (go_at_call 30; refine (rnew_bad _ _ h).mono ?_; rintro e w2 ⟨rfl, rfl⟩))
  have HD1 := Aside0.mk hd1.below
  clear hd1
  go_wp2_with (first | (go_at_call 10; refine (num_calls _ _).mono ?_; rintro e w3 ⟨rfl, hd3⟩; have HD1 := Aside0.mk (below_step HD1.out hd3.below); clear hd3))
  go_ret
  exact ⟨rfl, HD1.out⟩
set_option maxHeartbeats 16000000 in
set_option maxRecDepth 100000 in
theorem begin0 {w : World} {p n : Nat} {c0 c1 c2 c3 c4 c5 : Value} (h0 : 0 < n) (h1 : n ≤ 4096) (hp : w.heap[p]? = some (.cells #[c0, c1, c2, c3, c4, c5] 57 (0, 0))) : Calls Try.prog 23 #[.pointer (some ⟨p, 0, none⟩), .int .i64 0, .int .i64 (n : Int)] w fun r w' => r = .returned (.bool true) ∧ ∃ g gd Z, Pair w' w.heap.size g gd Z ∧ w'.heap[p]? = some (.cells #[.pointer (some ⟨g, 0, none⟩), c1, .pointer (some ⟨gd, 0, none⟩), c3, c4, c5] 57 (0, 0)) ∧ Only w w' (fun k => k = p) := by
  have hu3 := Try.underlying3
  have hu22 := Try.underlying22
  have hu24 := Try.underlying24
  have hu51 := Try.underlying51
  have hu52 := Try.underlying52
  have hu53 := Try.underlying53
  have hu54 := Try.underlying54
  have hu57 := Try.underlying57
  have hu65 := Try.underlying65
  have hu73 := Try.underlying73
  have hu4 := Try.underlying4
  go_enter Try.func23, Try.ntmps23
  go_upto_region 3 with (first | (go_at_call 9; refine (new_ok _ n h0 h1).mono ?_; rintro e w1 ⟨g, gt, rfl, hq1, hg1, hgt1, hne, hb1⟩) | (go_at_call 30; refine (rnew_ok _ n h0 h1).mono ?_; rintro e w2 ⟨gd, S, rfl, hd2, hb2⟩))
  have HQ := Aside0.mk (hq1.below hb2)
  have HD := Aside0.mk (hd2.base hb1.size)
  have HS : Aside0 (¬ S g ∧ ¬ S gt) := ⟨fun e => absurd (hd2.lt _ e).1 (Nat.not_le.mpr hq1.lt.1), fun e => absurd (hd2.lt _ e).1 (Nat.not_le.mpr hq1.lt.2)⟩
  have HG : Aside0 (w.heap.size ≤ g ∧ w.heap.size ≤ gt) := ⟨hg1, hgt1⟩
  have HB := Aside0.mk (below_step hb1 hb2)
  have HP := Aside0.mk hp
  clear hq1 hg1 hgt1 hne hb1 hd2 hb2 hp h0 h1
  go_upto_region 6 with (first | (go_at_call 10; refine (num_calls _ _).mono ?_; rintro e w4 ⟨rfl, hd3⟩; have HQ := Aside0.mk (HQ.out.drawn hd3); have HD := Aside0.mk (HD.out.drawn hd3); have HB := Aside0.mk (below_step HB.out hd3.below); clear hd3))
  have hp4 := (HB.out.block _ (blk_lt HP.out)).trans HP.out
  have cp0 := blk_cell hp4 0
  have fp0 := blk_frozen hp4 0
  have cp1 := blk_cell hp4 2
  have fp1 := blk_frozen hp4 2
  simp only [List.getElem?_toArray, List.getElem?_cons_zero, List.getElem?_cons_succ] at cp0 cp1
  have HP4 := Aside0.mk hp4
  clear hp4
  go_wp2_with fail
  go_ret
  have hO : Only w4 ((w4.setCell ⟨p, 0, none⟩ (.pointer (some ⟨g, 0, none⟩))).setCell ⟨p, 2, none⟩ (.pointer (some ⟨gd, 0, none⟩))) (fun k => k = p) := ((Only.refl w4 (fun k => k = p)).set rfl).set rfl
  have hpl := blk_lt HP.out
  have hO2 : Only w ((w4.setCell ⟨p, 0, none⟩ (.pointer (some ⟨g, 0, none⟩))).setCell ⟨p, 2, none⟩ (.pointer (some ⟨gd, 0, none⟩))) (fun k => k = p) := (Only.of_below HB.out _).then hO
  have hpr : Pair w4 w.heap.size g gd (fun k => (k = g ∨ k = gt) ∨ S k) := ⟨_, _, _, _, HQ.out, HD.out, HS.out, HG.out, rfl⟩
  exact ⟨rfl, g, gd, _, hpr.only hO (fun k hk e => by have := (hpr.lt k hk).1; omega), by simpa using blk_set (blk_set HP4.out 0 (.pointer (some ⟨g, 0, none⟩))) 2 (.pointer (some ⟨gd, 0, none⟩)), hO2⟩
set_option maxHeartbeats 16000000 in
set_option maxRecDepth 100000 in
theorem begin1 {w : World} {p n : Nat} {c0 c1 c2 c3 c4 c5 : Value} (h0 : 0 < n) (h1 : n ≤ 4096) (hp : w.heap[p]? = some (.cells #[c0, c1, c2, c3, c4, c5] 57 (0, 0))) : Calls Try.prog 23 #[.pointer (some ⟨p, 0, none⟩), .int .i64 1, .int .i64 (n : Int)] w fun r w' => r = .returned (.bool true) ∧ ∃ g gd Z, Pair w' w.heap.size g gd Z ∧ w'.heap[p]? = some (.cells #[c0, .pointer (some ⟨g, 0, none⟩), c2, .pointer (some ⟨gd, 0, none⟩), c4, c5] 57 (0, 0)) ∧ Only w w' (fun k => k = p) := by
  have hu3 := Try.underlying3
  have hu22 := Try.underlying22
  have hu24 := Try.underlying24
  have hu51 := Try.underlying51
  have hu52 := Try.underlying52
  have hu53 := Try.underlying53
  have hu54 := Try.underlying54
  have hu57 := Try.underlying57
  have hu65 := Try.underlying65
  have hu73 := Try.underlying73
  have hu4 := Try.underlying4
  go_enter Try.func23, Try.ntmps23
  go_upto_region 3 with (first | (go_at_call 9; refine (new_ok _ n h0 h1).mono ?_; rintro e w1 ⟨g, gt, rfl, hq1, hg1, hgt1, hne, hb1⟩) | (go_at_call 30; refine (rnew_ok _ n h0 h1).mono ?_; rintro e w2 ⟨gd, S, rfl, hd2, hb2⟩))
  have HQ := Aside0.mk (hq1.below hb2)
  have HD := Aside0.mk (hd2.base hb1.size)
  have HS : Aside0 (¬ S g ∧ ¬ S gt) := ⟨fun e => absurd (hd2.lt _ e).1 (Nat.not_le.mpr hq1.lt.1), fun e => absurd (hd2.lt _ e).1 (Nat.not_le.mpr hq1.lt.2)⟩
  have HG : Aside0 (w.heap.size ≤ g ∧ w.heap.size ≤ gt) := ⟨hg1, hgt1⟩
  have HB := Aside0.mk (below_step hb1 hb2)
  have HP := Aside0.mk hp
  clear hq1 hg1 hgt1 hne hb1 hd2 hb2 hp h0 h1
  go_upto_region 6 with (first | (go_at_call 10; refine (num_calls _ _).mono ?_; rintro e w4 ⟨rfl, hd3⟩; have HQ := Aside0.mk (HQ.out.drawn hd3); have HD := Aside0.mk (HD.out.drawn hd3); have HB := Aside0.mk (below_step HB.out hd3.below); clear hd3))
  have hp4 := (HB.out.block _ (blk_lt HP.out)).trans HP.out
  have cp0 := blk_cell hp4 1
  have fp0 := blk_frozen hp4 1
  have cp1 := blk_cell hp4 3
  have fp1 := blk_frozen hp4 3
  simp only [List.getElem?_toArray, List.getElem?_cons_zero, List.getElem?_cons_succ] at cp0 cp1
  have HP4 := Aside0.mk hp4
  clear hp4
  go_wp2_with fail
  go_ret
  have hO : Only w4 ((w4.setCell ⟨p, 1, none⟩ (.pointer (some ⟨g, 0, none⟩))).setCell ⟨p, 3, none⟩ (.pointer (some ⟨gd, 0, none⟩))) (fun k => k = p) := ((Only.refl w4 (fun k => k = p)).set rfl).set rfl
  have hpl := blk_lt HP.out
  have hO2 : Only w ((w4.setCell ⟨p, 1, none⟩ (.pointer (some ⟨g, 0, none⟩))).setCell ⟨p, 3, none⟩ (.pointer (some ⟨gd, 0, none⟩))) (fun k => k = p) := (Only.of_below HB.out _).then hO
  have hpr : Pair w4 w.heap.size g gd (fun k => (k = g ∨ k = gt) ∨ S k) := ⟨_, _, _, _, HQ.out, HD.out, HS.out, HG.out, rfl⟩
  exact ⟨rfl, g, gd, _, hpr.only hO (fun k hk e => by have := (hpr.lt k hk).1; omega), by simpa using blk_set (blk_set HP4.out 1 (.pointer (some ⟨g, 0, none⟩))) 3 (.pointer (some ⟨gd, 0, none⟩)), hO2⟩

end Go.Proofs.Ytjajaklichiknaa.Rg
