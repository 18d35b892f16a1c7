/- Proved: RingRounds answers true, whatever is handed in. -/
import Derived.Test.YtjajaklichiknaaIt2
namespace Go.Proofs.Ytjajaklichiknaa.Rg
open Go.RowKit Go.Proofs.YtjajaklichiknaaW.PrintWords Go.Proofs.YtjajaklichiknaaW.PrintLast Go.Proofs.YtjajaklichiknaaW.PrintMore
set_option linter.unusedVariables false
set_option linter.unusedSimpArgs false

set_option maxHeartbeats 4000000 in
set_option maxRecDepth 100000 in
theorem rounds_long (X Y : List Int) (AX AY : Option Addr) (cX cY : Nat) (w : World) (hl : 2000 < X.length + Y.length) (hx : X.length ≤ 17592186044416) (hy : Y.length ≤ 17592186044416) : Calls Try.prog 6 #[.slice AX X.length cX, .slice AY Y.length cY] w fun r w' => r = .returned (.bool true) ∧ Below w.heap.size w w' := by
  have hu3 := Try.underlying3
  have hu22 := Try.underlying22
  have hu24 := Try.underlying24
  have hu65 := Try.underlying65
  have hu48 := Try.underlying48
  have hu4 := Try.underlying4
  have c3 : (2000 : Int) < (X.length : Int) + (Y.length : Int) := by omega
  obtain ⟨wb, hwb⟩ : ∃ wb, (((w.alloc (.cells #[.slice AX X.length cX] 22)).alloc (.cells #[.slice AY Y.length cY] 22)).alloc (.cells #[.bool false] 4)) = wb := ⟨_, rfl⟩
  have hb1 := al_bel w (.cells #[.slice AX X.length cX] 22)
  have hb2 := al_bel (w.alloc (.cells #[.slice AX X.length cX] 22)) (.cells #[.slice AY Y.length cY] 22)
  have hb3 := al_bel ((w.alloc (.cells #[.slice AX X.length cX] 22)).alloc (.cells #[.slice AY Y.length cY] 22)) (.cells #[.bool false] 4)
  have hc1 := al_at w (.cells #[.slice AX X.length cX] 22)
  have hc2 := al_at (w.alloc (.cells #[.slice AX X.length cX] 22)) (.cells #[.slice AY Y.length cY] 22)
  have hc3 := al_at ((w.alloc (.cells #[.slice AX X.length cX] 22)).alloc (.cells #[.slice AY Y.length cY] 22)) (.cells #[.bool false] 4)
  have hb0 : Below w.heap.size w (((w.alloc (.cells #[.slice AX X.length cX] 22)).alloc (.cells #[.slice AY Y.length cY] 22)).alloc (.cells #[.bool false] 4)) := below_step (below_step hb1 hb2) hb3
  have hc1b := (hb3.block _ (blk_lt ((hb2.block _ (blk_lt hc1)).trans hc1))).trans ((hb2.block _ (blk_lt hc1)).trans hc1)
  have hc2b := (hb3.block _ (blk_lt hc2)).trans hc2
  rw [hwb] at hc1b hc2b hc3 hb0
  rw [al_size, al_size] at hc3
  rw [al_size] at hc2b
  have HBX := Aside0.mk (And.intro hb0 (And.intro hc1b (And.intro hc2b hc3)))
  clear hb1 hb2 hb3 hc1 hc2 hc3 hb0 hc1b hc2b hl
  go_enter Try.func6, Try.ntmps6
  go_upto_region 1 with fail
  try rw [hwb]
  clear hwb
  go_upto_region 2 with (first
    | (go_at_call 8; refine (alive_calls _).mono ?_; rintro r wa ⟨rfl, hba⟩; have HL1 := Aside0.mk ((hba.block _ (blk_lt HBX.out.2.1)).trans HBX.out.2.1); have HM1 := Aside0.mk ((hba.block _ (blk_lt HBX.out.2.2.1)).trans HBX.out.2.2.1); have HS1 := Aside0.mk ((hba.block _ (blk_lt HBX.out.2.2.2)).trans HBX.out.2.2.2); have HB1 := Aside0.mk (below_step HBX.out.1 hba); clear hba; have cl0 := blk_cell HL1.out 0; have fl0 := blk_frozen HL1.out 0; have cm0 := blk_cell HM1.out 0; have fm0 := blk_frozen HM1.out 0; simp only [List.getElem?_toArray, List.getElem?_cons_zero, List.getElem?_cons_succ] at cl0 cm0))
  go_wp2_with (first
    | (go_at_call 8; refine (alive_calls _).mono ?_; rintro r w5 ⟨rfl, hb5⟩; have HS5 := Aside0.mk ((hb5.block _ (blk_lt HS1.out)).trans HS1.out); have HB5 := Aside0.mk (below_step HB1.out hb5); clear hb5 cl0 fl0 cm0 fm0; have cs0 := blk_cell HS5.out 0; have fs0 := blk_frozen HS5.out 0; simp only [List.getElem?_toArray, List.getElem?_cons_zero, List.getElem?_cons_succ] at cs0))
  have hc6 : (w5.setCell ⟨w.heap.size + 1 + 1, 0, none⟩ (.bool true)).heap[w.heap.size + 1 + 1]? = some (.cells #[.bool true] 4 (0, 0)) := by simpa using blk_set HS5.out 0 (.bool true)
  have hc8 := blk_cell hc6 0
  simp only [List.getElem?_toArray, List.getElem?_cons_zero, List.getElem?_cons_succ] at hc8
  refine bodyPost_ret (v := .bool true) (by simp [results, Try.results6, go_sem, hc8]) rfl ?_
  exact ⟨rfl, HB5.out.setCell (p := ⟨w.heap.size + 1 + 1, 0, none⟩) (by show w.heap.size ≤ w.heap.size + 1 + 1; omega) _⟩
theorem rounds.calls (X Y : List Int) (AX AY : Option Addr) (cX cY : Nat) (w : World) (HX0 : ReadsOf ei 0 w AX X.length X) (HY0 : ReadsOf ei 0 w AY Y.length Y) (hx : X.length ≤ 17592186044416) (hy : Y.length ≤ 17592186044416) : Calls Try.prog 6 #[.slice AX X.length cX, .slice AY Y.length cY] w fun r w' => r = .returned (.bool true) ∧ Below w.heap.size w w' := by
  by_cases hl : X.length + Y.length ≤ 2000
  · exact rounds_ok X Y AX AY cX cY w hl HX0 HY0
  · exact rounds_long X Y AX AY cX cY w (by omega) hx hy
end Go.Proofs.Ytjajaklichiknaa.Rg
