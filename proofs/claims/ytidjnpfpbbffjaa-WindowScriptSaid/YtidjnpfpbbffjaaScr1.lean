/- Proved: High and Bits of the program's window, by value. -/
import Derived.Test.YtidjnpfpbbffjaaScr0
namespace Go.Proofs.Ytidjnpfpbbffjaa.Scr
open Go.RowKit Go.Proofs.YtidjnpfpbbffjaaW.PrintWords Go.Proofs.YtidjnpfpbbffjaaW.PrintLast Go.Proofs.YtidjnpfpbbffjaaW.PrintMore
set_option linter.unusedVariables false
set_option linter.unusedSimpArgs false

set_option maxHeartbeats 2000000 in
set_option maxRecDepth 100000 in
theorem high_calls (hi bi : Int) (w : World) : Calls Try.prog 18 #[.agg #[.int .u64 hi, .int .u64 bi]] w fun e w' => e = .returned (.int .u64 hi) ∧ Below w.heap.size w w' := by
  have hu26 := Try.underlying26
  have hu24 := Try.underlying24
  go_enter Try.func18, Try.ntmps18
  go_wp2_with (first
    | ((with_reducible refine gate_dst (N := 1) rfl ?_); refine box_event ?hg (N := 1) ?hd (cs := #[.int .u64 hi, .int .u64 bi]) (t := 26) ?hr ?_; (case hd => rfl); (case hg => rfl); (case hr => first | (go_simp; done) | (go_simp; rfl)); intro g2 eg2 w1 Xg2 Bg2; have hB := Bg2; clear eg2 Bg2; have hc0 := blk_cell Xg2 0; have hf0 := blk_frozen Xg2 0; have hc1 := blk_cell Xg2 1; have hf1 := blk_frozen Xg2 1; simp only [List.getElem?_toArray, List.getElem?_cons_zero, List.getElem?_cons_succ] at hc0 hc1))
  go_ret
  exact ⟨rfl, hB⟩

set_option maxHeartbeats 2000000 in
set_option maxRecDepth 100000 in
theorem bits_calls (hi bi : Int) (w : World) : Calls Try.prog 20 #[.agg #[.int .u64 hi, .int .u64 bi]] w fun e w' => e = .returned (.int .u64 bi) ∧ Below w.heap.size w w' := by
  have hu26 := Try.underlying26
  have hu24 := Try.underlying24
  go_enter Try.func20, Try.ntmps20
  go_wp2_with (first
    | ((with_reducible refine gate_dst (N := 1) rfl ?_); refine box_event ?hg (N := 1) ?hd (cs := #[.int .u64 hi, .int .u64 bi]) (t := 26) ?hr ?_; (case hd => rfl); (case hg => rfl); (case hr => first | (go_simp; done) | (go_simp; rfl)); intro g2 eg2 w1 Xg2 Bg2; have hB := Bg2; clear eg2 Bg2; have hc0 := blk_cell Xg2 0; have hf0 := blk_frozen Xg2 0; have hc1 := blk_cell Xg2 1; have hf1 := blk_frozen Xg2 1; simp only [List.getElem?_toArray, List.getElem?_cons_zero, List.getElem?_cons_succ] at hc0 hc1))
  go_ret
  exact ⟨rfl, hB⟩
end Go.Proofs.Ytidjnpfpbbffjaa.Scr
