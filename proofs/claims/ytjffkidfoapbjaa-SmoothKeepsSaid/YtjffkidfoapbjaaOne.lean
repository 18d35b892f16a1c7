/- Proved: alike and one: what they answer of what is one. -/
import Derived.Test.YtjffkidfoapbjaaFl
namespace Go.Proofs.Ytjffkidfoapbjaa.Fl
open Go.RowKit Go.Proofs.YtjffkidfoapbjaaW.PrintWords Go.Proofs.YtjffkidfoapbjaaW.PrintLast Go.Proofs.YtjffkidfoapbjaaW.PrintMore
set_option linter.unusedVariables false
set_option linter.unusedSimpArgs false
attribute [local go_sem] run_store_float

theorem ford_self {x : Nat} (h : nan x = false) : ford x x = some .eq := by
  unfold nan at h
  unfold ford Ieee.Format.order
  generalize Ieee.single.read x = d at *
  cases d <;> simp [Ieee.Datum.isNaN, Ieee.Datum.order] at *

/-- Two words that are one: '==', or neither is itself. -/
theorem alike_of {a b : Nat} (h : Fe a b) : fcmp .eql a b = true ∨ (fcmp .eql a b = false ∧ fcmp .neq a a = true ∧ fcmp .neq b b = true) := by
  rcases h with rfl | ⟨h1, h2⟩
  · cases hn : nan a
    · left; simp [fcmp, ford_self hn]
    · right; simp [fcmp, ford_nan_left hn]
  · right; simp [fcmp, ford_nan_left h1, ford_nan_left h2]

set_option maxHeartbeats 2000000 in
set_option maxRecDepth 100000 in
theorem alike_calls (a b : Nat) (h : Fe a b) (w : World) : Calls Try.prog 14 #[.float .f32 a, .float .f32 b] w fun e w' => e = .returned (.bool true) ∧ Drawn0 w w' := by
  rcases alike_of h with h0 | ⟨h0, h1, h2⟩
  · go_enter Try.func14, Try.ntmps14
    go_wp2_with (first | ((try (refine gate_guard (by rfl) ?_; dsimp only)); refine wpList_flc _ rfl _ _ _ _ _ rfl (by decide) _ _ _ _ rfl rfl (Fe.refl _) (Fe.refl _) ?_; (try rw [h0])))
    go_ret
    exact ⟨rfl, Drawn0.refl w⟩
  · go_enter Try.func14, Try.ntmps14
    go_wp2_with (first | ((try (refine gate_guard (by rfl) ?_; dsimp only)); refine wpList_flc _ rfl _ _ _ _ _ rfl (by decide) _ _ _ _ rfl rfl (Fe.refl _) (Fe.refl _) ?_; first | rw [h0] | rw [h1] | rw [h2] | skip))
    go_ret
    exact ⟨rfl, Drawn0.refl w⟩

set_option maxHeartbeats 4000000 in
set_option maxRecDepth 100000 in
theorem one_calls (ax ay aa bx by_ ba : Nat) (h0 : Fe ax bx) (h1 : Fe ay by_) (h2 : Fe aa ba) (w : World) : Calls Try.prog 11 #[.agg #[.float .f32 ax, .float .f32 ay, .float .f32 aa], .agg #[.float .f32 bx, .float .f32 by_, .float .f32 ba]] w fun e w' => e = .returned (.bool true) ∧ Below w.heap.size w w' := by
  have hu24 := Try.underlying24
  go_enter Try.func11, Try.ntmps11
  go_wp2_with (first
      | ((with_reducible refine gate_dst (N := 2) rfl ?_); refine box_event ?hg (N := 2) ?hd (cs := #[.float .f32 ax, .float .f32 ay, .float .f32 aa]) (t := 24) ?hr ?_; (case hd => rfl); (case hg => rfl); (case hr => first | (go_simp; done) | (go_simp; rfl)); intro g2 eg2 w3 Xg2 Bg2; clear eg2)
      | ((with_reducible refine gate_dst (N := 3) rfl ?_); refine box_event ?hg (N := 3) ?hd (cs := #[.float .f32 bx, .float .f32 by_, .float .f32 ba]) (t := 24) ?hr ?_; (case hd => rfl); (case hg => rfl); (case hr => first | (go_simp; done) | (go_simp; rfl)); intro g3 eg3 w4 Xg3 Bg3; have Xg2 := blk_below Xg2 Bg3; have hB := below_step Bg2 Bg3; clear eg3; have cg2_0 : w4.cell? ⟨g2, 0, none⟩ = some (.float .f32 ax) := (blk_cell Xg2 0).trans rfl; have cg2_1 : w4.cell? ⟨g2, 1, none⟩ = some (.float .f32 ay) := (blk_cell Xg2 1).trans rfl; have cg2_2 : w4.cell? ⟨g2, 2, none⟩ = some (.float .f32 aa) := (blk_cell Xg2 2).trans rfl; have fg2_0 := blk_frozen Xg2 0; have fg2_1 := blk_frozen Xg2 1; have fg2_2 := blk_frozen Xg2 2; have cg3_0 : w4.cell? ⟨g3, 0, none⟩ = some (.float .f32 bx) := (blk_cell Xg3 0).trans rfl; have cg3_1 : w4.cell? ⟨g3, 1, none⟩ = some (.float .f32 by_) := (blk_cell Xg3 1).trans rfl; have cg3_2 : w4.cell? ⟨g3, 2, none⟩ = some (.float .f32 ba) := (blk_cell Xg3 2).trans rfl; have fg3_0 := blk_frozen Xg3 0; have fg3_1 := blk_frozen Xg3 1; have fg3_2 := blk_frozen Xg3 2)
      | ((with_reducible refine gate_callee (f := 14) rfl ?_); (try (refine gate_guard (by rfl) ?_; dsimp only)); refine goesL_ _ rfl rfl Try.func14 (by kernel_rfl) rfl _ rfl (by (try simp only [List.map_toArray, List.map_cons, List.map_nil]); first | done | rfl) ?_; refine (alike_calls _ _ (by assumption) _).mono ?_; rintro e w5 ⟨rfl, hd⟩; refine ⟨_, rfl, ?_⟩; have Xg2 := dblk hd Xg2; have Xg3 := dblk hd Xg3; have hB := dbelow hd hB; have cg2_0 : w5.cell? ⟨g2, 0, none⟩ = some (.float .f32 ax) := (blk_cell Xg2 0).trans rfl; have cg2_1 : w5.cell? ⟨g2, 1, none⟩ = some (.float .f32 ay) := (blk_cell Xg2 1).trans rfl; have cg2_2 : w5.cell? ⟨g2, 2, none⟩ = some (.float .f32 aa) := (blk_cell Xg2 2).trans rfl; have fg2_0 := blk_frozen Xg2 0; have fg2_1 := blk_frozen Xg2 1; have fg2_2 := blk_frozen Xg2 2; have cg3_0 : w5.cell? ⟨g3, 0, none⟩ = some (.float .f32 bx) := (blk_cell Xg3 0).trans rfl; have cg3_1 : w5.cell? ⟨g3, 1, none⟩ = some (.float .f32 by_) := (blk_cell Xg3 1).trans rfl; have cg3_2 : w5.cell? ⟨g3, 2, none⟩ = some (.float .f32 ba) := (blk_cell Xg3 2).trans rfl; have fg3_0 := blk_frozen Xg3 0; have fg3_1 := blk_frozen Xg3 1; have fg3_2 := blk_frozen Xg3 2)
      | (go_at_call 14; refine (alike_calls _ _ (by assumption) _).mono ?_; rintro e w5 ⟨rfl, hd⟩; have Xg2 := dblk hd Xg2; have Xg3 := dblk hd Xg3; have hB := dbelow hd hB; have cg2_0 : w5.cell? ⟨g2, 0, none⟩ = some (.float .f32 ax) := (blk_cell Xg2 0).trans rfl; have cg2_1 : w5.cell? ⟨g2, 1, none⟩ = some (.float .f32 ay) := (blk_cell Xg2 1).trans rfl; have cg2_2 : w5.cell? ⟨g2, 2, none⟩ = some (.float .f32 aa) := (blk_cell Xg2 2).trans rfl; have fg2_0 := blk_frozen Xg2 0; have fg2_1 := blk_frozen Xg2 1; have fg2_2 := blk_frozen Xg2 2; have cg3_0 : w5.cell? ⟨g3, 0, none⟩ = some (.float .f32 bx) := (blk_cell Xg3 0).trans rfl; have cg3_1 : w5.cell? ⟨g3, 1, none⟩ = some (.float .f32 by_) := (blk_cell Xg3 1).trans rfl; have cg3_2 : w5.cell? ⟨g3, 2, none⟩ = some (.float .f32 ba) := (blk_cell Xg3 2).trans rfl; have fg3_0 := blk_frozen Xg3 0; have fg3_1 := blk_frozen Xg3 1; have fg3_2 := blk_frozen Xg3 2))
  go_ret
  exact ⟨rfl, hB⟩
end Go.Proofs.Ytjffkidfoapbjaa.Fl
