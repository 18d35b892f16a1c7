/- Proved: the walks of Float, Of and Mean. -/
import Derived.Test.YtjffkidfoapbjaaFl
import Derived.BigFrame
namespace Go.Proofs.Ytjffkidfoapbjaa.Fl
open Go.RowKit Go.Proofs.YtjffkidfoapbjaaW.PrintWords Go.Proofs.YtjffkidfoapbjaaW.PrintLast Go.Proofs.YtjffkidfoapbjaaW.PrintMore
set_option linter.unusedVariables false
set_option linter.unusedSimpArgs false
attribute [local go_sem] run_store_float

def fixF (n : Int) : Nat := fop .quo (floatOfInt .f32 n) 1199570944
set_option maxRecDepth 100000 in
theorem float_calls (n : Int) (w : World) : Calls Try.prog 34 #[.int .i64 n] w fun e w' => ∃ r, Fe r (fixF n) ∧ e = .returned (.float .f32 r) ∧ Drawn0 w w' := by
  have hu2 := Try.underlying2
  have hu22 := Try.underlying22
  go_enter Try.func34, Try.ntmps34
  go_wp2_with (first
      | ((try (refine gate_guard (by rfl) ?_; dsimp only)); refine wpList_fl _ rfl _ _ _ _ _ rfl (by decide) _ _ _ _ rfl rfl (by first | assumption | exact Fe.refl _) (by first | assumption | exact Fe.refl _) ?_; intro z nd hz)
      | ((try (refine gate_guard (by rfl) ?_; dsimp only)); refine wpList_flc _ rfl _ _ _ _ _ rfl (by decide) _ _ _ _ rfl rfl (by first | assumption | exact Fe.refl _) (by first | assumption | exact Fe.refl _) ?_))
  go_ret
  exact ⟨_, by assumption, rfl, ⟨⟨_, rfl⟩⟩⟩

theorem i64_and255 (n : Int) : Go.bits .and .i64 n 255 = n % 256 := by
  have h255 : (BitVec.ofInt 64 255).toNat = 2 ^ 8 - 1 := by decide
  have key : (BitVec.ofInt 64 n &&& BitVec.ofInt 64 255).toNat = (n % ((2 ^ 64 : Nat) : Int)).toNat % 2 ^ 8 := by
    rw [BitVec.toNat_and, BitVec.toNat_ofInt, h255, Nat.and_two_pow_sub_one_eq_mod]
  show IntKind.i64.wrap ((BitVec.ofInt 64 n &&& BitVec.ofInt 64 255).toNat : Nat) = n % 256
  rw [key, IntKind.wrap_i64]
  omega
theorem and_255 (n : Int) : 0 ≤ Go.bits .and .i64 n 255 ∧ Go.bits .and .i64 n 255 ≤ 255 := by
  rw [i64_and255]
  omega

/-- Degrees of a heading. -/
def angF (h : Int) : Nat := fop .mul (floatOfInt .f32 h) 1068761088
theorem ang_all : (List.range 256).all (fun n => (floatBits .mul .f32 (floatOfInt .f32 (n : Int)) 1068761088).isSome) = true := by kernel_rfl
theorem ang_run {P : Program} (t : TypeId) (h : Int) (h0 : 0 ≤ h) (h1 : h ≤ 255) (w : World) : (binOp .mul t (.float .f32 (floatOfInt .f32 h)) (.float .f32 1068761088)).run P w = .ok (.float .f32 (angF h)) w := by
  obtain ⟨n, rfl⟩ := Int.eq_ofNat_of_zero_le h0
  have h2 := List.all_eq_true.1 ang_all n (by simp; omega)
  obtain ⟨r, hr⟩ := Option.isSome_iff_exists.1 h2
  rw [run_float_arith w .mul t .f32 _ _ r hr]
  simp [angF, fop, hr]

set_option maxHeartbeats 4000000 in
set_option maxRecDepth 100000 in
theorem of_calls (x y h : Int) (w : World) : Calls Try.prog 20 #[.agg #[.int .i64 x, .int .i64 y], .int .i64 h] w fun e w' => ∃ p q, Fe p (fixF x) ∧ Fe q (fixF y) ∧ e = .returned (.agg #[.float .f32 p, .float .f32 q, .float .f32 (angF (Go.bits .and .i64 h 255))]) ∧ Below w.heap.size w w' := by
  have hu38 := Try.underlying38
  have hu24 := Try.underlying24
  have hu22 := Try.underlying22
  have hu3 := Try.underlying3
  have hu2 := Try.underlying2
  have hbits : 0 ≤ Go.bits .and .i64 h 255 ∧ Go.bits .and .i64 h 255 ≤ 255 := and_255 h
  have hmul := fun w => ang_run (P := Try.prog) 22 (Go.bits .and .i64 h 255) hbits.1 hbits.2 w
  go_enter Try.func20, Try.ntmps20
  go_wp2_with (first
      | ((with_reducible refine gate_dst (N := 2) rfl ?_); refine box_event ?hg (N := 2) ?hd (cs := #[.int .i64 x, .int .i64 y]) (t := 38) ?hr ?_; (case hd => rfl); (case hg => rfl); (case hr => first | (go_simp; done) | (go_simp; rfl)); intro g2 eg2 w3 Xg2 Bg2; clear eg2)
      | ((with_reducible refine gate_dst (N := 4) rfl ?_); refine box_event ?hg (N := 4) ?hd (cs := #[.float .f32 0, .float .f32 0, .float .f32 0]) (t := 24) ?hr ?_; (case hd => rfl); (case hg => rfl); (case hr => first | (go_simp; done) | (go_simp; rfl)); intro g4 eg4 w6 Xg4 Bg4; have Xg2 := blk_below Xg2 Bg4; have hg4 : w.heap.size ≤ g4 := (by rw [eg4]; exact Bg2.size); have hB := below_step Bg2 Bg4; clear eg4; have cg2_0 : w6.cell? ⟨g2, 0, none⟩ = some (.int .i64 x) := (blk_cell Xg2 0).trans rfl; have cg2_1 : w6.cell? ⟨g2, 1, none⟩ = some (.int .i64 y) := (blk_cell Xg2 1).trans rfl; have fg2_0 := blk_frozen Xg2 0; have fg2_1 := blk_frozen Xg2 1; have cg4_0 : w6.cell? ⟨g4, 0, none⟩ = some (.float .f32 0) := (blk_cell Xg4 0).trans rfl; have cg4_1 : w6.cell? ⟨g4, 1, none⟩ = some (.float .f32 0) := (blk_cell Xg4 1).trans rfl; have cg4_2 : w6.cell? ⟨g4, 2, none⟩ = some (.float .f32 0) := (blk_cell Xg4 2).trans rfl; have fg4_0 := blk_frozen Xg4 0; have fg4_1 := blk_frozen Xg4 1; have fg4_2 := blk_frozen Xg4 2))
  refine start_ (n := 12) (S := fun w' => w'.cell? ⟨g2, 0, none⟩ = some (.int .i64 x) ∧ w'.cell? ⟨g2, 1, none⟩ = some (.int .i64 y)) (ds := [11]) #[false, false, false, false, false, false, false, false, false, false, false, false] (by kernel_rfl) rfl rfl ⟨cg2_0, cg2_1⟩ (fun hHeld => ?_)
  refine pure_ (i := 0) (N := some 5) (v := ?_) (a' := ?_) #[true, false, false, false, false, false, false, false, false, false, false, false] rfl rfl (by kernel_rfl) (fun _ _ _ h => h) (Or.inl ⟨by rfl, ?_⟩) ?_ ?_
  rotate_left
  · intro w'
    go_simp
    with_reducible rfl
  rotate_left
  · simp only [Act.put, List.setIfInBounds_toArray, List.set_cons_zero, List.set_cons_succ, i64_w, i32_w]
    rfl
  refine pure_ (i := 3) (N := some 8) (v := ?_) (a' := ?_) #[true, false, false, true, false, false, false, false, false, false, false, false] rfl rfl (by kernel_rfl) (fun _ _ _ h => h) (Or.inl ⟨by rfl, ?_⟩) ?_ ?_
  rotate_left
  · intro w'
    go_simp
    with_reducible rfl
  rotate_left
  · simp only [Act.put, List.setIfInBounds_toArray, List.set_cons_zero, List.set_cons_succ, i64_w, i32_w]
    rfl
  refine pure_ (i := 6) (N := some 11) (v := ?_) (a' := ?_) #[true, false, false, true, false, false, true, false, false, false, false, false] rfl rfl (by kernel_rfl) (fun _ _ _ h => h) (Or.inl ⟨by rfl, ?_⟩) ?_ ?_
  rotate_left
  · intro w'
    go_simp
    with_reducible rfl
  rotate_left
  · simp only [Act.put, List.setIfInBounds_toArray, List.set_cons_zero, List.set_cons_succ, i64_w, i32_w]
    rfl
  refine pure_ (i := 7) (N := some 12) (v := ?_) (a' := ?_) #[true, false, false, true, false, false, true, true, false, false, false, false] rfl rfl (by kernel_rfl) (fun _ _ _ h => h) (Or.inl ⟨by rfl, ?_⟩) ?_ ?_
  rotate_left
  · intro w'
    go_simp
    with_reducible rfl
  rotate_left
  · simp only [Act.put, List.setIfInBounds_toArray, List.set_cons_zero, List.set_cons_succ, i64_w, i32_w]
    rfl
  refine pure_ (i := 8) (N := some 13) (v := ?_) (a' := ?_) #[true, false, false, true, false, false, true, true, true, false, false, false] rfl rfl (by kernel_rfl) (fun _ _ _ h => h) (Or.inl ⟨by rfl, ?_⟩) ?_ ?_
  rotate_left
  · intro w'
    go_simp
    with_reducible rfl
  rotate_left
  · simp only [Act.put, List.setIfInBounds_toArray, List.set_cons_zero, List.set_cons_succ, i64_w, i32_w]
    rfl
  refine pure_ (i := 9) (N := some 14) (v := ?_) (a' := ?_) #[true, false, false, true, false, false, true, true, true, true, false, false] rfl rfl (by kernel_rfl) (fun _ _ _ h => h) (Or.inl ⟨by rfl, ?_⟩) ?_ ?_
  rotate_left
  · intro w'
    go_simp
    with_reducible rfl
  rotate_left
  · simp only [Act.put, List.setIfInBounds_toArray, List.set_cons_zero, List.set_cons_succ, i64_w, i32_w]
    rfl
  refine take_ (i := 1) (N := some 6) (v := ?_) (a' := ?_) #[true, true, false, true, false, false, true, true, true, true, false, false] rfl rfl (by kernel_rfl) (fun _ _ _ h => h) (Or.inl ⟨by rfl, ?_⟩) hHeld ?_ ?_
  rotate_left
  · rintro w' ⟨s0, s1⟩
    go_simp
    with_reducible rfl
  rotate_left
  · simp only [Act.put, List.setIfInBounds_toArray, List.set_cons_zero, List.set_cons_succ, i64_w, i32_w]
    rfl
  refine take_ (i := 4) (N := some 9) (v := ?_) (a' := ?_) #[true, true, false, true, true, false, true, true, true, true, false, false] rfl rfl (by kernel_rfl) (fun _ _ _ h => h) (Or.inl ⟨by rfl, ?_⟩) hHeld ?_ ?_
  rotate_left
  · rintro w' ⟨s0, s1⟩
    go_simp
    with_reducible rfl
  rotate_left
  · simp only [Act.put, List.setIfInBounds_toArray, List.set_cons_zero, List.set_cons_succ, i64_w, i32_w]
    rfl
  refine one_ (i := 2) (N := some 7) #[true, true, true, true, true, false, true, true, true, true, false, false] rfl rfl (by kernel_rfl) (by decide) (fun K hK => ?_)
  refine goes_ Try.func34 (by kernel_rfl) rfl #[.int .i64 x] (by rfl) rfl rfl (by simp only [List.map_toArray, List.map_cons, List.map_nil]; rfl) ?_
  refine (float_calls x _).mono ?_
  rintro e w8 ⟨z1, hz1, rfl, hd1⟩
  refine ⟨_, rfl, ?_⟩
  have Xg4 := dblk hd1 Xg4
  have hB := dbelow hd1 (below_drew1 hB)
  refine hK.out _ _ ⟨dcell hd1 (hHeld.1), dcell hd1 (hHeld.2)⟩ (fun hHeld => ?_)
  clear hK K
  refine norm_ (a' := ?_) ?_ ?_
  rotate_left
  · show Act.put _ (some 7) _ = _
    simp only [Act.put, List.setIfInBounds_toArray, List.set_cons_zero, List.set_cons_succ, i64_w, i32_w]
    rfl
  refine one_ (i := 5) (N := some 10) #[true, true, true, true, true, true, true, true, true, true, false, false] rfl rfl (by kernel_rfl) (by decide) (fun K hK => ?_)
  refine goes_ Try.func34 (by kernel_rfl) rfl #[.int .i64 y] (by rfl) rfl rfl (by simp only [List.map_toArray, List.map_cons, List.map_nil]; rfl) ?_
  refine (float_calls y _).mono ?_
  rintro e w8 ⟨z2, hz2, rfl, hd2⟩
  refine ⟨_, rfl, ?_⟩
  have Xg4 := dblk hd2 Xg4
  have hB := dbelow hd2 hB
  refine hK.out _ _ ⟨dcell hd2 (hHeld.1), dcell hd2 (hHeld.2)⟩ (fun hHeld => ?_)
  clear hK K
  refine norm_ (a' := ?_) ?_ ?_
  rotate_left
  · show Act.put _ (some 10) _ = _
    simp only [Act.put, List.setIfInBounds_toArray, List.set_cons_zero, List.set_cons_succ, i64_w, i32_w]
    rfl
  refine pure_ (i := 10) (N := some 15) (v := ?_) (a' := ?_) #[true, true, true, true, true, true, true, true, true, true, true, false] rfl rfl (by kernel_rfl) (fun _ _ _ h => h) (Or.inl ⟨by rfl, ?_⟩) ?_ ?_
  rotate_left
  · intro w'
    go_simp
    with_reducible rfl
  rotate_left
  · simp only [Act.put, List.setIfInBounds_toArray, List.set_cons_zero, List.set_cons_succ, i64_w, i32_w]
    rfl
  refine last_ (i := 11) (N := none) #[true, true, true, true, true, true, true, true, true, true, true, true] rfl rfl (by kernel_rfl) (by decide) (fun K hK => ?_)
  have cg4_0 : w8.cell? ⟨g4, 0, none⟩ = some (.float .f32 0) := (blk_cell Xg4 0).trans rfl
  have cg4_1 : w8.cell? ⟨g4, 1, none⟩ = some (.float .f32 0) := (blk_cell Xg4 1).trans rfl
  have cg4_2 : w8.cell? ⟨g4, 2, none⟩ = some (.float .f32 0) := (blk_cell Xg4 2).trans rfl
  have fg4_0 := blk_frozen Xg4 0
  have fg4_1 := blk_frozen Xg4 1
  have fg4_2 := blk_frozen Xg4 2
  refine skip_ (w1 := ?_) (by rfl) rfl ?_ ?_
  rotate_left
  · go_simp
    rfl
  refine hK.out _ _ ?_
  clear hK K
  refine done_ (by kernel_rfl) ?_

  go_wp2
  (try simp only [Exit.inBlock, Exit.then]); refine bodyPost_ret (results_cell_row rfl _ _ g4 24 #[.float .f32 z1, .float .f32 z2, .float .f32 (angF (Go.bits .and .i64 h 255))] (0, 0) _ rfl (blk_put (blk_put (blk_put Xg4 0 _ rfl) 1 _ rfl) 2 _ rfl) Try.underlying24 rfl (by kernel_rfl)) rfl ?_
  exact ⟨z1, z2, hz1, hz2, rfl, below_set (below_set (below_set hB hg4) hg4) hg4⟩

/-- A slice of words, by its cells. -/
def FlRow (w : World) (A : Option Addr) (l : List Nat) : Prop := ∀ j, j < l.length → ∃ ad, A = some ad ∧ w.cell? (ad.add j) = some (.float .f32 (l.getD j 0))
theorem FlRow.drawn {w w' : World} {A : Option Addr} {l : List Nat} (h : FlRow w A l) (d : Drawn0 w w') : FlRow w' A l := fun j hj => by
  obtain ⟨ad, e, hc⟩ := h j hj
  exact ⟨ad, e, dcell d hc⟩
def sumF (l : List Nat) : Nat := l.foldl (fop .add) 0
def meanF (l : List Nat) : Nat := if l.length = 0 then 0 else fop .quo (sumF l) (floatOfInt .f32 l.length)
theorem sumF_step (l : List Nat) (k : Nat) (h : k < l.length) : sumF (l.take (k + 1)) = fop .add (sumF (l.take k)) l[k] := by
  unfold sumF
  rw [List.take_succ_eq_append_getElem h, List.foldl_append]
  simp [h]
set_option maxHeartbeats 2000000 in
set_option maxRecDepth 100000 in
theorem mean_calls (A : Option Addr) (cap : Nat) (l : List Nat) (w : World) (hr : FlRow w A l) (hlen : l.length ≤ 9223372036854775807) : Calls Try.prog 15 #[.slice A l.length cap] w fun e w' => ∃ r, Fe r (meanF l) ∧ e = .returned (.float .f32 r) ∧ Drawn0 w w' := by
  have hu3 := Try.underlying3
  have hu22 := Try.underlying22
  by_cases h0 : l.length = 0
  · go_enter Try.func15, Try.ntmps15
    go_wp2_with fail
    go_ret
    exact ⟨0, by simp [meanF, h0, Fe.refl], rfl, Drawn0.refl w⟩
  · have hb : ((l.length : Int) == 0) = false := by
      simp only [beq_eq_false_iff_ne, ne_eq]
      omega
    go_enter Try.func15, Try.ntmps15
    go_wp2_with fail
    go_loopw [3, 5, 11] (fun s _ i wr => ∃ (k z : Nat), k ≤ l.length ∧ i = .int .i64 k ∧ s = .float .f32 z ∧ Aside0 (Fe z (sumF (l.take k))) ∧ Aside0 (Drawn0 w wr))
      (fun _ _ i _ => l.length - (intOf i).toNat)
    case atStart => exact ⟨0, 0, Nat.zero_le _, rfl, rfl, ⟨Fe.refl _⟩, ⟨Drawn0.refl w⟩⟩
    case round =>
      obtain ⟨k, z, hk, rfl, rfl, HZ, HD⟩ := hrel
      by_cases hlt : k < l.length
      · obtain ⟨ad, eA, hx⟩ := (hr.drawn HD.out) k hlt
        subst eA
        have hz0 := HZ.out
        have hk2 : (k : Int) < (l.length : Int) := Int.ofNat_lt.mpr hlt
        go_wp2_with (first
      | ((try (refine gate_guard (by rfl) ?_; dsimp only)); refine wpList_fl _ rfl _ _ _ _ _ rfl (by decide) _ _ _ _ rfl rfl (by first | assumption | exact Fe.refl _) (by first | assumption | exact Fe.refl _) ?_; intro z nd hz)
      | ((try (refine gate_guard (by rfl) ?_; dsimp only)); refine wpList_flc _ rfl _ _ _ _ _ rfl (by decide) _ _ _ _ rfl rfl (by first | assumption | exact Fe.refl _) (by first | assumption | exact Fe.refl _) ?_))
        go_roundw
        case rel => exact ⟨k + 1, _, by omega, by go_num, rfl, ⟨by rw [sumF_step l k hlt]; assumption⟩, ⟨HD.out.step _⟩⟩
        case measure => simp [intOf]; omega
      · have hke : k = l.length := by omega
        subst hke
        have hz0 := HZ.out
        rw [List.take_length] at hz0
        go_wp2_with (first
      | ((try (refine gate_guard (by rfl) ?_; dsimp only)); refine wpList_fl _ rfl _ _ _ _ _ rfl (by decide) _ _ _ _ rfl rfl (by first | assumption | exact Fe.refl _) (by first | assumption | exact Fe.refl _) ?_; intro z nd hz)
      | ((try (refine gate_guard (by rfl) ?_; dsimp only)); refine wpList_flc _ rfl _ _ _ _ _ rfl (by decide) _ _ _ _ rfl rfl (by first | assumption | exact Fe.refl _) (by first | assumption | exact Fe.refl _) ?_))
        go_ret
        exact ⟨_, by rw [meanF, if_neg h0]; assumption, rfl, HD.out.step _⟩
end Go.Proofs.Ytjffkidfoapbjaa.Fl
