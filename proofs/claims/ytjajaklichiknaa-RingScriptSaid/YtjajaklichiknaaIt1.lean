/- Proved: All tells what there is as it is called, whatever the rounds do. -/
import Derived.Test.YtjajaklichiknaaIt0
namespace Go.Proofs.Ytjajaklichiknaa.Rg
open Go.RowKit Go.Proofs.YtjajaklichiknaaW.PrintWords Go.Proofs.YtjajaklichiknaaW.PrintLast Go.Proofs.YtjajaklichiknaaW.PrintMore
set_option linter.unusedVariables false
set_option linter.unusedSimpArgs false

open Go.Shelf
attribute [local go_sem] Oper.semAt_some
/-- What comes: each thing with its number. -/
def en (q : List Int) : List (Int × Int) := (List.range q.length).map (fun (j : Nat) => ((j : Int), q.getD j 0))
theorem en_len (q : List Int) : (en q).length = q.length := by simp [en]
theorem en_at {q : List Int} {k : Nat} (h : k < q.length) : (en q)[k]? = some ((k : Int), q.getD k 0) := by simp [en, h]
theorem en_take {q : List Int} {k : Nat} (h : k < q.length) : (en q).take (k + 1) = (en q).take k ++ [((k : Int), q.getD k 0)] := by
  rw [List.take_add_one, en_at h]
  rfl
theorem en_take_all (q : List Int) : (en q).take q.length = en q := by rw [← en_len q, List.take_length]
set_option maxHeartbeats 4000000 in
set_option maxRecDepth 100000 in
theorem all_calls (p : Option Addr) (w : World) : Calls Try.prog 22 #[.pointer p] w fun e w' => e = .returned (.func (.func 29) #[] #[.pointer (some ⟨w.heap.size, 0, none⟩)]) ∧ w' = w.alloc (.cells #[.pointer p] 24) := by
  have hmf : ∀ (fn : Fn) (first cap : Array Value) (w : World), (Instr.makeFunc fn first cap).run Try.prog w = .ok (.func fn first cap) w := fun _ _ _ _ => rfl
  go_enter Try.func22, Try.ntmps22
  go_wp2_with fail
  go_ret
  exact ⟨rfl, rfl⟩
set_option maxHeartbeats 4000000 in
set_option maxRecDepth 100000 in
theorem all1_in (m l Bn B : Nat) {g gt n : Nat} {q : List Int} (J Jx : List (Int × Int) → World → Prop) (W : World)
    (hY : ∀ pre (x : Int × Int) W1, J pre W1 → pre.length < q.length → YieldAt Fence.wide (m - 1) Try.prog l #[.int .i64 x.1, .int .i64 x.2] W1 fun e W' => (e = .returned (.bool true) ∧ J (pre ++ [x]) W' ∧ KpC B W1 W') ∨ (e = .returned (.bool false) ∧ Jx (pre ++ [x]) W'))
    (hBn : W.heap[Bn]? = some (.cells #[.pointer (some ⟨g, 0, none⟩)] 24 (0, 0))) (hQ : RQ W g gt n q) (hJ : AbidesFrom W.heap.size J) (hB0 : B ≤ W.heap.size) (h0 : J [] W) :
    CallsIn Fence.wide m Try.prog 29 #[.func (.yield l) #[] #[], .pointer (some ⟨Bn, 0, none⟩)] W fun e W' => (∃ v, e = .returned v) ∧ ((∃ ys, ys = en q ∧ J ys W') ∨ (∃ pre, pre <+: en q ∧ Jx pre W')) := by
  have hu22 := Try.underlying22
  have hu65 := Try.underlying65
  have hu24 := Try.underlying24
  have hu3 := Try.underlying3
  have hql : q.length ≤ 4096 := Nat.le_trans hQ.len hQ.size.2
  have HY := Aside0.mk hY
  have HJ := Aside0.mk hJ
  have H0 := Aside0.mk h0
  have hQ0 := hQ
  obtain ⟨xs, f, hC, hq⟩ := hQ0
  have HC := Aside0.mk hC
  have HQ := Aside0.mk hq
  have HB0 := Aside0.mk hB0
  have cb0 := blk_cell hBn 0
  have fb0 := blk_frozen hBn 0
  simp only [List.getElem?_toArray, List.getElem?_cons_zero, List.getElem?_cons_succ] at cb0
  have c2 := hC.c2
  have HBN := Aside0.mk hBn
  clear hY hJ h0 hC hq hB0 hQ hBn
  refine callsIn_of_wp Try.func29 rfl trivial ?_ rfl
  simp only [Try.ntmps29, List.size_toArray, List.length_cons, List.length_nil, Nat.reduceAdd, Nat.reduceSub, Array.replicate_succ, Array.replicate_zero, List.push_toArray, List.append_toArray, List.nil_append, List.cons_append]
  refine wpIn_wide.2 ?_
  go_wp2_with fail
  clear c2 cb0 fb0
  go_loopw [3, 11] (fun v i wr => ∃ (k : Nat) (Ao : Option Addr) (co : Nat), k ≤ q.length ∧ i = .int .i64 k ∧ v = .slice Ao k co ∧ Aside0 (wr.ownsRow W.heap.size 3 1 (.slice Ao k co) k (encs ei (q.take k))) ∧ Aside0 (Below W.heap.size W wr)) (fun _ i _ => q.length - (intOf i).toNat)
  case atStart => exact ⟨0, none, 0, Nat.zero_le _, rfl, rfl, ⟨own_nil _ _ _ _⟩, ⟨Below.refl _ _⟩⟩
  case round =>
    obtain ⟨k, Ao, co, hk, rfl, rfl, HO, HB⟩ := hrel
    have hk0 : (0 : Int) ≤ k := Int.natCast_nonneg k
    by_cases hlt : k < q.length
    · have hk2 : (k : Int) < (q.length : Int) := Int.ofNat_lt.mpr hlt
      have hR := HC.out.below HB.out
      have hkn : k ≤ n := Nat.le_of_lt (Nat.lt_of_lt_of_le hlt HC.out.hm)
      obtain ⟨j, ej⟩ : ∃ j, (f + k) % n = j := ⟨_, rfl⟩
      have hj : j < n := ej ▸ Nat.mod_lt _ HC.out.n0
      have hjI : (j : Int) < (n : Int) := Int.ofNat_lt.mpr hj
      have hj0 : (0 : Int) ≤ j := Int.natCast_nonneg j
      have ey := HQ.out k hlt
      rw [ej] at ey
      obtain ⟨y, hy⟩ : ∃ y, q.getD k 0 = y := ⟨_, rfl⟩
      rw [hy] at ey
      have cy0 := hR.at_ j hj
      rw [ey] at cy0
      have hbn := (HB.out.block _ (blk_lt HBN.out)).trans HBN.out
      have cb0 := blk_cell hbn 0
      have fb0 := blk_frozen hbn 0
      simp only [List.getElem?_toArray, List.getElem?_cons_zero, List.getElem?_cons_succ] at cb0
      have hown := HO.out
      have hB := HB.out
      have hts := take_snoc q k hlt
      rw [hy] at hts
      have HTS := Aside0.mk hts
      clear hts ey hy hbn HO HB
      go_wp2_with fail
      refine start_ (n := 13) (S := fun w' => w'.cell? ⟨Bn, 0, none⟩ = some (.pointer (some ⟨g, 0, none⟩)) ∧ w'.cell? ⟨g, 0, none⟩ = some (.slice (some ⟨gt, 0, none⟩) n n) ∧ w'.cell? ⟨gt, j, none⟩ = some (.int .i64 y)) (ds := [10, 11]) #[false, false, false, false, false, false, false, false, false, false, false, false, false] (by kernel_rfl) rfl rfl ⟨cb0, hR.c0, cy0⟩ (fun hHeld => ?_)
      refine pure_ (i := 0) (N := some 14) (v := ?_) (a' := ?_) #[true, false, false, false, false, false, false, false, false, false, false, false, false] rfl rfl (by kernel_rfl) (fun _ _ _ h => h) (Or.inl ⟨by rfl, ?_⟩) ?_ ?_
      rotate_left
      · intro w'
        go_simp
        with_reducible rfl
      rotate_left
      · simp only [Act.put, List.setIfInBounds_toArray, List.set_cons_zero, List.set_cons_succ, i64_w, i32_w]
        rfl
      refine pure_ (i := 6) (N := some 20) (v := ?_) (a' := ?_) #[true, false, false, false, false, false, true, false, false, false, false, false, false] rfl rfl (by kernel_rfl) (fun _ _ _ h => h) (Or.inl ⟨by rfl, ?_⟩) ?_ ?_
      rotate_left
      · intro w'
        go_simp
        with_reducible rfl
      rotate_left
      · simp only [Act.put, List.setIfInBounds_toArray, List.set_cons_zero, List.set_cons_succ, i64_w, i32_w]
        rfl
      refine take_ (i := 1) (N := some 15) (v := ?_) (a' := ?_) #[true, true, false, false, false, false, true, false, false, false, false, false, false] rfl rfl (by kernel_rfl) (fun _ _ _ h => h) (Or.inl ⟨by rfl, ?_⟩) hHeld ?_ ?_
      rotate_left
      · rintro w' ⟨s0, s1, s2⟩
        go_simp
        with_reducible rfl
      rotate_left
      · simp only [Act.put, List.setIfInBounds_toArray, List.set_cons_zero, List.set_cons_succ, i64_w, i32_w]
        rfl
      refine pure_ (i := 2) (N := some 16) (v := ?_) (a' := ?_) #[true, true, true, false, false, false, true, false, false, false, false, false, false] rfl rfl (by kernel_rfl) (fun _ _ _ h => h) (Or.inl ⟨by rfl, ?_⟩) ?_ ?_
      rotate_left
      · intro w'
        go_simp
        with_reducible rfl
      rotate_left
      · simp only [Act.put, List.setIfInBounds_toArray, List.set_cons_zero, List.set_cons_succ, i64_w, i32_w]
        rfl
      refine pure_ (i := 3) (N := some 17) (v := ?_) (a' := ?_) #[true, true, true, true, false, false, true, false, false, false, false, false, false] rfl rfl (by kernel_rfl) (fun _ _ _ h => h) (Or.inl ⟨by rfl, ?_⟩) ?_ ?_
      rotate_left
      · intro w'
        go_simp
        with_reducible rfl
      rotate_left
      · simp only [Act.put, List.setIfInBounds_toArray, List.set_cons_zero, List.set_cons_succ, i64_w, i32_w]
        rfl
      refine take_ (i := 4) (N := some 18) (v := ?_) (a' := ?_) #[true, true, true, true, true, false, true, false, false, false, false, false, false] rfl rfl (by kernel_rfl) (fun _ _ _ h => h) (Or.inl ⟨by rfl, ?_⟩) hHeld ?_ ?_
      rotate_left
      · rintro w' ⟨s0, s1, s2⟩
        go_simp
        with_reducible rfl
      rotate_left
      · simp only [Act.put, List.setIfInBounds_toArray, List.set_cons_zero, List.set_cons_succ, i64_w, i32_w]
        rfl
      refine take_ (i := 5) (N := some 19) (v := ?_) (a' := ?_) #[true, true, true, true, true, true, true, false, false, false, false, false, false] rfl rfl (by kernel_rfl) (fun _ _ _ h => h) (Or.inl ⟨by rfl, ?_⟩) hHeld ?_ ?_
      rotate_left
      · rintro w' ⟨s0, s1, s2⟩
        go_simp
        with_reducible rfl
      rotate_left
      · simp only [Act.put, List.setIfInBounds_toArray, List.set_cons_zero, List.set_cons_succ, i64_w, i32_w]
        rfl
      refine one_ (i := 7) (N := some 21) #[true, true, true, true, true, true, true, true, false, false, false, false, false] rfl rfl (by kernel_rfl) (by decide) (fun K hK => ?_)
      refine goes_ Try.func26 (by kernel_rfl) rfl _ (by rfl) rfl rfl (by simp only [List.map_toArray, List.map_cons, List.map_nil]; rfl) ?_
      refine (place_at _ hR.drew k j hkn ej).mono ?_
      rintro e u1 ⟨rfl, hd1⟩
      refine ⟨_, rfl, ?_⟩
      have hown1 : u1.ownsRow W.heap.size 3 1 (.slice Ao k co) k (encs ei (q.take k)) := (Only.of_below (below_step (below_drew1 (Below.refl wr.heap.size wr)) hd1.below) (fun _ => False)).own hown (fun _ _ h => h)
      have hB1 := below_step (below_drew1 hB) hd1.below
      refine hK.out _ _ ⟨dcell hd1 (hHeld.1), dcell hd1 (hHeld.2.1), dcell hd1 (hHeld.2.2)⟩ (fun hHeld => ?_)
      clear hK K
      refine norm_ (a' := ?_) ?_ ?_
      rotate_left
      · show Act.put _ (some 21) _ = _
        simp only [Act.put, List.setIfInBounds_toArray, List.set_cons_zero, List.set_cons_succ, i64_w, i32_w]
        rfl
      refine pure_ (i := 8) (N := some 22) (v := ?_) (a' := ?_) #[true, true, true, true, true, true, true, true, true, false, false, false, false] rfl rfl (by kernel_rfl) (fun _ _ _ h => h) (Or.inl ⟨by rfl, ?_⟩) ?_ ?_
      rotate_left
      · intro w'
        go_simp
        with_reducible rfl
      rotate_left
      · simp only [Act.put, List.setIfInBounds_toArray, List.set_cons_zero, List.set_cons_succ, i64_w, i32_w]
        rfl
      refine take_ (i := 9) (N := some 23) (v := ?_) (a' := ?_) #[true, true, true, true, true, true, true, true, true, true, false, false, false] rfl rfl (by kernel_rfl) (fun _ _ _ h => h) (Or.inl ⟨by rfl, ?_⟩) hHeld ?_ ?_
      rotate_left
      · rintro w' ⟨s0, s1, s2⟩
        go_simp
        with_reducible rfl
      rotate_left
      · simp only [Act.put, List.setIfInBounds_toArray, List.set_cons_zero, List.set_cons_succ, i64_w, i32_w]
        rfl
      refine last_ (i := 10) (N := some 24) #[true, true, true, true, true, true, true, true, true, true, true, false, false] rfl rfl (by kernel_rfl) (by decide) (fun K hK => ?_)
      refine value_ (w1 := ?_) (v := ?_) (by rfl) rfl ?_ ?_
      rotate_left 2
      · go_simp
        constructor
        · rfl
        · rfl
      refine hK.out _ _ ?_
      clear hK K
      refine norm_ (a' := ?_) ?_ ?_
      rotate_left
      · show Act.put _ (some 24) _ = _
        simp only [Act.put, List.setIfInBounds_toArray, List.set_cons_zero, List.set_cons_succ, i64_w, i32_w]
        rfl
      refine last_ (i := 11) (N := some 25) #[true, true, true, true, true, true, true, true, true, true, true, true, false] rfl rfl (by kernel_rfl) (by decide) (fun K hK => ?_)
      refine step_append_cells (w0 := W) W.heap.size rfl (.tmp 14) (.tmp 24) 22 3 (.int .i64 0) 1 8 rfl Try.underlying22 (by kernel_rfl) rfl (by decide) (by decide) _ k (encs ei (q.take k)) [ei y] rfl rfl rfl (fun u hu => by rw [List.mem_singleton.1 hu]; rfl) hown1 hB1 hB1.size (by omega) ?_
      intro v5 w5 hown5 hB5 hg5 hat5
      refine hK.out _ _ ?_
      clear hK K
      refine norm_ (a' := ?_) ?_ ?_
      rotate_left
      · show Act.put _ (some 25) _ = _
        simp only [Act.put, List.setIfInBounds_toArray, List.set_cons_zero, List.set_cons_succ, i64_w, i32_w]
        rfl
      refine pure_ (i := 12) (N := some 3) (v := ?_) (a' := ?_) #[true, true, true, true, true, true, true, true, true, true, true, true, true] rfl rfl (by kernel_rfl) (fun _ _ _ h => h) (Or.inl ⟨by rfl, ?_⟩) ?_ ?_
      rotate_left
      · intro w'
        go_simp
        with_reducible rfl
      rotate_left
      · simp only [Act.put, List.setIfInBounds_toArray, List.set_cons_zero, List.set_cons_succ, i64_w, i32_w]
        rfl
      refine done_ (by kernel_rfl) ?_
      have ho5 : w5.ownsRow W.heap.size 3 1 v5 (k + 1) (encs ei (q.take (k + 1))) := by
        rw [← HTS.out]
        simpa [encs] using hown5
      obtain ⟨A5, c5, rfl⟩ := own_slice ho5
      have HO5 := Aside0.mk ho5
      have HB5 := Aside0.mk hB5
      clear hown5 ho5 hB5 hg5 hat5 hown1 hB1 hd1 hR hB hown cb0 fb0 cy0 hj hjI hj0 hkn
      go_wp2_with fail
      go_roundw
      case rel => exact ⟨k + 1, A5, c5, hlt, by go_num, rfl, HO5, HB5⟩
      case measure => simp [intOf]; omega
    · obtain rfl : k = q.length := by omega
      have HO1 : Aside0 (wr.ownsRow W.heap.size 3 1 (.slice Ao q.length co) q.length (encs ei q)) := ⟨by simpa using HO.out⟩
      have HJ1 : Aside0 (J [] wr) := ⟨HJ.out [] W wr none H0.out ⟨HB.out.os, HB.out.tape, HB.out.output, HB.out.size, fun i hi _ => HB.out.block i hi⟩ (fun r e => by cases e)⟩
      have HRD : Aside0 (∀ W2 : World, KpC B wr W2 → W2.ownsRow W.heap.size 3 1 (.slice Ao q.length co) q.length (encs ei q)) := ⟨fun W2 hk => by
        obtain ⟨h1, h2⟩ := HO1.out
        refine ⟨h1, h2.imp id fun ⟨g', cap', cur', he, hb, hr, hrest⟩ => ⟨g', cap', cur', he, hb, hk.cells g' _ (Nat.le_trans HB0.out hb) hr rfl, hrest⟩⟩⟩
      clear HO HB HO1 HC HQ HBN H0 HJ
      go_wp2_with fail
      refine (wpIn_wide (n := m)).1 ?_
      gi_loopw [29] (fun i w2 => ∃ k : Nat, k ≤ q.length ∧ i = .int .i64 k ∧ Aside0 (J ((en q).take k) w2) ∧ Aside0 (KpC B wr w2)) (fun i _ => q.length - (intOf i).toNat)
      case atStart => exact ⟨0, Nat.zero_le _, rfl, HJ1, ⟨⟨Nat.le_refl _, fun _ _ _ h _ => h⟩⟩⟩
      case round =>
        clear HJ1
        obtain ⟨k, hk, rfl, HJk, HKk⟩ := hrel
        have hk0 : (0 : Int) ≤ k := Int.natCast_nonneg k
        by_cases hlt : k < q.length
        · have hk2 : (k : Int) < (q.length : Int) := Int.ofNat_lt.mpr hlt
          obtain ⟨ad, eA, hcell⟩ := (own_reads_of' (d := (0 : Int)) (HRD.out _ HKk.out)).2.2 (Nat.lt_of_le_of_lt (Nat.zero_le _) hlt)
          have hx := hcell k hlt
          obtain ⟨y, hy0⟩ : ∃ y, q.getD k 0 = y := ⟨_, rfl⟩
          have hpre := en_take hlt
          rw [hy0] at hx hpre
          subst eA
          have HPRE := Aside0.mk hpre
          have hlk : ((en q).take k).length < q.length := by rw [List.length_take, en_len]; omega
          obtain ⟨fn, tmps, assign, body, hy, hR⟩ := HY.out ((en q).take k) ((k : Int), y) _ HJk.out hlk
          dsimp only at hy
          clear hcell hpre hlk hy0
          gi_wp2_with fail
          refine ⟨fun hq => by simp [Fence.wide] at hq, hR.mono ?_⟩
          rintro e W3 (⟨rfl, hJ3, hk3⟩ | ⟨rfl, hJx3⟩)
          · have HJ3 := Aside0.mk hJ3
            have HK3 := Aside0.mk (HKk.out.t hk3)
            clear hJ3 hk3 hy hR hx
            gi_wp2_with fail
            go_roundw
            case rel => exact ⟨k + 1, hlt, by go_num, ⟨by rw [HPRE.out]; exact HJ3.out⟩, HK3⟩
            case measure => simp [intOf]; omega
          · have HJ3 := Aside0.mk hJx3
            clear hJx3 hy hR hx
            gi_wp2_with fail
            refine bodyPost_ret (results_none rfl _ _ _) rfl ?_
            exact ⟨⟨_, rfl⟩, .inr ⟨_, ⟨(en q).drop (k + 1), by rw [← HPRE.out]; exact List.take_append_drop _ _⟩, HJ3.out⟩⟩
        · obtain rfl : k = q.length := by omega
          gi_wp2_with fail
          go_end0
          exact ⟨⟨_, rfl⟩, .inl ⟨_, en_take_all q, HJk.out⟩⟩

/-- The function that All hands out: all that there was as it is called; or a part, where a round says no more. -/
theorem all_stops (m Bn B : Nat) {g gt n : Nat} {q : List Int} (w : World) (hBn : w.heap[Bn]? = some (.cells #[.pointer (some ⟨g, 0, none⟩)] 24 (0, 0))) (hQ : RQ w g gt n q) (hB : B ≤ w.heap.size) :
    SeqStopsK Fence.wide m Try.prog 29 #[.pointer (some ⟨Bn, 0, none⟩)] (fun x : Int × Int => #[Value.int .i64 x.1, Value.int .i64 x.2]) (KpC B) (fun ys => ys = en q) (fun pre => pre <+: en q) q.length w := fun l J Jx W hW hJ _ hY h0 =>
  all1_in m l Bn B J Jx W hY ((hW.block _ (blk_lt hBn)).trans hBn) (hQ.below hW) hJ (Nat.le_trans hB hW.size) h0
end Go.Proofs.Ytjajaklichiknaa.Rg
