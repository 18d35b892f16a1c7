/- Proved: a range over All whose body may write the document's row: the iterator's own list is kept. -/
import Derived.Test.YtjajaklichiknaaRd2
namespace Go.Proofs.Ytjajaklichiknaa.Rg
open Go.RowKit Go.Proofs.YtjajaklichiknaaW.PrintWords Go.Proofs.YtjajaklichiknaaW.PrintLast Go.Proofs.YtjajaklichiknaaW.PrintMore
set_option linter.unusedVariables false
set_option linter.unusedSimpArgs false

open Go.Shelf
attribute [local go_sem] Oper.semAt_some
set_option maxHeartbeats 4000000 in
set_option maxRecDepth 100000 in
theorem all1K (m l Bn : Nat) {g gt n : Nat} {q : List Int} (J Jx : List (Int × Int) → World → Prop) (W : World)
    (Kp : World → World → Prop) (hKr : ∀ X, Kp X X) (hKt : ∀ X Y Z, Kp X Y → Kp Y Z → Kp X Z) (hKo : ∀ X Y, Below W.heap.size W X → Kp X Y → ∀ g cur, W.heap.size ≤ g → X.heap[g]? = some (.cells cur 3 (0, 0)) → Y.heap[g]? = some (.cells cur 3 (0, 0)))
    (hY : ∀ pre (x : Int × Int) W1, J pre W1 → pre.length < q.length → YieldAt Fence.wide (m - 1) Try.prog l #[.int .i64 x.1, .int .i64 x.2] W1 fun e W' => (e = .returned (.bool true) ∧ J (pre ++ [x]) W' ∧ Kp W1 W') ∨ (e = .returned (.bool false) ∧ Jx (pre ++ [x]) W'))
    (hBn : W.heap[Bn]? = some (.cells #[.pointer (some ⟨g, 0, none⟩)] 24 (0, 0))) (hQ : RQ W g gt n q) (hJ : AbidesFrom W.heap.size J) (h0 : J [] W) :
    CallsIn Fence.wide m Try.prog 29 #[.func (.yield l) #[] #[], .pointer (some ⟨Bn, 0, none⟩)] W fun e W' => (∃ v, e = .returned v) ∧ ((∃ ys, ys = en q ∧ J ys W') ∨ (∃ pre, pre <+: en q ∧ Jx pre W')) := by
  have hu22 := Try.underlying22
  have hu65 := Try.underlying65
  have hu24 := Try.underlying24
  have hu3 := Try.underlying3
  have hql : q.length ≤ 4096 := Nat.le_trans hQ.len hQ.size.2
  have HY := Aside0.mk hY
  have HJ := Aside0.mk hJ
  have H0 := Aside0.mk h0
  have hQ0 := hQ
  obtain ⟨xs, f, hC, hq⟩ := hQ0
  have HC := Aside0.mk hC
  have HQ := Aside0.mk hq
  have HKR := Aside0.mk hKr
  have HKT := Aside0.mk hKt
  have HKO := Aside0.mk hKo
  have cb0 := blk_cell hBn 0
  have fb0 := blk_frozen hBn 0
  simp only [List.getElem?_toArray, List.getElem?_cons_zero, List.getElem?_cons_succ] at cb0
  have c2 := hC.c2
  have HBN := Aside0.mk hBn
  clear hY hJ h0 hC hq hQ hBn hKr hKt hKo
  refine callsIn_of_wp Try.func29 rfl trivial ?_ rfl
  simp only [Try.ntmps29, List.size_toArray, List.length_cons, List.length_nil, Nat.reduceAdd, Nat.reduceSub, Array.replicate_succ, Array.replicate_zero, List.push_toArray, List.append_toArray, List.nil_append, List.cons_append]
  refine wpIn_wide.2 ?_
  go_wp2_with fail
  clear c2 cb0 fb0
  go_loopw [3, 11] (fun v i wr => ∃ (k : Nat) (Ao : Option Addr) (co : Nat), k ≤ q.length ∧ i = .int .i64 k ∧ v = .slice Ao k co ∧ Aside0 (wr.ownsRow W.heap.size 3 1 (.slice Ao k co) k (encs ei (q.take k))) ∧ Aside0 (Below W.heap.size W wr)) (fun _ i _ => q.length - (intOf i).toNat)
  case atStart => exact ⟨0, none, 0, Nat.zero_le _, rfl, rfl, ⟨own_nil _ _ _ _⟩, ⟨Below.refl _ _⟩⟩
  case round =>
    obtain ⟨k, Ao, co, hk, rfl, rfl, HO, HB⟩ := hrel
    have hk0 : (0 : Int) ≤ k := Int.natCast_nonneg k
    by_cases hlt : k < q.length
    · have hk2 : (k : Int) < (q.length : Int) := Int.ofNat_lt.mpr hlt
      have hR := HC.out.below HB.out
      have hkn : k ≤ n := Nat.le_of_lt (Nat.lt_of_lt_of_le hlt HC.out.hm)
      obtain ⟨j, ej⟩ : ∃ j, (f + k) % n = j := ⟨_, rfl⟩
      have hj : j < n := ej ▸ Nat.mod_lt _ HC.out.n0
      have hjI : (j : Int) < (n : Int) := Int.ofNat_lt.mpr hj
      have hj0 : (0 : Int) ≤ j := Int.natCast_nonneg j
      have ey := HQ.out k hlt
      rw [ej] at ey
      obtain ⟨y, hy⟩ : ∃ y, q.getD k 0 = y := ⟨_, rfl⟩
      rw [hy] at ey
      have cy0 := hR.at_ j hj
      rw [ey] at cy0
      have hbn := (HB.out.block _ (blk_lt HBN.out)).trans HBN.out
      have cb0 := blk_cell hbn 0
      have fb0 := blk_frozen hbn 0
      simp only [List.getElem?_toArray, List.getElem?_cons_zero, List.getElem?_cons_succ] at cb0
      have hown := HO.out
      have hB := HB.out
      have hts := take_snoc q k hlt
      rw [hy] at hts
      have HTS := Aside0.mk hts
      clear hts ey hy hbn HO HB
      go_wp2_with fail
      refine start_ (n := 13) (S := fun w' => w'.cell? ⟨Bn, 0, none⟩ = some (.pointer (some ⟨g, 0, none⟩)) ∧ w'.cell? ⟨g, 0, none⟩ = some (.slice (some ⟨gt, 0, none⟩) n n) ∧ w'.cell? ⟨gt, j, none⟩ = some (.int .i64 y)) (ds := [10, 11]) #[false, false, false, false, false, false, false, false, false, false, false, false, false] (by kernel_rfl) rfl rfl ⟨cb0, hR.c0, cy0⟩ (fun hHeld => ?_)
      refine pure_ (i := 0) (N := some 14) (v := ?_) (a' := ?_) #[true, false, false, false, false, false, false, false, false, false, false, false, false] rfl rfl (by kernel_rfl) (fun _ _ _ h => h) (Or.inl ⟨by rfl, ?_⟩) ?_ ?_
      rotate_left
      · intro w'
        go_simp
        with_reducible rfl
      rotate_left
      · simp only [Act.put, List.setIfInBounds_toArray, List.set_cons_zero, List.set_cons_succ, i64_w, i32_w]
        rfl
      refine pure_ (i := 6) (N := some 20) (v := ?_) (a' := ?_) #[true, false, false, false, false, false, true, false, false, false, false, false, false] rfl rfl (by kernel_rfl) (fun _ _ _ h => h) (Or.inl ⟨by rfl, ?_⟩) ?_ ?_
      rotate_left
      · intro w'
        go_simp
        with_reducible rfl
      rotate_left
      · simp only [Act.put, List.setIfInBounds_toArray, List.set_cons_zero, List.set_cons_succ, i64_w, i32_w]
        rfl
      refine take_ (i := 1) (N := some 15) (v := ?_) (a' := ?_) #[true, true, false, false, false, false, true, false, false, false, false, false, false] rfl rfl (by kernel_rfl) (fun _ _ _ h => h) (Or.inl ⟨by rfl, ?_⟩) hHeld ?_ ?_
      rotate_left
      · rintro w' ⟨s0, s1, s2⟩
        go_simp
        with_reducible rfl
      rotate_left
      · simp only [Act.put, List.setIfInBounds_toArray, List.set_cons_zero, List.set_cons_succ, i64_w, i32_w]
        rfl
      refine pure_ (i := 2) (N := some 16) (v := ?_) (a' := ?_) #[true, true, true, false, false, false, true, false, false, false, false, false, false] rfl rfl (by kernel_rfl) (fun _ _ _ h => h) (Or.inl ⟨by rfl, ?_⟩) ?_ ?_
      rotate_left
      · intro w'
        go_simp
        with_reducible rfl
      rotate_left
      · simp only [Act.put, List.setIfInBounds_toArray, List.set_cons_zero, List.set_cons_succ, i64_w, i32_w]
        rfl
      refine pure_ (i := 3) (N := some 17) (v := ?_) (a' := ?_) #[true, true, true, true, false, false, true, false, false, false, false, false, false] rfl rfl (by kernel_rfl) (fun _ _ _ h => h) (Or.inl ⟨by rfl, ?_⟩) ?_ ?_
      rotate_left
      · intro w'
        go_simp
        with_reducible rfl
      rotate_left
      · simp only [Act.put, List.setIfInBounds_toArray, List.set_cons_zero, List.set_cons_succ, i64_w, i32_w]
        rfl
      refine take_ (i := 4) (N := some 18) (v := ?_) (a' := ?_) #[true, true, true, true, true, false, true, false, false, false, false, false, false] rfl rfl (by kernel_rfl) (fun _ _ _ h => h) (Or.inl ⟨by rfl, ?_⟩) hHeld ?_ ?_
      rotate_left
      · rintro w' ⟨s0, s1, s2⟩
        go_simp
        with_reducible rfl
      rotate_left
      · simp only [Act.put, List.setIfInBounds_toArray, List.set_cons_zero, List.set_cons_succ, i64_w, i32_w]
        rfl
      refine take_ (i := 5) (N := some 19) (v := ?_) (a' := ?_) #[true, true, true, true, true, true, true, false, false, false, false, false, false] rfl rfl (by kernel_rfl) (fun _ _ _ h => h) (Or.inl ⟨by rfl, ?_⟩) hHeld ?_ ?_
      rotate_left
      · rintro w' ⟨s0, s1, s2⟩
        go_simp
        with_reducible rfl
      rotate_left
      · simp only [Act.put, List.setIfInBounds_toArray, List.set_cons_zero, List.set_cons_succ, i64_w, i32_w]
        rfl
      refine one_ (i := 7) (N := some 21) #[true, true, true, true, true, true, true, true, false, false, false, false, false] rfl rfl (by kernel_rfl) (by decide) (fun K hK => ?_)
      refine goes_ Try.func26 (by kernel_rfl) rfl _ (by rfl) rfl rfl (by simp only [List.map_toArray, List.map_cons, List.map_nil]; rfl) ?_
      refine (place_at _ hR.drew k j hkn ej).mono ?_
      rintro e u1 ⟨rfl, hd1⟩
      refine ⟨_, rfl, ?_⟩
      have hown1 : u1.ownsRow W.heap.size 3 1 (.slice Ao k co) k (encs ei (q.take k)) := (Only.of_below (below_step (below_drew1 (Below.refl wr.heap.size wr)) hd1.below) (fun _ => False)).own hown (fun _ _ h => h)
      have hB1 := below_step (below_drew1 hB) hd1.below
      refine hK.out _ _ ⟨dcell hd1 (hHeld.1), dcell hd1 (hHeld.2.1), dcell hd1 (hHeld.2.2)⟩ (fun hHeld => ?_)
      clear hK K
      refine norm_ (a' := ?_) ?_ ?_
      rotate_left
      · show Act.put _ (some 21) _ = _
        simp only [Act.put, List.setIfInBounds_toArray, List.set_cons_zero, List.set_cons_succ, i64_w, i32_w]
        rfl
      refine pure_ (i := 8) (N := some 22) (v := ?_) (a' := ?_) #[true, true, true, true, true, true, true, true, true, false, false, false, false] rfl rfl (by kernel_rfl) (fun _ _ _ h => h) (Or.inl ⟨by rfl, ?_⟩) ?_ ?_
      rotate_left
      · intro w'
        go_simp
        with_reducible rfl
      rotate_left
      · simp only [Act.put, List.setIfInBounds_toArray, List.set_cons_zero, List.set_cons_succ, i64_w, i32_w]
        rfl
      refine take_ (i := 9) (N := some 23) (v := ?_) (a' := ?_) #[true, true, true, true, true, true, true, true, true, true, false, false, false] rfl rfl (by kernel_rfl) (fun _ _ _ h => h) (Or.inl ⟨by rfl, ?_⟩) hHeld ?_ ?_
      rotate_left
      · rintro w' ⟨s0, s1, s2⟩
        go_simp
        with_reducible rfl
      rotate_left
      · simp only [Act.put, List.setIfInBounds_toArray, List.set_cons_zero, List.set_cons_succ, i64_w, i32_w]
        rfl
      refine last_ (i := 10) (N := some 24) #[true, true, true, true, true, true, true, true, true, true, true, false, false] rfl rfl (by kernel_rfl) (by decide) (fun K hK => ?_)
      refine value_ (w1 := ?_) (v := ?_) (by rfl) rfl ?_ ?_
      rotate_left 2
      · go_simp
        constructor
        · rfl
        · rfl
      refine hK.out _ _ ?_
      clear hK K
      refine norm_ (a' := ?_) ?_ ?_
      rotate_left
      · show Act.put _ (some 24) _ = _
        simp only [Act.put, List.setIfInBounds_toArray, List.set_cons_zero, List.set_cons_succ, i64_w, i32_w]
        rfl
      refine last_ (i := 11) (N := some 25) #[true, true, true, true, true, true, true, true, true, true, true, true, false] rfl rfl (by kernel_rfl) (by decide) (fun K hK => ?_)
      refine step_append_cells (w0 := W) W.heap.size rfl (.tmp 14) (.tmp 24) 22 3 (.int .i64 0) 1 8 rfl Try.underlying22 (by kernel_rfl) rfl (by decide) (by decide) _ k (encs ei (q.take k)) [ei y] rfl rfl rfl (fun u hu => by rw [List.mem_singleton.1 hu]; rfl) hown1 hB1 hB1.size (by omega) ?_
      intro v5 w5 hown5 hB5 hg5 hat5
      refine hK.out _ _ ?_
      clear hK K
      refine norm_ (a' := ?_) ?_ ?_
      rotate_left
      · show Act.put _ (some 25) _ = _
        simp only [Act.put, List.setIfInBounds_toArray, List.set_cons_zero, List.set_cons_succ, i64_w, i32_w]
        rfl
      refine pure_ (i := 12) (N := some 3) (v := ?_) (a' := ?_) #[true, true, true, true, true, true, true, true, true, true, true, true, true] rfl rfl (by kernel_rfl) (fun _ _ _ h => h) (Or.inl ⟨by rfl, ?_⟩) ?_ ?_
      rotate_left
      · intro w'
        go_simp
        with_reducible rfl
      rotate_left
      · simp only [Act.put, List.setIfInBounds_toArray, List.set_cons_zero, List.set_cons_succ, i64_w, i32_w]
        rfl
      refine done_ (by kernel_rfl) ?_
      have ho5 : w5.ownsRow W.heap.size 3 1 v5 (k + 1) (encs ei (q.take (k + 1))) := by
        rw [← HTS.out]
        simpa [encs] using hown5
      obtain ⟨A5, c5, rfl⟩ := own_slice ho5
      have HO5 := Aside0.mk ho5
      have HB5 := Aside0.mk hB5
      clear hown5 ho5 hB5 hg5 hat5 hown1 hB1 hd1 hR hB hown cb0 fb0 cy0 hj hjI hj0 hkn
      go_wp2_with fail
      go_roundw
      case rel => exact ⟨k + 1, A5, c5, hlt, by go_num, rfl, HO5, HB5⟩
      case measure => simp [intOf]; omega
    · obtain rfl : k = q.length := by omega
      have HO1 : Aside0 (wr.ownsRow W.heap.size 3 1 (.slice Ao q.length co) q.length (encs ei q)) := ⟨by simpa using HO.out⟩
      have HJ1 : Aside0 (J [] wr) := ⟨HJ.out [] W wr none H0.out ⟨HB.out.os, HB.out.tape, HB.out.output, HB.out.size, fun i hi _ => HB.out.block i hi⟩ (fun r e => by cases e)⟩
      have HRD : Aside0 (∀ W2 : World, Kp wr W2 → W2.ownsRow W.heap.size 3 1 (.slice Ao q.length co) q.length (encs ei q)) := ⟨fun W2 hk => by
        obtain ⟨h1, h2⟩ := HO1.out
        refine ⟨h1, h2.imp id fun ⟨g', cap', cur', he, hb, hr, hrest⟩ => ⟨g', cap', cur', he, hb, HKO.out wr W2 HB.out hk g' _ hb hr, hrest⟩⟩⟩
      clear HO HB HO1 HC HQ HBN H0 HJ HKO
      go_wp2_with fail
      refine (wpIn_wide (n := m)).1 ?_
      gi_loopw [29] (fun i w2 => ∃ k : Nat, k ≤ q.length ∧ i = .int .i64 k ∧ Aside0 (J ((en q).take k) w2) ∧ Aside0 (Kp wr w2)) (fun i _ => q.length - (intOf i).toNat)
      case atStart => exact ⟨0, Nat.zero_le _, rfl, HJ1, ⟨HKR.out wr⟩⟩
      case round =>
        clear HJ1
        obtain ⟨k, hk, rfl, HJk, HKk⟩ := hrel
        have hk0 : (0 : Int) ≤ k := Int.natCast_nonneg k
        by_cases hlt : k < q.length
        · have hk2 : (k : Int) < (q.length : Int) := Int.ofNat_lt.mpr hlt
          obtain ⟨ad, eA, hcell⟩ := (own_reads_of' (d := (0 : Int)) (HRD.out _ HKk.out)).2.2 (Nat.lt_of_le_of_lt (Nat.zero_le _) hlt)
          have hx := hcell k hlt
          obtain ⟨y, hy0⟩ : ∃ y, q.getD k 0 = y := ⟨_, rfl⟩
          have hpre := en_take hlt
          rw [hy0] at hx hpre
          subst eA
          have HPRE := Aside0.mk hpre
          have hlk : ((en q).take k).length < q.length := by rw [List.length_take, en_len]; omega
          obtain ⟨fn, tmps, assign, body, hy, hR⟩ := HY.out ((en q).take k) ((k : Int), y) _ HJk.out hlk
          dsimp only at hy
          clear hcell hpre hlk hy0
          gi_wp2_with fail
          refine ⟨fun hq => by simp [Fence.wide] at hq, hR.mono ?_⟩
          rintro e W3 (⟨rfl, hJ3, hk3⟩ | ⟨rfl, hJx3⟩)
          · have HJ3 := Aside0.mk hJ3
            have HK3 := Aside0.mk (HKT.out _ _ _ HKk.out hk3)
            clear hJ3 hk3 hy hR hx
            gi_wp2_with fail
            go_roundw
            case rel => exact ⟨k + 1, hlt, by go_num, ⟨by rw [HPRE.out]; exact HJ3.out⟩, HK3⟩
            case measure => simp [intOf]; omega
          · have HJ3 := Aside0.mk hJx3
            clear hJx3 hy hR hx
            gi_wp2_with fail
            refine bodyPost_ret (results_none rfl _ _ _) rfl ?_
            exact ⟨⟨_, rfl⟩, .inr ⟨_, ⟨(en q).drop (k + 1), by rw [← HPRE.out]; exact List.take_append_drop _ _⟩, HJ3.out⟩⟩
        · obtain rfl : k = q.length := by omega
          gi_wp2_with fail
          go_end0
          exact ⟨⟨_, rfl⟩, .inl ⟨_, en_take_all q, HJk.out⟩⟩

theorem all_stopsK (m Bn : Nat) {g gt n : Nat} {q : List Int} (w : World) (hBn : w.heap[Bn]? = some (.cells #[.pointer (some ⟨g, 0, none⟩)] 24 (0, 0))) (hQ : RQ w g gt n q)
    (Kp : World → World → Prop) (hKr : ∀ X, Kp X X) (hKt : ∀ X Y Z, Kp X Y → Kp Y Z → Kp X Z) (hKo : ∀ X Y, Below w.heap.size w X → Kp X Y → ∀ g cur, w.heap.size ≤ g → X.heap[g]? = some (.cells cur 3 (0, 0)) → Y.heap[g]? = some (.cells cur 3 (0, 0))) :
    SeqStopsK Fence.wide m Try.prog 29 #[.pointer (some ⟨Bn, 0, none⟩)] (fun x : Int × Int => #[Value.int .i64 x.1, Value.int .i64 x.2]) Kp (fun ys => ys = en q) (fun pre => pre <+: en q) q.length w := fun l J Jx W hW hJ _ hY h0 =>
  all1K m l Bn J Jx W Kp hKr hKt (fun X Y hX hk g cur hg h => hKo X Y (below_step hW hX) hk g cur (Nat.le_trans hW.size hg) h) hY ((hW.block _ (blk_lt hBn)).trans hBn) (hQ.below hW) hJ h0
theorem rangeK {assign body : Code} {Q : Exit → Act → World → Prop} {t : Array Value} {ds : List Deferred} {w : World} {bB g gt n : Nat} {q : List Int} (p0 p1 q0 q1 tm : Tmp)
    (hg : ({ tmps := t, defers := ds } : Act).eval (.tmp tm) = .func (.func 29) #[] #[.pointer (some ⟨bB, 0, none⟩)]) (hbB : w.heap[bB]? = some (.cells #[.pointer (some ⟨g, 0, none⟩)] 24 (0, 0))) (hQ : RQ w g gt n q)
    (Kp : World → World → Prop) (hKr : ∀ X, Kp X X) (hKt : ∀ X Y Z, Kp X Y → Kp Y Z → Kp X Z) (hKb : ∀ (W : World) (l : Nat) (o o' : Obj), w.heap.size ≤ l → W.heap[l]? = some o → o.isCells = false → Kp W (W.putObj l o')) (hKo : ∀ X Y, Below w.heap.size w X → Kp X Y → ∀ g cur, w.heap.size ≤ g → X.heap[g]? = some (.cells cur 3 (0, 0)) → Y.heap[g]? = some (.cells cur 3 (0, 0)))
    (I : List (Int × Int) → World → Prop) (Ix : Code → List (Int × Int) → World → Prop) (hI : OwnFrom w.heap.size I) (hIx : ∀ c, OwnFrom w.heap.size (Ix c)) (h0 : I [] w)
    (hassign : ∀ (l : Nat) (x : Int × Int) (W : World) (K : Act → World → Prop), K { tmps := asg t p0 p1 q0 q1 x, defers := [] } W → assign.wpIn (wideR l) 18 Try.prog (Exit.then K (fun _ _ _ => False)) { tmps := (t.setIfInBounds p0 (.int .i64 x.1)).setIfInBounds p1 (.int .i64 x.2), defers := [] } W)
    (hbody : ∀ (l : Nat) (pre : List (Int × Int)) (x : Int × Int) (W : World), w.heap.size ≤ l → (∃ r, W.heap[l]? = some (.loop r)) → I pre W → pre.length < q.length → body.wpIn (wideR l) 18 Try.prog (ownPostG w.heap.size Kp I Ix (pre ++ [x]) W) { tmps := asg t p0 p1 q0 q1 x, defers := [] } W)
    (hdone : ∀ (D : Nat) (W : World), w.heap.size ≤ D → I (en q) W → W.heap[D]? = some (.deferred (some [])) → Q .normal { tmps := t, defers := { target := .collected D, args := #[] } :: ds } W)
    (hstop : ∀ (D : Nat) (c : Code) (pre : List (Int × Int)) (W : World), w.heap.size ≤ D → pre <+: en q → Ix c pre W → W.heap[D]? = some (.deferred (some [])) → c.wp Try.prog Q { tmps := t, defers := { target := .collected D, args := #[] } :: ds } W) :
    (Code.rangeFunc (.tmp tm) #[p0, p1] assign body).wp Try.prog Q { tmps := t, defers := ds } w := by
  refine (wpIn_wide (n := 20)).1 (wpIn_rangeFunc_ownH rfl (by decide) (gf := 29) (lb := #[.pointer (some ⟨bB, 0, none⟩)]) hg trivial (enters_of Try.func29 (by kernel_rfl) rfl) (all_stopsK 19 bB w hbB hQ Kp hKr hKt hKo)
    (fun {X Y Z} h k => hKt X Y Z h k) (fun W l o o' hl h hc _ => hKb W l o o' hl h hc) (Below.refl _ _) (fun _ => rfl) I Ix hI hIx h0 (fun x a' _ => a' = { tmps := asg t p0 p1 q0 q1 x, defers := [] }) (fun _ _ _ _ _ _ hs _ _ => hs) ?_ ?_ ?_ ?_)
  · intro l pre x W K hi hK
    rw [zip2]
    exact hassign l x W K (hK _ W (KeepsFrom.refl _ _) (hKr _) hi rfl)
  · rintro l pre x a' W hl hr hi rfl hlt
    exact hbody l pre x W hl hr hi hlt
  · rintro D xs W hD rfl hi hk
    exact hdone D W hD hi hk
  · intro D c pre W hD hp hx hk
    exact wpIn_wide.2 (hstop D c pre W hD hp hx hk)

/-- The block of the document's row. -/
def ownB (gd : Nat) (W : World) (k : Nat) : Prop := ∃ o n c z, W.heap[gd]? = some (.cells #[.slice (some ⟨k, o, none⟩) n c, z] 73 (0, 0))
theorem OQ.blk {w : World} {base k : Nat} {v : Value} {q : List Int} (h : OQ w base v q) (hk : v.ownBlock = some k) : ∃ o n c, v = .slice (some ⟨k, o, none⟩) n c := by
  rcases h with ⟨rfl, _⟩ | ⟨g, o, cap, cur, rfl, hb, hg, _⟩
  · cases hk
  · cases hk
    exact ⟨_, _, _, rfl⟩
theorem RD.own {w : World} {B gd s k : Nat} {S : Nat → Prop} {q : List Int} (h : RD w B gd s S q) : S k ↔ k = gd ∨ ownB gd w k := by
  obtain ⟨v, h1, h2, h3, h4, h5, rfl⟩ := h.ex
  constructor
  · rintro (rfl | hk)
    · exact .inl rfl
    · obtain ⟨o, n, c, rfl⟩ := h2.blk hk
      exact .inr ⟨o, n, c, _, h1⟩
  · rintro (rfl | ⟨o, n, c, z, hz⟩)
    · exact .inl rfl
    · rw [h1] at hz
      simp only [Option.some.injEq, Obj.cells.injEq, Array.mk.injEq, List.cons.injEq] at hz
      obtain ⟨⟨rfl, _⟩, _⟩ := hz
      exact .inr rfl
/-- Cells made since the loop began stay, but for the document's row. -/
structure KpD (B gd : Nat) (W W' : World) : Prop where
  size : W.heap.size ≤ W'.heap.size
  cells : ∀ k o, B ≤ k → W.heap[k]? = some o → o.isCells = true → ¬ ownB gd W k → W'.heap[k]? = some o ∧ ¬ ownB gd W' k
theorem KpD.refl (B gd : Nat) (X : World) : KpD B gd X X := ⟨Nat.le_refl _, fun _ _ _ h _ k => ⟨h, k⟩⟩
theorem KpD.t {B gd : Nat} (X Y Z : World) (h : KpD B gd X Y) (k : KpD B gd Y Z) : KpD B gd X Z := ⟨Nat.le_trans h.size k.size, fun i o hB ho hc hn => let ⟨h1, h2⟩ := h.cells i o hB ho hc hn; k.cells i o hB h1 hc h2⟩
theorem KpD.b {B gd : Nat} (hgd : gd < B) (W : World) (l : Nat) (o o' : Obj) (hl : B ≤ l) (h : W.heap[l]? = some o) (hc : o.isCells = false) : KpD B gd W (W.putObj l o') := by
  have hne : gd ≠ l := by omega
  refine ⟨by simp [World.putObj], fun k x hB hx hxc hn => ?_⟩
  have hne2 : k ≠ l := fun e => by
    subst e
    rw [h] at hx
    injection hx with hx
    rw [hx, hxc] at hc
    cases hc
  refine ⟨by rw [World.putObj_heap_other hne2]; exact hx, ?_⟩
  rintro ⟨o, n, c, z, hz⟩
  rw [World.putObj_heap_other hne] at hz
  exact hn ⟨o, n, c, z, hz⟩
theorem KpD.o {w : World} {B gd s : Nat} {S : Nat → Prop} {q : List Int} (h : RD w B gd s S q) (X Y : World) (hX : Below w.heap.size w X) (hk : KpD w.heap.size gd X Y) (g : Nat) (cur : Array Value) (hg : w.heap.size ≤ g) (hc : X.heap[g]? = some (.cells cur 3 (0, 0))) : Y.heap[g]? = some (.cells cur 3 (0, 0)) := by
  refine (hk.cells g _ hg hc rfl ?_).1
  intro ho
  have h1 := (h.below hX).own.2 (.inr ho)
  have h2 := h.own (k := g)
  have hgd : gd < w.heap.size := (h.lt gd (h.own.2 (.inl rfl))).2
  obtain ⟨o, n, c, z, hz⟩ := ho
  rw [hX.block gd hgd] at hz
  exact Nat.lt_irrefl _ (Nat.lt_of_lt_of_le (h.lt g (h2.2 (.inr ⟨o, n, c, z, hz⟩))).2 hg)
theorem kpd_step {W W' : World} {B B0 gd s : Nat} {S S' T : Nat → Prop} {q q' : List Int} (h : RD W B0 gd s S q) (h' : RD W' B0 gd s S' q') (hO : Only W W' T) (hT : ∀ k, T k → k < B ∨ S k) (hgd : gd < B) (hn : ∀ k, S' k → S k ∨ W.heap.size ≤ k) : KpD B gd W W' := by
  refine ⟨hO.size, fun k o hB hk hc ho => ?_⟩
  have hS : ¬ S k := fun hs => (h.own.1 hs).elim (fun e => by omega) ho
  refine ⟨hO.blk hk (fun ht => (hT k ht).elim (fun e => by omega) hS), fun ho' => ?_⟩
  have := blk_lt hk
  rcases hn k (h'.own.2 (.inr ho')) with h1 | h1
  · exact hS h1
  · omega
end Go.Proofs.Ytjajaklichiknaa.Rg
