/- Proved: the walk of TableFresh. -/
import Derived.Test.YtlainhbmfphojaaTf1
namespace Go.Proofs.Ytlainhbmfphojaa.Tb
open Go.RowKit Go.Maps Go.Proofs.YtlainhbmfphojaaW.PrintWords Go.Proofs.YtlainhbmfphojaaW.PrintLast Go.Proofs.YtlainhbmfphojaaW.PrintMore
set_option linter.unusedVariables false
set_option linter.unusedSimpArgs false
theorem Rs.want {wa wr w' : World} {g1 g2 n : Nat} {S1 S2 : Nat → Prop} {l : LS} {v : Value} {W : List ByteArray} (h : Rs wa wr g1 g2 n S1 S2 l (.slice none 0 0) []) (hb : Below wr.heap.size wr w') (ho : w'.ownsRow wr.heap.size 9 1 v W.length (encs (fun x : ByteArray => Value.string x) W)) : Rs wa w' g1 g2 n S1 S2 l v W :=
  ⟨h.t.below hb, h.u.below hb, own_less ho h.bel.size, h.d12, fun b hb2 => by
    have h1 := (own_lt' ho b hb2).2
    exact ⟨fun c => by have := h.t.lt b c; omega, fun c => by have := h.u.lt b c; omega⟩, (h.below hb).bel⟩
theorem sep_app {wa wr : World} {g1 g2 n : Nat} {S1 S2 : Nat → Prop} {l : LS} {vw vl v5 vb : Value} {W X : List ByteArray} {b2 m : Nat} {Q : Prop} (h : Rs wa wr g1 g2 n S1 S2 l vw W) (hB : wr.ownsRow b2 9 1 vb m (encs eS X)) (hs : ∀ q, vl.ownBlock = some q → ¬ Fp S1 S2 vw q ∧ vb.ownBlock ≠ some q) (hat : (v5.ownBlock = vl.ownBlock ∧ vl.ownBlock ≠ none) ∨ (∃ b, v5.ownBlock = some b ∧ wr.heap.size ≤ b) ∧ Q) : ∀ q, v5.ownBlock = some q → ¬ Fp S1 S2 vw q ∧ vb.ownBlock ≠ some q := by
  intro q hq
  rcases hat with ⟨e, _⟩ | ⟨⟨b, e, hb⟩, _⟩
  · exact hs q (e ▸ hq)
  · rw [hq] at e
    injection e with e
    subst e
    exact ⟨fun c => by have := h.lt q c; omega, fun c => by have := (own_lt' hB q c).1; omega⟩
theorem want_apart {wa wr : World} {g1 g2 n : Nat} {S1 S2 : Nat → Prop} {l : LS} {aw : Addr} {m c k : Nat} {X : List ByteArray} (h : Rs wa wr g1 g2 n S1 S2 l (.slice (some aw) m c) X) (hk : k < X.length) : ¬ S1 (aw.add k).block := by
  obtain ⟨g, c2, e, _, _⟩ := h.w.form (by omega)
  injection e with e1 e2 e3
  injection e1 with e1
  subst e1
  have hb : ((⟨g, 0, none⟩ : Addr).add k).block = g := by rw [add_plain]
  rw [hb]
  exact (h.dw g rfl).1
def Sz (l : LS) : Prop := ∀ s ∈ ks l, s.size ≤ 140737488355328
theorem Sz.put {l : LS} (h : Sz l) (n : Nat) {s : ByteArray} (x : ByteArray) (hs : s.size ≤ 140737488355328) : Sz (putL n l s x) := by
  intro t ht
  unfold putL at ht
  simp only [ks, List.map_append, List.mem_append, List.map_cons, List.map_nil, List.mem_singleton] at ht
  rcases ht with ht | rfl
  · refine h t ?_
    split at ht
    · exact (mem_rm.1 ht).2
    · split at ht
      · rw [List.map_tail] at ht
        exact List.mem_of_mem_tail ht
      · exact ht
  · exact hs
theorem LX.below {w w1 : World} {b gx nx m : Nat} {c : ByteArray} {vl : Value} (h : LX w b gx nx m c vl) (hb : Below w.heap.size w w1) : LX w1 b gx nx m c vl := h.only (Only.of_below hb (fun _ => False)) (fun _ _ h => h) (fun _ h => h)
theorem sep_app2 {wa wr : World} {g1 g2 n : Nat} {S1 S2 : Nat → Prop} {l : LS} {vw vl v5 vc : Value} {W : List ByteArray} {b2 ga m mm : Nat} {c : ByteArray} {Q : Prop} (h : Rs wa wr g1 g2 n S1 S2 l vw W) (hL : LX wr b2 ga m mm c vc) (hs : ∀ q, vl.ownBlock = some q → ¬ Fp S1 S2 vw q ∧ vc.ownBlock ≠ some q ∧ (0 < m → q ≠ ga)) (hat : (v5.ownBlock = vl.ownBlock ∧ vl.ownBlock ≠ none) ∨ (∃ b, v5.ownBlock = some b ∧ wr.heap.size ≤ b) ∧ Q) : ∀ q, v5.ownBlock = some q → ¬ Fp S1 S2 vw q ∧ vc.ownBlock ≠ some q ∧ (0 < m → q ≠ ga) := by
  intro q hq
  rcases hat with ⟨e, _⟩ | ⟨⟨b, e, hb⟩, _⟩
  · exact hs q (e ▸ hq)
  · rw [hq] at e
    injection e with e
    subst e
    exact ⟨fun c => by have := h.lt q c; omega, fun c => by have := (own_lt' hL.own q c).1; omega, fun h0 c => by have := hL.lt h0; omega⟩
set_option maxHeartbeats 4000000 in
set_option maxRecDepth 100000 in
theorem fresh_bad (z : Int) (A : Option Addr) (c : Nat) (kl : List ByteArray) (w : World) (hz : z < 1 ∨ 4096 < z) : Calls Try.prog 5 #[.slice A kl.length c, .int .i64 z] w fun r w' => r = .returned (.bool true) ∧ Below w.heap.size w w' := by
  have hu3 := Try.underlying3
  have hu22 := Try.underlying22
  have hu9 := Try.underlying9
  have hu41 := Try.underlying41
  have hB := Below.refl w.heap.size w
  by_cases c1 : z < 1
  · go_enter Try.func5, Try.ntmps5
    go_wp2_with (first | (go_at_call 7; refine (alive_calls _).mono ?_; rintro r wa ⟨rfl, hba⟩; have hB := below_step hB hba))
    go_ret
    exact ⟨rfl, hB⟩
  · have c2 : 4096 < z := by omega
    go_enter Try.func5, Try.ntmps5
    go_wp2_with (first | (go_at_call 7; refine (alive_calls _).mono ?_; rintro r wa ⟨rfl, hba⟩; have hB := below_step hB hba))
    go_ret
    exact ⟨rfl, hB⟩
set_option maxHeartbeats 16000000 in
set_option maxRecDepth 100000 in
theorem fresh_ok (n : Nat) (A : Option Addr) (c : Nat) (kl : List ByteArray) (w : World) (h0 : 0 < n) (h1 : n ≤ 4096) (HR : RS w A kl.length kl) (hal : ∀ k, k < kl.length → (kl.getD k ByteArray.empty).size ≤ 140737488355328) : Calls Try.prog 5 #[.slice A kl.length c, .int .i64 (n : Int)] w fun r w' => r = .returned (.bool true) ∧ Below w.heap.size w w' := by
  have hu3 := Try.underlying3
  have hu22 := Try.underlying22
  have hu9 := Try.underlying9
  have hu41 := Try.underlying41
  have c1 : ¬ (n : Int) < 1 := by omega
  have c2 : ¬ (4096 : Int) < n := by omega
  go_enter Try.func5, Try.ntmps5
  go_upto_region 4 with (first
    | (go_at_call 7; refine (alive_calls _).mono ?_; rintro r wa ⟨rfl, hba⟩)
    | (go_at_call 18; refine (tnewS _ n h0 h1).mono ?_; rintro r wt ⟨g1, S1, rfl, hT, hBt⟩))
  go_upto_region 7 with (first
    | (go_at_call 18; refine (tnewS _ n h0 h1).mono ?_; rintro r wu ⟨g2, S2, rfl, hU, hBu⟩))
  have hR0 : Rs wa wu g1 g2 n S1 S2 [] (.slice none 0 0) [] := ⟨hT.below hBu, hU.rebase hBt.size, own_nil _ _ _ _, fun k hk hs => by have h1 := hT.lt k hk; have h2 := hU.ge k hs; omega, fun b hb => absurd hb (by simp [Value.ownBlock]), below_step hBt hBu⟩
  clear hT hU hBt hBu
  have HAL := Aside0.mk hal
  clear hal
  have hll : (kl.length : Int) ≤ 9223372036854775807 := by have := HR.2.1; omega
  go_wp2_with fail
  go_loopw [9] (fun i wr => ∃ (k : Nat) (S1 : Nat → Prop) (l : LS), k ≤ kl.length ∧ i = .int .i64 k ∧ Aside0 (Vs l) ∧ Aside0 (Sz l) ∧ Aside0 (Rs wa wr g1 g2 n S1 S2 l (.slice none 0 0) [])) (fun i _ => kl.length - (intOf i).toNat)
  case atStart => exact ⟨0, S1, [], Nat.zero_le _, rfl, ⟨fun p hp => by simp at hp⟩, ⟨fun p hp => by simp [ks] at hp⟩, ⟨hR0⟩⟩
  case round =>
    clear hR0
    obtain ⟨k, S1, l, hk, rfl, HV, HSZ, HRs⟩ := hrel
    have hRs := HRs.out
    clear HRs
    have hk0 : (0 : Int) ≤ k := Int.natCast_nonneg k
    by_cases hlt : k < kl.length
    · have hk2 : (k : Int) < (kl.length : Int) := Int.ofNat_lt.mpr hlt
      obtain ⟨ad, s, eA, hx, gs⟩ := (HR.below (below_step hba hRs.bel)).at_ k hlt
      have hsz0 := HAL.out k hlt
      rw [gs] at hsz0
      have hsz : s.size ≤ maxLen := by unfold maxLen; omega
      have hsb : ¬ 9223372036854775807 < s.size + 1 := by omega
      subst eA
      clear gs
      have hRsd := hRs.below (drew_below wr)
      obtain ⟨s2, hs2⟩ : ∃ s2, s ++ ⟨#[33]⟩ = s2 := ⟨_, rfl⟩
      go_wp2_with fail
      refine start_ (n := 11) (S := fun w' => w'.cell? (ad.add k) = some (.string s)) (ds := [10]) #[false, false, false, false, false, false, false, false, false, false, false] (by kernel_rfl) rfl rfl (hx) (fun hHeld => ?_)
      refine pure_ (i := 0) (N := some 60) (v := ?_) (a' := ?_) #[true, false, false, false, false, false, false, false, false, false, false] rfl rfl (by kernel_rfl) (fun _ _ _ h => h) (Or.inl ⟨by rfl, ?_⟩) ?_ ?_
      rotate_left
      · intro w'
        go_simp
        with_reducible rfl
      rotate_left
      · simp only [Act.put, List.setIfInBounds_toArray, List.set_cons_zero, List.set_cons_succ, i64_w, i32_w]
        rfl
      refine pure_ (i := 1) (N := some 61) (v := ?_) (a' := ?_) #[true, true, false, false, false, false, false, false, false, false, false] rfl rfl (by kernel_rfl) (fun _ _ _ h => h) (Or.inl ⟨by rfl, ?_⟩) ?_ ?_
      rotate_left
      · intro w'
        go_simp
        with_reducible rfl
      rotate_left
      · simp only [Act.put, List.setIfInBounds_toArray, List.set_cons_zero, List.set_cons_succ, i64_w, i32_w]
        rfl
      refine pure_ (i := 2) (N := some 62) (v := ?_) (a' := ?_) #[true, true, true, false, false, false, false, false, false, false, false] rfl rfl (by kernel_rfl) (fun _ _ _ h => h) (Or.inl ⟨by rfl, ?_⟩) ?_ ?_
      rotate_left
      · intro w'
        go_simp
        with_reducible rfl
      rotate_left
      · simp only [Act.put, List.setIfInBounds_toArray, List.set_cons_zero, List.set_cons_succ, i64_w, i32_w]
        rfl
      refine pure_ (i := 3) (N := some 63) (v := ?_) (a' := ?_) #[true, true, true, true, false, false, false, false, false, false, false] rfl rfl (by kernel_rfl) (fun _ _ _ h => h) (Or.inl ⟨by rfl, ?_⟩) ?_ ?_
      rotate_left
      · intro w'
        go_simp
        with_reducible rfl
      rotate_left
      · simp only [Act.put, List.setIfInBounds_toArray, List.set_cons_zero, List.set_cons_succ, i64_w, i32_w]
        rfl
      refine pure_ (i := 5) (N := some 65) (v := ?_) (a' := ?_) #[true, true, true, true, false, true, false, false, false, false, false] rfl rfl (by kernel_rfl) (fun _ _ _ h => h) (Or.inl ⟨by rfl, ?_⟩) ?_ ?_
      rotate_left
      · intro w'
        go_simp
        with_reducible rfl
      rotate_left
      · simp only [Act.put, List.setIfInBounds_toArray, List.set_cons_zero, List.set_cons_succ, i64_w, i32_w]
        rfl
      refine pure_ (i := 6) (N := some 66) (v := ?_) (a' := ?_) #[true, true, true, true, false, true, true, false, false, false, false] rfl rfl (by kernel_rfl) (fun _ _ _ h => h) (Or.inl ⟨by rfl, ?_⟩) ?_ ?_
      rotate_left
      · intro w'
        go_simp
        with_reducible rfl
      rotate_left
      · simp only [Act.put, List.setIfInBounds_toArray, List.set_cons_zero, List.set_cons_succ, i64_w, i32_w]
        rfl
      refine pure_ (i := 7) (N := some 67) (v := ?_) (a' := ?_) #[true, true, true, true, false, true, true, true, false, false, false] rfl rfl (by kernel_rfl) (fun _ _ _ h => h) (Or.inl ⟨by rfl, ?_⟩) ?_ ?_
      rotate_left
      · intro w'
        go_simp
        with_reducible rfl
      rotate_left
      · simp only [Act.put, List.setIfInBounds_toArray, List.set_cons_zero, List.set_cons_succ, i64_w, i32_w]
        rfl
      refine take_ (i := 4) (N := some 64) (v := ?_) (a' := ?_) #[true, true, true, true, true, true, true, true, false, false, false] rfl rfl (by kernel_rfl) (fun _ _ _ h => h) (Or.inl ⟨by rfl, ?_⟩) hHeld ?_ ?_
      rotate_left
      · intro w' s0
        go_simp
        with_reducible rfl
      rotate_left
      · simp only [Act.put, List.setIfInBounds_toArray, List.set_cons_zero, List.set_cons_succ, i64_w, i32_w]
        rfl
      refine take_ (i := 8) (N := some 68) (v := ?_) (a' := ?_) #[true, true, true, true, true, true, true, true, true, false, false] rfl rfl (by kernel_rfl) (fun _ _ _ h => h) (Or.inl ⟨by rfl, ?_⟩) hHeld ?_ ?_
      rotate_left
      · intro w' s0
        go_simp
        with_reducible rfl
      rotate_left
      · simp only [Act.put, List.setIfInBounds_toArray, List.set_cons_zero, List.set_cons_succ, i64_w, i32_w]
        rfl
      refine pure_ (i := 9) (N := some 69) (v := ?_) (a' := ?_) #[true, true, true, true, true, true, true, true, true, true, false] rfl rfl (by kernel_rfl) (fun _ _ _ h => h) (Or.inl ⟨by rfl, ?_⟩) ?_ ?_
      rotate_left
      · intro w'
        go_simp
        with_reducible rfl
      rotate_left
      · simp only [Act.put, List.setIfInBounds_toArray, List.set_cons_zero, List.set_cons_succ, i64_w, i32_w]
        rfl
      refine last_ (i := 10) (N := some 70) #[true, true, true, true, true, true, true, true, true, true, true] rfl rfl (by kernel_rfl) (by decide) (fun K hK => ?_)
      refine goes_ Try.func19 (by kernel_rfl) rfl _ (by rfl) rfl rfl (by simp only [List.map_toArray, List.map_cons, List.map_nil]; rfl) ?_
      refine (tputS (x := s2) hRsd.t hsz).mono ?_
      rintro e u1 ⟨S3, rfl, hT3, hN3⟩
      refine ⟨_, rfl, ?_⟩
      refine hK.out _ _ ?_
      clear hK K
      refine norm_ (a' := ?_) ?_ ?_
      rotate_left
      · show Act.put _ (some 70) _ = _
        simp only [Act.put, List.setIfInBounds_toArray, List.set_cons_zero, List.set_cons_succ, i64_w, i32_w]
        rfl
      refine done_ (by kernel_rfl) ?_
      go_wp2_with fail
      go_roundw
      case rel => exact ⟨k + 1, S3, _, by omega, by go_num, ⟨hs2 ▸ HV.out.put n s⟩, ⟨HSZ.out.put n s2 hsz0⟩, ⟨hRsd.step hT3 hN3⟩⟩
      case measure => simp [intOf]; omega
    · obtain rfl : k = kl.length := by omega
      have hks : (ks l).length = l.length := List.length_map _
      have hln := hRs.t.len.1
      obtain ⟨X, hX⟩ : ∃ X, ks l = X := ⟨_, rfl⟩
      have hnd : X.Nodup := by rw [← hX]; exact hRs.t.nd
      rw [hX] at hks
      have hm : X.length ≤ 4096 := by omega
      have hmI : (X.length : Int) ≤ 4096 := by omega
      clear hks hln
      have hw0 := hRs.bel.size
      go_upto_region 12 with (first
        | (go_at_call 20; refine (tkeysS hRs.t).mono ?_; rintro r w1 ⟨v1, rfl, hA, hb1⟩; have hFa := hRs.lt; have hRs1 := hRs.below hb1; rw [hX] at hA; obtain ⟨Aa, ca, rfl, hca, hRa⟩ := own_rs hA))
      go_upto_region 14 with (first
        | (at_builtin; refine print_append_row_of (w0 := w1) (fun x : ByteArray => Value.string x) ByteArray.empty w1.heap.size rfl (.tmp 73) (.tmp 74) 22 9 (.string ⟨#[]⟩) 16 rfl Try.underlying22 (by kernel_rfl) rfl (by decide) (fun _ => rfl) _ [] X Aa X.length ca rfl rfl (own_nil _ _ _ _) hRa (Below.refl _ _) (Nat.le_refl _) (by simp only [List.length_nil]; omega) ?_; intro v2 w2 hW hb2 hg2 hat2; clear hg2 hat2; rw [List.nil_append] at hW; obtain ⟨Aw, cw, rfl⟩ := own_slice hW))
      have hRs2 := hRs1.want hb2 hW
      have hz9 := hb2.size
      have hA2 := (Only.of_below hb2 (fun _ => False)).own hA (fun _ _ h => h)
      go_upto_region 15 with (first
        | (go_at_call 20; refine (tkeysS hRs2.t).mono ?_; rintro r w3 ⟨v3, rfl, hB, hb3⟩; have hRs3 := hRs2.below hb3; have hA3 := (Only.of_below hb3 (fun _ => False)).own hA2 (fun _ _ h => h); rw [hX] at hB; obtain ⟨Ab, cb, rfl, hcb, hRb⟩ := own_rs hB))
      have sA : ∀ k, (Value.slice Aa X.length ca).ownBlock = some k → ¬ Fp S1 S2 (.slice Aw X.length cw) k ∧ k < w2.heap.size ∧ wr.heap.size ≤ k := fun k hk => by
        have h1 := own_lt' hA k hk
        have h2 := own_lt' hA2 k hk
        refine ⟨fun c => ?_, h2.1, h1.2⟩
        rcases c with c | c | c
        · have := hFa k (.inl c); omega
        · have := hFa k (.inr (.inl c)); omega
        · have := (own_lt' hW k c).2; omega
      have sB : ∀ k, (Value.slice Ab X.length cb).ownBlock = some k → ¬ Fp S1 S2 (.slice Aw X.length cw) k ∧ w2.heap.size ≤ k := fun k hk => by
        have h1 := own_lt' hB k hk
        exact ⟨fun c => by have := hRs2.lt k c; omega, h1.2⟩
      have hz1 := hb1.size
      have hz2 := hb2.size
      have hz3 := hb3.size
      have SA := Aside0.mk sA
      have SB := Aside0.mk sB
      have hga0 : ∃ ga, 0 < X.length → Aa = some ⟨ga, 0, none⟩ := by
        rcases Nat.eq_zero_or_pos X.length with h | h
        · exact ⟨0, fun h2 => absurd h2 (by omega)⟩
        · obtain ⟨g, c2, e, _, _⟩ := hA.form h
          injection e with e1 e2 e3
          exact ⟨g, fun _ => e1⟩
      obtain ⟨ga, hga⟩ := hga0
      have hgb0 : ∃ gb, 0 < X.length → Ab = some ⟨gb, 0, none⟩ := by
        rcases Nat.eq_zero_or_pos X.length with h | h
        · exact ⟨0, fun h2 => absurd h2 (by omega)⟩
        · obtain ⟨g, c2, e, _, _⟩ := hB.form h
          injection e with e1 e2 e3
          exact ⟨g, fun _ => e1⟩
      obtain ⟨gb, hgb⟩ := hgb0
      have HGA := Aside0.mk hga
      have HGB := Aside0.mk hgb
      have hbase : wa.heap.size ≤ w2.heap.size := by omega
      clear sA sB hga hgb hFa hRa hRb hA hA2 hRs hRs1 hRs2 hW hb1 hb2
      generalize hbw : wr.heap.size = bz at hA3 SA hw0 hz1
      go_wp2_with fail
      go_loopw [13] (fun i wr => ∃ k : Nat, (k ≤ X.length ∧ w3.heap.size ≤ wr.heap.size) ∧ i = .int .i64 k ∧ Aside0 (wr.ownsRow bz 9 1 (.slice Aa X.length ca) X.length (encs eS (List.replicate k ⟨#[109, 105, 110, 101]⟩ ++ X.drop k))) ∧ Aside0 (wr.ownsRow w2.heap.size 9 1 (.slice Ab X.length cb) X.length (encs eS X)) ∧ Aside0 (Rs wa wr g1 g2 n S1 S2 l (.slice Aw X.length cw) X)) (fun i _ => X.length - (intOf i).toNat)
      case atStart => exact ⟨0, ⟨Nat.zero_le _, Nat.le_refl _⟩, rfl, ⟨by rw [List.drop_zero]; exact hA3⟩, ⟨hB⟩, ⟨hRs3⟩⟩
      case round =>
        clear hA3 hB hRs3 hb3
        obtain ⟨k, ⟨hk, hge⟩, rfl, HA, HB, HRs⟩ := hrel
        have hk0 : (0 : Int) ≤ k := Int.natCast_nonneg k
        have hA := HA.out
        have hB := HB.out
        have hRs := HRs.out
        clear HA HB HRs
        by_cases hlt : k < X.length
        · have eA := HGA.out (by omega)
          subst eA
          obtain ⟨hF, hgl, hgz⟩ := SA.out ga rfl
          have hat := own_at_of (d := ByteArray.empty) hA (k : Int) (by omega) (by omega)
          have hst := own_store_of hA (k : Int) (⟨#[109, 105, 110, 101]⟩ : ByteArray)
          rw [Int.toNat_natCast] at hat hst
          rw [fill_set k ⟨#[109, 105, 110, 101]⟩ X hlt] at hst
          have hca1 := hat.1
          have hfa1 := hat.2
          have hO : Only wr (wr.setCell ⟨ga, k, none⟩ (.string ⟨#[109, 105, 110, 101]⟩)) (fun q => q = ga) := (Only.refl _ _).set rfl
          have hX1 := Aside0.mk hst.1
          have hB1 := Aside0.mk (hO.own hB (fun q hq e => by have := (SB.out q hq).2; omega))
          have hR1 := Aside0.mk (hRs.only hO (fun q hq e => hF (e ▸ hq)) (fun q e => by omega))
          have hk2 : (k : Int) < (X.length : Int) := Int.ofNat_lt.mpr hlt
          have hge1 := Nat.le_trans hge hO.size
          clear hA hB hat hst hO hRs
          go_wp2_with fail
          go_roundw
          case rel => exact ⟨k + 1, ⟨by omega, hge1⟩, by go_num, hX1, hB1, hR1⟩
          case measure => simp [intOf]; omega
        · obtain rfl : k = X.length := by omega
          rw [List.drop_length, List.append_nil] at hA
          have hL := LX.start hA HGA.out
          have hsc : ∀ q, (Value.slice Aa X.length ca).ownBlock = some q → ¬ Fp S1 S2 (.slice Aw X.length cw) q ∧ (Value.slice Ab X.length cb).ownBlock ≠ some q := fun q hq => ⟨(SA.out q hq).1, fun e => by have h1 := (SB.out q e).2; have h2 := (SA.out q hq).2.1; omega⟩
          clear hA
          go_wp2_with fail
          go_loopw [14, 15] (fun vl i wr => ∃ j : Nat, (j ≤ 40 ∧ w3.heap.size ≤ wr.heap.size) ∧ i = .int .i64 j ∧ Aside0 (LX wr bz ga X.length j ⟨#[109, 105, 110, 101]⟩ vl) ∧ Aside0 (wr.ownsRow w2.heap.size 9 1 (.slice Ab X.length cb) X.length (encs eS X)) ∧ Aside0 (Rs wa wr g1 g2 n S1 S2 l (.slice Aw X.length cw) X) ∧ Aside0 (∀ q, vl.ownBlock = some q → ¬ Fp S1 S2 (.slice Aw X.length cw) q ∧ (Value.slice Ab X.length cb).ownBlock ≠ some q)) (fun _ i _ => 40 - (intOf i).toNat)
          case atStart => exact ⟨0, ⟨by omega, hge⟩, rfl, ⟨hL⟩, ⟨hB⟩, ⟨hRs⟩, ⟨hsc⟩⟩
          case round =>
            clear hL hB hRs hsc
            obtain ⟨j, ⟨hj, hge⟩, rfl, HL, HB, HRs, HS⟩ := hrel
            have hL := HL.out
            have hB := HB.out
            have hRs := HRs.out
            clear HL HB HRs
            have hj0 : (0 : Int) ≤ j := Int.natCast_nonneg j
            have hbz : bz ≤ wr.heap.size := by omega
            by_cases hlt : j < 40
            · have hjI : (j : Int) < 40 := by omega
              go_wp2_with (first
                | (at_builtin; refine wp_app1 bz rfl (.tmp 92) (.tmp 93) rfl Try.underlying22 (by kernel_rfl) _ _ _ _ rfl rfl hL.own hbz (by omega) ?_; intro v5 w5 ho hg hat; have hO5 := only_grown' hg; have hR5 := hRs.only hO5 (fun q hq e => (HS.out q e).1 hq) (fun q e => by have := (own_lt' hL.own q e).2; omega); have hB5 := hO5.own hB (fun q hq e => (HS.out q e).2 hq); have hs5 := sep_app hRs hB HS.out hat; have hL5 := hL.app ho hg hat; have hge1 := Nat.le_trans hge hO5.size; clear ho hg hat hO5))
              go_roundw
              case rel => exact ⟨j + 1, ⟨by omega, hge1⟩, by go_num, ⟨hL5⟩, ⟨hB5⟩, ⟨hR5⟩, ⟨hs5⟩⟩
              case measure => simp [intOf]; omega
            · obtain rfl : j = 40 := by omega
              go_wp2_with fail
              refine (texts_calls _ Ab Aw cb cw X.length X (own_reads_of' (d := ByteArray.empty) hB) (own_reads_of' (d := ByteArray.empty) hRs.w)).mono ?_
              rintro r w5 ⟨rfl, hb5⟩
              have hL := hL.below hb5
              have hB := (Only.of_below hb5 (fun _ => False)).own hB (fun _ _ h => h)
              have hRs := hRs.below hb5
              have hge := Nat.le_trans hge hb5.size
              clear hb5
              go_upto_region 26 with (first
                | ((with_reducible refine gate_callee (f := 20) rfl ?_); (try (refine gate_guard (by rfl) ?_; dsimp only)); refine goesL_ _ rfl rfl Try.func20 (by kernel_rfl) rfl _ rfl (by (try simp only [List.map_toArray, List.map_cons, List.map_nil]); first | done | rfl) ?_; refine (tkeysS hRs.t).mono ?_; rintro r w6 ⟨v6, rfl, hk6, hb6⟩; refine ⟨_, rfl, ?_⟩; rw [hX] at hk6; have hL := hL.below hb6; have hB := (Only.of_below hb6 (fun _ => False)).own hB (fun _ _ h => h); have hRs := hRs.below hb6; have hge := Nat.le_trans hge hb6.size; obtain ⟨A6, c6, rfl, _, hR6⟩ := own_rs hk6; clear hb6 hk6)
                | ((with_reducible refine gate_callee (f := 21) rfl ?_); (try (refine gate_guard (by rfl) ?_; dsimp only)); refine goesL_ _ rfl rfl Try.func21 (by kernel_rfl) rfl _ rfl (by (try simp only [List.map_toArray, List.map_cons, List.map_nil]); first | done | rfl) ?_; refine (texts_calls _ A6 Aw c6 cw X.length X hR6 (own_reads_of' (d := ByteArray.empty) hRs.w)).mono ?_; rintro r w7 ⟨rfl, hb7⟩; refine ⟨_, rfl, ?_⟩; have hL := hL.below hb7; have hB := (Only.of_below hb7 (fun _ => False)).own hB (fun _ _ h => h); have hRs := hRs.below hb7; have hge := Nat.le_trans hge hb7.size; clear hb7))
              go_wp2_with fail
              go_loopw [16] (fun i wr => ∃ k : Nat, (k ≤ X.length ∧ w3.heap.size ≤ wr.heap.size) ∧ i = .int .i64 k ∧ Aside0 (LX wr bz ga X.length 40 ⟨#[109, 105, 110, 101]⟩ u14) ∧ Aside0 (wr.ownsRow w2.heap.size 9 1 (.slice Ab X.length cb) X.length (encs eS (List.replicate k ⟨#[111, 116, 104, 101, 114]⟩ ++ X.drop k))) ∧ Aside0 (Rs wa wr g1 g2 n S1 S2 l (.slice Aw X.length cw) X)) (fun i _ => X.length - (intOf i).toNat)
              case atStart => exact ⟨0, ⟨Nat.zero_le _, hge⟩, rfl, ⟨hL⟩, ⟨by rw [List.drop_zero]; exact hB⟩, ⟨hRs⟩⟩
              case round =>
                clear hL hB hRs hge hbz
                obtain ⟨k, ⟨hk, hge⟩, rfl, HL, HB, HRs⟩ := hrel
                have hk0 : (0 : Int) ≤ k := Int.natCast_nonneg k
                have hL := HL.out
                have hB := HB.out
                have hRs := HRs.out
                clear HL HB HRs
                by_cases hlt : k < X.length
                · have eB := HGB.out (by omega)
                  subst eB
                  obtain ⟨hF, hgl⟩ := SB.out gb rfl
                  have hat := own_at_of (d := ByteArray.empty) hB (k : Int) (by omega) (by omega)
                  have hst := own_store_of hB (k : Int) (⟨#[111, 116, 104, 101, 114]⟩ : ByteArray)
                  rw [Int.toNat_natCast] at hat hst
                  rw [fill_set k ⟨#[111, 116, 104, 101, 114]⟩ X hlt] at hst
                  have hca1 := hat.1
                  have hfa1 := hat.2
                  have hO : Only wr (wr.setCell ⟨gb, k, none⟩ (.string ⟨#[111, 116, 104, 101, 114]⟩)) (fun q => q = gb) := (Only.refl _ _).set rfl
                  have hX1 := Aside0.mk hst.1
                  have eA := HGA.out (by omega)
                  have hL1 := Aside0.mk (hL.only hO (fun q hq e => (HS.out q hq).2 (by rw [e]; rfl)) (fun h0 e => by subst eA; have := (SA.out ga rfl).2.1; omega))
                  have hR1 := Aside0.mk (hRs.only hO (fun q hq e => hF (e ▸ hq)) (fun q e => by omega))
                  have hk2 : (k : Int) < (X.length : Int) := Int.ofNat_lt.mpr hlt
                  have hge1 := Nat.le_trans hge hO.size
                  clear hL hB hat hst hO hRs
                  go_wp2_with fail
                  go_roundw
                  case rel => exact ⟨k + 1, ⟨by omega, hge1⟩, by go_num, hL1, hX1, hR1⟩
                  case measure => simp [intOf]; omega
                · obtain rfl : k = X.length := by omega
                  rw [List.drop_length, List.append_nil] at hB
                  have hM := LX.start hB HGB.out
                  have hsd : ∀ q, (Value.slice Ab X.length cb).ownBlock = some q → ¬ Fp S1 S2 (.slice Aw X.length cw) q ∧ (u14 : Value).ownBlock ≠ some q ∧ (0 < X.length → q ≠ ga) := fun q hq => ⟨(SB.out q hq).1, fun e => (HS.out q e).2 hq, fun h0 e => by have eA := HGA.out h0; subst eA; have h1 := (SA.out ga rfl).2.1; have h2 := (SB.out q hq).2; omega⟩
                  clear hB
                  go_wp2_with fail
                  go_loopw [17, 18] (fun vl i wr => ∃ j : Nat, (j ≤ 40 ∧ w3.heap.size ≤ wr.heap.size) ∧ i = .int .i64 j ∧ Aside0 (LX wr w2.heap.size gb X.length j ⟨#[111, 116, 104, 101, 114]⟩ vl) ∧ Aside0 (LX wr bz ga X.length 40 ⟨#[109, 105, 110, 101]⟩ u14) ∧ Aside0 (Rs wa wr g1 g2 n S1 S2 l (.slice Aw X.length cw) X) ∧ Aside0 (∀ q, vl.ownBlock = some q → ¬ Fp S1 S2 (.slice Aw X.length cw) q ∧ (u14 : Value).ownBlock ≠ some q ∧ (0 < X.length → q ≠ ga))) (fun _ i _ => 40 - (intOf i).toNat)
                  case atStart => exact ⟨0, ⟨by omega, hge⟩, rfl, ⟨hM⟩, ⟨hL⟩, ⟨hRs⟩, ⟨hsd⟩⟩
                  case round =>
                    clear hM hL hRs hsd hge HS
                    obtain ⟨j, ⟨hj, hge⟩, rfl, HM, HL, HRs, HS⟩ := hrel
                    have hM := HM.out
                    have hL := HL.out
                    have hRs := HRs.out
                    clear HM HL HRs
                    have hj0 : (0 : Int) ≤ j := Int.natCast_nonneg j
                    have hbz2 : w2.heap.size ≤ wr.heap.size := by omega
                    by_cases hlt : j < 40
                    · have hjI : (j : Int) < 40 := by omega
                      go_wp2_with (first
                        | (at_builtin; refine wp_app1 w2.heap.size rfl (.tmp 120) (.tmp 121) rfl Try.underlying22 (by kernel_rfl) _ _ _ _ rfl rfl hM.own hbz2 (by omega) ?_; intro v5 w5 ho hg hat; have hO5 := only_grown' hg; have hR5 := hRs.only hO5 (fun q hq e => (HS.out q e).1 hq) (fun q e => by have := (own_lt' hM.own q e).2; omega); have hL5 := hL.only hO5 (fun q hq e => (HS.out q e).2.1 hq) (fun h0 e => (HS.out ga e).2.2 h0 rfl); have hs5 := sep_app2 hRs hL HS.out hat; have hM5 := hM.app ho hg hat; have hge1 := Nat.le_trans hge hO5.size; clear ho hg hat hO5))
                      go_roundw
                      case rel => exact ⟨j + 1, ⟨by omega, hge1⟩, by go_num, ⟨hM5⟩, ⟨hL5⟩, ⟨hR5⟩, ⟨hs5⟩⟩
                      case measure => simp [intOf]; omega
                    · obtain rfl : j = 40 := by omega
                      obtain ⟨Ac, cc, hc14⟩ := own_slice hL.own
                      obtain ⟨Ad, cd, hd17⟩ := own_slice hM.own
                      subst hc14
                      subst hd17
                      have hRc : RS wr Ac (X.length + 40) (List.replicate (X.length + 40) ⟨#[109, 105, 110, 101]⟩) := own_reads_of' (d := ByteArray.empty) hL.own
                      have hRd : RS wr Ad (X.length + 40) (List.replicate (X.length + 40) ⟨#[111, 116, 104, 101, 114]⟩) := own_reads_of' (d := ByteArray.empty) hM.own
                      go_wp2_with fail
                      go_loopw [19] (fun i wz => ∃ k : Nat, k ≤ X.length + 40 ∧ i = .int .i64 k ∧ wz = wr) (fun i _ => X.length + 40 - (intOf i).toNat)
                      case atStart => exact ⟨0, Nat.zero_le _, rfl, rfl⟩
                      case round =>
                        obtain ⟨k, hk, rfl, ew⟩ := hrel
                        subst ew
                        have hk0 : (0 : Int) ≤ k := Int.natCast_nonneg k
                        by_cases hlt : k < X.length + 40
                        · have hk2 : (k : Int) < ((X.length + 40 : Nat) : Int) := Int.ofNat_lt.mpr hlt
                          have hk3 : (k : Int) < (X.length : Int) + 40 := by omega
                          obtain ⟨ac, sc, eAc, hcx, gsc⟩ := hRc.at_ k hlt
                          have esc : sc = ⟨#[109, 105, 110, 101]⟩ := by rw [← gsc]; simp [List.getD_eq_getElem?_getD, hlt]
                          obtain ⟨ad2, sd, eAd, hdx, gsd⟩ := hRd.at_ k hlt
                          have esd : sd = ⟨#[111, 116, 104, 101, 114]⟩ := by rw [← gsd]; simp [List.getD_eq_getElem?_getD, hlt]
                          subst eAc
                          subst eAd
                          subst esc
                          subst esd
                          clear gsc gsd
                          by_cases hkm : k < X.length
                          · have eA := HGA.out (by omega)
                            have eB := HGB.out (by omega)
                            subst eA
                            subst eB
                            have hax := hL.cells k hkm
                            have hbx := hM.cells k hkm
                            have hkX : (k : Int) < (X.length : Int) := Int.ofNat_lt.mpr hkm
                            go_wp2_with fail
                            go_roundw
                            case rel => exact ⟨k + 1, by omega, by go_num, trivial⟩
                            case measure => simp [intOf]; omega
                          · have hkX : ¬ (k : Int) < (X.length : Int) := by omega
                            go_wp2_with fail
                            go_roundw
                            case rel => exact ⟨k + 1, by omega, by go_num, trivial⟩
                            case measure => simp [intOf]; omega
                        · have hk5 : ¬ (k : Int) < ((X.length + 40 : Nat) : Int) := by omega
                          have hk6 : ¬ (k : Int) < (X.length : Int) + 40 := by omega
                          clear hL hM hRc hRd
                          go_wp2_with fail
                          clear hk5 hk6 hk hlt hk0
                          go_loopw [20] (fun i wz => ∃ (k : Nat) (S1 : Nat → Prop) (l : LS), k ≤ X.length ∧ i = .int .i64 k ∧ Aside0 (ks l = X.drop k ++ X.take k) ∧ Aside0 (Vs l) ∧ Aside0 (Rs wa wz g1 g2 n S1 S2 l (.slice Aw X.length cw) X)) (fun i _ => X.length - (intOf i).toNat)
                          case atStart => exact ⟨0, S1, l, Nat.zero_le _, rfl, ⟨by rw [List.drop_zero, List.take_zero, List.append_nil]; exact hX⟩, HV, ⟨hRs⟩⟩
                          case round =>
                            have HSX : Aside0 (∀ s ∈ X, s.size ≤ 140737488355328) := ⟨fun s hs => HSZ.out s (by rw [hX]; exact hs)⟩
                            clear hRs hX HV HSZ
                            obtain ⟨k, S1, l, hk, rfl, HK, HV, HRs⟩ := hrel
                            have hRs := HRs.out
                            clear HRs
                            have hk0 : (0 : Int) ≤ k := Int.natCast_nonneg k
                            by_cases hlt : k < X.length
                            · have hk2 : (k : Int) < (X.length : Int) := Int.ofNat_lt.mpr hlt
                              have hRw : RS _ Aw X.length X := own_reads_of' (d := ByteArray.empty) hRs.w
                              obtain ⟨aw, s, eAw, hwx, gsw⟩ := hRw.at_ k hlt
                              subst eAw
                              have hsX : s ∈ X := by rw [← gsw]; simp [List.getD_eq_getElem?_getD, hlt]
                              have hmem : s ∈ ks l := by
                                rw [HK.out]
                                have h2 : s ∈ X.take k ++ X.drop k := by rw [List.take_append_drop]; exact hsX
                                rcases List.mem_append.1 h2 with h | h
                                · exact List.mem_append_right _ h
                                · exact List.mem_append_left _ h
                              have hsz0 := HSX.out s hsX
                              have hsz : s.size ≤ maxLen := by unfold maxLen; omega
                              have hsb : ¬ 9223372036854775807 < s.size + 1 := by omega
                              obtain ⟨s2, hs2⟩ : ∃ s2, s ++ ⟨#[33]⟩ = s2 := ⟨_, rfl⟩
                              have hv : val s l = some s2 := hs2 ▸ HV.out.val_ hmem
                              have HV2 := Aside0.mk (HV.out.get s)
                              rw [hs2] at HV2
                              have HK2 := Aside0.mk (ks_turn hlt hnd HK.out gsw s2)
                              go_upto_region 44 with (first
                                | (go_at_call 22; refine (tgetS_some hRs.t hv).mono ?_; rintro r w8 ⟨S8, rfl, hT8, hN8⟩; have hRs8 := hRs.step hT8 hN8; have hwx8 := only_cell hN8.only hwx (fun c => want_apart hRs hlt c)))
                              go_upto_region 45 with (first
                                | (go_at_call 22; refine (tgetS_none hRs8.u rfl hsz).mono ?_; rintro r w9 ⟨rfl, ew9⟩; have ew9 := ew9.symm; subst ew9))
                              go_wp2_with fail
                              go_roundw
                              case rel => exact ⟨k + 1, S8, _, by omega, by go_num, HK2, HV2, ⟨hRs8⟩⟩
                              case measure => simp [intOf]; omega
                            · obtain rfl : k = X.length := by omega
                              have hX2 := HK.out
                              rw [List.drop_length, List.nil_append, List.take_length] at hX2
                              go_wp2_with (first
                                | (go_at_call 23; refine (tpeekS_none hRs.u rfl (Nat.zero_le _)).mono ?_; rintro r w8 ⟨rfl, ew8⟩; have ew8 := ew8.symm; subst ew8)
                                | (go_at_call 20; refine (tkeysS hRs.t).mono ?_; rintro r w9 ⟨v9, rfl, hk9, hb9⟩; rw [hX2] at hk9; have hRs := hRs.below hb9; obtain ⟨A9, c9, rfl, _, hR9⟩ := own_rs hk9; clear hb9 hk9)
                                | (go_at_call 21; refine (texts_calls _ A9 Aw c9 cw X.length X hR9 (own_reads_of' (d := ByteArray.empty) hRs.w)).mono ?_; rintro r w10 ⟨rfl, hb10⟩; have hRs := hRs.below hb10; clear hb10)
                                | ((with_reducible refine gate_callee (f := 24) rfl ?_); (try (refine gate_guard (by rfl) ?_; dsimp only)); refine goesL_ _ rfl rfl Try.func24 (by kernel_rfl) rfl _ rfl (by (try simp only [List.map_toArray, List.map_cons, List.map_nil]); first | done | rfl) ?_; refine (tlenS hRs.u).mono ?_; rintro r w11 ⟨rfl, ew11⟩; refine ⟨_, rfl, ?_⟩; have ew11 := ew11.symm; subst ew11))
                              go_ret
                              exact ⟨rfl, below_step hba hRs.bel⟩
end Go.Proofs.Ytlainhbmfphojaa.Tb
