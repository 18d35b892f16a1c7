/- Proved: the walks of num, texts, alive. -/
import Derived.Test.YtlainhbmfphojaaTb7
namespace Go.Proofs.Ytlainhbmfphojaa.Tb
open Go.RowKit Go.Maps Go.Proofs.YtlainhbmfphojaaW.PrintWords Go.Proofs.YtlainhbmfphojaaW.PrintLast Go.Proofs.YtlainhbmfphojaaW.PrintMore
set_option linter.unusedVariables false
set_option linter.unusedSimpArgs false

abbrev RS (w : World) (A : Option Addr) (n : Nat) (l : List ByteArray) : Prop := ReadsOf (fun x : ByteArray => Value.string x) ByteArray.empty w A n l
theorem num_calls (z : Int) (w : World) : Calls Try.prog 13 #[.int .i64 z] w fun r w' => r = .returned (.int .i64 z) ∧ w' = w := by
  go_enter Try.func13, Try.ntmps13
  go_wp2
  go_ret
  exact ⟨rfl, rfl⟩
theorem RS.below {w w' : World} {A : Option Addr} {n : Nat} {l : List ByteArray} (h : RS w A n l) (hb : Below w.heap.size w w') : RS w' A n l := ⟨h.1, h.2.1, fun h0 => by
  obtain ⟨ad, e, hc⟩ := h.2.2 h0
  exact ⟨ad, e, fun j hj => (hb.cell (World.block_lt_of_cell? w _ (hc j hj))).trans (hc j hj)⟩⟩
theorem RS.at_ {w : World} {A : Option Addr} {n : Nat} {l : List ByteArray} (h : RS w A n l) (k : Nat) (hk : k < n) : ∃ ad s, A = some ad ∧ w.cell? (ad.add k) = some (.string s) ∧ l.getD k ByteArray.empty = s := by
  obtain ⟨ad, e, hc⟩ := h.2.2 (by omega)
  exact ⟨ad, _, e, hc k hk, rfl⟩
set_option maxHeartbeats 4000000 in
set_option maxRecDepth 100000 in
theorem texts_calls (w : World) (A B : Option Addr) (c d : Nat) (n : Nat) (l : List ByteArray) (hA : RS w A n l) (hB : RS w B n l) : Calls Try.prog 21 #[.slice A n c, .slice B n d] w fun r w' => r = .returned (.bool true) ∧ Below w.heap.size w w' := by
  have hu22 := Try.underlying22
  have hu9 := Try.underlying9
  have hnn : (n : Int) ≤ 9223372036854775807 := by have := hA.2.1; omega
  go_enter Try.func21, Try.ntmps21
  go_wp2_with fail
  go_loopw [5] (fun i wr => ∃ k : Nat, k ≤ n ∧ i = .int .i64 k ∧ Aside0 (Below w.heap.size w wr)) (fun i _ => n - (intOf i).toNat)
  case atStart => exact ⟨0, Nat.zero_le _, rfl, ⟨Below.refl _ _⟩⟩
  case round =>
    obtain ⟨k, hk, rfl, HB⟩ := hrel
    have hk0 : (0 : Int) ≤ k := Int.natCast_nonneg k
    have hBw := HB.out
    clear HB
    by_cases hlt : k < n
    · have hk2 : (k : Int) < (n : Int) := Int.ofNat_lt.mpr hlt
      obtain ⟨aA, s, e1, hx, g1⟩ := (hA.below hBw).at_ k hlt
      obtain ⟨bA, s2, e2, hy, g2⟩ := (hB.below hBw).at_ k hlt
      rw [g1] at g2
      subst e1 e2 g2
      clear g1
      go_wp2_with fail
      refine start_ (n := 9) (S := fun w' => w'.cell? (aA.add k) = some (.string s) ∧ w'.cell? (bA.add k) = some (.string s)) (ds := []) #[false, false, false, false, false, false, false, false, false] (by kernel_rfl) rfl rfl ⟨hx, hy⟩ (fun hHeld => ?_)
      refine pure_ (i := 0) (N := some 17) (v := ?_) (a' := ?_) #[true, false, false, false, false, false, false, false, false] rfl rfl (by kernel_rfl) (fun _ _ _ h => h) (Or.inl ⟨by rfl, ?_⟩) ?_ ?_
      rotate_left
      · intro w'
        go_simp
        with_reducible rfl
      rotate_left
      · simp only [Act.put, List.setIfInBounds_toArray, List.set_cons_zero, List.set_cons_succ, i64_w, i32_w]
        rfl
      refine pure_ (i := 1) (N := some 18) (v := ?_) (a' := ?_) #[true, true, false, false, false, false, false, false, false] rfl rfl (by kernel_rfl) (fun _ _ _ h => h) (Or.inl ⟨by rfl, ?_⟩) ?_ ?_
      rotate_left
      · intro w'
        go_simp
        with_reducible rfl
      rotate_left
      · simp only [Act.put, List.setIfInBounds_toArray, List.set_cons_zero, List.set_cons_succ, i64_w, i32_w]
        rfl
      refine pure_ (i := 2) (N := some 19) (v := ?_) (a' := ?_) #[true, true, true, false, false, false, false, false, false] rfl rfl (by kernel_rfl) (fun _ _ _ h => h) (Or.inl ⟨by rfl, ?_⟩) ?_ ?_
      rotate_left
      · intro w'
        go_simp
        with_reducible rfl
      rotate_left
      · simp only [Act.put, List.setIfInBounds_toArray, List.set_cons_zero, List.set_cons_succ, i64_w, i32_w]
        rfl
      refine pure_ (i := 4) (N := some 21) (v := ?_) (a' := ?_) #[true, true, true, false, true, false, false, false, false] rfl rfl (by kernel_rfl) (fun _ _ _ h => h) (Or.inl ⟨by rfl, ?_⟩) ?_ ?_
      rotate_left
      · intro w'
        go_simp
        with_reducible rfl
      rotate_left
      · simp only [Act.put, List.setIfInBounds_toArray, List.set_cons_zero, List.set_cons_succ, i64_w, i32_w]
        rfl
      refine pure_ (i := 5) (N := some 22) (v := ?_) (a' := ?_) #[true, true, true, false, true, true, false, false, false] rfl rfl (by kernel_rfl) (fun _ _ _ h => h) (Or.inl ⟨by rfl, ?_⟩) ?_ ?_
      rotate_left
      · intro w'
        go_simp
        with_reducible rfl
      rotate_left
      · simp only [Act.put, List.setIfInBounds_toArray, List.set_cons_zero, List.set_cons_succ, i64_w, i32_w]
        rfl
      refine pure_ (i := 6) (N := some 23) (v := ?_) (a' := ?_) #[true, true, true, false, true, true, true, false, false] rfl rfl (by kernel_rfl) (fun _ _ _ h => h) (Or.inl ⟨by rfl, ?_⟩) ?_ ?_
      rotate_left
      · intro w'
        go_simp
        with_reducible rfl
      rotate_left
      · simp only [Act.put, List.setIfInBounds_toArray, List.set_cons_zero, List.set_cons_succ, i64_w, i32_w]
        rfl
      refine take_ (i := 3) (N := some 20) (v := ?_) (a' := ?_) #[true, true, true, true, true, true, true, false, false] rfl rfl (by kernel_rfl) (fun _ _ _ h => h) (Or.inl ⟨by rfl, ?_⟩) hHeld ?_ ?_
      rotate_left
      · rintro w' ⟨s0, s1⟩
        go_simp
        with_reducible rfl
      rotate_left
      · simp only [Act.put, List.setIfInBounds_toArray, List.set_cons_zero, List.set_cons_succ, i64_w, i32_w]
        rfl
      refine take_ (i := 7) (N := some 24) (v := ?_) (a' := ?_) #[true, true, true, true, true, true, true, true, false] rfl rfl (by kernel_rfl) (fun _ _ _ h => h) (Or.inl ⟨by rfl, ?_⟩) hHeld ?_ ?_
      rotate_left
      · rintro w' ⟨s0, s1⟩
        go_simp
        with_reducible rfl
      rotate_left
      · simp only [Act.put, List.setIfInBounds_toArray, List.set_cons_zero, List.set_cons_succ, i64_w, i32_w]
        rfl
      refine pure_ (i := 8) (N := some 25) (v := ?_) (a' := ?_) #[true, true, true, true, true, true, true, true, true] rfl rfl (by kernel_rfl) (fun _ _ _ h => h) (Or.inl ⟨by rfl, ?_⟩) ?_ ?_
      rotate_left
      · intro w'
        go_simp
        with_reducible rfl
      rotate_left
      · simp only [Act.put, List.setIfInBounds_toArray, List.set_cons_zero, List.set_cons_succ, i64_w, i32_w]
        rfl
      refine done_ (by kernel_rfl) ?_
      go_wp2
      go_roundw
      case rel => exact ⟨k + 1, by omega, by go_num, ⟨below_drew1 hBw⟩⟩
      case measure => simp [intOf]; omega
    · obtain rfl : k = n := by omega
      go_wp2_with fail
      go_ret
      exact ⟨rfl, hBw⟩

abbrev LI : Type := List (ByteArray × Int)
theorem al1 : putL 2 ([] : LI) ⟨#[97]⟩ 1 = [(⟨#[97]⟩, 1)] := by kernel_rfl
theorem al2 : putL 2 ([(⟨#[97]⟩, 1)] : LI) ⟨#[98]⟩ 2 = [(⟨#[97]⟩, 1), (⟨#[98]⟩, 2)] := by kernel_rfl
theorem al3 : rm ⟨#[97]⟩ ([(⟨#[97]⟩, 1), (⟨#[98]⟩, 2)] : LI) ++ [(⟨#[97]⟩, 1)] = [(⟨#[98]⟩, 2), (⟨#[97]⟩, 1)] := by kernel_rfl
theorem al4 : putL 2 ([(⟨#[98]⟩, 2), (⟨#[97]⟩, 1)] : LI) ⟨#[99]⟩ 3 = [(⟨#[97]⟩, 1), (⟨#[99]⟩, 3)] := by kernel_rfl
theorem al5 : goneL 2 ([(⟨#[98]⟩, 2), (⟨#[97]⟩, 1)] : LI) ⟨#[99]⟩ = ⟨#[98]⟩ ∧ wentL 2 ([(⟨#[98]⟩, 2), (⟨#[97]⟩, 1)] : LI) ⟨#[99]⟩ = true := ⟨by kernel_rfl, by kernel_rfl⟩
theorem al6 : rm ⟨#[97]⟩ ([(⟨#[97]⟩, 1), (⟨#[99]⟩, 3)] : LI) = [(⟨#[99]⟩, 3)] := by kernel_rfl
theorem al7 : val ⟨#[97]⟩ ([(⟨#[97]⟩, 1), (⟨#[98]⟩, 2)] : LI) = some 1 ∧ val ⟨#[97]⟩ ([(⟨#[97]⟩, 1), (⟨#[99]⟩, 3)] : LI) = some 1 ∧ val ⟨#[97]⟩ ([(⟨#[99]⟩, 3)] : LI) = none := ⟨by kernel_rfl, by kernel_rfl, by kernel_rfl⟩
theorem lit2 (w : World) (a b : ByteArray) : RS (w.alloc (.cells #[.string a, .string b] 9)) (some ⟨w.heap.size, 0, none⟩) 2 [a, b] := by
  obtain ⟨A, c, e, h⟩ := own_reads_of (d := ByteArray.empty) (own_lit_of (enc := fun x : ByteArray => Value.string x) w 0 9 [a, b] (Nat.zero_le _) (by simp))
  injection e with e1 e2 e3
  subst e1
  exact h
theorem own_rs {w : World} {base n : Nat} {v : Value} {l : List ByteArray} (h : w.ownsRow base 9 1 v n (encs (fun x : ByteArray => Value.string x) l)) : ∃ A c, v = .slice A n c ∧ n ≤ c ∧ RS w A n l := own_reads_of_le h
set_option maxHeartbeats 4000000 in
set_option maxRecDepth 100000 in
theorem alive_calls (w : World) : Calls Try.prog 7 #[] w fun r w' => r = .returned (.bool true) ∧ Below w.heap.size w w' := by
  have hu9 := Try.underlying9
  have hu22 := Try.underlying22
  have hs : ∀ x : UInt8, (⟨#[x]⟩ : ByteArray).size ≤ maxLen := fun x => by show 1 ≤ maxLen; decide
  go_enter Try.func7, Try.ntmps7
  go_wp2_with (first
    | (go_at_call 8; refine (tnewI _ 2 (by decide) (by decide)).mono ?_; rintro r w1 ⟨g, S, rfl, hT, hB⟩)
    | (go_at_call 13; refine (num_calls _ _).mono ?_; rintro r w2 ⟨rfl, rfl⟩)
    | (go_at_call 9; refine (tputI hT (hs _)).mono ?_; rintro r w3 ⟨S2, rfl, hT2, hN⟩; rw [al1] at hT2; have hB := hN.below hT hB; have hT := hT2; clear hT2 hN)
    | (go_at_call 9; refine (tputI hT (hs _)).mono ?_; rintro r w4 ⟨S3, rfl, hT2, hN⟩; rw [al2] at hT2; have hB := hN.below hT hB; have hT := hT2; clear hT2 hN)
    | (go_at_call 10; refine (tgetI_some hT al7.1).mono ?_; rintro r w5 ⟨S4, rfl, hT2, hN⟩; rw [al3] at hT2; have hB := hN.below hT hB; have hT := hT2; clear hT2 hN)
    | (go_at_call 9; refine (tputI hT (hs _)).mono ?_; rintro r w6 ⟨S5, rfl, hT2, hN⟩; rw [al4] at hT2; rw [al5.1, al5.2]; have hB := hN.below hT hB; have hT := hT2; clear hT2 hN)
    | ((with_reducible refine gate_callee (f := 12) rfl ?_); (try (refine gate_guard (by rfl) ?_; dsimp only)); refine goesL_ _ rfl rfl Try.func12 (by kernel_rfl) rfl _ rfl (by (try simp only [List.map_toArray, List.map_cons, List.map_nil]); first | done | rfl) ?_; refine (tkeysI hT).mono ?_; rintro r w7 ⟨v, rfl, hk, hb⟩; refine ⟨_, rfl, ?_⟩; obtain ⟨A, c, rfl, _, hR⟩ := own_rs hk; have hB := below_step hB hb; have hT := hT.below hb; clear hb hk)
    | ((with_reducible refine gate_callee (f := 21) rfl ?_); (try (refine gate_guard (by rfl) ?_; dsimp only)); refine goesL_ _ rfl rfl Try.func21 (by kernel_rfl) rfl _ rfl (by (try simp only [List.map_toArray, List.map_cons, List.map_nil]); first | done | rfl) ?_; refine (texts_calls _ A _ c 2 2 [⟨#[97]⟩, ⟨#[99]⟩] (hR.below ((Below.refl _ _).alloc (Nat.le_refl _) _)) (lit2 _ _ _)).mono ?_; rintro r w8 ⟨rfl, hb⟩; refine ⟨_, rfl, ?_⟩; have hT := (hT.below ((Below.refl _ _).alloc (Nat.le_refl _) _)).below hb; have hB := below_step (hB.alloc hB.size _) hb; clear hb)
    | ((with_reducible refine gate_callee (f := 28) rfl ?_); (try (refine gate_guard (by rfl) ?_; dsimp only)); refine goesL_ _ rfl rfl Try.func28 (by kernel_rfl) rfl _ rfl (by (try simp only [List.map_toArray, List.map_cons, List.map_nil]); first | done | rfl) ?_; refine (tdeleteI_some hT al7.2.1).mono ?_; rintro r w9 ⟨S6, rfl, hT2, hN⟩; refine ⟨_, rfl, ?_⟩; rw [al6] at hT2; have hB := hN.below hT hB; have hT := hT2; clear hT2 hN)
    | ((with_reducible refine gate_callee (f := 28) rfl ?_); (try (refine gate_guard (by rfl) ?_; dsimp only)); refine goesL_ _ rfl rfl Try.func28 (by kernel_rfl) rfl _ rfl (by (try simp only [List.map_toArray, List.map_cons, List.map_nil]); first | done | rfl) ?_; refine (tdeleteI_none hT al7.2.2 (hs _)).mono ?_; rintro r w10 ⟨rfl, rfl⟩; refine ⟨_, rfl, ?_⟩))
  go_ret
  exact ⟨rfl, hB⟩
end Go.Proofs.Ytlainhbmfphojaa.Tb
