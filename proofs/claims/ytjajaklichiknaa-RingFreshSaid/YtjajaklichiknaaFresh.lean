/- Proved: the walk of RingFresh: true for every input. -/
import Derived.Test.YtjajaklichiknaaRows2
namespace Go.Proofs.Ytjajaklichiknaa.Rg
open Go.RowKit Go.Proofs.YtjajaklichiknaaW.PrintWords Go.Proofs.YtjajaklichiknaaW.PrintLast Go.Proofs.YtjajaklichiknaaW.PrintMore
set_option linter.unusedVariables false
set_option linter.unusedSimpArgs false

theorem new_at (w : World) (s : Int) (n : Nat) (hs : s = n) (h0 : 0 < n) (h1 : n ≤ 4096) : Calls Try.prog 9 #[.int .i64 s] w fun e w' => ∃ g gt, e = .returned (.tuple #[.pointer (some ⟨g, 0, none⟩), .int .i64 0]) ∧ RQ w' g gt n [] ∧ w.heap.size ≤ g ∧ w.heap.size ≤ gt ∧ g ≠ gt ∧ Below w.heap.size w w' := by
  subst hs
  exact new_ok w n h0 h1
theorem take_full (w : World) {g gt n : Nat} {q : List Int} (h : RQ w g gt n q) (k : Int) (hk0 : -9223372036854775808 ≤ k) (hk1 : k ≤ 9223372036854775807) : Calls Try.prog 12 #[.pointer (some ⟨g, 0, none⟩), .int .i64 k] w fun e w' => ∃ xs r A c, e = .returned (.slice A xs.length c) ∧ Aside0 (xs ++ r = q ∧ xs.length = min k.toNat q.length) ∧ w'.ownsRow w.heap.size 3 1 (.slice A xs.length c) xs.length (encs ei xs) ∧ RQ w' g gt n r ∧ Only w w' (fun k => k = g ∨ k = gt) := by
  refine (take_calls w h k hk0 hk1).mono ?_
  rintro e w' ⟨v, rfl, hT⟩
  obtain ⟨A, c, rfl⟩ := own_slice hT.own
  exact ⟨_, _, A, c, rfl, ⟨List.take_append_drop _ _, List.length_take⟩, hT.own, hT.ring, hT.only⟩
theorem y_of {l xs q1 ys q2 : List Int} {k : Nat} (h1 : xs ++ q1 = l) (h2 : ys ++ q2 = q1) (hk : k < ys.length) : l.getD (xs.length + k) 0 = ys.getD k 0 := by
  rw [← h1, ← h2, List.getD_eq_getElem?_getD, List.getD_eq_getElem?_getD, List.getElem?_append_right (by omega), Nat.add_sub_cancel_left, List.getElem?_append_left hk]
theorem only_grown' {w w1 : World} {gy : Nat} (hg : w.grownBy w1 (some gy)) : Only w w1 (fun k => k = gy) := ⟨hg.os, hg.tape, hg.output, hg.size, fun k hk hs => hg.block k hk (fun e => by injection e with e; exact hs e)⟩
theorem Only.of_drew {w w1 : World} {S : Nat → Prop} (h : Only w.drew w1 S) : Only w w1 S := ⟨h.os, h.tape, h.output, h.size, h.block⟩
theorem Below.below_of {w wc wy wr : World} {b : Nat} (h : Below b wy wr) (h1 : Below w.heap.size w wy) (h2 : w.heap.size ≤ b) : Below w.heap.size w wr :=
  ⟨h.os.trans h1.os, h.tape.trans h1.tape, h.output.trans h1.output, Nat.le_trans h1.size h.size, fun k hk => (h.block k (Nat.lt_of_lt_of_le hk h2)).trans (h1.block k hk)⟩
theorem z_len {zs q3 r : List Int} (h1 : zs ++ q3 = r) (h2 : zs.length = min (4096 : Int).toNat r.length) (hr : r.length ≤ 4096) : zs.length ≤ r.length ∧ r.length ≤ zs.length := by
  rw [h2]
  omega
theorem z_get {l xs q1 ys q2 zs q3 : List Int} {k m : Nat} (h1 : xs ++ q1 = l) (h2 : ys ++ q2 = q1) (h3 : zs ++ q3 = q2 ++ List.replicate m 77) (hk : k < zs.length) : zs.getD k 0 = (q2 ++ List.replicate m 77).getD k 0 ∧ l.length = xs.length + ys.length + q2.length := by
  refine ⟨?_, by rw [← h1, ← h2]; simp; omega⟩
  rw [← h3, List.getD_eq_getElem?_getD, List.getD_eq_getElem?_getD, List.getElem?_append_left hk]
theorem z_in {l xs q1 ys q2 zs q3 : List Int} {k m : Nat} (h1 : xs ++ q1 = l) (h2 : ys ++ q2 = q1) (h3 : zs ++ q3 = q2 ++ List.replicate m 77) (hin : xs.length + ys.length + k < l.length) (hk : k < zs.length) : l.getD (xs.length + ys.length + k) 0 = zs.getD k 0 := by
  obtain ⟨e1, e2⟩ := z_get h1 h2 h3 hk
  rw [e1, ← h1, ← h2, List.getD_eq_getElem?_getD, List.getD_eq_getElem?_getD, List.getElem?_append_right (by omega), List.getElem?_append_right (by omega), List.getElem?_append_left (by omega)]
  congr 2
  omega
theorem z_out {l xs q1 ys q2 zs q3 : List Int} {k m : Nat} (h1 : xs ++ q1 = l) (h2 : ys ++ q2 = q1) (h3 : zs ++ q3 = q2 ++ List.replicate m 77) (hin : ¬ xs.length + ys.length + k < l.length) (hk : k < zs.length) : zs.getD k 0 = 77 := by
  obtain ⟨e1, e2⟩ := z_get h1 h2 h3 hk
  have hl : zs.length ≤ q2.length + m := by
    have := congrArg List.length h3
    simp at this
    omega
  rw [e1, List.getD_eq_getElem?_getD, List.getElem?_append_right (by omega)]
  simp [show k - q2.length < m by omega]
theorem z_bound {l xs q1 ys q2 zs : List Int} (h1 : xs ++ q1 = l) (h2 : ys ++ q2 = q1) (hl : l.length ≤ 4000) (h : zs.length ≤ (q2 ++ List.replicate 10 (77 : Int)).length) : (zs.length : Int) ≤ 8000 := by
  have e1 := congrArg List.length h1
  have e2 := congrArg List.length h2
  rw [List.length_append] at e1 e2 h
  rw [List.length_replicate] at h
  omega
theorem rep_get (n : Nat) (c : Int) (k : Nat) (h : k < n) : (List.replicate n c).getD k 0 = c := by simp [List.getD_eq_getElem?_getD, h]
theorem eq_s (t : TypeId) (s : ByteArray) : binOp .eql t (.string s) (.string s) = pure (.bool true) := by
  have h := binOp_string_eql t s s
  rw [h, beq_self_eq_true]
theorem pop_a (w : World) {g gt n : Nat} (h : Rs.RQ w g gt n ([] ++ [⟨#[97]⟩] ++ [⟨#[98]⟩])) : Calls Try.prog 19 #[.pointer (some ⟨g, 0, none⟩)] w fun e w' => ∃ s : ByteArray, e = .returned (.tuple #[.string s, .bool true]) ∧ (∀ t, binOp .eql t (.string s) (.string ⟨#[97]⟩) = pure (.bool true)) ∧ Rs.RQ w' g gt n [⟨#[98]⟩] ∧ Only w w' (fun k => k = g ∨ k = gt) := by
  refine (Rs.popq_some w h _ _ rfl).mono ?_
  rintro e w' ⟨rfl, h1, h2⟩
  exact ⟨_, rfl, fun t => eq_s t _, h1, h2⟩
theorem pop_none_lit (w : World) {g gt n : Nat} (h : Rs.RQ w g gt n []) : Calls Try.prog 19 #[.pointer (some ⟨g, 0, none⟩)] w fun e w' => ∃ s : ByteArray, e = .returned (.tuple #[.string s, .bool false]) ∧ (∀ t, binOp .eql t (.string s) (.string ⟨#[]⟩) = pure (.bool true)) ∧ Drawn0 w w' := by
  refine (Rs.popq_none w h rfl).mono ?_
  rintro e w' ⟨rfl, h1⟩
  exact ⟨_, rfl, fun t => eq_s t _, h1⟩
def Sep (v1 v2 : Value) : Prop := ∀ k, v1.ownBlock = some k → v2.ownBlock ≠ some k
theorem Sep.app {w w1 : World} {v1 v2 v2' : Value} (h : Sep v1 v2) (hat : (v2'.ownBlock = v2.ownBlock ∧ v2.ownBlock ≠ none) ∨ (∃ b, v2'.ownBlock = some b ∧ w.heap.size ≤ b) ∧ Below w.heap.size w w1) (hlt : ∀ k, v1.ownBlock = some k → k < w.heap.size) : Sep v1 v2' := fun k hk e => by
  rcases hat with ⟨e1, _⟩ | ⟨⟨b, e1, hb⟩, _⟩
  · exact h k hk (e1.symm.trans e)
  · have := hlt k hk
    rw [e1] at e
    injection e with e
    omega
theorem Sep.symm {v1 v2 : Value} (h : Sep v1 v2) : Sep v2 v1 := fun k hk e => h k e hk
theorem own_up2 {w w1 : World} {b n size : Nat} {e : TypeId} {v v' : Value} {xs : List Value} (h : w.ownsRow b e size v n xs) (hg : w.grownBy w1 v'.ownBlock) (hs : Sep v v') : w1.ownsRow b e size v n xs :=
  (only_grown hg).own h fun k hk => hs k hk
theorem own_front {w : World} {base n c : Nat} {A : Option Addr} {xs : List Value} (h : w.ownsRow base 3 1 (.slice A n c) n xs) : ∃ g, (0 < n → A = some ⟨g, 0, none⟩) ∧ (0 < n → base ≤ g ∧ g < w.heap.size) := by
  rcases Nat.eq_zero_or_pos n with h0 | h0
  · exact ⟨0, fun h => absurd h (by omega), fun h => absurd h (by omega)⟩
  · obtain ⟨g, c', e, hb, hlt⟩ := h.form h0
    injection e with e1 e2 e3
    subst e1
    exact ⟨g, fun _ => rfl, fun _ => ⟨hb, own_lt h g rfl⟩⟩
theorem LX.start {w : World} {b g n c : Nat} {A : Option Addr} {m : Int} (h : w.ownsRow b 3 1 (.slice A n c) n (encs ei (List.replicate n m))) (hA : 0 < n → A = some ⟨g, 0, none⟩) : LX w b g n 0 m (.slice A n c) := by
  refine ⟨h, fun i hi => ?_, fun h0 => ?_⟩
  · have e := hA (by omega)
    subst e
    have := (own_at_of (d := 0) h (i : Int) (by omega) (by omega)).1
    simp only [Int.toNat_natCast, rdOf] at this
    rw [this]
    simp [List.getD_eq_getElem?_getD, hi]
  · have e := hA h0
    subst e
    exact own_lt h g rfl
set_option maxHeartbeats 8000000 in
set_option maxRecDepth 100000 in
theorem fresh_ok (w : World) (A : Option Addr) (cap : Nat) (l : List Int) (hl : l.length ≤ 4000) (a b : Int) (ha0 : -9223372036854775808 ≤ a) (ha1 : a ≤ 9223372036854775807) (hb0 : -9223372036854775808 ≤ b) (hb1 : b ≤ 9223372036854775807) (HR0 : ReadsOf ei 0 w A l.length l) : Calls Try.prog 4 #[.slice A l.length cap, .int .i64 a, .int .i64 b] w fun e w' => e = .returned (.bool true) ∧ Below w.heap.size w w' := by
  have hu22 := Try.underlying22
  have hB := Below.refl w.heap.size w
  have hll : (l.length : Int) ≤ 4000 := by omega
  go_enter Try.func4, Try.ntmps4
  go_wp2_with (first
    | (go_at_call 8; refine (alive_calls _).mono ?_; rintro e w1 ⟨rfl, hb⟩; have hB := below_step hB hb; have hB0 := hB.size; clear hb)
    | (go_at_call 9; refine (new_at _ ((l.length : Int) + 20) (l.length + 20) (by omega) (by omega) (by omega)).mono ?_; rintro e wn ⟨g, gt, rfl, hR, hg, hgt, hne, hb⟩; have hB := below_step hB hb; have hAb := above_two (Nat.le_trans hB0 hg) (Nat.le_trans hB0 hgt); have hnsz := hb.size; clear hb hg hgt)
    | (go_at_call 17; refine (Rs.new_ok _ 2 (by decide) (by decide)).mono ?_; rintro e wb ⟨sg, sgt, rfl, hSQ, hsg, hsgt, hsne, hb⟩; have hB := below_step hB hb; have hrl := hR.lt; have hR := hR.below hb; have hAs := above_two (Nat.le_trans (Nat.le_trans hB0 hnsz) hsg) (Nat.le_trans (Nat.le_trans hB0 hnsz) hsgt); clear hb))
  obtain ⟨hrl1, hrl2⟩ := hrl
  obtain ⟨hsl1, hsl2⟩ := hSQ.lt
  have hwn : wn.heap.size ≤ wb.heap.size := Nat.le_of_lt (Nat.lt_of_le_of_lt hsg hsl1)
  go_loopw [11] (fun i wr => ∃ k : Nat, k ≤ l.length ∧ i = .int .i64 k ∧ Aside0 (RQ wr g gt (l.length + 20) (l.take k)) ∧ Aside0 (Only wb wr (fun k => k = g ∨ k = gt))) (fun i _ => l.length - (intOf i).toNat)
  case atStart => exact ⟨0, Nat.zero_le _, rfl, ⟨hR⟩, ⟨Only.refl _ _⟩⟩
  case round =>
    clear hR
    obtain ⟨k, hk, rfl, HR, HO⟩ := hrel
    have hR := HR.out
    have hO := HO.out
    clear HR HO
    by_cases hlt : k < l.length
    · obtain ⟨ad, eA, hcell⟩ := HR0.2.2 (by omega)
      subst eA
      have hcl := pw_cell_below (hO.below hB hB.size hAb) (hcell k hlt)
      obtain ⟨z, hz⟩ : ∃ z, l.take k ++ [z] = l.take (k + 1) ∧ l.getD k 0 = z := ⟨_, take_snoc l k hlt, rfl⟩
      rw [hz.2] at hcl
      have hz := hz.1
      clear hcell
      have hroom : (l.take k).length < l.length + 20 := by rw [List.length_take]; omega
      have hk2 : (k : Int) < (l.length : Int) := Int.ofNat_lt.mpr hlt
      have hk0 : (0 : Int) ≤ k := Int.natCast_nonneg k
      go_wp2_with (first
    | (go_at_call 11; refine (pushq_room _ hR _ hroom).mono ?_; rintro e w9 ⟨rfl, hR, hO1⟩; rw [hz] at hR; have hO := hO.then hO1; clear hO1))
      go_roundw
      case rel => exact ⟨k + 1, by omega, by go_num, ⟨hR⟩, ⟨hO⟩⟩
      case measure => simp [intOf]; omega
    · have hke : l.length = k := by omega
      subst hke
      rw [List.take_length] at hR
      have hwbc : wb.heap.size ≤ wr.heap.size := hO.size
      have hwcs : w.heap.size ≤ wr.heap.size := Nat.le_trans hB.size hO.size
      generalize wr = wc at *
      have hbx1 : g < wc.heap.size := hR.lt.1
      have hbx2 : gt < wc.heap.size := hR.lt.2
      go_wp2_with fail
      refine (take_full _ hR a ha0 ha1).mono ?_
      rintro e wx ⟨xs, q1, Ax, cx, rfl, hxq, hX, hR1, hO1⟩
      have hO := hO.then hO1
      have hxsz := hO1.size
      clear hO1 hR
      go_wp2_with fail
      refine (take_full _ hR1 b hb0 hb1).mono ?_
      rintro e wy ⟨ys, q2, Ay, cy, rfl, hyq, hY, hR, hO2⟩
      obtain ⟨gx, hgx, hgx2⟩ := own_front hX
      have hXlt := own_lt hX
      have hX := hO2.own hX (own_far hX hbx1 hbx2)
      have hO := hO.then hO2
      have hysz := hO2.size
      clear hO2 hR1
      have hbxy : wc.heap.size ≤ wy.heap.size := Nat.le_trans hxsz hysz
      obtain ⟨gy, hgy, hgy2⟩ := own_front hY
      have hxn : xs.length ≤ l.length := by have := hxq.out.2; omega
      have hyn : xs.length + ys.length ≤ l.length := by have h1 := hxq.out.1; have h2 := hyq.out.1; rw [← h1, ← h2]; simp
      have hbwy : Below w.heap.size w wy := hO.below hB hB.size hAb
      have hbwc : w.heap.size ≤ wc.heap.size := hwcs
      have hBx : Below wc.heap.size wy wy := Below.refl _ _
      have hsep : Sep (.slice Ay ys.length cy) (.slice Ax xs.length cx) := fun k hk e => by
        have h1 := own_base hY k hk
        have h2 := hXlt k e
        omega
      go_wp2_with fail
      go_loopw [14] (fun i wr => ∃ k : Nat, k ≤ xs.length ∧ i = .int .i64 k ∧ Aside0 (wr.ownsRow wc.heap.size 3 1 (.slice Ax xs.length cx) xs.length (encs ei (List.replicate k (-11) ++ xs.drop k))) ∧ Aside0 (wr.ownsRow wx.heap.size 3 1 (.slice Ay ys.length cy) ys.length (encs ei ys)) ∧ Aside0 (Below wc.heap.size wy wr)) (fun i _ => xs.length - (intOf i).toNat)
      case atStart => exact ⟨0, Nat.zero_le _, rfl, ⟨by rw [List.drop_zero]; exact hX⟩, ⟨hY⟩, ⟨hBx⟩⟩
      case round =>
        clear hX hY hBx
        obtain ⟨k, hk, rfl, HX, HY, HB⟩ := hrel
        have hX := HX.out
        have hY := HY.out
        have hBx := HB.out
        clear HX HY HB
        by_cases hlt : k < xs.length
        · have hgA := hgx (by omega)
          have hgx3 := hgx2 (by omega)
          clear hgx hgx2
          subst hgA
          have hat := own_at_of (d := 0) hX (k : Int) (by omega) (by omega)
          have hst := own_store_of hX (k : Int) (-11)
          rw [Int.toNat_natCast] at hat hst
          rw [fill_set k (-11) xs hlt] at hst
          have hca := hat.1
          have hfa := hat.2
          have hX1 := Aside0.mk hst.1
          have hY1 := Aside0.mk (own_up2 (v' := .slice (some ⟨gx, 0, none⟩) xs.length cx) hY hst.2 hsep)
          have hB1 := Aside0.mk (pw_below_grown hBx _ (Nat.le_trans hbxy hBx.size) hst.2 (own_base hX))
          have hk2 : (k : Int) < (xs.length : Int) := Int.ofNat_lt.mpr hlt
          have hk0 : (0 : Int) ≤ k := Int.natCast_nonneg k
          clear hX hY hat hst
          go_wp2_with fail
          go_roundw
          case rel => exact ⟨k + 1, by omega, by go_num, hX1, hY1, hB1⟩
          case measure => simp [intOf]; omega
        · have hke : xs.length = k := by omega
          subst hke
          rw [List.drop_length, List.append_nil] at hX
          have hL := LX.start hX hgx
          clear hX
          go_wp2_with fail
          go_loopw [15, 16] (fun vl i wr => ∃ j : Nat, j ≤ 40 ∧ i = .int .i64 j ∧ Aside0 (LX wr wc.heap.size gx xs.length j (-11) vl) ∧ Aside0 (wr.ownsRow wx.heap.size 3 1 (.slice Ay ys.length cy) ys.length (encs ei ys)) ∧ Aside0 (Sep (.slice Ay ys.length cy) vl) ∧ Aside0 (Below wc.heap.size wy wr)) (fun _ i _ => 40 - (intOf i).toNat)
          case atStart => exact ⟨0, by omega, rfl, ⟨hL⟩, ⟨hY⟩, ⟨hsep⟩, ⟨hBx⟩⟩
          case round =>
            clear hL hY hBx hsep
            obtain ⟨j, hj, rfl, HL, HY, HS, HB⟩ := hrel
            have hL := HL.out
            have hY := HY.out
            have hsep := HS.out
            have hBy := HB.out
            clear HL HY HS HB
            by_cases hlt : j < 40
            · have hjI : (j : Int) < 40 := by omega
              go_wp2_with (first
                | (at_builtin; refine wp_app1 wc.heap.size rfl (.tmp 88) (.tmp 89) rfl Try.underlying22 (by kernel_rfl) _ _ _ _ rfl rfl hL.own (Nat.le_trans hbxy hBy.size) (by omega) ?_; intro v5 w5 ho hg hat; have hY5 := own_up2 hY hg hsep; have hsep5 := hsep.app hat (own_lt hY); have hB5 := pw_below_grown hBy _ (Nat.le_trans hbxy hBy.size) hg (own_base hL.own); have hL5 := hL.app ho hg hat; clear ho hg hat))
              go_roundw
              case rel => exact ⟨j + 1, by omega, by go_num, ⟨hL5⟩, ⟨hY5⟩, ⟨hsep5⟩, ⟨hB5⟩⟩
              case measure => simp [intOf]; omega
            · have hje : j = 40 := by omega
              subst hje
              go_wp2_with fail
              go_loopw [17] (fun i wr => ∃ k : Nat, k ≤ ys.length ∧ i = .int .i64 k ∧ Aside0 (LX wr wc.heap.size gx xs.length 40 (-11) u15) ∧ Aside0 (wr.ownsRow wx.heap.size 3 1 (.slice Ay ys.length cy) ys.length (encs ei (List.replicate k (-22) ++ ys.drop k))) ∧ Aside0 (Below wc.heap.size wy wr)) (fun i _ => ys.length - (intOf i).toNat)
              case atStart => exact ⟨0, Nat.zero_le _, rfl, ⟨hL⟩, ⟨by rw [List.drop_zero]; exact hY⟩, ⟨hBy⟩⟩
              case round =>
                clear hL hY hBy
                obtain ⟨k, hk, rfl, HL, HY, HB⟩ := hrel
                have hL := HL.out
                have hY := HY.out
                have hBy := HB.out
                clear HL HY HB
                by_cases hlt : k < ys.length
                · have hgA := hgy (by omega)
                  have hgy3 := hgy2 (by omega)
                  clear hgy hgy2
                  subst hgA
                  have hat := own_at_of (d := 0) hY (k : Int) (by omega) (by omega)
                  have hst := own_store_of hY (k : Int) (-22)
                  rw [Int.toNat_natCast] at hat hst
                  rw [fill_set k (-22) ys hlt] at hst
                  have hcy := hat.1
                  have hfy : wr.drew.frozen? ⟨gy, k, none⟩ = false := hat.2
                  rw [rdOf, Int.toNat_natCast, fill_get k (-22) ys hlt] at hcy
                  obtain ⟨ad, eA, hcell⟩ := HR0.2.2 (by omega)
                  subst eA
                  have hbw : Below w.heap.size w wr := Below.below_of (wc := wc) hBy hbwy hbwc
                  have hcl := pw_cell_below hbw (hcell (xs.length + k) (by omega))
                  have hyl : l.getD (xs.length + k) 0 = ys.getD k 0 := y_of hxq.out.1 hyq.out.1 hlt
                  rw [hyl] at hcl
                  generalize ys.getD k 0 = z at hcy hcl
                  have hcy2 : wr.drew.cell? ⟨gy, k, none⟩ = some (.int .i64 z) := hcy
                  have hO1 : Only wr (wr.setCell ⟨gy, k, none⟩ (.int .i64 (-22))).drew (fun b => b = gy) := (Only.set (p := ⟨gy, k, none⟩) (v := .int .i64 (-22)) (Only.refl wr (fun b => b = gy)) rfl).drew
                  have hL1 : Aside0 (LX (wr.setCell ⟨gy, k, none⟩ (.int .i64 (-22))).drew wc.heap.size gx xs.length 40 (-11) u15) := ⟨hL.only hO1 (fun b hb e => hsep gy rfl (by rw [hb, e])) (fun h0 e => by have := hgx2 h0; omega)⟩
                  have hY1 : Aside0 (World.ownsRow (wr.setCell ⟨gy, k, none⟩ (.int .i64 (-22))).drew wx.heap.size 3 1 (.slice (some ⟨gy, 0, none⟩) ys.length cy) ys.length (encs ei (List.replicate (k + 1) (-22) ++ ys.drop (k + 1)))) := ⟨pw_own_drewN hst.1 1⟩
                  have hB1 : Aside0 (Below wc.heap.size wy (wr.setCell ⟨gy, k, none⟩ (.int .i64 (-22))).drew) := ⟨below_drew (pw_below_grown hBy (some gy) (Nat.le_trans hbxy hBy.size) hst.2 (fun b hb => by injection hb with hb; omega))⟩
                  have hk2 : (k : Int) < (ys.length : Int) := Int.ofNat_lt.mpr hlt
                  have hk0 : (0 : Int) ≤ k := Int.natCast_nonneg k
                  have hk3 : (xs.length : Int) + (k : Int) < (l.length : Int) := by omega
                  have hk4 : (0 : Int) ≤ (xs.length : Int) + (k : Int) := by omega
                  have hk5 : ((xs.length : Int) + (k : Int)).toNat = xs.length + k := by omega
                  clear hY hat hst hcell hyl hL hO1
                  go_wp2_with fail
                  have hk6 : wrap64 ((xs.length : Int) + (k : Int)) = (xs.length : Int) + (k : Int) := wrap_id (by omega) (by omega)
                  refine start_ (n := 12) (S := fun w' => w'.cell? ⟨gy, k, none⟩ = some (.int .i64 z) ∧ w'.cell? (ad.add (xs.length + k)) = some (.int .i64 z)) (ds := []) #[false, false, false, false, false, false, false, false, false, false, false, false] (by kernel_rfl) rfl rfl ⟨hcy, hcl⟩ (fun hHeld => ?_)
                  refine pure_ (i := 0) (N := some 97) (v := ?_) (a' := ?_) #[true, false, false, false, false, false, false, false, false, false, false, false] rfl rfl (by kernel_rfl) (fun _ _ _ h => h) (Or.inl ⟨by rfl, ?_⟩) ?_ ?_
                  rotate_left
                  · intro w'
                    go_simp
                    with_reducible rfl
                  rotate_left
                  · simp only [Act.put, List.setIfInBounds_toArray, List.set_cons_zero, List.set_cons_succ, i64_w, i32_w]
                    rfl
                  refine pure_ (i := 1) (N := some 98) (v := ?_) (a' := ?_) #[true, true, false, false, false, false, false, false, false, false, false, false] rfl rfl (by kernel_rfl) (fun _ _ _ h => h) (Or.inl ⟨by rfl, ?_⟩) ?_ ?_
                  rotate_left
                  · intro w'
                    go_simp
                    with_reducible rfl
                  rotate_left
                  · simp only [Act.put, List.setIfInBounds_toArray, List.set_cons_zero, List.set_cons_succ, i64_w, i32_w]
                    rfl
                  refine pure_ (i := 2) (N := some 99) (v := ?_) (a' := ?_) #[true, true, true, false, false, false, false, false, false, false, false, false] rfl rfl (by kernel_rfl) (fun _ _ _ h => h) (Or.inl ⟨by rfl, ?_⟩) ?_ ?_
                  rotate_left
                  · intro w'
                    go_simp
                    with_reducible rfl
                  rotate_left
                  · simp only [Act.put, List.setIfInBounds_toArray, List.set_cons_zero, List.set_cons_succ, i64_w, i32_w]
                    rfl
                  refine pure_ (i := 4) (N := some 101) (v := ?_) (a' := ?_) #[true, true, true, false, true, false, false, false, false, false, false, false] rfl rfl (by kernel_rfl) (fun _ _ _ h => h) (Or.inl ⟨by rfl, ?_⟩) ?_ ?_
                  rotate_left
                  · intro w'
                    go_simp
                    with_reducible rfl
                  rotate_left
                  · simp only [Act.put, List.setIfInBounds_toArray, List.set_cons_zero, List.set_cons_succ, i64_w, i32_w]
                    rfl
                  refine pure_ (i := 5) (N := some 102) (v := ?_) (a' := ?_) #[true, true, true, false, true, true, false, false, false, false, false, false] rfl rfl (by kernel_rfl) (fun _ _ _ h => h) (Or.inl ⟨by rfl, ?_⟩) ?_ ?_
                  rotate_left
                  · intro w'
                    go_simp
                    with_reducible rfl
                  rotate_left
                  · simp only [Act.put, List.setIfInBounds_toArray, List.set_cons_zero, List.set_cons_succ, i64_w, i32_w]
                    rfl
                  refine pure_ (i := 6) (N := some 103) (v := ?_) (a' := ?_) #[true, true, true, false, true, true, true, false, false, false, false, false] rfl rfl (by kernel_rfl) (fun _ _ _ h => h) (Or.inl ⟨by rfl, ?_⟩) ?_ ?_
                  rotate_left
                  · intro w'
                    go_simp
                    with_reducible rfl
                  rotate_left
                  · simp only [Act.put, List.setIfInBounds_toArray, List.set_cons_zero, List.set_cons_succ, i64_w, i32_w]
                    rfl
                  refine pure_ (i := 7) (N := some 104) (v := ?_) (a' := ?_) #[true, true, true, false, true, true, true, true, false, false, false, false] rfl rfl (by kernel_rfl) (fun _ _ _ h => h) (Or.inl ⟨by rfl, ?_⟩) ?_ ?_
                  rotate_left
                  · intro w'
                    go_simp
                    with_reducible rfl
                  rotate_left
                  · simp only [Act.put, List.setIfInBounds_toArray, List.set_cons_zero, List.set_cons_succ, i64_w, i32_w]
                    rfl
                  refine pure_ (i := 8) (N := some 105) (v := ?_) (a' := ?_) #[true, true, true, false, true, true, true, true, true, false, false, false] rfl rfl (by kernel_rfl) (fun _ _ _ h => h) (Or.inl ⟨by rfl, ?_⟩) ?_ ?_
                  rotate_left
                  · intro w'
                    go_simp
                    with_reducible rfl
                  rotate_left
                  · simp only [Act.put, List.setIfInBounds_toArray, List.set_cons_zero, List.set_cons_succ, i64_w, i32_w]
                    rfl
                  refine pure_ (i := 9) (N := some 106) (v := ?_) (a' := ?_) #[true, true, true, false, true, true, true, true, true, true, false, false] rfl rfl (by kernel_rfl) (fun _ _ _ h => h) (Or.inl ⟨by rfl, ?_⟩) ?_ ?_
                  rotate_left
                  · intro w'
                    go_simp
                    with_reducible rfl
                  rotate_left
                  · simp only [Act.put, List.setIfInBounds_toArray, List.set_cons_zero, List.set_cons_succ, i64_w, i32_w]
                    rfl
                  refine take_ (i := 3) (N := some 100) (v := ?_) (a' := ?_) #[true, true, true, true, true, true, true, true, true, true, false, false] rfl rfl (by kernel_rfl) (fun _ _ _ h => h) (Or.inl ⟨by rfl, ?_⟩) hHeld ?_ ?_
                  rotate_left
                  · rintro w' ⟨s0, s1⟩
                    go_simp
                    with_reducible rfl
                  rotate_left
                  · simp only [Act.put, List.setIfInBounds_toArray, List.set_cons_zero, List.set_cons_succ, i64_w, i32_w]
                    rfl
                  refine take_ (i := 10) (N := some 107) (v := ?_) (a' := ?_) #[true, true, true, true, true, true, true, true, true, true, true, false] rfl rfl (by kernel_rfl) (fun _ _ _ h => h) (Or.inl ⟨by rfl, ?_⟩) hHeld ?_ ?_
                  rotate_left
                  · rintro w' ⟨s0, s1⟩
                    go_simp
                    with_reducible rfl
                  rotate_left
                  · simp only [Act.put, List.setIfInBounds_toArray, List.set_cons_zero, List.set_cons_succ, i64_w, i32_w]
                    rfl
                  refine pure_ (i := 11) (N := some 108) (v := ?_) (a' := ?_) #[true, true, true, true, true, true, true, true, true, true, true, true] rfl rfl (by kernel_rfl) (fun _ _ _ h => h) (Or.inl ⟨by rfl, ?_⟩) ?_ ?_
                  rotate_left
                  · intro w'
                    go_simp
                    with_reducible rfl
                  rotate_left
                  · simp only [Act.put, List.setIfInBounds_toArray, List.set_cons_zero, List.set_cons_succ, i64_w, i32_w]
                    rfl
                  refine done_ (by kernel_rfl) ?_

                  clear hk6 hk5 hk4 hk3
                  go_wp2
                  go_roundw
                  case rel => exact ⟨k + 1, by omega, by go_num, hL1, hY1, hB1⟩
                  case measure => simp [intOf]; omega
                · have hke : ys.length = k := by omega
                  subst hke
                  rw [List.drop_length, List.append_nil] at hY
                  have hM := LX.start hY hgy
                  have hsep := hsep.symm
                  have hYb := own_base hY
                  clear hY
                  go_wp2_with fail
                  go_loopw [18, 19] (fun vw i wr => ∃ j : Nat, j ≤ 40 ∧ i = .int .i64 j ∧ Aside0 (LX wr wx.heap.size gy ys.length j (-22) vw) ∧ Aside0 (LX wr wc.heap.size gx xs.length 40 (-11) u15) ∧ Aside0 (Sep u15 vw) ∧ Aside0 (Below wc.heap.size wy wr)) (fun _ i _ => 40 - (intOf i).toNat)
                  case atStart => exact ⟨0, by omega, rfl, ⟨hM⟩, ⟨hL⟩, ⟨hsep⟩, ⟨hBy⟩⟩
                  case round =>
                    clear hL hM hBy hsep
                    obtain ⟨j, hj, rfl, HM, HL, HS, HB⟩ := hrel
                    have hM := HM.out
                    have hL := HL.out
                    have hsep := HS.out
                    have hBy := HB.out
                    clear HL HM HS HB
                    by_cases hlt : j < 40
                    · have hjI : (j : Int) < 40 := by omega
                      have hgx4 : 0 < xs.length → gx < wx.heap.size := fun h0 => (hgx2 h0).2
                      go_wp2_with (first
                        | (at_builtin; refine wp_app1 wx.heap.size rfl (.tmp 117) (.tmp 118) rfl Try.underlying22 (by kernel_rfl) _ _ _ _ rfl rfl hM.own (Nat.le_trans hysz hBy.size) (by omega) ?_; intro v5 w5 ho hg hat; have hL5 := hL.only (only_grown hg) (fun b hb e => hsep b hb e) (fun h0 e => Nat.not_lt_of_le (own_base hM.own gx e) (hgx4 h0)); have hsep5 := hsep.app hat (own_lt hL.own); have hB5 := pw_below_grown hBy _ (Nat.le_trans hbxy hBy.size) hg (fun b hb => Nat.le_trans hxsz (own_base hM.own b hb)); have hM5 := hM.app ho hg hat; clear ho hg hat))
                      refine ⟨⟨_, _, _, _, _, _, _, _, _, ?rel, rfl⟩, ?measure⟩
                      case rel => exact ⟨j + 1, by omega, by go_num, ⟨hM5⟩, ⟨hL5⟩, ⟨hsep5⟩, ⟨hB5⟩⟩
                      case measure => simp [intOf]; omega
                    · have hje : j = 40 := by omega
                      subst hje
                      go_wp2_with fail
                      generalize wr = wh at *
                      have hRh : RQ wh g gt (l.length + 20) q2 := hR.base hBy hbx1 hbx2
                      have hSh : Rs.RQ wh sg sgt 2 [] := (hSQ.only hO (by omega) (by omega)).base hBy (Nat.lt_of_lt_of_le hsl1 hwbc) (Nat.lt_of_lt_of_le hsl2 hwbc)
                      have hBh : Below w.heap.size w wh := Below.below_of (wc := wc) hBy hbwy hbwc
                      have hqn : q2.length + xs.length + ys.length = l.length := by have h1 := hxq.out.1; have h2 := hyq.out.1; rw [← h1, ← h2]; simp; omega
                      have hLg : ∀ k, u15.ownBlock = some k → ¬ (k = g ∨ k = gt) := own_far hL.own hbx1 hbx2
                      have hMg : ∀ k, u18.ownBlock = some k → ¬ (k = g ∨ k = gt) := own_far hM.own (Nat.lt_of_lt_of_le hbx1 hxsz) (Nat.lt_of_lt_of_le hbx2 hxsz)
                      go_loopw [20] (fun i wr => ∃ j : Nat, j ≤ 10 ∧ i = .int .i64 j ∧ Aside0 (RQ wr g gt (l.length + 20) (q2 ++ List.replicate j 77)) ∧ Aside0 (Only wh wr (fun k => k = g ∨ k = gt))) (fun i _ => 10 - (intOf i).toNat)
                      case atStart => exact ⟨0, by omega, rfl, ⟨by rw [List.replicate_zero, List.append_nil]; exact hRh⟩, ⟨Only.refl _ _⟩⟩
                      case round =>
                        clear hRh
                        obtain ⟨j, hj, rfl, HR, HO⟩ := hrel
                        have hR := HR.out
                        have hO3 := HO.out
                        clear HR HO
                        by_cases hlt : j < 10
                        · have hjI : (j : Int) < 10 := by omega
                          have hroom : (q2 ++ List.replicate j 77).length < l.length + 20 := by simp; omega
                          have hrs : (q2 ++ List.replicate j 77) ++ [77] = q2 ++ List.replicate (j + 1) 77 := by rw [List.replicate_succ', List.append_assoc]
                          go_wp2_with (first
                            | (go_at_call 11; refine (pushq_room _ hR 77 hroom).mono ?_; rintro e w9 ⟨rfl, hR9, hO1⟩; rw [hrs] at hR9; have hO9 := hO3.then hO1; clear hO1))
                          refine ⟨⟨_, _, _, _, _, _, _, ?rel, rfl⟩, ?measure⟩
                          case rel => exact ⟨j + 1, by omega, by go_num, ⟨hR9⟩, ⟨hO9⟩⟩
                          case measure => simp [intOf]; omega
                        · have hje : j = 10 := by omega
                          subst hje
                          have hL := hL.only hO3 hLg (fun h0 => by have := hgx2 h0; omega)
                          have hM := hM.only hO3 hMg (fun h0 => by have := hgy2 h0; omega)
                          have hSr := hSh.only hO3 (by omega) (by omega)
                          have hBr := hO3.below hBh hBh.size hAb
                          have hyt : wy.heap.size ≤ wr.heap.size := Nat.le_trans hBy.size hO3.size
                          clear hO3 hBh hSh
                          have hLl := own_lt hL.own
                          have hMl := own_lt hM.own
                          go_wp2_with fail
                          refine (take_full _ hR 4096 (by omega) (by omega)).mono ?_
                          rintro e wz ⟨zs, q3, Az, cz, rfl, hzq, hZ, hR3, hO4⟩
                          generalize wr = wt at *
                          have hL := hL.only hO4 hLg (fun h0 => by have := hgx2 h0; omega)
                          have hM := hM.only hO4 hMg (fun h0 => by have := hgy2 h0; omega)
                          have hSz := hSr.only hO4 (by omega) (by omega)
                          have hBz := hO4.below hBr hBr.size hAb
                          obtain ⟨gz, hgz, hgz2⟩ := own_front hZ
                          have hql := hR.len
                          have hzl := z_len hzq.out.1 hzq.out.2 (by omega)
                          obtain ⟨hzl1, hzl2⟩ := hzl
                          have hstl := hSr.lt
                          obtain ⟨hstl1, hstl2⟩ := hstl
                          clear hSr hBr hR hR3
                          go_wp2_with fail
                          go_loopw [22, 23] (fun i _ wr => ∃ k : Nat, k ≤ zs.length ∧ i = .int .i64 k ∧ Aside0 (LX wr wc.heap.size gx xs.length 40 (-11) u15) ∧ Aside0 (LX wr wx.heap.size gy ys.length 40 (-22) u18) ∧ Aside0 (wr.ownsRow wt.heap.size 3 1 (.slice Az zs.length cz) zs.length (encs ei (List.replicate k (-33) ++ zs.drop k))) ∧ Aside0 (Rs.RQ wr sg sgt 2 []) ∧ Aside0 (Below w.heap.size w wr)) (fun i _ _ => zs.length - (intOf i).toNat)
                          case atStart => exact ⟨0, Nat.zero_le _, rfl, ⟨hL⟩, ⟨hM⟩, ⟨by rw [List.drop_zero]; exact hZ⟩, ⟨hSz⟩, ⟨hBz⟩⟩
                          case round =>
                            clear hL hM hZ hSz hBz
                            obtain ⟨k, hk, rfl, HL, HM, HZ, HS, HB⟩ := hrel
                            have hL := HL.out
                            have hM := HM.out
                            have hZ := HZ.out
                            have hSz := HS.out
                            have hBz := HB.out
                            clear HL HM HZ HS HB
                            by_cases hlt : k < zs.length
                            · have hgA := hgz (by omega)
                              have hgz3 := hgz2 (by omega)
                              clear hgz hgz2
                              subst hgA
                              have hat := own_at_of (d := 0) hZ (k : Int) (by omega) (by omega)
                              have hst := own_store_of hZ (k : Int) (-33)
                              rw [Int.toNat_natCast] at hat hst
                              rw [fill_set k (-33) zs hlt] at hst
                              have hcz := hat.1
                              have hfz : wr.drew.frozen? ⟨gz, k, none⟩ = false := hat.2
                              rw [rdOf, Int.toNat_natCast, fill_get k (-33) zs hlt] at hcz
                              have hO1 : Only wr (wr.setCell ⟨gz, k, none⟩ (.int .i64 (-33))).drew (fun b => b = gz) := (Only.set (p := ⟨gz, k, none⟩) (v := .int .i64 (-33)) (Only.refl wr (fun b => b = gz)) rfl).drew
                              have hL1 : Aside0 (LX (wr.setCell ⟨gz, k, none⟩ (.int .i64 (-33))).drew wc.heap.size gx xs.length 40 (-11) u15) := ⟨hL.only hO1 (fun b hb e => by have := hLl b hb; omega) (fun h0 e => by have := hgx2 h0; omega)⟩
                              have hM1 : Aside0 (LX (wr.setCell ⟨gz, k, none⟩ (.int .i64 (-33))).drew wx.heap.size gy ys.length 40 (-22) u18) := ⟨hM.only hO1 (fun b hb e => by have := hMl b hb; omega) (fun h0 e => by have := hgy2 h0; omega)⟩
                              have hZ1 : Aside0 (World.ownsRow (wr.setCell ⟨gz, k, none⟩ (.int .i64 (-33))).drew wt.heap.size 3 1 (.slice (some ⟨gz, 0, none⟩) zs.length cz) zs.length (encs ei (List.replicate (k + 1) (-33) ++ zs.drop (k + 1)))) := ⟨pw_own_drewN hst.1 1⟩
                              have hS1 : Aside0 (Rs.RQ (wr.setCell ⟨gz, k, none⟩ (.int .i64 (-33))).drew sg sgt 2 []) := ⟨hSz.only hO1 (by omega) (by omega)⟩
                              have hB1 : Aside0 (Below w.heap.size w (wr.setCell ⟨gz, k, none⟩ (.int .i64 (-33))).drew) := ⟨hO1.below hBz hBz.size (fun b hb => by omega)⟩
                              have hk2 : (k : Int) < (zs.length : Int) := Int.ofNat_lt.mpr hlt
                              have hk0 : (0 : Int) ≤ k := Int.natCast_nonneg k
                              have hk5 : ((xs.length : Int) + (ys.length : Int) + (k : Int)).toNat = xs.length + ys.length + k := by omega
                              have hzb : (zs.length : Int) ≤ 8000 := z_bound hxq.out.1 hyq.out.1 hl hzl1
                              have hyb : (ys.length : Int) ≤ 4000 := by omega
                              have hxb : (xs.length : Int) ≤ 4000 := by omega
                              have hk8 : (0 : Int) ≤ (xs.length : Int) + (ys.length : Int) + (k : Int) := by omega
                              have hkb : (k : Int) ≤ 8000 := by omega
                              by_cases hin : xs.length + ys.length + k < l.length
                              · obtain ⟨ad, eA, hcell⟩ := HR0.2.2 (by omega)
                                subst eA
                                have hcl := pw_cell_below hBz (hcell (xs.length + ys.length + k) hin)
                                have hzy := z_in hxq.out.1 hyq.out.1 hzq.out.1 hin hlt
                                rw [hzy] at hcl
                                generalize zs.getD k 0 = z at hcz hcl
                                have hcz2 : wr.drew.cell? ⟨gz, k, none⟩ = some (.int .i64 z) := hcz
                                have hk3 : (xs.length : Int) + (ys.length : Int) + (k : Int) < (l.length : Int) := by omega
                                have hk9 : decide ((l.length : Int) ≤ (xs.length : Int) + (ys.length : Int) + (k : Int)) = false := decide_eq_false (by omega)
                                clear hL hM hZ hSz hBz hat hst hO1 hcell hzy
                                go_wp2_with fail
                                refine start_ (n := 28) (S := fun w' => w'.cell? ⟨gz, k, none⟩ = some (.int .i64 z) ∧ w'.cell? (ad.add (xs.length + ys.length + k)) = some (.int .i64 z)) (ds := []) #[false, false, false, false, false, false, false, false, false, false, false, false, false, false, false, false, false, false, false, false, false, false, false, false, false, false, false, false] (by kernel_rfl) rfl rfl ⟨hcz, hcl⟩ (fun hHeld => ?_)
                                refine pure_ (i := 0) (N := some 141) (v := ?_) (a' := ?_) #[true, false, false, false, false, false, false, false, false, false, false, false, false, false, false, false, false, false, false, false, false, false, false, false, false, false, false, false] rfl rfl (by kernel_rfl) (fun _ _ _ h => h) (Or.inl ⟨by rfl, ?_⟩) ?_ ?_
                                rotate_left
                                · intro w'
                                  go_simp
                                  with_reducible rfl
                                rotate_left
                                · simp only [Act.put, List.setIfInBounds_toArray, List.set_cons_zero, List.set_cons_succ, i64_w, i32_w]
                                  rfl
                                refine pure_ (i := 1) (N := some 142) (v := ?_) (a' := ?_) #[true, true, false, false, false, false, false, false, false, false, false, false, false, false, false, false, false, false, false, false, false, false, false, false, false, false, false, false] rfl rfl (by kernel_rfl) (fun _ _ _ h => h) (Or.inl ⟨by rfl, ?_⟩) ?_ ?_
                                rotate_left
                                · intro w'
                                  go_simp
                                  with_reducible rfl
                                rotate_left
                                · simp only [Act.put, List.setIfInBounds_toArray, List.set_cons_zero, List.set_cons_succ, i64_w, i32_w]
                                  rfl
                                refine pure_ (i := 2) (N := some 143) (v := ?_) (a' := ?_) #[true, true, true, false, false, false, false, false, false, false, false, false, false, false, false, false, false, false, false, false, false, false, false, false, false, false, false, false] rfl rfl (by kernel_rfl) (fun _ _ _ h => h) (Or.inl ⟨by rfl, ?_⟩) ?_ ?_
                                rotate_left
                                · intro w'
                                  go_simp
                                  with_reducible rfl
                                rotate_left
                                · simp only [Act.put, List.setIfInBounds_toArray, List.set_cons_zero, List.set_cons_succ, i64_w, i32_w]
                                  rfl
                                refine pure_ (i := 3) (N := some 144) (v := ?_) (a' := ?_) #[true, true, true, true, false, false, false, false, false, false, false, false, false, false, false, false, false, false, false, false, false, false, false, false, false, false, false, false] rfl rfl (by kernel_rfl) (fun _ _ _ h => h) (Or.inl ⟨by rfl, ?_⟩) ?_ ?_
                                rotate_left
                                · intro w'
                                  go_simp
                                  with_reducible rfl
                                rotate_left
                                · simp only [Act.put, List.setIfInBounds_toArray, List.set_cons_zero, List.set_cons_succ, i64_w, i32_w]
                                  rfl
                                refine pure_ (i := 4) (N := some 145) (v := ?_) (a' := ?_) #[true, true, true, true, true, false, false, false, false, false, false, false, false, false, false, false, false, false, false, false, false, false, false, false, false, false, false, false] rfl rfl (by kernel_rfl) (fun _ _ _ h => h) (Or.inl ⟨by rfl, ?_⟩) ?_ ?_
                                rotate_left
                                · intro w'
                                  go_simp
                                  with_reducible rfl
                                rotate_left
                                · simp only [Act.put, List.setIfInBounds_toArray, List.set_cons_zero, List.set_cons_succ, i64_w, i32_w]
                                  rfl
                                refine pure_ (i := 5) (N := some 146) (v := ?_) (a' := ?_) #[true, true, true, true, true, true, false, false, false, false, false, false, false, false, false, false, false, false, false, false, false, false, false, false, false, false, false, false] rfl rfl (by kernel_rfl) (fun _ _ _ h => h) (Or.inl ⟨by rfl, ?_⟩) ?_ ?_
                                rotate_left
                                · intro w'
                                  go_simp
                                  with_reducible rfl
                                rotate_left
                                · simp only [Act.put, List.setIfInBounds_toArray, List.set_cons_zero, List.set_cons_succ, i64_w, i32_w]
                                  rfl
                                refine pure_ (i := 6) (N := some 147) (v := ?_) (a' := ?_) #[true, true, true, true, true, true, true, false, false, false, false, false, false, false, false, false, false, false, false, false, false, false, false, false, false, false, false, false] rfl rfl (by kernel_rfl) (fun _ _ _ h => h) (Or.inl ⟨by rfl, ?_⟩) ?_ ?_
                                rotate_left
                                · intro w'
                                  go_simp
                                  with_reducible rfl
                                rotate_left
                                · simp only [Act.put, List.setIfInBounds_toArray, List.set_cons_zero, List.set_cons_succ, i64_w, i32_w]
                                  rfl
                                refine pure_ (i := 7) (N := some 148) (v := ?_) (a' := ?_) #[true, true, true, true, true, true, true, true, false, false, false, false, false, false, false, false, false, false, false, false, false, false, false, false, false, false, false, false] rfl rfl (by kernel_rfl) (fun _ _ _ h => h) (Or.inl ⟨by rfl, ?_⟩) ?_ ?_
                                rotate_left
                                · intro w'
                                  go_simp
                                  with_reducible rfl
                                rotate_left
                                · simp only [Act.put, List.setIfInBounds_toArray, List.set_cons_zero, List.set_cons_succ, i64_w, i32_w]
                                  rfl
                                refine pure_ (i := 9) (N := some 150) (v := ?_) (a' := ?_) #[true, true, true, true, true, true, true, true, false, true, false, false, false, false, false, false, false, false, false, false, false, false, false, false, false, false, false, false] rfl rfl (by kernel_rfl) (fun _ _ _ h => h) (Or.inl ⟨by rfl, ?_⟩) ?_ ?_
                                rotate_left
                                · intro w'
                                  go_simp
                                  with_reducible rfl
                                rotate_left
                                · simp only [Act.put, List.setIfInBounds_toArray, List.set_cons_zero, List.set_cons_succ, i64_w, i32_w]
                                  rfl
                                refine pure_ (i := 10) (N := some 151) (v := ?_) (a' := ?_) #[true, true, true, true, true, true, true, true, false, true, true, false, false, false, false, false, false, false, false, false, false, false, false, false, false, false, false, false] rfl rfl (by kernel_rfl) (fun _ _ _ h => h) (Or.inl ⟨by rfl, ?_⟩) ?_ ?_
                                rotate_left
                                · intro w'
                                  go_simp
                                  with_reducible rfl
                                rotate_left
                                · simp only [Act.put, List.setIfInBounds_toArray, List.set_cons_zero, List.set_cons_succ, i64_w, i32_w]
                                  rfl
                                refine pure_ (i := 11) (N := some 152) (v := ?_) (a' := ?_) #[true, true, true, true, true, true, true, true, false, true, true, true, false, false, false, false, false, false, false, false, false, false, false, false, false, false, false, false] rfl rfl (by kernel_rfl) (fun _ _ _ h => h) (Or.inl ⟨by rfl, ?_⟩) ?_ ?_
                                rotate_left
                                · intro w'
                                  go_simp
                                  with_reducible rfl
                                rotate_left
                                · simp only [Act.put, List.setIfInBounds_toArray, List.set_cons_zero, List.set_cons_succ, i64_w, i32_w]
                                  rfl
                                refine take_ (i := 8) (N := some 149) (v := ?_) (a' := ?_) #[true, true, true, true, true, true, true, true, true, true, true, true, false, false, false, false, false, false, false, false, false, false, false, false, false, false, false, false] rfl rfl (by kernel_rfl) (fun _ _ _ h => h) (Or.inl ⟨by rfl, ?_⟩) hHeld ?_ ?_
                                rotate_left
                                · rintro w' ⟨s0, s1⟩
                                  go_simp
                                  with_reducible rfl
                                rotate_left
                                · simp only [Act.put, List.setIfInBounds_toArray, List.set_cons_zero, List.set_cons_succ, i64_w, i32_w]
                                  rfl
                                refine take_ (i := 12) (N := some 153) (v := ?_) (a' := ?_) #[true, true, true, true, true, true, true, true, true, true, true, true, true, false, false, false, false, false, false, false, false, false, false, false, false, false, false, false] rfl rfl (by kernel_rfl) (fun _ _ _ h => h) (Or.inl ⟨by rfl, ?_⟩) hHeld ?_ ?_
                                rotate_left
                                · rintro w' ⟨s0, s1⟩
                                  go_simp
                                  with_reducible rfl
                                rotate_left
                                · simp only [Act.put, List.setIfInBounds_toArray, List.set_cons_zero, List.set_cons_succ, i64_w, i32_w]
                                  rfl
                                refine pure_ (i := 13) (N := some 154) (v := ?_) (a' := ?_) #[true, true, true, true, true, true, true, true, true, true, true, true, true, true, false, false, false, false, false, false, false, false, false, false, false, false, false, false] rfl rfl (by kernel_rfl) (fun _ _ _ h => h) (Or.inl ⟨by rfl, ?_⟩) ?_ ?_
                                rotate_left
                                · intro w'
                                  go_simp
                                  with_reducible rfl
                                rotate_left
                                · simp only [Act.put, List.setIfInBounds_toArray, List.set_cons_zero, List.set_cons_succ, i64_w, i32_w]
                                  rfl
                                refine pure_ (i := 14) (N := some 155) (v := ?_) (a' := ?_) #[true, true, true, true, true, true, true, true, true, true, true, true, true, true, true, false, false, false, false, false, false, false, false, false, false, false, false, false] rfl rfl (by kernel_rfl) (fun _ _ _ h => h) (Or.inl ⟨by rfl, ?_⟩) ?_ ?_
                                rotate_left
                                · intro w'
                                  go_simp
                                  with_reducible rfl
                                rotate_left
                                · simp only [Act.put, List.setIfInBounds_toArray, List.set_cons_zero, List.set_cons_succ, i64_w, i32_w]
                                  rfl
                                refine pure_ (i := 15) (N := some 156) (v := ?_) (a' := ?_) #[true, true, true, true, true, true, true, true, true, true, true, true, true, true, true, true, false, false, false, false, false, false, false, false, false, false, false, false] rfl rfl (by kernel_rfl) (fun _ _ _ h => h) (Or.inl ⟨by rfl, ?_⟩) ?_ ?_
                                rotate_left
                                · intro w'
                                  go_simp
                                  with_reducible rfl
                                rotate_left
                                · simp only [Act.put, List.setIfInBounds_toArray, List.set_cons_zero, List.set_cons_succ, i64_w, i32_w]
                                  rfl
                                refine pure_ (i := 16) (N := some 157) (v := ?_) (a' := ?_) #[true, true, true, true, true, true, true, true, true, true, true, true, true, true, true, true, true, false, false, false, false, false, false, false, false, false, false, false] rfl rfl (by kernel_rfl) (fun _ _ _ h => h) (Or.inl ⟨by rfl, ?_⟩) ?_ ?_
                                rotate_left
                                · intro w'
                                  go_simp
                                  with_reducible rfl
                                rotate_left
                                · simp only [Act.put, List.setIfInBounds_toArray, List.set_cons_zero, List.set_cons_succ, i64_w, i32_w]
                                  rfl
                                refine pure_ (i := 17) (N := some 158) (v := ?_) (a' := ?_) #[true, true, true, true, true, true, true, true, true, true, true, true, true, true, true, true, true, true, false, false, false, false, false, false, false, false, false, false] rfl rfl (by kernel_rfl) (fun _ _ _ h => h) (Or.inl ⟨by rfl, ?_⟩) ?_ ?_
                                rotate_left
                                · intro w'
                                  go_simp
                                  with_reducible rfl
                                rotate_left
                                · simp only [Act.put, List.setIfInBounds_toArray, List.set_cons_zero, List.set_cons_succ, i64_w, i32_w]
                                  rfl
                                refine pure_ (i := 18) (N := some 159) (v := ?_) (a' := ?_) #[true, true, true, true, true, true, true, true, true, true, true, true, true, true, true, true, true, true, true, false, false, false, false, false, false, false, false, false] rfl rfl (by kernel_rfl) (fun _ _ _ h => h) (Or.inl ⟨by rfl, ?_⟩) ?_ ?_
                                rotate_left
                                · intro w'
                                  go_simp
                                  with_reducible rfl
                                rotate_left
                                · simp only [Act.put, List.setIfInBounds_toArray, List.set_cons_zero, List.set_cons_succ, i64_w, i32_w]
                                  rfl
                                refine pure_ (i := 19) (N := some 160) (v := ?_) (a' := ?_) #[true, true, true, true, true, true, true, true, true, true, true, true, true, true, true, true, true, true, true, true, false, false, false, false, false, false, false, false] rfl rfl (by kernel_rfl) (fun _ _ _ h => h) (Or.inl ⟨by rfl, ?_⟩) ?_ ?_
                                rotate_left
                                · intro w'
                                  go_simp
                                  with_reducible rfl
                                rotate_left
                                · simp only [Act.put, List.setIfInBounds_toArray, List.set_cons_zero, List.set_cons_succ, i64_w, i32_w]
                                  rfl
                                refine pure_ (i := 20) (N := some 161) (v := ?_) (a' := ?_) #[true, true, true, true, true, true, true, true, true, true, true, true, true, true, true, true, true, true, true, true, true, false, false, false, false, false, false, false] rfl rfl (by kernel_rfl) (fun _ _ _ h => h) (Or.inl ⟨by rfl, ?_⟩) ?_ ?_
                                rotate_left
                                · intro w'
                                  go_simp
                                  with_reducible rfl
                                rotate_left
                                · simp only [Act.put, List.setIfInBounds_toArray, List.set_cons_zero, List.set_cons_succ, i64_w, i32_w]
                                  rfl
                                refine pure_ (i := 21) (N := some 162) (v := undef) (a' := ?_) #[true, true, true, true, true, true, true, true, true, true, true, true, true, true, true, true, true, true, true, true, true, true, false, false, false, false, false, false] rfl rfl (by kernel_rfl) (fun _ _ _ h => h) (Or.inr ⟨by rfl, rfl⟩) ?_ ?_
                                rotate_left
                                · simp only [Act.put, List.setIfInBounds_toArray, List.set_cons_zero, List.set_cons_succ, i64_w, i32_w]
                                  rfl
                                refine pure_ (i := 22) (N := some 163) (v := undef) (a' := ?_) #[true, true, true, true, true, true, true, true, true, true, true, true, true, true, true, true, true, true, true, true, true, true, true, false, false, false, false, false] rfl rfl (by kernel_rfl) (fun _ _ _ h => h) (Or.inr ⟨by rfl, rfl⟩) ?_ ?_
                                rotate_left
                                · simp only [Act.put, List.setIfInBounds_toArray, List.set_cons_zero, List.set_cons_succ, i64_w, i32_w]
                                  rfl
                                refine pure_ (i := 23) (N := some 164) (v := undef) (a' := ?_) #[true, true, true, true, true, true, true, true, true, true, true, true, true, true, true, true, true, true, true, true, true, true, true, true, false, false, false, false] rfl rfl (by kernel_rfl) (fun _ _ _ h => h) (Or.inr ⟨by rfl, rfl⟩) ?_ ?_
                                rotate_left
                                · simp only [Act.put, List.setIfInBounds_toArray, List.set_cons_zero, List.set_cons_succ, i64_w, i32_w]
                                  rfl
                                refine pure_ (i := 24) (N := some 165) (v := undef) (a' := ?_) #[true, true, true, true, true, true, true, true, true, true, true, true, true, true, true, true, true, true, true, true, true, true, true, true, true, false, false, false] rfl rfl (by kernel_rfl) (fun _ _ _ h => h) (Or.inr ⟨by rfl, rfl⟩) ?_ ?_
                                rotate_left
                                · simp only [Act.put, List.setIfInBounds_toArray, List.set_cons_zero, List.set_cons_succ, i64_w, i32_w]
                                  rfl
                                refine pure_ (i := 25) (N := some 166) (v := undef) (a' := ?_) #[true, true, true, true, true, true, true, true, true, true, true, true, true, true, true, true, true, true, true, true, true, true, true, true, true, true, false, false] rfl rfl (by kernel_rfl) (fun _ _ _ h => h) (Or.inr ⟨by rfl, rfl⟩) ?_ ?_
                                rotate_left
                                · simp only [Act.put, List.setIfInBounds_toArray, List.set_cons_zero, List.set_cons_succ, i64_w, i32_w]
                                  rfl
                                refine pure_ (i := 26) (N := some 167) (v := ?_) (a' := ?_) #[true, true, true, true, true, true, true, true, true, true, true, true, true, true, true, true, true, true, true, true, true, true, true, true, true, true, true, false] rfl rfl (by kernel_rfl) (fun _ _ _ h => h) (Or.inl ⟨by rfl, ?_⟩) ?_ ?_
                                rotate_left
                                · intro w'
                                  go_simp
                                  with_reducible rfl
                                rotate_left
                                · simp only [Act.put, List.setIfInBounds_toArray, List.set_cons_zero, List.set_cons_succ, i64_w, i32_w]
                                  rfl
                                refine pure_ (i := 27) (N := some 168) (v := ?_) (a' := ?_) #[true, true, true, true, true, true, true, true, true, true, true, true, true, true, true, true, true, true, true, true, true, true, true, true, true, true, true, true] rfl rfl (by kernel_rfl) (fun _ _ _ h => h) (Or.inl ⟨by rfl, ?_⟩) ?_ ?_
                                rotate_left
                                · intro w'
                                  go_simp
                                  with_reducible rfl
                                rotate_left
                                · simp only [Act.put, List.setIfInBounds_toArray, List.set_cons_zero, List.set_cons_succ, i64_w, i32_w]
                                  rfl
                                refine done_ (by kernel_rfl) ?_

                                go_wp2
                                refine ⟨⟨k + 1, by omega, by go_num, hL1, hM1, hZ1, hS1, hB1⟩, ?_⟩
                                simp [intOf]; omega
                              · rw [z_out hxq.out.1 hyq.out.1 hzq.out.1 hin hlt] at hcz
                                have hcz2 : wr.drew.cell? ⟨gz, k, none⟩ = some (.int .i64 77) := hcz
                                have hk3 : (l.length : Int) ≤ (xs.length : Int) + (ys.length : Int) + (k : Int) := by omega
                                have hk9 : decide ((xs.length : Int) + (ys.length : Int) + (k : Int) < (l.length : Int)) = false := decide_eq_false (by omega)
                                clear hL hM hZ hSz hBz hat hst hO1
                                go_wp2_with fail
                                refine start_ (n := 28) (S := fun w' => w'.cell? ⟨gz, k, none⟩ = some (.int .i64 77)) (ds := []) #[false, false, false, false, false, false, false, false, false, false, false, false, false, false, false, false, false, false, false, false, false, false, false, false, false, false, false, false] (by kernel_rfl) rfl rfl (hcz) (fun hHeld => ?_)
                                refine pure_ (i := 0) (N := some 141) (v := ?_) (a' := ?_) #[true, false, false, false, false, false, false, false, false, false, false, false, false, false, false, false, false, false, false, false, false, false, false, false, false, false, false, false] rfl rfl (by kernel_rfl) (fun _ _ _ h => h) (Or.inl ⟨by rfl, ?_⟩) ?_ ?_
                                rotate_left
                                · intro w'
                                  go_simp
                                  with_reducible rfl
                                rotate_left
                                · simp only [Act.put, List.setIfInBounds_toArray, List.set_cons_zero, List.set_cons_succ, i64_w, i32_w]
                                  rfl
                                refine pure_ (i := 1) (N := some 142) (v := ?_) (a' := ?_) #[true, true, false, false, false, false, false, false, false, false, false, false, false, false, false, false, false, false, false, false, false, false, false, false, false, false, false, false] rfl rfl (by kernel_rfl) (fun _ _ _ h => h) (Or.inl ⟨by rfl, ?_⟩) ?_ ?_
                                rotate_left
                                · intro w'
                                  go_simp
                                  with_reducible rfl
                                rotate_left
                                · simp only [Act.put, List.setIfInBounds_toArray, List.set_cons_zero, List.set_cons_succ, i64_w, i32_w]
                                  rfl
                                refine pure_ (i := 2) (N := some 143) (v := ?_) (a' := ?_) #[true, true, true, false, false, false, false, false, false, false, false, false, false, false, false, false, false, false, false, false, false, false, false, false, false, false, false, false] rfl rfl (by kernel_rfl) (fun _ _ _ h => h) (Or.inl ⟨by rfl, ?_⟩) ?_ ?_
                                rotate_left
                                · intro w'
                                  go_simp
                                  with_reducible rfl
                                rotate_left
                                · simp only [Act.put, List.setIfInBounds_toArray, List.set_cons_zero, List.set_cons_succ, i64_w, i32_w]
                                  rfl
                                refine pure_ (i := 3) (N := some 144) (v := ?_) (a' := ?_) #[true, true, true, true, false, false, false, false, false, false, false, false, false, false, false, false, false, false, false, false, false, false, false, false, false, false, false, false] rfl rfl (by kernel_rfl) (fun _ _ _ h => h) (Or.inl ⟨by rfl, ?_⟩) ?_ ?_
                                rotate_left
                                · intro w'
                                  go_simp
                                  with_reducible rfl
                                rotate_left
                                · simp only [Act.put, List.setIfInBounds_toArray, List.set_cons_zero, List.set_cons_succ, i64_w, i32_w]
                                  rfl
                                refine pure_ (i := 4) (N := some 145) (v := ?_) (a' := ?_) #[true, true, true, true, true, false, false, false, false, false, false, false, false, false, false, false, false, false, false, false, false, false, false, false, false, false, false, false] rfl rfl (by kernel_rfl) (fun _ _ _ h => h) (Or.inl ⟨by rfl, ?_⟩) ?_ ?_
                                rotate_left
                                · intro w'
                                  go_simp
                                  with_reducible rfl
                                rotate_left
                                · simp only [Act.put, List.setIfInBounds_toArray, List.set_cons_zero, List.set_cons_succ, i64_w, i32_w]
                                  rfl
                                refine pure_ (i := 5) (N := some 146) (v := undef) (a' := ?_) #[true, true, true, true, true, true, false, false, false, false, false, false, false, false, false, false, false, false, false, false, false, false, false, false, false, false, false, false] rfl rfl (by kernel_rfl) (fun _ _ _ h => h) (Or.inr ⟨by rfl, rfl⟩) ?_ ?_
                                rotate_left
                                · simp only [Act.put, List.setIfInBounds_toArray, List.set_cons_zero, List.set_cons_succ, i64_w, i32_w]
                                  rfl
                                refine pure_ (i := 6) (N := some 147) (v := undef) (a' := ?_) #[true, true, true, true, true, true, true, false, false, false, false, false, false, false, false, false, false, false, false, false, false, false, false, false, false, false, false, false] rfl rfl (by kernel_rfl) (fun _ _ _ h => h) (Or.inr ⟨by rfl, rfl⟩) ?_ ?_
                                rotate_left
                                · simp only [Act.put, List.setIfInBounds_toArray, List.set_cons_zero, List.set_cons_succ, i64_w, i32_w]
                                  rfl
                                refine pure_ (i := 7) (N := some 148) (v := undef) (a' := ?_) #[true, true, true, true, true, true, true, true, false, false, false, false, false, false, false, false, false, false, false, false, false, false, false, false, false, false, false, false] rfl rfl (by kernel_rfl) (fun _ _ _ h => h) (Or.inr ⟨by rfl, rfl⟩) ?_ ?_
                                rotate_left
                                · simp only [Act.put, List.setIfInBounds_toArray, List.set_cons_zero, List.set_cons_succ, i64_w, i32_w]
                                  rfl
                                refine pure_ (i := 8) (N := some 149) (v := undef) (a' := ?_) #[true, true, true, true, true, true, true, true, true, false, false, false, false, false, false, false, false, false, false, false, false, false, false, false, false, false, false, false] rfl rfl (by kernel_rfl) (fun _ _ _ h => h) (Or.inr ⟨by rfl, rfl⟩) ?_ ?_
                                rotate_left
                                · simp only [Act.put, List.setIfInBounds_toArray, List.set_cons_zero, List.set_cons_succ, i64_w, i32_w]
                                  rfl
                                refine pure_ (i := 9) (N := some 150) (v := undef) (a' := ?_) #[true, true, true, true, true, true, true, true, true, true, false, false, false, false, false, false, false, false, false, false, false, false, false, false, false, false, false, false] rfl rfl (by kernel_rfl) (fun _ _ _ h => h) (Or.inr ⟨by rfl, rfl⟩) ?_ ?_
                                rotate_left
                                · simp only [Act.put, List.setIfInBounds_toArray, List.set_cons_zero, List.set_cons_succ, i64_w, i32_w]
                                  rfl
                                refine pure_ (i := 10) (N := some 151) (v := undef) (a' := ?_) #[true, true, true, true, true, true, true, true, true, true, true, false, false, false, false, false, false, false, false, false, false, false, false, false, false, false, false, false] rfl rfl (by kernel_rfl) (fun _ _ _ h => h) (Or.inr ⟨by rfl, rfl⟩) ?_ ?_
                                rotate_left
                                · simp only [Act.put, List.setIfInBounds_toArray, List.set_cons_zero, List.set_cons_succ, i64_w, i32_w]
                                  rfl
                                refine pure_ (i := 11) (N := some 152) (v := undef) (a' := ?_) #[true, true, true, true, true, true, true, true, true, true, true, true, false, false, false, false, false, false, false, false, false, false, false, false, false, false, false, false] rfl rfl (by kernel_rfl) (fun _ _ _ h => h) (Or.inr ⟨by rfl, rfl⟩) ?_ ?_
                                rotate_left
                                · simp only [Act.put, List.setIfInBounds_toArray, List.set_cons_zero, List.set_cons_succ, i64_w, i32_w]
                                  rfl
                                refine pure_ (i := 12) (N := some 153) (v := undef) (a' := ?_) #[true, true, true, true, true, true, true, true, true, true, true, true, true, false, false, false, false, false, false, false, false, false, false, false, false, false, false, false] rfl rfl (by kernel_rfl) (fun _ _ _ h => h) (Or.inr ⟨by rfl, rfl⟩) ?_ ?_
                                rotate_left
                                · simp only [Act.put, List.setIfInBounds_toArray, List.set_cons_zero, List.set_cons_succ, i64_w, i32_w]
                                  rfl
                                refine pure_ (i := 13) (N := some 154) (v := undef) (a' := ?_) #[true, true, true, true, true, true, true, true, true, true, true, true, true, true, false, false, false, false, false, false, false, false, false, false, false, false, false, false] rfl rfl (by kernel_rfl) (fun _ _ _ h => h) (Or.inr ⟨by rfl, rfl⟩) ?_ ?_
                                rotate_left
                                · simp only [Act.put, List.setIfInBounds_toArray, List.set_cons_zero, List.set_cons_succ, i64_w, i32_w]
                                  rfl
                                refine pure_ (i := 14) (N := some 155) (v := ?_) (a' := ?_) #[true, true, true, true, true, true, true, true, true, true, true, true, true, true, true, false, false, false, false, false, false, false, false, false, false, false, false, false] rfl rfl (by kernel_rfl) (fun _ _ _ h => h) (Or.inl ⟨by rfl, ?_⟩) ?_ ?_
                                rotate_left
                                · intro w'
                                  go_simp
                                  with_reducible rfl
                                rotate_left
                                · simp only [Act.put, List.setIfInBounds_toArray, List.set_cons_zero, List.set_cons_succ, i64_w, i32_w]
                                  rfl
                                refine pure_ (i := 15) (N := some 156) (v := ?_) (a' := ?_) #[true, true, true, true, true, true, true, true, true, true, true, true, true, true, true, true, false, false, false, false, false, false, false, false, false, false, false, false] rfl rfl (by kernel_rfl) (fun _ _ _ h => h) (Or.inl ⟨by rfl, ?_⟩) ?_ ?_
                                rotate_left
                                · intro w'
                                  go_simp
                                  with_reducible rfl
                                rotate_left
                                · simp only [Act.put, List.setIfInBounds_toArray, List.set_cons_zero, List.set_cons_succ, i64_w, i32_w]
                                  rfl
                                refine pure_ (i := 16) (N := some 157) (v := ?_) (a' := ?_) #[true, true, true, true, true, true, true, true, true, true, true, true, true, true, true, true, true, false, false, false, false, false, false, false, false, false, false, false] rfl rfl (by kernel_rfl) (fun _ _ _ h => h) (Or.inl ⟨by rfl, ?_⟩) ?_ ?_
                                rotate_left
                                · intro w'
                                  go_simp
                                  with_reducible rfl
                                rotate_left
                                · simp only [Act.put, List.setIfInBounds_toArray, List.set_cons_zero, List.set_cons_succ, i64_w, i32_w]
                                  rfl
                                refine pure_ (i := 17) (N := some 158) (v := ?_) (a' := ?_) #[true, true, true, true, true, true, true, true, true, true, true, true, true, true, true, true, true, true, false, false, false, false, false, false, false, false, false, false] rfl rfl (by kernel_rfl) (fun _ _ _ h => h) (Or.inl ⟨by rfl, ?_⟩) ?_ ?_
                                rotate_left
                                · intro w'
                                  go_simp
                                  with_reducible rfl
                                rotate_left
                                · simp only [Act.put, List.setIfInBounds_toArray, List.set_cons_zero, List.set_cons_succ, i64_w, i32_w]
                                  rfl
                                refine pure_ (i := 18) (N := some 159) (v := ?_) (a' := ?_) #[true, true, true, true, true, true, true, true, true, true, true, true, true, true, true, true, true, true, true, false, false, false, false, false, false, false, false, false] rfl rfl (by kernel_rfl) (fun _ _ _ h => h) (Or.inl ⟨by rfl, ?_⟩) ?_ ?_
                                rotate_left
                                · intro w'
                                  go_simp
                                  with_reducible rfl
                                rotate_left
                                · simp only [Act.put, List.setIfInBounds_toArray, List.set_cons_zero, List.set_cons_succ, i64_w, i32_w]
                                  rfl
                                refine pure_ (i := 19) (N := some 160) (v := ?_) (a' := ?_) #[true, true, true, true, true, true, true, true, true, true, true, true, true, true, true, true, true, true, true, true, false, false, false, false, false, false, false, false] rfl rfl (by kernel_rfl) (fun _ _ _ h => h) (Or.inl ⟨by rfl, ?_⟩) ?_ ?_
                                rotate_left
                                · intro w'
                                  go_simp
                                  with_reducible rfl
                                rotate_left
                                · simp only [Act.put, List.setIfInBounds_toArray, List.set_cons_zero, List.set_cons_succ, i64_w, i32_w]
                                  rfl
                                refine pure_ (i := 20) (N := some 161) (v := ?_) (a' := ?_) #[true, true, true, true, true, true, true, true, true, true, true, true, true, true, true, true, true, true, true, true, true, false, false, false, false, false, false, false] rfl rfl (by kernel_rfl) (fun _ _ _ h => h) (Or.inl ⟨by rfl, ?_⟩) ?_ ?_
                                rotate_left
                                · intro w'
                                  go_simp
                                  with_reducible rfl
                                rotate_left
                                · simp only [Act.put, List.setIfInBounds_toArray, List.set_cons_zero, List.set_cons_succ, i64_w, i32_w]
                                  rfl
                                refine pure_ (i := 21) (N := some 162) (v := ?_) (a' := ?_) #[true, true, true, true, true, true, true, true, true, true, true, true, true, true, true, true, true, true, true, true, true, true, false, false, false, false, false, false] rfl rfl (by kernel_rfl) (fun _ _ _ h => h) (Or.inl ⟨by rfl, ?_⟩) ?_ ?_
                                rotate_left
                                · intro w'
                                  go_simp
                                  with_reducible rfl
                                rotate_left
                                · simp only [Act.put, List.setIfInBounds_toArray, List.set_cons_zero, List.set_cons_succ, i64_w, i32_w]
                                  rfl
                                refine pure_ (i := 22) (N := some 163) (v := ?_) (a' := ?_) #[true, true, true, true, true, true, true, true, true, true, true, true, true, true, true, true, true, true, true, true, true, true, true, false, false, false, false, false] rfl rfl (by kernel_rfl) (fun _ _ _ h => h) (Or.inl ⟨by rfl, ?_⟩) ?_ ?_
                                rotate_left
                                · intro w'
                                  go_simp
                                  with_reducible rfl
                                rotate_left
                                · simp only [Act.put, List.setIfInBounds_toArray, List.set_cons_zero, List.set_cons_succ, i64_w, i32_w]
                                  rfl
                                refine pure_ (i := 23) (N := some 164) (v := ?_) (a' := ?_) #[true, true, true, true, true, true, true, true, true, true, true, true, true, true, true, true, true, true, true, true, true, true, true, true, false, false, false, false] rfl rfl (by kernel_rfl) (fun _ _ _ h => h) (Or.inl ⟨by rfl, ?_⟩) ?_ ?_
                                rotate_left
                                · intro w'
                                  go_simp
                                  with_reducible rfl
                                rotate_left
                                · simp only [Act.put, List.setIfInBounds_toArray, List.set_cons_zero, List.set_cons_succ, i64_w, i32_w]
                                  rfl
                                refine take_ (i := 24) (N := some 165) (v := ?_) (a' := ?_) #[true, true, true, true, true, true, true, true, true, true, true, true, true, true, true, true, true, true, true, true, true, true, true, true, true, false, false, false] rfl rfl (by kernel_rfl) (fun _ _ _ h => h) (Or.inl ⟨by rfl, ?_⟩) hHeld ?_ ?_
                                rotate_left
                                · intro w' s0
                                  go_simp
                                  with_reducible rfl
                                rotate_left
                                · simp only [Act.put, List.setIfInBounds_toArray, List.set_cons_zero, List.set_cons_succ, i64_w, i32_w]
                                  rfl
                                refine pure_ (i := 25) (N := some 166) (v := ?_) (a' := ?_) #[true, true, true, true, true, true, true, true, true, true, true, true, true, true, true, true, true, true, true, true, true, true, true, true, true, true, false, false] rfl rfl (by kernel_rfl) (fun _ _ _ h => h) (Or.inl ⟨by rfl, ?_⟩) ?_ ?_
                                rotate_left
                                · intro w'
                                  go_simp
                                  with_reducible rfl
                                rotate_left
                                · simp only [Act.put, List.setIfInBounds_toArray, List.set_cons_zero, List.set_cons_succ, i64_w, i32_w]
                                  rfl
                                refine pure_ (i := 26) (N := some 167) (v := ?_) (a' := ?_) #[true, true, true, true, true, true, true, true, true, true, true, true, true, true, true, true, true, true, true, true, true, true, true, true, true, true, true, false] rfl rfl (by kernel_rfl) (fun _ _ _ h => h) (Or.inl ⟨by rfl, ?_⟩) ?_ ?_
                                rotate_left
                                · intro w'
                                  go_simp
                                  with_reducible rfl
                                rotate_left
                                · simp only [Act.put, List.setIfInBounds_toArray, List.set_cons_zero, List.set_cons_succ, i64_w, i32_w]
                                  rfl
                                refine pure_ (i := 27) (N := some 168) (v := ?_) (a' := ?_) #[true, true, true, true, true, true, true, true, true, true, true, true, true, true, true, true, true, true, true, true, true, true, true, true, true, true, true, true] rfl rfl (by kernel_rfl) (fun _ _ _ h => h) (Or.inl ⟨by rfl, ?_⟩) ?_ ?_
                                rotate_left
                                · intro w'
                                  go_simp
                                  with_reducible rfl
                                rotate_left
                                · simp only [Act.put, List.setIfInBounds_toArray, List.set_cons_zero, List.set_cons_succ, i64_w, i32_w]
                                  rfl
                                refine done_ (by kernel_rfl) ?_

                                go_wp2
                                refine ⟨⟨k + 1, by omega, by go_num, hL1, hM1, hZ1, hS1, hB1⟩, ?_⟩
                                simp [intOf]; omega
                            · have hke : zs.length = k := by omega
                              subst hke
                              clear hZ
                              go_wp2_with fail
                              clear hLl hMl hLg hMg hqn hgz hgz2
                              obtain ⟨gl, cl, hu, _, _⟩ := hL.own.form (by omega)
                              subst hu
                              have hLo := hL.own
                              have hLc := hL.cells
                              generalize wr = wk at *
                              go_loopw [24] (fun i wr => ∃ k : Nat, k ≤ xs.length + 40 ∧ i = .int .i64 k ∧ Aside0 (Drawn0 wk wr)) (fun i _ => xs.length + 40 - (intOf i).toNat)
                              case atStart => exact ⟨0, Nat.zero_le _, rfl, ⟨Drawn0.refl _⟩⟩
                              case round =>
                                obtain ⟨k, hk, rfl, HD⟩ := hrel
                                have hD := HD.out
                                clear HD
                                by_cases hlt : k < xs.length + 40
                                · have hat := (own_at_of (d := 0) hLo (k : Int) (by omega) (by omega)).1
                                  rw [Int.toNat_natCast, rdOf, Int.toNat_natCast, rep_get _ _ _ hlt] at hat
                                  have hcl := dcell hD hat
                                  have hk0 : (0 : Int) ≤ k := Int.natCast_nonneg k
                                  have hk2 : (k : Int) < (xs.length : Int) + 40 := by omega
                                  by_cases hin : k < xs.length
                                  · have hgA := hgx (by omega)
                                    clear hgx hgx2 hgy hgy2
                                    subst hgA
                                    have hcx := dcell hD (hLc k hin)
                                    have hk3 : (k : Int) < (xs.length : Int) := Int.ofNat_lt.mpr hin
                                    clear hLo hLc hat hxq hyq hzq hzl1 hzl2 hSz hBz hL hM hsep
                                    go_wp2_with fail
                                    refine ⟨⟨k + 1, by omega, by go_num, ⟨hD⟩⟩, ?_⟩
                                    simp [intOf]; omega
                                  · have hk3 : (xs.length : Int) ≤ (k : Int) := by omega
                                    clear hgx hgx2 hgy hgy2
                                    clear hLo hLc hat hxq hyq hzq hzl1 hzl2 hSz hBz hL hM hsep
                                    go_wp2_with fail
                                    refine ⟨⟨k + 1, by omega, by go_num, ⟨hD⟩⟩, ?_⟩
                                    simp [intOf]; omega
                                · have hke : k = xs.length + 40 := by omega
                                  subst hke
                                  have hSz := hSz.drawn hD
                                  have hBz := dbelow hD hBz
                                  clear hLo hLc
                                  have hM := hM.only (Only.of_below hD.below (fun _ => False)) (fun _ _ h => h) (fun _ h => h)
                                  go_wp2_with fail
                                  skip
                                  obtain ⟨gl, cl, hu, _, _⟩ := hM.own.form (by omega)
                                  subst hu
                                  have hLo := hM.own
                                  have hLc := hM.cells
                                  generalize wr = wk at *
                                  go_loopw [25] (fun i wr => ∃ k : Nat, k ≤ ys.length + 40 ∧ i = .int .i64 k ∧ Aside0 (Drawn0 wk wr)) (fun i _ => ys.length + 40 - (intOf i).toNat)
                                  case atStart => exact ⟨0, Nat.zero_le _, rfl, ⟨Drawn0.refl _⟩⟩
                                  case round =>
                                    obtain ⟨k, hk, rfl, HD⟩ := hrel
                                    have hD := HD.out
                                    clear HD
                                    by_cases hlt : k < ys.length + 40
                                    · have hat := (own_at_of (d := 0) hLo (k : Int) (by omega) (by omega)).1
                                      rw [Int.toNat_natCast, rdOf, Int.toNat_natCast, rep_get _ _ _ hlt] at hat
                                      have hcl := dcell hD hat
                                      have hk0 : (0 : Int) ≤ k := Int.natCast_nonneg k
                                      have hk2 : (k : Int) < (ys.length : Int) + 40 := by omega
                                      by_cases hin : k < ys.length
                                      · have hgA := hgy (by omega)
                                        clear hgx hgx2 hgy hgy2
                                        subst hgA
                                        have hcx := dcell hD (hLc k hin)
                                        have hk3 : (k : Int) < (ys.length : Int) := Int.ofNat_lt.mpr hin
                                        clear hLo hLc hat hxq hyq hzq hzl1 hzl2 hSz hBz hM hsep
                                        go_wp2_with fail
                                        refine ⟨⟨k + 1, by omega, by go_num, ⟨hD⟩⟩, ?_⟩
                                        simp [intOf]; omega
                                      · have hk3 : (ys.length : Int) ≤ (k : Int) := by omega
                                        clear hgx hgx2 hgy hgy2
                                        clear hLo hLc hat hxq hyq hzq hzl1 hzl2 hSz hBz hM hsep
                                        go_wp2_with fail
                                        refine ⟨⟨k + 1, by omega, by go_num, ⟨hD⟩⟩, ?_⟩
                                        simp [intOf]; omega
                                    · have hke : k = ys.length + 40 := by omega
                                      subst hke
                                      have hSz := hSz.drawn hD
                                      have hBz := dbelow hD hBz
                                      clear hLo hLc
                                      go_wp2_with fail
                                      refine (Rs.pushq_room _ hSz _ (by decide)).mono ?_
                                      rintro e wm1 ⟨rfl, hS1, hP1⟩
                                      have hB1 := hP1.below hBz hBz.size hAs
                                      go_wp2_with fail
                                      refine (Rs.pushq_room _ hS1 _ (by decide)).mono ?_
                                      rintro e wm2 ⟨rfl, hS2, hP2⟩
                                      have hB2 := hP2.below hB1 hB1.size hAs
                                      go_wp2_with fail
                                      refine (pop_a _ hS2).mono ?_
                                      rintro e wm3 ⟨sa, rfl, he1, hS3, hP3⟩
                                      have hB3 := hP3.below hB2 hB2.size hAs
                                      go_wp2_with fail
                                      refine (Rs.take_calls _ hS3 9 (by omega) (by omega)).mono ?_
                                      rintro e wm4 ⟨v9, rfl, hT9⟩
                                      obtain ⟨A9, c9, rfl, hle9, hRd9⟩ := hT9.slice [⟨#[98]⟩] 1 rfl rfl
                                      have hS4 : Rs.RQ wm4 sg sgt 2 [] := hT9.ring
                                      have hB4 := hT9.only.below hB3 hB3.size hAs
                                      obtain ⟨ad9, eA9, hc9⟩ := hRd9.2.2 (by omega)
                                      subst eA9
                                      obtain ⟨sb, hsb, he2⟩ : ∃ sb : ByteArray, ⟨#[98]⟩ = sb ∧ ∀ t, binOp .eql t (.string sb) (.string ⟨#[98]⟩) = pure (.bool true) := ⟨_, rfl, fun t => eq_s t _⟩
                                      have hc9 : wm4.cell? ad9 = some (.string sb) := by
                                        rw [← hsb]
                                        have h := hc9 0 (by omega)
                                        rw [show ad9.add 0 = ad9 by simp [Addr.add]] at h
                                        exact h
                                      clear hT9 hRd9 hsb
                                      go_wp2_with fail
                                      refine (pop_none_lit _ hS4).mono ?_
                                      rintro e wm5 ⟨sc, rfl, he3, hd5⟩
                                      have hB5 := dbelow hd5 hB4
                                      have hc9 := dcell hd5 hc9
                                      rw [List.length_append, List.length_replicate] at hzl1 hzl2
                                      have hfin : (xs.length : Int) + (ys.length : Int) + (zs.length : Int) = (l.length : Int) + 10 := by
                                        have hqn : q2.length + xs.length + ys.length = l.length := by have h1 := hxq.out.1; have h2 := hyq.out.1; rw [← h1, ← h2]; simp; omega
                                        omega
                                      have hzb : (zs.length : Int) ≤ 8000 := by omega
                                      have hyb : (ys.length : Int) ≤ 4000 := by omega
                                      have hxb : (xs.length : Int) ≤ 4000 := by omega
                                      clear hzl1 hzl2 hxq hyq hzq hB1 hB2 hB3 hP1 hP2 hP3 hS1 hS2 hS3
                                      go_wp2_with fail
                                      go_ret
                                      exact ⟨rfl, hB5⟩
end Go.Proofs.Ytjajaklichiknaa.Rg
