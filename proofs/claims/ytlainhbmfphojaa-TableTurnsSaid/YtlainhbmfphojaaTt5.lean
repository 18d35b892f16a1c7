/- Proved: the walk of TableTurns. -/
import Derived.Test.YtlainhbmfphojaaTt4
namespace Go.Proofs.Ytlainhbmfphojaa.Tb
open Go.RowKit Go.Maps Go.Proofs.YtlainhbmfphojaaW.PrintWords Go.Proofs.YtlainhbmfphojaaW.PrintLast Go.Proofs.YtlainhbmfphojaaW.PrintMore
set_option linter.unusedVariables false
set_option linter.unusedSimpArgs false

theorem Tab.base {X : Type} {w : World} {tb th : TypeId} {enc : X → Value} {B B' g n : Nat} {S : Nat → Prop} {l : List (ByteArray × X)} (h : Tab w tb th enc B g n S l) (hB : B' ≤ B) : Tab w tb th enc B' g n S l := by
  obtain ⟨gm, L, h1, h2, h3⟩ := h.ex
  exact ⟨gm, L, ⟨h1.blk, h1.seg, h1.mp, h1.nd, h1.kd, h1.ng, h1.nm, h1.gg, ⟨Nat.le_trans hB h1.lo.1, Nat.le_trans hB h1.lo.2.1, fun b hb => Nat.le_trans hB (h1.lo.2.2 b hb)⟩, h1.sz, h1.len, h1.n0, h1.n1⟩, h2, h3⟩
/-- The table and the three variables that the functions see. -/
structure Sd (w0 : World) (g n : Nat) (add : Int) (dr : ByteArray) (bt ba bd : Nat) (S : Nat → Prop) (l : LI) (w : World) : Prop where
  tab : Tab w 54 57 eI w0.heap.size g n S l
  ct : w.heap[bt]? = some (.cells #[.pointer (some ⟨g, 0, none⟩)] 26 (0, 0))
  ca : w.heap[ba]? = some (.cells #[.int .i64 add] 3 (0, 0))
  cd : w.heap[bd]? = some (.cells #[.string dr] 9 (0, 0))
  nt : ¬ S bt
  na : ¬ S ba
  nd : ¬ S bd
  bel : Below w0.heap.size w0 w
section
variable {w0 w w' : World} {g n : Nat} {add : Int} {dr : ByteArray} {bt ba bd : Nat} {S S' : Nat → Prop} {l l' : LI}
theorem Sd.step (h : Sd w0 g n add dr bt ba bd S l w) (ht : Tab w' 54 57 eI w0.heap.size g n S' l') (hN : Nx w w' S S') : Sd w0 g n add dr bt ba bd S' l' w' :=
  ⟨ht, hN.only.blk h.ct h.nt, hN.only.blk h.ca h.na, hN.only.blk h.cd h.nd, hN.apart h.nt (blk_lt h.ct), hN.apart h.na (blk_lt h.ca), hN.apart h.nd (blk_lt h.cd), hN.below h.tab h.bel⟩
theorem Sd.below (h : Sd w0 g n add dr bt ba bd S l w) (hb : Below w.heap.size w w') : Sd w0 g n add dr bt ba bd S l w' :=
  ⟨h.tab.below hb, (hb.block _ (blk_lt h.ct)).trans h.ct, (hb.block _ (blk_lt h.ca)).trans h.ca, (hb.block _ (blk_lt h.cd)).trans h.cd, h.nt, h.na, h.nd, below_step h.bel hb⟩
/-- What touches other blocks, and perhaps the table, leaves the variables. -/
theorem Sd.other {T : Nat → Prop} (h : Sd w0 g n add dr bt ba bd S l w) (hO : Only w w' T) (ht : Tab w' 54 57 eI w0.heap.size g n S' l') (hS : ∀ k, S' k → S k ∨ w.heap.size ≤ k) (ht1 : ¬ T bt) (ha1 : ¬ T ba) (hd1 : ¬ T bd) (hb : ∀ k, T k → w0.heap.size ≤ k) : Sd w0 g n add dr bt ba bd S' l' w' :=
  ⟨ht, hO.blk h.ct ht1, hO.blk h.ca ha1, hO.blk h.cd hd1, fun q => (hS _ q).elim h.nt (fun q => by have := blk_lt h.ct; omega), fun q => (hS _ q).elim h.na (fun q => by have := blk_lt h.ca; omega), fun q => (hS _ q).elim h.nd (fun q => by have := blk_lt h.cd; omega), hO.below h.bel h.tab.size hb⟩
end
theorem al_size (w : World) (o : Obj) : (w.alloc o).heap.size = w.heap.size + 1 := by simp
theorem al_at (w : World) (o : Obj) : (w.alloc o).heap[w.heap.size]? = some o := by show (w.heap.push o)[w.heap.size]? = some o; exact Array.getElem?_push_size
theorem al_lt (w : World) (o : Obj) {k : Nat} (h : k < w.heap.size) : (w.alloc o).heap[k]? = w.heap[k]? := ((Below.refl w.heap.size w).alloc (Nat.le_refl _) o).block k h
theorem tpeek_is {w : World} {B g n : Nat} {S : Nat → Prop} {l : LI} {s : ByteArray} (h : Tab w 54 57 eI B g n S l) (hs : s.size ≤ maxLen) : Calls Try.prog 11 #[.pointer (some ⟨g, 0, none⟩), .string s] w fun r w' => (∃ z : Int, r = .returned (.tuple #[.int .i64 z, .bool (val s l).isSome])) ∧ w' = w := by
  cases hv : val s l with
  | none =>
    refine (tpeekI_none h hv hs).mono ?_
    rintro r w' ⟨rfl, rfl⟩
    exact ⟨⟨_, rfl⟩, rfl⟩
  | some x =>
    refine (tpeekI_some h hv).mono ?_
    rintro r w' ⟨rfl, rfl⟩
    exact ⟨⟨_, rfl⟩, rfl⟩
theorem wtt (z : Int) (h0 : 0 ≤ z) (h1 : z ≤ 4096) : wrap64 z = z := by unfold wrap64; omega
theorem wtt2 (x add : Int) (h0 : 0 ≤ x) (h1 : x ≤ 4096) : wrap64 (wrap64 (x + add) - add) = x := by unfold wrap64; omega
theorem as1 {l m : Nat} (h : l ≤ 200) (h2 : m = l + 2) : (l : Int) + 2 = (m : Int) := by omega
theorem as2 {j l : Nat} (h : j ≤ l) (h2 : ¬ j < l) : j = l := by omega
theorem as3 {a b : Nat} (h : b < a) : a - (b + 1) < a - b := by omega
theorem as4 {x m : Nat} (h : x < m) (h2 : m ≤ 4096) : (x : Int) ≤ 4096 := by omega
theorem as5 {x : Nat} : ¬ (x : Int) < 0 := by omega
theorem as6 {x m : Nat} (h : x < m) : ¬ (m : Int) ≤ (x : Int) := by omega
theorem as7 {a b z : Nat} (h : a ≤ 9 + b * z) (hb : b ≤ 200) (hz : z ≤ 140737488355328) : a ≤ 28147497671074000 := by
  have : b * z ≤ 200 * 140737488355328 := Nat.mul_le_mul hb hz
  omega
theorem as8 {a b : Nat} (h : a ≤ 28147497671074000) (h2 : b ≤ 140737488355328) : ¬ 9223372036854775807 < a + b := by omega
theorem as9 {a : Nat} (h : a ≤ 28147497671074000) : ¬ 9223372036854775807 < a + 1 := by omega
theorem as10 {a : Nat} (h : a ≤ 28147497671074000) : a + 1 ≤ maxLen := by unfold maxLen; omega
theorem as11 {a : Nat} (h : a ≤ 28147497671074000) : a ≤ maxLen := by unfold maxLen; omega
theorem as12 {n l k : Nat} (h : n = l + 2) (h2 : k ≤ l) : k + 1 < n := by omega
theorem as13 {l : Nat} (h : ¬ l = 0) : ((l : Int) == 0) = false := by
  simp only [beq_eq_false_iff_ne, ne_eq]
  omega
set_option maxHeartbeats 4000000 in
set_option maxRecDepth 100000 in
theorem turns_long (kl : List ByteArray) (A : Option Addr) (c : Nat) (add : Int) (dr : ByteArray) (w : World) (hl : 200 < kl.length) : Calls Try.prog 6 #[.slice A kl.length c, .int .i64 add, .string dr] w fun r w' => r = .returned (.bool true) ∧ Below w.heap.size w w' := by
  have hu3 := Try.underlying3
  have hu22 := Try.underlying22
  have hu9 := Try.underlying9
  have hu26 := Try.underlying26
  have hu48 := Try.underlying48
  have c3 : (200 : Int) < (kl.length : Int) := by omega
  have hb00 : Below w.heap.size w (w.alloc (.cells #[.int .i64 add] 3)) := (Below.refl _ _).alloc (Nat.le_refl _) _
  have hb0 : Below w.heap.size w ((w.alloc (.cells #[.int .i64 add] 3)).alloc (.cells #[.string dr] 9)) := hb00.alloc hb00.size _
  go_enter Try.func6, Try.ntmps6
  go_upto_region 2 with (first
    | (go_at_call 7; refine (alive_calls _).mono ?_; rintro r wa ⟨rfl, hba⟩))
  go_wp2_with (first
    | (go_at_call 7; refine (alive_calls _).mono ?_; rintro r wb ⟨rfl, hbb⟩))
  go_ret
  exact ⟨rfl, below_step (below_step hb0 hba) hbb⟩
set_option maxHeartbeats 16000000 in
set_option maxRecDepth 100000 in
theorem turns_ok (kl : List ByteArray) (A : Option Addr) (c : Nat) (add : Int) (dr : ByteArray) (w : World) (hl : kl.length ≤ 200) (HR : RS w A kl.length kl) (hal : ∀ k, k < kl.length → (kl.getD k ByteArray.empty).size ≤ 140737488355328) (hdr : dr.size ≤ 140737488355328) : Calls Try.prog 6 #[.slice A kl.length c, .int .i64 add, .string dr] w fun r w' => r = .returned (.bool true) ∧ Below w.heap.size w w' := by
  have hu3 := Try.underlying3
  have hu22 := Try.underlying22
  have hu9 := Try.underlying9
  have hu26 := Try.underlying26
  have hu48 := Try.underlying48
  have hmf : ∀ (fn : Fn) (first cap : Array Value) (w : World), (Instr.makeFunc fn first cap).run Try.prog w = .ok (.func fn first cap) w := fun _ _ _ _ => rfl
  have c3 : ¬ (200 : Int) < (kl.length : Int) := by omega
  obtain ⟨n, hn⟩ : ∃ n, n = kl.length + 2 := ⟨_, rfl⟩
  have hnw := as1 hl hn
  have hn0 : 0 < n := by omega
  have hn1 : n ≤ 4096 := by omega
  have HN := Aside0.mk hn
  clear hn
  have hb00 : Below w.heap.size w (w.alloc (.cells #[.int .i64 add] 3)) := (Below.refl _ _).alloc (Nat.le_refl _) _
  have hb0 : Below w.heap.size w ((w.alloc (.cells #[.int .i64 add] 3)).alloc (.cells #[.string dr] 9)) := hb00.alloc hb00.size _
  have hbd0 : ((w.alloc (.cells #[.int .i64 add] 3)).alloc (.cells #[.string dr] 9)).heap[w.heap.size + 1]? = some (.cells #[.string dr] 9 (0, 0)) := by rw [← al_size w (.cells #[.int .i64 add] 3)]; exact al_at _ _
  have hba0 : ((w.alloc (.cells #[.int .i64 add] 3)).alloc (.cells #[.string dr] 9)).heap[w.heap.size]? = some (.cells #[.int .i64 add] 3 (0, 0)) := (al_lt _ _ (by rw [al_size]; exact Nat.lt_succ_self _)).trans (al_at _ _)
  have HDR := Aside0.mk hdr
  have HAL := Aside0.mk hal
  have HRA := Aside0.mk HR
  have HBX := Aside0.mk (And.intro hb0 (And.intro hbd0 hba0))
  clear hdr hal HR hb00 hb0 hbd0 hba0
  go_enter Try.func6, Try.ntmps6
  go_upto_region 4 with (first
    | (go_at_call 7; refine (alive_calls _).mono ?_; rintro r wa ⟨rfl, hba⟩)
    | (go_at_call 8; refine (tnewI _ n hn0 hn1).mono ?_; rintro r wn ⟨g, S, rfl, hT, hB⟩))
  have hb1 : Below wn.heap.size wn (wn.alloc (.cells #[.pointer (some ⟨g, 0, none⟩)] 26)) := (Below.refl _ _).alloc (Nat.le_refl _) _
  obtain ⟨w1, hw1⟩ : ∃ w1, wn.alloc (.cells #[.pointer (some ⟨g, 0, none⟩)] 26) = w1 := ⟨_, rfl⟩
  have ht1 : w1.heap[wn.heap.size]? = some (.cells #[.pointer (some ⟨g, 0, none⟩)] 26 (0, 0)) := hw1 ▸ al_at _ _
  rw [hw1] at hb1 ⊢
  clear hw1
  have HS1 : Sd w g n add dr wn.heap.size w.heap.size (w.heap.size + 1) S [] w1 := by
    obtain ⟨hb0, hd0, ha0⟩ := HBX.out
    have la := blk_lt ha0
    have ld := blk_lt hd0
    have ha2 := (hba.block _ la).trans ha0
    have hd2 := (hba.block _ ld).trans hd0
    have ha3 := (hB.block _ (blk_lt ha2)).trans ha2
    have hd3 := (hB.block _ (blk_lt hd2)).trans hd2
    refine ⟨(hT.base (Nat.le_trans hb0.size hba.size)).below hb1, ht1, (hb1.block _ (blk_lt ha3)).trans ha3, (hb1.block _ (blk_lt hd3)).trans hd3, fun q => Nat.lt_irrefl _ (hT.lt _ q), fun q => ?_, fun q => ?_, below_step (below_step (below_step hb0 hba) hB) hb1⟩
    · exact absurd (hT.ge _ q) (Nat.not_le.mpr (Nat.lt_of_lt_of_le la hba.size))
    · exact absurd (hT.ge _ q) (Nat.not_le.mpr (Nat.lt_of_lt_of_le ld hba.size))
  clear hT hB hba HBX hb1 ht1
  obtain ⟨bt, ebt⟩ : ∃ bt, wn.heap.size = bt := ⟨_, rfl⟩
  obtain ⟨bd, ebd⟩ : ∃ bd, w.heap.size + 1 = bd := ⟨_, rfl⟩
  obtain ⟨ba, eba⟩ : ∃ ba, w.heap.size = ba := ⟨_, rfl⟩
  rw [ebd, ebt] at HS1 ⊢
  rw [eba] at HS1 ⊢
  clear ebt ebd eba
  have ct0 := blk_cell HS1.ct 0
  have ft0 := blk_frozen HS1.ct 0
  simp only [List.getElem?_toArray, List.getElem?_cons_zero, List.getElem?_cons_succ] at ct0
  have HS1 := Aside0.mk HS1
  go_wp2_with fail
  go_loopw [9] (fun i wr => ∃ (k : Nat) (S : Nat → Prop) (l : LI), k ≤ kl.length ∧ i = .int .i64 k ∧ Aside0 (Pj kl k l) ∧ Aside0 (Sd w g n add dr bt ba bd S l wr)) (fun i _ => kl.length - (intOf i).toNat)
  case atStart => exact ⟨0, S, [], Nat.zero_le _, rfl, ⟨Pj.begin kl⟩, HS1⟩
  case round =>
    clear HS1 ct0 ft0
    obtain ⟨k, S, l, hk, rfl, HP, HS⟩ := hrel
    have hk0 : (0 : Int) ≤ k := Int.natCast_nonneg k
    by_cases hlt : k < kl.length
    · have hk2 : (k : Int) < (kl.length : Int) := Int.ofNat_lt.mpr hlt
      obtain ⟨ad, s, eA, hx, gs⟩ := (HRA.out.below HS.out.bel).at_ k hlt
      have hsz : s.size ≤ maxLen := by rw [← gs]; exact Nat.le_trans (HAL.out k hlt) (by decide)
      subst eA
      have ct0 := blk_cell HS.out.ct 0
      have ft0 := blk_frozen HS.out.ct 0
      simp only [List.getElem?_toArray, List.getElem?_cons_zero, List.getElem?_cons_succ] at ct0
      have HP1 := Aside0.mk (HP.out.put (n := n) gs)
      clear gs HP
      go_wp2_with fail
      refine start_ (n := 7) (S := fun w' => w'.cell? ⟨bt, 0, none⟩ = some (.pointer (some ⟨g, 0, none⟩)) ∧ w'.cell? (ad.add k) = some (.string s) ∧ Sd w g n add dr bt ba bd S l w') (ds := [6]) #[false, false, false, false, false, false, false] (by kernel_rfl) rfl rfl ⟨ct0, hx, HS.out.below (drew_below _)⟩ (fun hHeld => ?_)
      refine pure_ (i := 1) (N := some 49) (v := ?_) (a' := ?_) #[false, true, false, false, false, false, false] rfl rfl (by kernel_rfl) (fun _ _ _ h => h) (Or.inl ⟨by rfl, ?_⟩) ?_ ?_
      rotate_left
      · intro w'
        go_simp
        with_reducible rfl
      rotate_left
      · simp only [Act.put, List.setIfInBounds_toArray, List.set_cons_zero, List.set_cons_succ, i64_w, i32_w]
        rfl
      refine pure_ (i := 2) (N := some 50) (v := ?_) (a' := ?_) #[false, true, true, false, false, false, false] rfl rfl (by kernel_rfl) (fun _ _ _ h => h) (Or.inl ⟨by rfl, ?_⟩) ?_ ?_
      rotate_left
      · intro w'
        go_simp
        with_reducible rfl
      rotate_left
      · simp only [Act.put, List.setIfInBounds_toArray, List.set_cons_zero, List.set_cons_succ, i64_w, i32_w]
        rfl
      refine pure_ (i := 3) (N := some 51) (v := ?_) (a' := ?_) #[false, true, true, true, false, false, false] rfl rfl (by kernel_rfl) (fun _ _ _ h => h) (Or.inl ⟨by rfl, ?_⟩) ?_ ?_
      rotate_left
      · intro w'
        go_simp
        with_reducible rfl
      rotate_left
      · simp only [Act.put, List.setIfInBounds_toArray, List.set_cons_zero, List.set_cons_succ, i64_w, i32_w]
        rfl
      refine pure_ (i := 5) (N := some 53) (v := ?_) (a' := ?_) #[false, true, true, true, false, true, false] rfl rfl (by kernel_rfl) (fun _ _ _ h => h) (Or.inl ⟨by rfl, ?_⟩) ?_ ?_
      rotate_left
      · intro w'
        go_simp
        with_reducible rfl
      rotate_left
      · simp only [Act.put, List.setIfInBounds_toArray, List.set_cons_zero, List.set_cons_succ, i64_w, i32_w]
        rfl
      refine take_ (i := 0) (N := some 48) (v := ?_) (a' := ?_) #[true, true, true, true, false, true, false] rfl rfl (by kernel_rfl) (fun _ _ _ h => h) (Or.inl ⟨by rfl, ?_⟩) hHeld ?_ ?_
      rotate_left
      · rintro w' ⟨s0, s1, s2⟩
        go_simp
        with_reducible rfl
      rotate_left
      · simp only [Act.put, List.setIfInBounds_toArray, List.set_cons_zero, List.set_cons_succ, i64_w, i32_w]
        rfl
      refine take_ (i := 4) (N := some 52) (v := ?_) (a' := ?_) #[true, true, true, true, true, true, false] rfl rfl (by kernel_rfl) (fun _ _ _ h => h) (Or.inl ⟨by rfl, ?_⟩) hHeld ?_ ?_
      rotate_left
      · rintro w' ⟨s0, s1, s2⟩
        go_simp
        with_reducible rfl
      rotate_left
      · simp only [Act.put, List.setIfInBounds_toArray, List.set_cons_zero, List.set_cons_succ, i64_w, i32_w]
        rfl
      refine last_ (i := 6) (N := some 54) #[true, true, true, true, true, true, true] rfl rfl (by kernel_rfl) (by decide) (fun K hK => ?_)
      refine goes_ Try.func9 (by kernel_rfl) rfl _ (by rfl) rfl rfl (by simp only [List.map_toArray, List.map_cons, List.map_nil]; rfl) ?_
      refine (tputI (x := (k : Int)) hHeld.2.2.tab hsz).mono ?_
      rintro e w4 ⟨S4, rfl, hT4, hN4⟩
      have HS4 := Aside0.mk (hHeld.2.2.step hT4 hN4)
      clear hT4 hN4
      refine ⟨_, rfl, ?_⟩
      refine hK.out _ _ ?_
      clear hK K
      refine norm_ (a' := ?_) ?_ ?_
      rotate_left
      · show Act.put _ (some 54) _ = _
        simp only [Act.put, List.setIfInBounds_toArray, List.set_cons_zero, List.set_cons_succ, i64_w, i32_w]
        rfl
      refine done_ (by kernel_rfl) ?_
      clear ct0 ft0 hx hsz hHeld HS
      go_wp2_with fail
      go_roundw
      case rel => exact ⟨k + 1, S4, _, hlt, by go_num, HP1, HS4⟩
      case measure => simp [intOf]; first | exact as3 hlt | omega
    · obtain rfl : k = kl.length := as2 hk hlt
      obtain ⟨K, hK⟩ : ∃ K, ks l = K := ⟨_, rfl⟩
      have hKl : K.length ≤ kl.length := by rw [← hK, List.length_map]; exact HP.out.1
      have hK2 : K.length ≤ 200 := Nat.le_trans hKl hl
      have ct0 := blk_cell HS.out.ct 0
      have ft0 := blk_frozen HS.out.ct 0
      simp only [List.getElem?_toArray, List.getElem?_cons_zero, List.getElem?_cons_succ] at ct0
      have HKY := Aside0.mk (tkeysI HS.out.tab)
      rw [hK] at HKY
      have hK := Aside0.mk hK
      go_upto_region 12 with (first
        | (go_at_call 12; refine HKY.out.mono ?_; rintro r w7 ⟨v7, rfl, hk7, hb7⟩; obtain ⟨Aw, c7, rfl⟩ := own_slice hk7; have HK7 := Aside0.mk hk7; have HB7 := Aside0.mk hb7; clear hk7 hb7))
      clear HKY ct0 ft0
      have HS7 := HS.out.below HB7.out
      have hb8 : Below w7.heap.size w7 (w7.alloc (.cells #[.slice none 0 0] 22)) := (Below.refl _ _).alloc (Nat.le_refl _) _
      have HS8 := HS7.below hb8
      have hc8 := al_at w7 (.cells #[.slice none 0 0] 22)
      have nSc : ¬ S w7.heap.size := fun q => Nat.lt_irrefl _ (Nat.lt_of_lt_of_le (HS.out.tab.lt _ q) HB7.out.size)
      have nac : ba ≠ w7.heap.size := fun e => Nat.lt_irrefl w7.heap.size (e ▸ blk_lt HS7.ca)
      have ntc : bt ≠ w7.heap.size := fun e => Nat.lt_irrefl w7.heap.size (e ▸ blk_lt HS7.ct)
      have ndc : bd ≠ w7.heap.size := fun e => Nat.lt_irrefl w7.heap.size (e ▸ blk_lt HS7.cd)
      have hkb := own_base_ HK7.out
      have hkl7 := Go.Proofs.YtlainhbmfphojaaW.PrintWords.own_lt HK7.out
      have HK8 : Aside0 ((w7.alloc (.cells #[.slice none 0 0] 22)).ownsRow wr.heap.size 9 1 (.slice Aw K.length c7) K.length (encs (fun x : ByteArray => Value.string x) K)) := ⟨(Only.of_below hb8 (fun _ => False)).own HK7.out (fun _ _ h => h)⟩
      have HN9 : Aside0 (∀ k, (Value.slice Aw K.length c7).ownBlock = some k → ¬ (S k ∨ k = w7.heap.size)) := ⟨fun k hk q => q.elim (fun q => Nat.lt_irrefl _ (Nat.lt_of_lt_of_le (HS.out.tab.lt _ q) (hkb k hk))) (fun q => Nat.lt_irrefl _ (q ▸ hkl7 k hk))⟩
      have hlen8 : w.heap.size ≤ w7.heap.size := HS7.bel.size
      obtain ⟨bc, ebc⟩ : ∃ bc, w7.heap.size = bc := ⟨_, rfl⟩
      obtain ⟨w8, ew8⟩ : ∃ w8, w7.alloc (.cells #[.slice none 0 0] 22) = w8 := ⟨_, rfl⟩
      rw [ew8] at HS8 hc8 HK8 ⊢
      rw [ebc] at hc8 nSc nac ntc ndc HN9 hlen8 ⊢
      clear ew8 ebc hb8 HS7 HB7 HK7 hkb hkl7
      have ct0 := blk_cell HS8.ct 0
      have ft0 := blk_frozen HS8.ct 0
      simp only [List.getElem?_toArray, List.getElem?_cons_zero, List.getElem?_cons_succ] at ct0
      have HE1 := Aside0.mk (each1 (kl := kl) HS8.tab hK.out HP.out (Nat.le_trans hK2 (by decide)) hc8 HS8.ca nSc HS8.na nac)
      have HS8 := Aside0.mk HS8
      have HC8 := Aside0.mk (And.intro nSc (And.intro nac (And.intro ntc (And.intro ndc hlen8))))
      clear hc8 nSc nac ntc ndc HP HS
      go_upto_region 13 with (first
        | (go_at_call 25; refine HE1.out.mono ?_; rintro r w9 ⟨rfl, A9, S9, l9, hE9⟩; have HE9 := Aside0.mk hE9; clear hE9 HE1 ct0 ft0))
      obtain rfl : S9 = S := HE9.out.eS
      obtain ⟨v9, hc9, ho9, _⟩ := HE9.out.called
      rw [List.take_length] at ho9
      obtain ⟨Ac, cc, rfl⟩ := own_slice ho9
      have hRc := own_reads_of' (d := ByteArray.empty) ho9
      have HK9 := Aside0.mk (HE9.out.only.own HK8.out HN9.out)
      have hRw := own_reads_of' (d := ByteArray.empty) HK9.out
      have HVL := Aside0.mk HE9.out.vals
      have HKS := Aside0.mk HE9.out.kseq
      have HXS : Aside0 (∀ i, i < K.length → ∃ x : Nat, x < kl.length ∧ kl.getD x ByteArray.empty = kat K i) := ⟨fun i hi => by
        obtain ⟨x, h1, h2, _⟩ := HVL.out i hi
        exact ⟨x, h1, h2⟩⟩
      have HS9 : Aside0 (Sd w g n add dr bt ba bd S9 l9 w9) := ⟨HS8.out.other HE9.out.only HE9.out.tab (fun k q => .inl q) (fun q => q.elim HS8.out.nt HC8.out.2.2.1) (fun q => q.elim HS8.out.na HC8.out.2.1) (fun q => q.elim HS8.out.nd HC8.out.2.2.2.1) (fun k q => q.elim (fun q => HS8.out.tab.ge k q) (fun q => q ▸ HC8.out.2.2.2.2))⟩
      have cc0 := blk_cell hc9 0
      have fc0 := blk_frozen hc9 0
      have ct0 := blk_cell HS9.out.ct 0
      have ft0 := blk_frozen HS9.out.ct 0
      simp only [List.getElem?_toArray, List.getElem?_cons_zero, List.getElem?_cons_succ] at cc0 ct0
      have HRC := Aside0.mk hRc
      have HRW := Aside0.mk hRw
      clear hRc hRw ho9 hc9 HE9 HS8 HC8 HK8 HN9 hK
      go_wp2_with fail
      refine (texts_calls _ Ac Aw cc c7 K.length K HRC.out HRW.out).mono ?_
      rintro r w10 ⟨rfl, hb10⟩
      have HS10 := Aside0.mk (HS9.out.below hb10)
      have HRW := Aside0.mk (HRW.out.below hb10)
      have HK9 := Aside0.mk ((Only.of_below hb10 (fun _ => False)).own HK9.out (fun _ _ h => h))
      clear hb10 HS9 HRC cc0 fc0 ct0 ft0
      have ct0 := blk_cell HS10.out.ct 0
      have ft0 := blk_frozen HS10.out.ct 0
      simp only [List.getElem?_toArray, List.getElem?_cons_zero, List.getElem?_cons_succ] at ct0
      have HKY := Aside0.mk (tkeysI HS10.out.tab)
      rw [HKS.out] at HKY
      go_upto_region 15 with (first
        | ((with_reducible refine gate_callee (f := 12) rfl ?_); (try (refine gate_guard (by rfl) ?_; dsimp only)); refine goesL_ _ rfl rfl Try.func12 (by kernel_rfl) rfl _ rfl (by (try simp only [List.map_toArray, List.map_cons, List.map_nil]); first | done | rfl) ?_; refine HKY.out.mono ?_; rintro r w11 ⟨v11, rfl, hk11, hb11⟩; refine ⟨_, rfl, ?_⟩; obtain ⟨A11, c11, rfl⟩ := own_slice hk11; have HR11 := Aside0.mk (own_reads_of' (d := ByteArray.empty) hk11); have HS11 := Aside0.mk (HS10.out.below hb11); have HRW11 := Aside0.mk (HRW.out.below hb11); have HK11 := Aside0.mk ((Only.of_below hb11 (fun _ => False)).own HK9.out (fun _ _ h => h)); clear hk11 hb11 HK9 HRW HS10 ct0 ft0)
        | ((with_reducible refine gate_callee (f := 21) rfl ?_); (try (refine gate_guard (by rfl) ?_; dsimp only)); refine goesL_ _ rfl rfl Try.func21 (by kernel_rfl) rfl _ rfl (by (try simp only [List.map_toArray, List.map_cons, List.map_nil]); first | done | rfl) ?_; refine (texts_calls _ A11 Aw c11 c7 K.length K HR11.out HRW11.out).mono ?_; rintro r w12 ⟨rfl, hb12⟩; refine ⟨_, rfl, ?_⟩; have HS12 := Aside0.mk (HS11.out.below hb12); have HRW12 := Aside0.mk (HRW11.out.below hb12); have HK12 := Aside0.mk ((Only.of_below hb12 (fun _ => False)).own HK11.out (fun _ _ h => h)); clear hb12 HS11 HRW11 HK11 HR11))
      clear HKY
      go_wp2_with fail
      go_loopw [12] (fun i wr => ∃ i1 : Nat, i1 ≤ K.length ∧ i = .int .i64 i1 ∧ Aside0 (Below w12.heap.size w12 wr)) (fun i _ => K.length - (intOf i).toNat)
      case atStart => exact ⟨0, Nat.zero_le _, rfl, ⟨Below.refl _ _⟩⟩
      case round =>
        obtain ⟨i, hi, rfl, HB⟩ := hrel
        have hi0 : (0 : Int) ≤ i := Int.natCast_nonneg i
        by_cases hlt : i < K.length
        · have hi2 : (i : Int) < (K.length : Int) := Int.ofNat_lt.mpr hlt
          obtain ⟨x, hxn, hkx0, hv0⟩ := HVL.out i hlt
          rw [if_pos hlt] at hv0
          obtain ⟨aw, t, eA, hx, gs⟩ := RS.at_ (HRW12.out.below HB.out) i hlt
          have hkt : kat K i = t := gs
          obtain ⟨ak, t2, eK, hkx, gk⟩ := (HRA.out.below (below_step HS12.out.bel HB.out)).at_ x hxn
          obtain rfl : t = t2 := by rw [← gk, hkx0, hkt]
          have hv : val t l9 = some (wrap64 ((x : Int) + add)) := hkt ▸ hv0
          subst eA eK
          have hS13 := HS12.out.below HB.out
          have ct0 := blk_cell hS13.ct 0
          have ft0 := blk_frozen hS13.ct 0
          have ca0 := blk_cell hS13.ca 0
          have fa0 := blk_frozen hS13.ca 0
          simp only [List.getElem?_toArray, List.getElem?_cons_zero, List.getElem?_cons_succ] at ct0 ca0
          have hT9 := hS13.tab
          have hx0I : (0 : Int) ≤ x := Int.natCast_nonneg x
          have hxw := wtt2 (x : Int) add hx0I (as4 hxn (Nat.le_trans hl (by decide)))
          obtain ⟨v, ev⟩ : ∃ v, wrap64 ((x : Int) + add) = v := ⟨_, rfl⟩
          rw [ev] at hxw hv
          have b1 : decide ((x : Int) < 0) = false := decide_eq_false as5
          have b1p : ¬ (x : Int) < 0 := as5
          have b5 : (x : Int) < (kl.length : Int) := Int.ofNat_lt.mpr hxn
          have b6p : ¬ (kl.length : Int) ≤ (x : Int) := as6 hxn
          have b6 : decide ((kl.length : Int) ≤ (x : Int)) = false := decide_eq_false b6p
          have b6n : ¬ kl.length ≤ x := Nat.not_le.mpr hxn
          have b6d : decide (kl.length ≤ x) = false := decide_eq_false b6n
          clear hS13 hv0 gs hkt gk hkx0 ev
          go_wp2_with fail
          refine start_ (n := 11) (S := fun w' => w'.cell? ⟨bt, 0, none⟩ = some (.pointer (some ⟨g, 0, none⟩)) ∧ w'.cell? (aw.add i) = some (.string t) ∧ Tab w' 54 57 eI w.heap.size g n S9 l9) (ds := []) #[false, false, false, false, false, false, false, false, false, false, false] (by kernel_rfl) rfl rfl ⟨ct0, hx, hT9.below (drew_below _)⟩ (fun hHeld => ?_)
          refine pure_ (i := 1) (N := some 79) (v := ?_) (a' := ?_) #[false, true, false, false, false, false, false, false, false, false, false] rfl rfl (by kernel_rfl) (fun _ _ _ h => h) (Or.inl ⟨by rfl, ?_⟩) ?_ ?_
          rotate_left
          · intro w'
            go_simp
            with_reducible rfl
          rotate_left
          · simp only [Act.put, List.setIfInBounds_toArray, List.set_cons_zero, List.set_cons_succ, i64_w, i32_w]
            rfl
          refine pure_ (i := 2) (N := some 80) (v := ?_) (a' := ?_) #[false, true, true, false, false, false, false, false, false, false, false] rfl rfl (by kernel_rfl) (fun _ _ _ h => h) (Or.inl ⟨by rfl, ?_⟩) ?_ ?_
          rotate_left
          · intro w'
            go_simp
            with_reducible rfl
          rotate_left
          · simp only [Act.put, List.setIfInBounds_toArray, List.set_cons_zero, List.set_cons_succ, i64_w, i32_w]
            rfl
          refine pure_ (i := 3) (N := some 81) (v := ?_) (a' := ?_) #[false, true, true, true, false, false, false, false, false, false, false] rfl rfl (by kernel_rfl) (fun _ _ _ h => h) (Or.inl ⟨by rfl, ?_⟩) ?_ ?_
          rotate_left
          · intro w'
            go_simp
            with_reducible rfl
          rotate_left
          · simp only [Act.put, List.setIfInBounds_toArray, List.set_cons_zero, List.set_cons_succ, i64_w, i32_w]
            rfl
          refine take_ (i := 0) (N := some 78) (v := ?_) (a' := ?_) #[true, true, true, true, false, false, false, false, false, false, false] rfl rfl (by kernel_rfl) (fun _ _ _ h => h) (Or.inl ⟨by rfl, ?_⟩) hHeld ?_ ?_
          rotate_left
          · rintro w' ⟨s0, s1, s2⟩
            go_simp
            with_reducible rfl
          rotate_left
          · simp only [Act.put, List.setIfInBounds_toArray, List.set_cons_zero, List.set_cons_succ, i64_w, i32_w]
            rfl
          refine take_ (i := 4) (N := some 82) (v := ?_) (a' := ?_) #[true, true, true, true, true, false, false, false, false, false, false] rfl rfl (by kernel_rfl) (fun _ _ _ h => h) (Or.inl ⟨by rfl, ?_⟩) hHeld ?_ ?_
          rotate_left
          · rintro w' ⟨s0, s1, s2⟩
            go_simp
            with_reducible rfl
          rotate_left
          · simp only [Act.put, List.setIfInBounds_toArray, List.set_cons_zero, List.set_cons_succ, i64_w, i32_w]
            rfl
          refine one_ (i := 5) (N := some 83) #[true, true, true, true, true, true, false, false, false, false, false] rfl rfl (by kernel_rfl) (by decide) (fun K hK => ?_)
          refine goes_ Try.func11 (by kernel_rfl) rfl _ (by rfl) rfl rfl (by simp only [List.map_toArray, List.map_cons, List.map_nil]; rfl) ?_
          refine (tpeekI_some hHeld.2.2 hv).mono ?_
          rintro e w5 ⟨rfl, ew5⟩
          have ew5 := ew5.symm
          subst ew5
          refine ⟨_, rfl, ?_⟩
          refine hK.out _ _ ⟨hHeld.1, hHeld.2.1, hHeld.2.2⟩ (fun hHeld => ?_)
          clear hK K
          refine norm_ (a' := ?_) ?_ ?_
          rotate_left
          · show Act.put _ (some 83) _ = _
            simp only [Act.put, List.setIfInBounds_toArray, List.set_cons_zero, List.set_cons_succ, i64_w, i32_w]
            rfl
          refine pure_ (i := 6) (N := some 77) (v := ?_) (a' := ?_) #[true, true, true, true, true, true, true, false, false, false, false] rfl rfl (by kernel_rfl) (fun _ _ _ h => h) (Or.inl ⟨by rfl, ?_⟩) ?_ ?_
          rotate_left
          · intro w'
            go_simp
            with_reducible rfl
          rotate_left
          · simp only [Act.put, List.setIfInBounds_toArray, List.set_cons_zero, List.set_cons_succ, i64_w, i32_w]
            rfl
          refine pure_ (i := 7) (N := some 84) (v := ?_) (a' := ?_) #[true, true, true, true, true, true, true, true, false, false, false] rfl rfl (by kernel_rfl) (fun _ _ _ h => h) (Or.inl ⟨by rfl, ?_⟩) ?_ ?_
          rotate_left
          · intro w'
            go_simp
            with_reducible rfl
          rotate_left
          · simp only [Act.put, List.setIfInBounds_toArray, List.set_cons_zero, List.set_cons_succ, i64_w, i32_w]
            rfl
          refine pure_ (i := 8) (N := some 85) (v := ?_) (a' := ?_) #[true, true, true, true, true, true, true, true, true, false, false] rfl rfl (by kernel_rfl) (fun _ _ _ h => h) (Or.inl ⟨by rfl, ?_⟩) ?_ ?_
          rotate_left
          · intro w'
            go_simp
            with_reducible rfl
          rotate_left
          · simp only [Act.put, List.setIfInBounds_toArray, List.set_cons_zero, List.set_cons_succ, i64_w, i32_w]
            rfl
          refine pure_ (i := 9) (N := some 13) (v := ?_) (a' := ?_) #[true, true, true, true, true, true, true, true, true, true, false] rfl rfl (by kernel_rfl) (fun _ _ _ h => h) (Or.inl ⟨by rfl, ?_⟩) ?_ ?_
          rotate_left
          · intro w'
            go_simp
            with_reducible rfl
          rotate_left
          · simp only [Act.put, List.setIfInBounds_toArray, List.set_cons_zero, List.set_cons_succ, i64_w, i32_w]
            rfl
          refine pure_ (i := 10) (N := some 14) (v := ?_) (a' := ?_) #[true, true, true, true, true, true, true, true, true, true, true] rfl rfl (by kernel_rfl) (fun _ _ _ h => h) (Or.inl ⟨by rfl, ?_⟩) ?_ ?_
          rotate_left
          · intro w'
            go_simp
            with_reducible rfl
          rotate_left
          · simp only [Act.put, List.setIfInBounds_toArray, List.set_cons_zero, List.set_cons_succ, i64_w, i32_w]
            rfl
          refine done_ (by kernel_rfl) ?_
          clear hHeld
          go_wp2_with fail
          refine start_ (n := 25) (S := fun w' => w'.cell? ⟨ba, 0, none⟩ = some (.int .i64 add) ∧ w'.cell? (ak.add x) = some (.string t) ∧ w'.cell? (aw.add i) = some (.string t)) (ds := []) #[false, false, false, false, false, false, false, false, false, false, false, false, false, false, false, false, false, false, false, false, false, false, false, false, false] (by kernel_rfl) rfl rfl ⟨ca0, hkx, hx⟩ (fun hHeld => ?_)
          refine pure_ (i := 0) (N := some 86) (v := ?_) (a' := ?_) #[true, false, false, false, false, false, false, false, false, false, false, false, false, false, false, false, false, false, false, false, false, false, false, false, false] rfl rfl (by kernel_rfl) (fun _ _ _ h => h) (Or.inl ⟨by rfl, ?_⟩) ?_ ?_
          rotate_left
          · intro w'
            go_simp
            with_reducible rfl
          rotate_left
          · simp only [Act.put, List.setIfInBounds_toArray, List.set_cons_zero, List.set_cons_succ, i64_w, i32_w]
            rfl
          refine take_ (i := 1) (N := some 87) (v := ?_) (a' := ?_) #[true, true, false, false, false, false, false, false, false, false, false, false, false, false, false, false, false, false, false, false, false, false, false, false, false] rfl rfl (by kernel_rfl) (fun _ _ _ h => h) (Or.inl ⟨by rfl, ?_⟩) hHeld ?_ ?_
          rotate_left
          · rintro w' ⟨s0, s1, s2⟩
            go_simp
            with_reducible rfl
          rotate_left
          · simp only [Act.put, List.setIfInBounds_toArray, List.set_cons_zero, List.set_cons_succ, i64_w, i32_w]
            rfl
          refine pure_ (i := 2) (N := some 88) (v := ?_) (a' := ?_) #[true, true, true, false, false, false, false, false, false, false, false, false, false, false, false, false, false, false, false, false, false, false, false, false, false] rfl rfl (by kernel_rfl) (fun _ _ _ h => h) (Or.inl ⟨by rfl, ?_⟩) ?_ ?_
          rotate_left
          · intro w'
            go_simp
            with_reducible rfl
          rotate_left
          · simp only [Act.put, List.setIfInBounds_toArray, List.set_cons_zero, List.set_cons_succ, i64_w, i32_w]
            rfl
          refine pure_ (i := 3) (N := some 89) (v := ?_) (a' := ?_) #[true, true, true, true, false, false, false, false, false, false, false, false, false, false, false, false, false, false, false, false, false, false, false, false, false] rfl rfl (by kernel_rfl) (fun _ _ _ h => h) (Or.inl ⟨by rfl, ?_⟩) ?_ ?_
          rotate_left
          · intro w'
            go_simp
            with_reducible rfl
          rotate_left
          · simp only [Act.put, List.setIfInBounds_toArray, List.set_cons_zero, List.set_cons_succ, i64_w, i32_w]
            rfl
          refine pure_ (i := 4) (N := some 90) (v := ?_) (a' := ?_) #[true, true, true, true, true, false, false, false, false, false, false, false, false, false, false, false, false, false, false, false, false, false, false, false, false] rfl rfl (by kernel_rfl) (fun _ _ _ h => h) (Or.inl ⟨by rfl, ?_⟩) ?_ ?_
          rotate_left
          · intro w'
            go_simp
            with_reducible rfl
          rotate_left
          · simp only [Act.put, List.setIfInBounds_toArray, List.set_cons_zero, List.set_cons_succ, i64_w, i32_w]
            rfl
          refine pure_ (i := 5) (N := some 91) (v := ?_) (a' := ?_) #[true, true, true, true, true, true, false, false, false, false, false, false, false, false, false, false, false, false, false, false, false, false, false, false, false] rfl rfl (by kernel_rfl) (fun _ _ _ h => h) (Or.inl ⟨by rfl, ?_⟩) ?_ ?_
          rotate_left
          · intro w'
            go_simp
            with_reducible rfl
          rotate_left
          · simp only [Act.put, List.setIfInBounds_toArray, List.set_cons_zero, List.set_cons_succ, i64_w, i32_w]
            rfl
          refine pure_ (i := 8) (N := some 94) (v := ?_) (a' := ?_) #[true, true, true, true, true, true, false, false, true, false, false, false, false, false, false, false, false, false, false, false, false, false, false, false, false] rfl rfl (by kernel_rfl) (fun _ _ _ h => h) (Or.inl ⟨by rfl, ?_⟩) ?_ ?_
          rotate_left
          · intro w'
            go_simp
            with_reducible rfl
          rotate_left
          · simp only [Act.put, List.setIfInBounds_toArray, List.set_cons_zero, List.set_cons_succ, i64_w, i32_w]
            rfl
          refine pure_ (i := 9) (N := some 95) (v := ?_) (a' := ?_) #[true, true, true, true, true, true, false, false, true, true, false, false, false, false, false, false, false, false, false, false, false, false, false, false, false] rfl rfl (by kernel_rfl) (fun _ _ _ h => h) (Or.inl ⟨by rfl, ?_⟩) ?_ ?_
          rotate_left
          · intro w'
            go_simp
            with_reducible rfl
          rotate_left
          · simp only [Act.put, List.setIfInBounds_toArray, List.set_cons_zero, List.set_cons_succ, i64_w, i32_w]
            rfl
          refine take_ (i := 6) (N := some 92) (v := ?_) (a' := ?_) #[true, true, true, true, true, true, true, false, true, true, false, false, false, false, false, false, false, false, false, false, false, false, false, false, false] rfl rfl (by kernel_rfl) (fun _ _ _ h => h) (Or.inl ⟨by rfl, ?_⟩) hHeld ?_ ?_
          rotate_left
          · rintro w' ⟨s0, s1, s2⟩
            go_simp
            with_reducible rfl
          rotate_left
          · simp only [Act.put, List.setIfInBounds_toArray, List.set_cons_zero, List.set_cons_succ, i64_w, i32_w]
            rfl
          refine pure_ (i := 7) (N := some 93) (v := ?_) (a' := ?_) #[true, true, true, true, true, true, true, true, true, true, false, false, false, false, false, false, false, false, false, false, false, false, false, false, false] rfl rfl (by kernel_rfl) (fun _ _ _ h => h) (Or.inl ⟨by rfl, ?_⟩) ?_ ?_
          rotate_left
          · intro w'
            go_simp
            with_reducible rfl
          rotate_left
          · simp only [Act.put, List.setIfInBounds_toArray, List.set_cons_zero, List.set_cons_succ, i64_w, i32_w]
            rfl
          refine pure_ (i := 10) (N := some 96) (v := ?_) (a' := ?_) #[true, true, true, true, true, true, true, true, true, true, true, false, false, false, false, false, false, false, false, false, false, false, false, false, false] rfl rfl (by kernel_rfl) (fun _ _ _ h => h) (Or.inl ⟨by rfl, ?_⟩) ?_ ?_
          rotate_left
          · intro w'
            go_simp
            with_reducible rfl
          rotate_left
          · simp only [Act.put, List.setIfInBounds_toArray, List.set_cons_zero, List.set_cons_succ, i64_w, i32_w]
            rfl
          refine pure_ (i := 11) (N := some 97) (v := ?_) (a' := ?_) #[true, true, true, true, true, true, true, true, true, true, true, true, false, false, false, false, false, false, false, false, false, false, false, false, false] rfl rfl (by kernel_rfl) (fun _ _ _ h => h) (Or.inl ⟨by rfl, ?_⟩) ?_ ?_
          rotate_left
          · intro w'
            go_simp
            with_reducible rfl
          rotate_left
          · simp only [Act.put, List.setIfInBounds_toArray, List.set_cons_zero, List.set_cons_succ, i64_w, i32_w]
            rfl
          refine pure_ (i := 12) (N := some 98) (v := ?_) (a' := ?_) #[true, true, true, true, true, true, true, true, true, true, true, true, true, false, false, false, false, false, false, false, false, false, false, false, false] rfl rfl (by kernel_rfl) (fun _ _ _ h => h) (Or.inl ⟨by rfl, ?_⟩) ?_ ?_
          rotate_left
          · intro w'
            go_simp
            with_reducible rfl
          rotate_left
          · simp only [Act.put, List.setIfInBounds_toArray, List.set_cons_zero, List.set_cons_succ, i64_w, i32_w]
            rfl
          refine pure_ (i := 13) (N := some 99) (v := ?_) (a' := ?_) #[true, true, true, true, true, true, true, true, true, true, true, true, true, true, false, false, false, false, false, false, false, false, false, false, false] rfl rfl (by kernel_rfl) (fun _ _ _ h => h) (Or.inl ⟨by rfl, ?_⟩) ?_ ?_
          rotate_left
          · intro w'
            go_simp
            with_reducible rfl
          rotate_left
          · simp only [Act.put, List.setIfInBounds_toArray, List.set_cons_zero, List.set_cons_succ, i64_w, i32_w]
            rfl
          refine pure_ (i := 14) (N := some 100) (v := ?_) (a' := ?_) #[true, true, true, true, true, true, true, true, true, true, true, true, true, true, true, false, false, false, false, false, false, false, false, false, false] rfl rfl (by kernel_rfl) (fun _ _ _ h => h) (Or.inl ⟨by rfl, ?_⟩) ?_ ?_
          rotate_left
          · intro w'
            go_simp
            with_reducible rfl
          rotate_left
          · simp only [Act.put, List.setIfInBounds_toArray, List.set_cons_zero, List.set_cons_succ, i64_w, i32_w]
            rfl
          refine pure_ (i := 19) (N := some 105) (v := ?_) (a' := ?_) #[true, true, true, true, true, true, true, true, true, true, true, true, true, true, true, false, false, false, false, true, false, false, false, false, false] rfl rfl (by kernel_rfl) (fun _ _ _ h => h) (Or.inl ⟨by rfl, ?_⟩) ?_ ?_
          rotate_left
          · intro w'
            go_simp
            with_reducible rfl
          rotate_left
          · simp only [Act.put, List.setIfInBounds_toArray, List.set_cons_zero, List.set_cons_succ, i64_w, i32_w]
            rfl
          refine pure_ (i := 20) (N := some 106) (v := ?_) (a' := ?_) #[true, true, true, true, true, true, true, true, true, true, true, true, true, true, true, false, false, false, false, true, true, false, false, false, false] rfl rfl (by kernel_rfl) (fun _ _ _ h => h) (Or.inl ⟨by rfl, ?_⟩) ?_ ?_
          rotate_left
          · intro w'
            go_simp
            with_reducible rfl
          rotate_left
          · simp only [Act.put, List.setIfInBounds_toArray, List.set_cons_zero, List.set_cons_succ, i64_w, i32_w]
            rfl
          refine pure_ (i := 21) (N := some 107) (v := ?_) (a' := ?_) #[true, true, true, true, true, true, true, true, true, true, true, true, true, true, true, false, false, false, false, true, true, true, false, false, false] rfl rfl (by kernel_rfl) (fun _ _ _ h => h) (Or.inl ⟨by rfl, ?_⟩) ?_ ?_
          rotate_left
          · intro w'
            go_simp
            with_reducible rfl
          rotate_left
          · simp only [Act.put, List.setIfInBounds_toArray, List.set_cons_zero, List.set_cons_succ, i64_w, i32_w]
            rfl
          refine take_ (i := 15) (N := some 101) (v := ?_) (a' := ?_) #[true, true, true, true, true, true, true, true, true, true, true, true, true, true, true, true, false, false, false, true, true, true, false, false, false] rfl rfl (by kernel_rfl) (fun _ _ _ h => h) (Or.inl ⟨by rfl, ?_⟩) hHeld ?_ ?_
          rotate_left
          · rintro w' ⟨s0, s1, s2⟩
            go_simp
            with_reducible rfl
          rotate_left
          · simp only [Act.put, List.setIfInBounds_toArray, List.set_cons_zero, List.set_cons_succ, i64_w, i32_w]
            rfl
          refine pure_ (i := 16) (N := some 102) (v := ?_) (a' := ?_) #[true, true, true, true, true, true, true, true, true, true, true, true, true, true, true, true, true, false, false, true, true, true, false, false, false] rfl rfl (by kernel_rfl) (fun _ _ _ h => h) (Or.inl ⟨by rfl, ?_⟩) ?_ ?_
          rotate_left
          · intro w'
            go_simp
            with_reducible rfl
          rotate_left
          · simp only [Act.put, List.setIfInBounds_toArray, List.set_cons_zero, List.set_cons_succ, i64_w, i32_w]
            rfl
          refine pure_ (i := 17) (N := some 103) (v := ?_) (a' := ?_) #[true, true, true, true, true, true, true, true, true, true, true, true, true, true, true, true, true, true, false, true, true, true, false, false, false] rfl rfl (by kernel_rfl) (fun _ _ _ h => h) (Or.inl ⟨by rfl, ?_⟩) ?_ ?_
          rotate_left
          · intro w'
            go_simp
            with_reducible rfl
          rotate_left
          · simp only [Act.put, List.setIfInBounds_toArray, List.set_cons_zero, List.set_cons_succ, i64_w, i32_w]
            rfl
          refine take_ (i := 18) (N := some 104) (v := ?_) (a' := ?_) #[true, true, true, true, true, true, true, true, true, true, true, true, true, true, true, true, true, true, true, true, true, true, false, false, false] rfl rfl (by kernel_rfl) (fun _ _ _ h => h) (Or.inl ⟨by rfl, ?_⟩) hHeld ?_ ?_
          rotate_left
          · rintro w' ⟨s0, s1, s2⟩
            go_simp
            with_reducible rfl
          rotate_left
          · simp only [Act.put, List.setIfInBounds_toArray, List.set_cons_zero, List.set_cons_succ, i64_w, i32_w]
            rfl
          refine take_ (i := 22) (N := some 108) (v := ?_) (a' := ?_) #[true, true, true, true, true, true, true, true, true, true, true, true, true, true, true, true, true, true, true, true, true, true, true, false, false] rfl rfl (by kernel_rfl) (fun _ _ _ h => h) (Or.inl ⟨by rfl, ?_⟩) hHeld ?_ ?_
          rotate_left
          · rintro w' ⟨s0, s1, s2⟩
            go_simp
            with_reducible rfl
          rotate_left
          · simp only [Act.put, List.setIfInBounds_toArray, List.set_cons_zero, List.set_cons_succ, i64_w, i32_w]
            rfl
          refine pure_ (i := 23) (N := some 109) (v := ?_) (a' := ?_) #[true, true, true, true, true, true, true, true, true, true, true, true, true, true, true, true, true, true, true, true, true, true, true, true, false] rfl rfl (by kernel_rfl) (fun _ _ _ h => h) (Or.inl ⟨by rfl, ?_⟩) ?_ ?_
          rotate_left
          · intro w'
            go_simp
            with_reducible rfl
          rotate_left
          · simp only [Act.put, List.setIfInBounds_toArray, List.set_cons_zero, List.set_cons_succ, i64_w, i32_w]
            rfl
          refine pure_ (i := 24) (N := some 110) (v := ?_) (a' := ?_) #[true, true, true, true, true, true, true, true, true, true, true, true, true, true, true, true, true, true, true, true, true, true, true, true, true] rfl rfl (by kernel_rfl) (fun _ _ _ h => h) (Or.inl ⟨by rfl, ?_⟩) ?_ ?_
          rotate_left
          · intro w'
            go_simp
            with_reducible rfl
          rotate_left
          · simp only [Act.put, List.setIfInBounds_toArray, List.set_cons_zero, List.set_cons_succ, i64_w, i32_w]
            rfl
          refine done_ (by kernel_rfl) ?_
          clear hHeld b1 b1p b5 b6p b6 b6n b6d hxw hx0I ct0 ft0 ca0 fa0 hv hT9 hx hkx
          go_wp2_with fail
          go_roundw
          case rel => exact ⟨i + 1, hlt, by go_num, ⟨below_drew1 (below_drew1 HB.out)⟩⟩
          case measure => simp [intOf]; first | exact as3 hlt | omega
        · obtain rfl : i = K.length := as2 hi hlt
          have HS13 := Aside0.mk (HS12.out.below HB.out)
          have HK13 := Aside0.mk ((Only.of_below HB.out (fun _ => False)).own HK12.out (fun _ _ h => h))
          clear HB HS12 HRW12 HK12 HVL
          obtain ⟨b, hb⟩ : ∃ b, (val dr l9).isSome = b := ⟨_, rfl⟩
          have HTH : Aside0 ((b = true → dr ∈ K) ∧ (b = false → dr ∉ K)) := ⟨⟨fun e => by
            rw [← HKS.out]
            obtain ⟨z, hz⟩ := Option.isSome_iff_exists.1 (hb.trans e)
            exact val_some hz, fun e => by
            rw [← HKS.out]
            exact val_none.1 (by simpa using hb.trans e)⟩⟩
          have HPK := Aside0.mk (tpeek_is HS13.out.tab (Nat.le_trans HDR.out (by decide) : dr.size ≤ maxLen))
          rw [hb] at HPK
          clear hb
          have ct0 := blk_cell HS13.out.ct 0
          have ft0 := blk_frozen HS13.out.ct 0
          have cd0 := blk_cell HS13.out.cd 0
          have fd0 := blk_frozen HS13.out.cd 0
          simp only [List.getElem?_toArray, List.getElem?_cons_zero, List.getElem?_cons_succ] at ct0 cd0
          go_upto_region 24 with (first
            | (go_at_call 11; refine HPK.out.mono ?_; rintro r w5 ⟨⟨z5, rfl⟩, ew5⟩; have ew5 := ew5.symm; subst ew5))
          clear HPK ct0 ft0 cd0 fd0
          have hb14 : Below wr.heap.size wr (wr.alloc (.cells #[.int .i64 0] 3)) := (Below.refl _ _).alloc (Nat.le_refl _) _
          have hb15 : Below wr.heap.size wr ((wr.alloc (.cells #[.int .i64 0] 3)).alloc (.cells #[.string (fz K 0)] 9)) := hb14.alloc hb14.size _
          have hn15 : ((wr.alloc (.cells #[.int .i64 0] 3)).alloc (.cells #[.string (fz K 0)] 9)).heap[wr.heap.size]? = some (.cells #[.int .i64 0] 3 (0, 0)) := (al_lt _ _ (by rw [al_size]; exact Nat.lt_succ_self _)).trans (al_at _ _)
          have hf15 : ((wr.alloc (.cells #[.int .i64 0] 3)).alloc (.cells #[.string (fz K 0)] 9)).heap[wr.heap.size + 1]? = some (.cells #[.string (fz K 0)] 9 (0, 0)) := by rw [← al_size wr (.cells #[.int .i64 0] 3)]; exact al_at _ _
          have HS15 := HS13.out.below hb15
          have HK15 := (Only.of_below hb15 (fun _ => False)).own HK13.out (fun _ _ h => h)
          have lt3 := HS13.out.tab.lt
          have lk3 := Go.Proofs.YtlainhbmfphojaaW.PrintWords.own_lt HK13.out
          have HNE : (bt < wr.heap.size ∧ ba < wr.heap.size ∧ bd < wr.heap.size) ∧ w.heap.size ≤ wr.heap.size := ⟨⟨blk_lt HS13.out.ct, blk_lt HS13.out.ca, blk_lt HS13.out.cd⟩, HS13.out.bel.size⟩
          obtain ⟨w15, hw15⟩ : ∃ w15, (wr.alloc (.cells #[.int .i64 0] 3)).alloc (.cells #[.string (fz K 0)] 9) = w15 := ⟨_, rfl⟩
          have hw15' : (wr.alloc (.cells #[.int .i64 0] 3)).alloc (.cells #[.string ⟨#[97, 32, 110, 101, 119, 32, 111, 110, 101]⟩] 9) = w15 := hw15
          rw [hw15] at hn15 hf15 HS15 HK15
          rw [hw15']
          obtain ⟨bn, ebn⟩ : ∃ bn, wr.heap.size = bn := ⟨_, rfl⟩
          obtain ⟨bf, ebf⟩ : ∃ bf, bn + 1 = bf := ⟨_, rfl⟩
          rw [ebn] at hn15 hf15 lt3 lk3 HNE ⊢
          rw [ebf] at hf15 ⊢
          have HNB : Aside0 ((¬ S9 bn ∧ ¬ S9 bf ∧ bf ≠ bn) ∧ (bt ≠ bn ∧ ba ≠ bn ∧ bd ≠ bn) ∧ (bt ≠ bf ∧ ba ≠ bf ∧ bd ≠ bf) ∧ (w.heap.size ≤ bn ∧ w.heap.size ≤ bf) ∧ ∀ k, (Value.slice Aw K.length c7).ownBlock = some k → k ≠ bf) := ⟨by
            obtain ⟨⟨h1, h2, h3⟩, h4⟩ := HNE
            exact ⟨⟨fun q => by have := lt3 _ q; omega, fun q => by have := lt3 _ q; omega, by omega⟩, ⟨by omega, by omega, by omega⟩, ⟨by omega, by omega, by omega⟩, ⟨by omega, by omega⟩, fun k hk => by have := lk3 k hk; omega⟩⟩
          clear hw15 hw15' hb14 hb15 lt3 lk3 HNE ebn ebf HS13 HK13
          have HN15 := Aside0.mk hn15
          have HF15 := Aside0.mk hf15
          have HS15 := Aside0.mk HS15
          have HK15 := Aside0.mk HK15
          have HKZ : Aside0 (∀ i, i < K.length → (kat K i).size ≤ 140737488355328) := ⟨fun i hi => by
            obtain ⟨x, hx, e⟩ := HXS.out i hi
            rw [← e]
            exact HAL.out x hx⟩
          clear hn15 hf15 HXS
          go_wp2_with fail
          go_loopw [19] (fun i wr => ∃ k : Nat, k ≤ K.length ∧ i = .int .i64 k ∧ Aside0 (Only w15 wr (fun q => q = bf)) ∧ Aside0 (wr.heap[bf]? = some (.cells #[.string (fz K k)] 9 (0, 0)))) (fun i _ => K.length - (intOf i).toNat)
          case atStart => exact ⟨0, Nat.zero_le _, rfl, ⟨Only.refl _ _⟩, HF15⟩
          case round =>
            clear HF15
            obtain ⟨k, hk, rfl, HO, HF⟩ := hrel
            have hk0 : (0 : Int) ≤ k := Int.natCast_nonneg k
            by_cases hlt : k < K.length
            · have hk2 : (k : Int) < (K.length : Int) := Int.ofNat_lt.mpr hlt
              obtain ⟨aw, t, eA, hx, gs⟩ := RS.at_ (own_reads_of' (d := ByteArray.empty) (HO.out.own HK15.out HNB.out.2.2.2.2)) k hlt
              have hkt : kat K k = t := gs
              have hcf := HF.out
              have hs1 : ¬ 9223372036854775807 < (fz K k).size + t.size := as8 (as7 (fz_le K HKZ.out k hk) (Nat.le_trans hk hK2) (Nat.le_refl _)) (hkt ▸ HKZ.out k hlt)
              have HF2 : Aside0 (∀ wz : World, wz.heap[bf]? = some (.cells #[.string (fz K k)] 9 (0, 0)) → (wz.setCell ⟨bf, 0, none⟩ (.string (fz K k ++ t))).heap[bf]? = some (.cells #[.string (fz K (k + 1))] 9 (0, 0))) := ⟨fun wz h => by
                have := blk_set h 0 (.string (fz K k ++ t))
                rw [← hkt] at this ⊢
                simpa [fz] using this⟩
              obtain ⟨f, ef⟩ : ∃ f, fz K k = f := ⟨_, rfl⟩
              rw [ef] at hcf hs1 HF2
              have HCF := Aside0.mk hcf
              have cf0 := blk_cell hcf 0
              have ff0 := blk_frozen hcf 0
              simp only [List.getElem?_toArray, List.getElem?_cons_zero, List.getElem?_cons_succ] at cf0
              subst eA
              clear gs hkt ef hcf HF
              go_wp2_with fail
              refine start_ (n := 7) (S := fun w' => w'.cell? ⟨bf, 0, none⟩ = some (.string f) ∧ w'.cell? (aw.add k) = some (.string t) ∧ w'.frozen? ⟨bf, 0, none⟩ = false) (ds := [6]) #[false, false, false, false, false, false, false] (by kernel_rfl) rfl rfl ⟨cf0, hx, ff0⟩ (fun hHeld => ?_)
              refine pure_ (i := 1) (N := some 124) (v := ?_) (a' := ?_) #[false, true, false, false, false, false, false] rfl rfl (by kernel_rfl) (fun _ _ _ h => h) (Or.inl ⟨by rfl, ?_⟩) ?_ ?_
              rotate_left
              · intro w'
                go_simp
                with_reducible rfl
              rotate_left
              · simp only [Act.put, List.setIfInBounds_toArray, List.set_cons_zero, List.set_cons_succ, i64_w, i32_w]
                rfl
              refine pure_ (i := 2) (N := some 125) (v := ?_) (a' := ?_) #[false, true, true, false, false, false, false] rfl rfl (by kernel_rfl) (fun _ _ _ h => h) (Or.inl ⟨by rfl, ?_⟩) ?_ ?_
              rotate_left
              · intro w'
                go_simp
                with_reducible rfl
              rotate_left
              · simp only [Act.put, List.setIfInBounds_toArray, List.set_cons_zero, List.set_cons_succ, i64_w, i32_w]
                rfl
              refine pure_ (i := 3) (N := some 126) (v := ?_) (a' := ?_) #[false, true, true, true, false, false, false] rfl rfl (by kernel_rfl) (fun _ _ _ h => h) (Or.inl ⟨by rfl, ?_⟩) ?_ ?_
              rotate_left
              · intro w'
                go_simp
                with_reducible rfl
              rotate_left
              · simp only [Act.put, List.setIfInBounds_toArray, List.set_cons_zero, List.set_cons_succ, i64_w, i32_w]
                rfl
              refine take_ (i := 0) (N := some 123) (v := ?_) (a' := ?_) #[true, true, true, true, false, false, false] rfl rfl (by kernel_rfl) (fun _ _ _ h => h) (Or.inl ⟨by rfl, ?_⟩) hHeld ?_ ?_
              rotate_left
              · rintro w' ⟨s0, s1, s2⟩
                go_simp
                with_reducible rfl
              rotate_left
              · simp only [Act.put, List.setIfInBounds_toArray, List.set_cons_zero, List.set_cons_succ, i64_w, i32_w]
                rfl
              refine take_ (i := 4) (N := some 127) (v := ?_) (a' := ?_) #[true, true, true, true, true, false, false] rfl rfl (by kernel_rfl) (fun _ _ _ h => h) (Or.inl ⟨by rfl, ?_⟩) hHeld ?_ ?_
              rotate_left
              · rintro w' ⟨s0, s1, s2⟩
                go_simp
                with_reducible rfl
              rotate_left
              · simp only [Act.put, List.setIfInBounds_toArray, List.set_cons_zero, List.set_cons_succ, i64_w, i32_w]
                rfl
              refine pure_ (i := 5) (N := some 128) (v := ?_) (a' := ?_) #[true, true, true, true, true, true, false] rfl rfl (by kernel_rfl) (fun _ _ _ h => h) (Or.inl ⟨by rfl, ?_⟩) ?_ ?_
              rotate_left
              · intro w'
                go_simp
                with_reducible rfl
              rotate_left
              · simp only [Act.put, List.setIfInBounds_toArray, List.set_cons_zero, List.set_cons_succ, i64_w, i32_w]
                rfl
              refine last_ (i := 6) (N := none) #[true, true, true, true, true, true, true] rfl rfl (by kernel_rfl) (by decide) (fun K hK => ?_)
              have hs := hHeld.1
              have hs2 := hHeld.2.2
              refine skip_ (w1 := ?_) (by rfl) rfl ?_ ?_
              rotate_left
              · go_simp
                rfl
              refine hK.out _ _ ?_
              clear hK K
              refine done_ (by kernel_rfl) ?_
              clear hHeld cf0 ff0 hx hs1
              go_wp2_with fail
              go_roundw
              case rel => exact ⟨k + 1, hlt, by go_num, ⟨HO.out.drew.set rfl⟩, ⟨HF2.out _ HCF.out⟩⟩
              case measure => simp [intOf]; first | exact as3 hlt | omega
            · obtain rfl : k = K.length := as2 hk hlt
              have HFR : Aside0 ((∀ i, i < K.length → (kat K i).size < (fz K K.length).size) ∧ (fz K K.length).size ≤ 28147497671074000) := ⟨(fz_size K K.length).2, as7 (fz_le K HKZ.out K.length (Nat.le_refl _)) hK2 (Nat.le_refl _)⟩
              have hcf := HF.out
              obtain ⟨f, ef⟩ : ∃ f, fz K K.length = f := ⟨_, rfl⟩
              rw [ef] at hcf HFR
              clear ef HF HKZ
              have HS16 : Aside0 (Sd w g n add dr bt ba bd S9 l9 wr) := ⟨HS15.out.other HO.out (HS15.out.tab.only HO.out (fun k hk e => HNB.out.1.2.1 (e ▸ hk))) (fun k q => .inl q) HNB.out.2.2.1.1 HNB.out.2.2.1.2.1 HNB.out.2.2.1.2.2 (fun k q => q ▸ HNB.out.2.2.2.1.2)⟩
              have HN16 := Aside0.mk (HO.out.blk HN15.out HNB.out.1.2.2.symm)
              clear HO HS15 HN15 HK15
              have cf0 := blk_cell hcf 0
              have ff0 := blk_frozen hcf 0
              have cd0 := blk_cell HS16.out.cd 0
              have fd0 := blk_frozen HS16.out.cd 0
              simp only [List.getElem?_toArray, List.getElem?_cons_zero, List.getElem?_cons_succ] at cf0 cd0
              have HCF := Aside0.mk hcf
              clear hcf
              go_upto_if 131 with fail
              go_cut [17] (fun q wc => q = .pointer (some ⟨bn, 0, none⟩) ∧ ∃ fr : ByteArray, Aside0 (fr ≠ dr ∧ (∀ i, i < K.length → (kat K i).size < fr.size) ∧ fr.size ≤ maxLen) ∧ Aside0 (Sd w g n add dr bt ba bd S9 l9 wc) ∧ Aside0 (wc.heap[bn]? = some (.cells #[.int .i64 0] 3 (0, 0))) ∧ Aside0 (wc.heap[bf]? = some (.cells #[.string fr] 9 (0, 0))))
              case first =>
                by_cases ce : f = dr
                · have hs0 : f.size ≤ 28147497671074000 := HFR.out.2
                  have hs1 : ¬ 9223372036854775807 < f.size + 1 := as9 HFR.out.2
                  have HF2 : Aside0 ((wr.setCell ⟨bf, 0, none⟩ (.string (f ++ ⟨#[33]⟩))).heap[bf]? = some (.cells #[.string (f ++ ⟨#[33]⟩)] 9 (0, 0))) := ⟨by simpa using blk_set HCF.out 0 (.string (f ++ ⟨#[33]⟩))⟩
                  have HO2 : Aside0 (Only wr (wr.setCell ⟨bf, 0, none⟩ (.string (f ++ ⟨#[33]⟩))) (fun q => q = bf)) := ⟨(Only.refl _ _).set rfl⟩
                  have HSZ : Aside0 ((f ++ ⟨#[33]⟩ : ByteArray).size = f.size + 1) := ⟨ByteArray.size_append⟩
                  have et : (f.toList == dr.toList) = true := by rw [ce]; exact beq_self_eq_true _
                  rw [et]
                  have HCE := Aside0.mk ce
                  clear et ce
                  go_wp2_with fail
                  go_meet
                  refine ⟨rfl, f ++ ⟨#[33]⟩, ⟨fun e => ?_, fun i hi => ?_, ?_⟩, ⟨HS16.out.other HO2.out (HS16.out.tab.only HO2.out (fun k hk e => HNB.out.1.2.1 (e ▸ hk))) (fun k q => .inl q) HNB.out.2.2.1.1 HNB.out.2.2.1.2.1 HNB.out.2.2.1.2.2 (fun k q => q ▸ HNB.out.2.2.2.1.2)⟩, ⟨HO2.out.blk HN16.out HNB.out.1.2.2.symm⟩, HF2⟩
                  · have h1 := HSZ.out
                    rw [e, ← HCE.out] at h1
                    exact Nat.succ_ne_self _ h1.symm
                  · rw [HSZ.out]
                    exact Nat.lt_succ_of_lt (HFR.out.1 i hi)
                  · rw [HSZ.out]
                    exact as10 HFR.out.2
                · rw [bs_ne ce]
                  go_wp2_with fail
                  go_meet
                  exact ⟨rfl, f, ⟨ce, HFR.out.1, as11 HFR.out.2⟩, HS16, HN16, HCF⟩
              case rest =>
                clear HFR HS16 HN16 HCF cf0 ff0 cd0 fd0
                obtain ⟨rfl, fr, HFR, HS17, HN17, HF17⟩ := hcut
                have HE2 := Aside0.mk (each2 HS17.out.tab HKS.out (Nat.le_trans hK2 (by decide)) (as12 HN.out hKl) (longer_notin HFR.out.2.1) HFR.out.1 HFR.out.2.2 HN17.out HS17.out.cd HS17.out.ct HF17.out HS17.out.ca HNB.out.2.1.2.2 HNB.out.2.1.1 HNB.out.1.2.2 HNB.out.2.1.2.1 HNB.out.1.1 HS17.out.nd HS17.out.nt HNB.out.1.2.1 HS17.out.na)
                have hnd := HS17.out.tab.nd
                rw [HKS.out] at hnd
                have HND := Aside0.mk hnd
                clear hnd
                have ct0 := blk_cell HS17.out.ct 0
                have ft0 := blk_frozen HS17.out.ct 0
                simp only [List.getElem?_toArray, List.getElem?_cons_zero, List.getElem?_cons_succ] at ct0
                go_upto_region 31 with (first
                  | (go_at_call 25; refine HE2.out.mono ?_; rintro r w18 ⟨rfl, A18, S18, l18, hE18⟩; have HE18 := Aside0.mk hE18; clear hE18 HE2 ct0 ft0))
                have HS18 : Aside0 (Sd w g n add dr bt ba bd S18 l18 w18) := ⟨HS17.out.other HE18.out.only HE18.out.tab HE18.out.new (fun q => q.elim HS17.out.nt HNB.out.2.1.1) (fun q => q.elim HS17.out.na HNB.out.2.1.2.1) (fun q => q.elim HS17.out.nd HNB.out.2.1.2.2) (fun k q => q.elim (fun q => HS17.out.tab.ge k q) (fun q => q ▸ HNB.out.2.2.2.1.1))⟩
                have HF18 := Aside0.mk (HE18.out.only.blk HF17.out (fun q => q.elim HNB.out.1.2.1 HNB.out.1.2.2))
                have hcn := HE18.out.cn
                have cn0 := blk_cell hcn 0
                have fn0 := blk_frozen hcn 0
                have ct0 := blk_cell HS18.out.ct 0
                have ft0 := blk_frozen HS18.out.ct 0
                have cd0 := blk_cell HS18.out.cd 0
                have fd0 := blk_frozen HS18.out.cd 0
                have cf0 := blk_cell HF18.out 0
                have ff0 := blk_frozen HF18.out 0
                simp only [List.getElem?_toArray, List.getElem?_cons_zero, List.getElem?_cons_succ] at ct0 cd0 cf0 cn0
                have HBL := Aside0.mk HS18.out.bel
                clear hcn
                by_cases hz : K.length = 0
                · have hk18 : ks l18 = [] := by
                    rw [HE18.out.ksl]
                    unfold left
                    rw [if_neg (by rw [hz]; exact Nat.lt_irrefl 0), List.eq_nil_of_length_eq_zero hz]
                    rfl
                  have HV1 := Aside0.mk (tpeekI_none HS18.out.tab (val_none.2 (by rw [hk18]; exact List.not_mem_nil) : val dr l18 = none) (Nat.le_trans HDR.out (by decide)))
                  have HV2 := Aside0.mk (tpeekI_none HS18.out.tab (val_none.2 (by rw [hk18]; exact List.not_mem_nil) : val fr l18 = none) HFR.out.2.2)
                  have hzI : ((K.length : Int) == 0) = true := by rw [hz]; rfl
                  rw [hz] at cn0
                  clear hk18
                  go_upto_region 32 with (first
                    | (go_at_call 11; refine HV1.out.mono ?_; rintro r w19 ⟨rfl, ew⟩; have ew := ew.symm; subst ew))
                  go_upto_region 33 with (first
                    | (go_at_call 11; refine HV2.out.mono ?_; rintro r w19 ⟨rfl, ew⟩; have ew := ew.symm; subst ew))
                  go_wp2_with fail
                  go_ret
                  exact ⟨rfl, HBL.out⟩
                · have hz2 : 0 < K.length := Nat.pos_of_ne_zero hz
                  obtain ⟨e1, e2, e3, e4⟩ := HE18.out.fin HND.out HFR.out.1 hz2
                  have HV1 := Aside0.mk (tpeekI_none HS18.out.tab e1 (Nat.le_trans HDR.out (by decide)))
                  have HV2 := Aside0.mk (tpeekI_some HS18.out.tab e2)
                  have HLN := Aside0.mk (tlenI HS18.out.tab)
                  have HLT : Aside0 ((b = true → (l18.length : Int) = (K.length : Int)) ∧ (b = false → (l18.length : Int) = (K.length : Int) + 1)) := ⟨⟨fun e => by rw [e3 (HTH.out.1 e)], fun e => by rw [e4 (HTH.out.2 e)]; rfl⟩⟩
                  have hzI : ((K.length : Int) == 0) = false := as13 hz
                  clear e1 e2 e3 e4 HE18 hz hz2
                  go_upto_region 32 with (first
                    | (go_at_call 11; refine HV1.out.mono ?_; rintro r w19 ⟨rfl, ew⟩; have ew := ew.symm; subst ew))
                  go_upto_region 33 with (first
                    | (go_at_call 11; refine HV2.out.mono ?_; rintro r w19 ⟨rfl, ew⟩; have ew := ew.symm; subst ew))
                  clear HV1 HV2
                  cases b with
                  | true =>
                    have hlw := HLT.out.1 rfl
                    rw [hlw] at HLN
                    clear hlw HLT
                    go_wp2_with (first
                      | ((with_reducible refine gate_callee (f := 14) rfl ?_); (try (refine gate_guard (by rfl) ?_; dsimp only)); refine goesL_ _ rfl rfl Try.func14 (by kernel_rfl) rfl _ rfl (by (try simp only [List.map_toArray, List.map_cons, List.map_nil]); first | done | rfl) ?_; refine HLN.out.mono ?_; rintro r w20 ⟨rfl, ew⟩; refine ⟨_, rfl, ?_⟩; have ew := ew.symm; subst ew))
                    go_ret
                    exact ⟨rfl, HBL.out⟩
                  | false =>
                    have hlw := HLT.out.2 rfl
                    rw [hlw] at HLN
                    clear hlw HLT
                    go_wp2_with (first
                      | ((with_reducible refine gate_callee (f := 14) rfl ?_); (try (refine gate_guard (by rfl) ?_; dsimp only)); refine goesL_ _ rfl rfl Try.func14 (by kernel_rfl) rfl _ rfl (by (try simp only [List.map_toArray, List.map_cons, List.map_nil]); first | done | rfl) ?_; refine HLN.out.mono ?_; rintro r w20 ⟨rfl, ew⟩; refine ⟨_, rfl, ?_⟩; have ew := ew.symm; subst ew))
                    go_ret
                    exact ⟨rfl, HBL.out⟩
end Go.Proofs.Ytlainhbmfphojaa.Tb
