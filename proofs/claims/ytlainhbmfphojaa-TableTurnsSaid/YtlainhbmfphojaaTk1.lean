/- Proved: TableKeeps: the plain law of its list, and the walk. -/
import Derived.Test.YtlainhbmfphojaaTk0
namespace Go.Proofs.Ytlainhbmfphojaa.Tb
open Go.RowKit Go.Maps Go.Proofs.YtlainhbmfphojaaW.PrintWords Go.Proofs.YtlainhbmfphojaaW.PrintLast Go.Proofs.YtlainhbmfphojaaW.PrintMore
set_option linter.unusedVariables false
set_option linter.unusedSimpArgs false

/-- The key, and so many x behind it. -/
def ot (key : ByteArray) : Nat → ByteArray
  | 0 => key
  | i + 1 => ot key i ++ ⟨#[120]⟩
theorem ot_size (key : ByteArray) : ∀ i, (ot key i).size = key.size + i
  | 0 => rfl
  | i + 1 => by
    show (ot key i ++ ⟨#[120]⟩).size = _
    rw [ByteArray.size_append, ot_size key i]
    rfl
theorem ot_ne (key : ByteArray) {i j : Nat} (h : i ≠ j) : ot key i ≠ ot key j := fun e => h (by
  have := congrArg ByteArray.size e
  rw [ot_size, ot_size] at this
  omega)
def ots (key : ByteArray) (i : Nat) : List ByteArray := (List.range i).map (fun j => ot key (j + 1))
theorem ots_not (key : ByteArray) (i : Nat) : ∀ j, i < j → ot key j ∉ ots key i := fun j h hm => by
  obtain ⟨k, hk, e⟩ := List.mem_map.1 hm
  rw [List.mem_range] at hk
  exact ot_ne key (by omega) e
theorem ots_key (key : ByteArray) (i : Nat) : key ∉ ots key i := fun hm => by
  obtain ⟨k, hk, e⟩ := List.mem_map.1 hm
  exact ot_ne key (i := k + 1) (j := 0) (by omega) e
theorem ots_succ (key : ByteArray) (i : Nat) : ots key (i + 1) = ots key i ++ [ot key (i + 1)] := by simp [ots, List.range_succ]
theorem ots_len (key : ByteArray) (i : Nat) : (ots key i).length = i := by simp [ots]
structure Kp (key : ByteArray) (i : Nat) (l : LI) : Prop where
  ex : ∃ l0 ls, l = l0 ++ (key, 77) :: ls ∧ ks ls = ots key i
theorem Kp.begin (key : ByteArray) (n : Nat) (l : LI) : Kp key 0 (putL n l key 77) := ⟨_, [], rfl, rfl⟩
theorem Kp.val_ {key : ByteArray} {i : Nat} {l : LI} (h : Kp key i l) (nd : (ks l).Nodup) : val key l = some 77 := by
  obtain ⟨l0, ls, rfl, e⟩ := h.ex
  refine val_mid fun hm => ?_
  simp only [ks, List.map_append, List.map_cons, List.nodup_append, List.mem_cons, ne_eq] at nd
  exact nd.2.2 _ hm _ (.inl rfl) rfl
theorem Kp.put {key : ByteArray} {i n : Nat} {l : LI} (h : Kp key i l) (hl : l.length ≤ n) (hi : i + 1 < n) (x : Int) : Kp key (i + 1) (putL n l (ot key (i + 1)) x) := by
  obtain ⟨l0, ls, rfl, e⟩ := h.ex
  have e2 : ∀ y : Int, ks (ls ++ [(ot key (i + 1), y)]) = ots key (i + 1) := fun y => by rw [ots_succ, ← e]; simp [ks]
  have hll : ls.length = i := by have := congrArg List.length e; rw [ots_len] at this; simpa [ks] using this
  unfold putL
  split
  · refine ⟨rm (ot key (i + 1)) l0, ls ++ [(ot key (i + 1), x)], ?_, e2 x⟩
    have hn : ot key (i + 1) ∉ ks ((key, (77 : Int)) :: ls) := by
      show ¬ _ ∈ key :: ks ls
      rw [e, List.mem_cons, not_or]
      exact ⟨ot_ne key (i := i + 1) (j := 0) (by omega), ots_not key i _ (by omega)⟩
    rw [rm_append, rm_not hn]
    simp
  · split
    · rename_i hfull
      cases l0 with
      | nil => simp at hfull; omega
      | cons p l0 => exact ⟨l0, ls ++ [(ot key (i + 1), x)], by simp, e2 x⟩
    · exact ⟨l0, ls ++ [(ot key (i + 1), x)], by simp, e2 x⟩
theorem Kp.last {key : ByteArray} {i n : Nat} {l : LI} (h : Kp key i l) (hl : l.length ≤ n) (hi : i + 1 = n) (x : Int) : ks (putL n l (ot key (i + 1)) x) = ots key n := by
  obtain ⟨l0, ls, rfl, e⟩ := h.ex
  have hll : ls.length = i := by have := congrArg List.length e; rw [ots_len] at this; simpa [ks] using this
  obtain rfl : l0 = [] := List.eq_nil_of_length_eq_zero (by simp at hl; omega)
  have hv : val (ot key (i + 1)) ([] ++ (key, (77 : Int)) :: ls) = none := by
    rw [val_none]
    show ¬ _ ∈ key :: ks ls
    rw [e, List.mem_cons, not_or]
    exact ⟨ot_ne key (i := i + 1) (j := 0) (by omega), ots_not key i _ (by omega)⟩
  unfold putL
  rw [hv, if_neg (by simp), if_pos (by simp; omega)]
  show ks (ls ++ _) = _
  rw [← hi, ots_succ, ← e]
  simp [ks]
/-- What is put is there, at the end. -/
theorem put_get {X : Type} (n : Nat) (l : List (ByteArray × X)) (s : ByteArray) (x : X) (nd : (ks (putL n l s x)).Nodup) : val s (putL n l s x) = some x ∧ rm s (putL n l s x) ++ [(s, x)] = putL n l s x := by
  unfold putL at nd ⊢
  generalize (if (val s l).isSome then rm s l else if l.length = n then l.tail else l) = m at nd ⊢
  have hm : s ∉ ks m := fun hm => by
    simp only [ks, List.map_append, List.map_cons, List.map_nil, List.nodup_append, List.mem_cons, List.not_mem_nil, or_false, ne_eq] at nd
    exact nd.2.2 _ hm _ rfl rfl
  exact ⟨val_mid hm, by rw [rm_append, rm_not hm, rm_one, List.append_nil]⟩

theorem tpeekI_any {w : World} {B g n : Nat} {S : Nat → Prop} {l : LI} {s : ByteArray} (h : Tab w 54 57 eI B g n S l) (hs : s.size ≤ maxLen) : Calls Try.prog 11 #[.pointer (some ⟨g, 0, none⟩), .string s] w fun r w' => (∃ v, r = .returned v) ∧ w' = w := by
  cases hv : val s l with
  | none =>
    refine (tpeekI_none h hv hs).mono ?_
    rintro r w' ⟨rfl, rfl⟩
    exact ⟨⟨_, rfl⟩, rfl⟩
  | some x =>
    refine (tpeekI_some h hv).mono ?_
    rintro r w' ⟨rfl, rfl⟩
    exact ⟨⟨_, rfl⟩, rfl⟩
set_option maxHeartbeats 4000000 in
set_option maxRecDepth 100000 in
theorem keeps_bad (z : Int) (A : Option Addr) (c : Nat) (al : List ByteArray) (key : ByteArray) (N : Int) (w : World) (hz : z < 1 ∨ 200 < z) : Calls Try.prog 3 #[.agg #[.int .i64 z, .slice A al.length c, .string key, .int .i64 N]] w fun r w' => r = .returned (.bool true) ∧ Below w.heap.size w w' := by
  have hu24 := Try.underlying24
  have hu3 := Try.underlying3
  have hu22 := Try.underlying22
  have hu9 := Try.underlying9
  have hu26 := Try.underlying26
  by_cases c1 : z < 1
  · go_enter Try.func3, Try.ntmps3
    go_wp2_with (first
      | ((with_reducible refine gate_dst (N := 1) rfl ?_); refine box_event ?hg (N := 1) ?hd (cs := #[.int .i64 z, .slice A al.length c, .string key, .int .i64 N]) (t := 24) ?hr ?_; (case hd => rfl); (case hg => rfl); (case hr => first | (go_simp; done) | (go_simp; rfl)); intro gc egc w1 Xgc Bgc; have cc0 := blk_cell Xgc 0; have cc1 := blk_cell Xgc 1; have cc2 := blk_cell Xgc 2; have cc3 := blk_cell Xgc 3; simp only [List.getElem?_toArray, List.getElem?_cons_zero, List.getElem?_cons_succ] at cc0 cc1 cc2 cc3; clear egc; have hB := Bgc)
      | (go_at_call 7; refine (alive_calls _).mono ?_; rintro r w3 ⟨rfl, hb3⟩; have hB := below_step hB hb3))
    go_ret
    exact ⟨rfl, hB⟩
  · have c2 : 200 < z := by omega
    go_enter Try.func3, Try.ntmps3
    go_wp2_with (first
      | ((with_reducible refine gate_dst (N := 1) rfl ?_); refine box_event ?hg (N := 1) ?hd (cs := #[.int .i64 z, .slice A al.length c, .string key, .int .i64 N]) (t := 24) ?hr ?_; (case hd => rfl); (case hg => rfl); (case hr => first | (go_simp; done) | (go_simp; rfl)); intro gc egc w1 Xgc Bgc; have cc0 := blk_cell Xgc 0; have cc1 := blk_cell Xgc 1; have cc2 := blk_cell Xgc 2; have cc3 := blk_cell Xgc 3; simp only [List.getElem?_toArray, List.getElem?_cons_zero, List.getElem?_cons_succ] at cc0 cc1 cc2 cc3; clear egc; have hB := Bgc)
      | (go_at_call 7; refine (alive_calls _).mono ?_; rintro r w3 ⟨rfl, hb3⟩; have hB := below_step hB hb3))
    go_ret
    exact ⟨rfl, hB⟩
set_option maxHeartbeats 16000000 in
set_option maxRecDepth 100000 in
theorem keeps_ok (n : Nat) (A : Option Addr) (c : Nat) (al : List ByteArray) (key : ByteArray) (N : Int) (w : World) (h0 : 0 < n) (h1 : n ≤ 200) (HR : RS w A al.length al) (hal : ∀ k, k < al.length → (al.getD k ByteArray.empty).size ≤ maxLen) (hkey : key.size ≤ 140737488355328) (hN : -9223372036854775808 ≤ N ∧ N ≤ 9223372036854775807) : Calls Try.prog 3 #[.agg #[.int .i64 (n : Int), .slice A al.length c, .string key, .int .i64 N]] w fun r w' => r = .returned (.bool true) ∧ Below w.heap.size w w' := by
  have hu24 := Try.underlying24
  have hu3 := Try.underlying3
  have hu22 := Try.underlying22
  have hu9 := Try.underlying9
  have hu26 := Try.underlying26
  have c1 : ¬ (n : Int) < 1 := by omega
  have c2 : ¬ (200 : Int) < n := by omega
  have hn0 : (0 : Int) < n := by omega
  have hnz : ¬ (n : Int) = 0 := by omega
  go_enter Try.func3, Try.ntmps3
  go_wp2_with (first
    | ((with_reducible refine gate_dst (N := 1) rfl ?_); refine box_event ?hg (N := 1) ?hd (cs := #[.int .i64 (n : Int), .slice A al.length c, .string key, .int .i64 N]) (t := 24) ?hr ?_; (case hd => rfl); (case hg => rfl); (case hr => first | (go_simp; done) | (go_simp; rfl)); intro gc egc w1 Xgc Bgc; have cc0 := blk_cell Xgc 0; have cc1 := blk_cell Xgc 1; have cc2 := blk_cell Xgc 2; have cc3 := blk_cell Xgc 3; simp only [List.getElem?_toArray, List.getElem?_cons_zero, List.getElem?_cons_succ] at cc0 cc1 cc2 cc3; clear egc)
    | (go_at_call 7; refine (alive_calls _).mono ?_; rintro r w2 ⟨rfl, hb2⟩)
    | (go_at_call 8; refine (tnewI _ n h0 (by omega)).mono ?_; rintro r w3 ⟨g, S, rfl, hT, hB⟩))
  have hB0 := below_step Bgc hb2
  go_loopw [9] (fun i wr => ∃ (k : Nat) (S : Nat → Prop) (l : LI), k ≤ al.length ∧ i = .int .i64 k ∧ Aside0 (Tab wr 54 57 eI w2.heap.size g n S l) ∧ Aside0 (Below w2.heap.size w2 wr)) (fun i _ => al.length - (intOf i).toNat)
  case atStart => exact ⟨0, S, [], Nat.zero_le _, rfl, ⟨hT⟩, ⟨hB⟩⟩
  case round =>
    clear hT hB
    obtain ⟨k, S, l, hk, rfl, HT, HB⟩ := hrel
    have hk0 : (0 : Int) ≤ k := Int.natCast_nonneg k
    have hll : al.length ≤ 9223372036854775807 := by have := HR.2.1; omega
    by_cases hlt : k < al.length
    · have hk2 : (k : Int) < (al.length : Int) := Int.ofNat_lt.mpr hlt
      obtain ⟨ad, s, eA, hx, gs⟩ := (HR.below (below_step hB0 HB.out)).at_ k hlt
      have hsz := hal k hlt
      rw [gs] at hsz
      subst eA
      clear gs
      go_wp2_with (first | (go_at_call 9; refine (tputI HT.out hsz).mono ?_; rintro r w4 ⟨S1, rfl, hT1, hN1⟩; have hB1 := hN1.below HT.out HB.out))
      go_roundw
      case rel => exact ⟨k + 1, S1, _, by omega, by go_num, ⟨hT1⟩, ⟨hB1⟩⟩
      case measure => simp [intOf]; omega
    · obtain rfl : k = al.length := by omega
      obtain ⟨tm, htm⟩ : ∃ tm, N.tmod (n : Int) = tm := ⟨_, rfl⟩
      have ht0 : -(n : Int) < tm := by rw [← htm]; have := Int.lt_tmod_of_pos N hn0; omega
      have ht1 : tm < (n : Int) := by rw [← htm]; exact Int.tmod_lt_of_pos N hn0
      have hmk : key.size ≤ maxLen := by unfold maxLen; omega
      have hw1 : wrap64 tm = tm := by unfold wrap64; omega
      have hw2 : wrap64 (-tm) = -tm := by unfold wrap64; omega
      go_upto_if 66 with (first | (go_at_call 9; refine (tputI HT.out hmk).mono ?_; rintro r w4 ⟨S1, rfl, hT1, hN1⟩; have hB1 := hN1.below HT.out HB.out))
      go_cut [10] (fun v wc => ∃ m : Nat, v = .int .i64 (m : Int) ∧ m < n ∧ wc = w4)
      case first =>
        by_cases hneg : tm < 0
        · go_wp2_with fail
          go_meet
          exact ⟨(-tm).toNat, by rw [Int.toNat_of_nonneg (by omega)], by omega, rfl⟩
        · go_wp2_with fail
          go_meet
          exact ⟨tm.toNat, by rw [Int.toNat_of_nonneg (by omega)], by omega, rfl⟩
      case rest =>
        obtain ⟨m, rfl, hm, rfl⟩ := hcut
        clear hw1 hw2 ht0 ht1 htm tm
        go_wp2_with fail
        go_loopw [11, 12] (fun q i wr => ∃ (k : Nat) (S : Nat → Prop) (l : LI), k ≤ m ∧ i = .int .i64 k ∧ q = .string (ot key k) ∧ Aside0 (Kp key k l) ∧ Aside0 (Tab wr 54 57 eI w2.heap.size g n S l) ∧ Aside0 (Below w2.heap.size w2 wr)) (fun _ i _ => m - (intOf i).toNat)
        case atStart => exact ⟨0, S1, _, Nat.zero_le _, rfl, rfl, ⟨Kp.begin key n _⟩, ⟨hT1⟩, ⟨hB1⟩⟩
        case round =>
          clear hT1 hB1 HT HB hN1
          obtain ⟨k, S, l, hk, rfl, rfl, HK, HT, HB⟩ := hrel
          have hk0 : (0 : Int) ≤ k := Int.natCast_nonneg k
          by_cases hlt : k < m
          · have hk2 : (k : Int) < (m : Int) := Int.ofNat_lt.mpr hlt
            have hsk : (ot key (k + 1)).size ≤ maxLen := by rw [ot_size]; unfold maxLen; omega
            have hs0 : (ot key k).size ≤ 140737488360000 := by rw [ot_size]; omega
            have hs1 : ¬ 9223372036854775807 < (ot key k).size + 1 := by omega
            have hs2 : ¬ 9223372036854775807 < 1 + ((ot key k).size + 1) := by omega
            have hs3 : ¬ 9223372036854775807 < 1 + ((ot key k).size + 1) + 1 := by omega
            go_wp2_with (first
              | (go_at_call 9; refine (tputI (s := ot key (k + 1)) (x := (k : Int)) HT.out hsk).mono ?_; rintro r w4 ⟨S1, rfl, hT1, hN1⟩; have hB1 := hN1.below HT.out HB.out; have HK1 := Aside0.mk (HK.out.put HT.out.len.1 (show k + 1 < n by omega) (k : Int)); obtain ⟨hv1, hr1⟩ := put_get n l (ot key (k + 1)) (k : Int) hT1.nd; generalize putL n l (ot key (k + 1)) (k : Int) = l1 at hT1 HK1 hv1 hr1)
              | (go_at_call 10; refine (tgetI_some (s := ot key (k + 1)) hT1 hv1).mono ?_; rintro r w5 ⟨S2, rfl, hT2, hN2⟩; rw [hr1] at hT2; have hB2 := hN2.below hT1 hB1)
              | (go_at_call 11; refine (tpeekI_any hT2 (by simp only [ByteArray.size_append]; show 1 + ((ot key k).size + 1) + 1 ≤ maxLen; unfold maxLen; omega)).mono ?_; rintro r w6 ⟨⟨v6, rfl⟩, rfl⟩))
            go_roundw
            case rel => exact ⟨k + 1, S2, l1, by omega, by go_num, rfl, HK1, ⟨hT2⟩, ⟨hB2⟩⟩
            case measure => simp [intOf]; omega
          · obtain rfl : k = m := by omega
            have hv77 := HK.out.val_ HT.out.nd
            go_wp2_with (first
              | (go_at_call 11; refine (tpeekI_some HT.out hv77).mono ?_; rintro r w6 ⟨rfl, rfl⟩))
            go_loopw [11, 15] (fun q i wr => ∃ (j : Nat) (S : Nat → Prop) (l : LI), j ≤ n ∧ i = .int .i64 j ∧ q = .string (ot key j) ∧ Aside0 (j < n → Kp key j l) ∧ Aside0 (j = n → ks l = ots key n) ∧ Aside0 (Tab wr 54 57 eI w2.heap.size g n S l) ∧ Aside0 (Below w2.heap.size w2 wr)) (fun _ i _ => n - (intOf i).toNat)
            case atStart => exact ⟨k, S, l, by omega, rfl, rfl, ⟨fun _ => HK.out⟩, ⟨fun e => absurd e (by omega)⟩, HT, HB⟩
            case round =>
              clear HT HB HK hv77
              obtain ⟨j, S, l, hj, rfl, rfl, HK, HL, HT, HB⟩ := hrel
              have hj0 : (0 : Int) ≤ j := Int.natCast_nonneg j
              by_cases hlt2 : j < n
              · have hj2 : (j : Int) < (n : Int) := Int.ofNat_lt.mpr hlt2
                have hsk : (ot key (j + 1)).size ≤ maxLen := by rw [ot_size]; unfold maxLen; omega
                have hs0 : (ot key j).size ≤ 140737488360000 := by rw [ot_size]; omega
                have hs1 : ¬ 9223372036854775807 < (ot key j).size + 1 := by omega
                go_wp2_with (first
                  | (go_at_call 9; refine (tputI (s := ot key (j + 1)) (x := (j : Int)) HT.out hsk).mono ?_; rintro r w4 ⟨S1, rfl, hT1, hN1⟩; have hB1 := hN1.below HT.out HB.out))
                go_roundw
                case rel => exact ⟨j + 1, S1, _, by omega, by go_num, rfl, ⟨fun h => (HK.out hlt2).put HT.out.len.1 h (j : Int)⟩, ⟨fun h => (HK.out hlt2).last HT.out.len.1 h (j : Int)⟩, ⟨hT1⟩, ⟨hB1⟩⟩
                case measure => simp [intOf]; omega
              · obtain rfl : j = n := by omega
                have hks := HL.out rfl
                have hv0 : val key l = none := val_none.2 (by rw [hks]; exact ots_key key j)
                have hb0 := below_step hB0 HB.out
                go_wp2_with (first
                  | (go_at_call 11; refine (tpeekI_none HT.out hv0 hmk).mono ?_; rintro r w6 ⟨rfl, rfl⟩)
                  | (go_at_call 12; refine (tkeysI HT.out).mono ?_; rintro r w7 ⟨v, rfl, hk7, hb7⟩; rw [hks, ots_len] at hk7; obtain ⟨A7, c7, rfl, _, hR7⟩ := own_rs hk7; have hB7 := below_step hb0 hb7; clear hk7))
                go_loopw [17, 18] (fun q i wr => ∃ p : Nat, p ≤ j ∧ i = .int .i64 p ∧ q = .string (ot key p) ∧ wr = w7) (fun _ i _ => j - (intOf i).toNat)
                case atStart => exact ⟨0, Nat.zero_le _, rfl, rfl, rfl⟩
                case round =>
                  obtain ⟨p, hp, rfl, rfl, rfl⟩ := hrel
                  have hp0 : (0 : Int) ≤ p := Int.natCast_nonneg p
                  by_cases hlt3 : p < j
                  · have hp2 : (p : Int) < (j : Int) := Int.ofNat_lt.mpr hlt3
                    have hs0 : (ot key p).size ≤ 140737488360000 := by rw [ot_size]; omega
                    have hs1 : ¬ 9223372036854775807 < (ot key p).size + 1 := by omega
                    obtain ⟨ad, s, e7, hx, gs⟩ := hR7.at_ p hlt3
                    have es : s = ot key p ++ ⟨#[120]⟩ := by rw [← gs]; simp [ots, List.getD_eq_getElem?_getD, hlt3]; rfl
                    subst e7 es
                    clear gs
                    go_wp2_with fail
                    go_roundw
                    case rel => exact ⟨p + 1, by omega, by go_num, rfl, trivial⟩
                    case measure => simp [intOf]; omega
                  · obtain rfl : p = j := by omega
                    go_wp2_with fail
                    go_ret
                    exact ⟨rfl, hB7⟩
end Go.Proofs.Ytlainhbmfphojaa.Tb
