/- Proved: the walk of WindowOnce, over the contracts of package window; for every slice of numbers. -/
import Derived.Test.YtidjnpfpbbffjaaPureWindowOnce
import Derived.Test.YtidjnpfpbbffjaaWGuard
import Derived.WalkKit
import Derived.Maps.OwnOps
import Derived.Maps.OwnSet
import Derived.Maps.RangeWalk
import Derived.Maps.Views
namespace Go.Proofs.Ytidjnpfpbbffjaa.Once
open Go.RowKit Go.Maps Go.Proofs.Ytidjnpfpbbffjaa.PWindowOnce Go.Proofs.YtidjnpfpbbffjaaW.PrintWords Go.Proofs.YtidjnpfpbbffjaaW.PrintMore Go.Proofs.Ytidjnpfpbbffjaa.Pure
set_option linter.unusedVariables false

theorem law24 : Keyed Try.prog 24 := int_keyed Try.underlying24
theorem zero3 (w : World) : (zeroValue 3).run Try.prog w = .ok (.int .i64 0) w := by kernel_rfl

theorem lit_eq {H : Type} {a b : Int} (h : (DataW.lit (Lit.int .i64 a) : DataW H) = .lit (.int .i64 b)) : a = b := by
  injection h with h
  injection h

theorem key_at {s : Nat} (h : s < 18446744073709551616) : keyOf Try.prog 24 (.int .u64 (s : Int)) = some (.int .u64 (s : Int)) :=
  keyOf_int_mk Try.underlying24 (Go.WalkArith.wf_u64 ⟨by omega, by omega⟩)

/-- Mark's contract, as this walk asks it. -/
theorem mark_at (k : Nat) {w W : World} {g : Nat} {hi bi s e hi' bi' : Int} (hB : Below w.heap.size w W) (hg : w.heap.size ≤ g) (hb : W.heap[g]? = some (.cells #[.int .u64 hi, .int .u64 bi] 26 (0, 0)))
    (h : window_Window_Mark.f k hi bi s = some (e, hi', bi')) :
    Calls Try.prog 16 #[.pointer (some ⟨g, 0, none⟩), .int .u64 s] W fun x W' => x = .returned (.int .i64 e) ∧ W'.heap[g]? = some (.cells #[.int .u64 hi', .int .u64 bi'] 26 (0, 0)) ∧ Below w.heap.size w W' ∧ W.grownBy W' (some g) :=
  (window_Window_Mark.calls k g hi bi s e hi' bi' w W ⟨hb, hg⟩ hB h).mono fun x W' ⟨h1, h2, h3, h4⟩ =>
    ⟨h1, h2.1, h3, ⟨h3.os.trans hB.os.symm, h3.tape.trans hB.tape.symm, h3.output.trans hB.output.symm, h4.1, fun i hi hn => h4.2 i hi (fun e => hn (by rw [e])) (by simp)⟩⟩

/-- What the map reads as. -/
def Holds {H : Type} (D : DataW H) (T : List Nat) : Prop :=
  ∀ s : Nat, (s ∈ T → ∀ zd, D.atKey (.int .u64 s) zd = .lit (.int .i64 1)) ∧ (s ∉ T → ∀ zd, D.atKey (.int .u64 s) zd = zd)
theorem Holds.begin {H : Type} : Holds (H := H) (.map []) [] := fun s => ⟨fun h => by simp at h, fun _ zd => rfl⟩
theorem Holds.put {H : Type} {D : DataW H} {T : List Nat} (h : Holds D T) (hD : IsMap D) (s : Nat) : Holds (D.put (.int .u64 s) (.lit (.int .i64 1))) (s :: T) := by
  intro x
  by_cases c : x = s
  · subst c
    exact ⟨fun _ zd => atKey_put_same (k := .int .u64 (x : Int)) hD trivial _ _, fun hn => absurd (by simp) hn⟩
  · have hne : (Lit.int .u64 (x : Int)) ≠ Lit.int .u64 (s : Int) := by
      intro e
      injection e with _ e
      omega
    refine ⟨fun hx zd => ?_, fun hx zd => ?_⟩
    · rw [atKey_put_other hne]
      exact (h x).1 (by rcases List.mem_cons.1 hx with e | e; exact absurd e c; exact e) zd
    · rw [atKey_put_other hne]
      exact (h x).2 (fun e => hx (List.mem_cons_of_mem _ e)) zd
theorem Holds.got {H : Type} {D : DataW H} {T : List Nat} (h : Holds D T) {x : Int} (hx : 0 ≤ x) {c : Int} (ha : ∀ zd, D.atKey (.int .u64 x) zd = .lit (.int .i64 c)) : x.toNat ∈ T := by
  obtain ⟨n, rfl⟩ := Int.eq_ofNat_of_zero_le hx
  by_cases m : n ∈ T
  · simpa using m
  · have h1 := (h n).2 m (.lit (.int .i64 (c + 1)))
    rw [ha] at h1
    injection h1 with h1
    injection h1 with _ h1
    omega

set_option maxHeartbeats 2000000 in
set_option maxRecDepth 100000 in
theorem once_any (A : Option Addr) (cap : Nat) (l : List Int) (w : World) (hr : Kd.C (Kd.int .u64) w A l.length l) (hl : ∀ x ∈ l, 0 ≤ x ∧ x ≤ 18446744073709551615) (hlen : l.length ≤ 9223372036854775807) :
    Calls Try.prog 4 #[.slice A l.length cap] w fun e w' => e = .returned (.bool true) ∧ Below w.heap.size w w' := by
  have hmm := @run_makeMap Try.prog
  have hu26 := Try.underlying26
  go_enter Try.func4, Try.ntmps4
  go_wp2_with (first | (go_at_call 11; refine (joustlaw09_alive.calls 4 true _ alive_ok).mono ?_; rintro e w1 ⟨rfl, hb1⟩))
  have hB0 : Below w.heap.size w ((w1.alloc (.cells #[.int .u64 0, .int .u64 0] 26)).alloc (.map #[] 0)) := (hb1.alloc hb1.size _).alloc (by have := hb1.size; simp; omega) _
  have hz1 := hb1.size
  generalize hg : w1.heap.size = g at *
  have hbox0 : ((w1.alloc (.cells #[.int .u64 0, .int .u64 0] 26)).alloc (.map #[] 0)).heap[g]? = some (.cells #[.int .u64 0, .int .u64 0] 26 (0, 0)) := by
    subst hg
    rw [heap_alloc_old _ _ (by simp)]
    exact heap_alloc_new _ _
  have hmap0 := World.ownsMap_made (H := Unit) (w1.alloc (.cells #[.int .u64 0, .int .u64 0] 26)) Try.prog 24 (plainElem Try.prog 3)
  have hsz : (w1.alloc (.cells #[.int .u64 0, .int .u64 0] 26)).heap.size = g + 1 := by simp [hg]
  rw [hsz] at hmap0
  generalize (w1.alloc (.cells #[.int .u64 0, .int .u64 0] 26)).alloc (.map #[] 0) = w2 at *
  clear hsz hb1 hg hmm
  go_loopw [5, 6] (fun h i wr => ∃ (k hi bi : Nat) (T : List Nat) (D : DataW Unit), k ≤ l.length ∧ i = .int .i64 k ∧ h = .int .u64 hi ∧ Aside0 (Inv hi bi T) ∧ Aside0 (Holds D T) ∧ Aside0 (wr.heap[g]? = some (.cells #[.int .u64 hi, .int .u64 bi] 26 (0, 0))) ∧ Aside0 (wr.ownsMap Try.prog 24 (plainElem Try.prog 3) (g + 1) k D) ∧ Aside0 (Below w.heap.size w wr))
    (fun _ i _ => l.length - (intOf i).toNat)
  case atStart => exact ⟨0, 0, 0, [], .map [], Nat.zero_le _, rfl, rfl, ⟨Inv.begin⟩, ⟨Holds.begin⟩, ⟨hbox0⟩, ⟨hmap0⟩, ⟨hB0⟩⟩
  case round =>
    clear hbox0 hmap0 hB0
    obtain ⟨k, hi, bi, T, D, hk, rfl, rfl, HI, HD, HX, HM, HB⟩ := hrel
    by_cases hlt : k < l.length
    · have hk2 : (k : Int) < (l.length : Int) := Int.ofNat_lt.mpr hlt
      obtain ⟨ad, e0, hx⟩ := Kd.at_int hr (k : Int) (Int.natCast_nonneg k) hk2
      cases e0
      have hx1 := (HB.out.cell (World.block_lt_of_cell? w _ hx)).trans hx
      have er : rd l (k : Int) = l[k] := by unfold rd; simp [hlt]
      have hs0 := hl l[k] (List.getElem_mem hlt)
      rw [er, Int.toNat_natCast] at hx1
      clear er hx hk2
      obtain ⟨s, es⟩ := Int.eq_ofNat_of_zero_le hs0.1
      rw [es] at hx1 hs0
      clear es
      have HS : Aside0 (s < 18446744073709551616) := ⟨by omega⟩
      clear hs0
      have hhi := HI.out.hh
      have hkey := Aside0.mk (key_at HS.out)
      have hwS := HS.out
      by_cases c1 : hi < s
      · by_cases c2 : s - hi ≤ 64
        · have hm := Aside0.mk (mark_up 1 (by decide) hi bi s HI.out.hh HI.out.hb HS.out c1 c2)
          have hnT : s ∉ T := fun h => by have := HI.out.all s h; omega
          have HI' := Aside0.mk (HI.out.up s HS.out c1 c2)
          have hat0 := Aside0.mk (((HD.out) s).2 hnT (.lit (.int .i64 0)))
          go_wp2_with fail
          refine (mark_at 1 HB.out hz1 HX.out hm.out).mono ?_
          rintro e w3 ⟨rfl, hX, hB, hG⟩
          have HM3 := Aside0.mk (HM.out.kept hG (by simp))
          have HX3 := Aside0.mk hX
          have HB3 := Aside0.mk hB
          clear hX hB hG HM HX HB
          go_wp2_with fail
          refine (joustlaw09_num.calls _ _ _ rfl).mono ?_
          rintro e w4 ⟨rfl, hd⟩
          have HM4 := Aside0.mk (HM3.out.kept (grown_of_below hd.below none) (by simp))
          have HX4 := Aside0.mk ((hd.below.block g (blk_lt HX3.out)).trans HX3.out)
          have HB4 := Aside0.mk (below_step HB3.out hd.below)
          clear hd HM3 HX3 HB3
          have hcz0 := blk_cell HX4.out 0
          have hcz1 := blk_cell HX4.out 1
          have hfz0 := blk_frozen HX4.out 0
          have hfz1 := blk_frozen HX4.out 1
          simp only [List.getElem?_toArray, List.getElem?_cons_zero, List.getElem?_cons_succ] at hcz0 hcz1
          go_wp2_with (first | (at_lookup; (try (refine gate_guard (by rfl) ?_; dsimp only)); refine wpList_lookup_own_int _ rfl _ _ 40 rfl 24 3 .i64 law24 Try.underlying40 Try.underlying3 (zero3 _) (g + 1) k D rfl HM4.out _ _ rfl hkey.out ?_; intro c hat hwc; obtain rfl := lit_eq (hat.symm.trans hat0.out)) | (at_mapUpdate; refine wpList_mapUpdate_own _ rfl _ _ _ 40 rfl 24 3 law24 Try.underlying40 _ (g + 1) k D rfl HM4.out (Nat.lt_of_lt_of_le hlt hlen) _ _ _ rfl rfl hkey.out _ [] (plainElem_int Try.underlying3 (by decide)) ?_; intro w5 hown5 hgrow5; have HM5 := Aside0.mk hown5; have HX5 := Aside0.mk (blk_grown HX4.out hgrow5 (by simp)); have HB5 := Aside0.mk (HB4.out.grown hgrow5 HB4.out.size (fun j hj => by cases hj; omega)); clear hown5 hgrow5; clear hcz0 hcz1 hfz0 hfz1; have hcz0 := blk_cell HX5.out 0; have hcz1 := blk_cell HX5.out 1; have hfz0 := blk_frozen HX5.out 0; have hfz1 := blk_frozen HX5.out 1; simp only [List.getElem?_toArray, List.getElem?_cons_zero, List.getElem?_cons_succ] at hcz0 hcz1) | (go_at_call 18; refine (window_Window_High.calls _ _ _ _ rfl).mono ?_; rintro e w6 ⟨rfl, hb6⟩))
          go_roundw
          case rel => exact ⟨k + 1, s, _, s :: T, _, by omega, by go_num, rfl, ⟨HI'.out⟩, ⟨HD.out.put HM4.out.isMap s⟩, ⟨(hb6.block g (blk_lt HX5.out)).trans HX5.out⟩, ⟨HM5.out.kept (grown_of_below hb6 none) (by simp)⟩, ⟨below_step HB5.out hb6⟩⟩
          case measure => simp [intOf]; omega
        · have hm := Aside0.mk (mark_far 1 (by decide) hi bi s HI.out.hh HI.out.hb HS.out c1 (by omega))
          go_wp2_with fail
          refine (mark_at 1 HB.out hz1 HX.out hm.out).mono ?_
          rintro e w3 ⟨rfl, hX, hB, hG⟩
          have HM3 := Aside0.mk (HM.out.kept hG (by simp))
          have HX3 := Aside0.mk hX
          have HB3 := Aside0.mk hB
          clear hX hB hG HM HX HB
          go_wp2_with fail
          refine (joustlaw09_num.calls _ _ _ rfl).mono ?_
          rintro e w4 ⟨rfl, hd⟩
          have HM4 := Aside0.mk (HM3.out.kept (grown_of_below hd.below none) (by simp))
          have HX4 := Aside0.mk ((hd.below.block g (blk_lt HX3.out)).trans HX3.out)
          have HB4 := Aside0.mk (below_step HB3.out hd.below)
          clear hd HM3 HX3 HB3
          have hcz0 := blk_cell HX4.out 0
          have hcz1 := blk_cell HX4.out 1
          have hfz0 := blk_frozen HX4.out 0
          have hfz1 := blk_frozen HX4.out 1
          simp only [List.getElem?_toArray, List.getElem?_cons_zero, List.getElem?_cons_succ] at hcz0 hcz1
          go_wp2_with (first | (at_lookup; (try (refine gate_guard (by rfl) ?_; dsimp only)); refine wpList_lookup_own_int _ rfl _ _ 40 rfl 24 3 .i64 law24 Try.underlying40 Try.underlying3 (zero3 _) (g + 1) k D rfl HM4.out _ _ rfl hkey.out ?_; intro c hat hwc; obtain rfl := lit_eq (hat.symm.trans hat0.out)) | (at_mapUpdate; refine wpList_mapUpdate_own _ rfl _ _ _ 40 rfl 24 3 law24 Try.underlying40 _ (g + 1) k D rfl HM4.out (Nat.lt_of_lt_of_le hlt hlen) _ _ _ rfl rfl hkey.out _ [] (plainElem_int Try.underlying3 (by decide)) ?_; intro w5 hown5 hgrow5; have HM5 := Aside0.mk hown5; have HX5 := Aside0.mk (blk_grown HX4.out hgrow5 (by simp)); have HB5 := Aside0.mk (HB4.out.grown hgrow5 HB4.out.size (fun j hj => by cases hj; omega)); clear hown5 hgrow5; clear hcz0 hcz1 hfz0 hfz1; have hcz0 := blk_cell HX5.out 0; have hcz1 := blk_cell HX5.out 1; have hfz0 := blk_frozen HX5.out 0; have hfz1 := blk_frozen HX5.out 1; simp only [List.getElem?_toArray, List.getElem?_cons_zero, List.getElem?_cons_succ] at hcz0 hcz1) | (go_at_call 18; refine (window_Window_High.calls _ _ _ _ rfl).mono ?_; rintro e w6 ⟨rfl, hb6⟩))
          go_roundw
          case rel => exact ⟨k + 1, hi, bi, T, D, by omega, by go_num, rfl, HI, HD, ⟨(hb6.block g (blk_lt HX4.out)).trans HX4.out⟩, ⟨(HM4.out.kept (grown_of_below hb6 none) (by simp)).mono (Nat.le_succ k)⟩, ⟨below_step HB4.out hb6⟩⟩
          case measure => simp [intOf]; omega
      · by_cases c0 : s = 0
        · subst c0
          have hm := Aside0.mk (mark_zero 1 (by decide) hi bi 0 HI.out.hh HI.out.hb HS.out rfl)
          go_wp2_with fail
          refine (mark_at 1 HB.out hz1 HX.out hm.out).mono ?_
          rintro e w3 ⟨rfl, hX, hB, hG⟩
          have HM3 := Aside0.mk (HM.out.kept hG (by simp))
          have HX3 := Aside0.mk hX
          have HB3 := Aside0.mk hB
          clear hX hB hG HM HX HB
          go_wp2_with fail
          refine (joustlaw09_num.calls _ _ _ rfl).mono ?_
          rintro e w4 ⟨rfl, hd⟩
          have HM4 := Aside0.mk (HM3.out.kept (grown_of_below hd.below none) (by simp))
          have HX4 := Aside0.mk ((hd.below.block g (blk_lt HX3.out)).trans HX3.out)
          have HB4 := Aside0.mk (below_step HB3.out hd.below)
          clear hd HM3 HX3 HB3
          have hcz0 := blk_cell HX4.out 0
          have hcz1 := blk_cell HX4.out 1
          have hfz0 := blk_frozen HX4.out 0
          have hfz1 := blk_frozen HX4.out 1
          simp only [List.getElem?_toArray, List.getElem?_cons_zero, List.getElem?_cons_succ] at hcz0 hcz1
          go_wp2_with (first | (at_lookup; (try (refine gate_guard (by rfl) ?_; dsimp only)); refine wpList_lookup_own_int _ rfl _ _ 40 rfl 24 3 .i64 law24 Try.underlying40 Try.underlying3 (zero3 _) (g + 1) k D rfl HM4.out _ _ rfl hkey.out ?_; intro c hat hwc; obtain rfl := lit_eq (hat.symm.trans hat0.out)) | (at_mapUpdate; refine wpList_mapUpdate_own _ rfl _ _ _ 40 rfl 24 3 law24 Try.underlying40 _ (g + 1) k D rfl HM4.out (Nat.lt_of_lt_of_le hlt hlen) _ _ _ rfl rfl hkey.out _ [] (plainElem_int Try.underlying3 (by decide)) ?_; intro w5 hown5 hgrow5; have HM5 := Aside0.mk hown5; have HX5 := Aside0.mk (blk_grown HX4.out hgrow5 (by simp)); have HB5 := Aside0.mk (HB4.out.grown hgrow5 HB4.out.size (fun j hj => by cases hj; omega)); clear hown5 hgrow5; clear hcz0 hcz1 hfz0 hfz1; have hcz0 := blk_cell HX5.out 0; have hcz1 := blk_cell HX5.out 1; have hfz0 := blk_frozen HX5.out 0; have hfz1 := blk_frozen HX5.out 1; simp only [List.getElem?_toArray, List.getElem?_cons_zero, List.getElem?_cons_succ] at hcz0 hcz1) | (go_at_call 18; refine (window_Window_High.calls _ _ _ _ rfl).mono ?_; rintro e w6 ⟨rfl, hb6⟩))
          go_roundw
          case rel => exact ⟨k + 1, hi, bi, T, D, by omega, by go_num, rfl, HI, HD, ⟨(hb6.block g (blk_lt HX4.out)).trans HX4.out⟩, ⟨(HM4.out.kept (grown_of_below hb6 none) (by simp)).mono (Nat.le_succ k)⟩, ⟨below_step HB4.out hb6⟩⟩
          case measure => simp [intOf]; omega
        · by_cases c2 : hi - s < 64
          · have hI := HI.out.bit (hi - s) c2 (by omega)
            rw [show hi - (hi - s) = s by omega] at hI
            by_cases cT : s ∈ T
            · have hm := Aside0.mk (mark_seen 1 (by decide) hi bi s HI.out.hh HI.out.hb HS.out (by omega) (by omega) c2 (hI.2 cT))
              have hat0 := Aside0.mk (((HD.out) s).1 cT (.lit (.int .i64 0)))
              clear hI
              go_wp2_with fail
              refine (mark_at 1 HB.out hz1 HX.out hm.out).mono ?_
              rintro e w3 ⟨rfl, hX, hB, hG⟩
              have HM3 := Aside0.mk (HM.out.kept hG (by simp))
              have HX3 := Aside0.mk hX
              have HB3 := Aside0.mk hB
              clear hX hB hG HM HX HB
              go_wp2_with fail
              refine (joustlaw09_num.calls _ _ _ rfl).mono ?_
              rintro e w4 ⟨rfl, hd⟩
              have HM4 := Aside0.mk (HM3.out.kept (grown_of_below hd.below none) (by simp))
              have HX4 := Aside0.mk ((hd.below.block g (blk_lt HX3.out)).trans HX3.out)
              have HB4 := Aside0.mk (below_step HB3.out hd.below)
              clear hd HM3 HX3 HB3
              have hcz0 := blk_cell HX4.out 0
              have hcz1 := blk_cell HX4.out 1
              have hfz0 := blk_frozen HX4.out 0
              have hfz1 := blk_frozen HX4.out 1
              simp only [List.getElem?_toArray, List.getElem?_cons_zero, List.getElem?_cons_succ] at hcz0 hcz1
              go_wp2_with (first | (at_lookup; (try (refine gate_guard (by rfl) ?_; dsimp only)); refine wpList_lookup_own_int _ rfl _ _ 40 rfl 24 3 .i64 law24 Try.underlying40 Try.underlying3 (zero3 _) (g + 1) k D rfl HM4.out _ _ rfl hkey.out ?_; intro c hat hwc; obtain rfl := lit_eq (hat.symm.trans hat0.out)) | (at_mapUpdate; refine wpList_mapUpdate_own _ rfl _ _ _ 40 rfl 24 3 law24 Try.underlying40 _ (g + 1) k D rfl HM4.out (Nat.lt_of_lt_of_le hlt hlen) _ _ _ rfl rfl hkey.out _ [] (plainElem_int Try.underlying3 (by decide)) ?_; intro w5 hown5 hgrow5; have HM5 := Aside0.mk hown5; have HX5 := Aside0.mk (blk_grown HX4.out hgrow5 (by simp)); have HB5 := Aside0.mk (HB4.out.grown hgrow5 HB4.out.size (fun j hj => by cases hj; omega)); clear hown5 hgrow5; clear hcz0 hcz1 hfz0 hfz1; have hcz0 := blk_cell HX5.out 0; have hcz1 := blk_cell HX5.out 1; have hfz0 := blk_frozen HX5.out 0; have hfz1 := blk_frozen HX5.out 1; simp only [List.getElem?_toArray, List.getElem?_cons_zero, List.getElem?_cons_succ] at hcz0 hcz1) | (go_at_call 18; refine (window_Window_High.calls _ _ _ _ rfl).mono ?_; rintro e w6 ⟨rfl, hb6⟩))
              go_roundw
              case rel => exact ⟨k + 1, hi, bi, T, D, by omega, by go_num, rfl, HI, HD, ⟨(hb6.block g (blk_lt HX4.out)).trans HX4.out⟩, ⟨(HM4.out.kept (grown_of_below hb6 none) (by simp)).mono (Nat.le_succ k)⟩, ⟨below_step HB4.out hb6⟩⟩
              case measure => simp [intOf]; omega
            · have hm := Aside0.mk (mark_new 1 (by decide) hi bi s HI.out.hh HI.out.hb HS.out (by omega) (by omega) c2 (by simpa using fun h => cT (hI.1 h)))
              have hat0 := Aside0.mk (((HD.out) s).2 cT (.lit (.int .i64 0)))
              have HI' := Aside0.mk (HI.out.down s (by omega) (by omega) c2)
              clear hI
              go_wp2_with fail
              refine (mark_at 1 HB.out hz1 HX.out hm.out).mono ?_
              rintro e w3 ⟨rfl, hX, hB, hG⟩
              have HM3 := Aside0.mk (HM.out.kept hG (by simp))
              have HX3 := Aside0.mk hX
              have HB3 := Aside0.mk hB
              clear hX hB hG HM HX HB
              go_wp2_with fail
              refine (joustlaw09_num.calls _ _ _ rfl).mono ?_
              rintro e w4 ⟨rfl, hd⟩
              have HM4 := Aside0.mk (HM3.out.kept (grown_of_below hd.below none) (by simp))
              have HX4 := Aside0.mk ((hd.below.block g (blk_lt HX3.out)).trans HX3.out)
              have HB4 := Aside0.mk (below_step HB3.out hd.below)
              clear hd HM3 HX3 HB3
              have hcz0 := blk_cell HX4.out 0
              have hcz1 := blk_cell HX4.out 1
              have hfz0 := blk_frozen HX4.out 0
              have hfz1 := blk_frozen HX4.out 1
              simp only [List.getElem?_toArray, List.getElem?_cons_zero, List.getElem?_cons_succ] at hcz0 hcz1
              go_wp2_with (first | (at_lookup; (try (refine gate_guard (by rfl) ?_; dsimp only)); refine wpList_lookup_own_int _ rfl _ _ 40 rfl 24 3 .i64 law24 Try.underlying40 Try.underlying3 (zero3 _) (g + 1) k D rfl HM4.out _ _ rfl hkey.out ?_; intro c hat hwc; obtain rfl := lit_eq (hat.symm.trans hat0.out)) | (at_mapUpdate; refine wpList_mapUpdate_own _ rfl _ _ _ 40 rfl 24 3 law24 Try.underlying40 _ (g + 1) k D rfl HM4.out (Nat.lt_of_lt_of_le hlt hlen) _ _ _ rfl rfl hkey.out _ [] (plainElem_int Try.underlying3 (by decide)) ?_; intro w5 hown5 hgrow5; have HM5 := Aside0.mk hown5; have HX5 := Aside0.mk (blk_grown HX4.out hgrow5 (by simp)); have HB5 := Aside0.mk (HB4.out.grown hgrow5 HB4.out.size (fun j hj => by cases hj; omega)); clear hown5 hgrow5; clear hcz0 hcz1 hfz0 hfz1; have hcz0 := blk_cell HX5.out 0; have hcz1 := blk_cell HX5.out 1; have hfz0 := blk_frozen HX5.out 0; have hfz1 := blk_frozen HX5.out 1; simp only [List.getElem?_toArray, List.getElem?_cons_zero, List.getElem?_cons_succ] at hcz0 hcz1) | (go_at_call 18; refine (window_Window_High.calls _ _ _ _ rfl).mono ?_; rintro e w6 ⟨rfl, hb6⟩))
              go_roundw
              case rel => exact ⟨k + 1, hi, _, s :: T, _, by omega, by go_num, rfl, ⟨HI'.out⟩, ⟨HD.out.put HM4.out.isMap s⟩, ⟨(hb6.block g (blk_lt HX5.out)).trans HX5.out⟩, ⟨HM5.out.kept (grown_of_below hb6 none) (by simp)⟩, ⟨below_step HB5.out hb6⟩⟩
              case measure => simp [intOf]; omega
          · have hm := Aside0.mk (mark_old 1 (by decide) hi bi s HI.out.hh HI.out.hb HS.out (by omega) (by omega))
            go_wp2_with fail
            refine (mark_at 1 HB.out hz1 HX.out hm.out).mono ?_
            rintro e w3 ⟨rfl, hX, hB, hG⟩
            have HM3 := Aside0.mk (HM.out.kept hG (by simp))
            have HX3 := Aside0.mk hX
            have HB3 := Aside0.mk hB
            clear hX hB hG HM HX HB
            go_wp2_with fail
            refine (joustlaw09_num.calls _ _ _ rfl).mono ?_
            rintro e w4 ⟨rfl, hd⟩
            have HM4 := Aside0.mk (HM3.out.kept (grown_of_below hd.below none) (by simp))
            have HX4 := Aside0.mk ((hd.below.block g (blk_lt HX3.out)).trans HX3.out)
            have HB4 := Aside0.mk (below_step HB3.out hd.below)
            clear hd HM3 HX3 HB3
            have hcz0 := blk_cell HX4.out 0
            have hcz1 := blk_cell HX4.out 1
            have hfz0 := blk_frozen HX4.out 0
            have hfz1 := blk_frozen HX4.out 1
            simp only [List.getElem?_toArray, List.getElem?_cons_zero, List.getElem?_cons_succ] at hcz0 hcz1
            go_wp2_with (first | (at_lookup; (try (refine gate_guard (by rfl) ?_; dsimp only)); refine wpList_lookup_own_int _ rfl _ _ 40 rfl 24 3 .i64 law24 Try.underlying40 Try.underlying3 (zero3 _) (g + 1) k D rfl HM4.out _ _ rfl hkey.out ?_; intro c hat hwc; obtain rfl := lit_eq (hat.symm.trans hat0.out)) | (at_mapUpdate; refine wpList_mapUpdate_own _ rfl _ _ _ 40 rfl 24 3 law24 Try.underlying40 _ (g + 1) k D rfl HM4.out (Nat.lt_of_lt_of_le hlt hlen) _ _ _ rfl rfl hkey.out _ [] (plainElem_int Try.underlying3 (by decide)) ?_; intro w5 hown5 hgrow5; have HM5 := Aside0.mk hown5; have HX5 := Aside0.mk (blk_grown HX4.out hgrow5 (by simp)); have HB5 := Aside0.mk (HB4.out.grown hgrow5 HB4.out.size (fun j hj => by cases hj; omega)); clear hown5 hgrow5; clear hcz0 hcz1 hfz0 hfz1; have hcz0 := blk_cell HX5.out 0; have hcz1 := blk_cell HX5.out 1; have hfz0 := blk_frozen HX5.out 0; have hfz1 := blk_frozen HX5.out 1; simp only [List.getElem?_toArray, List.getElem?_cons_zero, List.getElem?_cons_succ] at hcz0 hcz1) | (go_at_call 18; refine (window_Window_High.calls _ _ _ _ rfl).mono ?_; rintro e w6 ⟨rfl, hb6⟩))
            go_roundw
            case rel => exact ⟨k + 1, hi, bi, T, D, by omega, by go_num, rfl, HI, HD, ⟨(hb6.block g (blk_lt HX4.out)).trans HX4.out⟩, ⟨(HM4.out.kept (grown_of_below hb6 none) (by simp)).mono (Nat.le_succ k)⟩, ⟨below_step HB4.out hb6⟩⟩
            case measure => simp [intOf]; omega
    · have hke : k = l.length := by omega
      subst hke
      go_wp2_with (first | (at_range; refine wpList_range_own _ rfl _ 40 rfl 24 3 law24 Try.underlying40 _ (g + 1) l.length D rfl HM.out ?_; intro w0 hrg0 hg0 hs0))
      go_frame
      have hgr : g < wr.heap.size := blk_lt HX.out
      have hwr := HB.out.size
      generalize wr.heap.size = r at *
      have HX0 := Aside0.mk (blk_grown HX.out hg0 (by simp))
      have HB0 := Aside0.mk (HB.out.grown hg0 HB.out.size (fun j hj => by cases hj))
      have HR0 := Aside0.mk hrg0
      clear hrg0 hg0 hs0 HX HB HM
      go_loopw [10] (fun _ wx => ∃ (left : Lit → Bool) (cnt : Nat), Aside0 (wx.ranges Try.prog 24 (plainElem Try.prog 3) (g + 1) r l.length D left cnt) ∧ Aside0 (wx.heap[g]? = some (.cells #[.int .u64 hi, .int .u64 bi] 26 (0, 0))) ∧ Aside0 (Below w.heap.size w wx))
        (fun _ wx => wx.rangeLeft (g + 1) r)
      case atStart => exact ⟨_, _, HR0, HX0, HB0⟩
      case round =>
        clear HX0 HB0 HR0
        obtain ⟨left, cnt, HR, HX, HB⟩ := hrel
        go_wp2_with (first
          | (at_next; refine wpList_next_ranges_ii _ rfl _ rfl 24 3 .u64 .i64 law24 Try.underlying24 Try.underlying3 (g + 1) r l.length _ _ _ rfl HR.out ?_ ?_))
        · intro _ hl0
          go_wp2_with fail
          go_ret
          exact ⟨rfl, HB.out⟩
        · intro x c w1 cnt1 hwx hwc hlx hat hrg1 hlt hg1 hs1 hen
          have hx := bounds_u64 hwx
          have hT := HD.out.got hx.1 hat
          obtain ⟨n, rfl⟩ := Int.eq_ofNat_of_zero_le hx.1
          rw [Int.toNat_natCast] at hT
          have HX1 := Aside0.mk (blk_grown HX.out hg1 (by simp; omega))
          have HB1 := Aside0.mk (HB.out.grown hg1 HB.out.size (fun j hj => by cases hj; exact hwr))
          have HR1 := Aside0.mk hrg1
          have hle := hrg1.left_eq
          have hcz0 := blk_cell HX1.out 0
          have hcz1 := blk_cell HX1.out 1
          have hfz0 := blk_frozen HX1.out 0
          have hfz1 := blk_frozen HX1.out 1
          simp only [List.getElem?_toArray, List.getElem?_cons_zero, List.getElem?_cons_succ] at hcz0 hcz1
          have hcnt := HR.out.left_eq
          clear hrg1 hg1 hs1 hat hlx
          rcases HI.out.last hT 1 (by decide) with hc | hc
          · have hc' := Aside0.mk hc
            clear hc
            go_wp2_with (first | (go_at_call 13; refine (window_Window_Check.calls 1 _ _ _ _ _ hc'.out).mono ?_; rintro e w3 ⟨rfl, hb3⟩) | (go_at_call 12; refine (joustlaw09_num.calls _ _ _ rfl).mono ?_; rintro e w4 ⟨rfl, hd⟩))
            have hb4 := below_step hb3 hd.below
            go_roundw
            case rel => exact ⟨_, _, ⟨HR1.out.kept (grown_of_below hb4 none) (by simp) (by simp)⟩, ⟨(hb4.block g (blk_lt HX1.out)).trans HX1.out⟩, ⟨below_step HB1.out hb4⟩⟩
            case measure => rw [(HR1.out.kept (grown_of_below hb4 none) (by simp) (by simp)).left_eq, hcnt]; exact hlt
          · have hc' := Aside0.mk hc
            clear hc
            go_wp2_with (first | (go_at_call 13; refine (window_Window_Check.calls 1 _ _ _ _ _ hc'.out).mono ?_; rintro e w3 ⟨rfl, hb3⟩) | (go_at_call 12; refine (joustlaw09_num.calls _ _ _ rfl).mono ?_; rintro e w4 ⟨rfl, hd⟩))
            have hb4 := below_step hb3 hd.below
            go_roundw
            case rel => exact ⟨_, _, ⟨HR1.out.kept (grown_of_below hb4 none) (by simp) (by simp)⟩, ⟨(hb4.block g (blk_lt HX1.out)).trans HX1.out⟩, ⟨below_step HB1.out hb4⟩⟩
            case measure => rw [(HR1.out.kept (grown_of_below hb4 none) (by simp) (by simp)).left_eq, hcnt]; exact hlt
theorem once.calls (A : Option Addr) (cap : Nat) (l : List Int) (w : World) (hr : Kd.C (Kd.int .u64) w A l.length l) (hl : ∀ x ∈ l, 0 ≤ x ∧ x ≤ 18446744073709551615) (hlen : l.length ≤ 9223372036854775807) :
    Calls Try.prog 4 #[.slice A l.length cap] w fun e w' => e = .returned (.bool true) ∧ Below w.heap.size w w' := once_any A cap l w hr hl hlen
end Go.Proofs.Ytidjnpfpbbffjaa.Once
