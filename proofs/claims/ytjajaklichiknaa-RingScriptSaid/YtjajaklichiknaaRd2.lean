/- Proved: the walks of the document's ring: Take and All. -/
import Derived.Test.YtjajaklichiknaaRd1
namespace Go.Proofs.Ytjajaklichiknaa.Rg
open Go.RowKit Go.Proofs.YtjajaklichiknaaW.PrintWords Go.Proofs.YtjajaklichiknaaW.PrintLast Go.Proofs.YtjajaklichiknaaW.PrintMore
set_option linter.unusedVariables false
set_option linter.unusedSimpArgs false

def lenV (v : Value) : Nat := match v with | .slice _ n _ => n | _ => 0
theorem RD.relay {w : World} {B gd s : Nat} {S : Nat → Prop} {q' : List Int} {v v' : Value} (hg : w.heap[gd]? = some (.cells #[v, .int .i64 (s : Int)] 73 (0, 0))) (hq : OQ w B v' q') (hb : v'.ownBlock = v.ownBlock) (hne : v.ownBlock ≠ some gd) (hB : B ≤ gd) (hsz : 0 < s ∧ s ≤ 4096 ∧ q'.length ≤ s) (hS : S = fun k => k = gd ∨ v.ownBlock = some k) :
    RD (w.setCell ⟨gd, 0, none⟩ v') B gd s S q' ∧ Only w (w.setCell ⟨gd, 0, none⟩ v') S := by
  subst hS
  have hO : Only w (w.setCell ⟨gd, 0, none⟩ v') (fun k => k = gd) := (Only.refl w _).set rfl
  exact ⟨⟨v', by simpa using blk_set hg 0 v', hq.only hO (fun k hk e => hne (by rw [← hb, hk, e])), by rw [hb]; exact hne, hB, hsz, by rw [hb]⟩, hO.mono (fun k h => .inl h)⟩
theorem below_only {B : Nat} {w w' : World} (h : Below B w w') : Only w w' (fun k => B ≤ k) := ⟨h.os, h.tape, h.output, h.size, fun k _ hs => h.block k (Nat.lt_of_not_le hs)⟩
theorem OQ.tail0 {w : World} {base n : Nat} {a : Addr} {x : Int} {q : List Int} (h : OQ w base (.slice (some a) n 1) (x :: q)) : q = [] ∧ OQ w base (.slice (some a) 0 0) q := by
  rcases h with ⟨h, _⟩ | ⟨g, o, cap, cur, hv, hb, hg2, hn2, hm2, hs2, _⟩
  · cases h
  · injection hv with h1 h2 h3
    injection h1 with h1
    subst h1 h3
    have hq0 : q = [] := List.eq_nil_of_length_eq_zero (by simp only [List.length_cons] at hn2; omega)
    subst hq0
    exact ⟨rfl, .inr ⟨g, o, 0, cur, rfl, hb, hg2, Nat.le_refl _, Nat.zero_le _, by omega, fun j hj => absurd hj (Nat.not_lt_zero j)⟩⟩
set_option maxHeartbeats 4000000 in
set_option maxRecDepth 100000 in
theorem rall_calls {w : World} {B gd s : Nat} {S : Nat → Prop} {q : List Int} (h : RD w B gd s S q) : Calls Try.prog 36 #[.pointer (some ⟨gd, 0, none⟩)] w fun r w' => ∃ v, r = .returned v ∧ w'.ownsRow w.heap.size 3 1 v q.length (encs ei q) ∧ Below w.heap.size w w' := by
  have hu3 := Try.underlying3
  have hu22 := Try.underlying22
  have hu73 := Try.underlying73
  have hu53 := Try.underlying53
  obtain ⟨v, hg, hq, hne, hB, hsz, rfl⟩ := h.ex
  obtain ⟨A, c, rfl, hnc, hR⟩ := hq.slice
  have cd0 := blk_cell hg 0
  have fd0 := blk_frozen hg 0
  simp only [List.getElem?_toArray, List.getElem?_cons_zero, List.getElem?_cons_succ] at cd0
  go_enter Try.func36, Try.ntmps36
  go_wp2_with (at_builtin; refine print_append_row_of (w0 := w) ei 0 w.heap.size rfl (.tmp 4) (.tmp 8) 22 3 (.int .i64 0) 8 rfl Try.underlying22 (by kernel_rfl) rfl (by decide) (fun _ => rfl) _ [] q A q.length c rfl rfl (own_nil _ _ _ _) hR (Below.refl _ _) (Nat.le_refl _) (by simp only [List.length_nil]; omega) ?_; intro v5 w5 hown5 hB5 hg5 hat5; obtain ⟨A5, c5, rfl⟩ := own_slice hown5; rw [List.nil_append] at hown5; clear hg5 hat5)
  go_ret
  exact ⟨_, rfl, hown5, hB5⟩
set_option maxHeartbeats 4000000 in
set_option maxRecDepth 100000 in
theorem rtake_calls {w : World} {B gd s : Nat} {S : Nat → Prop} {q : List Int} (k : Int) (h : RD w B gd s S q) : Calls Try.prog 34 #[.pointer (some ⟨gd, 0, none⟩), .int .i64 k] w fun r w' => ∃ v, r = .returned v ∧ w'.ownsRow w.heap.size 3 1 v (q.take k.toNat).length (encs ei (q.take k.toNat)) ∧ RD w' B gd s S (q.drop k.toNat) ∧ Only w w' S := by
  have hu3 := Try.underlying3
  have hu22 := Try.underlying22
  have hu73 := Try.underlying73
  have hu53 := Try.underlying53
  have hqs := h.size
  have HLT := Aside0.mk h.lt
  have HH := Aside0.mk h
  clear h
  go_enter Try.func34, Try.ntmps34
  go_wp2_with fail
  go_loopw [5] (fun out wr => ∃ (j : Nat) (Ao : Option Addr) (co : Nat), (j ≤ q.length ∧ (j : Int) ≤ max k 0) ∧ out = .slice Ao j co ∧ Aside0 (wr.ownsRow w.heap.size 3 1 (.slice Ao j co) j (encs ei (q.take j))) ∧ Aside0 (RD wr B gd s S (q.drop j)) ∧ Aside0 (Only w wr S)) (fun out _ => q.length - lenV out)
  case atStart => exact ⟨0, none, 0, ⟨Nat.zero_le _, by omega⟩, rfl, ⟨own_nil _ _ _ _⟩, HH, ⟨Only.refl _ _⟩⟩
  case round =>
    obtain ⟨j, Ao, co, ⟨hj, hjk⟩, rfl, HO, HR, HW⟩ := hrel
    have hj0 : (0 : Int) ≤ j := Int.natCast_nonneg j
    by_cases hlt : (j : Int) < k ∧ j < q.length
    · obtain ⟨hlt1, hlt2⟩ := hlt
      obtain ⟨v, hg, hq, hne, hB, hsz, hS⟩ := HR.out.ex
      have hjq : j < q.length := by omega
      obtain ⟨x, hx1, hx2⟩ : ∃ x, q.drop j = x :: q.drop (j + 1) ∧ q.take j ++ [x] = q.take (j + 1) := ⟨_, drop_cons q j hjq, take_snoc q j hjq⟩
      rw [hx1] at hq hsz
      obtain ⟨A, c, rfl, hnc, hRd⟩ := hq.slice
      have HQF := Aside0.mk hq
      obtain ⟨a, rfl, hn, hnc2, hq2⟩ := hq.tail
      obtain ⟨ad, ea, hcell⟩ := hRd.2.2 (by simp)
      injection ea with ea
      subst ea
      have hx : wr.cell? a = some (.int .i64 x) := by simpa [Addr.add] using hcell 0 (by simp)
      obtain ⟨m, hm⟩ : ∃ m, (x :: q.drop (j + 1)).length = m := ⟨_, rfl⟩
      have hml0 : m = (q.drop (j + 1)).length + 1 := by rw [← hm]; rfl
      have hml2 : m + j = q.length := by rw [hml0, List.length_drop]; omega
      rw [hm] at hnc hq2 hsz hg
      have HQM := HQF.out
      rw [hm] at HQM
      have HQM := Aside0.mk HQM
      have cd0 := blk_cell hg 0
      have fd0 := blk_frozen hg 0
      simp only [List.getElem?_toArray, List.getElem?_cons_zero, List.getElem?_cons_succ] at cd0
      have m2 : (1 : Int) ≤ (m : Int) := by omega
      have m3 : (0 : Int) < (m : Int) := by omega
      have m4 : (m : Int) ≤ (c : Int) := Int.ofNat_le.mpr hnc
      have hown := HO.out
      have HQ2 := Aside0.mk hq2
      have HSZ : Aside0 (0 < s ∧ s ≤ 4096 ∧ (q.drop (j + 1)).length ≤ s) := ⟨hsz.1, hsz.2.1, by omega⟩
      have HG := Aside0.mk hg
      have HS := Aside0.mk hS
      have HX2 := Aside0.mk hx2
      have hwl := HW.out.size
      have HJT : Aside0 ((q.take j).length = j) := ⟨by rw [List.length_take]; omega⟩
      have HJA : Aside0 ((q.take j ++ [x]).length = j + 1) := ⟨by rw [List.length_append, HJT.out]; rfl⟩
      have HGL : Aside0 (gd < w.heap.size ∧ a.block < w.heap.size) := ⟨(HLT.out gd (by rw [hS]; exact .inl rfl)).2, (HLT.out a.block (by rw [hS]; exact .inr rfl)).2⟩
      have hqb : (j + 1) * 8 ≤ 140737488355328 := by omega
      have HML := Aside0.mk hml2
      clear hml0 hml2 hq2 hsz hm hcell hq hRd hx1 hx2 hS HQF hn hnc2
      by_cases hc1 : c = 1
      · subst hc1
        go_wp2_with (at_builtin; refine print_append_of (w0 := wr) ei w.heap.size rfl (.tmp 18) (.tmp 25) 22 3 (.int .i64 0) 8 rfl Try.underlying22 (by kernel_rfl) rfl (by decide) _ (q.take j) x rfl rfl rfl (by rw [HJT.out]; exact hown) (Below.refl _ _) hwl (by rw [HJT.out]; exact hqb) ?_; intro v5 w5 hown5 hB5 hg5 hat5; obtain ⟨A5, c5, rfl⟩ := own_slice hown5; rw [HJA.out] at hown5 ⊢; rw [HX2.out] at hown5; have HO5 := Aside0.mk hown5; have hgd5 := (hB5.block _ HGL.out.1).trans HG.out; have HGD := Aside0.mk hgd5; have HB5 := Aside0.mk hB5; clear hg5 hat5 hB5 cd0 fd0 hown5; have cd0 := blk_cell hgd5 0; have fd0 := blk_frozen hgd5 0; simp only [List.getElem?_toArray, List.getElem?_cons_zero, List.getElem?_cons_succ] at cd0)
        obtain ⟨hq0, hq1⟩ := HQM.out.tail0
        have hrl := RD.relay (v' := .slice (some a) 0 0) HGD.out (hq1.only (below_only HB5.out) (fun k hk e => by cases hk; exact absurd HGL.out.2 (Nat.not_lt.mpr e))) rfl hne hB HSZ.out HS.out
        have hOg : Only w5 (w5.setCell ⟨gd, 0, none⟩ (.slice (some a) 0 0)) (fun k => k = gd) := (Only.refl w5 _).set rfl
        have HO6 := Aside0.mk (hOg.own HO5.out (fun k hk e => absurd (own_base HO5.out k hk) (Nat.not_le.mpr (e ▸ HGL.out.1))))
        go_roundw
        case rel => exact ⟨j + 1, A5, c5, ⟨hjq, by omega⟩, rfl, HO6, ⟨hrl.1⟩, ⟨(HW.out.base HB5.out).then hrl.2⟩⟩
        case measure => simp [lenV]; omega
      · go_wp2_with (at_builtin; refine print_append_of (w0 := wr) ei w.heap.size rfl (.tmp 18) (.tmp 25) 22 3 (.int .i64 0) 8 rfl Try.underlying22 (by kernel_rfl) rfl (by decide) _ (q.take j) x rfl rfl rfl (by rw [HJT.out]; exact hown) (Below.refl _ _) hwl (by rw [HJT.out]; exact hqb) ?_; intro v5 w5 hown5 hB5 hg5 hat5; obtain ⟨A5, c5, rfl⟩ := own_slice hown5; rw [HJA.out] at hown5 ⊢; rw [HX2.out] at hown5; have HO5 := Aside0.mk hown5; have hgd5 := (hB5.block _ HGL.out.1).trans HG.out; have HGD := Aside0.mk hgd5; have HB5 := Aside0.mk hB5; clear hg5 hat5 hB5 cd0 fd0 hown5; have cd0 := blk_cell hgd5 0; have fd0 := blk_frozen hgd5 0; simp only [List.getElem?_toArray, List.getElem?_cons_zero, List.getElem?_cons_succ] at cd0)
        have hrl := RD.relay (v' := .slice (some (a.add 1)) (m - 1) (c - 1)) HGD.out (HQ2.out.only (below_only HB5.out) (fun k hk e => by cases hk; exact absurd HGL.out.2 (Nat.not_lt.mpr e))) rfl hne hB HSZ.out HS.out
        have hOg : Only w5 (w5.setCell ⟨gd, 0, none⟩ (.slice (some (a.add 1)) (m - 1) (c - 1))) (fun k => k = gd) := (Only.refl w5 _).set rfl
        have HO6 := Aside0.mk (hOg.own HO5.out (fun k hk e => absurd (own_base HO5.out k hk) (Nat.not_le.mpr (e ▸ HGL.out.1))))
        go_roundw
        case rel => exact ⟨j + 1, A5, c5, ⟨hjq, by omega⟩, rfl, HO6, ⟨hrl.1⟩, ⟨(HW.out.base HB5.out).then hrl.2⟩⟩
        case measure => simp [lenV]; omega
    · skip
      by_cases h1 : (j : Int) < k
      · have hjl : j = q.length := by omega
        obtain ⟨v, hg, hq, hne, hB, hsz, hS⟩ := HR.out.ex
        obtain ⟨A, c, rfl, hnc, hRd⟩ := hq.slice
        have e0 : (q.drop j).length = 0 := by rw [List.length_drop]; omega
        rw [e0] at hg
        have cd0 := blk_cell hg 0
        have fd0 := blk_frozen hg 0
        simp only [List.getElem?_toArray, List.getElem?_cons_zero, List.getElem?_cons_succ] at cd0
        have HE : Aside0 (q.take k.toNat = q.take j ∧ q.drop k.toNat = q.drop j) := ⟨by rw [List.take_of_length_le (by omega), List.take_of_length_le (by omega)], by rw [List.drop_eq_nil_of_le (by omega), List.drop_eq_nil_of_le (by omega)]⟩
        have HJT : Aside0 ((q.take j).length = j) := ⟨by rw [List.length_take]; omega⟩
        clear hg hq hnc hRd hS e0 hjl
        go_wp2_with fail
        go_ret
        exact ⟨_, rfl, by rw [HE.out.1, HJT.out]; exact HO.out, by rw [HE.out.2]; exact HR.out, HW.out⟩
      · have hjk2 : k.toNat = j := by omega
        have HE := Aside0.mk hjk2
        have HJM : Aside0 (min j q.length = j) := ⟨by omega⟩
        clear hjk2
        go_wp2_with fail
        go_ret
        exact ⟨_, rfl, by rw [HE.out, HJM.out]; exact HO.out, by rw [HE.out]; exact HR.out, HW.out⟩
end Go.Proofs.Ytjajaklichiknaa.Rg
