/- Proved: the walk of ranged: a range whose rounds pop and push tells what there was. -/
import Derived.Test.YtjajaklichiknaaRx0
namespace Go.Proofs.Ytjajaklichiknaa.Rg
open Go.RowKit Go.Proofs.YtjajaklichiknaaW.PrintWords Go.Proofs.YtjajaklichiknaaW.PrintLast Go.Proofs.YtjajaklichiknaaW.PrintMore
set_option linter.unusedVariables false
set_option linter.unusedSimpArgs false

open Go.Shelf
attribute [local go_sem] Oper.semAt_some
theorem J3.fin {w W0 W : World} {bn bs D B g gt gd n : Nat} {S : Nat → Prop} {m : Int} {qq : List Int} (h : J3 W0 bn B g gt gd n S m qq W) (hb : Below w.heap.size w W0) (hbn : w.heap.size ≤ bn) (hg : g < w.heap.size) (hgt : gt < w.heap.size) (hS : ∀ k, S k → k < w.heap.size) (hbs : w.heap.size ≤ bs ∧ bs < W0.heap.size) (hD : W0.heap.size ≤ D) (hkD : W.heap[D]? = some (.deferred (some []))) :
    ∃ qq S', RQ ((W.setCell ⟨bs, 0, none⟩ (.bool true)).putObj D (.deferred none)) g gt n qq ∧ RD ((W.setCell ⟨bs, 0, none⟩ (.bool true)).putObj D (.deferred none)) B gd n S' qq ∧ Tr w ((W.setCell ⟨bs, 0, none⟩ (.bool true)).putObj D (.deferred none)) (fun k => k = g ∨ k = gt) S S' := by
  have hO : Only W ((W.setCell ⟨bs, 0, none⟩ (.bool true)).putObj D (.deferred none)) (fun k => k = bs ∨ k = D) :=
    Only.then ((Only.refl W (fun k => k = bs ∨ k = D)).set (p := ⟨bs, 0, none⟩) (.inl rfl)) ⟨rfl, rfl, rfl, by simp [World.putObj], fun k _ hn => World.putObj_heap_other (fun e => hn (.inr e))⟩
  obtain ⟨S', hrd, hS'⟩ := h.rd
  have hbz := hb.size
  have hoz := h.only.size
  refine ⟨qq, S', h.rq.only hO (fun e => by omega) (fun e => by omega), hrd.only hO (fun k hk e => ?_), ⟨⟨hO.os.trans (h.only.os.trans hb.os), hO.tape.trans (h.only.tape.trans hb.tape), hO.output.trans (h.only.output.trans hb.output), Nat.le_trans hbz (Nat.le_trans hoz hO.size), fun k hk hn => ?_⟩, fun k hk => (hS' k hk).imp id (fun e => Nat.le_trans hbz e)⟩⟩
  · rcases e with rfl | rfl
    · rcases hS' k hk with e | e
      · have := hS k e
        omega
      · omega
    · obtain ⟨o, ho, hc⟩ := hrd.isCells hk
      rw [hkD] at ho
      injection ho with ho
      rw [← ho] at hc
      cases hc
  · refine (hO.block k (by omega) (fun e => by omega)).trans ((h.only.block k (by omega) (fun e => ?_)).trans (hb.block k hk))
    rcases e with e | e | e | e
    · omega
    · exact hn (.inl (.inl e))
    · exact hn (.inl (.inr e))
    · exact hn (.inr e)
theorem ap5 {z br bd bt bs bw bn W : Nat} (h1 : z ≤ br) (h2 : z ≤ bd) (h3 : z ≤ bt) (h4 : z ≤ bs) (h5 : z ≤ bw) (k1 : br < bw) (k2 : bd < bw) (k3 : bt < bw) (k4 : bs < bw) (hn : bw < bn) (hW : bn < W) : ∀ k, (k = br ∨ k = bd ∨ k = bt ∨ k = bs ∨ k = bw) → k ≠ bn ∧ z ≤ k ∧ k < W := by
  rintro k (rfl | rfl | rfl | rfl | rfl) <;> exact ⟨by omega, by omega, by omega⟩
theorem ne3 {j bw bn : Nat} (h : j < bw) (k : bw < bn) : j ≠ bn := by omega
theorem ne4 {g j z zb : Nat} (h : g < z) (k : z ≤ zb) (l : zb ≤ j) : j ≠ g := by omega
theorem own_lt {w : World} {base n size : Nat} {e : TypeId} {v : Value} {xs : List Value} (h : w.ownsRow base e size v n xs) : ∀ k, v.ownBlock = some k → k < w.heap.size := by
  intro k hk
  rcases h.2 with ⟨rfl, _⟩ | ⟨g, cap, cur, rfl, hb, hg, _⟩
  · cases hk
  · cases hk
    exact blk_lt hg
set_option maxHeartbeats 16000000 in
set_option maxRecDepth 100000 in
theorem ranged_calls {w : World} {B g gt gd n : Nat} {S : Nat → Prop} {q : List Int} (stop : Int) (hQ : RQ w g gt n q) (hD : RD w B gd n S q) (hgS : ¬ S g ∧ ¬ S gt) : Calls Try.prog 35 #[.pointer (some ⟨g, 0, none⟩), .pointer (some ⟨gd, 0, none⟩), .int .i64 stop] w fun r w' => r = .returned (.bool true) ∧ ∃ qq S', RQ w' g gt n qq ∧ RD w' B gd n S' qq ∧ Tr w w' (fun k => k = g ∨ k = gt) S S' := by
  have hu3 := Try.underlying3
  have hu22 := Try.underlying22
  have hu24 := Try.underlying24
  have hu53 := Try.underlying53
  have hu65 := Try.underlying65
  have hu73 := Try.underlying73
  have hu4 := Try.underlying4
  have hb1 := al_bel w (.cells #[.pointer (some ⟨g, 0, none⟩)] 24)
  have hb2 := al_bel (w.alloc (.cells #[.pointer (some ⟨g, 0, none⟩)] 24)) (.cells #[.pointer (some ⟨gd, 0, none⟩)] 53)
  have hb3 := al_bel ((w.alloc (.cells #[.pointer (some ⟨g, 0, none⟩)] 24)).alloc (.cells #[.pointer (some ⟨gd, 0, none⟩)] 53)) (.cells #[.int .i64 stop] 3)
  have hb4 := al_bel (((w.alloc (.cells #[.pointer (some ⟨g, 0, none⟩)] 24)).alloc (.cells #[.pointer (some ⟨gd, 0, none⟩)] 53)).alloc (.cells #[.int .i64 stop] 3)) (.cells #[.bool false] 4)
  have hc1 := al_at w (.cells #[.pointer (some ⟨g, 0, none⟩)] 24)
  have hc2 := al_at (w.alloc (.cells #[.pointer (some ⟨g, 0, none⟩)] 24)) (.cells #[.pointer (some ⟨gd, 0, none⟩)] 53)
  have hc3 := al_at ((w.alloc (.cells #[.pointer (some ⟨g, 0, none⟩)] 24)).alloc (.cells #[.pointer (some ⟨gd, 0, none⟩)] 53)) (.cells #[.int .i64 stop] 3)
  have hc4 := al_at (((w.alloc (.cells #[.pointer (some ⟨g, 0, none⟩)] 24)).alloc (.cells #[.pointer (some ⟨gd, 0, none⟩)] 53)).alloc (.cells #[.int .i64 stop] 3)) (.cells #[.bool false] 4)
  obtain ⟨wb, hwb⟩ : ∃ wb, ((((w.alloc (.cells #[.pointer (some ⟨g, 0, none⟩)] 24)).alloc (.cells #[.pointer (some ⟨gd, 0, none⟩)] 53)).alloc (.cells #[.int .i64 stop] 3)).alloc (.cells #[.bool false] 4)) = wb := ⟨_, rfl⟩
  have hc1b := ((below_step hb2 (below_step hb3 hb4)).block _ (blk_lt hc1)).trans hc1
  have hc2b := ((below_step hb3 hb4).block _ (blk_lt hc2)).trans hc2
  have hc3b := (hb4.block _ (blk_lt hc3)).trans hc3
  have hb0 : Below w.heap.size w ((((w.alloc (.cells #[.pointer (some ⟨g, 0, none⟩)] 24)).alloc (.cells #[.pointer (some ⟨gd, 0, none⟩)] 53)).alloc (.cells #[.int .i64 stop] 3)).alloc (.cells #[.bool false] 4)) := below_step hb1 (below_step hb2 (below_step hb3 hb4))
  simp only [al_size] at hc2b hc3b hc4
  rw [hwb] at hc1b hc2b hc3b hc4 hb0
  have HB0 := Aside0.mk hb0
  have HC1 := Aside0.mk hc1b
  have HC2 := Aside0.mk hc2b
  have HC3 := Aside0.mk hc3b
  have HC4 := Aside0.mk hc4
  have HQ1 := Aside0.mk (hQ.below hb0)
  have HD1 := Aside0.mk (hD.below hb0)
  have HL : Aside0 (g < w.heap.size ∧ gt < w.heap.size ∧ ∀ k, S k → k < w.heap.size) := ⟨hQ.lt.1, hQ.lt.2, fun k hk => (hD.lt k hk).2⟩
  have HGS := Aside0.mk hgS
  have HWB : Aside0 (w.heap.size ≤ wb.heap.size) := ⟨hb0.size⟩
  have HQN : Aside0 (q.length ≤ n) := ⟨hQ.len⟩
  have hql : q.length ≤ 4096 := Nat.le_trans hQ.len hQ.size.2
  have cd0 := blk_cell HC2.out 0
  have fd0 := blk_frozen HC2.out 0
  simp only [List.getElem?_toArray, List.getElem?_cons_zero, List.getElem?_cons_succ] at cd0
  clear hb1 hb2 hb3 hb4 hc1 hc2 hc3 hc4 hb0 hc1b hc2b hc3b hQ hD hgS
  refine (callsIn_wide (n := 20)).1 ?_
  refine callsIn_of_wp_marks Try.func35 rfl trivial (wpIn_mono ?_ (retOnly_sub _)) rfl
  simp only [Try.ntmps35, List.size_toArray, List.length_cons, List.length_nil, Nat.reduceAdd, Nat.reduceSub, Array.replicate_succ, Array.replicate_zero, List.push_toArray, List.append_toArray, List.nil_append, List.cons_append]
  refine wpIn_wide.2 ?_
  go_upto_region 1 with fail
  try rw [hwb]
  clear hwb
  obtain ⟨bs, e1⟩ : ∃ b, w.heap.size + 1 + 1 + 1 = b := ⟨_, rfl⟩
  obtain ⟨bt, e2⟩ : ∃ b, w.heap.size + 1 + 1 = b := ⟨_, rfl⟩
  obtain ⟨bd, e3⟩ : ∃ b, w.heap.size + 1 = b := ⟨_, rfl⟩
  obtain ⟨br, e4⟩ : ∃ b, w.heap.size = b := ⟨_, rfl⟩
  have HE : Aside0 (w.heap.size ≤ br ∧ w.heap.size ≤ bd ∧ w.heap.size ≤ bt ∧ w.heap.size ≤ bs) := ⟨by omega, by omega, by omega, by omega⟩
  rw [e1] at HC4 ⊢
  rw [e2] at HC3 ⊢
  rw [e3] at HC2 cd0 fd0 ⊢
  rw [e4] at HC1 ⊢
  clear e1 e2 e3 e4
  go_upto_region 3 with (go_at_call 36; refine (rall_calls HD1.out).mono ?_; rintro r w2 ⟨v, rfl, hown2, hb2⟩; obtain ⟨A2, c2, rfl⟩ := own_slice hown2; have HOWN2 := Aside0.mk hown2; have HB2 := Aside0.mk hb2; clear hown2 hb2)
  clear cd0 fd0
  have hb5 := al_bel w2 (.cells #[.slice A2 q.length c2] 22)
  have hc5 := al_at w2 (.cells #[.slice A2 q.length c2] 22)
  have hb6 := al_bel (w2.alloc (.cells #[.slice A2 q.length c2] 22)) (.cells #[.int .i64 0] 3)
  have hc6 := al_at (w2.alloc (.cells #[.slice A2 q.length c2] 22)) (.cells #[.int .i64 0] 3)
  obtain ⟨w4, hw4⟩ : ∃ w4, (w2.alloc (.cells #[.slice A2 q.length c2] 22)).alloc (.cells #[.int .i64 0] 3) = w4 := ⟨_, rfl⟩
  have hc5b := (hb6.block _ (blk_lt hc5)).trans hc5
  have hb56 := below_step hb5 hb6
  rw [al_size] at hc6
  rw [hw4] at hc5b hc6 hb56
  try rw [hw4]
  have HB4 := Aside0.mk (below_step HB2.out hb56)
  have HBX4 : Aside0 (Bx w4 br bd bt bs w2.heap.size g gd stop (.slice A2 q.length c2)) := ⟨⟨(HB4.out.block _ (blk_lt HC1.out)).trans HC1.out, (HB4.out.block _ (blk_lt HC2.out)).trans HC2.out, (HB4.out.block _ (blk_lt HC3.out)).trans HC3.out, (HB4.out.block _ (blk_lt HC4.out)).trans HC4.out, hc5b⟩⟩
  have HOW4 : Aside0 (w4.ownsRow wb.heap.size 3 1 (.slice A2 q.length c2) q.length (encs ei q)) := ⟨(Only.of_below hb56 (fun _ => False)).own HOWN2.out (fun _ _ q => q)⟩
  have HQ4 := Aside0.mk (HQ1.out.below HB4.out)
  have HD4 := Aside0.mk (HD1.out.below HB4.out)
  have HW4 := Aside0.mk (below_step HB0.out HB4.out)
  have HE4 : Aside0 (w.heap.size ≤ w2.heap.size ∧ br < w2.heap.size ∧ bd < w2.heap.size ∧ bt < w2.heap.size ∧ bs < w2.heap.size ∧ ∀ k, (Value.slice A2 q.length c2).ownBlock = some k → wb.heap.size ≤ k ∧ k < w2.heap.size) := ⟨Nat.le_trans HB0.out.size HB2.out.size, Nat.lt_of_lt_of_le (blk_lt HC1.out) HB2.out.size, Nat.lt_of_lt_of_le (blk_lt HC2.out) HB2.out.size, Nat.lt_of_lt_of_le (blk_lt HC3.out) HB2.out.size, Nat.lt_of_lt_of_le (blk_lt HC4.out) HB2.out.size, fun k hk => ⟨own_base HOWN2.out k hk, own_lt HOWN2.out k hk⟩⟩
  obtain ⟨bn, e5⟩ : ∃ b, w2.heap.size + 1 = b := ⟨_, rfl⟩
  obtain ⟨bw, e6⟩ : ∃ b, w2.heap.size = b := ⟨_, rfl⟩
  have HNW : Aside0 (bw < bn) := ⟨by omega⟩
  rw [e5] at hc6 ⊢
  rw [e6] at HBX4 HE4 ⊢
  have HCN4 := Aside0.mk hc6
  have cr0 := blk_cell HBX4.out.cr 0
  have fr0 := blk_frozen HBX4.out.cr 0
  simp only [List.getElem?_toArray, List.getElem?_cons_zero, List.getElem?_cons_succ] at cr0
  clear hb5 hc5 hb6 hc6 hw4 hc5b hb56 e5 e6 HQ1 HD1 HC1 HC2 HC3 HC4 HB2 HOWN2 HB4 HB0
  have hb7 := al_bel w4 (.cells #[.pointer (some ⟨g, 0, none⟩)] 24)
  have hc7 := al_at w4 (.cells #[.pointer (some ⟨g, 0, none⟩)] 24)
  obtain ⟨W0, hW0⟩ : ∃ W0, w4.alloc (.cells #[.pointer (some ⟨g, 0, none⟩)] 24) = W0 := ⟨_, rfl⟩
  go_wp2_with (go_at_call 22; refine (all_calls _ _).mono ?_; rintro r w5 ⟨rfl, rfl⟩)
  clear cr0 fr0
  rw [hW0] at hb7 hc7
  try rw [hW0]
  have HQ0 := Aside0.mk (HQ4.out.below hb7)
  have HD0 := Aside0.mk (HD4.out.below hb7)
  have HBX0 := Aside0.mk (HBX4.out.below hb7)
  have HOW0 : Aside0 (W0.ownsRow wb.heap.size 3 1 (.slice A2 q.length c2) q.length (encs ei q)) := ⟨(Only.of_below hb7 (fun _ => False)).own HOW4.out (fun _ _ q => q)⟩
  have HCN0 := Aside0.mk ((hb7.block _ (blk_lt HCN4.out)).trans HCN4.out)
  have HW0 := Aside0.mk (below_step HW4.out hb7)
  have HBB := Aside0.mk hc7
  have HLT : Aside0 (bn < W0.heap.size ∧ g < W0.heap.size ∧ gt < W0.heap.size ∧ gd < W0.heap.size) := ⟨blk_lt HCN0.out, HQ0.out.lt.1, HQ0.out.lt.2, (HD0.out.lt gd (HD0.out.own.2 (.inl rfl))).2⟩
  have HAP : Aside0 (∀ k, (k = br ∨ k = bd ∨ k = bt ∨ k = bs ∨ k = bw) → k ≠ bn ∧ w.heap.size ≤ k ∧ k < W0.heap.size) := ⟨ap5 HE.out.1 HE.out.2.1 HE.out.2.2.1 HE.out.2.2.2 HE4.out.1 HE4.out.2.1 HE4.out.2.2.1 HE4.out.2.2.2.1 HE4.out.2.2.2.2.1 HNW.out (blk_lt HCN0.out)⟩
  have HBN : Aside0 (w.heap.size ≤ bn) := ⟨Nat.le_trans HE4.out.1 (Nat.le_of_lt HNW.out)⟩
  have HAPK : Aside0 (∀ k, (k = br ∨ k = bd ∨ k = bt ∨ k = bs ∨ k = bw) → ¬ (k = bn ∨ k = g ∨ k = gt ∨ S k)) := ⟨fun k h e => by
    obtain ⟨h1, h2, h3⟩ := HAP.out k h
    rcases e with e | e | e | e
    · exact h1 e
    · exact Nat.lt_irrefl _ (Nat.lt_of_lt_of_le (e ▸ HL.out.1) (e ▸ h2))
    · exact Nat.lt_irrefl _ (Nat.lt_of_lt_of_le (e ▸ HL.out.2.1) (e ▸ h2))
    · exact Nat.lt_irrefl _ (Nat.lt_of_lt_of_le (HL.out.2.2 k e) h2)⟩
  clear hb7 hc7 hW0 HQ4 HD4 HBX4 HOW4 HCN4 HW4
  refine rangeK 19 20 9 10 18 rfl HBB.out HQ0.out (KpD W0.heap.size gd) (KpD.refl _ _) KpD.t (KpD.b HLT.out.2.2.2) (KpD.o HD0.out) (I3 W0 bn B g gt gd n S q) (X3 W0 bn B g gt gd n S q stop) I3.own (fun c => X3.own c) ⟨⟨by rw [List.length_nil, List.take_zero], Nat.zero_le _⟩, ⟨Only.refl _ _, HCN0.out, by rw [List.length_nil, rot_zero]; exact HQ0.out, S, by rw [List.length_nil, rot_zero]; exact HD0.out, fun k h => .inl h⟩⟩ ?assign ?body ?done ?stop
  case assign =>
    intro l x W K hK
    simp only [asg, List.setIfInBounds_toArray, List.set_cons_zero, List.set_cons_succ] at hK
    gi_wp2_with fail
    exact hK
  case body =>
    rintro l pre ⟨i, y⟩ W hl hr ⟨⟨hpre, hp5⟩, hJ⟩ hlt
    obtain ⟨k, hk⟩ : ∃ k, pre.length = k := ⟨_, rfl⟩
    rw [hk] at hJ hlt hp5
    have hk0 : (0 : Int) ≤ k := Int.natCast_nonneg k
    have HJ := Aside0.mk hJ
    have HPRE := Aside0.mk hpre
    have HK := Aside0.mk hk
    obtain ⟨Sk, hrd, hSk⟩ := hJ.rd
    have HRD := Aside0.mk hrd
    have HSK := Aside0.mk hSk
    have HAPS : Aside0 (∀ k, (k = br ∨ k = bd ∨ k = bt ∨ k = bs ∨ k = bw) → ¬ ((k = g ∨ k = gt) ∨ Sk k)) := ⟨fun k h e => by
      obtain ⟨h1, h2, h3⟩ := HAP.out k h
      rcases e with (e | e) | e
      · exact HAPK.out k h (.inr (.inl e))
      · exact HAPK.out k h (.inr (.inr (.inl e)))
      · rcases HSK.out k e with h4 | h4
        · exact HAPK.out k h (.inr (.inr (.inr h4)))
        · exact Nat.lt_irrefl _ (Nat.lt_of_lt_of_le h3 h4)⟩
    have HBG : Aside0 (bn ≠ g ∧ bn ≠ gt ∧ ¬ Sk bn) := ⟨fun e => Nat.lt_irrefl _ (Nat.lt_of_lt_of_le (e ▸ HL.out.1) HBN.out), fun e => Nat.lt_irrefl _ (Nat.lt_of_lt_of_le (e ▸ HL.out.2.1) HBN.out), fun e => (HSK.out bn e).elim (fun h4 => Nat.lt_irrefl _ (Nat.lt_of_lt_of_le (HL.out.2.2 bn h4) HBN.out)) (fun h4 => Nat.lt_irrefl _ (Nat.lt_of_lt_of_le HLT.out.1 h4))⟩
    have HGK : Aside0 (¬ Sk g ∧ ¬ Sk gt) := ⟨fun e => (HSK.out g e).elim HGS.out.1 (fun h4 => Nat.lt_irrefl _ (Nat.lt_of_lt_of_le HLT.out.2.1 h4)), fun e => (HSK.out gt e).elim HGS.out.2 (fun h4 => Nat.lt_irrefl _ (Nat.lt_of_lt_of_le HLT.out.2.2.1 h4))⟩
    have HBX := Aside0.mk (HBX0.out.only hJ.only HAPK.out)
    have how : W.ownsRow wb.heap.size 3 1 (.slice A2 q.length c2) q.length (encs ei q) := hJ.only.own HOW0.out (fun j hj e => by
      obtain ⟨h1, h2⟩ := HE4.out.2.2.2.2.2 j hj
      rcases e with e | e | e | e
      · exact ne3 h2 HNW.out e
      · exact ne4 HL.out.1 HWB.out h1 e
      · exact ne4 HL.out.2.1 HWB.out h1 e
      · exact ne4 (HL.out.2.2 j e) HWB.out h1 rfl)
    obtain ⟨ad, eA, hcell⟩ := (own_reads_of' (d := (0 : Int)) how).2.2 (Nat.lt_of_le_of_lt (Nat.zero_le _) hlt)
    obtain rfl : A2 = some ad := eA
    have hx0 := hcell k hlt
    obtain ⟨r, hr1, hr2, hr3⟩ := rot_step q k hlt
    obtain ⟨z, hz⟩ : ∃ z, q.getD k 0 = z := ⟨_, rfl⟩
    rw [hz] at hx0 hr1 hr2
    have HR2 := Aside0.mk hr2
    have HR3 := Aside0.mk hr3
    have c50 := blk_cell hJ.cn 0
    have f50 := blk_frozen hJ.cn 0
    have cs0 := blk_cell HBX.out.cs 0
    have fs0 := blk_frozen HBX.out.cs 0
    have cw0 := blk_cell HBX.out.cw 0
    have fw0 := blk_frozen HBX.out.cw 0
    simp only [List.getElem?_toArray, List.getElem?_cons_zero, List.getElem?_cons_succ] at c50 cs0 cw0
    have hkI : (k : Int) < (q.length : Int) := Int.ofNat_lt.mpr hlt
    have hkp : decide ((q.length : Int) ≤ (k : Int)) = false := decide_eq_false (Int.not_le.mpr hkI)
    have hkq : ¬ (q.length : Int) ≤ (k : Int) := Int.not_le.mpr hkI
    have hkn : ¬ q.length ≤ k := Nat.not_le.mpr hlt
    have hkb : (k : Int) ≤ 4096 := by omega
    have HKS : Aside0 (∀ W' : World, Only W W' (fun q => q = bs) → KeepsFrom W0.heap.size W W') := ⟨fun W' h => keeps_only h (fun q e => e ▸ (HAP.out bs (.inr (.inr (.inr (.inl rfl))))).2.2)⟩
    have HLTK : Aside0 (k < q.length) := ⟨hlt⟩
    have HQK : Aside0 (RQ (W.setCell ⟨bn, 0, none⟩ (.int .i64 ((k : Int) + 1))) g gt n (z :: r)) := ⟨hr1 ▸ hJ.rq.only ((Only.refl W (fun q => q = bn)).set (p := ⟨bn, 0, none⟩) rfl) (fun e => HBG.out.1 e.symm) (fun e => HBG.out.2.1 e.symm)⟩
    have HDK : Aside0 (RD (W.setCell ⟨bn, 0, none⟩ (.int .i64 ((k : Int) + 1))) B gd n Sk (z :: r)) := ⟨hr1 ▸ hrd.only ((Only.refl W (fun q => q = bn)).set (p := ⟨bn, 0, none⟩) rfl) (fun j hj e => HBG.out.2.2 (e ▸ hj))⟩
    have HBXK : Aside0 (Bx (W.setCell ⟨bn, 0, none⟩ (.int .i64 ((k : Int) + 1))) br bd bt bs bw g gd stop (.slice (some ad) q.length c2)) := ⟨HBX.out.only ((Only.refl W (fun q => q = bn)).set (p := ⟨bn, 0, none⟩) rfl) (fun j hj e => (HAP.out j hj).1 e)⟩
    have HCNK : Aside0 ((W.setCell ⟨bn, 0, none⟩ (.int .i64 ((k : Int) + 1))).heap[bn]? = some (.cells #[.int .i64 ((k : Int) + 1)] 3 (0, 0))) := ⟨by simpa using blk_set hJ.cn 0 (.int .i64 ((k : Int) + 1))⟩
    have HOK : Aside0 (Only W (W.setCell ⟨bn, 0, none⟩ (.int .i64 ((k : Int) + 1))) (fun q => q = bn)) := ⟨(Only.refl W (fun q => q = bn)).set (p := ⟨bn, 0, none⟩) rfl⟩
    clear hpre hp5 hJ hk hrd hSk how hcell hr hr1 hr2 hr3
    simp only [asg, List.setIfInBounds_toArray, List.set_cons_zero, List.set_cons_succ]
    by_cases h1 : i = (k : Int)
    · subst h1
      by_cases h2 : y = z
      · obtain rfl : z = y := h2.symm
        clear HKS
        have cr1 := blk_cell HBXK.out.cr 0
        have fr1 := blk_frozen HBXK.out.cr 0
        simp only [List.getElem?_toArray, List.getElem?_cons_zero, List.getElem?_cons_succ] at cr1
        gi_wp2_with fail
        refine ⟨trivial, ?_⟩
        gi_at_call 13
        refine (calls_inR (popq_some _ HQK.out z r rfl)).mono ?_
        rintro e w2 ⟨rfl, hq2, ho2⟩
        clear cr1 fr1 c50 f50 cs0 fs0 cw0 fw0
        have HQ2 := Aside0.mk hq2
        have HT2 : Aside0 (Tr (W.setCell ⟨bn, 0, none⟩ (.int .i64 ((k : Int) + 1))) w2 (fun k => k = g ∨ k = gt) Sk Sk) := ⟨(Tr.refl _ _ _).ring ho2⟩
        have HD2 := Aside0.mk (HDK.out.only ho2 (fun j hj e => e.elim (fun e => HGK.out.1 (e ▸ hj)) (fun e => HGK.out.2 (e ▸ hj))))
        have HBX2 := Aside0.mk (HBXK.out.only HT2.out.only HAPS.out)
        have cd1 := blk_cell HBX2.out.cd 0
        have fd1 := blk_frozen HBX2.out.cd 0
        simp only [List.getElem?_toArray, List.getElem?_cons_zero, List.getElem?_cons_succ] at cd1
        clear hq2 ho2
        gi_wp2_with fail
        refine ⟨trivial, ?_⟩
        gi_at_call 32
        refine (calls_inR (rpop_some HD2.out)).mono ?_
        rintro e w3 ⟨rfl, hd3, ho3⟩
        clear cd1 fd1
        have HQ3 := Aside0.mk (HQ2.out.only ho3 HGK.out.1 HGK.out.2)
        have HT3 := Aside0.mk (HT2.out.doc ho3 (fun k h => .inl h))
        have HD3 := Aside0.mk hd3
        have HBX3 := Aside0.mk (HBXK.out.only HT3.out.only HAPS.out)
        have cr3 := blk_cell HBX3.out.cr 0
        have fr3 := blk_frozen HBX3.out.cr 0
        have cd3 := blk_cell HBX3.out.cd 0
        have fd3 := blk_frozen HBX3.out.cd 0
        simp only [List.getElem?_toArray, List.getElem?_cons_zero, List.getElem?_cons_succ] at cr3 cd3
        clear hd3 ho3
        gi_wp2_with fail
        refine startR_ (m := 21) (S := fun w' => w'.cell? ⟨br, 0, none⟩ = some (.pointer (some ⟨g, 0, none⟩)) ∧ w'.cell? ⟨bd, 0, none⟩ = some (.pointer (some ⟨gd, 0, none⟩))) (ds := []) (by kernel_rfl) (by rintro ⟨_, _, h⟩; exact h) #[false, false, false, false, false, false, false, false, false, false, false, false, false, false, false, false, false, false, false, false, false] (by kernel_rfl) rfl rfl ⟨cr3, cd3⟩ (fun hHeld => ?_)
        refine pure_ (i := 0) (N := some 50) (v := ?_) (a' := ?_) #[true, false, false, false, false, false, false, false, false, false, false, false, false, false, false, false, false, false, false, false, false] rfl rfl (by kernel_rfl) (fun _ _ _ h => h) (Or.inl ⟨by rfl, ?_⟩) ?_ ?_
        rotate_left
        · intro w'
          go_simp
          with_reducible rfl
        rotate_left
        · simp only [Act.put, List.setIfInBounds_toArray, List.set_cons_zero, List.set_cons_succ, i64_w, i32_w]
          rfl
        refine pure_ (i := 1) (N := some 51) (v := ?_) (a' := ?_) #[true, true, false, false, false, false, false, false, false, false, false, false, false, false, false, false, false, false, false, false, false] rfl rfl (by kernel_rfl) (fun _ _ _ h => h) (Or.inl ⟨by rfl, ?_⟩) ?_ ?_
        rotate_left
        · intro w'
          go_simp
          with_reducible rfl
        rotate_left
        · simp only [Act.put, List.setIfInBounds_toArray, List.set_cons_zero, List.set_cons_succ, i64_w, i32_w]
          rfl
        refine pure_ (i := 2) (N := some 52) (v := ?_) (a' := ?_) #[true, true, true, false, false, false, false, false, false, false, false, false, false, false, false, false, false, false, false, false, false] rfl rfl (by kernel_rfl) (fun _ _ _ h => h) (Or.inl ⟨by rfl, ?_⟩) ?_ ?_
        rotate_left
        · intro w'
          go_simp
          with_reducible rfl
        rotate_left
        · simp only [Act.put, List.setIfInBounds_toArray, List.set_cons_zero, List.set_cons_succ, i64_w, i32_w]
          rfl
        refine pure_ (i := 3) (N := some 53) (v := ?_) (a' := ?_) #[true, true, true, true, false, false, false, false, false, false, false, false, false, false, false, false, false, false, false, false, false] rfl rfl (by kernel_rfl) (fun _ _ _ h => h) (Or.inl ⟨by rfl, ?_⟩) ?_ ?_
        rotate_left
        · intro w'
          go_simp
          with_reducible rfl
        rotate_left
        · simp only [Act.put, List.setIfInBounds_toArray, List.set_cons_zero, List.set_cons_succ, i64_w, i32_w]
          rfl
        refine pure_ (i := 4) (N := some 54) (v := ?_) (a' := ?_) #[true, true, true, true, true, false, false, false, false, false, false, false, false, false, false, false, false, false, false, false, false] rfl rfl (by kernel_rfl) (fun _ _ _ h => h) (Or.inl ⟨by rfl, ?_⟩) ?_ ?_
        rotate_left
        · intro w'
          go_simp
          with_reducible rfl
        rotate_left
        · simp only [Act.put, List.setIfInBounds_toArray, List.set_cons_zero, List.set_cons_succ, i64_w, i32_w]
          rfl
        refine pure_ (i := 5) (N := some 55) (v := ?_) (a' := ?_) #[true, true, true, true, true, true, false, false, false, false, false, false, false, false, false, false, false, false, false, false, false] rfl rfl (by kernel_rfl) (fun _ _ _ h => h) (Or.inl ⟨by rfl, ?_⟩) ?_ ?_
        rotate_left
        · intro w'
          go_simp
          with_reducible rfl
        rotate_left
        · simp only [Act.put, List.setIfInBounds_toArray, List.set_cons_zero, List.set_cons_succ, i64_w, i32_w]
          rfl
        refine pure_ (i := 6) (N := some 56) (v := ?_) (a' := ?_) #[true, true, true, true, true, true, true, false, false, false, false, false, false, false, false, false, false, false, false, false, false] rfl rfl (by kernel_rfl) (fun _ _ _ h => h) (Or.inl ⟨by rfl, ?_⟩) ?_ ?_
        rotate_left
        · intro w'
          go_simp
          with_reducible rfl
        rotate_left
        · simp only [Act.put, List.setIfInBounds_toArray, List.set_cons_zero, List.set_cons_succ, i64_w, i32_w]
          rfl
        refine pure_ (i := 7) (N := some 57) (v := ?_) (a' := ?_) #[true, true, true, true, true, true, true, true, false, false, false, false, false, false, false, false, false, false, false, false, false] rfl rfl (by kernel_rfl) (fun _ _ _ h => h) (Or.inl ⟨by rfl, ?_⟩) ?_ ?_
        rotate_left
        · intro w'
          go_simp
          with_reducible rfl
        rotate_left
        · simp only [Act.put, List.setIfInBounds_toArray, List.set_cons_zero, List.set_cons_succ, i64_w, i32_w]
          rfl
        refine pure_ (i := 8) (N := some 58) (v := ?_) (a' := ?_) #[true, true, true, true, true, true, true, true, true, false, false, false, false, false, false, false, false, false, false, false, false] rfl rfl (by kernel_rfl) (fun _ _ _ h => h) (Or.inl ⟨by rfl, ?_⟩) ?_ ?_
        rotate_left
        · intro w'
          go_simp
          with_reducible rfl
        rotate_left
        · simp only [Act.put, List.setIfInBounds_toArray, List.set_cons_zero, List.set_cons_succ, i64_w, i32_w]
          rfl
        refine pure_ (i := 10) (N := some 60) (v := ?_) (a' := ?_) #[true, true, true, true, true, true, true, true, true, false, true, false, false, false, false, false, false, false, false, false, false] rfl rfl (by kernel_rfl) (fun _ _ _ h => h) (Or.inl ⟨by rfl, ?_⟩) ?_ ?_
        rotate_left
        · intro w'
          go_simp
          with_reducible rfl
        rotate_left
        · simp only [Act.put, List.setIfInBounds_toArray, List.set_cons_zero, List.set_cons_succ, i64_w, i32_w]
          rfl
        refine pure_ (i := 11) (N := some 61) (v := ?_) (a' := ?_) #[true, true, true, true, true, true, true, true, true, false, true, true, false, false, false, false, false, false, false, false, false] rfl rfl (by kernel_rfl) (fun _ _ _ h => h) (Or.inl ⟨by rfl, ?_⟩) ?_ ?_
        rotate_left
        · intro w'
          go_simp
          with_reducible rfl
        rotate_left
        · simp only [Act.put, List.setIfInBounds_toArray, List.set_cons_zero, List.set_cons_succ, i64_w, i32_w]
          rfl
        refine pure_ (i := 15) (N := some 65) (v := ?_) (a' := ?_) #[true, true, true, true, true, true, true, true, true, false, true, true, false, false, false, true, false, false, false, false, false] rfl rfl (by kernel_rfl) (fun _ _ _ h => h) (Or.inl ⟨by rfl, ?_⟩) ?_ ?_
        rotate_left
        · intro w'
          go_simp
          with_reducible rfl
        rotate_left
        · simp only [Act.put, List.setIfInBounds_toArray, List.set_cons_zero, List.set_cons_succ, i64_w, i32_w]
          rfl
        refine pure_ (i := 16) (N := some 66) (v := ?_) (a' := ?_) #[true, true, true, true, true, true, true, true, true, false, true, true, false, false, false, true, true, false, false, false, false] rfl rfl (by kernel_rfl) (fun _ _ _ h => h) (Or.inl ⟨by rfl, ?_⟩) ?_ ?_
        rotate_left
        · intro w'
          go_simp
          with_reducible rfl
        rotate_left
        · simp only [Act.put, List.setIfInBounds_toArray, List.set_cons_zero, List.set_cons_succ, i64_w, i32_w]
          rfl
        refine take_ (i := 9) (N := some 59) (v := ?_) (a' := ?_) #[true, true, true, true, true, true, true, true, true, true, true, true, false, false, false, true, true, false, false, false, false] rfl rfl (by kernel_rfl) (fun _ _ _ h => h) (Or.inl ⟨by rfl, ?_⟩) hHeld ?_ ?_
        rotate_left
        · rintro w' ⟨s0, s1⟩
          go_simp
          with_reducible rfl
        rotate_left
        · simp only [Act.put, List.setIfInBounds_toArray, List.set_cons_zero, List.set_cons_succ, i64_w, i32_w]
          rfl
        refine take_ (i := 14) (N := some 64) (v := ?_) (a' := ?_) #[true, true, true, true, true, true, true, true, true, true, true, true, false, false, true, true, true, false, false, false, false] rfl rfl (by kernel_rfl) (fun _ _ _ h => h) (Or.inl ⟨by rfl, ?_⟩) hHeld ?_ ?_
        rotate_left
        · rintro w' ⟨s0, s1⟩
          go_simp
          with_reducible rfl
        rotate_left
        · simp only [Act.put, List.setIfInBounds_toArray, List.set_cons_zero, List.set_cons_succ, i64_w, i32_w]
          rfl
        refine one_ (i := 12) (N := some 62) #[true, true, true, true, true, true, true, true, true, true, true, true, true, false, true, true, true, false, false, false, false] rfl rfl (by kernel_rfl) (by decide) (fun K hK => ?_)
        refine goes_ Try.func11 (by kernel_rfl) rfl _ (by rfl) rfl rfl (by simp only [List.map_toArray, List.map_cons, List.map_nil]; rfl) ?_
        refine (pushq_room _ HQ3.out.drew _ (Nat.lt_of_lt_of_le HR3.out HQN.out)).mono ?_
        rintro e u1 ⟨rfl, hq4, ho4⟩
        refine ⟨_, rfl, ?_⟩
        have HQ4 := Aside0.mk hq4
        have HT4 := Aside0.mk (HT3.out.drew.ring ho4)
        have HD4 := Aside0.mk (HD3.out.only (Only.then ((Only.refl _ _).drew) ho4) (fun j hj e => e.elim (fun e => HGK.out.1 (e ▸ hj)) (fun e => HGK.out.2 (e ▸ hj))))
        have HBX4 := Aside0.mk (HBXK.out.only HT4.out.only HAPS.out)
        clear hq4 ho4
        refine hK.out _ _ ⟨(blk_cell HBX4.out.cr 0).trans rfl, (blk_cell HBX4.out.cd 0).trans rfl⟩ (fun hHeld => ?_)
        clear hK K
        refine norm_ (a' := ?_) ?_ ?_
        rotate_left
        · show Act.put _ (some 62) _ = _
          simp only [Act.put, List.setIfInBounds_toArray, List.set_cons_zero, List.set_cons_succ, i64_w, i32_w]
          rfl
        refine one_ (i := 13) (N := some 63) #[true, true, true, true, true, true, true, true, true, true, true, true, true, true, true, true, true, false, false, false, false] rfl rfl (by kernel_rfl) (by decide) (fun K hK => ?_)
        refine goes_ Try.func10 (by kernel_rfl) rfl _ (by rfl) rfl rfl (by simp only [List.map_toArray, List.map_cons, List.map_nil]; rfl) ?_
        refine (num_calls _ _).mono ?_
        rintro e u2 ⟨rfl, hd5⟩
        refine ⟨_, rfl, ?_⟩
        have HQ5 := Aside0.mk (HQ4.out.drawn hd5)
        have HT5 := Aside0.mk (HT4.out.drawn hd5)
        have HD5 := Aside0.mk (HD4.out.drawn hd5)
        have HBX5 := Aside0.mk (HBXK.out.only HT5.out.only HAPS.out)
        clear hd5
        refine hK.out _ _ ⟨(blk_cell HBX5.out.cr 0).trans rfl, (blk_cell HBX5.out.cd 0).trans rfl⟩ (fun hHeld => ?_)
        clear hK K
        refine norm_ (a' := ?_) ?_ ?_
        rotate_left
        · show Act.put _ (some 63) _ = _
          simp only [Act.put, List.setIfInBounds_toArray, List.set_cons_zero, List.set_cons_succ, i64_w, i32_w]
          rfl
        refine one_ (i := 17) (N := some 67) #[true, true, true, true, true, true, true, true, true, true, true, true, true, true, true, true, true, true, false, false, false] rfl rfl (by kernel_rfl) (by decide) (fun K hK => ?_)
        refine goes_ Try.func31 (by kernel_rfl) rfl _ (by rfl) rfl rfl (by simp only [List.map_toArray, List.map_cons, List.map_nil]; rfl) ?_
        refine (rpush_room _ HD5.out (Nat.lt_of_lt_of_le HR3.out HQN.out)).mono ?_
        rintro e u3 ⟨S6, rfl, hd6, hn6⟩
        refine ⟨_, rfl, ?_⟩
        have HD6 := Aside0.mk hd6
        have HT6 := Aside0.mk (HT5.out.doc hn6.only hn6.new)
        have HQ6 := Aside0.mk (HQ5.out.only hn6.only HGK.out.1 HGK.out.2)
        have HBX6 := Aside0.mk (HBXK.out.only HT6.out.only HAPS.out)
        clear hd6 hn6
        refine hK.out _ _ ⟨(blk_cell HBX6.out.cr 0).trans rfl, (blk_cell HBX6.out.cd 0).trans rfl⟩ (fun hHeld => ?_)
        clear hK K
        refine norm_ (a' := ?_) ?_ ?_
        rotate_left
        · show Act.put _ (some 67) _ = _
          simp only [Act.put, List.setIfInBounds_toArray, List.set_cons_zero, List.set_cons_succ, i64_w, i32_w]
          rfl
        refine one_ (i := 18) (N := some 68) #[true, true, true, true, true, true, true, true, true, true, true, true, true, true, true, true, true, true, true, false, false] rfl rfl (by kernel_rfl) (by decide) (fun K hK => ?_)
        refine goes_ Try.func10 (by kernel_rfl) rfl _ (by rfl) rfl rfl (by simp only [List.map_toArray, List.map_cons, List.map_nil]; rfl) ?_
        refine (num_calls _ _).mono ?_
        rintro e u4 ⟨rfl, hd7⟩
        refine ⟨_, rfl, ?_⟩
        have HQ7 := Aside0.mk (HQ6.out.drawn hd7)
        have HT7 := Aside0.mk (HT6.out.drawn hd7)
        have HD7 := Aside0.mk (HD6.out.drawn hd7)
        have HBX7 := Aside0.mk (HBXK.out.only HT7.out.only HAPS.out)
        clear hd7
        refine hK.out _ _ ⟨(blk_cell HBX7.out.cr 0).trans rfl, (blk_cell HBX7.out.cd 0).trans rfl⟩ (fun hHeld => ?_)
        clear hK K
        refine norm_ (a' := ?_) ?_ ?_
        rotate_left
        · show Act.put _ (some 68) _ = _
          simp only [Act.put, List.setIfInBounds_toArray, List.set_cons_zero, List.set_cons_succ, i64_w, i32_w]
          rfl
        refine pure_ (i := 19) (N := some 69) (v := ?_) (a' := ?_) #[true, true, true, true, true, true, true, true, true, true, true, true, true, true, true, true, true, true, true, true, false] rfl rfl (by kernel_rfl) (fun _ _ _ h => h) (Or.inl ⟨by rfl, ?_⟩) ?_ ?_
        rotate_left
        · intro w'
          go_simp
          with_reducible rfl
        rotate_left
        · simp only [Act.put, List.setIfInBounds_toArray, List.set_cons_zero, List.set_cons_succ, i64_w, i32_w]
          rfl
        refine pure_ (i := 20) (N := some 70) (v := ?_) (a' := ?_) #[true, true, true, true, true, true, true, true, true, true, true, true, true, true, true, true, true, true, true, true, true] rfl rfl (by kernel_rfl) (fun _ _ _ h => h) (Or.inl ⟨by rfl, ?_⟩) ?_ ?_
        rotate_left
        · intro w'
          go_simp
          with_reducible rfl
        rotate_left
        · simp only [Act.put, List.setIfInBounds_toArray, List.set_cons_zero, List.set_cons_succ, i64_w, i32_w]
          rfl
        refine done_ (by kernel_rfl) ?_

        clear hHeld cr3 fr3 cd3 fd3
        have hcn7 := HT7.out.only.blk HCNK.out (fun e => e.elim (fun e => e.elim HBG.out.1 HBG.out.2.1) HBG.out.2.2)
        have cn7 := blk_cell hcn7 0
        have fn7 := blk_frozen hcn7 0
        have ct7 := blk_cell HBX7.out.ct 0
        have ft7 := blk_frozen HBX7.out.ct 0
        simp only [List.getElem?_toArray, List.getElem?_cons_zero, List.getElem?_cons_succ] at cn7 ct7
        have HST := Aside0.mk (HJ.out.step HRD.out HSK.out HOK.out HCNK.out HT7.out HBG.out HLT.out HQ7.out HD7.out)
        clear hcn7
        by_cases h5 : (k : Int) + 1 = stop
        · have e5 : ((k : Int) + 1 == stop) = true := by simpa using h5
          have H5 := Aside0.mk h5
          clear h5
          gi_wp2_with fail
          have h6 := HST.out.1
          rw [H5.out] at h6
          exact ⟨HST.out.2.1, .inr ⟨rfl, _, h6⟩⟩
        · have e5 : ((k : Int) + 1 == stop) = false := by simpa using h5
          clear h5
          gi_wp2_with fail
          exact ⟨HST.out.2.1, HST.out.2.2, ⟨on_pre HPRE.out (by rw [HK.out]; exact HLTK.out) (by rw [HK.out, hz]), by rw [List.length_append, List.length_singleton, HK.out]; exact HLTK.out⟩, by rw [List.length_append, List.length_singleton, HK.out, ← HR2.out]; exact HST.out.1⟩
      · have e2 : (y != z) = true := by simpa using h2
        gi_wp2_with fail
        exact ⟨HKS.out _ ((Only.refl W (fun q => q = bs)).set (p := ⟨bs, 0, none⟩) (v := .bool false) rfl), .inl ⟨rfl, no_pre HPRE.out (by rw [HK.out]; exact HLTK.out) (fun e => h2 (by rw [HK.out, hz] at e; exact (Prod.mk.inj e).2))⟩⟩
    · have e1 : (i != (k : Int)) = true := by simpa using h1
      gi_wp2_with fail
      exact ⟨HKS.out _ ((Only.refl W (fun q => q = bs)).set (p := ⟨bs, 0, none⟩) (v := .bool false) rfl), .inl ⟨rfl, no_pre HPRE.out (by rw [HK.out]; exact HLTK.out) (fun e => h1 (by rw [HK.out] at e; exact (Prod.mk.inj e).1))⟩⟩
  case done =>
    rintro D W hD ⟨_, hJ⟩ hkD
    rw [en_len] at hJ
    have HJ := Aside0.mk hJ
    have HKD := Aside0.mk hkD
    have HBX := Aside0.mk (HBX0.out.only hJ.only HAPK.out)
    have HDB : Aside0 (W0.heap.size ≤ D ∧ D ≠ bs) := ⟨hD, fun e => Nat.lt_irrefl _ (Nat.lt_of_lt_of_le (HAP.out bs (.inr (.inr (.inr (.inl rfl))))).2.2 (e ▸ hD))⟩
    have cn0 := blk_cell hJ.cn 0
    have fn0 := blk_frozen hJ.cn 0
    have cw0 := blk_cell HBX.out.cw 0
    have fw0 := blk_frozen HBX.out.cw 0
    have ct0 := blk_cell HBX.out.ct 0
    have ft0 := blk_frozen HBX.out.ct 0
    have cs0 := blk_cell HBX.out.cs 0
    have fs0 := blk_frozen HBX.out.cs 0
    simp only [List.getElem?_toArray, List.getElem?_cons_zero, List.getElem?_cons_succ] at cn0 cw0 ct0 cs0
    clear hJ hkD hD
    go_wp2_with fail
    have hO6 : Only W (W.setCell ⟨bs, 0, none⟩ (.bool true)) (fun q => q = bs) := (Only.refl W (fun q => q = bs)).set (p := ⟨bs, 0, none⟩) rfl
    have hD2 := hO6.blk HKD.out HDB.out.2
    have hc6 : (W.setCell ⟨bs, 0, none⟩ (.bool true)).heap[bs]? = some (.cells #[.bool true] 4 (0, 0)) := by simpa using blk_set HBX.out.cs 0 (.bool true)
    refine ⟨by simp, .inl ⟨_, _, rfl, run_takeDeferred hD2, ?_⟩⟩
    have hc7 : ((W.setCell ⟨bs, 0, none⟩ (.bool true)).putObj D (.deferred none)).heap[bs]? = some (.cells #[.bool true] 4 (0, 0)) := by rw [World.putObj_heap_other (fun e => HDB.out.2 e.symm)]; exact hc6
    have hc8 := blk_cell hc7 0
    simp only [List.getElem?_toArray, List.getElem?_cons_zero, List.getElem?_cons_succ] at hc8
    refine ⟨.bool true, ?_, rfl, HJ.out.fin HW0.out HBN.out HL.out.1 HL.out.2.1 HL.out.2.2 (HAP.out bs (.inr (.inr (.inr (.inl rfl))))).2 HDB.out.1 HKD.out⟩
    simp [results, Try.results35, go_sem, hc8]
  case stop =>
    rintro D c pre W hD hp (⟨rfl, hnp⟩ | ⟨rfl, qq, hJ⟩) hkD
    · exact absurd hp hnp
    · have HJ := Aside0.mk hJ
      have HKD := Aside0.mk hkD
      have HBX := Aside0.mk (HBX0.out.only hJ.only HAPK.out)
      have HDB : Aside0 (W0.heap.size ≤ D ∧ D ≠ bs) := ⟨hD, fun e => Nat.lt_irrefl _ (Nat.lt_of_lt_of_le (HAP.out bs (.inr (.inr (.inr (.inl rfl))))).2.2 (e ▸ hD))⟩
      have cn0 := blk_cell hJ.cn 0
      have fn0 := blk_frozen hJ.cn 0
      have cw0 := blk_cell HBX.out.cw 0
      have fw0 := blk_frozen HBX.out.cw 0
      have ct0 := blk_cell HBX.out.ct 0
      have ft0 := blk_frozen HBX.out.ct 0
      have cs0 := blk_cell HBX.out.cs 0
      have fs0 := blk_frozen HBX.out.cs 0
      simp only [List.getElem?_toArray, List.getElem?_cons_zero, List.getElem?_cons_succ] at cn0 cw0 ct0 cs0
      clear hJ hkD hD
      by_cases h5 : stop = (q.length : Int)
      · have e5 : (stop == (q.length : Int)) = true := by simpa using h5
        go_wp2_with fail
        have hO6 : Only W (W.setCell ⟨bs, 0, none⟩ (.bool true)) (fun q => q = bs) := (Only.refl W (fun q => q = bs)).set (p := ⟨bs, 0, none⟩) rfl
        have hD2 := hO6.blk HKD.out HDB.out.2
        have hc6 : (W.setCell ⟨bs, 0, none⟩ (.bool true)).heap[bs]? = some (.cells #[.bool true] 4 (0, 0)) := by simpa using blk_set HBX.out.cs 0 (.bool true)
        refine ⟨by simp, .inl ⟨_, _, rfl, run_takeDeferred hD2, ?_⟩⟩
        have hc7 : ((W.setCell ⟨bs, 0, none⟩ (.bool true)).putObj D (.deferred none)).heap[bs]? = some (.cells #[.bool true] 4 (0, 0)) := by rw [World.putObj_heap_other (fun e => HDB.out.2 e.symm)]; exact hc6
        have hc8 := blk_cell hc7 0
        simp only [List.getElem?_toArray, List.getElem?_cons_zero, List.getElem?_cons_succ] at hc8
        refine ⟨.bool true, ?_, rfl, HJ.out.fin HW0.out HBN.out HL.out.1 HL.out.2.1 HL.out.2.2 (HAP.out bs (.inr (.inr (.inr (.inl rfl))))).2 HDB.out.1 HKD.out⟩
        simp [results, Try.results35, go_sem, hc8]
      · have e5 : (stop == (q.length : Int)) = false := by simpa using h5
        go_wp2_with fail
        have hO6 : Only W (W.setCell ⟨bs, 0, none⟩ (.bool true)) (fun q => q = bs) := (Only.refl W (fun q => q = bs)).set (p := ⟨bs, 0, none⟩) rfl
        have hD2 := hO6.blk HKD.out HDB.out.2
        have hc6 : (W.setCell ⟨bs, 0, none⟩ (.bool true)).heap[bs]? = some (.cells #[.bool true] 4 (0, 0)) := by simpa using blk_set HBX.out.cs 0 (.bool true)
        refine ⟨by simp, .inl ⟨_, _, rfl, run_takeDeferred hD2, ?_⟩⟩
        have hc7 : ((W.setCell ⟨bs, 0, none⟩ (.bool true)).putObj D (.deferred none)).heap[bs]? = some (.cells #[.bool true] 4 (0, 0)) := by rw [World.putObj_heap_other (fun e => HDB.out.2 e.symm)]; exact hc6
        have hc8 := blk_cell hc7 0
        simp only [List.getElem?_toArray, List.getElem?_cons_zero, List.getElem?_cons_succ] at hc8
        refine ⟨.bool true, ?_, rfl, HJ.out.fin HW0.out HBN.out HL.out.1 HL.out.2.1 HL.out.2.2 (HAP.out bs (.inr (.inr (.inr (.inl rfl))))).2 HDB.out.1 HKD.out⟩
        simp [results, Try.results35, go_sem, hc8]
end Go.Proofs.Ytjajaklichiknaa.Rg
