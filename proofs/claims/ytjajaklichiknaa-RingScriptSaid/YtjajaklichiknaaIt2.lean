/- Proved: the walk of RingRounds. -/
import Derived.Test.YtjajaklichiknaaItR
import Derived.Laws.EntriesVeiled
namespace Go.Proofs.Ytjajaklichiknaa.Rg
open Go.RowKit Go.Proofs.YtjajaklichiknaaW.PrintWords Go.Proofs.YtjajaklichiknaaW.PrintLast Go.Proofs.YtjajaklichiknaaW.PrintMore
set_option linter.unusedVariables false
set_option linter.unusedSimpArgs false

open Go.Shelf
attribute [local go_sem] Oper.semAt_some
theorem Only.mono {w w1 : World} {S T : Nat → Prop} (h : Only w w1 S) (hs : ∀ k, S k → T k) : Only w w1 T := ⟨h.os, h.tape, h.output, h.size, fun k hk ht => h.block k hk (fun e => ht (hs k e))⟩
theorem al_size (w : World) (o : Obj) : (w.alloc o).heap.size = w.heap.size + 1 := by simp
theorem al_at (w : World) (o : Obj) : (w.alloc o).heap[w.heap.size]? = some o := by show (w.heap.push o)[w.heap.size]? = some o; exact Array.getElem?_push_size
theorem al_bel (w : World) (o : Obj) : Below w.heap.size w (w.alloc o) := (Below.refl _ _).alloc (Nat.le_refl _) _
theorem drew_bel (w : World) : Below w.heap.size w w.drew := below_drew1 (Below.refl _ _)
/-- What RingRounds' variables hold. -/
structure Rs (w0 : World) (AX AY : Option Addr) (cX cY nX nY : Nat) (bl bm bs br ba bB g gt : Nat) (w : World) : Prop where
  cl : w.heap[bl]? = some (.cells #[.slice AX nX cX] 22 (0, 0))
  cm : w.heap[bm]? = some (.cells #[.slice AY nY cY] 22 (0, 0))
  cs : w.heap[bs]? = some (.cells #[.bool false] 4 (0, 0))
  cr : w.heap[br]? = some (.cells #[.pointer (some ⟨g, 0, none⟩)] 24 (0, 0))
  ca : w.heap[ba]? = some (.cells #[.func (.func 29) #[] #[.pointer (some ⟨bB, 0, none⟩)]] 48 (0, 0))
  cB : w.heap[bB]? = some (.cells #[.pointer (some ⟨g, 0, none⟩)] 24 (0, 0))
  ap : ∀ k, (k = bl ∨ k = bm ∨ k = bs ∨ k = br ∨ k = ba ∨ k = bB) → k ≠ g ∧ k ≠ gt
  lo : w0.heap.size ≤ bs ∧ w0.heap.size ≤ g ∧ w0.heap.size ≤ gt
  bel : Below w0.heap.size w0 w
section
variable {w0 w w' : World} {AX AY : Option Addr} {cX cY nX nY bl bm bs br ba bB g gt : Nat}
theorem Rs.lt (h : Rs w0 AX AY cX cY nX nY bl bm bs br ba bB g gt w) : ∀ k, (k = bl ∨ k = bm ∨ k = bs ∨ k = br ∨ k = ba ∨ k = bB) → k < w.heap.size := by
  rintro k (rfl | rfl | rfl | rfl | rfl | rfl)
  · exact blk_lt h.cl
  · exact blk_lt h.cm
  · exact blk_lt h.cs
  · exact blk_lt h.cr
  · exact blk_lt h.ca
  · exact blk_lt h.cB
theorem Rs.only {T : Nat → Prop} (h : Rs w0 AX AY cX cY nX nY bl bm bs br ba bB g gt w) (hO : Only w w' T) (hT : ∀ k, (k = bl ∨ k = bm ∨ k = bs ∨ k = br ∨ k = ba ∨ k = bB) → ¬ T k) (hB : ∀ k, T k → w0.heap.size ≤ k) : Rs w0 AX AY cX cY nX nY bl bm bs br ba bB g gt w' :=
  ⟨hO.blk h.cl (hT _ (.inl rfl)), hO.blk h.cm (hT _ (.inr (.inl rfl))), hO.blk h.cs (hT _ (.inr (.inr (.inl rfl)))), hO.blk h.cr (hT _ (.inr (.inr (.inr (.inl rfl))))), hO.blk h.ca (hT _ (.inr (.inr (.inr (.inr (.inl rfl)))))), hO.blk h.cB (hT _ (.inr (.inr (.inr (.inr (.inr rfl)))))), h.ap, h.lo, hO.below h.bel h.bel.size hB⟩
theorem Rs.below (h : Rs w0 AX AY cX cY nX nY bl bm bs br ba bB g gt w) (hb : Below w.heap.size w w') : Rs w0 AX AY cX cY nX nY bl bm bs br ba bB g gt w' := h.only (Only.of_below hb (fun _ => False)) (fun _ _ q => q) (fun _ q => q.elim)
/-- The ring is touched. -/
theorem Rs.ring (h : Rs w0 AX AY cX cY nX nY bl bm bs br ba bB g gt w) (hO : Only w w' (fun k => k = g ∨ k = gt)) : Rs w0 AX AY cX cY nX nY bl bm bs br ba bB g gt w' :=
  h.only hO (fun k hk q => q.elim (h.ap k hk).1 (h.ap k hk).2) (fun k q => q.elim (fun e => e ▸ h.lo.2.1) (fun e => e ▸ h.lo.2.2))
end
/-- Ways out that are no panic. -/
def retOnly (Q : Exit → Act → World → Prop) : Exit → Act → World → Prop
  | .normal, a, w => Q .normal a w
  | .ret, a, w => Q .ret a w
  | _, _, _ => False
theorem retOnly_sub (Q : Exit → Act → World → Prop) : ∀ e a w, retOnly Q e a w → Q e a w
  | .normal, _, _, h => h
  | .ret, _, _, h => h
  | .panic _, _, _, h => h.elim
  | .exit _, _, _, h => h.elim
  | .goto _, _, _, h => h.elim
  | .outgrown, _, _, h => h.elim
theorem no_pre {X : List Int} {pre : List (Int × Int)} {x : Int × Int} (hp : pre = (en X).take pre.length) (hl : pre.length < X.length) (hx : x ≠ ((pre.length : Int), X.getD pre.length 0)) : ¬ (pre ++ [x]) <+: en X := fun h => by
  have h1 := List.prefix_iff_eq_take.1 h
  rw [List.length_append, List.length_singleton, en_take hl] at h1
  have h2 := (List.append_inj' h1 rfl).2
  injection h2 with h2
  exact hx h2
theorem on_pre {X : List Int} {pre : List (Int × Int)} {x : Int × Int} (hp : pre = (en X).take pre.length) (hl : pre.length < X.length) (hx : x = ((pre.length : Int), X.getD pre.length 0)) : pre ++ [x] = (en X).take (pre ++ [x]).length := by
  rw [List.length_append, List.length_singleton, en_take hl, ← hp, hx]
abbrev I1 (W0 : World) (X Y : List Int) (bn g gt n : Nat) (pre : List (Int × Int)) (W : World) : Prop := (pre = (en X).take pre.length ∧ Only W0 W (fun k => k = bn ∨ k = g ∨ k = gt)) ∧ (W.heap[bn]? = some (.cells #[.int .i64 (pre.length : Int)] 3 (0, 0)) ∧ RQ W g gt n (if pre.length = 0 then X else Y))
abbrev X1 (X : List Int) (c : Code) (pre : List (Int × Int)) (W : World) : Prop := c = .ret ∧ ¬ pre <+: en X
theorem I1.own {W0 : World} {X Y : List Int} {bn g gt n : Nat} (h1 : bn < W0.heap.size) (h2 : g < W0.heap.size) (h3 : gt < W0.heap.size) : OwnFrom W0.heap.size (I1 W0 X Y bn g gt n) :=
  Low.own (Low.and (Low.and (Low.pure _ _) (low_only (Nat.le_refl _) _)) (Low.and (low_blk h1 (fun pre => Obj.cells #[.int .i64 ((pre : List (Int × Int)).length : Int)] 3 (0, 0))) (low_rq h2 h3 (fun pre => if (pre : List (Int × Int)).length = 0 then X else Y))))
theorem X1.own {B : Nat} {X : List Int} (c : Code) : OwnFrom B (X1 X c) := Low.own (Low.pure _ _)
theorem Low.or {β : Type} {B : Nat} {I J : β → World → Prop} (h : Low B I) (k : Low B J) : Low B (fun s W => I s W ∨ J s W) := fun s W W' a b c d e q => q.imp (h s W W' a b c d e) (k s W W' a b c d e)
abbrev I2 (W0 : World) (m bo : Nat) (X : List Int) (pre : List (Int × Int)) (W : World) : Prop := (pre = (en X).take pre.length ∧ pre.length ≤ m) ∧ (Only W0 W (fun k => k = bo) ∧ W.heap[bo]? = some (.cells #[.int .i64 (pre.length : Int)] 3 (0, 0)))
abbrev X2 (W0 : World) (m bo id : Nat) (X : List Int) (c : Code) (pre : List (Int × Int)) (W : World) : Prop := (c = .ret ∧ ¬ pre <+: en X) ∨ (c = .exit id ∧ (Only W0 W (fun k => k = bo) ∧ W.heap[bo]? = some (.cells #[.int .i64 ((m : Int) + 1)] 3 (0, 0))))
theorem I2.own {W0 : World} {m bo : Nat} {X : List Int} (h : bo < W0.heap.size) : OwnFrom W0.heap.size (I2 W0 m bo X) :=
  Low.own (Low.and (Low.pure _ _) (Low.and (low_only (Nat.le_refl _) _) (low_blk h (fun pre => Obj.cells #[.int .i64 ((pre : List (Int × Int)).length : Int)] 3 (0, 0)))))
theorem X2.own {W0 : World} {m bo id : Nat} {X : List Int} (h : bo < W0.heap.size) (c : Code) : OwnFrom W0.heap.size (X2 W0 m bo id X c) :=
  Low.own (Low.or (Low.pure _ _) (Low.and (Low.pure _ _) (Low.and (low_only (Nat.le_refl _) _) (low_blk h (fun _ => Obj.cells #[.int .i64 ((m : Int) + 1)] 3 (0, 0))))))
theorem only_new {W Wi W' : World} {bi : Nat} (hb : Below W.heap.size W Wi) (hO : Only Wi W' (fun k => k = bi)) (h : W.heap.size ≤ bi) (T : Nat → Prop) : Only W W' T :=
  ⟨hO.os.trans hb.os, hO.tape.trans hb.tape, hO.output.trans hb.output, Nat.le_trans hb.size hO.size, fun k hk _ => (hO.block k (Nat.lt_of_lt_of_le hk hb.size) (fun e => by omega)).trans (hb.block k hk)⟩
theorem ai1 {X Y n : Nat} (h : X + Y ≤ 2000) (hn : n = X + Y + 1) : (X : Int) + (Y : Int) + 1 = (n : Int) := by omega
theorem ai2 {j l : Nat} (h : j ≤ l) (h2 : ¬ j < l) : j = l := by omega
theorem ai3 {a b : Nat} (h : b < a) : a - (b + 1) < a - b := by omega
theorem ai4 {X Y n k : Nat} (hn : n = X + Y + 1) (h : k < X) : k < n := by omega
theorem ai5 {X Y n k : Nat} (hn : n = X + Y + 1) (h : k < Y) : k < n := by omega
set_option maxHeartbeats 16000000 in
set_option maxRecDepth 100000 in
theorem rounds_ok (X Y : List Int) (AX AY : Option Addr) (cX cY : Nat) (w : World) (hl : X.length + Y.length ≤ 2000) (HX0 : ReadsOf ei 0 w AX X.length X) (HY0 : ReadsOf ei 0 w AY Y.length Y) : Calls Try.prog 6 #[.slice AX X.length cX, .slice AY Y.length cY] w fun r w' => r = .returned (.bool true) ∧ Below w.heap.size w w' := by
  have hu3 := Try.underlying3
  have hu22 := Try.underlying22
  have hu24 := Try.underlying24
  have hu65 := Try.underlying65
  have hu48 := Try.underlying48
  have hu4 := Try.underlying4
  have hmf : ∀ (fn : Fn) (first cap : Array Value) (w : World), (Instr.makeFunc fn first cap).run Try.prog w = .ok (.func fn first cap) w := fun _ _ _ _ => rfl
  have c3 : ¬ (2000 : Int) < (X.length : Int) + (Y.length : Int) := by omega
  obtain ⟨n, hn⟩ : ∃ n, n = X.length + Y.length + 1 := ⟨_, rfl⟩
  have hnw := ai1 hl hn
  have hn0 : 0 < n := by omega
  have hn1 : n ≤ 4096 := by omega
  have HX := Aside0.mk HX0
  have HY := Aside0.mk HY0
  have hXl : X.length ≤ 2000 := by omega
  have hYl : Y.length ≤ 2000 := by omega
  have HN := Aside0.mk hn
  have HL := Aside0.mk hl
  clear hn hl HX0 HY0
  obtain ⟨wb, hwb⟩ : ∃ wb, (((w.alloc (.cells #[.slice AX X.length cX] 22)).alloc (.cells #[.slice AY Y.length cY] 22)).alloc (.cells #[.bool false] 4)) = wb := ⟨_, rfl⟩
  have hb1 := al_bel w (.cells #[.slice AX X.length cX] 22)
  have hb2 := al_bel (w.alloc (.cells #[.slice AX X.length cX] 22)) (.cells #[.slice AY Y.length cY] 22)
  have hb3 := al_bel ((w.alloc (.cells #[.slice AX X.length cX] 22)).alloc (.cells #[.slice AY Y.length cY] 22)) (.cells #[.bool false] 4)
  have hc1 := al_at w (.cells #[.slice AX X.length cX] 22)
  have hc2 := al_at (w.alloc (.cells #[.slice AX X.length cX] 22)) (.cells #[.slice AY Y.length cY] 22)
  have hc3 := al_at ((w.alloc (.cells #[.slice AX X.length cX] 22)).alloc (.cells #[.slice AY Y.length cY] 22)) (.cells #[.bool false] 4)
  have hb0 : Below w.heap.size w (((w.alloc (.cells #[.slice AX X.length cX] 22)).alloc (.cells #[.slice AY Y.length cY] 22)).alloc (.cells #[.bool false] 4)) := below_step (below_step hb1 hb2) hb3
  have hc1b := (hb3.block _ (blk_lt ((hb2.block _ (blk_lt hc1)).trans hc1))).trans ((hb2.block _ (blk_lt hc1)).trans hc1)
  have hc2b := (hb3.block _ (blk_lt hc2)).trans hc2
  rw [hwb] at hc1b hc2b hc3 hb0
  rw [al_size, al_size] at hc3
  rw [al_size] at hc2b
  have HBX := Aside0.mk (And.intro hb0 (And.intro hc1b (And.intro hc2b hc3)))
  clear hb1 hb2 hb3 hc1 hc2 hc3 hb0 hc1b hc2b
  refine (callsIn_wide (n := 20)).1 ?_
  refine callsIn_of_wp_marks Try.func6 rfl trivial (wpIn_mono ?_ (retOnly_sub _)) rfl
  simp only [Try.ntmps6, List.size_toArray, List.length_cons, List.length_nil, Nat.reduceAdd, Nat.reduceSub, Array.replicate_succ, Array.replicate_zero, List.push_toArray, List.append_toArray, List.nil_append, List.cons_append]
  refine wpIn_wide.2 ?_
  go_upto_region 1 with fail
  try rw [hwb]
  clear hwb
  go_upto_region 3 with (first
    | (go_at_call 8; refine (alive_calls _).mono ?_; rintro r wa ⟨rfl, hba⟩; have HL1 := Aside0.mk ((hba.block _ (blk_lt HBX.out.2.1)).trans HBX.out.2.1); have HM1 := Aside0.mk ((hba.block _ (blk_lt HBX.out.2.2.1)).trans HBX.out.2.2.1); have HS1 := Aside0.mk ((hba.block _ (blk_lt HBX.out.2.2.2)).trans HBX.out.2.2.2); have HB1 := Aside0.mk (below_step HBX.out.1 hba); clear hba; have cl0 := blk_cell HL1.out 0; have fl0 := blk_frozen HL1.out 0; have cm0 := blk_cell HM1.out 0; have fm0 := blk_frozen HM1.out 0; simp only [List.getElem?_toArray, List.getElem?_cons_zero, List.getElem?_cons_succ] at cl0 cm0))
  clear HBX
  go_upto_region 4 with (first
    | (go_at_call 9; refine (new_ok _ n hn0 hn1).mono ?_; rintro r wn ⟨g, gt, rfl, hQ, hg0, hg1, hgg, hbn⟩; have HQ1 := Aside0.mk hQ; have HG1 := Aside0.mk (And.intro hg0 (And.intro hg1 hgg)); have HB2 := Aside0.mk hbn; clear hQ hg0 hg1 hgg hbn cl0 fl0 cm0 fm0))
  have hct1 := al_at wn (.cells #[.pointer (some ⟨g, 0, none⟩)] 24)
  have cr0 := blk_cell hct1 0
  have fr0 := blk_frozen hct1 0
  simp only [List.getElem?_toArray, List.getElem?_cons_zero, List.getElem?_cons_succ] at cr0
  obtain ⟨w3, hw3⟩ : ∃ w3, (((wn.alloc (.cells #[.pointer (some ⟨g, 0, none⟩)] 24)).alloc (.cells #[.pointer (some ⟨g, 0, none⟩)] 24)).alloc (.cells #[.func (.func 29) #[] #[.pointer (some ⟨wn.heap.size + 1, 0, none⟩)]] 48)) = w3 := ⟨_, rfl⟩
  have hb1 := al_bel wn (.cells #[.pointer (some ⟨g, 0, none⟩)] 24)
  have hb2 := al_bel (wn.alloc (.cells #[.pointer (some ⟨g, 0, none⟩)] 24)) (.cells #[.pointer (some ⟨g, 0, none⟩)] 24)
  have hb3 := al_bel ((wn.alloc (.cells #[.pointer (some ⟨g, 0, none⟩)] 24)).alloc (.cells #[.pointer (some ⟨g, 0, none⟩)] 24)) (.cells #[.func (.func 29) #[] #[.pointer (some ⟨wn.heap.size + 1, 0, none⟩)]] 48)
  have hc2 := al_at (wn.alloc (.cells #[.pointer (some ⟨g, 0, none⟩)] 24)) (.cells #[.pointer (some ⟨g, 0, none⟩)] 24)
  have hc3 := al_at ((wn.alloc (.cells #[.pointer (some ⟨g, 0, none⟩)] 24)).alloc (.cells #[.pointer (some ⟨g, 0, none⟩)] 24)) (.cells #[.func (.func 29) #[] #[.pointer (some ⟨wn.heap.size + 1, 0, none⟩)]] 48)
  have hb0 : Below wn.heap.size wn (((wn.alloc (.cells #[.pointer (some ⟨g, 0, none⟩)] 24)).alloc (.cells #[.pointer (some ⟨g, 0, none⟩)] 24)).alloc (.cells #[.func (.func 29) #[] #[.pointer (some ⟨wn.heap.size + 1, 0, none⟩)]] 48)) := below_step (below_step hb1 hb2) hb3
  have hc1b := (hb3.block _ (blk_lt ((hb2.block _ (blk_lt hct1)).trans hct1))).trans ((hb2.block _ (blk_lt hct1)).trans hct1)
  have hc2b := (hb3.block _ (blk_lt hc2)).trans hc2
  rw [hw3] at hc1b hc2b hc3 hb0
  rw [al_size, al_size] at hc3
  rw [al_size] at hc2b
  have hQl := HQ1.out.lt
  have hll := blk_lt HL1.out
  have hlm := blk_lt HM1.out
  have hls := blk_lt HS1.out
  have hl1 := (HB2.out.block _ hll).trans HL1.out
  have hm1 := (HB2.out.block _ hlm).trans HM1.out
  have hs1 := (HB2.out.block _ hls).trans HS1.out
  have HRS : Rs w AX AY cX cY X.length Y.length w.heap.size (w.heap.size + 1) (w.heap.size + 1 + 1) wn.heap.size (wn.heap.size + 1 + 1) (wn.heap.size + 1) g gt w3 := ⟨(hb0.block _ (blk_lt hl1)).trans hl1, (hb0.block _ (blk_lt hm1)).trans hm1, (hb0.block _ (blk_lt hs1)).trans hs1, hc1b, hc3, hc2b, by
      obtain ⟨g1, g2, g3⟩ := HG1.out
      intro k hk
      constructor
      · rcases hk with rfl | rfl | rfl | rfl | rfl | rfl <;> omega
      · rcases hk with rfl | rfl | rfl | rfl | rfl | rfl <;> omega, by
      obtain ⟨g1, g2, g3⟩ := HG1.out
      have := HB1.out.size
      exact ⟨by omega, by omega, by omega⟩, below_step (below_step HB1.out HB2.out) hb0⟩
  have HQ3 := Aside0.mk (HQ1.out.below hb0)
  have HGG : Aside0 (g ≠ gt) := ⟨HG1.out.2.2⟩
  clear hct1 hb1 hb2 hb3 hc2 hc3 hb0 hc1b hc2b hQl hll hlm hls hl1 hm1 hs1 HL1 HM1 HS1 HB1 HQ1 HG1 HB2
  have HRS := Aside0.mk HRS
  go_upto_region 7 with (first
    | (go_at_call 22; refine (all_calls _ _).mono ?_; rintro r w2 ⟨rfl, rfl⟩))
  try rw [hw3]
  clear hw3 cr0 fr0
  have HRS := HRS.out
  obtain ⟨bs, e1⟩ : ∃ b, w.heap.size + 1 + 1 = b := ⟨_, rfl⟩
  obtain ⟨bm, e2⟩ : ∃ b, w.heap.size + 1 = b := ⟨_, rfl⟩
  obtain ⟨bl, e3⟩ : ∃ b, w.heap.size = b := ⟨_, rfl⟩
  obtain ⟨ba, e4⟩ : ∃ b, wn.heap.size + 1 + 1 = b := ⟨_, rfl⟩
  obtain ⟨bB, e5⟩ : ∃ b, wn.heap.size + 1 = b := ⟨_, rfl⟩
  obtain ⟨br, e6⟩ : ∃ b, wn.heap.size = b := ⟨_, rfl⟩
  rw [e1, e4] at HRS ⊢
  rw [e2, e5] at HRS ⊢
  rw [e3, e6] at HRS ⊢
  clear e1 e2 e3 e4 e5 e6
  have HRS := Aside0.mk HRS
  have cl0 := blk_cell HRS.out.cl 0
  have fl0 := blk_frozen HRS.out.cl 0
  simp only [List.getElem?_toArray, List.getElem?_cons_zero, List.getElem?_cons_succ] at cl0
  go_wp2_with fail
  go_loopw [8] (fun i wr => ∃ k : Nat, k ≤ X.length ∧ i = .int .i64 k ∧ Aside0 (RQ wr g gt n (X.take k)) ∧ Aside0 (Rs w AX AY cX cY X.length Y.length bl bm bs br ba bB g gt wr)) (fun i _ => X.length - (intOf i).toNat)
  case atStart => exact ⟨0, Nat.zero_le _, rfl, HQ3, HRS⟩
  case round =>
    clear HQ3 HRS cl0 fl0
    obtain ⟨k, hk, rfl, HQ, HS⟩ := hrel
    have hk0 : (0 : Int) ≤ k := Int.natCast_nonneg k
    have cl0 := blk_cell HS.out.cl 0
    have fl0 := blk_frozen HS.out.cl 0
    simp only [List.getElem?_toArray, List.getElem?_cons_zero, List.getElem?_cons_succ] at cl0
    by_cases hlt : k < X.length
    · have hk2 : (k : Int) < (X.length : Int) := Int.ofNat_lt.mpr hlt
      obtain ⟨ad, eA, hcell⟩ := (HX.out.below HS.out.bel).2.2 (Nat.lt_of_le_of_lt (Nat.zero_le _) hlt)
      have hx := hcell k hlt
      have hts := take_snoc X k hlt
      obtain ⟨y, hy⟩ : ∃ y, X.getD k 0 = y := ⟨_, rfl⟩
      rw [hy] at hx hts
      have HTS := Aside0.mk hts
      rw [eA] at cl0
      have cr0 := blk_cell HS.out.cr 0
      have fr0 := blk_frozen HS.out.cr 0
      simp only [List.getElem?_toArray, List.getElem?_cons_zero, List.getElem?_cons_succ] at cr0
      have hroom : (X.take k).length < n := by rw [List.length_take]; exact Nat.lt_of_le_of_lt (Nat.min_le_left _ _) (ai4 HN.out hlt)
      clear hcell hts hy
      go_wp2_with fail
      refine start_ (n := 6) (S := fun w' => w'.cell? ⟨br, 0, none⟩ = some (.pointer (some ⟨g, 0, none⟩)) ∧ w'.cell? ⟨bl, 0, none⟩ = some (.slice (some ad) X.length cX) ∧ w'.cell? (ad.add k) = some (.int .i64 y) ∧ RQ w' g gt n (X.take k) ∧ Rs w AX AY cX cY X.length Y.length bl bm bs br ba bB g gt w') (ds := [5]) #[false, false, false, false, false, false] (by kernel_rfl) rfl rfl ⟨cr0, cl0, hx, HQ.out.drew, HS.out.below (drew_bel _)⟩ (fun hHeld => ?_)
      refine pure_ (i := 2) (N := some 53) (v := ?_) (a' := ?_) #[false, false, true, false, false, false] rfl rfl (by kernel_rfl) (fun _ _ _ h => h) (Or.inl ⟨by rfl, ?_⟩) ?_ ?_
      rotate_left
      · intro w'
        go_simp
        with_reducible rfl
      rotate_left
      · simp only [Act.put, List.setIfInBounds_toArray, List.set_cons_zero, List.set_cons_succ, i64_w, i32_w]
        rfl
      refine take_ (i := 0) (N := some 51) (v := ?_) (a' := ?_) #[true, false, true, false, false, false] rfl rfl (by kernel_rfl) (fun _ _ _ h => h) (Or.inl ⟨by rfl, ?_⟩) hHeld ?_ ?_
      rotate_left
      · rintro w' ⟨s0, s1, s2, s3, s4⟩
        go_simp
        with_reducible rfl
      rotate_left
      · simp only [Act.put, List.setIfInBounds_toArray, List.set_cons_zero, List.set_cons_succ, i64_w, i32_w]
        rfl
      refine take_ (i := 1) (N := some 52) (v := ?_) (a' := ?_) #[true, true, true, false, false, false] rfl rfl (by kernel_rfl) (fun _ _ _ h => h) (Or.inl ⟨by rfl, ?_⟩) hHeld ?_ ?_
      rotate_left
      · rintro w' ⟨s0, s1, s2, s3, s4⟩
        go_simp
        with_reducible rfl
      rotate_left
      · simp only [Act.put, List.setIfInBounds_toArray, List.set_cons_zero, List.set_cons_succ, i64_w, i32_w]
        rfl
      refine pure_ (i := 3) (N := some 54) (v := ?_) (a' := ?_) #[true, true, true, true, false, false] rfl rfl (by kernel_rfl) (fun _ _ _ h => h) (Or.inl ⟨by rfl, ?_⟩) ?_ ?_
      rotate_left
      · intro w'
        go_simp
        with_reducible rfl
      rotate_left
      · simp only [Act.put, List.setIfInBounds_toArray, List.set_cons_zero, List.set_cons_succ, i64_w, i32_w]
        rfl
      refine take_ (i := 4) (N := some 55) (v := ?_) (a' := ?_) #[true, true, true, true, true, false] rfl rfl (by kernel_rfl) (fun _ _ _ h => h) (Or.inl ⟨by rfl, ?_⟩) hHeld ?_ ?_
      rotate_left
      · rintro w' ⟨s0, s1, s2, s3, s4⟩
        go_simp
        with_reducible rfl
      rotate_left
      · simp only [Act.put, List.setIfInBounds_toArray, List.set_cons_zero, List.set_cons_succ, i64_w, i32_w]
        rfl
      refine last_ (i := 5) (N := some 56) #[true, true, true, true, true, true] rfl rfl (by kernel_rfl) (by decide) (fun K hK => ?_)
      refine goes_ Try.func11 (by kernel_rfl) rfl _ (by rfl) rfl rfl (by simp only [List.map_toArray, List.map_cons, List.map_nil]; rfl) ?_
      refine (pushq_room _ hHeld.2.2.2.1 y hroom).mono ?_
      rintro e w4 ⟨rfl, hQ4, hO4⟩
      refine ⟨_, rfl, ?_⟩
      have HQ4 := Aside0.mk hQ4
      have HS4 := Aside0.mk (hHeld.2.2.2.2.ring hO4)
      clear hQ4 hO4
      refine hK.out _ _ ?_
      clear hK K
      refine norm_ (a' := ?_) ?_ ?_
      rotate_left
      · show Act.put _ (some 56) _ = _
        simp only [Act.put, List.setIfInBounds_toArray, List.set_cons_zero, List.set_cons_succ, i64_w, i32_w]
        rfl
      refine done_ (by kernel_rfl) ?_
      clear hHeld cr0 fr0 hx hroom cl0 fl0
      go_wp2_with fail
      go_roundw
      case rel => exact ⟨k + 1, hlt, by go_num, ⟨by rw [← HTS.out]; exact HQ4.out⟩, HS4⟩
      case measure => simp [intOf]; first | exact ai3 hlt | omega
    · obtain rfl : k = X.length := ai2 hk hlt
      have hqX := HQ.out
      rw [List.take_length] at hqX
      have HQX := Aside0.mk hqX
      clear hqX HQ
      go_upto_region 12 with fail
      have hb1 := al_bel wr (.cells #[.int .i64 0] 3)
      have hcn := al_at wr (.cells #[.int .i64 0] 3)
      obtain ⟨W0, hW0⟩ : ∃ W0, wr.alloc (.cells #[.int .i64 0] 3) = W0 := ⟨_, rfl⟩
      rw [hW0] at hb1 hcn
      try rw [hW0]
      have HS0 := Aside0.mk (HS.out.below hb1)
      have HQ0 := Aside0.mk (HQX.out.below hb1)
      have HNN : Aside0 ((∀ k, (k = bl ∨ k = bm ∨ k = bs ∨ k = br ∨ k = ba ∨ k = bB) → k ≠ wr.heap.size) ∧ (wr.heap.size ≠ g ∧ wr.heap.size ≠ gt) ∧ w.heap.size ≤ wr.heap.size) := ⟨⟨fun k hk e => Nat.lt_irrefl _ (e ▸ HS.out.lt k hk), ⟨fun e => Nat.lt_irrefl _ (e ▸ HQX.out.lt.1), fun e => Nat.lt_irrefl _ (e ▸ HQX.out.lt.2)⟩, HS.out.bel.size⟩⟩
      obtain ⟨bn, ebn⟩ : ∃ bn, wr.heap.size = bn := ⟨_, rfl⟩
      rw [ebn] at hcn HNN ⊢
      clear ebn hW0 hb1 HS HQX cl0 fl0
      have HCN := Aside0.mk hcn
      clear hcn
      have cf0 := blk_cell HS0.out.ca 0
      have ff0 := blk_frozen HS0.out.ca 0
      simp only [List.getElem?_toArray, List.getElem?_cons_zero, List.getElem?_cons_succ] at cf0
      go_wp2_with fail
      clear cf0 ff0
      refine rangeH 58 59 10 11 57 rfl HS0.out.cB HQ0.out (I1 W0 X Y bn g gt n) (X1 X) (I1.own (blk_lt HCN.out) HQ0.out.lt.1 HQ0.out.lt.2) (fun c => X1.own c) ⟨⟨by rw [List.length_nil, List.take_zero], Only.refl _ _⟩, HCN.out, HQ0.out⟩ ?assign ?body ?done ?stop
      case assign =>
        intro l x W K hK
        simp only [asg, List.setIfInBounds_toArray, List.set_cons_zero, List.set_cons_succ] at hK
        gi_wp2_with fail
        exact hK
      case stop =>
        rintro D c pre W hD hp ⟨rfl, hnp⟩ hk
        exact absurd hp hnp
      case body =>
        rintro l pre ⟨i, y⟩ W hl hr ⟨⟨hpre, hO⟩, hcn, hq⟩ hlt
        obtain ⟨k, hk⟩ : ∃ k, pre.length = k := ⟨_, rfl⟩
        rw [hk] at hcn hq hlt
        have hk0 : (0 : Int) ≤ k := Int.natCast_nonneg k
        have HS1 : Aside0 (Rs w AX AY cX cY X.length Y.length bl bm bs br ba bB g gt W) := ⟨HS0.out.only hO (fun b hb q => by
            rcases q with q | q | q
            · exact HNN.out.1 b hb q
            · exact (HS0.out.ap b hb).1 q
            · exact (HS0.out.ap b hb).2 q) (fun b q => by
            rcases q with rfl | rfl | rfl
            · exact HNN.out.2.2
            · exact HS0.out.lo.2.1
            · exact HS0.out.lo.2.2)⟩
        have HCN1 := Aside0.mk hcn
        have HQ1 := Aside0.mk hq
        have HO1 := Aside0.mk hO
        have HPRE := Aside0.mk hpre
        have HK := Aside0.mk hk
        have cn0 := blk_cell hcn 0
        have fn0 := blk_frozen hcn 0
        have cl0 := blk_cell HS1.out.cl 0
        have fl0 := blk_frozen HS1.out.cl 0
        have cs0 := blk_cell HS1.out.cs 0
        have fs0 := blk_frozen HS1.out.cs 0
        simp only [List.getElem?_toArray, List.getElem?_cons_zero, List.getElem?_cons_succ] at cn0 cl0 cs0
        have HKS : Aside0 (KeepsFrom W0.heap.size W (W.setCell ⟨bs, 0, none⟩ (.bool false))) := ⟨keeps_only ((Only.refl W (fun q => q = bs)).set rfl) (fun q e => e ▸ blk_lt HS0.out.cs)⟩
        have hkI : (k : Int) < (X.length : Int) := Int.ofNat_lt.mpr hlt
        obtain ⟨ad, eA, hcell⟩ := (HX.out.below HS1.out.bel).2.2 (Nat.lt_of_le_of_lt (Nat.zero_le _) hlt)
        have hx := hcell k hlt
        obtain ⟨z, hz⟩ : ∃ z, X.getD k 0 = z := ⟨_, rfl⟩
        rw [hz] at hx
        rw [eA] at cl0
        clear hpre hO hcn hq hk hcell
        simp only [asg, List.setIfInBounds_toArray, List.set_cons_zero, List.set_cons_succ]
        by_cases h1 : i = (k : Int)
        · subst h1
          by_cases h2 : y = z
          · subst h2
            have hkp : decide ((X.length : Int) ≤ (k : Int)) = false := decide_eq_false (Int.not_le.mpr hkI)
            have hkq : ¬ (X.length : Int) ≤ (k : Int) := Int.not_le.mpr hkI
            have HI2 : Aside0 (∀ W' : World, W'.heap[bn]? = some (.cells #[.int .i64 ((k : Int) + 1)] 3 (0, 0)) → Only W0 W' (fun q => q = bn ∨ q = g ∨ q = gt) → RQ W' g gt n Y → I1 W0 X Y bn g gt n (pre ++ [((k : Int), y)]) W') := ⟨fun W' hc hO2 hq2 => ⟨⟨on_pre HPRE.out (by rw [HK.out]; exact hlt) (by rw [HK.out, hz]), hO2⟩, by rw [List.length_append, List.length_singleton, HK.out]; exact hc, by rw [List.length_append, List.length_singleton, if_neg (Nat.succ_ne_zero _)]; exact hq2⟩⟩
            have HKT : Aside0 (∀ W' : World, Only W W' (fun q => q = bn ∨ q = g ∨ q = gt) → KeepsFrom W0.heap.size W W' ∧ KpC W0.heap.size W W') := ⟨fun W' h => ⟨keeps_only h (fun q e => by
                rcases e with rfl | rfl | rfl
                · exact blk_lt HCN.out
                · exact HQ0.out.lt.1
                · exact HQ0.out.lt.2), kpc_only h (fun q e => by
                rcases e with rfl | rfl | rfl
                · exact blk_lt HCN.out
                · exact HQ0.out.lt.1
                · exact HQ0.out.lt.2)⟩⟩
            have HON : Aside0 (Only W (W.setCell ⟨bn, 0, none⟩ (.int .i64 ((k : Int) + 1))) (fun q => q = bn ∨ q = g ∨ q = gt)) := ⟨(Only.refl W _).set (.inl rfl)⟩
            have HCN2 : Aside0 ((W.setCell ⟨bn, 0, none⟩ (.int .i64 ((k : Int) + 1))).heap[bn]? = some (.cells #[.int .i64 ((k : Int) + 1)] 3 (0, 0))) := ⟨by simpa using blk_set HCN1.out 0 (.int .i64 ((k : Int) + 1))⟩
            have HOB : Aside0 (Only W (W.setCell ⟨bn, 0, none⟩ (.int .i64 ((k : Int) + 1))) (fun q => q = bn)) := ⟨(Only.refl W _).set rfl⟩
            have HQ2 := Aside0.mk (HQ1.out.only HOB.out (fun e => HNN.out.2.1.1 e.symm) (fun e => HNN.out.2.1.2 e.symm))
            by_cases hk00 : k = 0
            · have e3 : ((k : Int) == 0) = true := by rw [hk00]; rfl
              have hq2 := HQ2.out
              rw [if_pos hk00] at hq2
              have HS2 : Aside0 (Rs w AX AY cX cY X.length Y.length bl bm bs br ba bB g gt (W.setCell ⟨bn, 0, none⟩ (.int .i64 ((k : Int) + 1)))) := ⟨HS1.out.only HOB.out (fun b hb e => HNN.out.1 b hb e) (fun q e => e ▸ HNN.out.2.2)⟩
              have HTK := Aside0.mk (take_calls _ hq2 (X.length : Int) (by omega) (by omega))
              rw [Int.toNat_natCast] at HTK
              have cl0 := blk_cell HS2.out.cl 0
              have fl0 := blk_frozen HS2.out.cl 0
              have cr0 := blk_cell HS2.out.cr 0
              have fr0 := blk_frozen HS2.out.cr 0
              simp only [List.getElem?_toArray, List.getElem?_cons_zero, List.getElem?_cons_succ] at cl0 cr0
              rw [eA] at cl0
              clear hq2 HQ2 HQ1 hk00
              gi_wp2_with fail
              refine ⟨trivial, ?_⟩
              gi_at_call 12
              refine (calls_inR HTK.out).mono ?_
              rintro r w4 ⟨v4, rfl, hT4⟩
              have HQ4 := Aside0.mk hT4.ring
              have HS4 := Aside0.mk (HS2.out.ring hT4.only)
              have HO4 := Aside0.mk (HON.out.then (hT4.only.mono (fun q h => .inr h)))
              have HN4 := Aside0.mk (hT4.only.blk HCN2.out (fun q => q.elim HNN.out.2.1.1 HNN.out.2.1.2))
              clear hT4 HTK HS2 HON HCN2 HOB
              have hdr : X.drop X.length = [] := List.drop_length
              rw [hdr] at HQ4
              clear hdr cl0 fl0 cr0 fr0
              have cm0 := blk_cell HS4.out.cm 0
              have fm0 := blk_frozen HS4.out.cm 0
              simp only [List.getElem?_toArray, List.getElem?_cons_zero, List.getElem?_cons_succ] at cm0
              gi_wp2_with fail
              gi_loopw [12] (fun i wr => ∃ k2 : Nat, k2 ≤ Y.length ∧ i = .int .i64 k2 ∧ Aside0 (RQ wr g gt n (Y.take k2)) ∧ Aside0 (Rs w AX AY cX cY X.length Y.length bl bm bs br ba bB g gt wr) ∧ Aside0 (Only W wr (fun q => q = bn ∨ q = g ∨ q = gt)) ∧ Aside0 (wr.heap[bn]? = some (.cells #[.int .i64 ((k : Int) + 1)] 3 (0, 0)))) (fun i _ => Y.length - (intOf i).toNat)
              case atStart => exact ⟨0, Nat.zero_le _, rfl, HQ4, HS4, HO4, HN4⟩
              case round =>
                clear HQ4 HS4 HO4 HN4 cm0 fm0
                obtain ⟨k2, hk2, rfl, HQ5, HS5, HO5, HN5⟩ := hrel
                have hk20 : (0 : Int) ≤ k2 := Int.natCast_nonneg k2
                have cm0 := blk_cell HS5.out.cm 0
                have fm0 := blk_frozen HS5.out.cm 0
                simp only [List.getElem?_toArray, List.getElem?_cons_zero, List.getElem?_cons_succ] at cm0
                by_cases hlt2 : k2 < Y.length
                · have hlt2I : (k2 : Int) < (Y.length : Int) := Int.ofNat_lt.mpr hlt2
                  obtain ⟨ad2, eA2, hcell2⟩ := (HY.out.below HS5.out.bel).2.2 (Nat.lt_of_le_of_lt (Nat.zero_le _) hlt2)
                  have hx2 := hcell2 k2 hlt2
                  have hts := take_snoc Y k2 hlt2
                  obtain ⟨y2, hy2⟩ : ∃ y2, Y.getD k2 0 = y2 := ⟨_, rfl⟩
                  rw [hy2] at hx2 hts
                  have HTS := Aside0.mk hts
                  rw [eA2] at cm0
                  have cr0 := blk_cell HS5.out.cr 0
                  have fr0 := blk_frozen HS5.out.cr 0
                  simp only [List.getElem?_toArray, List.getElem?_cons_zero, List.getElem?_cons_succ] at cr0
                  have hroom : (Y.take k2).length < n := by rw [List.length_take]; exact Nat.lt_of_le_of_lt (Nat.min_le_left _ _) (ai5 HN.out hlt2)
                  clear hcell2 hts hy2
                  gi_wp2_with fail
                  refine startR_ (m := 6) (S := fun w' => w'.cell? ⟨br, 0, none⟩ = some (.pointer (some ⟨g, 0, none⟩)) ∧ w'.cell? ⟨bm, 0, none⟩ = some (.slice (some ad2) Y.length cY) ∧ w'.cell? (ad2.add k2) = some (.int .i64 y2) ∧ RQ w' g gt n (Y.take k2) ∧ Rs w AX AY cX cY X.length Y.length bl bm bs br ba bB g gt w' ∧ Only W w' (fun q => q = bn ∨ q = g ∨ q = gt) ∧ w'.heap[bn]? = some (.cells #[.int .i64 ((k : Int) + 1)] 3 (0, 0))) (ds := [5]) (by kernel_rfl) (by rintro ⟨_, _, h⟩; exact h) #[false, false, false, false, false, false] (by kernel_rfl) rfl rfl ⟨cr0, cm0, hx2, HQ5.out.drew, HS5.out.below (drew_bel _), HO5.out.drew, HN5.out⟩ (fun hHeld => ?_)
                  refine pure_ (i := 2) (N := some 93) (v := ?_) (a' := ?_) #[false, false, true, false, false, false] rfl rfl (by kernel_rfl) (fun _ _ _ h => h) (Or.inl ⟨by rfl, ?_⟩) ?_ ?_
                  rotate_left
                  · intro w'
                    go_simp
                    with_reducible rfl
                  rotate_left
                  · simp only [Act.put, List.setIfInBounds_toArray, List.set_cons_zero, List.set_cons_succ, i64_w, i32_w]
                    rfl
                  refine take_ (i := 0) (N := some 91) (v := ?_) (a' := ?_) #[true, false, true, false, false, false] rfl rfl (by kernel_rfl) (fun _ _ _ h => h) (Or.inl ⟨by rfl, ?_⟩) hHeld ?_ ?_
                  rotate_left
                  · rintro w' ⟨s0, s1, s2, s3, s4, s5, s6⟩
                    go_simp
                    with_reducible rfl
                  rotate_left
                  · simp only [Act.put, List.setIfInBounds_toArray, List.set_cons_zero, List.set_cons_succ, i64_w, i32_w]
                    rfl
                  refine take_ (i := 1) (N := some 92) (v := ?_) (a' := ?_) #[true, true, true, false, false, false] rfl rfl (by kernel_rfl) (fun _ _ _ h => h) (Or.inl ⟨by rfl, ?_⟩) hHeld ?_ ?_
                  rotate_left
                  · rintro w' ⟨s0, s1, s2, s3, s4, s5, s6⟩
                    go_simp
                    with_reducible rfl
                  rotate_left
                  · simp only [Act.put, List.setIfInBounds_toArray, List.set_cons_zero, List.set_cons_succ, i64_w, i32_w]
                    rfl
                  refine pure_ (i := 3) (N := some 94) (v := ?_) (a' := ?_) #[true, true, true, true, false, false] rfl rfl (by kernel_rfl) (fun _ _ _ h => h) (Or.inl ⟨by rfl, ?_⟩) ?_ ?_
                  rotate_left
                  · intro w'
                    go_simp
                    with_reducible rfl
                  rotate_left
                  · simp only [Act.put, List.setIfInBounds_toArray, List.set_cons_zero, List.set_cons_succ, i64_w, i32_w]
                    rfl
                  refine take_ (i := 4) (N := some 95) (v := ?_) (a' := ?_) #[true, true, true, true, true, false] rfl rfl (by kernel_rfl) (fun _ _ _ h => h) (Or.inl ⟨by rfl, ?_⟩) hHeld ?_ ?_
                  rotate_left
                  · rintro w' ⟨s0, s1, s2, s3, s4, s5, s6⟩
                    go_simp
                    with_reducible rfl
                  rotate_left
                  · simp only [Act.put, List.setIfInBounds_toArray, List.set_cons_zero, List.set_cons_succ, i64_w, i32_w]
                    rfl
                  refine last_ (i := 5) (N := some 96) #[true, true, true, true, true, true] rfl rfl (by kernel_rfl) (by decide) (fun K hK => ?_)
                  refine goes_ Try.func11 (by kernel_rfl) rfl _ (by rfl) rfl rfl (by simp only [List.map_toArray, List.map_cons, List.map_nil]; rfl) ?_
                  refine (pushq_room _ hHeld.2.2.2.1 y2 hroom).mono ?_
                  rintro e w6 ⟨rfl, hQ6, hO6⟩
                  refine ⟨_, rfl, ?_⟩
                  have HQ6 := Aside0.mk hQ6
                  have HS6 := Aside0.mk ((hHeld.2.2.2.2.1).ring hO6)
                  have HO6 := Aside0.mk ((hHeld.2.2.2.2.2.1).then (hO6.mono (fun q h => .inr h)))
                  have HN6 := Aside0.mk (hO6.blk (hHeld.2.2.2.2.2.2) (fun q => q.elim HNN.out.2.1.1 HNN.out.2.1.2))
                  clear hQ6 hO6
                  refine hK.out _ _ ?_
                  clear hK K
                  refine norm_ (a' := ?_) ?_ ?_
                  rotate_left
                  · show Act.put _ (some 96) _ = _
                    simp only [Act.put, List.setIfInBounds_toArray, List.set_cons_zero, List.set_cons_succ, i64_w, i32_w]
                    rfl
                  refine done_ (by kernel_rfl) ?_
                  clear hHeld cr0 fr0 hx2 hroom cm0 fm0
                  gi_wp2_with fail
                  go_roundw
                  case rel => exact ⟨k2 + 1, hlt2, by go_num, ⟨by rw [← HTS.out]; exact HQ6.out⟩, HS6, HO6, HN6⟩
                  case measure => simp [intOf]; first | exact ai3 hlt2 | omega
                · obtain rfl : k2 = Y.length := ai2 hk2 hlt2
                  have hq5 := HQ5.out
                  rw [List.take_length] at hq5
                  have HQ6 := Aside0.mk hq5
                  clear hq5
                  gi_wp2_with fail
                  exact ⟨(HKT.out _ HO5.out).1, (HKT.out _ HO5.out).2, HI2.out _ HN5.out (HO1.out.then HO5.out) HQ6.out⟩
            · have e3 : ((k : Int) == 0) = false := by simp only [beq_eq_false_iff_ne, ne_eq]; omega
              have hq2 := HQ2.out
              rw [if_neg hk00] at hq2
              have HQ3 := Aside0.mk hq2
              clear hq2 HQ2 HQ1 hk00
              gi_wp2_with fail
              exact ⟨(HKT.out _ HON.out).1, (HKT.out _ HON.out).2, HI2.out _ HCN2.out (HO1.out.then HON.out) HQ3.out⟩
          · have e2 : (y != z) = true := by simpa using h2
            have hkp : decide ((X.length : Int) ≤ (k : Int)) = false := decide_eq_false (Int.not_le.mpr hkI)
            have hkq : ¬ (X.length : Int) ≤ (k : Int) := Int.not_le.mpr hkI
            gi_wp2_with fail
            exact ⟨HKS.out, rfl, no_pre HPRE.out (by rw [HK.out]; exact hlt) (fun e => h2 (by rw [HK.out, hz] at e; exact (Prod.mk.inj e).2))⟩
        · have e1 : (i != (k : Int)) = true := by simpa using h1
          gi_wp2_with fail
          exact ⟨HKS.out, rfl, no_pre HPRE.out (by rw [HK.out]; exact hlt) (fun e => h1 (by rw [HK.out] at e; exact (Prod.mk.inj e).1))⟩
      case done =>
        rintro D W hD ⟨⟨_, hO⟩, hcn, hq⟩ hkD
        rw [en_len] at hcn hq
        have HS1 : Aside0 (Rs w AX AY cX cY X.length Y.length bl bm bs br ba bB g gt W) := ⟨HS0.out.only hO (fun b hb q => by
            rcases q with q | q | q
            · exact HNN.out.1 b hb q
            · exact (HS0.out.ap b hb).1 q
            · exact (HS0.out.ap b hb).2 q) (fun b q => by
            rcases q with rfl | rfl | rfl
            · exact HNN.out.2.2
            · exact HS0.out.lo.2.1
            · exact HS0.out.lo.2.2)⟩
        obtain ⟨N, hNow⟩ : ∃ N : List Int, (if X.length = 0 then X else Y) = N := ⟨_, rfl⟩
        rw [hNow] at hq
        have HNW := Aside0.mk hNow
        have HQ1 := Aside0.mk hq
        have HD1 := Aside0.mk hkD
        have hwD : w.heap.size ≤ D := Nat.le_trans HS0.out.bel.size hD
        have HWD := Aside0.mk hwD
        have cn0 := blk_cell hcn 0
        have fn0 := blk_frozen hcn 0
        have cl0 := blk_cell HS1.out.cl 0
        have fl0 := blk_frozen HS1.out.cl 0
        have cm0 := blk_cell HS1.out.cm 0
        have fm0 := blk_frozen HS1.out.cm 0
        simp only [List.getElem?_toArray, List.getElem?_cons_zero, List.getElem?_cons_succ] at cn0 cl0 cm0
        clear hNow hq hkD hcn hO hD hwD HS0 HQ0 HCN HNN
        have hb1 := al_bel W (.cells #[.slice AY Y.length cY] 22)
        have hcw := al_at W (.cells #[.slice AY Y.length cY] 22)
        obtain ⟨w4, hw4⟩ : ∃ w4, W.alloc (.cells #[.slice AY Y.length cY] 22) = w4 := ⟨_, rfl⟩
        rw [hw4] at hb1 hcw
        have cl1 := blk_cell ((hb1.block _ (blk_lt HS1.out.cl)).trans HS1.out.cl) 0
        simp only [List.getElem?_toArray, List.getElem?_cons_zero, List.getElem?_cons_succ] at cl1
        go_upto_if 104 with fail
        try rw [hw4]
        have HS4 := Aside0.mk (HS1.out.below hb1)
        have HQ4 := Aside0.mk (HQ1.out.below hb1)
        have HD4 := Aside0.mk ((hb1.block _ (blk_lt HD1.out)).trans HD1.out)
        have HNW2 : Aside0 ((∀ k, (k = bl ∨ k = bm ∨ k = bs ∨ k = br ∨ k = ba ∨ k = bB) → k ≠ W.heap.size) ∧ (W.heap.size ≠ g ∧ W.heap.size ≠ gt) ∧ w.heap.size ≤ W.heap.size ∧ D ≠ W.heap.size) := ⟨⟨fun k hk e => Nat.lt_irrefl _ (e ▸ HS1.out.lt k hk), ⟨fun e => Nat.lt_irrefl _ (e ▸ HQ1.out.lt.1), fun e => Nat.lt_irrefl _ (e ▸ HQ1.out.lt.2)⟩, HS1.out.bel.size, fun e => Nat.lt_irrefl _ (e ▸ blk_lt HD1.out)⟩⟩
        obtain ⟨bw, ebw⟩ : ∃ bw, W.heap.size = bw := ⟨_, rfl⟩
        rw [ebw] at hcw HNW2 ⊢
        have cw0 := blk_cell hcw 0
        have fw0 := blk_frozen hcw 0
        simp only [List.getElem?_toArray, List.getElem?_cons_zero, List.getElem?_cons_succ] at cw0
        have HCW := Aside0.mk hcw
        clear hw4 hb1 hcw ebw cl1 cn0 fn0 cl0 fl0 cm0 fm0 HS1 HQ1 HD1
        go_cut [13] from 20 (fun v wc => v = .pointer (some ⟨bw, 0, none⟩) ∧ ∃ (AN : Option Addr) (cN : Nat), Aside0 (wc.heap[bw]? = some (.cells #[.slice AN N.length cN] 22 (0, 0))) ∧ Aside0 (ReadsOf ei 0 w AN N.length N) ∧ Aside0 (Rs w AX AY cX cY X.length Y.length bl bm bs br ba bB g gt wc ∧ RQ wc g gt n N ∧ wc.heap[D]? = some (.deferred (some []))))
        case first =>
          by_cases hX0 : X.length = 0
          · have e0 : ((X.length : Int) == 0) = true := by rw [hX0]; rfl
            have hN : N = [] := by rw [← HNW.out, if_pos hX0]; exact List.eq_nil_of_length_eq_zero hX0
            have HNE := Aside0.mk hN
            have HO5 : Aside0 (Only w4 (w4.setCell ⟨bw, 0, none⟩ (.slice none 0 0)) (fun q => q = bw)) := ⟨(Only.refl _ _).set rfl⟩
            have HC5 : Aside0 ((w4.setCell ⟨bw, 0, none⟩ (.slice none 0 0)).heap[bw]? = some (.cells #[.slice none 0 0] 22 (0, 0))) := ⟨by simpa using blk_set HCW.out 0 (.slice none 0 0)⟩
            rw [e0]
            clear e0 hN hX0
            go_wp2_with fail
            go_meet
            refine ⟨rfl, none, 0, ?_, ?_, ⟨HS4.out.only HO5.out (fun b hb e => HNW2.out.1 b hb e) (fun q e => e ▸ HNW2.out.2.2.1), HQ4.out.only HO5.out (fun e => HNW2.out.2.1.1 e.symm) (fun e => HNW2.out.2.1.2 e.symm), HO5.out.blk HD4.out HNW2.out.2.2.2⟩⟩
            · rw [HNE.out]
              exact HC5
            · rw [HNE.out]
              exact ⟨⟨rfl, by simp, fun h => absurd h (Nat.lt_irrefl 0)⟩⟩
          · have e0 : ((X.length : Int) == 0) = false := by simp only [beq_eq_false_iff_ne, ne_eq]; omega
            have hN : N = Y := by rw [← HNW.out, if_neg hX0]
            have HNE := Aside0.mk hN
            rw [e0]
            clear e0 hN hX0
            go_wp2_with fail
            go_meet
            refine ⟨rfl, AY, cY, ?_, ?_, ⟨HS4.out, HQ4.out, HD4.out⟩⟩
            · rw [HNE.out]
              exact HCW
            · rw [HNE.out]
              exact HY
        case rest =>
          obtain ⟨rfl, AN, cN, HCW2, HRN, HR5⟩ := hcut
          clear HS4 HQ4 HD4 HCW cw0 fw0
          go_upto_region 30 with fail
          have hb1 := al_bel wc (.cells #[.int .i64 0] 3)
          have hco := al_at wc (.cells #[.int .i64 0] 3)
          obtain ⟨W5, hW5⟩ : ∃ W5, wc.alloc (.cells #[.int .i64 0] 3) = W5 := ⟨_, rfl⟩
          rw [hW5] at hb1 hco
          try rw [hW5]
          have HS5 := Aside0.mk (HR5.out.1.below hb1)
          have HQ5 := Aside0.mk (HR5.out.2.1.below hb1)
          have HD5 := Aside0.mk ((hb1.block _ (blk_lt HR5.out.2.2)).trans HR5.out.2.2)
          have HW5 := Aside0.mk ((hb1.block _ (blk_lt HCW2.out)).trans HCW2.out)
          have HNO : Aside0 ((∀ k, (k = bl ∨ k = bm ∨ k = bs ∨ k = br ∨ k = ba ∨ k = bB) → k ≠ wc.heap.size) ∧ (wc.heap.size ≠ g ∧ wc.heap.size ≠ gt) ∧ w.heap.size ≤ wc.heap.size ∧ D ≠ wc.heap.size ∧ bw ≠ wc.heap.size) := ⟨⟨fun k hk e => Nat.lt_irrefl _ (e ▸ HR5.out.1.lt k hk), ⟨fun e => Nat.lt_irrefl _ (e ▸ HR5.out.2.1.lt.1), fun e => Nat.lt_irrefl _ (e ▸ HR5.out.2.1.lt.2)⟩, HR5.out.1.bel.size, fun e => Nat.lt_irrefl _ (e ▸ blk_lt HR5.out.2.2), fun e => Nat.lt_irrefl _ (e ▸ blk_lt HCW2.out)⟩⟩
          obtain ⟨bo, ebo⟩ : ∃ bo, wc.heap.size = bo := ⟨_, rfl⟩
          rw [ebo] at hco HNO ⊢
          have HCO := Aside0.mk hco
          clear hW5 hb1 ebo hco HR5 HCW2
          have cf0 := blk_cell HS5.out.ca 0
          have ff0 := blk_frozen HS5.out.ca 0
          simp only [List.getElem?_toArray, List.getElem?_cons_zero, List.getElem?_cons_succ] at cf0
          go_wp2_with fail
          clear cf0 ff0
          refine rangeH 106 107 15 16 105 rfl HS5.out.cB HQ5.out (I2 W5 5 bo N) (X2 W5 5 bo 6 N) (I2.own (blk_lt HCO.out)) (fun c => X2.own (blk_lt HCO.out) c) ⟨⟨by rw [List.length_nil, List.take_zero], Nat.zero_le _⟩, Only.refl _ _, HCO.out⟩ ?assign2 ?body2 ?done2 ?stop2
          case assign2 =>
            intro l x W K hK
            simp only [asg, List.setIfInBounds_toArray, List.set_cons_zero, List.set_cons_succ] at hK
            gi_wp2_with fail
            exact hK
          case body2 =>
            rintro l pre ⟨i, y⟩ W hl ⟨rec, hrec⟩ ⟨⟨hpre, hp5⟩, hO, hcn⟩ hlt
            obtain ⟨k, hk⟩ : ∃ k, pre.length = k := ⟨_, rfl⟩
            rw [hk] at hcn hlt hp5
            have hk0 : (0 : Int) ≤ k := Int.natCast_nonneg k
            have HO1 := Aside0.mk hO
            have HPRE := Aside0.mk hpre
            have HK := Aside0.mk hk
            have HP5 := Aside0.mk hp5
            have hkb : (k : Int) ≤ 5 := by omega
            have HC1 := Aside0.mk hcn
            have HS1 : Aside0 (Rs w AX AY cX cY X.length Y.length bl bm bs br ba bB g gt W) := ⟨HS5.out.only hO (fun b hb e => HNO.out.1 b hb e) (fun q e => e ▸ HNO.out.2.2.1)⟩
            have HQ1 := Aside0.mk (HQ5.out.only hO (fun e => HNO.out.2.1.1 e.symm) (fun e => HNO.out.2.1.2 e.symm))
            have HW1 := Aside0.mk (hO.blk HW5.out HNO.out.2.2.2.2)
            have hkI : (k : Int) < (N.length : Int) := Int.ofNat_lt.mpr hlt
            have hb1 := al_bel W (.cells #[.int .i64 0] 3)
            have hci := al_at W (.cells #[.int .i64 0] 3)
            obtain ⟨Wi, hWi⟩ : ∃ Wi, W.alloc (.cells #[.int .i64 0] 3) = Wi := ⟨_, rfl⟩
            rw [hWi] at hb1 hci
            have HSi := Aside0.mk (HS1.out.below hb1)
            have HQi := Aside0.mk (HQ1.out.below hb1)
            have HWi := Aside0.mk ((hb1.block _ (blk_lt HW1.out)).trans HW1.out)
            have hreci := (hb1.block _ (blk_lt hrec)).trans hrec
            have HRI := Aside0.mk hreci
            have HBI := Aside0.mk hb1
            have HNI0 : ((∀ b, (b = bl ∨ b = bm ∨ b = bs ∨ b = br ∨ b = ba ∨ b = bB) → b ≠ W.heap.size) ∧ w.heap.size ≤ W.heap.size ∧ bw ≠ W.heap.size) := ⟨fun b hb e => Nat.lt_irrefl _ (e ▸ HS1.out.lt b hb), HS1.out.bel.size, fun e => Nat.lt_irrefl _ (e ▸ blk_lt HW1.out)⟩
            have hcai := HSi.out.ca
            rw [← hWi] at hcai
            have cf0 := blk_cell hcai 0
            have ff0 := blk_frozen hcai 0
            simp only [List.getElem?_toArray, List.getElem?_cons_zero, List.getElem?_cons_succ] at cf0
            have HWE := Aside0.mk hWi
            have cf1 := blk_cell HS1.out.ca 0
            have ff1 := blk_frozen HS1.out.ca 0
            simp only [List.getElem?_toArray, List.getElem?_cons_zero, List.getElem?_cons_succ] at cf1
            have hlba := blk_lt HS1.out.ca
            clear hpre hp5 hO hcn hk hb1 hrec hreci hWi hcai
            simp only [asg, List.setIfInBounds_toArray, List.set_cons_zero, List.set_cons_succ]
            gi_wp2_with fail
            rw [HWE.out]
            clear HWE cf0 ff0 cf1 ff1 hlba
            obtain ⟨bi, ebi⟩ : ∃ bi, W.heap.size = bi := ⟨_, rfl⟩
            have HBE : Aside0 (W.heap.size = bi) := ⟨ebi⟩
            rw [ebi] at hci HNI0 ⊢
            have HCI := Aside0.mk hci
            have HNI := Aside0.mk HNI0
            clear ebi hci HNI0
            refine rangeN 109 110 18 19 108 HRI.out (by rfl) HSi.out.cB HQi.out (I2 Wi 3 bi N) (X2 Wi 3 bi 8 N) (I2.own (blk_lt HCI.out)) (fun c => X2.own (blk_lt HCI.out) c) ⟨⟨by rw [List.length_nil, List.take_zero], Nat.zero_le _⟩, Only.refl _ _, HCI.out⟩ ?assign3 ?body3 ?done3 ?stop3
            case assign3 =>
              intro l x W K hK
              simp only [asg, List.setIfInBounds_toArray, List.set_cons_zero, List.set_cons_succ] at hK
              gi_wp2_with fail
              exact hK
            case body3 =>
              rintro l2 pre2 ⟨i2, y2⟩ W2 hl2 hr2 ⟨⟨hpre2, hp3⟩, hO2, hci2⟩ hlt2
              obtain ⟨k2, hk2⟩ : ∃ k2, pre2.length = k2 := ⟨_, rfl⟩
              rw [hk2] at hci2 hlt2 hp3
              have hk20 : (0 : Int) ≤ k2 := Int.natCast_nonneg k2
              have HO2 := Aside0.mk hO2
              have HPRE2 := Aside0.mk hpre2
              have HK2 := Aside0.mk hk2
              have HP3 := Aside0.mk hp3
              have hk2b : (k2 : Int) ≤ 3 := by omega
              have HCI2 := Aside0.mk hci2
              have HS2 : Aside0 (Rs w AX AY cX cY X.length Y.length bl bm bs br ba bB g gt W2) := ⟨HSi.out.only hO2 (fun b hb e => HNI.out.1 b hb e) (fun q e => e ▸ HNI.out.2.1)⟩
              have hcw := hO2.blk HWi.out HNI.out.2.2
              have ci0 := blk_cell hci2 0
              have fi0 := blk_frozen hci2 0
              have cw0 := blk_cell hcw 0
              have fw0 := blk_frozen hcw 0
              have cs0 := blk_cell HS2.out.cs 0
              have fs0 := blk_frozen HS2.out.cs 0
              simp only [List.getElem?_toArray, List.getElem?_cons_zero, List.getElem?_cons_succ] at ci0 cw0 cs0
              have hkI : (k2 : Int) < (N.length : Int) := Int.ofNat_lt.mpr hlt2
              obtain ⟨ad, eA, hcell⟩ := (HRN.out.below HS2.out.bel).2.2 (Nat.lt_of_le_of_lt (Nat.zero_le _) hlt2)
              have hx := hcell k2 hlt2
              obtain ⟨z, hz⟩ : ∃ z, N.getD k2 0 = z := ⟨_, rfl⟩
              rw [hz] at hx
              rw [eA] at cw0
              have HKS : Aside0 (KeepsFrom Wi.heap.size W2 (W2.setCell ⟨bs, 0, none⟩ (.bool false))) := ⟨keeps_only ((Only.refl W2 (fun q => q = bs)).set rfl) (fun q e => e ▸ blk_lt HSi.out.cs)⟩
              clear hpre2 hk2 hp3 hci2 hO2 hcw hcell
              simp only [asg, List.setIfInBounds_toArray, List.set_cons_zero, List.set_cons_succ]
              by_cases h1 : i2 = (k2 : Int)
              · subst h1
                by_cases h2 : y2 = z
                · subst h2
                  have hkp : decide ((N.length : Int) ≤ (k2 : Int)) = false := decide_eq_false (Int.not_le.mpr hkI)
                  have hkq : ¬ (N.length : Int) ≤ (k2 : Int) := Int.not_le.mpr hkI
                  have HON : Aside0 (Only W2 (W2.setCell ⟨bi, 0, none⟩ (.int .i64 ((k2 : Int) + 1))) (fun q => q = bi)) := ⟨(Only.refl W2 _).set rfl⟩
                  have HCN2 : Aside0 ((W2.setCell ⟨bi, 0, none⟩ (.int .i64 ((k2 : Int) + 1))).heap[bi]? = some (.cells #[.int .i64 ((k2 : Int) + 1)] 3 (0, 0))) := ⟨by simpa using blk_set HCI2.out 0 (.int .i64 ((k2 : Int) + 1))⟩
                  have HKT : Aside0 (KeepsFrom Wi.heap.size W2 (W2.setCell ⟨bi, 0, none⟩ (.int .i64 ((k2 : Int) + 1))) ∧ KpC Wi.heap.size W2 (W2.setCell ⟨bi, 0, none⟩ (.int .i64 ((k2 : Int) + 1)))) := ⟨keeps_only HON.out (fun q e => e ▸ blk_lt HCI.out), kpc_only HON.out (fun q e => e ▸ blk_lt HCI.out)⟩
                  by_cases h5 : k2 = 3
                  · have e5 : ((k2 : Int) == 3) = true := by rw [h5]; rfl
                    have H5 := Aside0.mk h5
                    clear h5
                    gi_wp2_with fail
                    refine ⟨HKT.out.1, .inr ⟨rfl, HO2.out.then HON.out, ?_⟩⟩
                    have h7 := HCN2.out
                    rw [H5.out] at h7 ⊢
                    exact h7
                  · have e5 : ((k2 : Int) == 3) = false := by simp only [beq_eq_false_iff_ne, ne_eq]; omega
                    have h6 : k2 + 1 ≤ 3 := by have := HP3.out; omega
                    have H6 := Aside0.mk h6
                    clear h5 h6
                    gi_wp2_with fail
                    exact ⟨HKT.out.1, HKT.out.2, ⟨on_pre HPRE2.out (by rw [HK2.out]; exact hlt2) (by rw [HK2.out, hz]), by rw [List.length_append, List.length_singleton, HK2.out]; exact H6.out⟩, HO2.out.then HON.out, by rw [List.length_append, List.length_singleton, HK2.out]; exact HCN2.out⟩
                · have e2 : (y2 != z) = true := by simpa using h2
                  have hkp : decide ((N.length : Int) ≤ (k2 : Int)) = false := decide_eq_false (Int.not_le.mpr hkI)
                  have hkq : ¬ (N.length : Int) ≤ (k2 : Int) := Int.not_le.mpr hkI
                  gi_wp2_with fail
                  exact ⟨HKS.out, .inl ⟨rfl, no_pre HPRE2.out (by rw [HK2.out]; exact hlt2) (fun e => h2 (by rw [HK2.out, hz] at e; exact (Prod.mk.inj e).2))⟩⟩
              · have e1 : (i2 != (k2 : Int)) = true := by simpa using h1
                gi_wp2_with fail
                exact ⟨HKS.out, .inl ⟨rfl, no_pre HPRE2.out (by rw [HK2.out]; exact hlt2) (fun e => h1 (by rw [HK2.out] at e; exact (Prod.mk.inj e).1))⟩⟩
            case done3 =>
              rintro W2 ⟨_, hO2, _⟩
              have HOF : Aside0 (Only W W2 (fun _ => False)) := ⟨only_new HBI.out hO2 (Nat.le_of_eq HBE.out) _⟩
              clear hO2
              have HS2 : Aside0 (Rs w AX AY cX cY X.length Y.length bl bm bs br ba bB g gt W2) := ⟨HS1.out.only HOF.out (fun _ _ q => q) (fun _ q => q.elim)⟩
              have hco := HOF.out.blk HC1.out id
              have hcw := HOF.out.blk HW1.out id
              have co0 := blk_cell hco 0
              have fo0 := blk_frozen hco 0
              have cw0 := blk_cell hcw 0
              have fw0 := blk_frozen hcw 0
              have cs0 := blk_cell HS2.out.cs 0
              have fs0 := blk_frozen HS2.out.cs 0
              simp only [List.getElem?_toArray, List.getElem?_cons_zero, List.getElem?_cons_succ] at co0 cw0 cs0
              have HCO2 := Aside0.mk hco
              obtain ⟨ad, eA, hcell⟩ := (HRN.out.below HS2.out.bel).2.2 (Nat.lt_of_le_of_lt (Nat.zero_le _) hlt)
              have hx := hcell k hlt
              obtain ⟨z, hz⟩ : ∃ z, N.getD k 0 = z := ⟨_, rfl⟩
              rw [hz] at hx
              rw [eA] at cw0
              have HKS : Aside0 (KeepsFrom W5.heap.size W (W2.setCell ⟨bs, 0, none⟩ (.bool false))) := ⟨keeps_only ((HOF.out.mono (T := fun q => q = bs) (fun _ q => q.elim)).set rfl) (fun q e => e ▸ blk_lt HS5.out.cs)⟩
              clear hco hcw hcell
              by_cases h1 : i = (k : Int)
              · subst h1
                by_cases h2 : y = z
                · subst h2
                  have hkp : decide ((N.length : Int) ≤ (k : Int)) = false := decide_eq_false (Int.not_le.mpr hkI)
                  have hkq : ¬ (N.length : Int) ≤ (k : Int) := Int.not_le.mpr hkI
                  have HON : Aside0 (Only W (W2.setCell ⟨bo, 0, none⟩ (.int .i64 ((k : Int) + 1))) (fun q => q = bo)) := ⟨(HOF.out.mono (T := fun q => q = bo) (fun _ q => q.elim)).set rfl⟩
                  have HCN2 : Aside0 ((W2.setCell ⟨bo, 0, none⟩ (.int .i64 ((k : Int) + 1))).heap[bo]? = some (.cells #[.int .i64 ((k : Int) + 1)] 3 (0, 0))) := ⟨by simpa using blk_set HCO2.out 0 (.int .i64 ((k : Int) + 1))⟩
                  have HKT : Aside0 (KeepsFrom W5.heap.size W (W2.setCell ⟨bo, 0, none⟩ (.int .i64 ((k : Int) + 1))) ∧ KpC W5.heap.size W (W2.setCell ⟨bo, 0, none⟩ (.int .i64 ((k : Int) + 1)))) := ⟨keeps_only HON.out (fun q e => e ▸ blk_lt HCO.out), kpc_only HON.out (fun q e => e ▸ blk_lt HCO.out)⟩
                  by_cases h5 : k = 5
                  · have e5 : ((k : Int) == 5) = true := by rw [h5]; rfl
                    have H5 := Aside0.mk h5
                    clear h5
                    gi_wp2_with fail
                    refine ⟨HKT.out.1, .inr ⟨rfl, HO1.out.then HON.out, ?_⟩⟩
                    have h7 := HCN2.out
                    rw [H5.out] at h7 ⊢
                    exact h7
                  · have e5 : ((k : Int) == 5) = false := by simp only [beq_eq_false_iff_ne, ne_eq]; omega
                    have h6 : k + 1 ≤ 5 := by omega
                    have H6 := Aside0.mk h6
                    clear h5 h6
                    gi_wp2_with fail
                    exact ⟨HKT.out.1, HKT.out.2, ⟨on_pre HPRE.out (by rw [HK.out]; exact hlt) (by rw [HK.out, hz]), by rw [List.length_append, List.length_singleton, HK.out]; exact H6.out⟩, HO1.out.then HON.out, by rw [List.length_append, List.length_singleton, HK.out]; exact HCN2.out⟩
                · have e2 : (y != z) = true := by simpa using h2
                  have hkp : decide ((N.length : Int) ≤ (k : Int)) = false := decide_eq_false (Int.not_le.mpr hkI)
                  have hkq : ¬ (N.length : Int) ≤ (k : Int) := Int.not_le.mpr hkI
                  gi_wp2_with fail
                  exact ⟨HKS.out, .inl ⟨rfl, no_pre HPRE.out (by rw [HK.out]; exact hlt) (fun e => h2 (by rw [HK.out, hz] at e; exact (Prod.mk.inj e).2))⟩⟩
              · have e1 : (i != (k : Int)) = true := by simpa using h1
                gi_wp2_with fail
                exact ⟨HKS.out, .inl ⟨rfl, no_pre HPRE.out (by rw [HK.out]; exact hlt) (fun e => h1 (by rw [HK.out] at e; exact (Prod.mk.inj e).1))⟩⟩
            case stop3 =>
              rintro c pre2 W2 hp2 (⟨rfl, hnp⟩ | ⟨rfl, hO2, _⟩)
              · exact absurd hp2 hnp
              · skip
                have HOF : Aside0 (Only W W2 (fun _ => False)) := ⟨only_new HBI.out hO2 (Nat.le_of_eq HBE.out) _⟩
                clear hO2
                have HS2 : Aside0 (Rs w AX AY cX cY X.length Y.length bl bm bs br ba bB g gt W2) := ⟨HS1.out.only HOF.out (fun _ _ q => q) (fun _ q => q.elim)⟩
                have hco := HOF.out.blk HC1.out id
                have hcw := HOF.out.blk HW1.out id
                have co0 := blk_cell hco 0
                have fo0 := blk_frozen hco 0
                have cw0 := blk_cell hcw 0
                have fw0 := blk_frozen hcw 0
                have cs0 := blk_cell HS2.out.cs 0
                have fs0 := blk_frozen HS2.out.cs 0
                simp only [List.getElem?_toArray, List.getElem?_cons_zero, List.getElem?_cons_succ] at co0 cw0 cs0
                have HCO2 := Aside0.mk hco
                obtain ⟨ad, eA, hcell⟩ := (HRN.out.below HS2.out.bel).2.2 (Nat.lt_of_le_of_lt (Nat.zero_le _) hlt)
                have hx := hcell k hlt
                obtain ⟨z, hz⟩ : ∃ z, N.getD k 0 = z := ⟨_, rfl⟩
                rw [hz] at hx
                rw [eA] at cw0
                have HKS : Aside0 (KeepsFrom W5.heap.size W (W2.setCell ⟨bs, 0, none⟩ (.bool false))) := ⟨keeps_only ((HOF.out.mono (T := fun q => q = bs) (fun _ q => q.elim)).set rfl) (fun q e => e ▸ blk_lt HS5.out.cs)⟩
                clear hco hcw hcell
                by_cases h1 : i = (k : Int)
                · subst h1
                  by_cases h2 : y = z
                  · subst h2
                    have hkp : decide ((N.length : Int) ≤ (k : Int)) = false := decide_eq_false (Int.not_le.mpr hkI)
                    have hkq : ¬ (N.length : Int) ≤ (k : Int) := Int.not_le.mpr hkI
                    have HON : Aside0 (Only W (W2.setCell ⟨bo, 0, none⟩ (.int .i64 ((k : Int) + 1))) (fun q => q = bo)) := ⟨(HOF.out.mono (T := fun q => q = bo) (fun _ q => q.elim)).set rfl⟩
                    have HCN2 : Aside0 ((W2.setCell ⟨bo, 0, none⟩ (.int .i64 ((k : Int) + 1))).heap[bo]? = some (.cells #[.int .i64 ((k : Int) + 1)] 3 (0, 0))) := ⟨by simpa using blk_set HCO2.out 0 (.int .i64 ((k : Int) + 1))⟩
                    have HKT : Aside0 (KeepsFrom W5.heap.size W (W2.setCell ⟨bo, 0, none⟩ (.int .i64 ((k : Int) + 1))) ∧ KpC W5.heap.size W (W2.setCell ⟨bo, 0, none⟩ (.int .i64 ((k : Int) + 1)))) := ⟨keeps_only HON.out (fun q e => e ▸ blk_lt HCO.out), kpc_only HON.out (fun q e => e ▸ blk_lt HCO.out)⟩
                    by_cases h5 : k = 5
                    · have e5 : ((k : Int) == 5) = true := by rw [h5]; rfl
                      have H5 := Aside0.mk h5
                      clear h5
                      gi_wp2_with fail
                      refine ⟨HKT.out.1, .inr ⟨rfl, HO1.out.then HON.out, ?_⟩⟩
                      have h7 := HCN2.out
                      rw [H5.out] at h7 ⊢
                      exact h7
                    · have e5 : ((k : Int) == 5) = false := by simp only [beq_eq_false_iff_ne, ne_eq]; omega
                      have h6 : k + 1 ≤ 5 := by omega
                      have H6 := Aside0.mk h6
                      clear h5 h6
                      gi_wp2_with fail
                      exact ⟨HKT.out.1, HKT.out.2, ⟨on_pre HPRE.out (by rw [HK.out]; exact hlt) (by rw [HK.out, hz]), by rw [List.length_append, List.length_singleton, HK.out]; exact H6.out⟩, HO1.out.then HON.out, by rw [List.length_append, List.length_singleton, HK.out]; exact HCN2.out⟩
                  · have e2 : (y != z) = true := by simpa using h2
                    have hkp : decide ((N.length : Int) ≤ (k : Int)) = false := decide_eq_false (Int.not_le.mpr hkI)
                    have hkq : ¬ (N.length : Int) ≤ (k : Int) := Int.not_le.mpr hkI
                    gi_wp2_with fail
                    exact ⟨HKS.out, .inl ⟨rfl, no_pre HPRE.out (by rw [HK.out]; exact hlt) (fun e => h2 (by rw [HK.out, hz] at e; exact (Prod.mk.inj e).2))⟩⟩
                · have e1 : (i != (k : Int)) = true := by simpa using h1
                  gi_wp2_with fail
                  exact ⟨HKS.out, .inl ⟨rfl, no_pre HPRE.out (by rw [HK.out]; exact hlt) (fun e => h1 (by rw [HK.out] at e; exact (Prod.mk.inj e).1))⟩⟩
          case done2 =>
            rintro D2 W hD2 ⟨_, hO, hcn⟩ hk2
            rw [en_len] at hcn
            have HS6 : Aside0 (Rs w AX AY cX cY X.length Y.length bl bm bs br ba bB g gt W) := ⟨HS5.out.only hO (fun b hb e => HNO.out.1 b hb e) (fun q e => e ▸ HNO.out.2.2.1)⟩
            have HD6 : Aside0 (W.heap[D]? = some (.deferred (some []))) := ⟨hO.blk HD5.out HNO.out.2.2.2.1⟩
            have hcw := hO.blk HW5.out HNO.out.2.2.2.2
            have HD2B : Aside0 (w.heap.size ≤ D2) := ⟨Nat.le_trans HS5.out.bel.size hD2⟩
            have HDB : Aside0 (D2 ≠ bs ∧ D ≠ bs ∧ D ≠ D2) := ⟨⟨(fun e => by
                have h8 := HS6.out.cs
                rw [← e, hk2] at h8
                cases h8), (fun e => by
                have h8 := HS6.out.cs
                rw [← e, HD6.out] at h8
                cases h8), fun e => Nat.lt_irrefl _ (Nat.lt_of_lt_of_le (blk_lt HD5.out) (e ▸ hD2))⟩⟩
            have co0 := blk_cell hcn 0
            have fo0 := blk_frozen hcn 0
            have cw0 := blk_cell hcw 0
            have fw0 := blk_frozen hcw 0
            have cs0 := blk_cell HS6.out.cs 0
            have fs0 := blk_frozen HS6.out.cs 0
            simp only [List.getElem?_toArray, List.getElem?_cons_zero, List.getElem?_cons_succ] at co0 cw0 cs0
            clear hcw hcn hO hD2
            go_wp2_with fail
            have hD2' := (Only.set (Only.refl W (fun q => q = bs)) (p := ⟨bs, 0, none⟩) (v := .bool true) rfl).blk hk2 HDB.out.1
            have hD1' := (Only.set (Only.refl W (fun q => q = bs)) (p := ⟨bs, 0, none⟩) (v := .bool true) rfl).blk HD6.out HDB.out.2.1
            have hD1'' : ((W.setCell ⟨bs, 0, none⟩ (.bool true)).putObj D2 (.deferred none)).heap[D]? = some (.deferred (some [])) := by rw [World.putObj_heap_other HDB.out.2.2]; exact hD1'
            have hB6 : Below w.heap.size w (W.setCell ⟨bs, 0, none⟩ (.bool true)) := HS6.out.bel.setCell (p := ⟨bs, 0, none⟩) HS6.out.lo.1 _
            have hc6 : (W.setCell ⟨bs, 0, none⟩ (.bool true)).heap[bs]? = some (.cells #[.bool true] 4 (0, 0)) := by simpa using blk_set HS6.out.cs 0 (.bool true)
            refine ⟨by simp, .inl ⟨_, _, rfl, run_takeDeferred hD2', ⟨by simp, .inl ⟨_, _, rfl, run_takeDeferred hD1'', ?_⟩⟩⟩⟩
            have hc7 : (((W.setCell ⟨bs, 0, none⟩ (.bool true)).putObj D2 (.deferred none)).putObj D (.deferred none)).heap[bs]? = some (.cells #[.bool true] 4 (0, 0)) := by rw [World.putObj_heap_other (fun e => HDB.out.2.1 e.symm), World.putObj_heap_other (fun e => HDB.out.1 e.symm)]; exact hc6
            have hc8 := blk_cell hc7 0
            simp only [List.getElem?_toArray, List.getElem?_cons_zero, List.getElem?_cons_succ] at hc8
            refine ⟨.bool true, ?_, rfl, hB6.trans ((belowK_b (w := w) (Nat.le_refl _) _ D2 _ _ HD2B.out hD2' rfl rfl).trans (belowK_b (w := w) (Nat.le_refl _) _ D _ _ HWD.out hD1'' rfl rfl))⟩
            simp [results, Try.results6, go_sem, hc8]
          case stop2 =>
            rintro D2 c pre W hD2 hp (⟨rfl, hnp⟩ | ⟨rfl, hO, hcn⟩) hk2
            · exact absurd hp hnp
            · have hcn : W.heap[bo]? = some (.cells #[.int .i64 6] 3 (0, 0)) := hcn
              have HS6 : Aside0 (Rs w AX AY cX cY X.length Y.length bl bm bs br ba bB g gt W) := ⟨HS5.out.only hO (fun b hb e => HNO.out.1 b hb e) (fun q e => e ▸ HNO.out.2.2.1)⟩
              have HD6 : Aside0 (W.heap[D]? = some (.deferred (some []))) := ⟨hO.blk HD5.out HNO.out.2.2.2.1⟩
              have hcw := hO.blk HW5.out HNO.out.2.2.2.2
              have HD2B : Aside0 (w.heap.size ≤ D2) := ⟨Nat.le_trans HS5.out.bel.size hD2⟩
              have HDB : Aside0 (D2 ≠ bs ∧ D ≠ bs ∧ D ≠ D2) := ⟨⟨(fun e => by
                  have h8 := HS6.out.cs
                  rw [← e, hk2] at h8
                  cases h8), (fun e => by
                  have h8 := HS6.out.cs
                  rw [← e, HD6.out] at h8
                  cases h8), fun e => Nat.lt_irrefl _ (Nat.lt_of_lt_of_le (blk_lt HD5.out) (e ▸ hD2))⟩⟩
              have co0 := blk_cell hcn 0
              have fo0 := blk_frozen hcn 0
              have cw0 := blk_cell hcw 0
              have fw0 := blk_frozen hcw 0
              have cs0 := blk_cell HS6.out.cs 0
              have fs0 := blk_frozen HS6.out.cs 0
              simp only [List.getElem?_toArray, List.getElem?_cons_zero, List.getElem?_cons_succ] at co0 cw0 cs0
              clear hcw hcn hO hD2
              by_cases h6 : (6 : Int) = (N.length : Int)
              · have e6 : ((6 : Int) == (N.length : Int)) = true := by rw [← h6]; rfl
                clear h6
                go_wp2_with fail
                have hD2' := (Only.set (Only.refl W (fun q => q = bs)) (p := ⟨bs, 0, none⟩) (v := .bool true) rfl).blk hk2 HDB.out.1
                have hD1' := (Only.set (Only.refl W (fun q => q = bs)) (p := ⟨bs, 0, none⟩) (v := .bool true) rfl).blk HD6.out HDB.out.2.1
                have hD1'' : ((W.setCell ⟨bs, 0, none⟩ (.bool true)).putObj D2 (.deferred none)).heap[D]? = some (.deferred (some [])) := by rw [World.putObj_heap_other HDB.out.2.2]; exact hD1'
                have hB6 : Below w.heap.size w (W.setCell ⟨bs, 0, none⟩ (.bool true)) := HS6.out.bel.setCell (p := ⟨bs, 0, none⟩) HS6.out.lo.1 _
                have hc6 : (W.setCell ⟨bs, 0, none⟩ (.bool true)).heap[bs]? = some (.cells #[.bool true] 4 (0, 0)) := by simpa using blk_set HS6.out.cs 0 (.bool true)
                refine ⟨by simp, .inl ⟨_, _, rfl, run_takeDeferred hD2', ⟨by simp, .inl ⟨_, _, rfl, run_takeDeferred hD1'', ?_⟩⟩⟩⟩
                have hc7 : (((W.setCell ⟨bs, 0, none⟩ (.bool true)).putObj D2 (.deferred none)).putObj D (.deferred none)).heap[bs]? = some (.cells #[.bool true] 4 (0, 0)) := by rw [World.putObj_heap_other (fun e => HDB.out.2.1 e.symm), World.putObj_heap_other (fun e => HDB.out.1 e.symm)]; exact hc6
                have hc8 := blk_cell hc7 0
                simp only [List.getElem?_toArray, List.getElem?_cons_zero, List.getElem?_cons_succ] at hc8
                refine ⟨.bool true, ?_, rfl, hB6.trans ((belowK_b (w := w) (Nat.le_refl _) _ D2 _ _ HD2B.out hD2' rfl rfl).trans (belowK_b (w := w) (Nat.le_refl _) _ D _ _ HWD.out hD1'' rfl rfl))⟩
                simp [results, Try.results6, go_sem, hc8]
              · have e6 : ((6 : Int) == (N.length : Int)) = false := by simp only [beq_eq_false_iff_ne, ne_eq]; exact h6
                clear h6
                go_wp2_with fail
                have hD2' := (Only.set (Only.refl W (fun q => q = bs)) (p := ⟨bs, 0, none⟩) (v := .bool true) rfl).blk hk2 HDB.out.1
                have hD1' := (Only.set (Only.refl W (fun q => q = bs)) (p := ⟨bs, 0, none⟩) (v := .bool true) rfl).blk HD6.out HDB.out.2.1
                have hD1'' : ((W.setCell ⟨bs, 0, none⟩ (.bool true)).putObj D2 (.deferred none)).heap[D]? = some (.deferred (some [])) := by rw [World.putObj_heap_other HDB.out.2.2]; exact hD1'
                have hB6 : Below w.heap.size w (W.setCell ⟨bs, 0, none⟩ (.bool true)) := HS6.out.bel.setCell (p := ⟨bs, 0, none⟩) HS6.out.lo.1 _
                have hc6 : (W.setCell ⟨bs, 0, none⟩ (.bool true)).heap[bs]? = some (.cells #[.bool true] 4 (0, 0)) := by simpa using blk_set HS6.out.cs 0 (.bool true)
                refine ⟨by simp, .inl ⟨_, _, rfl, run_takeDeferred hD2', ⟨by simp, .inl ⟨_, _, rfl, run_takeDeferred hD1'', ?_⟩⟩⟩⟩
                have hc7 : (((W.setCell ⟨bs, 0, none⟩ (.bool true)).putObj D2 (.deferred none)).putObj D (.deferred none)).heap[bs]? = some (.cells #[.bool true] 4 (0, 0)) := by rw [World.putObj_heap_other (fun e => HDB.out.2.1 e.symm), World.putObj_heap_other (fun e => HDB.out.1 e.symm)]; exact hc6
                have hc8 := blk_cell hc7 0
                simp only [List.getElem?_toArray, List.getElem?_cons_zero, List.getElem?_cons_succ] at hc8
                refine ⟨.bool true, ?_, rfl, hB6.trans ((belowK_b (w := w) (Nat.le_refl _) _ D2 _ _ HD2B.out hD2' rfl rfl).trans (belowK_b (w := w) (Nat.le_refl _) _ D _ _ HWD.out hD1'' rfl rfl))⟩
                simp [results, Try.results6, go_sem, hc8]
end Go.Proofs.Ytjajaklichiknaa.Rg
