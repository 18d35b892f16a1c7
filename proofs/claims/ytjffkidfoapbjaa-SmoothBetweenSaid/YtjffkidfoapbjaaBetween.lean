/- Proved: the walk of SmoothBetween: true for every two views and every t. -/
import Derived.Test.YtjffkidfoapbjaaLent
import Derived.Test.YtjffkidfoapbjaaRefBetw
import Derived.Test.YtjffkidfoapbjaaAlive
namespace Go.Proofs.Ytjffkidfoapbjaa.Fl
open Go.RowKit Go.Proofs.YtjffkidfoapbjaaW.PrintWords Go.Proofs.YtjffkidfoapbjaaW.PrintLast Go.Proofs.YtjffkidfoapbjaaW.PrintMore
set_option linter.unusedVariables false
set_option linter.unusedSimpArgs false
attribute [local go_sem] run_store_float

/-- A view: its cells, and the things that its slice shows. -/
structure VW where
  tk : Int
  pl : Int
  u : Int
  v : Int
  vx : Int
  vy : Int
  hd : Int
  he : Int
  en : Int
  am : Int
  co : Int
  wt : Int
  sp : Int
  sc : Int
  nm : ByteArray
  A : Option Addr
  n : Nat
  c : Nat
  l : List S5
def VW.cs (p : VW) : List Value := [.int .u64 p.tk, .int .i64 p.pl, .string p.nm, .int .i64 p.u, .int .i64 p.v, .int .i64 p.vx, .int .i64 p.vy, .int .i64 p.hd, .int .i64 p.he, .int .i64 p.en, .int .i64 p.am, .int .i64 p.co, .int .i64 p.wt, .int .i64 p.sp, .int .i64 p.sc, .slice p.A p.n p.c]
structure VOk (w : World) (p : VW) : Prop where
  row : SRow w p.A p.n p.l
  hds : Hds p.l
  h0 : -9223372036854775808 ≤ p.hd
  h1 : p.hd ≤ 9223372036854775807
  n40 : p.n * 40 ≤ 140737488351232
theorem VOk.below {w w' : World} {p : VW} (h : VOk w p) (hb : Below w.heap.size w w') : VOk w' p := ⟨h.row.below hb, h.hds, h.h0, h.h1, h.n40⟩
theorem SRow.drew {w : World} {A : Option Addr} {n : Nat} {l : List S5} (h : SRow w A n l) : SRow w.drew A n l := ⟨h.len, fun k hk => by
  obtain ⟨ad, e, hc⟩ := h.at_ k hk
  exact ⟨ad, e, hc.drew⟩⟩
theorem PRow.of_own {w : World} {base c : Nat} {A : Option Addr} {ps : List P3} (h : OwnP w base (.slice A ps.length c) ps) : PRow w A ps.length ps := by
  obtain ⟨A', c', e, _, hp⟩ := own_prow h
  injection e with e1
  subst e1
  exact hp
theorem pick_view {w : World} {g : Nat} {pa pb : VW} (h : w.heap[g]? = some (.cells (pa.cs ++ pb.cs).toArray 48 (0, 0))) (k : Nat) (hk : k < 2) (ha : VOk w pa) (hb : VOk w pb) : ∃ p : VW, At w ⟨g, k * 16, none⟩ p.cs ∧ VOk w p := by
  match k, hk with
  | 0, _ => exact ⟨pa, At.of_mid (ds := []) (es := pb.cs) h, ha⟩
  | 1, _ => exact ⟨pb, At.of_mid (ds := pa.cs) (es := []) (by rw [List.append_nil]; exact h), hb⟩
theorem own_take {w : World} {base g n c : Nat} {l : List S5} (h : OwnS w base (.slice (some ⟨g, 0, none⟩) (n + 1) c) (l ++ [mark])) (hl : l.length = n) : SRow w (some ⟨g, 0, none⟩) n l := by
  have := own_srow h n (by rw [List.length_append]; omega)
  rwa [List.take_append_of_le_length (Nat.le_of_eq hl.symm), List.take_of_length_le (Nat.le_of_eq hl)] at this
theorem ps_le {ps qs : List P3} {l m : List S5} {t : Nat} (h : PFs ps (qs ++ seenB l m t)) (h0 : qs.length ≤ 1) : ps.length ≤ l.length + 1 := by
  have h1 := h.len
  have h2 := seenB_le l m t
  rw [List.length_append] at h1
  omega
theorem Hds.turn {l : List S5} (h : Hds l) (k : Nat) (z : Int) : Hds (l.set k ((l.getD k default).turn z)) := by
  have key : ∀ j, (l.set k ((l.getD k default).turn z)).getD j default = l.getD j default ∨ (l.set k ((l.getD k default).turn z)).getD j default = (l.getD j default).turn z := fun j => by
    by_cases e : k = j
    · subst e
      by_cases hk : k < l.length
      · right; simp [List.getD_eq_getElem?_getD, hk]
      · left; rw [List.set_eq_of_length_le (by omega)]
    · left
      simp [List.getD_eq_getElem?_getD, List.getElem?_set_ne e]
  refine ⟨fun j hj => ?_, fun j hj => ?_⟩
  · rw [List.length_set] at hj
    rcases key j with e | e
    · rw [e]; exact h.lo j hj
    · rw [e]; exact h.lo j hj
  · rw [List.length_set] at hj
    rcases key j with e | e
    · rw [e]; exact h.hi j hj
    · rw [e]; exact h.hi j hj
theorem Hds.marked {l : List S5} (h : Hds l) : Hds (l ++ [mark]) := by
  have key : ∀ j, j < (l ++ [mark]).length → (j < l.length ∧ (l ++ [mark]).getD j default = l.getD j default) ∨ (l ++ [mark]).getD j default = mark := fun j hj => by
    by_cases e : j < l.length
    · exact .inl ⟨e, by rw [List.getD_eq_getElem?_getD, List.getD_eq_getElem?_getD, List.getElem?_append_left e]⟩
    · rw [List.length_append, List.length_singleton] at hj
      obtain rfl : j = l.length := by omega
      exact .inr (by simp [List.getD_eq_getElem?_getD])
  refine ⟨fun j hj => ?_, fun j hj => ?_⟩
  · rcases key j hj with ⟨h1, e⟩ | e
    · rw [e]; exact h.lo j h1
    · rw [e]; decide
  · rcases key j hj with ⟨h1, e⟩ | e
    · rw [e]; exact h.hi j h1
    · rw [e]; decide
theorem Hds.take {l : List S5} (h : Hds l) (n : Nat) : Hds (l.take n) := by
  have key : ∀ j, j < (l.take n).length → j < l.length ∧ (l.take n).getD j default = l.getD j default := fun j hj => by
    rw [List.length_take] at hj
    exact ⟨by omega, by simp [List.getD_eq_getElem?_getD, List.getElem?_take, show j < n by omega]⟩
  exact ⟨fun j hj => by rw [(key j hj).2]; exact h.lo j (key j hj).1, fun j hj => by rw [(key j hj).2]; exact h.hi j (key j hj).1⟩
theorem own_size {w : World} {base g n c : Nat} {l : List S5} (h : OwnS w base (.slice (some ⟨g, 0, none⟩) n c) l) : base ≤ g ∧ g < w.heap.size := ⟨own_base h g rfl, own_lt h g rfl⟩
theorem own_fx {w : World} {base g n c : Nat} {l : List S5} (h : OwnS w base (.slice (some ⟨g, 0, none⟩) (n + 1) c) l) (hl : l.length = n + 1) (j : Nat) : w.frozen? ⟨g, j, none⟩ = false := by
  unfold OwnS at h
  rw [hl] at h
  exact World.ownsRow.frozenAt h j
theorem own_x {w : World} {base g n c : Nat} {l : List S5} (h : OwnS w base (.slice (some ⟨g, 0, none⟩) (n + 1) c) l) (hl : l.length = n + 1) (m : Nat) (hm : m < n) : w.cell? ⟨g, m * 5 + 2, none⟩ = some (.int .i64 (l.getD m default).x) := by
  have hc := World.ownsRow.cells h (g := g) rfl (m * 5 + 2) _ (by rw [rowS_get l m 2 (by omega) (by omega)]; rfl)
  rwa [add_plain] at hc
theorem cell_off {w : World} {g o j : Nat} {v : Value} (h : w.cell? ((⟨g, o, none⟩ : Addr).add j) = some v) (hj : j ≠ 0) : w.cell? ⟨g, o + j, none⟩ = some v := by
  have e : (⟨g, o, none⟩ : Addr).add j = ⟨g, o + j, none⟩ := by unfold Addr.add; simp [hj]
  rwa [e] at h
set_option maxHeartbeats 8000000 in
set_option maxRecDepth 100000 in
theorem between.calls (atk apl au av avx avy ahd ahe aen aam aco awt asp asc : Int) (anm : ByteArray) (aA : Option Addr) (an ac : Nat) (btk bpl bu bv bvx bvy bhd bhe ben bam bco bwt bsp bsc : Int) (bnm : ByteArray) (bA : Option Addr) (bn bc : Nat) (t : Nat) (w : World) (al bl : List S5) (hVa : VOk w ⟨atk, apl, au, av, avx, avy, ahd, ahe, aen, aam, aco, awt, asp, asc, anm, aA, an, ac, al⟩) (hVb : VOk w ⟨btk, bpl, bu, bv, bvx, bvy, bhd, bhe, ben, bam, bco, bwt, bsp, bsc, bnm, bA, bn, bc, bl⟩) : Calls Try.prog 7 #[.agg #[.int .u64 atk, .int .i64 apl, .string anm, .int .i64 au, .int .i64 av, .int .i64 avx, .int .i64 avy, .int .i64 ahd, .int .i64 ahe, .int .i64 aen, .int .i64 aam, .int .i64 aco, .int .i64 awt, .int .i64 asp, .int .i64 asc, .slice aA an ac], .agg #[.int .u64 btk, .int .i64 bpl, .string bnm, .int .i64 bu, .int .i64 bv, .int .i64 bvx, .int .i64 bvy, .int .i64 bhd, .int .i64 bhe, .int .i64 ben, .int .i64 bam, .int .i64 bco, .int .i64 bwt, .int .i64 bsp, .int .i64 bsc, .slice bA bn bc], .float .f32 t] w fun e w' => e = .returned (.bool true) ∧ Below w.heap.size w w' := by
  have hu47 := Try.underlying47
  have hu48 := Try.underlying48
  have hu40 := Try.underlying40
  have hu38 := Try.underlying38
  have hu55 := Try.underlying55
  have hu45 := Try.underlying45
  have hu51 := Try.underlying51
  have hu24 := Try.underlying24
  have hu3 := Try.underlying3
  have hu2 := Try.underlying2
  go_enter Try.func7, Try.ntmps7
  go_wp2_with (first
        | ((try (refine gate_guard (by rfl) ?_; dsimp only)); refine wpList_fl _ rfl _ _ _ _ _ rfl (by decide) _ _ _ _ rfl rfl (by first | assumption | exact Fe.refl _) (by first | assumption | exact Fe.refl _) ?_; intro z nd hz)
        | ((try (refine gate_guard (by rfl) ?_; dsimp only)); refine wpList_flc _ rfl _ _ _ _ _ rfl (by decide) _ _ _ _ rfl rfl (by first | assumption | exact Fe.refl _) (by first | assumption | exact Fe.refl _) ?_)
        | ((with_reducible refine gate_dst (N := 3) rfl ?_); refine box_event ?hg (N := 3) ?hd (cs := #[.int .u64 atk, .int .i64 apl, .string anm, .int .i64 au, .int .i64 av, .int .i64 avx, .int .i64 avy, .int .i64 ahd, .int .i64 ahe, .int .i64 aen, .int .i64 aam, .int .i64 aco, .int .i64 awt, .int .i64 asp, .int .i64 asc, .slice aA an ac]) (t := 47) ?hr ?_; (case hd => rfl); (case hg => rfl); (case hr => first | (go_simp; done) | (go_simp; rfl)); intro g3 eg3 w1 Xg3 Bg3; clear eg3)
        | ((with_reducible refine gate_dst (N := 4) rfl ?_); refine box_event ?hg (N := 4) ?hd (cs := #[.int .u64 btk, .int .i64 bpl, .string bnm, .int .i64 bu, .int .i64 bv, .int .i64 bvx, .int .i64 bvy, .int .i64 bhd, .int .i64 bhe, .int .i64 ben, .int .i64 bam, .int .i64 bco, .int .i64 bwt, .int .i64 bsp, .int .i64 bsc, .slice bA bn bc]) (t := 47) ?hr ?_; (case hd => rfl); (case hg => rfl); (case hr => first | (go_simp; done) | (go_simp; rfl)); intro g4 eg4 w2 Xg4 Bg4; have Xg3 := blk_below Xg3 Bg4; have hB := below_step Bg3 Bg4; have hVa := (hVa.below Bg3).below Bg4; have hVb := (hVb.below Bg3).below Bg4; clear eg4 Bg3 Bg4)
        | (go_at_call 10; refine (alive_calls _).mono ?_; rintro e w3 ⟨rfl, hb⟩; have Xg3 := blk_below Xg3 hb; have Xg4 := blk_below Xg4 hb; have hB := below_step hB hb; have hVa := hVa.below hb; have hVb := hVb.below hb; clear hb)
        | ((with_reducible refine gate_dst (N := 19) rfl ?_); refine wpList_load_at rfl 47 (.tmp 3) rfl ⟨g3, 0, none⟩ rfl [.int .u64 atk, .int .i64 apl, .string anm, .int .i64 au, .int .i64 av, .int .i64 avx, .int .i64 avy, .int .i64 ahd, .int .i64 ahe, .int .i64 aen, .int .i64 aam, .int .i64 aco, .int .i64 awt, .int .i64 asp, .int .i64 asc, .slice aA an ac] _ Try.underlying47 rfl (by kernel_rfl) (At.of_blk Xg3) ?_)
        | ((with_reducible refine gate_dst (N := 20) rfl ?_); refine wpList_load_at rfl 47 (.tmp 4) rfl ⟨g4, 0, none⟩ rfl [.int .u64 btk, .int .i64 bpl, .string bnm, .int .i64 bu, .int .i64 bv, .int .i64 bvx, .int .i64 bvy, .int .i64 bhd, .int .i64 bhe, .int .i64 ben, .int .i64 bam, .int .i64 bco, .int .i64 bwt, .int .i64 bsp, .int .i64 bsc, .slice bA bn bc] _ Try.underlying47 rfl (by kernel_rfl) (At.of_blk Xg4) ?_)
        | ((with_reducible refine gate_dst (N := 7) rfl ?_); refine box_event ?hg (N := 7) ?hd (cs := #[.int .u64 0, .int .i64 0, .string ⟨#[]⟩, .int .i64 0, .int .i64 0, .int .i64 0, .int .i64 0, .int .i64 0, .int .i64 0, .int .i64 0, .int .i64 0, .int .i64 0, .int .i64 0, .int .i64 0, .int .i64 0, .slice none 0 0, .int .u64 0, .int .i64 0, .string ⟨#[]⟩, .int .i64 0, .int .i64 0, .int .i64 0, .int .i64 0, .int .i64 0, .int .i64 0, .int .i64 0, .int .i64 0, .int .i64 0, .int .i64 0, .int .i64 0, .int .i64 0, .slice none 0 0]) (t := 48) ?hr ?_; (case hd => rfl); (case hg => rfl); (case hr => first | (go_simp; done) | (go_simp; rfl)); intro g7 eg7 w6 Xg7 Bg7; have hg7 : w3.heap.size ≤ g7 := Nat.le_of_eq eg7.symm; clear eg7)
        | ((with_reducible refine gate_store (t := 48) (p := 7) rfl ?_); refine wpList_store_blk rfl 48 (.tmp 7) (.tmp 21) rfl g7 [.int .u64 atk, .int .i64 apl, .string anm, .int .i64 au, .int .i64 av, .int .i64 avx, .int .i64 avy, .int .i64 ahd, .int .i64 ahe, .int .i64 aen, .int .i64 aam, .int .i64 aco, .int .i64 awt, .int .i64 asp, .int .i64 asc, .slice aA an ac, .int .u64 btk, .int .i64 bpl, .string bnm, .int .i64 bu, .int .i64 bv, .int .i64 bvx, .int .i64 bvy, .int .i64 bhd, .int .i64 bhe, .int .i64 ben, .int .i64 bam, .int .i64 bco, .int .i64 bwt, .int .i64 bsp, .int .i64 bsc, .slice bA bn bc] rfl rfl 48 _ Xg7 (by kernel_rfl) rfl rfl ?_; intro w7 Xs hb6 hk6 hz6; have hBr := hb6 _ _ Bg7 hg7; have hB := below_step hB hBr; have hVa := hVa.below hBr; have hVb := hVb.below hBr; clear hb6 hk6 hz6 Xg7 Bg7 hBr; have Xg7 := Xs; clear Xs Xg3 Xg4))
  go_loopw [8] (fun i wr => ∃ k : Nat, k ≤ 2 ∧ i = .int .i64 k ∧ Aside0 (Below w7.heap.size w7 wr)) (fun i _ => 2 - (intOf i).toNat)
  case atStart => exact ⟨0, by omega, rfl, ⟨Below.refl _ _⟩⟩
  case round =>
    obtain ⟨i, hi, rfl, HB⟩ := hrel
    have hBi := HB.out
    clear HB
    obtain ⟨wi, rfl⟩ : ∃ wi, wi = wr := ⟨_, rfl⟩
    by_cases hi2 : i < 2
    · have hi3 : (i : Int) < 2 := by omega
      have hi0 : (0 : Int) ≤ i := Int.natCast_nonneg i
      go_wp2_with fail
      go_loopw [9] (fun j wr => ∃ k : Nat, k ≤ 2 ∧ j = .int .i64 k ∧ Aside0 (Below w7.heap.size w7 wr)) (fun j _ => 2 - (intOf j).toNat)
      case atStart => exact ⟨0, by omega, rfl, ⟨hBi⟩⟩
      case round =>
        clear hBi
        obtain ⟨k, hk, rfl, HB⟩ := hrel
        have hB7 := HB.out
        clear HB
        obtain ⟨wk, rfl⟩ : ∃ wk, wk = wr := ⟨_, rfl⟩
        by_cases hk2 : k < 2
        · have hk3 : (k : Int) < 2 := by omega
          have hk0 : (0 : Int) ≤ k := Int.natCast_nonneg k
          obtain ⟨⟨ptk, ppl, pu, pv, pvx, pvy, phd, phe, pen, pam, pco, pwt, psp, psc, pnm, pA, pn, pc, pl⟩, hAt, hOk⟩ := pick_view (pa := ⟨atk, apl, au, av, avx, avy, ahd, ahe, aen, aam, aco, awt, asp, asc, anm, aA, an, ac, al⟩) (pb := ⟨btk, bpl, bu, bv, bvx, bvy, bhd, bhe, ben, bam, bco, bwt, bsp, bsc, bnm, bA, bn, bc, bl⟩) Xg7 i hi2 hVa hVb
          have HA_p : Aside0 (At w7 ⟨g7, i * 16, none⟩ [.int .u64 ptk, .int .i64 ppl, .string pnm, .int .i64 pu, .int .i64 pv, .int .i64 pvx, .int .i64 pvy, .int .i64 phd, .int .i64 phe, .int .i64 pen, .int .i64 pam, .int .i64 pco, .int .i64 pwt, .int .i64 psp, .int .i64 psc, .slice pA pn pc]) := ⟨hAt⟩
          obtain ⟨hS, hH_p, h0_p, h1_p, n40_p⟩ := hOk
          have HS_p : Aside0 (SRow w7 pA pn pl) := ⟨hS⟩
          have HL_p := Aside0.mk hS.len
          have HC_p : Aside0 (w7.cell? ⟨g7, i * 16 + 15, none⟩ = some (.slice pA pn pc)) := ⟨cell_off (hAt.cell 15 rfl) (by decide)⟩
          clear hAt hS
          have hAt_p := HA_p.out.below hB7
          have hS_p := HS_p.out.below hB7
          have c15_p := pw_cell_below hB7 HC_p.out
          obtain ⟨⟨qtk, qpl, qu, qv, qvx, qvy, qhd, qhe, qen, qam, qco, qwt, qsp, qsc, qnm, qA, qn, qc, ql⟩, hAt, hOk⟩ := pick_view (pa := ⟨atk, apl, au, av, avx, avy, ahd, ahe, aen, aam, aco, awt, asp, asc, anm, aA, an, ac, al⟩) (pb := ⟨btk, bpl, bu, bv, bvx, bvy, bhd, bhe, ben, bam, bco, bwt, bsp, bsc, bnm, bA, bn, bc, bl⟩) Xg7 k hk2 hVa hVb
          have HA_q : Aside0 (At w7 ⟨g7, k * 16, none⟩ [.int .u64 qtk, .int .i64 qpl, .string qnm, .int .i64 qu, .int .i64 qv, .int .i64 qvx, .int .i64 qvy, .int .i64 qhd, .int .i64 qhe, .int .i64 qen, .int .i64 qam, .int .i64 qco, .int .i64 qwt, .int .i64 qsp, .int .i64 qsc, .slice qA qn qc]) := ⟨hAt⟩
          obtain ⟨hS, hH_q, h0_q, h1_q, n40_q⟩ := hOk
          have HS_q : Aside0 (SRow w7 qA qn ql) := ⟨hS⟩
          have HL_q := Aside0.mk hS.len
          have HC_q : Aside0 (w7.cell? ⟨g7, k * 16 + 15, none⟩ = some (.slice qA qn qc)) := ⟨cell_off (hAt.cell 15 rfl) (by decide)⟩
          clear hAt hS
          have hAt_q := HA_q.out.below hB7
          have hS_q := HS_q.out.below hB7
          have c15_q := pw_cell_below hB7 HC_q.out
          have HK7 := Aside0.mk hB7.size
          go_wp2_with (first
            | ((with_reducible refine gate_dst (N := 32) rfl ?_); refine wpList_load_at rfl 47 (.tmp 31) rfl ⟨g7, i * 16, none⟩ rfl [.int .u64 ptk, .int .i64 ppl, .string pnm, .int .i64 pu, .int .i64 pv, .int .i64 pvx, .int .i64 pvy, .int .i64 phd, .int .i64 phe, .int .i64 pen, .int .i64 pam, .int .i64 pco, .int .i64 pwt, .int .i64 psp, .int .i64 psc, .slice pA pn pc] _ Try.underlying47 rfl (by kernel_rfl) hAt_p ?_)
            | ((with_reducible refine gate_dst (N := 33) rfl ?_); (with_reducible refine gate_callee (f := 24) rfl ?_); refine goesL_ _ rfl rfl Try.func24 (by kernel_rfl) rfl _ rfl (by simp only [List.map_toArray, List.map_cons, List.map_nil]; rfl) ?_; refine (lent_calls ptk ppl pu pv pvx pvy phd phe pen pam pco pwt psp psc pnm pA pn pc _ pl hS_p n40_p).mono ?_; rintro e wx ⟨gx, cx, rfl, hcx, hOx, hbx⟩; refine ⟨_, rfl, ?_⟩; have hB7 := below_step hB7 hbx; have hAt_p := HA_p.out.below hB7; have hS_p := HS_p.out.below hB7; have c15_p := pw_cell_below hB7 HC_p.out; have hAt_q := HA_q.out.below hB7; have hS_q := HS_q.out.below hB7; have c15_q := pw_cell_below hB7 HC_q.out; clear hbx)
            | ((with_reducible refine gate_dst (N := 36) rfl ?_); refine wpList_load_at rfl 47 (.tmp 35) rfl ⟨g7, k * 16, none⟩ rfl [.int .u64 qtk, .int .i64 qpl, .string qnm, .int .i64 qu, .int .i64 qv, .int .i64 qvx, .int .i64 qvy, .int .i64 qhd, .int .i64 qhe, .int .i64 qen, .int .i64 qam, .int .i64 qco, .int .i64 qwt, .int .i64 qsp, .int .i64 qsc, .slice qA qn qc] _ Try.underlying47 rfl (by kernel_rfl) hAt_q ?_)
            | ((with_reducible refine gate_dst (N := 37) rfl ?_); (with_reducible refine gate_callee (f := 24) rfl ?_); refine goesL_ _ rfl rfl Try.func24 (by kernel_rfl) rfl _ rfl (by simp only [List.map_toArray, List.map_cons, List.map_nil]; rfl) ?_; refine (lent_calls qtk qpl qu qv qvx qvy qhd qhe qen qam qco qwt qsp qsc qnm qA qn qc _ ql hS_q n40_q).mono ?_; rintro e wy ⟨gy, cy, rfl, hcy, hOy, hby⟩; refine ⟨_, rfl, ?_⟩; have hB7 := below_step hB7 hby; have hAt_p := HA_p.out.below hB7; have hS_p := HS_p.out.below hB7; have c15_p := pw_cell_below hB7 HC_p.out; have hAt_q := HA_q.out.below hB7; have hS_q := HS_q.out.below hB7; have c15_q := pw_cell_below hB7 HC_q.out; have hxy : gx ≠ gy := (by have h1 := (own_size hOx).2; have h2 := (own_size hOy).1; omega); have hOx := pw_own_below hOx hby; clear hby)
            | ((with_reducible refine gate_dst (N := 50) rfl ?_); refine wpList_load_at rfl 47 (.tmp 49) rfl ⟨g7, i * 16, none⟩ rfl [.int .u64 ptk, .int .i64 ppl, .string pnm, .int .i64 pu, .int .i64 pv, .int .i64 pvx, .int .i64 pvy, .int .i64 phd, .int .i64 phe, .int .i64 pen, .int .i64 pam, .int .i64 pco, .int .i64 pwt, .int .i64 psp, .int .i64 psc, .slice pA pn pc] _ Try.underlying47 rfl (by kernel_rfl) hAt_p ?_)
            | ((with_reducible refine gate_dst (N := 14) rfl ?_); refine box_event ?hg (N := 14) ?hd (cs := #[.int .u64 0, .int .i64 0, .string ⟨#[]⟩, .int .i64 0, .int .i64 0, .int .i64 0, .int .i64 0, .int .i64 0, .int .i64 0, .int .i64 0, .int .i64 0, .int .i64 0, .int .i64 0, .int .i64 0, .int .i64 0, .slice none 0 0]) (t := 47) ?hr ?_; (case hd => rfl); (case hg => rfl); (case hr => first | (go_simp; done) | (go_simp; rfl)); intro g14 eg14 wag14 Xg14 Bg14; have n7g14 : w7.heap.size ≤ g14 := (by rw [eg14]; exact hB7.size); have nxg14 : gx ≠ g14 := (by have := (own_size hOx).2; omega); have nyg14 : gy ≠ g14 := (by have := (own_size hOy).2; omega); have lg14 := Nat.le_of_eq eg14.symm; clear eg14)
            | ((with_reducible refine gate_store (t := 47) (p := 14) rfl ?_); refine wpList_store_blk rfl 47 (.tmp 14) (.tmp 50) rfl g14 [.int .u64 ptk, .int .i64 ppl, .string pnm, .int .i64 pu, .int .i64 pv, .int .i64 pvx, .int .i64 pvy, .int .i64 phd, .int .i64 phe, .int .i64 pen, .int .i64 pam, .int .i64 pco, .int .i64 pwt, .int .i64 psp, .int .i64 psc, .slice pA pn pc] rfl rfl 47 _ Xg14 (by kernel_rfl) rfl rfl ?_; intro wbg14 Xs hb6 hk6 hz6; have hBr := hb6 _ _ Bg14 lg14; clear hb6 hk6 hz6 Xg14 Bg14; have Xg14 := Xs; clear Xs; have hB7 := below_step hB7 hBr; have hOx := pw_own_below hOx hBr; have hOy := pw_own_below hOy hBr; have hAt_p := HA_p.out.below hB7; have hS_p := HS_p.out.below hB7; have c15_p := pw_cell_below hB7 HC_p.out; have hAt_q := HA_q.out.below hB7; have hS_q := HS_q.out.below hB7; have c15_q := pw_cell_below hB7 HC_q.out; clear hBr)
            | ((with_reducible refine gate_dst (N := 53) rfl ?_); refine wpList_load_at rfl 47 (.tmp 52) rfl ⟨g7, k * 16, none⟩ rfl [.int .u64 qtk, .int .i64 qpl, .string qnm, .int .i64 qu, .int .i64 qv, .int .i64 qvx, .int .i64 qvy, .int .i64 qhd, .int .i64 qhe, .int .i64 qen, .int .i64 qam, .int .i64 qco, .int .i64 qwt, .int .i64 qsp, .int .i64 qsc, .slice qA qn qc] _ Try.underlying47 rfl (by kernel_rfl) hAt_q ?_)
            | ((with_reducible refine gate_dst (N := 15) rfl ?_); refine box_event ?hg (N := 15) ?hd (cs := #[.int .u64 0, .int .i64 0, .string ⟨#[]⟩, .int .i64 0, .int .i64 0, .int .i64 0, .int .i64 0, .int .i64 0, .int .i64 0, .int .i64 0, .int .i64 0, .int .i64 0, .int .i64 0, .int .i64 0, .int .i64 0, .slice none 0 0]) (t := 47) ?hr ?_; (case hd => rfl); (case hg => rfl); (case hr => first | (go_simp; done) | (go_simp; rfl)); intro g15 eg15 wag15 Xg15 Bg15; have n7g15 : w7.heap.size ≤ g15 := (by rw [eg15]; exact hB7.size); have nxg15 : gx ≠ g15 := (by have := (own_size hOx).2; omega); have nyg15 : gy ≠ g15 := (by have := (own_size hOy).2; omega); have n1415 : g14 ≠ g15 := (by have := blk_lt Xg14; omega); have lg15 := Nat.le_of_eq eg15.symm; clear eg15)
            | ((with_reducible refine gate_store (t := 47) (p := 15) rfl ?_); refine wpList_store_blk rfl 47 (.tmp 15) (.tmp 53) rfl g15 [.int .u64 qtk, .int .i64 qpl, .string qnm, .int .i64 qu, .int .i64 qv, .int .i64 qvx, .int .i64 qvy, .int .i64 qhd, .int .i64 qhe, .int .i64 qen, .int .i64 qam, .int .i64 qco, .int .i64 qwt, .int .i64 qsp, .int .i64 qsc, .slice qA qn qc] rfl rfl 47 _ Xg15 (by kernel_rfl) rfl rfl ?_; intro wbg15 Xs hb6 hk6 hz6; have hBr := hb6 _ _ Bg15 lg15; clear hb6 hk6 hz6 Xg15 Bg15; have Xg15 := Xs; clear Xs; have hB7 := below_step hB7 hBr; have hOx := pw_own_below hOx hBr; have hOy := pw_own_below hOy hBr; have Xg14 := blk_below Xg14 hBr; have hAt_p := HA_p.out.below hB7; have hS_p := HS_p.out.below hB7; have c15_p := pw_cell_below hB7 HC_p.out; have hAt_q := HA_q.out.below hB7; have hS_q := HS_q.out.below hB7; have c15_q := pw_cell_below hB7 HC_q.out; have n1514 := n1415.symm; have c14_15 : wbg15.cell? ⟨g14, 15, none⟩ = some (.slice pA pn pc) := (blk_cell Xg14 15).trans rfl; have f14_15 := blk_frozen Xg14 15; have c15_15 : wbg15.cell? ⟨g15, 15, none⟩ = some (.slice qA qn qc) := (blk_cell Xg15 15).trans rfl; have f15_15 := blk_frozen Xg15 15; clear hBr))
          have hlp := HL_p.out
          have hlq := HL_q.out
          have Y14 : ((wbg15.setCell ⟨g14, 15, none⟩ (.slice (some ⟨gx, 0, none⟩) pn cx)).setCell ⟨g15, 15, none⟩ (.slice (some ⟨gy, 0, none⟩) qn cy)).heap[g14]? = some (.cells #[.int .u64 ptk, .int .i64 ppl, .string pnm, .int .i64 pu, .int .i64 pv, .int .i64 pvx, .int .i64 pvy, .int .i64 phd, .int .i64 phe, .int .i64 pen, .int .i64 pam, .int .i64 pco, .int .i64 pwt, .int .i64 psp, .int .i64 psc, .slice (some ⟨gx, 0, none⟩) pn cx] 47 (0, 0)) := blk_far (blk_put Xg14 15 _ rfl) (p := ⟨g15, 15, none⟩) n1415 _
          have Y15 : ((wbg15.setCell ⟨g14, 15, none⟩ (.slice (some ⟨gx, 0, none⟩) pn cx)).setCell ⟨g15, 15, none⟩ (.slice (some ⟨gy, 0, none⟩) qn cy)).heap[g15]? = some (.cells #[.int .u64 qtk, .int .i64 qpl, .string qnm, .int .i64 qu, .int .i64 qv, .int .i64 qvx, .int .i64 qvy, .int .i64 qhd, .int .i64 qhe, .int .i64 qen, .int .i64 qam, .int .i64 qco, .int .i64 qwt, .int .i64 qsp, .int .i64 qsc, .slice (some ⟨gy, 0, none⟩) qn cy] 47 (0, 0)) := blk_put (blk_far Xg15 (p := ⟨g14, 15, none⟩) n1514 _) 15 _ rfl
          have hOx : OwnS ((wbg15.setCell ⟨g14, 15, none⟩ (.slice (some ⟨gx, 0, none⟩) pn cx)).setCell ⟨g15, 15, none⟩ (.slice (some ⟨gy, 0, none⟩) qn cy)) wk.heap.size (.slice (some ⟨gx, 0, none⟩) (pn + 1) cx) (pl ++ [mark]) := own_setCell (own_setCell hOx (p := ⟨g14, 15, none⟩) (fun e => nxg14 (by injection e with e; exact e.symm)) _) (p := ⟨g15, 15, none⟩) (fun e => nxg15 (by injection e with e; exact e.symm)) _
          have hOy : OwnS ((wbg15.setCell ⟨g14, 15, none⟩ (.slice (some ⟨gx, 0, none⟩) pn cx)).setCell ⟨g15, 15, none⟩ (.slice (some ⟨gy, 0, none⟩) qn cy)) wx.heap.size (.slice (some ⟨gy, 0, none⟩) (qn + 1) cy) (ql ++ [mark]) := own_setCell (own_setCell hOy (p := ⟨g14, 15, none⟩) (fun e => nyg14 (by injection e with e; exact e.symm)) _) (p := ⟨g15, 15, none⟩) (fun e => nyg15 (by injection e with e; exact e.symm)) _
          have hB7 : Below w7.heap.size w7 ((wbg15.setCell ⟨g14, 15, none⟩ (.slice (some ⟨gx, 0, none⟩) pn cx)).setCell ⟨g15, 15, none⟩ (.slice (some ⟨gy, 0, none⟩) qn cy)) := (hB7.setCell n7g14 _).setCell n7g15 _
          clear Xg14 Xg15 c14_15 c15_15 f14_15 f15_15 hAt_p hAt_q hS_p hS_q c15_p c15_q
          generalize ((wbg15.setCell ⟨g14, 15, none⟩ (.slice (some ⟨gx, 0, none⟩) pn cx)).setCell ⟨g15, 15, none⟩ (.slice (some ⟨gy, 0, none⟩) qn cy)) = WV at *
          have h7x : w7.heap.size ≤ gx := by have h1 := (own_size hOx).1; have h2 := HK7.out; omega
          refine start_ (n := 30) (S := fun w' => At w' ⟨g14, 0, none⟩ [.int .u64 ptk, .int .i64 ppl, .string pnm, .int .i64 pu, .int .i64 pv, .int .i64 pvx, .int .i64 pvy, .int .i64 phd, .int .i64 phe, .int .i64 pen, .int .i64 pam, .int .i64 pco, .int .i64 pwt, .int .i64 psp, .int .i64 psc, .slice (some ⟨gx, 0, none⟩) pn cx] ∧ At w' ⟨g15, 0, none⟩ [.int .u64 qtk, .int .i64 qpl, .string qnm, .int .i64 qu, .int .i64 qv, .int .i64 qvx, .int .i64 qvy, .int .i64 qhd, .int .i64 qhe, .int .i64 qen, .int .i64 qam, .int .i64 qco, .int .i64 qwt, .int .i64 qsp, .int .i64 qsc, .slice (some ⟨gy, 0, none⟩) qn cy] ∧ At w' ⟨g7, i * 16, none⟩ [.int .u64 ptk, .int .i64 ppl, .string pnm, .int .i64 pu, .int .i64 pv, .int .i64 pvx, .int .i64 pvy, .int .i64 phd, .int .i64 phe, .int .i64 pen, .int .i64 pam, .int .i64 pco, .int .i64 pwt, .int .i64 psp, .int .i64 psc, .slice pA pn pc] ∧ At w' ⟨g7, k * 16, none⟩ [.int .u64 qtk, .int .i64 qpl, .string qnm, .int .i64 qu, .int .i64 qv, .int .i64 qvx, .int .i64 qvy, .int .i64 qhd, .int .i64 qhe, .int .i64 qen, .int .i64 qam, .int .i64 qco, .int .i64 qwt, .int .i64 qsp, .int .i64 qsc, .slice qA qn qc]) (ds := [27]) #[false, false, false, false, false, false, false, false, false, false, false, false, false, false, false, false, false, false, false, false, false, false, false, false, false, false, false, false, false, false] (by kernel_rfl) rfl rfl ⟨(At.of_blk Y14).drew, (At.of_blk Y15).drew, (HA_p.out.below hB7).drew, (HA_q.out.below hB7).drew⟩ (fun hHeld => ?_)
          refine pure_ (i := 2) (N := some 64) (v := ?_) (a' := ?_) #[false, false, true, false, false, false, false, false, false, false, false, false, false, false, false, false, false, false, false, false, false, false, false, false, false, false, false, false, false, false] rfl rfl (by kernel_rfl) (fun _ _ _ h => h) (Or.inl ⟨by rfl, ?_⟩) ?_ ?_
          rotate_left
          · intro w'
            go_simp
            with_reducible rfl
          rotate_left
          · simp only [Act.put, List.setIfInBounds_toArray, List.set_cons_zero, List.set_cons_succ, i64_w, i32_w]
            rfl
          refine pure_ (i := 4) (N := some 66) (v := ?_) (a' := ?_) #[false, false, true, false, true, false, false, false, false, false, false, false, false, false, false, false, false, false, false, false, false, false, false, false, false, false, false, false, false, false] rfl rfl (by kernel_rfl) (fun _ _ _ h => h) (Or.inl ⟨by rfl, ?_⟩) ?_ ?_
          rotate_left
          · intro w'
            go_simp
            with_reducible rfl
          rotate_left
          · simp only [Act.put, List.setIfInBounds_toArray, List.set_cons_zero, List.set_cons_succ, i64_w, i32_w]
            rfl
          refine pure_ (i := 5) (N := some 67) (v := ?_) (a' := ?_) #[false, false, true, false, true, true, false, false, false, false, false, false, false, false, false, false, false, false, false, false, false, false, false, false, false, false, false, false, false, false] rfl rfl (by kernel_rfl) (fun _ _ _ h => h) (Or.inl ⟨by rfl, ?_⟩) ?_ ?_
          rotate_left
          · intro w'
            go_simp
            with_reducible rfl
          rotate_left
          · simp only [Act.put, List.setIfInBounds_toArray, List.set_cons_zero, List.set_cons_succ, i64_w, i32_w]
            rfl
          refine pure_ (i := 7) (N := some 69) (v := ?_) (a' := ?_) #[false, false, true, false, true, true, false, true, false, false, false, false, false, false, false, false, false, false, false, false, false, false, false, false, false, false, false, false, false, false] rfl rfl (by kernel_rfl) (fun _ _ _ h => h) (Or.inl ⟨by rfl, ?_⟩) ?_ ?_
          rotate_left
          · intro w'
            go_simp
            with_reducible rfl
          rotate_left
          · simp only [Act.put, List.setIfInBounds_toArray, List.set_cons_zero, List.set_cons_succ, i64_w, i32_w]
            rfl
          refine pure_ (i := 8) (N := some 70) (v := ?_) (a' := ?_) #[false, false, true, false, true, true, false, true, true, false, false, false, false, false, false, false, false, false, false, false, false, false, false, false, false, false, false, false, false, false] rfl rfl (by kernel_rfl) (fun _ _ _ h => h) (Or.inl ⟨by rfl, ?_⟩) ?_ ?_
          rotate_left
          · intro w'
            go_simp
            with_reducible rfl
          rotate_left
          · simp only [Act.put, List.setIfInBounds_toArray, List.set_cons_zero, List.set_cons_succ, i64_w, i32_w]
            rfl
          refine pure_ (i := 10) (N := some 72) (v := ?_) (a' := ?_) #[false, false, true, false, true, true, false, true, true, false, true, false, false, false, false, false, false, false, false, false, false, false, false, false, false, false, false, false, false, false] rfl rfl (by kernel_rfl) (fun _ _ _ h => h) (Or.inl ⟨by rfl, ?_⟩) ?_ ?_
          rotate_left
          · intro w'
            go_simp
            with_reducible rfl
          rotate_left
          · simp only [Act.put, List.setIfInBounds_toArray, List.set_cons_zero, List.set_cons_succ, i64_w, i32_w]
            rfl
          refine take_ (i := 0) (N := some 62) (v := ?_) (a' := ?_) #[true, false, true, false, true, true, false, true, true, false, true, false, false, false, false, false, false, false, false, false, false, false, false, false, false, false, false, false, false, false] rfl rfl (by kernel_rfl) (fun _ _ _ h => h) (Or.inl ⟨by rfl, ?_⟩) hHeld ?_ ?_
          rotate_left
          · rintro w' ⟨s0, s1, s2, s3⟩
            refine Eq.trans (exec_load_at 47 _ (by rfl) ⟨g14, 0, none⟩ (by rfl) [.int .u64 ptk, .int .i64 ppl, .string pnm, .int .i64 pu, .int .i64 pv, .int .i64 pvx, .int .i64 pvy, .int .i64 phd, .int .i64 phe, .int .i64 pen, .int .i64 pam, .int .i64 pco, .int .i64 pwt, .int .i64 psp, .int .i64 psc, .slice (some ⟨gx, 0, none⟩) pn cx] _ Try.underlying47 rfl (by kernel_rfl) s0) ?_
            with_reducible rfl
          rotate_left
          · simp only [Act.put, List.setIfInBounds_toArray, List.set_cons_zero, List.set_cons_succ, i64_w, i32_w]
            rfl
          refine take_ (i := 1) (N := some 63) (v := ?_) (a' := ?_) #[true, true, true, false, true, true, false, true, true, false, true, false, false, false, false, false, false, false, false, false, false, false, false, false, false, false, false, false, false, false] rfl rfl (by kernel_rfl) (fun _ _ _ h => h) (Or.inl ⟨by rfl, ?_⟩) hHeld ?_ ?_
          rotate_left
          · rintro w' ⟨s0, s1, s2, s3⟩
            refine Eq.trans (exec_load_at 47 _ (by rfl) ⟨g15, 0, none⟩ (by rfl) [.int .u64 qtk, .int .i64 qpl, .string qnm, .int .i64 qu, .int .i64 qv, .int .i64 qvx, .int .i64 qvy, .int .i64 qhd, .int .i64 qhe, .int .i64 qen, .int .i64 qam, .int .i64 qco, .int .i64 qwt, .int .i64 qsp, .int .i64 qsc, .slice (some ⟨gy, 0, none⟩) qn cy] _ Try.underlying47 rfl (by kernel_rfl) s1) ?_
            with_reducible rfl
          rotate_left
          · simp only [Act.put, List.setIfInBounds_toArray, List.set_cons_zero, List.set_cons_succ, i64_w, i32_w]
            rfl
          refine take_ (i := 6) (N := some 68) (v := ?_) (a' := ?_) #[true, true, true, false, true, true, true, true, true, false, true, false, false, false, false, false, false, false, false, false, false, false, false, false, false, false, false, false, false, false] rfl rfl (by kernel_rfl) (fun _ _ _ h => h) (Or.inl ⟨by rfl, ?_⟩) hHeld ?_ ?_
          rotate_left
          · rintro w' ⟨s0, s1, s2, s3⟩
            refine Eq.trans (exec_load_at 47 _ (by rfl) ⟨g7, i * 16, none⟩ (by rfl) [.int .u64 ptk, .int .i64 ppl, .string pnm, .int .i64 pu, .int .i64 pv, .int .i64 pvx, .int .i64 pvy, .int .i64 phd, .int .i64 phe, .int .i64 pen, .int .i64 pam, .int .i64 pco, .int .i64 pwt, .int .i64 psp, .int .i64 psc, .slice pA pn pc] _ Try.underlying47 rfl (by kernel_rfl) s2) ?_
            with_reducible rfl
          rotate_left
          · simp only [Act.put, List.setIfInBounds_toArray, List.set_cons_zero, List.set_cons_succ, i64_w, i32_w]
            rfl
          refine take_ (i := 9) (N := some 71) (v := ?_) (a' := ?_) #[true, true, true, false, true, true, true, true, true, true, true, false, false, false, false, false, false, false, false, false, false, false, false, false, false, false, false, false, false, false] rfl rfl (by kernel_rfl) (fun _ _ _ h => h) (Or.inl ⟨by rfl, ?_⟩) hHeld ?_ ?_
          rotate_left
          · rintro w' ⟨s0, s1, s2, s3⟩
            refine Eq.trans (exec_load_at 47 _ (by rfl) ⟨g7, k * 16, none⟩ (by rfl) [.int .u64 qtk, .int .i64 qpl, .string qnm, .int .i64 qu, .int .i64 qv, .int .i64 qvx, .int .i64 qvy, .int .i64 qhd, .int .i64 qhe, .int .i64 qen, .int .i64 qam, .int .i64 qco, .int .i64 qwt, .int .i64 qsp, .int .i64 qsc, .slice qA qn qc] _ Try.underlying47 rfl (by kernel_rfl) s3) ?_
            with_reducible rfl
          rotate_left
          · simp only [Act.put, List.setIfInBounds_toArray, List.set_cons_zero, List.set_cons_succ, i64_w, i32_w]
            rfl
          refine one_ (i := 3) (N := some 65) #[true, true, true, true, true, true, true, true, true, true, true, false, false, false, false, false, false, false, false, false, false, false, false, false, false, false, false, false, false, false] rfl rfl (by kernel_rfl) (by decide) (fun K hK => ?_)
          refine goes_ Try.func26 (by kernel_rfl) rfl _ (by rfl) rfl rfl (by simp only [List.map_toArray, List.map_cons, List.map_nil]; rfl) ?_
          refine (between_calls ptk ppl pu pv pvx pvy phd phe pen pam pco pwt psp psc pnm (some ⟨gx, 0, none⟩) pn cx qtk qpl qu qv qvx qvy qhd qhe qen qam qco qwt qsp qsc qnm (some ⟨gy, 0, none⟩) qn cy t _ pl ql (own_take hOx hlp).drew (own_take hOy hlq).drew (by omega) (by omega)).mono ?_
          rintro e w8 ⟨A1, c1, ps1, rfl, ho1, hp1, hb1⟩
          refine ⟨_, rfl, ?_⟩
          have hB7 := below_step (below_drew hB7) hb1
          have hOx := pw_own_below (own_drew hOx) hb1
          have hOy := pw_own_below (own_drew hOy) hb1
          have Y14 := blk_below (blk_drew Y14) hb1
          have Y15 := blk_below (blk_drew Y15) hb1
          have hP1 := PRow.of_own ho1
          refine hK.out _ _ ⟨(hHeld.1).below hb1, (hHeld.2.1).below hb1, (hHeld.2.2.1).below hb1, (hHeld.2.2.2).below hb1⟩ (fun hHeld => ?_)
          clear hK K
          refine norm_ (a' := ?_) ?_ ?_
          rotate_left
          · show Act.put _ (some 65) _ = _
            simp only [Act.put, List.setIfInBounds_toArray, List.set_cons_zero, List.set_cons_succ, i64_w, i32_w]
            rfl
          refine one_ (i := 11) (N := some 73) #[true, true, true, true, true, true, true, true, true, true, true, true, false, false, false, false, false, false, false, false, false, false, false, false, false, false, false, false, false, false] rfl rfl (by kernel_rfl) (by decide) (fun K hK => ?_)
          refine goes_ Try.func27 (by kernel_rfl) rfl _ (by rfl) rfl rfl (by simp only [List.map_toArray, List.map_cons, List.map_nil]; rfl) ?_
          refine (refbetween_calls ptk ppl pu pv pvx pvy phd phe pen pam pco pwt psp psc pnm pA pn pc qtk qpl qu qv qvx qvy qhd qhe qen qam qco qwt qsp qsc qnm qA qn qc t _ pl ql (HS_p.out.below hB7) (HS_q.out.below hB7) (by omega) (by omega) h0_p h1_p h0_q h1_q hH_p hH_q).mono ?_
          rintro e w8 ⟨A2, c2, ps2, rfl, ho2, hp2, hb2⟩
          refine ⟨_, rfl, ?_⟩
          have hB7 := below_step hB7 hb2
          have hOx := pw_own_below hOx hb2
          have hOy := pw_own_below hOy hb2
          have Y14 := blk_below Y14 hb2
          have Y15 := blk_below Y15 hb2
          have hP1 := hP1.below hb2
          have hP2 := PRow.of_own ho2
          refine hK.out _ _ ⟨(hHeld.1).below hb2, (hHeld.2.1).below hb2, (hHeld.2.2.1).below hb2, (hHeld.2.2.2).below hb2⟩ (fun hHeld => ?_)
          clear hK K
          refine norm_ (a' := ?_) ?_ ?_
          rotate_left
          · show Act.put _ (some 73) _ = _
            simp only [Act.put, List.setIfInBounds_toArray, List.set_cons_zero, List.set_cons_succ, i64_w, i32_w]
            rfl
          refine one_ (i := 12) (N := some 74) #[true, true, true, true, true, true, true, true, true, true, true, true, true, false, false, false, false, false, false, false, false, false, false, false, false, false, false, false, false, false] rfl rfl (by kernel_rfl) (by decide) (fun K hK => ?_)
          refine goes_ Try.func25 (by kernel_rfl) rfl _ (by rfl) rfl rfl (by simp only [List.map_toArray, List.map_cons, List.map_nil]; rfl) ?_
          refine (same_calls A1 A2 _ _ c1 c2 (hp1.trans hp2.symm).len ps1 ps2 _ hP1 hP2 (hp1.trans hp2.symm) (by have := ps_le hp1 (ownB_le _ _ _ _ _ _ _); omega)).mono ?_
          rintro e w8 ⟨rfl, hb3⟩
          refine ⟨_, rfl, ?_⟩
          have hB7 := below_step hB7 hb3
          have hOx := pw_own_below hOx hb3
          have hOy := pw_own_below hOy hb3
          have Y14 := blk_below Y14 hb3
          have Y15 := blk_below Y15 hb3
          refine hK.out _ _ ⟨(hHeld.1).below hb3, (hHeld.2.1).below hb3, (hHeld.2.2.1).below hb3, (hHeld.2.2.2).below hb3⟩ (fun hHeld => ?_)
          clear hK K
          refine norm_ (a' := ?_) ?_ ?_
          rotate_left
          · show Act.put _ (some 74) _ = _
            simp only [Act.put, List.setIfInBounds_toArray, List.set_cons_zero, List.set_cons_succ, i64_w, i32_w]
            rfl
          refine pure_ (i := 13) (N := some 75) (v := ?_) (a' := ?_) #[true, true, true, true, true, true, true, true, true, true, true, true, true, true, false, false, false, false, false, false, false, false, false, false, false, false, false, false, false, false] rfl rfl (by kernel_rfl) (fun _ _ _ h => h) (Or.inl ⟨by rfl, ?_⟩) ?_ ?_
          rotate_left
          · intro w'
            go_simp
            with_reducible rfl
          rotate_left
          · simp only [Act.put, List.setIfInBounds_toArray, List.set_cons_zero, List.set_cons_succ, i64_w, i32_w]
            rfl
          refine pure_ (i := 14) (N := some 76) (v := ?_) (a' := ?_) #[true, true, true, true, true, true, true, true, true, true, true, true, true, true, true, false, false, false, false, false, false, false, false, false, false, false, false, false, false, false] rfl rfl (by kernel_rfl) (fun _ _ _ h => h) (Or.inl ⟨by rfl, ?_⟩) ?_ ?_
          rotate_left
          · intro w'
            go_simp
            with_reducible rfl
          rotate_left
          · simp only [Act.put, List.setIfInBounds_toArray, List.set_cons_zero, List.set_cons_succ, i64_w, i32_w]
            rfl
          refine pure_ (i := 15) (N := some 77) (v := ?_) (a' := ?_) #[true, true, true, true, true, true, true, true, true, true, true, true, true, true, true, true, false, false, false, false, false, false, false, false, false, false, false, false, false, false] rfl rfl (by kernel_rfl) (fun _ _ _ h => h) (Or.inl ⟨by rfl, ?_⟩) ?_ ?_
          rotate_left
          · intro w'
            go_simp
            with_reducible rfl
          rotate_left
          · simp only [Act.put, List.setIfInBounds_toArray, List.set_cons_zero, List.set_cons_succ, i64_w, i32_w]
            rfl
          refine pure_ (i := 16) (N := some 78) (v := ?_) (a' := ?_) #[true, true, true, true, true, true, true, true, true, true, true, true, true, true, true, true, true, false, false, false, false, false, false, false, false, false, false, false, false, false] rfl rfl (by kernel_rfl) (fun _ _ _ h => h) (Or.inl ⟨by rfl, ?_⟩) ?_ ?_
          rotate_left
          · intro w'
            go_simp
            with_reducible rfl
          rotate_left
          · simp only [Act.put, List.setIfInBounds_toArray, List.set_cons_zero, List.set_cons_succ, i64_w, i32_w]
            rfl
          refine pure_ (i := 17) (N := some 79) (v := ?_) (a' := ?_) #[true, true, true, true, true, true, true, true, true, true, true, true, true, true, true, true, true, true, false, false, false, false, false, false, false, false, false, false, false, false] rfl rfl (by kernel_rfl) (fun _ _ _ h => h) (Or.inl ⟨by rfl, ?_⟩) ?_ ?_
          rotate_left
          · intro w'
            go_simp
            with_reducible rfl
          rotate_left
          · simp only [Act.put, List.setIfInBounds_toArray, List.set_cons_zero, List.set_cons_succ, i64_w, i32_w]
            rfl
          refine take_ (i := 18) (N := some 80) (v := ?_) (a' := ?_) #[true, true, true, true, true, true, true, true, true, true, true, true, true, true, true, true, true, true, true, false, false, false, false, false, false, false, false, false, false, false] rfl rfl (by kernel_rfl) (fun _ _ _ h => h) (Or.inl ⟨by rfl, ?_⟩) hHeld ?_ ?_
          rotate_left
          · rintro w' ⟨s0, s1, s2, s3⟩
            refine Eq.trans (exec_load_at 47 _ (by rfl) ⟨g7, i * 16, none⟩ (by rfl) [.int .u64 ptk, .int .i64 ppl, .string pnm, .int .i64 pu, .int .i64 pv, .int .i64 pvx, .int .i64 pvy, .int .i64 phd, .int .i64 phe, .int .i64 pen, .int .i64 pam, .int .i64 pco, .int .i64 pwt, .int .i64 psp, .int .i64 psc, .slice pA pn pc] _ Try.underlying47 rfl (by kernel_rfl) s2) ?_
            with_reducible rfl
          rotate_left
          · simp only [Act.put, List.setIfInBounds_toArray, List.set_cons_zero, List.set_cons_succ, i64_w, i32_w]
            rfl
          refine one_ (i := 19) (N := some 81) #[true, true, true, true, true, true, true, true, true, true, true, true, true, true, true, true, true, true, true, true, false, false, false, false, false, false, false, false, false, false] rfl rfl (by kernel_rfl) (by decide) (fun K hK => ?_)
          refine goes_ Try.func28 (by kernel_rfl) rfl _ (by rfl) rfl rfl (by simp only [List.map_toArray, List.map_cons, List.map_nil]; rfl) ?_
          refine (still_calls ptk ppl pu pv pvx pvy phd phe pen pam pco pwt psp psc pnm pA pn pc _ gx cx _ pl hOx (HS_p.out.below hB7) n40_p).mono ?_
          rintro e w8 ⟨rfl, hb4⟩
          refine ⟨_, rfl, ?_⟩
          have hB7 := below_step hB7 hb4
          have hOx := pw_own_below hOx hb4
          have hOy := pw_own_below hOy hb4
          have Y14 := blk_below Y14 hb4
          have Y15 := blk_below Y15 hb4
          refine hK.out _ _ ⟨(hHeld.1).below hb4, (hHeld.2.1).below hb4, (hHeld.2.2.1).below hb4, (hHeld.2.2.2).below hb4⟩ (fun hHeld => ?_)
          clear hK K
          refine norm_ (a' := ?_) ?_ ?_
          rotate_left
          · show Act.put _ (some 81) _ = _
            simp only [Act.put, List.setIfInBounds_toArray, List.set_cons_zero, List.set_cons_succ, i64_w, i32_w]
            rfl
          refine pure_ (i := 20) (N := some 82) (v := ?_) (a' := ?_) #[true, true, true, true, true, true, true, true, true, true, true, true, true, true, true, true, true, true, true, true, true, false, false, false, false, false, false, false, false, false] rfl rfl (by kernel_rfl) (fun _ _ _ h => h) (Or.inl ⟨by rfl, ?_⟩) ?_ ?_
          rotate_left
          · intro w'
            go_simp
            with_reducible rfl
          rotate_left
          · simp only [Act.put, List.setIfInBounds_toArray, List.set_cons_zero, List.set_cons_succ, i64_w, i32_w]
            rfl
          refine pure_ (i := 21) (N := some 83) (v := ?_) (a' := ?_) #[true, true, true, true, true, true, true, true, true, true, true, true, true, true, true, true, true, true, true, true, true, true, false, false, false, false, false, false, false, false] rfl rfl (by kernel_rfl) (fun _ _ _ h => h) (Or.inl ⟨by rfl, ?_⟩) ?_ ?_
          rotate_left
          · intro w'
            go_simp
            with_reducible rfl
          rotate_left
          · simp only [Act.put, List.setIfInBounds_toArray, List.set_cons_zero, List.set_cons_succ, i64_w, i32_w]
            rfl
          refine pure_ (i := 22) (N := some 84) (v := ?_) (a' := ?_) #[true, true, true, true, true, true, true, true, true, true, true, true, true, true, true, true, true, true, true, true, true, true, true, false, false, false, false, false, false, false] rfl rfl (by kernel_rfl) (fun _ _ _ h => h) (Or.inl ⟨by rfl, ?_⟩) ?_ ?_
          rotate_left
          · intro w'
            go_simp
            with_reducible rfl
          rotate_left
          · simp only [Act.put, List.setIfInBounds_toArray, List.set_cons_zero, List.set_cons_succ, i64_w, i32_w]
            rfl
          refine pure_ (i := 23) (N := some 85) (v := ?_) (a' := ?_) #[true, true, true, true, true, true, true, true, true, true, true, true, true, true, true, true, true, true, true, true, true, true, true, true, false, false, false, false, false, false] rfl rfl (by kernel_rfl) (fun _ _ _ h => h) (Or.inl ⟨by rfl, ?_⟩) ?_ ?_
          rotate_left
          · intro w'
            go_simp
            with_reducible rfl
          rotate_left
          · simp only [Act.put, List.setIfInBounds_toArray, List.set_cons_zero, List.set_cons_succ, i64_w, i32_w]
            rfl
          refine pure_ (i := 24) (N := some 86) (v := ?_) (a' := ?_) #[true, true, true, true, true, true, true, true, true, true, true, true, true, true, true, true, true, true, true, true, true, true, true, true, true, false, false, false, false, false] rfl rfl (by kernel_rfl) (fun _ _ _ h => h) (Or.inl ⟨by rfl, ?_⟩) ?_ ?_
          rotate_left
          · intro w'
            go_simp
            with_reducible rfl
          rotate_left
          · simp only [Act.put, List.setIfInBounds_toArray, List.set_cons_zero, List.set_cons_succ, i64_w, i32_w]
            rfl
          refine pure_ (i := 25) (N := some 87) (v := ?_) (a' := ?_) #[true, true, true, true, true, true, true, true, true, true, true, true, true, true, true, true, true, true, true, true, true, true, true, true, true, true, false, false, false, false] rfl rfl (by kernel_rfl) (fun _ _ _ h => h) (Or.inl ⟨by rfl, ?_⟩) ?_ ?_
          rotate_left
          · intro w'
            go_simp
            with_reducible rfl
          rotate_left
          · simp only [Act.put, List.setIfInBounds_toArray, List.set_cons_zero, List.set_cons_succ, i64_w, i32_w]
            rfl
          refine take_ (i := 26) (N := some 88) (v := ?_) (a' := ?_) #[true, true, true, true, true, true, true, true, true, true, true, true, true, true, true, true, true, true, true, true, true, true, true, true, true, true, true, false, false, false] rfl rfl (by kernel_rfl) (fun _ _ _ h => h) (Or.inl ⟨by rfl, ?_⟩) hHeld ?_ ?_
          rotate_left
          · rintro w' ⟨s0, s1, s2, s3⟩
            refine Eq.trans (exec_load_at 47 _ (by rfl) ⟨g7, k * 16, none⟩ (by rfl) [.int .u64 qtk, .int .i64 qpl, .string qnm, .int .i64 qu, .int .i64 qv, .int .i64 qvx, .int .i64 qvy, .int .i64 qhd, .int .i64 qhe, .int .i64 qen, .int .i64 qam, .int .i64 qco, .int .i64 qwt, .int .i64 qsp, .int .i64 qsc, .slice qA qn qc] _ Try.underlying47 rfl (by kernel_rfl) s3) ?_
            with_reducible rfl
          rotate_left
          · simp only [Act.put, List.setIfInBounds_toArray, List.set_cons_zero, List.set_cons_succ, i64_w, i32_w]
            rfl
          refine last_ (i := 27) (N := some 89) #[true, true, true, true, true, true, true, true, true, true, true, true, true, true, true, true, true, true, true, true, true, true, true, true, true, true, true, true, false, false] rfl rfl (by kernel_rfl) (by decide) (fun K hK => ?_)
          refine goes_ Try.func28 (by kernel_rfl) rfl _ (by rfl) rfl rfl (by simp only [List.map_toArray, List.map_cons, List.map_nil]; rfl) ?_
          refine (still_calls qtk qpl qu qv qvx qvy qhd qhe qen qam qco qwt qsp qsc qnm qA qn qc _ gy cy _ ql hOy (HS_q.out.below hB7) n40_q).mono ?_
          rintro e w8 ⟨rfl, hb5⟩
          refine ⟨_, rfl, ?_⟩
          have hB7 := below_step hB7 hb5
          have hOx := pw_own_below hOx hb5
          have hOy := pw_own_below hOy hb5
          have Y14 := blk_below Y14 hb5
          have Y15 := blk_below Y15 hb5
          refine hK.out _ _ ?_
          clear hK K
          refine norm_ (a' := ?_) ?_ ?_
          rotate_left
          · show Act.put _ (some 89) _ = _
            simp only [Act.put, List.setIfInBounds_toArray, List.set_cons_zero, List.set_cons_succ, i64_w, i32_w]
            rfl
          refine pure_ (i := 28) (N := some 90) (v := ?_) (a' := ?_) #[true, true, true, true, true, true, true, true, true, true, true, true, true, true, true, true, true, true, true, true, true, true, true, true, true, true, true, true, true, false] rfl rfl (by kernel_rfl) (fun _ _ _ h => h) (Or.inl ⟨by rfl, ?_⟩) ?_ ?_
          rotate_left
          · intro w'
            go_simp
            with_reducible rfl
          rotate_left
          · simp only [Act.put, List.setIfInBounds_toArray, List.set_cons_zero, List.set_cons_succ, i64_w, i32_w]
            rfl
          refine pure_ (i := 29) (N := some 91) (v := ?_) (a' := ?_) #[true, true, true, true, true, true, true, true, true, true, true, true, true, true, true, true, true, true, true, true, true, true, true, true, true, true, true, true, true, true] rfl rfl (by kernel_rfl) (fun _ _ _ h => h) (Or.inl ⟨by rfl, ?_⟩) ?_ ?_
          rotate_left
          · intro w'
            go_simp
            with_reducible rfl
          rotate_left
          · simp only [Act.put, List.setIfInBounds_toArray, List.set_cons_zero, List.set_cons_succ, i64_w, i32_w]
            rfl
          refine done_ (by kernel_rfl) ?_

          clear hp1 hp2 hP1 hP2 ho1 ho2 hHeld
          go_wp2_with fail
          go_loopw [16] (fun j wr => ∃ (m : Nat) (ll : List S5), m ≤ pn ∧ j = .int .i64 m ∧ Aside0 (OwnS wr wk.heap.size (.slice (some ⟨gx, 0, none⟩) (pn + 1) cx) ll) ∧ Aside0 (ll.length = pn + 1) ∧ Aside0 (Hds ll) ∧ Aside0 (OwnS wr wx.heap.size (.slice (some ⟨gy, 0, none⟩) (qn + 1) cy) (ql ++ [mark])) ∧ Aside0 (wr.heap[g14]? = some (.cells #[.int .u64 ptk, .int .i64 ppl, .string pnm, .int .i64 pu, .int .i64 pv, .int .i64 pvx, .int .i64 pvy, .int .i64 phd, .int .i64 phe, .int .i64 pen, .int .i64 pam, .int .i64 pco, .int .i64 pwt, .int .i64 psp, .int .i64 psc, .slice (some ⟨gx, 0, none⟩) pn cx] 47 (0, 0))) ∧ Aside0 (wr.heap[g15]? = some (.cells #[.int .u64 qtk, .int .i64 qpl, .string qnm, .int .i64 qu, .int .i64 qv, .int .i64 qvx, .int .i64 qvy, .int .i64 qhd, .int .i64 qhe, .int .i64 qen, .int .i64 qam, .int .i64 qco, .int .i64 qwt, .int .i64 qsp, .int .i64 qsc, .slice (some ⟨gy, 0, none⟩) qn cy] 47 (0, 0))) ∧ Aside0 (Below w7.heap.size w7 wr)) (fun j _ => pn - (intOf j).toNat)
          case atStart => exact ⟨0, _, Nat.zero_le _, rfl, ⟨hOx⟩, ⟨by rw [List.length_append, hlp]; rfl⟩, ⟨hH_p.marked⟩, ⟨hOy⟩, ⟨Y14⟩, ⟨Y15⟩, ⟨hB7⟩⟩
          case round =>
            clear hOx hOy Y14 Y15 hB7
            obtain ⟨m, ll, hm, rfl, HX, HLL, HH, HY, H14, H15, HB⟩ := hrel
            have hOx := HX.out
            have hll := HLL.out
            have hHl := HH.out
            have hOy := HY.out
            have Y14 := H14.out
            have Y15 := H15.out
            have hB7 := HB.out
            clear HX HLL HH HY H14 H15 HB
            by_cases hmlt : m < pn
            · have hm2 : (m : Int) < (pn : Int) := Int.ofNat_lt.mpr hmlt
              have hm0 : (0 : Int) ≤ m := Int.natCast_nonneg m
              have hm3 : (m : Int) < ((pn + 1 : Nat) : Int) := by omega
              have hm4 : (m : Int) < (pn : Int) + 1 := by omega
              have hcx2 : wr.cell? ⟨gx, m * 5 + 2, none⟩ = some (.int .i64 (ll.getD m default).x) := own_x hOx hll m hmlt
              have hfx2 : wr.frozen? ⟨gx, m * 5 + 2, none⟩ = false := own_fx hOx hll _
              generalize (ll.getD m default).x = z0 at hcx2
              have HT := fun z => (own_turn hOx hll m (by omega) z)
              have HT := Aside0.mk HT
              have HOy := fun z : Value => own_setCell hOy (p := ⟨gx, m * 5 + 2, none⟩) (fun e => hxy (by injection e)) z
              have HOy := Aside0.mk HOy
              clear hOx hOy
              go_wp2_with fail
              go_roundw
              case rel => exact ⟨m + 1, _, by omega, by go_num, ⟨(HT.out _).1⟩, ⟨by rw [List.length_set]; exact hll⟩, ⟨hHl.turn _ _⟩, ⟨HOy.out _⟩, ⟨blk_far Y14 (p := ⟨gx, m * 5 + 2, none⟩) nxg14.symm _⟩, ⟨blk_far Y15 (p := ⟨gx, m * 5 + 2, none⟩) nxg15.symm _⟩, ⟨hB7.setCell h7x _⟩⟩
              case measure => simp [intOf]; omega
            · obtain rfl : pn = m := by omega
              go_wp2_with fail
              refine start_ (n := 10) (S := fun w' => At w' ⟨g14, 0, none⟩ [.int .u64 ptk, .int .i64 ppl, .string pnm, .int .i64 pu, .int .i64 pv, .int .i64 pvx, .int .i64 pvy, .int .i64 phd, .int .i64 phe, .int .i64 pen, .int .i64 pam, .int .i64 pco, .int .i64 pwt, .int .i64 psp, .int .i64 psc, .slice (some ⟨gx, 0, none⟩) pn cx] ∧ At w' ⟨g15, 0, none⟩ [.int .u64 qtk, .int .i64 qpl, .string qnm, .int .i64 qu, .int .i64 qv, .int .i64 qvx, .int .i64 qvy, .int .i64 qhd, .int .i64 qhe, .int .i64 qen, .int .i64 qam, .int .i64 qco, .int .i64 qwt, .int .i64 qsp, .int .i64 qsc, .slice (some ⟨gy, 0, none⟩) qn cy]) (ds := [8]) #[false, false, false, false, false, false, false, false, false, false] (by kernel_rfl) rfl rfl ⟨(At.of_blk Y14).drew, (At.of_blk Y15).drew⟩ (fun hHeld => ?_)
              refine pure_ (i := 2) (N := some 106) (v := ?_) (a' := ?_) #[false, false, true, false, false, false, false, false, false, false] rfl rfl (by kernel_rfl) (fun _ _ _ h => h) (Or.inl ⟨by rfl, ?_⟩) ?_ ?_
              rotate_left
              · intro w'
                go_simp
                with_reducible rfl
              rotate_left
              · simp only [Act.put, List.setIfInBounds_toArray, List.set_cons_zero, List.set_cons_succ, i64_w, i32_w]
                rfl
              refine pure_ (i := 6) (N := some 110) (v := ?_) (a' := ?_) #[false, false, true, false, false, false, true, false, false, false] rfl rfl (by kernel_rfl) (fun _ _ _ h => h) (Or.inl ⟨by rfl, ?_⟩) ?_ ?_
              rotate_left
              · intro w'
                go_simp
                with_reducible rfl
              rotate_left
              · simp only [Act.put, List.setIfInBounds_toArray, List.set_cons_zero, List.set_cons_succ, i64_w, i32_w]
                rfl
              refine take_ (i := 0) (N := some 104) (v := ?_) (a' := ?_) #[true, false, true, false, false, false, true, false, false, false] rfl rfl (by kernel_rfl) (fun _ _ _ h => h) (Or.inl ⟨by rfl, ?_⟩) hHeld ?_ ?_
              rotate_left
              · rintro w' ⟨s0, s1⟩
                refine Eq.trans (exec_load_at 47 _ (by rfl) ⟨g14, 0, none⟩ (by rfl) [.int .u64 ptk, .int .i64 ppl, .string pnm, .int .i64 pu, .int .i64 pv, .int .i64 pvx, .int .i64 pvy, .int .i64 phd, .int .i64 phe, .int .i64 pen, .int .i64 pam, .int .i64 pco, .int .i64 pwt, .int .i64 psp, .int .i64 psc, .slice (some ⟨gx, 0, none⟩) pn cx] _ Try.underlying47 rfl (by kernel_rfl) s0) ?_
                with_reducible rfl
              rotate_left
              · simp only [Act.put, List.setIfInBounds_toArray, List.set_cons_zero, List.set_cons_succ, i64_w, i32_w]
                rfl
              refine take_ (i := 1) (N := some 105) (v := ?_) (a' := ?_) #[true, true, true, false, false, false, true, false, false, false] rfl rfl (by kernel_rfl) (fun _ _ _ h => h) (Or.inl ⟨by rfl, ?_⟩) hHeld ?_ ?_
              rotate_left
              · rintro w' ⟨s0, s1⟩
                refine Eq.trans (exec_load_at 47 _ (by rfl) ⟨g15, 0, none⟩ (by rfl) [.int .u64 qtk, .int .i64 qpl, .string qnm, .int .i64 qu, .int .i64 qv, .int .i64 qvx, .int .i64 qvy, .int .i64 qhd, .int .i64 qhe, .int .i64 qen, .int .i64 qam, .int .i64 qco, .int .i64 qwt, .int .i64 qsp, .int .i64 qsc, .slice (some ⟨gy, 0, none⟩) qn cy] _ Try.underlying47 rfl (by kernel_rfl) s1) ?_
                with_reducible rfl
              rotate_left
              · simp only [Act.put, List.setIfInBounds_toArray, List.set_cons_zero, List.set_cons_succ, i64_w, i32_w]
                rfl
              refine take_ (i := 4) (N := some 108) (v := ?_) (a' := ?_) #[true, true, true, false, true, false, true, false, false, false] rfl rfl (by kernel_rfl) (fun _ _ _ h => h) (Or.inl ⟨by rfl, ?_⟩) hHeld ?_ ?_
              rotate_left
              · rintro w' ⟨s0, s1⟩
                refine Eq.trans (exec_load_at 47 _ (by rfl) ⟨g14, 0, none⟩ (by rfl) [.int .u64 ptk, .int .i64 ppl, .string pnm, .int .i64 pu, .int .i64 pv, .int .i64 pvx, .int .i64 pvy, .int .i64 phd, .int .i64 phe, .int .i64 pen, .int .i64 pam, .int .i64 pco, .int .i64 pwt, .int .i64 psp, .int .i64 psc, .slice (some ⟨gx, 0, none⟩) pn cx] _ Try.underlying47 rfl (by kernel_rfl) s0) ?_
                with_reducible rfl
              rotate_left
              · simp only [Act.put, List.setIfInBounds_toArray, List.set_cons_zero, List.set_cons_succ, i64_w, i32_w]
                rfl
              refine take_ (i := 5) (N := some 109) (v := ?_) (a' := ?_) #[true, true, true, false, true, true, true, false, false, false] rfl rfl (by kernel_rfl) (fun _ _ _ h => h) (Or.inl ⟨by rfl, ?_⟩) hHeld ?_ ?_
              rotate_left
              · rintro w' ⟨s0, s1⟩
                refine Eq.trans (exec_load_at 47 _ (by rfl) ⟨g15, 0, none⟩ (by rfl) [.int .u64 qtk, .int .i64 qpl, .string qnm, .int .i64 qu, .int .i64 qv, .int .i64 qvx, .int .i64 qvy, .int .i64 qhd, .int .i64 qhe, .int .i64 qen, .int .i64 qam, .int .i64 qco, .int .i64 qwt, .int .i64 qsp, .int .i64 qsc, .slice (some ⟨gy, 0, none⟩) qn cy] _ Try.underlying47 rfl (by kernel_rfl) s1) ?_
                with_reducible rfl
              rotate_left
              · simp only [Act.put, List.setIfInBounds_toArray, List.set_cons_zero, List.set_cons_succ, i64_w, i32_w]
                rfl
              refine one_ (i := 3) (N := some 107) #[true, true, true, true, true, true, true, false, false, false] rfl rfl (by kernel_rfl) (by decide) (fun K hK => ?_)
              refine goes_ Try.func26 (by kernel_rfl) rfl _ (by rfl) rfl rfl (by simp only [List.map_toArray, List.map_cons, List.map_nil]; rfl) ?_
              refine (between_calls ptk ppl pu pv pvx pvy phd phe pen pam pco pwt psp psc pnm (some ⟨gx, 0, none⟩) pn cx qtk qpl qu qv qvx qvy qhd qhe qen qam qco qwt qsp qsc qnm (some ⟨gy, 0, none⟩) qn cy t _ _ ql (own_srow hOx pn (by omega)).drew (own_take hOy hlq).drew (by omega) (by omega)).mono ?_
              rintro e w8 ⟨A1, c1, ps1, rfl, ho1, hp1, hb1⟩
              refine ⟨_, rfl, ?_⟩
              have hB7 := below_step (below_drew hB7) hb1
              have hOx := pw_own_below (own_drew hOx) hb1
              have hOy := pw_own_below (own_drew hOy) hb1
              have Y14 := blk_below (blk_drew Y14) hb1
              have Y15 := blk_below (blk_drew Y15) hb1
              have hP1 := PRow.of_own ho1
              refine hK.out _ _ ⟨(hHeld.1).below hb1, (hHeld.2).below hb1⟩ (fun hHeld => ?_)
              clear hK K
              refine norm_ (a' := ?_) ?_ ?_
              rotate_left
              · show Act.put _ (some 107) _ = _
                simp only [Act.put, List.setIfInBounds_toArray, List.set_cons_zero, List.set_cons_succ, i64_w, i32_w]
                rfl
              refine one_ (i := 7) (N := some 111) #[true, true, true, true, true, true, true, true, false, false] rfl rfl (by kernel_rfl) (by decide) (fun K hK => ?_)
              refine goes_ Try.func27 (by kernel_rfl) rfl _ (by rfl) rfl rfl (by simp only [List.map_toArray, List.map_cons, List.map_nil]; rfl) ?_
              refine (refbetween_calls ptk ppl pu pv pvx pvy phd phe pen pam pco pwt psp psc pnm (some ⟨gx, 0, none⟩) pn cx qtk qpl qu qv qvx qvy qhd qhe qen qam qco qwt qsp qsc qnm (some ⟨gy, 0, none⟩) qn cy t _ _ ql (own_srow hOx pn (by omega)) (own_take hOy hlq) (by omega) (by omega) h0_p h1_p h0_q h1_q (hHl.take pn) hH_q).mono ?_
              rintro e w8 ⟨A2, c2, ps2, rfl, ho2, hp2, hb2⟩
              refine ⟨_, rfl, ?_⟩
              have hB7 := below_step hB7 hb2
              have hOx := pw_own_below hOx hb2
              have hOy := pw_own_below hOy hb2
              have Y14 := blk_below Y14 hb2
              have Y15 := blk_below Y15 hb2
              have hP1 := hP1.below hb2
              have hP2 := PRow.of_own ho2
              refine hK.out _ _ ⟨(hHeld.1).below hb2, (hHeld.2).below hb2⟩ (fun hHeld => ?_)
              clear hK K
              refine norm_ (a' := ?_) ?_ ?_
              rotate_left
              · show Act.put _ (some 111) _ = _
                simp only [Act.put, List.setIfInBounds_toArray, List.set_cons_zero, List.set_cons_succ, i64_w, i32_w]
                rfl
              refine last_ (i := 8) (N := some 112) #[true, true, true, true, true, true, true, true, true, false] rfl rfl (by kernel_rfl) (by decide) (fun K hK => ?_)
              refine goes_ Try.func25 (by kernel_rfl) rfl _ (by rfl) rfl rfl (by simp only [List.map_toArray, List.map_cons, List.map_nil]; rfl) ?_
              refine (same_calls A1 A2 _ _ c1 c2 (hp1.trans hp2.symm).len ps1 ps2 _ hP1 hP2 (hp1.trans hp2.symm) (by have := ps_le hp1 (ownB_le _ _ _ _ _ _ _); rw [List.length_take] at this; omega)).mono ?_
              rintro e w8 ⟨rfl, hb3⟩
              refine ⟨_, rfl, ?_⟩
              have hB7 := below_step hB7 hb3
              have hOx := pw_own_below hOx hb3
              have hOy := pw_own_below hOy hb3
              have Y14 := blk_below Y14 hb3
              have Y15 := blk_below Y15 hb3
              refine hK.out _ _ ?_
              clear hK K
              refine norm_ (a' := ?_) ?_ ?_
              rotate_left
              · show Act.put _ (some 112) _ = _
                simp only [Act.put, List.setIfInBounds_toArray, List.set_cons_zero, List.set_cons_succ, i64_w, i32_w]
                rfl
              refine pure_ (i := 9) (N := some 113) (v := ?_) (a' := ?_) #[true, true, true, true, true, true, true, true, true, true] rfl rfl (by kernel_rfl) (fun _ _ _ h => h) (Or.inl ⟨by rfl, ?_⟩) ?_ ?_
              rotate_left
              · intro w'
                go_simp
                with_reducible rfl
              rotate_left
              · simp only [Act.put, List.setIfInBounds_toArray, List.set_cons_zero, List.set_cons_succ, i64_w, i32_w]
                rfl
              refine done_ (by kernel_rfl) ?_

              go_wp2
              go_roundw
              case rel => exact ⟨k + 1, by omega, by go_num, ⟨hB7⟩⟩
              case measure => simp [intOf]; omega
        · obtain rfl : k = 2 := by omega
          go_wp2_with fail
          go_roundw
          case rel => exact ⟨i + 1, by omega, by go_num, ⟨hB7⟩⟩
          case measure => simp [intOf]; omega
    · obtain rfl : i = 2 := by omega
      go_wp2_with (go_at_call 10; refine (alive_calls _).mono ?_; rintro e w3 ⟨rfl, hb⟩; have hBi := below_step hBi hb; clear hb)
      go_ret
      exact ⟨rfl, below_step hB hBi⟩
end Go.Proofs.Ytjffkidfoapbjaa.Fl
