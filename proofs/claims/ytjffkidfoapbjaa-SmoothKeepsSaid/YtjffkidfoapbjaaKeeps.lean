/- Proved: the walk of SmoothKeeps: true for every two views and every t. -/
import Derived.Test.YtjffkidfoapbjaaKeeps0
import Derived.Test.YtjffkidfoapbjaaBetw
import Derived.Test.YtjffkidfoapbjaaAlive
namespace Go.Proofs.Ytjffkidfoapbjaa.Fl
open Go.RowKit Go.Proofs.YtjffkidfoapbjaaW.PrintWords Go.Proofs.YtjffkidfoapbjaaW.PrintLast Go.Proofs.YtjffkidfoapbjaaW.PrintMore
set_option linter.unusedVariables false
set_option linter.unusedSimpArgs false
attribute [local go_sem] run_store_float

theorem PRow.of_own_n {w : World} {base c n : Nat} {A : Option Addr} {ps : List P3} (h : w.ownsRow base 24 3 (.slice A n c) n (rowP ps)) (hn : ps.length = n) : PRow w A n ps := by
  subst hn
  obtain ⟨A', c', e, _, hp⟩ := own_prow h
  injection e with e1
  subst e1
  exact hp
theorem btw_calls (atk apl au av avx avy ahd ahe aen aam aco awt asp asc : Int) (anm : ByteArray) (aA : Option Addr) (an ac : Nat) (btk bpl bu bv bvx bvy bhd bhe ben bam bco bwt bsp bsc : Int) (bnm : ByteArray) (bA : Option Addr) (bn bc : Nat) (t : Nat) (w : World) (ss rs : List S5) (hS : SRow w aA an ss) (hR : SRow w bA bn rs) (hn : an * 40 ≤ 140737488351232) (hm : bn ≤ 9223372036854775807) (n : Nat) (hN : (ownB apl bpl awt bwt (ofP au av ahd) (ofP bu bv bhd) t ++ seenB ss rs t).length = n) : Calls Try.prog 26 #[.agg #[.int .u64 atk, .int .i64 apl, .string anm, .int .i64 au, .int .i64 av, .int .i64 avx, .int .i64 avy, .int .i64 ahd, .int .i64 ahe, .int .i64 aen, .int .i64 aam, .int .i64 aco, .int .i64 awt, .int .i64 asp, .int .i64 asc, .slice aA an ac], .agg #[.int .u64 btk, .int .i64 bpl, .string bnm, .int .i64 bu, .int .i64 bv, .int .i64 bvx, .int .i64 bvy, .int .i64 bhd, .int .i64 bhe, .int .i64 ben, .int .i64 bam, .int .i64 bco, .int .i64 bwt, .int .i64 bsp, .int .i64 bsc, .slice bA bn bc], .float .f32 t] w fun e w' => ∃ A c ps, e = .returned (.slice A n c) ∧ w'.ownsRow w.heap.size 24 3 (.slice A n c) n (rowP ps) ∧ ps.length = n ∧ PFs ps (ownB apl bpl awt bwt (ofP au av ahd) (ofP bu bv bhd) t ++ seenB ss rs t) ∧ Below w.heap.size w w' := by
  refine (between_calls atk apl au av avx avy ahd ahe aen aam aco awt asp asc anm aA an ac btk bpl bu bv bvx bvy bhd bhe ben bam bco bwt bsp bsc bnm bA bn bc t w ss rs hS hR (by omega) hm).mono ?_
  rintro e w' ⟨A, c, ps, rfl, ho, hp, hb⟩
  have hl : ps.length = n := hp.len.trans hN
  refine ⟨A, c, ps, by rw [hl], ?_, hl, hp, hb⟩
  unfold OwnP at ho
  rwa [hl] at ho
theorem all3 (a b c : Nat) : [Value.float .f32 a, .float .f32 b, .float .f32 c].all (·.oneCell') = true := rfl
theorem size3 (x y z a b c : Value) : (#[x, y, z] : Array Value).size = [a, b, c].length := rfl
abbrev OwnV (w : World) (base : Nat) (v : Value) (l : List Value) : Prop := w.ownsRow base 51 1 v l.length l
theorem ownV_form {w : World} {base k : Nat} {v : Value} {l : List Value} (h : OwnV w base v l) (hl : l.length = k) (h0 : 0 < k) : ∃ g c, v = .slice (some ⟨g, 0, none⟩) k c ∧ k ≤ c ∧ ∀ j, j < k → w.cell? ⟨g, j, none⟩ = some (l.getD j undef) := by
  subst hl
  obtain ⟨g, c, rfl, _, _⟩ := h.form h0
  refine ⟨g, c, rfl, own_le h, fun j hj => ?_⟩
  have hc := h.cells (g := g) rfl j (l.getD j undef) (by simp [List.getD_eq_getElem?_getD, hj])
  rwa [add_plain] at hc
set_option maxHeartbeats 8000000 in
set_option maxRecDepth 100000 in
theorem keeps.calls (atk apl au av avx avy ahd ahe aen aam aco awt asp asc : Int) (anm : ByteArray) (aA : Option Addr) (an ac : Nat) (btk bpl bu bv bvx bvy bhd bhe ben bam bco bwt bsp bsc : Int) (bnm : ByteArray) (bA : Option Addr) (bn bc : Nat) (t : Nat) (w : World) (ss rs : List S5) (hS : SRow w aA an ss) (hR : SRow w bA bn rs) (hn : an * 40 ≤ 140737488351232) (hm : bn ≤ 9223372036854775807) : Calls Try.prog 9 #[.agg #[.int .u64 atk, .int .i64 apl, .string anm, .int .i64 au, .int .i64 av, .int .i64 avx, .int .i64 avy, .int .i64 ahd, .int .i64 ahe, .int .i64 aen, .int .i64 aam, .int .i64 aco, .int .i64 awt, .int .i64 asp, .int .i64 asc, .slice aA an ac], .agg #[.int .u64 btk, .int .i64 bpl, .string bnm, .int .i64 bu, .int .i64 bv, .int .i64 bvx, .int .i64 bvy, .int .i64 bhd, .int .i64 bhe, .int .i64 ben, .int .i64 bam, .int .i64 bco, .int .i64 bwt, .int .i64 bsp, .int .i64 bsc, .slice bA bn bc], .float .f32 t] w fun e w' => e = .returned (.bool true) ∧ Below w.heap.size w w' := by
  have hu47 := Try.underlying47
  have hu40 := Try.underlying40
  have hu38 := Try.underlying38
  have hu55 := Try.underlying55
  have hu45 := Try.underlying45
  have hu51 := Try.underlying51
  have hu58 := Try.underlying58
  have hu24 := Try.underlying24
  have hu22 := Try.underlying22
  have hu3 := Try.underlying3
  obtain ⟨n, hN⟩ : ∃ n, Aside0 ((ownB apl bpl awt bwt (ofP au av ahd) (ofP bu bv bhd) t ++ seenB ss rs t).length = n) := ⟨_, ⟨rfl⟩⟩
  have hnb : n ≤ an + 1 := by
    have h1 := ownB_le apl bpl awt bwt (ofP au av ahd) (ofP bu bv bhd) t
    have h2 := seenB_le ss rs t
    have h3 := hN.out
    rw [List.length_append] at h3
    rw [hS.len] at h2
    omega
  have hnn : n ≤ 9223372036854775807 := by omega
  have hnI : (n : Int) ≤ 140737488351233 := by omega
  go_enter Try.func9, Try.ntmps9
  go_wp2_with (first
        | ((try (refine gate_guard (by rfl) ?_; dsimp only)); refine wpList_fl _ rfl _ _ _ _ _ rfl (by decide) _ _ _ _ rfl rfl (by first | assumption | exact Fe.refl _) (by first | assumption | exact Fe.refl _) ?_; intro z nd hz)
        | ((try (refine gate_guard (by rfl) ?_; dsimp only)); refine wpList_flc _ rfl _ _ _ _ _ rfl (by decide) _ _ _ _ rfl rfl (by first | assumption | exact Fe.refl _) (by first | assumption | exact Fe.refl _) ?_)
        | ((with_reducible refine gate_dst (N := 3) rfl ?_); refine box_event ?hg (N := 3) ?hd (cs := #[.int .u64 atk, .int .i64 apl, .string anm, .int .i64 au, .int .i64 av, .int .i64 avx, .int .i64 avy, .int .i64 ahd, .int .i64 ahe, .int .i64 aen, .int .i64 aam, .int .i64 aco, .int .i64 awt, .int .i64 asp, .int .i64 asc, .slice aA an ac]) (t := 47) ?hr ?_; (case hd => rfl); (case hg => rfl); (case hr => first | (go_simp; done) | (go_simp; rfl)); intro g3 eg3 w1 Xg3 Bg3; have hB := Bg3; have hS := hS.below Bg3; have hR := hR.below Bg3; clear eg3 Bg3)
        | ((with_reducible refine gate_dst (N := 4) rfl ?_); refine box_event ?hg (N := 4) ?hd (cs := #[.int .u64 btk, .int .i64 bpl, .string bnm, .int .i64 bu, .int .i64 bv, .int .i64 bvx, .int .i64 bvy, .int .i64 bhd, .int .i64 bhe, .int .i64 ben, .int .i64 bam, .int .i64 bco, .int .i64 bwt, .int .i64 bsp, .int .i64 bsc, .slice bA bn bc]) (t := 47) ?hr ?_; (case hd => rfl); (case hg => rfl); (case hr => first | (go_simp; done) | (go_simp; rfl)); intro g4 eg4 w2 Xg4 Bg4; have Xg3 := blk_below Xg3 Bg4; have hB := below_step hB Bg4; have hS := hS.below Bg4; have hR := hR.below Bg4; clear eg4 Bg4)
        | (go_at_call 10; refine (alive_calls _).mono ?_; rintro e w3 ⟨rfl, hb⟩; have Xg3 := blk_below Xg3 hb; have Xg4 := blk_below Xg4 hb; have hB := below_step hB hb; have hS := hS.below hb; have hR := hR.below hb; clear hb)
        | ((with_reducible refine gate_dst (N := 20) rfl ?_); refine wpList_load_at rfl 47 (.tmp 3) rfl ⟨g3, 0, none⟩ rfl [.int .u64 atk, .int .i64 apl, .string anm, .int .i64 au, .int .i64 av, .int .i64 avx, .int .i64 avy, .int .i64 ahd, .int .i64 ahe, .int .i64 aen, .int .i64 aam, .int .i64 aco, .int .i64 awt, .int .i64 asp, .int .i64 asc, .slice aA an ac] _ Try.underlying47 rfl (by kernel_rfl) (At.of_blk Xg3) ?_)
        | ((with_reducible refine gate_dst (N := 21) rfl ?_); refine wpList_load_at rfl 47 (.tmp 4) rfl ⟨g4, 0, none⟩ rfl [.int .u64 btk, .int .i64 bpl, .string bnm, .int .i64 bu, .int .i64 bv, .int .i64 bvx, .int .i64 bvy, .int .i64 bhd, .int .i64 bhe, .int .i64 ben, .int .i64 bam, .int .i64 bco, .int .i64 bwt, .int .i64 bsp, .int .i64 bsc, .slice bA bn bc] _ Try.underlying47 rfl (by kernel_rfl) (At.of_blk Xg4) ?_)
        | ((with_reducible refine gate_dst (N := 23) rfl ?_); (with_reducible refine gate_callee (f := 26) rfl ?_); refine goesL_ _ rfl rfl Try.func26 (by kernel_rfl) rfl _ rfl (by simp only [List.map_toArray, List.map_cons, List.map_nil]; rfl) ?_; refine (btw_calls atk apl au av avx avy ahd ahe aen aam aco awt asp asc anm aA an ac btk bpl bu bv bvx bvy bhd bhe ben bam bco bwt bsp bsc bnm bA bn bc t _ ss rs hS hR hn hm n hN.out).mono ?_; rintro e w5 ⟨A0, c0, ps0, rfl, ho0, hl0, hp0, hb⟩; refine ⟨_, rfl, ?_⟩; have Xg3 := blk_below Xg3 hb; have Xg4 := blk_below Xg4 hb; have hB := below_step hB hb; have hS := hS.below hb; have hR := hR.below hb; have HF := Aside0.mk (PRow.of_own_n ho0 hl0); have HP0 := Aside0.mk hp0; clear hb ho0 hl0 hp0))
  go_loopw [8, 9, 10] (fun va vm i wr => ∃ (k : Nat) (la lm : List Value), k ≤ 4 ∧ i = .int .i64 k ∧ Aside0 (OwnV wr w5.heap.size va la) ∧ Aside0 (OwnV wr w5.heap.size vm lm) ∧ Aside0 (Sep va vm) ∧ Aside0 (Olds wr n k la lm) ∧ Aside0 (Below w5.heap.size w5 wr)) (fun _ _ i _ => 4 - (intOf i).toNat)
  case atStart => exact ⟨0, [], [], by omega, rfl, ⟨own_nil _ _ _ _⟩, ⟨own_nil _ _ _ _⟩, ⟨Sep.none _⟩, ⟨Olds.zero _ _⟩, ⟨Below.refl _ _⟩⟩
  case round =>
    obtain ⟨k, la, lm, hk, rfl, HA, HM, HSP, HO, HB⟩ := hrel
    have hva := HA.out
    have hvm := HM.out
    have hB5 := HB.out
    have HOk := HO
    clear HA HM HB HO
    obtain ⟨va, rfl⟩ : ∃ va, va = u8 := ⟨_, rfl⟩
    obtain ⟨vm, rfl⟩ : ∃ vm, vm = u9 := ⟨_, rfl⟩
    obtain ⟨wk, rfl⟩ : ∃ wk, wk = wr := ⟨_, rfl⟩
    by_cases hk4 : k < 4
    · have hk2 : (k : Int) < 4 := by omega
      have hk0 : (0 : Int) ≤ k := Int.natCast_nonneg k
      have HSZ := Aside0.mk hB5.size
      have X3k := blk_below Xg3 hB5
      have X4k := blk_below Xg4 hB5
      go_wp2_with (first
        | ((with_reducible refine gate_dst (N := 28) rfl ?_); refine wpList_load_at rfl 47 (.tmp 3) rfl ⟨g3, 0, none⟩ rfl [.int .u64 atk, .int .i64 apl, .string anm, .int .i64 au, .int .i64 av, .int .i64 avx, .int .i64 avy, .int .i64 ahd, .int .i64 ahe, .int .i64 aen, .int .i64 aam, .int .i64 aco, .int .i64 awt, .int .i64 asp, .int .i64 asc, .slice aA an ac] _ Try.underlying47 rfl (by kernel_rfl) (At.of_blk X3k) ?_)
        | ((with_reducible refine gate_dst (N := 29) rfl ?_); refine wpList_load_at rfl 47 (.tmp 4) rfl ⟨g4, 0, none⟩ rfl [.int .u64 btk, .int .i64 bpl, .string bnm, .int .i64 bu, .int .i64 bv, .int .i64 bvx, .int .i64 bvy, .int .i64 bhd, .int .i64 bhe, .int .i64 ben, .int .i64 bam, .int .i64 bco, .int .i64 bwt, .int .i64 bsp, .int .i64 bsc, .slice bA bn bc] _ Try.underlying47 rfl (by kernel_rfl) (At.of_blk X4k) ?_)
        | ((with_reducible refine gate_dst (N := 31) rfl ?_); (with_reducible refine gate_callee (f := 26) rfl ?_); refine goesL_ _ rfl rfl Try.func26 (by kernel_rfl) rfl _ rfl (by simp only [List.map_toArray, List.map_cons, List.map_nil]; rfl) ?_; refine (btw_calls atk apl au av avx avy ahd ahe aen aam aco awt asp asc anm aA an ac btk bpl bu bv bvx bvy bhd bhe ben bam bco bwt bsp bsc bnm bA bn bc t _ ss rs (hS.below hB5) (hR.below hB5) hn hm n hN.out).mono ?_; rintro e w8 ⟨A, c, ps, rfl, ho, hl, hp, hb⟩; refine ⟨_, rfl, ?_⟩; have hBk := hb; have HPS := Aside0.mk hp; have HLN := Aside0.mk hl; have HLT := Aside0.mk (own_lt ho); clear hb hp hl)
        | ((with_reducible refine gate_dst (N := 34) rfl ?_); (with_reducible refine gate_callee (f := 25) rfl ?_); refine goesL_ _ rfl rfl Try.func25 (by kernel_rfl) rfl _ rfl (by simp only [List.map_toArray, List.map_cons, List.map_nil]; rfl) ?_; refine (same_calls A A0 n n c c0 rfl ps ps0 _ (PRow.of_own_n ho HLN.out) (HF.out.below (below_step hB5 hBk)) (HPS.out.trans HP0.out.symm) hnn).mono ?_; rintro e w9 ⟨rfl, hb⟩; refine ⟨_, rfl, ?_⟩; have hsz9 := hb.size; have ho := pw_own_below ho hb; have hBk := below_step hBk hb; clear hb)
        | ((with_reducible refine gate_dst (N := 12) rfl ?_); refine box_event ?hg (N := 12) ?hd (cs := #[.float .f32 0, .float .f32 0, .float .f32 0]) (t := 24) ?hr ?_; (case hd => rfl); (case hg => rfl); (case hr => first | (go_simp; done) | (go_simp; rfl)); intro g12 eg12 w10 Xg12 Bg12; have hg12 : w9.heap.size ≤ g12 := Nat.le_of_eq eg12.symm; clear eg12)
        | ((with_reducible refine gate_store (t := 24) (p := 12) rfl ?_); refine wpList_store_blk rfl 24 (.tmp 12) (.tmp 39) rfl g12 [.float .f32 (floatOfInt .f32 ((k : Int) + 1)), .float .f32 0, .float .f32 3239051264] rfl rfl 24 _ Xg12 (by kernel_rfl) (size3 _ _ _ _ _ _) (all3 _ _ _) ?_; intro w11 Xs hb6 hk6 hz6; have hBr := hb6 _ _ Bg12 hg12; have ho := pw_own_below ho hBr; have hBk := below_step hBk hBr; clear hb6 hk6 hz6 Xg12 Bg12 hBr; have Xg12 := Xs; clear Xs))
      have HVA := Aside0.mk hva
      have HVM := Aside0.mk hvm
      have HB5 := Aside0.mk hB5
      have HGL := Aside0.mk (Nat.le_trans hsz9 hg12)
      clear X3k X4k hva hvm hB5
      go_loopw [13] (fun i wr => ∃ m : Nat, m ≤ n ∧ i = .int .i64 m ∧ Aside0 (wr.ownsRow wk.heap.size 24 3 (.slice A n c) n (rowP (List.replicate m (mkP k) ++ ps.drop m))) ∧ Aside0 (wr.heap[g12]? = some (.cells #[.float .f32 (floatOfInt .f32 ((k : Int) + 1)), .float .f32 0, .float .f32 3239051264] 24 (0, 0))) ∧ Aside0 (Below wk.heap.size wk wr)) (fun i _ => n - (intOf i).toNat)
      case atStart => exact ⟨0, Nat.zero_le _, rfl, ⟨by rw [List.replicate_zero, List.nil_append, List.drop_zero]; exact ho⟩, ⟨Xg12⟩, ⟨hBk⟩⟩
      case round =>
        clear ho Xg12 hBk
        obtain ⟨m, hm', rfl, HR, HX, HB⟩ := hrel
        have ho := HR.out
        have Xg12 := HX.out
        have hBk := HB.out
        clear HR HX HB
        by_cases hmn : m < n
        · obtain ⟨gl, cl, el, hgl, _⟩ := ho.form (by omega)
          injection el with e1 e2 e3
          subst e1 e3
          have n12 : gl ≠ g12 := by have := HLT.out gl rfl; have := HGL.out; omega
          obtain ⟨⟨x0, y0, a0, c_0, c_1, c_2⟩, f_0, f_1, f_2⟩ := fillP_cell ho (by rw [List.length_append, List.length_replicate, List.length_drop, HLN.out]; omega) m hmn
          have HN := Aside0.mk (fillP_own ho HLN.out hmn)
          have hm2 : (m : Int) < (n : Int) := Int.ofNat_lt.mpr hmn
          have hm0 : (0 : Int) ≤ m := Int.natCast_nonneg m
          have hmb : (m : Int) ≤ 140737488351233 := by omega
          clear ho
          go_wp2_with (first
            | ((with_reducible refine gate_dst (N := 48) rfl ?_); refine wpList_load_at rfl 24 (.tmp 12) rfl ⟨g12, 0, none⟩ rfl [.float .f32 (floatOfInt .f32 ((k : Int) + 1)), .float .f32 0, .float .f32 3239051264] _ Try.underlying24 rfl (by kernel_rfl) (At.of_blk Xg12) ?_))
          go_roundw
          case rel => exact ⟨m + 1, by omega, by go_num, HN, ⟨blk_far (blk_far (blk_far Xg12 (p := ⟨gl, m * 3, none⟩) n12.symm _) (p := ⟨gl, m * 3 + 1, none⟩) n12.symm _) (p := ⟨gl, m * 3 + 2, none⟩) n12.symm _⟩, ⟨((hBk.setCell hgl _).setCell hgl _).setCell hgl _⟩⟩
          case measure => simp [intOf]; omega
        · obtain rfl : n = m := by omega
          have ho2 : wr.ownsRow wk.heap.size 24 3 (.slice A n c) n (rowP (List.replicate n (mkP k))) := by
            rwa [List.drop_of_length_le (Nat.le_of_eq HLN.out), List.append_nil] at ho
          have ho := ho2
          clear ho2
          have hva := pw_own_below HVA.out hBk
          have hvm := pw_own_below HVM.out hBk
          have hB5 := below_step HB5.out hBk
          have hK := K24.of_below hBk
          have hfl := full_of_own ho
          have hkw := hBk.size
          clear hBk
          go_wp2_with (first
            | ((with_reducible refine gate_dst (N := 53) rfl ?_); refine print_append (w0 := w5) w5.heap.size rfl (.tmp 50) (.tmp 52) 58 51 (.slice none 0 0) 24 rfl Try.underlying58 (by kernel_rfl) rfl (by decide) va la (.slice A n c) rfl rfl rfl hva hB5 hB5.size (by rw [HOk.out.na]; omega) ?_; intro va1 w13 hva1 hB13 hg13 hat13))
          have hl3 := own_2451 ho hva hg13
          have hvm3 := own_sep hvm hg13 HSP.out.symm
          have X3 := blk_grown Xg12 hg13 (own_ne hva Xg12 (by decide))
          have hK3 := hK.trans (K24.grown51 hva hg13)
          have hfl3 := hfl.kept (K24.grown51 hva hg13)
          have hsp3 := Aside0.mk ((HSP.out.symm).app hat13 (own_lt hvm)).symm
          have hkw3 := Nat.le_trans hkw hg13.size
          have HNB := Aside0.mk (show ∀ b, (Value.slice A n c).ownBlock = some b → b ≠ g12 from fun b hb => by have := HLT.out b hb; have := HGL.out; omega)
          have HKW := Aside0.mk hkw3
          clear ho hva hvm hB5 hK hfl hkw hkw3 hg13 hat13 Xg12
          go_wp2_with fail
          go_loopw [11, 14] (fun v i wr => ∃ j : Nat, j ≤ 40 ∧ i = .int .i64 j ∧ Aside0 (wr.ownsRow wk.heap.size 24 3 v (n + j) (rowP (List.replicate (n + j) (mkP k)))) ∧ Aside0 (∀ b, v.ownBlock = some b → b ≠ g12) ∧ Aside0 (Full wr (.slice A n c) n (mkP k)) ∧ Aside0 (OwnV wr w5.heap.size va1 (la ++ [.slice A n c])) ∧ Aside0 (OwnV wr w5.heap.size vm lm) ∧ Aside0 (wr.heap[g12]? = some (.cells #[.float .f32 (floatOfInt .f32 ((k : Int) + 1)), .float .f32 0, .float .f32 3239051264] 24 (0, 0))) ∧ Aside0 (K24 wk wr) ∧ Aside0 (wk.heap.size ≤ wr.heap.size) ∧ Aside0 (Below w5.heap.size w5 wr)) (fun _ i _ => 40 - (intOf i).toNat)
          case atStart => exact ⟨0, by omega, rfl, ⟨hl3⟩, HNB, ⟨hfl3⟩, ⟨hva1⟩, ⟨hvm3⟩, ⟨X3⟩, ⟨hK3⟩, HKW, ⟨hB13⟩⟩
          case round =>
            clear hl3 hfl3 hva1 hvm3 X3 hK3 hB13
            obtain ⟨j, hj, rfl, HV, HNB, HFL, HA1, HM1, HX, HK, HKW, HB⟩ := hrel
            have hv := HV.out
            have hB5 := HB.out
            have Xg12 := HX.out
            clear HV HB HX
            obtain ⟨v40, rfl⟩ : ∃ v, v = u11 := ⟨_, rfl⟩
            by_cases hj4 : j < 40
            · have hj2 : (j : Int) < 40 := by omega
              have hkw := HKW.out
              have hva1 := HA1.out
              have hvm := HM1.out
              clear HA1 HM1
              go_wp2_with (first
                | ((with_reducible refine gate_dst (N := 59) rfl ?_); refine wpList_load_at rfl 24 (.tmp 12) rfl ⟨g12, 0, none⟩ rfl [.float .f32 (floatOfInt .f32 ((k : Int) + 1)), .float .f32 0, .float .f32 3239051264] _ Try.underlying24 rfl (by kernel_rfl) (At.of_blk Xg12) ?_)
                | ((with_reducible refine gate_dst (N := 61) rfl ?_); refine wp_app3 wk.heap.size rfl (.tmp 58) (.tmp 60) rfl Try.underlying51 (by kernel_rfl) _ _ _ (mkP k) rfl rfl hv hkw (by omega) ?_; intro v1 w14 hv1 hg14 hat14))
              have hv2 : w14.ownsRow wk.heap.size 24 3 v1 (n + (j + 1)) (rowP (List.replicate (n + (j + 1)) (mkP k))) := by
                rw [← Nat.add_assoc, ← rowP_rep]
                exact hv1
              have X4 := blk_grown Xg12 hg14 (fun e => HNB.out g12 e.symm rfl)
              have hK4 := HK.out.grown24 hv (Nat.le_refl _) hg14
              have hfl4 := HFL.out.app (N := n + j) (by rw [← rowP_rep]; exact hv1) (by omega) hg14 hat14
              have hva4 := own_5124 hva1 hv hg14
              have hvm4 := own_5124 hvm hv hg14
              have hB4 := pw_below_grown hB5 _ hB5.size hg14 (fun b hb => Nat.le_trans HSZ.out (own_base hv b hb))
              have HNB4 := Aside0.mk (show ∀ b, v1.ownBlock = some b → b ≠ g12 from fun b hb => by
                rcases hat14 with ⟨e1, _⟩ | ⟨⟨b', e1, hb'⟩, _⟩
                · exact HNB.out b (e1.symm.trans hb)
                · rw [e1] at hb; injection hb with hb; have := blk_lt Xg12; omega)
              have hkw4 := Nat.le_trans hkw hg14.size
              clear hv hva1 hvm hB5 Xg12 hv1 hg14 hat14 HK HFL HKW HNB hkw
              go_roundw
              case rel => exact ⟨j + 1, by omega, by go_num, ⟨hv2⟩, HNB4, ⟨hfl4⟩, ⟨hva4⟩, ⟨hvm4⟩, ⟨X4⟩, ⟨hK4⟩, ⟨hkw4⟩, ⟨hB4⟩⟩
              case measure => simp [intOf]; omega
            · obtain rfl : j = 40 := by omega
              have hva1 := HA1.out
              have hvm := HM1.out
              clear HA1 HM1
              have hfv := full_of_own hv
              obtain ⟨AV, cv, rfl⟩ := own_slice hv
              go_wp2_with (first
                | ((with_reducible refine gate_dst (N := 65) rfl ?_); refine print_append (w0 := w5) w5.heap.size rfl (.tmp 62) (.tmp 64) 58 51 (.slice none 0 0) 24 rfl Try.underlying58 (by kernel_rfl) rfl (by decide) vm lm (.slice AV (n + 40) cv) rfl rfl (by rfl) hvm hB5 hB5.size (by rw [HOk.out.nm]; omega) ?_; intro vm1 w15 hvm1 hB15 hg15 hat15))
              have hva5 := own_sep hva1 hg15 hsp3.out
              have hsp5 := hsp3.out.app hat15 (own_lt hva1)
              have hK5 := K24.grown51 hvm hg15
              have HO5 := ((HOk.out.kept HK.out).kept hK5).snoc (HFL.out.kept hK5) (hfv.kept hK5)
              clear hva1 hvm hv hB5 hg15 hat15 hK5 HK HFL hfv
              go_roundw
              case rel => exact ⟨k + 1, _, _, by omega, by go_num, ⟨hva5⟩, ⟨hvm1⟩, ⟨hsp5⟩, ⟨HO5⟩, ⟨hB15⟩⟩
              case measure => simp [intOf]; omega
    · obtain rfl : k = 4 := by omega
      obtain ⟨gva, cva, rfl, hca, hla⟩ := ownV_form hva HOk.out.na (by omega)
      obtain ⟨gvm, cvm, rfl, hcm, hlm⟩ := ownV_form hvm HOk.out.nm (by omega)
      have HLA := Aside0.mk hla
      have HLM := Aside0.mk hlm
      clear hla hlm hva hvm
      rw [show ((4 : Nat) : Int) = 4 from rfl]
      go_wp2_with fail
      go_loopw [15] (fun i wr => ∃ k : Nat, k ≤ 4 ∧ i = .int .i64 k ∧ Aside0 (Below wk.heap.size wk wr)) (fun i _ => 4 - (intOf i).toNat)
      case atStart => exact ⟨0, by omega, rfl, ⟨Below.refl _ _⟩⟩
      case round =>
        obtain ⟨k, hk, rfl, HB⟩ := hrel
        have hBe := HB.out
        clear HB
        obtain ⟨we, rfl⟩ : ∃ we, we = wr := ⟨_, rfl⟩
        by_cases hk4 : k < 4
        · have hk2 : (k : Int) < 4 := by omega
          have hk0 : (0 : Int) ≤ k := Int.natCast_nonneg k
          obtain ⟨hfa, hfm⟩ := HOk.out.at_ k hk4
          obtain ⟨AA, ca, ea, hra⟩ := (hfa.below hBe).out
          obtain ⟨AM, cm, em, hrm⟩ := (hfm.below hBe).out
          obtain ⟨gm, curm, eAM, Xm, hatm⟩ := hrm (by omega)
          subst eAM
          have cva0 := pw_cell_below hBe (HLA.out k hk4)
          have cvm0 := pw_cell_below hBe (HLM.out k hk4)
          rw [ea] at cva0
          rw [em] at cvm0
          have HRA := Aside0.mk hra
          have HAM := Aside0.mk hatm
          clear hfa hfm ea em hra hatm hrm
          go_wp2_with (first
            | ((with_reducible refine gate_dst (N := 16) rfl ?_); refine box_event ?hg (N := 16) ?hd (cs := #[.float .f32 0, .float .f32 0, .float .f32 0]) (t := 24) ?hr ?_; (case hd => rfl); (case hg => rfl); (case hr => first | (go_simp; done) | (go_simp; rfl)); intro g16 eg16 w20 Xg16 Bg16; have hg16 : we.heap.size ≤ g16 := Nat.le_of_eq eg16.symm; clear eg16)
            | ((with_reducible refine gate_store (t := 24) (p := 16) rfl ?_); refine wpList_store_blk rfl 24 (.tmp 16) (.tmp 73) rfl g16 [.float .f32 (floatOfInt .f32 ((k : Int) + 1)), .float .f32 0, .float .f32 3239051264] rfl rfl 24 _ Xg16 (by kernel_rfl) (size3 _ _ _ _ _ _) (all3 _ _ _) ?_; intro w21 Xs hb6 hk6 hz6; have hBr := hb6 _ _ Bg16 hg16; clear hb6 hk6 hz6 Xg16 Bg16; have Xg16 := Xs; clear Xs; have cvm1 := pw_cell_below hBr cvm0))
          have HBM := Aside0.mk hBr
          have hcva := pw_cell_below hBr cva0
          have hcvm := pw_cell_below hBr cvm0
          clear cva0 cvm0 hBr
          go_loopw [17] (fun i wr => ∃ m : Nat, m ≤ n + 40 ∧ i = .int .i64 m ∧ Aside0 (Drawn0 w21 wr)) (fun i _ => n + 40 - (intOf i).toNat)
          case atStart => exact ⟨0, Nat.zero_le _, rfl, ⟨Drawn0.refl _⟩⟩
          case round =>
            obtain ⟨m, hm', rfl, HD⟩ := hrel
            have hD := HD.out
            clear HD
            have c_m := dcell hD hcvm
            by_cases hmn : m < n + 40
            · have hm2 : (m : Int) < ((n + 40 : Nat) : Int) := Int.ofNat_lt.mpr hmn
              have hm3 : (m : Int) < (n : Int) + 40 := by omega
              have hmb : (m : Int) ≤ 140737488351273 := by omega
              have hm0 : (0 : Int) ≤ m := Int.natCast_nonneg m
              have e_1 := fun w => eq_float w _ (mk_nan k hk4)
              have e_2 := fun w => eq_float w _ n3
              have e_3 := fun w => eq_float w _ nan_m9
              have hAm : At wr.drew ⟨gm, m * 3, none⟩ [.float .f32 (floatOfInt .f32 ((k : Int) + 1)), .float .f32 0, .float .f32 3239051264] := (((HAM.out m hmn).below HBM.out).drawn hD).drew
              have hA16 := ((At.of_blk Xg16).drawn hD).drew
              have c_a := dcell hD hcva
              obtain ⟨F, hF⟩ : ∃ F, F = floatOfInt .f32 ((k : Int) + 1) := ⟨_, rfl⟩
              rw [← hF] at hAm hA16
              simp only [← hF] at e_1
              simp only [← hF]
              by_cases hin : m < n
              · obtain ⟨ga, cura, eAA, Xa, hata⟩ := HRA.out (by omega)
                subst eAA
                have hAa : At wr.drew ⟨ga, m * 3, none⟩ [.float .f32 (floatOfInt .f32 ((k : Int) + 1)), .float .f32 0, .float .f32 3239051264] := (((hata m hin).below HBM.out).drawn hD).drew
                rw [← hF] at hAa
                clear hata Xa hF
                have hin2 : (m : Int) < (n : Int) := Int.ofNat_lt.mpr hin
                have hin3 : decide ((m : Int) < (n : Int)) = true := decide_eq_true hin2
                go_wp2_with fail
                refine start_ (n := 29) (S := fun w' => w'.cell? ⟨gvm, k, none⟩ = some (.slice (some ⟨gm, 0, none⟩) (n + 40) cm) ∧ w'.cell? ⟨gva, k, none⟩ = some (.slice (some ⟨ga, 0, none⟩) n ca) ∧ At w' ⟨gm, m * 3, none⟩ [.float .f32 F, .float .f32 0, .float .f32 3239051264] ∧ At w' ⟨g16, 0, none⟩ [.float .f32 F, .float .f32 0, .float .f32 3239051264] ∧ At w' ⟨ga, m * 3, none⟩ [.float .f32 F, .float .f32 0, .float .f32 3239051264]) (ds := []) #[false, false, false, false, false, false, false, false, false, false, false, false, false, false, false, false, false, false, false, false, false, false, false, false, false, false, false, false, false] (by kernel_rfl) rfl rfl ⟨c_m, c_a, hAm, hA16, hAa⟩ (fun hHeld => ?_)
                refine pure_ (i := 0) (N := some 83) (v := ?_) (a' := ?_) #[true, false, false, false, false, false, false, false, false, false, false, false, false, false, false, false, false, false, false, false, false, false, false, false, false, false, false, false, false] rfl rfl (by kernel_rfl) (fun _ _ _ h => h) (Or.inl ⟨by rfl, ?_⟩) ?_ ?_
                rotate_left
                · intro w'
                  go_simp
                  with_reducible rfl
                rotate_left
                · simp only [Act.put, List.setIfInBounds_toArray, List.set_cons_zero, List.set_cons_succ, i64_w, i32_w]
                  rfl
                refine pure_ (i := 1) (N := some 84) (v := ?_) (a' := ?_) #[true, true, false, false, false, false, false, false, false, false, false, false, false, false, false, false, false, false, false, false, false, false, false, false, false, false, false, false, false] rfl rfl (by kernel_rfl) (fun _ _ _ h => h) (Or.inl ⟨by rfl, ?_⟩) ?_ ?_
                rotate_left
                · intro w'
                  go_simp
                  with_reducible rfl
                rotate_left
                · simp only [Act.put, List.setIfInBounds_toArray, List.set_cons_zero, List.set_cons_succ, i64_w, i32_w]
                  rfl
                refine pure_ (i := 2) (N := some 85) (v := ?_) (a' := ?_) #[true, true, true, false, false, false, false, false, false, false, false, false, false, false, false, false, false, false, false, false, false, false, false, false, false, false, false, false, false] rfl rfl (by kernel_rfl) (fun _ _ _ h => h) (Or.inl ⟨by rfl, ?_⟩) ?_ ?_
                rotate_left
                · intro w'
                  go_simp
                  with_reducible rfl
                rotate_left
                · simp only [Act.put, List.setIfInBounds_toArray, List.set_cons_zero, List.set_cons_succ, i64_w, i32_w]
                  rfl
                refine pure_ (i := 4) (N := some 87) (v := ?_) (a' := ?_) #[true, true, true, false, true, false, false, false, false, false, false, false, false, false, false, false, false, false, false, false, false, false, false, false, false, false, false, false, false] rfl rfl (by kernel_rfl) (fun _ _ _ h => h) (Or.inl ⟨by rfl, ?_⟩) ?_ ?_
                rotate_left
                · intro w'
                  go_simp
                  with_reducible rfl
                rotate_left
                · simp only [Act.put, List.setIfInBounds_toArray, List.set_cons_zero, List.set_cons_succ, i64_w, i32_w]
                  rfl
                refine take_ (i := 3) (N := some 86) (v := ?_) (a' := ?_) #[true, true, true, true, true, false, false, false, false, false, false, false, false, false, false, false, false, false, false, false, false, false, false, false, false, false, false, false, false] rfl rfl (by kernel_rfl) (fun _ _ _ h => h) (Or.inl ⟨by rfl, ?_⟩) hHeld ?_ ?_
                rotate_left
                · rintro w' ⟨s0, s1, s2, s3, s4⟩
                  go_simp
                  with_reducible rfl
                rotate_left
                · simp only [Act.put, List.setIfInBounds_toArray, List.set_cons_zero, List.set_cons_succ, i64_w, i32_w]
                  rfl
                refine pure_ (i := 5) (N := some 88) (v := ?_) (a' := ?_) #[true, true, true, true, true, true, false, false, false, false, false, false, false, false, false, false, false, false, false, false, false, false, false, false, false, false, false, false, false] rfl rfl (by kernel_rfl) (fun _ _ _ h => h) (Or.inl ⟨by rfl, ?_⟩) ?_ ?_
                rotate_left
                · intro w'
                  go_simp
                  with_reducible rfl
                rotate_left
                · simp only [Act.put, List.setIfInBounds_toArray, List.set_cons_zero, List.set_cons_succ, i64_w, i32_w]
                  rfl
                refine take_ (i := 6) (N := some 89) (v := ?_) (a' := ?_) #[true, true, true, true, true, true, true, false, false, false, false, false, false, false, false, false, false, false, false, false, false, false, false, false, false, false, false, false, false] rfl rfl (by kernel_rfl) (fun _ _ _ h => h) (Or.inl ⟨by rfl, ?_⟩) hHeld ?_ ?_
                rotate_left
                · rintro w' ⟨s0, s1, s2, s3, s4⟩
                  refine Eq.trans (exec_load_at 24 _ (by rfl) ⟨gm, m * 3, none⟩ (by rfl) [.float .f32 F, .float .f32 0, .float .f32 3239051264] _ Try.underlying24 rfl (by kernel_rfl) s2) ?_
                  with_reducible rfl
                rotate_left
                · simp only [Act.put, List.setIfInBounds_toArray, List.set_cons_zero, List.set_cons_succ, i64_w, i32_w]
                  rfl
                refine take_ (i := 7) (N := some 90) (v := ?_) (a' := ?_) #[true, true, true, true, true, true, true, true, false, false, false, false, false, false, false, false, false, false, false, false, false, false, false, false, false, false, false, false, false] rfl rfl (by kernel_rfl) (fun _ _ _ h => h) (Or.inl ⟨by rfl, ?_⟩) hHeld ?_ ?_
                rotate_left
                · rintro w' ⟨s0, s1, s2, s3, s4⟩
                  refine Eq.trans (exec_load_at 24 _ (by rfl) ⟨g16, 0, none⟩ (by rfl) [.float .f32 F, .float .f32 0, .float .f32 3239051264] _ Try.underlying24 rfl (by kernel_rfl) s3) ?_
                  with_reducible rfl
                rotate_left
                · simp only [Act.put, List.setIfInBounds_toArray, List.set_cons_zero, List.set_cons_succ, i64_w, i32_w]
                  rfl
                refine pure_ (i := 8) (N := some 91) (v := ?_) (a' := ?_) #[true, true, true, true, true, true, true, true, true, false, false, false, false, false, false, false, false, false, false, false, false, false, false, false, false, false, false, false, false] rfl rfl (by kernel_rfl) (fun _ _ _ h => h) (Or.inl ⟨by rfl, ?_⟩) ?_ ?_
                rotate_left
                · intro w'
                  go_simp
                  with_reducible rfl
                rotate_left
                · simp only [Act.put, List.setIfInBounds_toArray, List.set_cons_zero, List.set_cons_succ, i64_w, i32_w]
                  rfl
                refine pure_ (i := 9) (N := some 92) (v := ?_) (a' := ?_) #[true, true, true, true, true, true, true, true, true, true, false, false, false, false, false, false, false, false, false, false, false, false, false, false, false, false, false, false, false] rfl rfl (by kernel_rfl) (fun _ _ _ h => h) (Or.inl ⟨by rfl, ?_⟩) ?_ ?_
                rotate_left
                · intro w'
                  go_simp
                  with_reducible rfl
                rotate_left
                · simp only [Act.put, List.setIfInBounds_toArray, List.set_cons_zero, List.set_cons_succ, i64_w, i32_w]
                  rfl
                refine pure_ (i := 10) (N := some 93) (v := ?_) (a' := ?_) #[true, true, true, true, true, true, true, true, true, true, true, false, false, false, false, false, false, false, false, false, false, false, false, false, false, false, false, false, false] rfl rfl (by kernel_rfl) (fun _ _ _ h => h) (Or.inl ⟨by rfl, ?_⟩) ?_ ?_
                rotate_left
                · intro w'
                  go_simp
                  with_reducible rfl
                rotate_left
                · simp only [Act.put, List.setIfInBounds_toArray, List.set_cons_zero, List.set_cons_succ, i64_w, i32_w]
                  rfl
                refine pure_ (i := 11) (N := some 94) (v := ?_) (a' := ?_) #[true, true, true, true, true, true, true, true, true, true, true, true, false, false, false, false, false, false, false, false, false, false, false, false, false, false, false, false, false] rfl rfl (by kernel_rfl) (fun _ _ _ h => h) (Or.inl ⟨by rfl, ?_⟩) ?_ ?_
                rotate_left
                · intro w'
                  go_simp
                  with_reducible rfl
                rotate_left
                · simp only [Act.put, List.setIfInBounds_toArray, List.set_cons_zero, List.set_cons_succ, i64_w, i32_w]
                  rfl
                refine pure_ (i := 12) (N := some 95) (v := ?_) (a' := ?_) #[true, true, true, true, true, true, true, true, true, true, true, true, true, false, false, false, false, false, false, false, false, false, false, false, false, false, false, false, false] rfl rfl (by kernel_rfl) (fun _ _ _ h => h) (Or.inl ⟨by rfl, ?_⟩) ?_ ?_
                rotate_left
                · intro w'
                  go_simp
                  with_reducible rfl
                rotate_left
                · simp only [Act.put, List.setIfInBounds_toArray, List.set_cons_zero, List.set_cons_succ, i64_w, i32_w]
                  rfl
                refine pure_ (i := 13) (N := some 96) (v := ?_) (a' := ?_) #[true, true, true, true, true, true, true, true, true, true, true, true, true, true, false, false, false, false, false, false, false, false, false, false, false, false, false, false, false] rfl rfl (by kernel_rfl) (fun _ _ _ h => h) (Or.inl ⟨by rfl, ?_⟩) ?_ ?_
                rotate_left
                · intro w'
                  go_simp
                  with_reducible rfl
                rotate_left
                · simp only [Act.put, List.setIfInBounds_toArray, List.set_cons_zero, List.set_cons_succ, i64_w, i32_w]
                  rfl
                refine take_ (i := 14) (N := some 97) (v := ?_) (a' := ?_) #[true, true, true, true, true, true, true, true, true, true, true, true, true, true, true, false, false, false, false, false, false, false, false, false, false, false, false, false, false] rfl rfl (by kernel_rfl) (fun _ _ _ h => h) (Or.inl ⟨by rfl, ?_⟩) hHeld ?_ ?_
                rotate_left
                · rintro w' ⟨s0, s1, s2, s3, s4⟩
                  go_simp
                  with_reducible rfl
                rotate_left
                · simp only [Act.put, List.setIfInBounds_toArray, List.set_cons_zero, List.set_cons_succ, i64_w, i32_w]
                  rfl
                refine pure_ (i := 15) (N := some 98) (v := ?_) (a' := ?_) #[true, true, true, true, true, true, true, true, true, true, true, true, true, true, true, true, false, false, false, false, false, false, false, false, false, false, false, false, false] rfl rfl (by kernel_rfl) (fun _ _ _ h => h) (Or.inl ⟨by rfl, ?_⟩) ?_ ?_
                rotate_left
                · intro w'
                  go_simp
                  with_reducible rfl
                rotate_left
                · simp only [Act.put, List.setIfInBounds_toArray, List.set_cons_zero, List.set_cons_succ, i64_w, i32_w]
                  rfl
                refine pure_ (i := 16) (N := some 99) (v := ?_) (a' := ?_) #[true, true, true, true, true, true, true, true, true, true, true, true, true, true, true, true, true, false, false, false, false, false, false, false, false, false, false, false, false] rfl rfl (by kernel_rfl) (fun _ _ _ h => h) (Or.inl ⟨by rfl, ?_⟩) ?_ ?_
                rotate_left
                · intro w'
                  go_simp
                  with_reducible rfl
                rotate_left
                · simp only [Act.put, List.setIfInBounds_toArray, List.set_cons_zero, List.set_cons_succ, i64_w, i32_w]
                  rfl
                refine pure_ (i := 17) (N := some 100) (v := ?_) (a' := ?_) #[true, true, true, true, true, true, true, true, true, true, true, true, true, true, true, true, true, true, false, false, false, false, false, false, false, false, false, false, false] rfl rfl (by kernel_rfl) (fun _ _ _ h => h) (Or.inl ⟨by rfl, ?_⟩) ?_ ?_
                rotate_left
                · intro w'
                  go_simp
                  with_reducible rfl
                rotate_left
                · simp only [Act.put, List.setIfInBounds_toArray, List.set_cons_zero, List.set_cons_succ, i64_w, i32_w]
                  rfl
                refine pure_ (i := 18) (N := some 101) (v := ?_) (a' := ?_) #[true, true, true, true, true, true, true, true, true, true, true, true, true, true, true, true, true, true, true, false, false, false, false, false, false, false, false, false, false] rfl rfl (by kernel_rfl) (fun _ _ _ h => h) (Or.inl ⟨by rfl, ?_⟩) ?_ ?_
                rotate_left
                · intro w'
                  go_simp
                  with_reducible rfl
                rotate_left
                · simp only [Act.put, List.setIfInBounds_toArray, List.set_cons_zero, List.set_cons_succ, i64_w, i32_w]
                  rfl
                refine pure_ (i := 19) (N := some 102) (v := ?_) (a' := ?_) #[true, true, true, true, true, true, true, true, true, true, true, true, true, true, true, true, true, true, true, true, false, false, false, false, false, false, false, false, false] rfl rfl (by kernel_rfl) (fun _ _ _ h => h) (Or.inl ⟨by rfl, ?_⟩) ?_ ?_
                rotate_left
                · intro w'
                  go_simp
                  with_reducible rfl
                rotate_left
                · simp only [Act.put, List.setIfInBounds_toArray, List.set_cons_zero, List.set_cons_succ, i64_w, i32_w]
                  rfl
                refine pure_ (i := 20) (N := some 103) (v := ?_) (a' := ?_) #[true, true, true, true, true, true, true, true, true, true, true, true, true, true, true, true, true, true, true, true, true, false, false, false, false, false, false, false, false] rfl rfl (by kernel_rfl) (fun _ _ _ h => h) (Or.inl ⟨by rfl, ?_⟩) ?_ ?_
                rotate_left
                · intro w'
                  go_simp
                  with_reducible rfl
                rotate_left
                · simp only [Act.put, List.setIfInBounds_toArray, List.set_cons_zero, List.set_cons_succ, i64_w, i32_w]
                  rfl
                refine pure_ (i := 22) (N := some 105) (v := ?_) (a' := ?_) #[true, true, true, true, true, true, true, true, true, true, true, true, true, true, true, true, true, true, true, true, true, false, true, false, false, false, false, false, false] rfl rfl (by kernel_rfl) (fun _ _ _ h => h) (Or.inl ⟨by rfl, ?_⟩) ?_ ?_
                rotate_left
                · intro w'
                  go_simp
                  with_reducible rfl
                rotate_left
                · simp only [Act.put, List.setIfInBounds_toArray, List.set_cons_zero, List.set_cons_succ, i64_w, i32_w]
                  rfl
                refine take_ (i := 21) (N := some 104) (v := ?_) (a' := ?_) #[true, true, true, true, true, true, true, true, true, true, true, true, true, true, true, true, true, true, true, true, true, true, true, false, false, false, false, false, false] rfl rfl (by kernel_rfl) (fun _ _ _ h => h) (Or.inl ⟨by rfl, ?_⟩) hHeld ?_ ?_
                rotate_left
                · rintro w' ⟨s0, s1, s2, s3, s4⟩
                  go_simp
                  with_reducible rfl
                rotate_left
                · simp only [Act.put, List.setIfInBounds_toArray, List.set_cons_zero, List.set_cons_succ, i64_w, i32_w]
                  rfl
                refine pure_ (i := 23) (N := some 106) (v := ?_) (a' := ?_) #[true, true, true, true, true, true, true, true, true, true, true, true, true, true, true, true, true, true, true, true, true, true, true, true, false, false, false, false, false] rfl rfl (by kernel_rfl) (fun _ _ _ h => h) (Or.inl ⟨by rfl, ?_⟩) ?_ ?_
                rotate_left
                · intro w'
                  go_simp
                  with_reducible rfl
                rotate_left
                · simp only [Act.put, List.setIfInBounds_toArray, List.set_cons_zero, List.set_cons_succ, i64_w, i32_w]
                  rfl
                refine take_ (i := 24) (N := some 107) (v := ?_) (a' := ?_) #[true, true, true, true, true, true, true, true, true, true, true, true, true, true, true, true, true, true, true, true, true, true, true, true, true, false, false, false, false] rfl rfl (by kernel_rfl) (fun _ _ _ h => h) (Or.inl ⟨by rfl, ?_⟩) hHeld ?_ ?_
                rotate_left
                · rintro w' ⟨s0, s1, s2, s3, s4⟩
                  refine Eq.trans (exec_load_at 24 _ (by rfl) ⟨ga, m * 3, none⟩ (by rfl) [.float .f32 F, .float .f32 0, .float .f32 3239051264] _ Try.underlying24 rfl (by kernel_rfl) s4) ?_
                  with_reducible rfl
                rotate_left
                · simp only [Act.put, List.setIfInBounds_toArray, List.set_cons_zero, List.set_cons_succ, i64_w, i32_w]
                  rfl
                refine take_ (i := 25) (N := some 108) (v := ?_) (a' := ?_) #[true, true, true, true, true, true, true, true, true, true, true, true, true, true, true, true, true, true, true, true, true, true, true, true, true, true, false, false, false] rfl rfl (by kernel_rfl) (fun _ _ _ h => h) (Or.inl ⟨by rfl, ?_⟩) hHeld ?_ ?_
                rotate_left
                · rintro w' ⟨s0, s1, s2, s3, s4⟩
                  refine Eq.trans (exec_load_at 24 _ (by rfl) ⟨g16, 0, none⟩ (by rfl) [.float .f32 F, .float .f32 0, .float .f32 3239051264] _ Try.underlying24 rfl (by kernel_rfl) s3) ?_
                  with_reducible rfl
                rotate_left
                · simp only [Act.put, List.setIfInBounds_toArray, List.set_cons_zero, List.set_cons_succ, i64_w, i32_w]
                  rfl
                refine pure_ (i := 26) (N := some 109) (v := ?_) (a' := ?_) #[true, true, true, true, true, true, true, true, true, true, true, true, true, true, true, true, true, true, true, true, true, true, true, true, true, true, true, false, false] rfl rfl (by kernel_rfl) (fun _ _ _ h => h) (Or.inl ⟨by rfl, ?_⟩) ?_ ?_
                rotate_left
                · intro w'
                  go_simp
                  with_reducible rfl
                rotate_left
                · simp only [Act.put, List.setIfInBounds_toArray, List.set_cons_zero, List.set_cons_succ, i64_w, i32_w]
                  rfl
                refine pure_ (i := 27) (N := some 110) (v := ?_) (a' := ?_) #[true, true, true, true, true, true, true, true, true, true, true, true, true, true, true, true, true, true, true, true, true, true, true, true, true, true, true, true, false] rfl rfl (by kernel_rfl) (fun _ _ _ h => h) (Or.inl ⟨by rfl, ?_⟩) ?_ ?_
                rotate_left
                · intro w'
                  go_simp
                  with_reducible rfl
                rotate_left
                · simp only [Act.put, List.setIfInBounds_toArray, List.set_cons_zero, List.set_cons_succ, i64_w, i32_w]
                  rfl
                refine pure_ (i := 28) (N := some 111) (v := ?_) (a' := ?_) #[true, true, true, true, true, true, true, true, true, true, true, true, true, true, true, true, true, true, true, true, true, true, true, true, true, true, true, true, true] rfl rfl (by kernel_rfl) (fun _ _ _ h => h) (Or.inl ⟨by rfl, ?_⟩) ?_ ?_
                rotate_left
                · intro w'
                  go_simp
                  with_reducible rfl
                rotate_left
                · simp only [Act.put, List.setIfInBounds_toArray, List.set_cons_zero, List.set_cons_succ, i64_w, i32_w]
                  rfl
                refine done_ (by kernel_rfl) ?_

                clear e_1 e_2 e_3
                go_wp2
                go_roundw
                case rel => exact ⟨m + 1, by omega, by go_num, ⟨hD.step 1⟩⟩
                case measure => simp [intOf]; omega
              · have hin3 : decide ((m : Int) < (n : Int)) = false := decide_eq_false (by omega)
                clear hF
                go_wp2_with fail
                refine start_ (n := 29) (S := fun w' => w'.cell? ⟨gvm, k, none⟩ = some (.slice (some ⟨gm, 0, none⟩) (n + 40) cm) ∧ w'.cell? ⟨gva, k, none⟩ = some (.slice AA n ca) ∧ At w' ⟨gm, m * 3, none⟩ [.float .f32 F, .float .f32 0, .float .f32 3239051264] ∧ At w' ⟨g16, 0, none⟩ [.float .f32 F, .float .f32 0, .float .f32 3239051264]) (ds := []) #[false, false, false, false, false, false, false, false, false, false, false, false, false, false, false, false, false, false, false, false, false, false, false, false, false, false, false, false, false] (by kernel_rfl) rfl rfl ⟨c_m, c_a, hAm, hA16⟩ (fun hHeld => ?_)
                refine pure_ (i := 0) (N := some 83) (v := ?_) (a' := ?_) #[true, false, false, false, false, false, false, false, false, false, false, false, false, false, false, false, false, false, false, false, false, false, false, false, false, false, false, false, false] rfl rfl (by kernel_rfl) (fun _ _ _ h => h) (Or.inl ⟨by rfl, ?_⟩) ?_ ?_
                rotate_left
                · intro w'
                  go_simp
                  with_reducible rfl
                rotate_left
                · simp only [Act.put, List.setIfInBounds_toArray, List.set_cons_zero, List.set_cons_succ, i64_w, i32_w]
                  rfl
                refine pure_ (i := 1) (N := some 84) (v := ?_) (a' := ?_) #[true, true, false, false, false, false, false, false, false, false, false, false, false, false, false, false, false, false, false, false, false, false, false, false, false, false, false, false, false] rfl rfl (by kernel_rfl) (fun _ _ _ h => h) (Or.inl ⟨by rfl, ?_⟩) ?_ ?_
                rotate_left
                · intro w'
                  go_simp
                  with_reducible rfl
                rotate_left
                · simp only [Act.put, List.setIfInBounds_toArray, List.set_cons_zero, List.set_cons_succ, i64_w, i32_w]
                  rfl
                refine pure_ (i := 2) (N := some 85) (v := ?_) (a' := ?_) #[true, true, true, false, false, false, false, false, false, false, false, false, false, false, false, false, false, false, false, false, false, false, false, false, false, false, false, false, false] rfl rfl (by kernel_rfl) (fun _ _ _ h => h) (Or.inl ⟨by rfl, ?_⟩) ?_ ?_
                rotate_left
                · intro w'
                  go_simp
                  with_reducible rfl
                rotate_left
                · simp only [Act.put, List.setIfInBounds_toArray, List.set_cons_zero, List.set_cons_succ, i64_w, i32_w]
                  rfl
                refine pure_ (i := 4) (N := some 87) (v := ?_) (a' := ?_) #[true, true, true, false, true, false, false, false, false, false, false, false, false, false, false, false, false, false, false, false, false, false, false, false, false, false, false, false, false] rfl rfl (by kernel_rfl) (fun _ _ _ h => h) (Or.inl ⟨by rfl, ?_⟩) ?_ ?_
                rotate_left
                · intro w'
                  go_simp
                  with_reducible rfl
                rotate_left
                · simp only [Act.put, List.setIfInBounds_toArray, List.set_cons_zero, List.set_cons_succ, i64_w, i32_w]
                  rfl
                refine take_ (i := 3) (N := some 86) (v := ?_) (a' := ?_) #[true, true, true, true, true, false, false, false, false, false, false, false, false, false, false, false, false, false, false, false, false, false, false, false, false, false, false, false, false] rfl rfl (by kernel_rfl) (fun _ _ _ h => h) (Or.inl ⟨by rfl, ?_⟩) hHeld ?_ ?_
                rotate_left
                · rintro w' ⟨s0, s1, s2, s3⟩
                  go_simp
                  with_reducible rfl
                rotate_left
                · simp only [Act.put, List.setIfInBounds_toArray, List.set_cons_zero, List.set_cons_succ, i64_w, i32_w]
                  rfl
                refine pure_ (i := 5) (N := some 88) (v := ?_) (a' := ?_) #[true, true, true, true, true, true, false, false, false, false, false, false, false, false, false, false, false, false, false, false, false, false, false, false, false, false, false, false, false] rfl rfl (by kernel_rfl) (fun _ _ _ h => h) (Or.inl ⟨by rfl, ?_⟩) ?_ ?_
                rotate_left
                · intro w'
                  go_simp
                  with_reducible rfl
                rotate_left
                · simp only [Act.put, List.setIfInBounds_toArray, List.set_cons_zero, List.set_cons_succ, i64_w, i32_w]
                  rfl
                refine take_ (i := 6) (N := some 89) (v := ?_) (a' := ?_) #[true, true, true, true, true, true, true, false, false, false, false, false, false, false, false, false, false, false, false, false, false, false, false, false, false, false, false, false, false] rfl rfl (by kernel_rfl) (fun _ _ _ h => h) (Or.inl ⟨by rfl, ?_⟩) hHeld ?_ ?_
                rotate_left
                · rintro w' ⟨s0, s1, s2, s3⟩
                  refine Eq.trans (exec_load_at 24 _ (by rfl) ⟨gm, m * 3, none⟩ (by rfl) [.float .f32 F, .float .f32 0, .float .f32 3239051264] _ Try.underlying24 rfl (by kernel_rfl) s2) ?_
                  with_reducible rfl
                rotate_left
                · simp only [Act.put, List.setIfInBounds_toArray, List.set_cons_zero, List.set_cons_succ, i64_w, i32_w]
                  rfl
                refine take_ (i := 7) (N := some 90) (v := ?_) (a' := ?_) #[true, true, true, true, true, true, true, true, false, false, false, false, false, false, false, false, false, false, false, false, false, false, false, false, false, false, false, false, false] rfl rfl (by kernel_rfl) (fun _ _ _ h => h) (Or.inl ⟨by rfl, ?_⟩) hHeld ?_ ?_
                rotate_left
                · rintro w' ⟨s0, s1, s2, s3⟩
                  refine Eq.trans (exec_load_at 24 _ (by rfl) ⟨g16, 0, none⟩ (by rfl) [.float .f32 F, .float .f32 0, .float .f32 3239051264] _ Try.underlying24 rfl (by kernel_rfl) s3) ?_
                  with_reducible rfl
                rotate_left
                · simp only [Act.put, List.setIfInBounds_toArray, List.set_cons_zero, List.set_cons_succ, i64_w, i32_w]
                  rfl
                refine pure_ (i := 8) (N := some 91) (v := ?_) (a' := ?_) #[true, true, true, true, true, true, true, true, true, false, false, false, false, false, false, false, false, false, false, false, false, false, false, false, false, false, false, false, false] rfl rfl (by kernel_rfl) (fun _ _ _ h => h) (Or.inl ⟨by rfl, ?_⟩) ?_ ?_
                rotate_left
                · intro w'
                  go_simp
                  with_reducible rfl
                rotate_left
                · simp only [Act.put, List.setIfInBounds_toArray, List.set_cons_zero, List.set_cons_succ, i64_w, i32_w]
                  rfl
                refine pure_ (i := 9) (N := some 92) (v := ?_) (a' := ?_) #[true, true, true, true, true, true, true, true, true, true, false, false, false, false, false, false, false, false, false, false, false, false, false, false, false, false, false, false, false] rfl rfl (by kernel_rfl) (fun _ _ _ h => h) (Or.inl ⟨by rfl, ?_⟩) ?_ ?_
                rotate_left
                · intro w'
                  go_simp
                  with_reducible rfl
                rotate_left
                · simp only [Act.put, List.setIfInBounds_toArray, List.set_cons_zero, List.set_cons_succ, i64_w, i32_w]
                  rfl
                refine pure_ (i := 10) (N := some 93) (v := ?_) (a' := ?_) #[true, true, true, true, true, true, true, true, true, true, true, false, false, false, false, false, false, false, false, false, false, false, false, false, false, false, false, false, false] rfl rfl (by kernel_rfl) (fun _ _ _ h => h) (Or.inl ⟨by rfl, ?_⟩) ?_ ?_
                rotate_left
                · intro w'
                  go_simp
                  with_reducible rfl
                rotate_left
                · simp only [Act.put, List.setIfInBounds_toArray, List.set_cons_zero, List.set_cons_succ, i64_w, i32_w]
                  rfl
                refine pure_ (i := 11) (N := some 94) (v := ?_) (a' := ?_) #[true, true, true, true, true, true, true, true, true, true, true, true, false, false, false, false, false, false, false, false, false, false, false, false, false, false, false, false, false] rfl rfl (by kernel_rfl) (fun _ _ _ h => h) (Or.inl ⟨by rfl, ?_⟩) ?_ ?_
                rotate_left
                · intro w'
                  go_simp
                  with_reducible rfl
                rotate_left
                · simp only [Act.put, List.setIfInBounds_toArray, List.set_cons_zero, List.set_cons_succ, i64_w, i32_w]
                  rfl
                refine pure_ (i := 12) (N := some 95) (v := ?_) (a' := ?_) #[true, true, true, true, true, true, true, true, true, true, true, true, true, false, false, false, false, false, false, false, false, false, false, false, false, false, false, false, false] rfl rfl (by kernel_rfl) (fun _ _ _ h => h) (Or.inl ⟨by rfl, ?_⟩) ?_ ?_
                rotate_left
                · intro w'
                  go_simp
                  with_reducible rfl
                rotate_left
                · simp only [Act.put, List.setIfInBounds_toArray, List.set_cons_zero, List.set_cons_succ, i64_w, i32_w]
                  rfl
                refine pure_ (i := 13) (N := some 96) (v := ?_) (a' := ?_) #[true, true, true, true, true, true, true, true, true, true, true, true, true, true, false, false, false, false, false, false, false, false, false, false, false, false, false, false, false] rfl rfl (by kernel_rfl) (fun _ _ _ h => h) (Or.inl ⟨by rfl, ?_⟩) ?_ ?_
                rotate_left
                · intro w'
                  go_simp
                  with_reducible rfl
                rotate_left
                · simp only [Act.put, List.setIfInBounds_toArray, List.set_cons_zero, List.set_cons_succ, i64_w, i32_w]
                  rfl
                refine take_ (i := 14) (N := some 97) (v := ?_) (a' := ?_) #[true, true, true, true, true, true, true, true, true, true, true, true, true, true, true, false, false, false, false, false, false, false, false, false, false, false, false, false, false] rfl rfl (by kernel_rfl) (fun _ _ _ h => h) (Or.inl ⟨by rfl, ?_⟩) hHeld ?_ ?_
                rotate_left
                · rintro w' ⟨s0, s1, s2, s3⟩
                  go_simp
                  with_reducible rfl
                rotate_left
                · simp only [Act.put, List.setIfInBounds_toArray, List.set_cons_zero, List.set_cons_succ, i64_w, i32_w]
                  rfl
                refine pure_ (i := 15) (N := some 98) (v := ?_) (a' := ?_) #[true, true, true, true, true, true, true, true, true, true, true, true, true, true, true, true, false, false, false, false, false, false, false, false, false, false, false, false, false] rfl rfl (by kernel_rfl) (fun _ _ _ h => h) (Or.inl ⟨by rfl, ?_⟩) ?_ ?_
                rotate_left
                · intro w'
                  go_simp
                  with_reducible rfl
                rotate_left
                · simp only [Act.put, List.setIfInBounds_toArray, List.set_cons_zero, List.set_cons_succ, i64_w, i32_w]
                  rfl
                refine pure_ (i := 16) (N := some 99) (v := ?_) (a' := ?_) #[true, true, true, true, true, true, true, true, true, true, true, true, true, true, true, true, true, false, false, false, false, false, false, false, false, false, false, false, false] rfl rfl (by kernel_rfl) (fun _ _ _ h => h) (Or.inl ⟨by rfl, ?_⟩) ?_ ?_
                rotate_left
                · intro w'
                  go_simp
                  with_reducible rfl
                rotate_left
                · simp only [Act.put, List.setIfInBounds_toArray, List.set_cons_zero, List.set_cons_succ, i64_w, i32_w]
                  rfl
                refine pure_ (i := 17) (N := some 100) (v := ?_) (a' := ?_) #[true, true, true, true, true, true, true, true, true, true, true, true, true, true, true, true, true, true, false, false, false, false, false, false, false, false, false, false, false] rfl rfl (by kernel_rfl) (fun _ _ _ h => h) (Or.inl ⟨by rfl, ?_⟩) ?_ ?_
                rotate_left
                · intro w'
                  go_simp
                  with_reducible rfl
                rotate_left
                · simp only [Act.put, List.setIfInBounds_toArray, List.set_cons_zero, List.set_cons_succ, i64_w, i32_w]
                  rfl
                refine pure_ (i := 18) (N := some 101) (v := undef) (a' := ?_) #[true, true, true, true, true, true, true, true, true, true, true, true, true, true, true, true, true, true, true, false, false, false, false, false, false, false, false, false, false] rfl rfl (by kernel_rfl) (fun _ _ _ h => h) (Or.inr ⟨by rfl, rfl⟩) ?_ ?_
                rotate_left
                · simp only [Act.put, List.setIfInBounds_toArray, List.set_cons_zero, List.set_cons_succ, i64_w, i32_w]
                  rfl
                refine pure_ (i := 19) (N := some 102) (v := undef) (a' := ?_) #[true, true, true, true, true, true, true, true, true, true, true, true, true, true, true, true, true, true, true, true, false, false, false, false, false, false, false, false, false] rfl rfl (by kernel_rfl) (fun _ _ _ h => h) (Or.inr ⟨by rfl, rfl⟩) ?_ ?_
                rotate_left
                · simp only [Act.put, List.setIfInBounds_toArray, List.set_cons_zero, List.set_cons_succ, i64_w, i32_w]
                  rfl
                refine pure_ (i := 20) (N := some 103) (v := undef) (a' := ?_) #[true, true, true, true, true, true, true, true, true, true, true, true, true, true, true, true, true, true, true, true, true, false, false, false, false, false, false, false, false] rfl rfl (by kernel_rfl) (fun _ _ _ h => h) (Or.inr ⟨by rfl, rfl⟩) ?_ ?_
                rotate_left
                · simp only [Act.put, List.setIfInBounds_toArray, List.set_cons_zero, List.set_cons_succ, i64_w, i32_w]
                  rfl
                refine pure_ (i := 21) (N := some 104) (v := undef) (a' := ?_) #[true, true, true, true, true, true, true, true, true, true, true, true, true, true, true, true, true, true, true, true, true, true, false, false, false, false, false, false, false] rfl rfl (by kernel_rfl) (fun _ _ _ h => h) (Or.inr ⟨by rfl, rfl⟩) ?_ ?_
                rotate_left
                · simp only [Act.put, List.setIfInBounds_toArray, List.set_cons_zero, List.set_cons_succ, i64_w, i32_w]
                  rfl
                refine pure_ (i := 22) (N := some 105) (v := undef) (a' := ?_) #[true, true, true, true, true, true, true, true, true, true, true, true, true, true, true, true, true, true, true, true, true, true, true, false, false, false, false, false, false] rfl rfl (by kernel_rfl) (fun _ _ _ h => h) (Or.inr ⟨by rfl, rfl⟩) ?_ ?_
                rotate_left
                · simp only [Act.put, List.setIfInBounds_toArray, List.set_cons_zero, List.set_cons_succ, i64_w, i32_w]
                  rfl
                refine pure_ (i := 23) (N := some 106) (v := undef) (a' := ?_) #[true, true, true, true, true, true, true, true, true, true, true, true, true, true, true, true, true, true, true, true, true, true, true, true, false, false, false, false, false] rfl rfl (by kernel_rfl) (fun _ _ _ h => h) (Or.inr ⟨by rfl, rfl⟩) ?_ ?_
                rotate_left
                · simp only [Act.put, List.setIfInBounds_toArray, List.set_cons_zero, List.set_cons_succ, i64_w, i32_w]
                  rfl
                refine pure_ (i := 24) (N := some 107) (v := undef) (a' := ?_) #[true, true, true, true, true, true, true, true, true, true, true, true, true, true, true, true, true, true, true, true, true, true, true, true, true, false, false, false, false] rfl rfl (by kernel_rfl) (fun _ _ _ h => h) (Or.inr ⟨by rfl, rfl⟩) ?_ ?_
                rotate_left
                · simp only [Act.put, List.setIfInBounds_toArray, List.set_cons_zero, List.set_cons_succ, i64_w, i32_w]
                  rfl
                refine pure_ (i := 25) (N := some 108) (v := undef) (a' := ?_) #[true, true, true, true, true, true, true, true, true, true, true, true, true, true, true, true, true, true, true, true, true, true, true, true, true, true, false, false, false] rfl rfl (by kernel_rfl) (fun _ _ _ h => h) (Or.inr ⟨by rfl, rfl⟩) ?_ ?_
                rotate_left
                · simp only [Act.put, List.setIfInBounds_toArray, List.set_cons_zero, List.set_cons_succ, i64_w, i32_w]
                  rfl
                refine pure_ (i := 26) (N := some 109) (v := undef) (a' := ?_) #[true, true, true, true, true, true, true, true, true, true, true, true, true, true, true, true, true, true, true, true, true, true, true, true, true, true, true, false, false] rfl rfl (by kernel_rfl) (fun _ _ _ h => h) (Or.inr ⟨by rfl, rfl⟩) ?_ ?_
                rotate_left
                · simp only [Act.put, List.setIfInBounds_toArray, List.set_cons_zero, List.set_cons_succ, i64_w, i32_w]
                  rfl
                refine pure_ (i := 27) (N := some 110) (v := ?_) (a' := ?_) #[true, true, true, true, true, true, true, true, true, true, true, true, true, true, true, true, true, true, true, true, true, true, true, true, true, true, true, true, false] rfl rfl (by kernel_rfl) (fun _ _ _ h => h) (Or.inl ⟨by rfl, ?_⟩) ?_ ?_
                rotate_left
                · intro w'
                  go_simp
                  with_reducible rfl
                rotate_left
                · simp only [Act.put, List.setIfInBounds_toArray, List.set_cons_zero, List.set_cons_succ, i64_w, i32_w]
                  rfl
                refine pure_ (i := 28) (N := some 111) (v := ?_) (a' := ?_) #[true, true, true, true, true, true, true, true, true, true, true, true, true, true, true, true, true, true, true, true, true, true, true, true, true, true, true, true, true] rfl rfl (by kernel_rfl) (fun _ _ _ h => h) (Or.inl ⟨by rfl, ?_⟩) ?_ ?_
                rotate_left
                · intro w'
                  go_simp
                  with_reducible rfl
                rotate_left
                · simp only [Act.put, List.setIfInBounds_toArray, List.set_cons_zero, List.set_cons_succ, i64_w, i32_w]
                  rfl
                refine done_ (by kernel_rfl) ?_

                clear e_1 e_2 e_3
                go_wp2
                go_roundw
                case rel => exact ⟨m + 1, by omega, by go_num, ⟨hD.step 1⟩⟩
                case measure => simp [intOf]; omega
            · obtain rfl : n + 40 = m := by omega
              go_wp2_with fail
              go_roundw
              case rel => exact ⟨k + 1, by omega, by go_num, ⟨below_step (below_step hBe HBM.out) hD.below⟩⟩
              case measure => simp [intOf]; omega
        · obtain rfl : k = 4 := by omega
          have hB5 := below_step hB5 hBe
          have X3k := blk_below Xg3 hB5
          have X4k := blk_below Xg4 hB5
          go_wp2_with (first
            | ((with_reducible refine gate_dst (N := 112) rfl ?_); refine wpList_load_at rfl 47 (.tmp 3) rfl ⟨g3, 0, none⟩ rfl [.int .u64 atk, .int .i64 apl, .string anm, .int .i64 au, .int .i64 av, .int .i64 avx, .int .i64 avy, .int .i64 ahd, .int .i64 ahe, .int .i64 aen, .int .i64 aam, .int .i64 aco, .int .i64 awt, .int .i64 asp, .int .i64 asc, .slice aA an ac] _ Try.underlying47 rfl (by kernel_rfl) (At.of_blk X3k) ?_)
            | ((with_reducible refine gate_dst (N := 113) rfl ?_); refine wpList_load_at rfl 47 (.tmp 4) rfl ⟨g4, 0, none⟩ rfl [.int .u64 btk, .int .i64 bpl, .string bnm, .int .i64 bu, .int .i64 bv, .int .i64 bvx, .int .i64 bvy, .int .i64 bhd, .int .i64 bhe, .int .i64 ben, .int .i64 bam, .int .i64 bco, .int .i64 bwt, .int .i64 bsp, .int .i64 bsc, .slice bA bn bc] _ Try.underlying47 rfl (by kernel_rfl) (At.of_blk X4k) ?_)
            | ((with_reducible refine gate_dst (N := 115) rfl ?_); (with_reducible refine gate_callee (f := 26) rfl ?_); refine goesL_ _ rfl rfl Try.func26 (by kernel_rfl) rfl _ rfl (by simp only [List.map_toArray, List.map_cons, List.map_nil]; rfl) ?_; refine (btw_calls atk apl au av avx avy ahd ahe aen aam aco awt asp asc anm aA an ac btk bpl bu bv bvx bvy bhd bhe ben bam bco bwt bsp bsc bnm bA bn bc t _ ss rs (hS.below hB5) (hR.below hB5) hn hm n hN.out).mono ?_; rintro e w30 ⟨A, c, ps, rfl, ho, hl, hp, hb⟩; refine ⟨_, rfl, ?_⟩; have hB5 := below_step hB5 hb; have HPS := Aside0.mk hp; have HLN := Aside0.mk hl; clear hb hp hl)
            | ((with_reducible refine gate_dst (N := 117) rfl ?_); (with_reducible refine gate_callee (f := 25) rfl ?_); refine goesL_ _ rfl rfl Try.func25 (by kernel_rfl) rfl _ rfl (by simp only [List.map_toArray, List.map_cons, List.map_nil]; rfl) ?_; refine (same_calls A A0 n n c c0 rfl ps ps0 _ (PRow.of_own_n ho HLN.out) (HF.out.below hB5) (HPS.out.trans HP0.out.symm) hnn).mono ?_; rintro e w31 ⟨rfl, hb⟩; refine ⟨_, rfl, ?_⟩; have hB5 := below_step hB5 hb; clear hb)
            | ((with_reducible refine gate_dst (N := 119) rfl ?_); (with_reducible refine gate_callee (f := 10) rfl ?_); (try (refine gate_guard (by rfl) ?_; dsimp only)); refine goesL_ _ rfl rfl Try.func10 (by kernel_rfl) rfl _ rfl (by simp only [List.map_toArray, List.map_cons, List.map_nil]; rfl) ?_; refine (alive_calls _).mono ?_; rintro e w32 ⟨rfl, hb⟩; refine ⟨_, rfl, ?_⟩; have hB5 := below_step hB5 hb; clear hb))
          go_ret
          exact ⟨rfl, below_step hB hB5⟩
end Go.Proofs.Ytjffkidfoapbjaa.Fl
