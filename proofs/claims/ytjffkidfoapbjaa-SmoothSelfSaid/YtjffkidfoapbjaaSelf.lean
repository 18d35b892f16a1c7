/- Proved: the walk of SmoothSelf: true for every view and every t. -/
import Derived.Test.YtjffkidfoapbjaaSelf0
import Derived.Test.YtjffkidfoapbjaaBetw
import Derived.Test.YtjffkidfoapbjaaOpenView2
namespace Go.Proofs.Ytjffkidfoapbjaa.Fl
open Go.RowKit Go.Proofs.YtjffkidfoapbjaaW.PrintWords Go.Proofs.YtjffkidfoapbjaaW.PrintLast Go.Proofs.YtjffkidfoapbjaaW.PrintMore
set_option linter.unusedVariables false
set_option linter.unusedSimpArgs false
attribute [local go_sem] run_store_float

theorem addr_pos (a : Addr) (j : Nat) (hj : j ≠ 0) : a.add j = ⟨a.block, a.off + j, none⟩ := by unfold Addr.add; simp [hj]
theorem At.cell0 {w : World} {ad : Addr} {cs : List Value} (h : At w ad cs) {v : Value} (hj : cs[0]? = some v) : w.cell? ad = some v := by
  have := h.cell 0 hj
  rwa [show ad.add 0 = ad by simp [Addr.add]] at this
theorem At.cellp {w : World} {ad : Addr} {cs : List Value} (h : At w ad cs) (j : Nat) (h0 : j ≠ 0) {v : Value} (hj : cs[j]? = some v) : w.cell? ⟨ad.block, ad.off + j, none⟩ = some v := by
  have := h.cell j hj
  rwa [addr_pos ad j h0] at this
theorem SRow.drew' {w : World} {A : Option Addr} {n : Nat} {l : List S5} (h : SRow w A n l) : SRow w.drew A n l := ⟨h.len, fun k hk => by
  obtain ⟨ad, e, hc⟩ := h.at_ k hk
  exact ⟨ad, e, hc.drew⟩⟩
theorem PRow.of_own' {w : World} {base c : Nat} {A : Option Addr} {ps : List P3} (h : OwnP w base (.slice A ps.length c) ps) : PRow w A ps.length ps := by
  obtain ⟨A', c', e, _, hp⟩ := own_prow h
  injection e with e1
  subst e1
  exact hp
/-- Between of a view with itself. -/
theorem self_yes (atk apl au av avx avy ahd ahe aen aam aco awt asp asc : Int) (anm : ByteArray) (aA : Option Addr) (an ac : Nat) (t : Nat) (w : World) (ss : List S5) (hS : SRow w aA an ss) (hL : Lone ss) (hn : an * 40 ≤ 140737488351232) (hw : awt ≤ 0) : Calls Try.prog 26 #[.agg #[.int .u64 atk, .int .i64 apl, .string anm, .int .i64 au, .int .i64 av, .int .i64 avx, .int .i64 avy, .int .i64 ahd, .int .i64 ahe, .int .i64 aen, .int .i64 aam, .int .i64 aco, .int .i64 awt, .int .i64 asp, .int .i64 asc, .slice aA an ac], .agg #[.int .u64 atk, .int .i64 apl, .string anm, .int .i64 au, .int .i64 av, .int .i64 avx, .int .i64 avy, .int .i64 ahd, .int .i64 ahe, .int .i64 aen, .int .i64 aam, .int .i64 aco, .int .i64 awt, .int .i64 asp, .int .i64 asc, .slice aA an ac], .float .f32 t] w fun e w' => ∃ A c ps, e = .returned (.slice A (an + 1) c) ∧ PRow w' A (an + 1) ps ∧ PFs ps (mixP (ofP au av ahd) (ofP au av ahd) t :: ss.map (fun s => mixP s.p s.p t)) ∧ Below w.heap.size w w' := by
  refine (between_calls atk apl au av avx avy ahd ahe aen aam aco awt asp asc anm aA an ac atk apl au av avx avy ahd ahe aen aam aco awt asp asc anm aA an ac t w ss ss hS hS (by omega) (by omega)).mono ?_
  rintro e w' ⟨A, c, ps, rfl, ho, hp, hb⟩
  rw [seenB_lone_all hL, show ownB apl apl awt awt (ofP au av ahd) (ofP au av ahd) t = [mixP (ofP au av ahd) (ofP au av ahd) t] from if_pos ⟨rfl, hw, hw⟩] at hp
  have hl : ps.length = an + 1 := by
    have := hp.len
    rw [List.length_append, List.length_map, hS.len, List.length_singleton] at this
    omega
  have hr := PRow.of_own' ho
  rw [hl] at hr
  exact ⟨A, c, ps, by rw [hl], hr, hp, hb⟩
theorem self_no (atk apl au av avx avy ahd ahe aen aam aco awt asp asc : Int) (anm : ByteArray) (aA : Option Addr) (an ac : Nat) (t : Nat) (w : World) (ss : List S5) (hS : SRow w aA an ss) (hL : Lone ss) (hn : an * 40 ≤ 140737488351232) (hw : ¬ awt ≤ 0) : Calls Try.prog 26 #[.agg #[.int .u64 atk, .int .i64 apl, .string anm, .int .i64 au, .int .i64 av, .int .i64 avx, .int .i64 avy, .int .i64 ahd, .int .i64 ahe, .int .i64 aen, .int .i64 aam, .int .i64 aco, .int .i64 awt, .int .i64 asp, .int .i64 asc, .slice aA an ac], .agg #[.int .u64 atk, .int .i64 apl, .string anm, .int .i64 au, .int .i64 av, .int .i64 avx, .int .i64 avy, .int .i64 ahd, .int .i64 ahe, .int .i64 aen, .int .i64 aam, .int .i64 aco, .int .i64 awt, .int .i64 asp, .int .i64 asc, .slice aA an ac], .float .f32 t] w fun e w' => ∃ A c ps, e = .returned (.slice A an c) ∧ PRow w' A an ps ∧ PFs ps (ss.map (fun s => mixP s.p s.p t)) ∧ Below w.heap.size w w' := by
  refine (between_calls atk apl au av avx avy ahd ahe aen aam aco awt asp asc anm aA an ac atk apl au av avx avy ahd ahe aen aam aco awt asp asc anm aA an ac t w ss ss hS hS (by omega) (by omega)).mono ?_
  rintro e w' ⟨A, c, ps, rfl, ho, hp, hb⟩
  rw [seenB_lone_all hL, show ownB apl apl awt awt (ofP au av ahd) (ofP au av ahd) t = [] from if_neg (fun h => hw h.2.1), List.nil_append] at hp
  have hl : ps.length = an := by
    have := hp.len
    rw [List.length_map, hS.len] at this
    omega
  have hr := PRow.of_own' ho
  rw [hl] at hr
  exact ⟨A, c, ps, by rw [hl], hr, hp, hb⟩
/-- Nothing in common. -/
theorem apart_calls (atk apl au av avx avy ahd ahe aen aam aco awt asp asc : Int) (anm : ByteArray) (aA : Option Addr) (an ac : Nat) (btk bpl bu bv bvx bvy bhd bhe ben bam bco bwt bsp bsc : Int) (bnm : ByteArray) (bA : Option Addr) (bn bc : Nat) (t : Nat) (w : World) (ss rs : List S5) (hS : SRow w aA an ss) (hR : SRow w bA bn rs) (hn : an * 40 ≤ 140737488351232) (hm : bn ≤ 9223372036854775807) (hpl : apl ≠ bpl) (h0 : ss = [] ∨ rs = []) : Calls Try.prog 26 #[.agg #[.int .u64 atk, .int .i64 apl, .string anm, .int .i64 au, .int .i64 av, .int .i64 avx, .int .i64 avy, .int .i64 ahd, .int .i64 ahe, .int .i64 aen, .int .i64 aam, .int .i64 aco, .int .i64 awt, .int .i64 asp, .int .i64 asc, .slice aA an ac], .agg #[.int .u64 btk, .int .i64 bpl, .string bnm, .int .i64 bu, .int .i64 bv, .int .i64 bvx, .int .i64 bvy, .int .i64 bhd, .int .i64 bhe, .int .i64 ben, .int .i64 bam, .int .i64 bco, .int .i64 bwt, .int .i64 bsp, .int .i64 bsc, .slice bA bn bc], .float .f32 t] w fun e w' => ∃ A c, e = .returned (.slice A 0 c) ∧ Below w.heap.size w w' := by
  refine (between_calls atk apl au av avx avy ahd ahe aen aam aco awt asp asc anm aA an ac btk bpl bu bv bvx bvy bhd bhe ben bam bco bwt bsp bsc bnm bA bn bc t w ss rs hS hR (by omega) hm).mono ?_
  rintro e w' ⟨A, c, ps, rfl, ho, hp, hb⟩
  have he : seenB ss rs t = [] := by
    rcases h0 with rfl | rfl
    · rfl
    · exact seenB_empty _ _
  rw [he, show ownB apl bpl awt bwt (ofP au av ahd) (ofP bu bv bhd) t = [] from if_neg (fun h => hpl h.1)] at hp
  have hl : ps.length = 0 := hp.len
  exact ⟨A, c, by rw [hl], hb⟩
theorem drawn_then {w w1 : World} (h : Drawn0 w w1) : Drawn0 w w1.drew := h.step 1
theorem lone_step {l : List S5} {i : Nat} (h : ∀ a, a < i → ∀ b, b < a → (l.getD a default).meets (l.getD b default) = false) (k : ∀ b, b < i → (l.getD i default).meets (l.getD b default) = false) : ∀ a, a < i + 1 → ∀ b, b < a → (l.getD a default).meets (l.getD b default) = false := fun a ha b hb => by
  rcases Nat.lt_or_ge a i with h1 | h1
  · exact h a h1 b hb
  · obtain rfl : a = i := by omega
    exact k b hb
theorem last_step {l : List S5} {i k : Nat} (h : ∀ b, b < k → (l.getD i default).meets (l.getD b default) = false) (h2 : (l.getD i default).meets (l.getD k default) = false) : ∀ b, b < k + 1 → (l.getD i default).meets (l.getD b default) = false := fun b hb => by
  rcases Nat.lt_or_ge b k with h1 | h1
  · exact h b h1
  · obtain rfl : b = k := by omega
    exact h2
theorem At.vec {w : World} {ad : Addr} {s : S5} (h : At w ad s.cs) : At w ⟨ad.block, ad.off + 2, none⟩ [.int .i64 s.x, .int .i64 s.y] := ⟨fun j v hj => by
  match j, hj with
  | 0, hj =>
    have e : (⟨ad.block, ad.off + 2, none⟩ : Addr).add 0 = ⟨ad.block, ad.off + 2, none⟩ := by simp [Addr.add]
    rw [e, h.cellp 2 (by decide) rfl]
    simpa using hj
  | 1, hj =>
    have e : (⟨ad.block, ad.off + 2, none⟩ : Addr).add 1 = ⟨ad.block, ad.off + 3, none⟩ := by simp [Addr.add]
    rw [e, h.cellp 3 (by decide) rfl]
    simpa using hj
  | j + 2, hj => simp at hj⟩
theorem wrap_ne (n : Int) (h : I64 n) : n ≠ wrap64 (n + 1) := by
  obtain ⟨h0, h1⟩ := h
  unfold wrap64
  omega
theorem map_at {ps : List P3} {l : List S5} {t : Nat} (h : PFs ps (l.map (fun s => mixP s.p s.p t))) (k : Nat) (hk : k < l.length) : PF (ps.getD k default) (mixP (l.getD k default).p (l.getD k default).p t) := by
  have := h.at_ k (by rw [h.len, List.length_map]; exact hk)
  have e : (l.map (fun s => mixP s.p s.p t)).getD k default = mixP (l.getD k default).p (l.getD k default).p t := by simp [List.getD_eq_getElem?_getD, hk]
  rwa [e] at this
theorem cons_at {ps : List P3} {q : P3} {l : List S5} {t : Nat} (h : PFs ps (q :: l.map (fun s => mixP s.p s.p t))) (k : Nat) (hk : k < l.length) : PF (ps.getD (1 + k) default) (mixP (l.getD k default).p (l.getD k default).p t) := by
  have := h.at_ (1 + k) (by rw [h.len, List.length_cons, List.length_map]; omega)
  have e : (q :: l.map (fun s => mixP s.p s.p t)).getD (1 + k) default = mixP (l.getD k default).p (l.getD k default).p t := by
    rw [Nat.add_comm]
    simp [List.getD_eq_getElem?_getD, hk]
  rwa [e] at this
theorem cons_at0 {ps : List P3} {q : P3} {l : List P3} (h : PFs ps (q :: l)) : PF (ps.getD 0 default) q := h.at_ 0 (by rw [h.len]; simp)
theorem wrap_id {a : Int} (h0 : -9223372036854775808 ≤ a) (h1 : a ≤ 9223372036854775807) : wrap64 a = a := by unfold wrap64; omega
set_option maxHeartbeats 8000000 in
set_option maxRecDepth 100000 in
theorem self_1 (atk apl au av avx avy ahd ahe aen aam aco awt asp asc : Int) (anm : ByteArray) (aA : Option Addr) (an ac : Nat) (t : Nat) (w : World) (ss : List S5) (hS : SRow w aA an ss) (hBd : Bnds ss) (hU : I64 au ∧ I64 av ∧ I64 apl) (hn : an * 40 ≤ 140737488351232) (hw : awt ≤ 0) : Calls Try.prog 8 #[.agg #[.int .u64 atk, .int .i64 apl, .string anm, .int .i64 au, .int .i64 av, .int .i64 avx, .int .i64 avy, .int .i64 ahd, .int .i64 ahe, .int .i64 aen, .int .i64 aam, .int .i64 aco, .int .i64 awt, .int .i64 asp, .int .i64 asc, .slice aA an ac], .float .f32 t] w fun e w' => e = .returned (.bool true) ∧ Below w.heap.size w w' := by
  have hu47 := Try.underlying47
  have hu40 := Try.underlying40
  have hu38 := Try.underlying38
  have hu55 := Try.underlying55
  have hu45 := Try.underlying45
  have hu51 := Try.underlying51
  have hu24 := Try.underlying24
  have hu22 := Try.underlying22
  have hu3 := Try.underlying3
  have hu2 := Try.underlying2
  have hnn : (an : Int) ≤ 140737488351232 := by omega
  go_enter Try.func8, Try.ntmps8
  go_wp2_with (first
        | ((try (refine gate_guard (by rfl) ?_; dsimp only)); refine wpList_fl _ rfl _ _ _ _ _ rfl (by decide) _ _ _ _ rfl rfl (by first | assumption | exact Fe.refl _) (by first | assumption | exact Fe.refl _) ?_; intro z nd hz)
        | ((try (refine gate_guard (by rfl) ?_; dsimp only)); refine wpList_flc _ rfl _ _ _ _ _ rfl (by decide) _ _ _ _ rfl rfl (by first | assumption | exact Fe.refl _) (by first | assumption | exact Fe.refl _) ?_)
        | ((with_reducible refine gate_dst (N := 2) rfl ?_); refine box_event ?hg (N := 2) ?hd (cs := #[.int .u64 atk, .int .i64 apl, .string anm, .int .i64 au, .int .i64 av, .int .i64 avx, .int .i64 avy, .int .i64 ahd, .int .i64 ahe, .int .i64 aen, .int .i64 aam, .int .i64 aco, .int .i64 awt, .int .i64 asp, .int .i64 asc, .slice aA an ac]) (t := 47) ?hr ?_; (case hd => rfl); (case hg => rfl); (case hr => first | (go_simp; done) | (go_simp; rfl)); intro g2 eg2 w1 Xg2 Bg2; have hB := Bg2; have hS := hS.below Bg2; clear eg2 Bg2)
        | (go_at_call 10; refine (alive_calls _).mono ?_; rintro e w3 ⟨rfl, hb⟩; have Xg2 := blk_below Xg2 hb; have hB := below_step hB hb; have hS := hS.below hb; clear hb; have cg2_15 : w3.cell? ⟨g2, 15, none⟩ = some (.slice aA an ac) := (blk_cell Xg2 15).trans rfl))
  go_loopw [5] (fun i wr => ∃ k : Nat, k ≤ an ∧ i = .int .i64 k ∧ Aside0 (∀ a, a < k → ∀ b, b < a → (ss.getD a default).meets (ss.getD b default) = false) ∧ Aside0 (Drawn0 w3 wr)) (fun i _ => an - (intOf i).toNat)
  case atStart => exact ⟨0, Nat.zero_le _, rfl, ⟨fun a ha => absurd ha (Nat.not_lt_zero a)⟩, ⟨Drawn0.refl _⟩⟩
  case round =>
    clear cg2_15
    obtain ⟨i, hi, rfl, HL, HD⟩ := hrel
    have hD := HD.out
    clear HD
    obtain ⟨wi, rfl⟩ : ∃ wi, wi = wr := ⟨_, rfl⟩
    have cg2_15 : wi.cell? ⟨g2, 15, none⟩ = some (.slice aA an ac) := dcell hD ((blk_cell Xg2 15).trans rfl)
    by_cases hlt : i < an
    · have hi2 : (i : Int) < (an : Int) := Int.ofNat_lt.mpr hlt
      have hi0 : (0 : Int) ≤ i := Int.natCast_nonneg i
      go_wp2_with fail
      go_loopw [6] (fun j wr => ∃ k : Nat, k ≤ i ∧ j = .int .i64 k ∧ Aside0 (∀ b, b < k → (ss.getD i default).meets (ss.getD b default) = false) ∧ Aside0 (Drawn0 w3 wr)) (fun j _ => i - (intOf j).toNat)
      case atStart => exact ⟨0, Nat.zero_le _, rfl, ⟨fun a ha => absurd ha (Nat.not_lt_zero a)⟩, ⟨hD⟩⟩
      case round =>
        clear hD cg2_15
        obtain ⟨k, hk, rfl, HK, HD⟩ := hrel
        have hD := HD.out
        clear HD
        by_cases hki : k < i
        · have hk2 : (k : Int) < (i : Int) := Int.ofNat_lt.mpr hki
          have hk0 : (0 : Int) ≤ k := Int.natCast_nonneg k
          have hk3 : (k : Int) < (an : Int) := by omega
          obtain ⟨ad, eA, hsA⟩ := (hS.drawn hD).at_ i hlt
          subst eA
          obtain ⟨ad2, eA, hrA⟩ := (hS.drawn hD).at_ k (by omega)
          injection eA with eA
          subst eA
          have cg2_15 : wr.cell? ⟨g2, 15, none⟩ = some (.slice (some ad) an ac) := dcell hD ((blk_cell Xg2 15).trans rfl)
          obtain ⟨s, hs⟩ : ∃ s, ss.getD i default = s := ⟨_, rfl⟩
          obtain ⟨r, hr⟩ : ∃ r, ss.getD k default = r := ⟨_, rfl⟩
          rw [hs] at hsA
          rw [hr] at hrA
          have hsA := hsA.drew
          have hrA := hrA.drew
          have HSR := Aside0.mk (And.intro hs hr)
          clear hs hr
          by_cases h4 : s.ki = r.ki
          · have e4 : (s.ki == r.ki) = true := beq_iff_eq.2 h4
            by_cases h5 : s.id = r.id
            · have e5 : (s.id == r.id) = true := beq_iff_eq.2 h5
              clear h4 h5
              go_wp2_with fail
              refine start_ (n := 28) (S := fun w' => w'.cell? ⟨g2, 15, none⟩ = some (.slice (some ad) an ac) ∧ w'.cell? (ad.add (i * 5)) = some (.int .i64 s.ki) ∧ w'.cell? ⟨(ad.add (i * 5)).block, (ad.add (i * 5)).off + 1, none⟩ = some (.int .i64 s.id) ∧ w'.cell? (ad.add (k * 5)) = some (.int .i64 r.ki) ∧ w'.cell? ⟨(ad.add (k * 5)).block, (ad.add (k * 5)).off + 1, none⟩ = some (.int .i64 r.id)) (ds := []) #[false, false, false, false, false, false, false, false, false, false, false, false, false, false, false, false, false, false, false, false, false, false, false, false, false, false, false, false] (by kernel_rfl) rfl rfl ⟨cg2_15, (hsA.cell0 rfl), (hsA.cellp 1 (by decide) rfl), (hrA.cell0 rfl), (hrA.cellp 1 (by decide) rfl)⟩ (fun hHeld => ?_)
              refine pure_ (i := 0) (N := some 25) (v := ?_) (a' := ?_) #[true, false, false, false, false, false, false, false, false, false, false, false, false, false, false, false, false, false, false, false, false, false, false, false, false, false, false, false] rfl rfl (by kernel_rfl) (fun _ _ _ h => h) (Or.inl ⟨by rfl, ?_⟩) ?_ ?_
              rotate_left
              · intro w'
                go_simp
                with_reducible rfl
              rotate_left
              · simp only [Act.put, List.setIfInBounds_toArray, List.set_cons_zero, List.set_cons_succ, i64_w, i32_w]
                rfl
              refine pure_ (i := 2) (N := some 27) (v := ?_) (a' := ?_) #[true, false, true, false, false, false, false, false, false, false, false, false, false, false, false, false, false, false, false, false, false, false, false, false, false, false, false, false] rfl rfl (by kernel_rfl) (fun _ _ _ h => h) (Or.inl ⟨by rfl, ?_⟩) ?_ ?_
              rotate_left
              · intro w'
                go_simp
                with_reducible rfl
              rotate_left
              · simp only [Act.put, List.setIfInBounds_toArray, List.set_cons_zero, List.set_cons_succ, i64_w, i32_w]
                rfl
              refine pure_ (i := 6) (N := some 31) (v := ?_) (a' := ?_) #[true, false, true, false, false, false, true, false, false, false, false, false, false, false, false, false, false, false, false, false, false, false, false, false, false, false, false, false] rfl rfl (by kernel_rfl) (fun _ _ _ h => h) (Or.inl ⟨by rfl, ?_⟩) ?_ ?_
              rotate_left
              · intro w'
                go_simp
                with_reducible rfl
              rotate_left
              · simp only [Act.put, List.setIfInBounds_toArray, List.set_cons_zero, List.set_cons_succ, i64_w, i32_w]
                rfl
              refine pure_ (i := 8) (N := some 33) (v := ?_) (a' := ?_) #[true, false, true, false, false, false, true, false, true, false, false, false, false, false, false, false, false, false, false, false, false, false, false, false, false, false, false, false] rfl rfl (by kernel_rfl) (fun _ _ _ h => h) (Or.inl ⟨by rfl, ?_⟩) ?_ ?_
              rotate_left
              · intro w'
                go_simp
                with_reducible rfl
              rotate_left
              · simp only [Act.put, List.setIfInBounds_toArray, List.set_cons_zero, List.set_cons_succ, i64_w, i32_w]
                rfl
              refine take_ (i := 1) (N := some 26) (v := ?_) (a' := ?_) #[true, true, true, false, false, false, true, false, true, false, false, false, false, false, false, false, false, false, false, false, false, false, false, false, false, false, false, false] rfl rfl (by kernel_rfl) (fun _ _ _ h => h) (Or.inl ⟨by rfl, ?_⟩) hHeld ?_ ?_
              rotate_left
              · rintro w' ⟨s0, s1, s2, s3, s4⟩
                go_simp
                with_reducible rfl
              rotate_left
              · simp only [Act.put, List.setIfInBounds_toArray, List.set_cons_zero, List.set_cons_succ, i64_w, i32_w]
                rfl
              refine pure_ (i := 3) (N := some 28) (v := ?_) (a' := ?_) #[true, true, true, true, false, false, true, false, true, false, false, false, false, false, false, false, false, false, false, false, false, false, false, false, false, false, false, false] rfl rfl (by kernel_rfl) (fun _ _ _ h => h) (Or.inl ⟨by rfl, ?_⟩) ?_ ?_
              rotate_left
              · intro w'
                go_simp
                with_reducible rfl
              rotate_left
              · simp only [Act.put, List.setIfInBounds_toArray, List.set_cons_zero, List.set_cons_succ, i64_w, i32_w]
                rfl
              refine pure_ (i := 4) (N := some 29) (v := ?_) (a' := ?_) #[true, true, true, true, true, false, true, false, true, false, false, false, false, false, false, false, false, false, false, false, false, false, false, false, false, false, false, false] rfl rfl (by kernel_rfl) (fun _ _ _ h => h) (Or.inl ⟨by rfl, ?_⟩) ?_ ?_
              rotate_left
              · intro w'
                go_simp
                with_reducible rfl
              rotate_left
              · simp only [Act.put, List.setIfInBounds_toArray, List.set_cons_zero, List.set_cons_succ, i64_w, i32_w]
                rfl
              refine take_ (i := 5) (N := some 30) (v := ?_) (a' := ?_) #[true, true, true, true, true, true, true, false, true, false, false, false, false, false, false, false, false, false, false, false, false, false, false, false, false, false, false, false] rfl rfl (by kernel_rfl) (fun _ _ _ h => h) (Or.inl ⟨by rfl, ?_⟩) hHeld ?_ ?_
              rotate_left
              · rintro w' ⟨s0, s1, s2, s3, s4⟩
                go_simp
                with_reducible rfl
              rotate_left
              · simp only [Act.put, List.setIfInBounds_toArray, List.set_cons_zero, List.set_cons_succ, i64_w, i32_w]
                rfl
              refine take_ (i := 7) (N := some 32) (v := ?_) (a' := ?_) #[true, true, true, true, true, true, true, true, true, false, false, false, false, false, false, false, false, false, false, false, false, false, false, false, false, false, false, false] rfl rfl (by kernel_rfl) (fun _ _ _ h => h) (Or.inl ⟨by rfl, ?_⟩) hHeld ?_ ?_
              rotate_left
              · rintro w' ⟨s0, s1, s2, s3, s4⟩
                go_simp
                with_reducible rfl
              rotate_left
              · simp only [Act.put, List.setIfInBounds_toArray, List.set_cons_zero, List.set_cons_succ, i64_w, i32_w]
                rfl
              refine pure_ (i := 9) (N := some 34) (v := ?_) (a' := ?_) #[true, true, true, true, true, true, true, true, true, true, false, false, false, false, false, false, false, false, false, false, false, false, false, false, false, false, false, false] rfl rfl (by kernel_rfl) (fun _ _ _ h => h) (Or.inl ⟨by rfl, ?_⟩) ?_ ?_
              rotate_left
              · intro w'
                go_simp
                with_reducible rfl
              rotate_left
              · simp only [Act.put, List.setIfInBounds_toArray, List.set_cons_zero, List.set_cons_succ, i64_w, i32_w]
                rfl
              refine pure_ (i := 10) (N := some 35) (v := ?_) (a' := ?_) #[true, true, true, true, true, true, true, true, true, true, true, false, false, false, false, false, false, false, false, false, false, false, false, false, false, false, false, false] rfl rfl (by kernel_rfl) (fun _ _ _ h => h) (Or.inl ⟨by rfl, ?_⟩) ?_ ?_
              rotate_left
              · intro w'
                go_simp
                with_reducible rfl
              rotate_left
              · simp only [Act.put, List.setIfInBounds_toArray, List.set_cons_zero, List.set_cons_succ, i64_w, i32_w]
                rfl
              refine take_ (i := 11) (N := some 36) (v := ?_) (a' := ?_) #[true, true, true, true, true, true, true, true, true, true, true, true, false, false, false, false, false, false, false, false, false, false, false, false, false, false, false, false] rfl rfl (by kernel_rfl) (fun _ _ _ h => h) (Or.inl ⟨by rfl, ?_⟩) hHeld ?_ ?_
              rotate_left
              · rintro w' ⟨s0, s1, s2, s3, s4⟩
                go_simp
                with_reducible rfl
              rotate_left
              · simp only [Act.put, List.setIfInBounds_toArray, List.set_cons_zero, List.set_cons_succ, i64_w, i32_w]
                rfl
              refine pure_ (i := 12) (N := some 37) (v := ?_) (a' := ?_) #[true, true, true, true, true, true, true, true, true, true, true, true, true, false, false, false, false, false, false, false, false, false, false, false, false, false, false, false] rfl rfl (by kernel_rfl) (fun _ _ _ h => h) (Or.inl ⟨by rfl, ?_⟩) ?_ ?_
              rotate_left
              · intro w'
                go_simp
                with_reducible rfl
              rotate_left
              · simp only [Act.put, List.setIfInBounds_toArray, List.set_cons_zero, List.set_cons_succ, i64_w, i32_w]
                rfl
              refine pure_ (i := 13) (N := some 38) (v := ?_) (a' := ?_) #[true, true, true, true, true, true, true, true, true, true, true, true, true, true, false, false, false, false, false, false, false, false, false, false, false, false, false, false] rfl rfl (by kernel_rfl) (fun _ _ _ h => h) (Or.inl ⟨by rfl, ?_⟩) ?_ ?_
              rotate_left
              · intro w'
                go_simp
                with_reducible rfl
              rotate_left
              · simp only [Act.put, List.setIfInBounds_toArray, List.set_cons_zero, List.set_cons_succ, i64_w, i32_w]
                rfl
              refine pure_ (i := 14) (N := some 39) (v := ?_) (a' := ?_) #[true, true, true, true, true, true, true, true, true, true, true, true, true, true, true, false, false, false, false, false, false, false, false, false, false, false, false, false] rfl rfl (by kernel_rfl) (fun _ _ _ h => h) (Or.inl ⟨by rfl, ?_⟩) ?_ ?_
              rotate_left
              · intro w'
                go_simp
                with_reducible rfl
              rotate_left
              · simp only [Act.put, List.setIfInBounds_toArray, List.set_cons_zero, List.set_cons_succ, i64_w, i32_w]
                rfl
              refine pure_ (i := 16) (N := some 41) (v := ?_) (a' := ?_) #[true, true, true, true, true, true, true, true, true, true, true, true, true, true, true, false, true, false, false, false, false, false, false, false, false, false, false, false] rfl rfl (by kernel_rfl) (fun _ _ _ h => h) (Or.inl ⟨by rfl, ?_⟩) ?_ ?_
              rotate_left
              · intro w'
                go_simp
                with_reducible rfl
              rotate_left
              · simp only [Act.put, List.setIfInBounds_toArray, List.set_cons_zero, List.set_cons_succ, i64_w, i32_w]
                rfl
              refine pure_ (i := 20) (N := some 45) (v := ?_) (a' := ?_) #[true, true, true, true, true, true, true, true, true, true, true, true, true, true, true, false, true, false, false, false, true, false, false, false, false, false, false, false] rfl rfl (by kernel_rfl) (fun _ _ _ h => h) (Or.inl ⟨by rfl, ?_⟩) ?_ ?_
              rotate_left
              · intro w'
                go_simp
                with_reducible rfl
              rotate_left
              · simp only [Act.put, List.setIfInBounds_toArray, List.set_cons_zero, List.set_cons_succ, i64_w, i32_w]
                rfl
              refine pure_ (i := 22) (N := some 47) (v := ?_) (a' := ?_) #[true, true, true, true, true, true, true, true, true, true, true, true, true, true, true, false, true, false, false, false, true, false, true, false, false, false, false, false] rfl rfl (by kernel_rfl) (fun _ _ _ h => h) (Or.inl ⟨by rfl, ?_⟩) ?_ ?_
              rotate_left
              · intro w'
                go_simp
                with_reducible rfl
              rotate_left
              · simp only [Act.put, List.setIfInBounds_toArray, List.set_cons_zero, List.set_cons_succ, i64_w, i32_w]
                rfl
              refine take_ (i := 15) (N := some 40) (v := ?_) (a' := ?_) #[true, true, true, true, true, true, true, true, true, true, true, true, true, true, true, true, true, false, false, false, true, false, true, false, false, false, false, false] rfl rfl (by kernel_rfl) (fun _ _ _ h => h) (Or.inl ⟨by rfl, ?_⟩) hHeld ?_ ?_
              rotate_left
              · rintro w' ⟨s0, s1, s2, s3, s4⟩
                go_simp
                with_reducible rfl
              rotate_left
              · simp only [Act.put, List.setIfInBounds_toArray, List.set_cons_zero, List.set_cons_succ, i64_w, i32_w]
                rfl
              refine pure_ (i := 17) (N := some 42) (v := ?_) (a' := ?_) #[true, true, true, true, true, true, true, true, true, true, true, true, true, true, true, true, true, true, false, false, true, false, true, false, false, false, false, false] rfl rfl (by kernel_rfl) (fun _ _ _ h => h) (Or.inl ⟨by rfl, ?_⟩) ?_ ?_
              rotate_left
              · intro w'
                go_simp
                with_reducible rfl
              rotate_left
              · simp only [Act.put, List.setIfInBounds_toArray, List.set_cons_zero, List.set_cons_succ, i64_w, i32_w]
                rfl
              refine pure_ (i := 18) (N := some 43) (v := ?_) (a' := ?_) #[true, true, true, true, true, true, true, true, true, true, true, true, true, true, true, true, true, true, true, false, true, false, true, false, false, false, false, false] rfl rfl (by kernel_rfl) (fun _ _ _ h => h) (Or.inl ⟨by rfl, ?_⟩) ?_ ?_
              rotate_left
              · intro w'
                go_simp
                with_reducible rfl
              rotate_left
              · simp only [Act.put, List.setIfInBounds_toArray, List.set_cons_zero, List.set_cons_succ, i64_w, i32_w]
                rfl
              refine take_ (i := 19) (N := some 44) (v := ?_) (a' := ?_) #[true, true, true, true, true, true, true, true, true, true, true, true, true, true, true, true, true, true, true, true, true, false, true, false, false, false, false, false] rfl rfl (by kernel_rfl) (fun _ _ _ h => h) (Or.inl ⟨by rfl, ?_⟩) hHeld ?_ ?_
              rotate_left
              · rintro w' ⟨s0, s1, s2, s3, s4⟩
                go_simp
                with_reducible rfl
              rotate_left
              · simp only [Act.put, List.setIfInBounds_toArray, List.set_cons_zero, List.set_cons_succ, i64_w, i32_w]
                rfl
              refine take_ (i := 21) (N := some 46) (v := ?_) (a' := ?_) #[true, true, true, true, true, true, true, true, true, true, true, true, true, true, true, true, true, true, true, true, true, true, true, false, false, false, false, false] rfl rfl (by kernel_rfl) (fun _ _ _ h => h) (Or.inl ⟨by rfl, ?_⟩) hHeld ?_ ?_
              rotate_left
              · rintro w' ⟨s0, s1, s2, s3, s4⟩
                go_simp
                with_reducible rfl
              rotate_left
              · simp only [Act.put, List.setIfInBounds_toArray, List.set_cons_zero, List.set_cons_succ, i64_w, i32_w]
                rfl
              refine pure_ (i := 23) (N := some 48) (v := ?_) (a' := ?_) #[true, true, true, true, true, true, true, true, true, true, true, true, true, true, true, true, true, true, true, true, true, true, true, true, false, false, false, false] rfl rfl (by kernel_rfl) (fun _ _ _ h => h) (Or.inl ⟨by rfl, ?_⟩) ?_ ?_
              rotate_left
              · intro w'
                go_simp
                with_reducible rfl
              rotate_left
              · simp only [Act.put, List.setIfInBounds_toArray, List.set_cons_zero, List.set_cons_succ, i64_w, i32_w]
                rfl
              refine pure_ (i := 24) (N := some 49) (v := ?_) (a' := ?_) #[true, true, true, true, true, true, true, true, true, true, true, true, true, true, true, true, true, true, true, true, true, true, true, true, true, false, false, false] rfl rfl (by kernel_rfl) (fun _ _ _ h => h) (Or.inl ⟨by rfl, ?_⟩) ?_ ?_
              rotate_left
              · intro w'
                go_simp
                with_reducible rfl
              rotate_left
              · simp only [Act.put, List.setIfInBounds_toArray, List.set_cons_zero, List.set_cons_succ, i64_w, i32_w]
                rfl
              refine take_ (i := 25) (N := some 50) (v := ?_) (a' := ?_) #[true, true, true, true, true, true, true, true, true, true, true, true, true, true, true, true, true, true, true, true, true, true, true, true, true, true, false, false] rfl rfl (by kernel_rfl) (fun _ _ _ h => h) (Or.inl ⟨by rfl, ?_⟩) hHeld ?_ ?_
              rotate_left
              · rintro w' ⟨s0, s1, s2, s3, s4⟩
                go_simp
                with_reducible rfl
              rotate_left
              · simp only [Act.put, List.setIfInBounds_toArray, List.set_cons_zero, List.set_cons_succ, i64_w, i32_w]
                rfl
              refine pure_ (i := 26) (N := some 51) (v := ?_) (a' := ?_) #[true, true, true, true, true, true, true, true, true, true, true, true, true, true, true, true, true, true, true, true, true, true, true, true, true, true, true, false] rfl rfl (by kernel_rfl) (fun _ _ _ h => h) (Or.inl ⟨by rfl, ?_⟩) ?_ ?_
              rotate_left
              · intro w'
                go_simp
                with_reducible rfl
              rotate_left
              · simp only [Act.put, List.setIfInBounds_toArray, List.set_cons_zero, List.set_cons_succ, i64_w, i32_w]
                rfl
              refine pure_ (i := 27) (N := some 52) (v := ?_) (a' := ?_) #[true, true, true, true, true, true, true, true, true, true, true, true, true, true, true, true, true, true, true, true, true, true, true, true, true, true, true, true] rfl rfl (by kernel_rfl) (fun _ _ _ h => h) (Or.inl ⟨by rfl, ?_⟩) ?_ ?_
              rotate_left
              · intro w'
                go_simp
                with_reducible rfl
              rotate_left
              · simp only [Act.put, List.setIfInBounds_toArray, List.set_cons_zero, List.set_cons_succ, i64_w, i32_w]
                rfl
              refine done_ (by kernel_rfl) ?_

              go_wp2
              go_ret
              exact ⟨rfl, dbelow (drawn_then hD) hB⟩
            · have e5 : (s.id == r.id) = false := beq_eq_false_iff_ne.2 h5
              have HA2 := Aside0.mk (show (ss.getD i default).meets (ss.getD k default) = false by rw [HSR.out.1, HSR.out.2]; exact meets_no2 h5)
              clear h4 h5
              go_wp2_with fail
              refine start_ (n := 28) (S := fun w' => w'.cell? ⟨g2, 15, none⟩ = some (.slice (some ad) an ac) ∧ w'.cell? (ad.add (i * 5)) = some (.int .i64 s.ki) ∧ w'.cell? ⟨(ad.add (i * 5)).block, (ad.add (i * 5)).off + 1, none⟩ = some (.int .i64 s.id) ∧ w'.cell? (ad.add (k * 5)) = some (.int .i64 r.ki) ∧ w'.cell? ⟨(ad.add (k * 5)).block, (ad.add (k * 5)).off + 1, none⟩ = some (.int .i64 r.id)) (ds := []) #[false, false, false, false, false, false, false, false, false, false, false, false, false, false, false, false, false, false, false, false, false, false, false, false, false, false, false, false] (by kernel_rfl) rfl rfl ⟨cg2_15, (hsA.cell0 rfl), (hsA.cellp 1 (by decide) rfl), (hrA.cell0 rfl), (hrA.cellp 1 (by decide) rfl)⟩ (fun hHeld => ?_)
              refine pure_ (i := 0) (N := some 25) (v := ?_) (a' := ?_) #[true, false, false, false, false, false, false, false, false, false, false, false, false, false, false, false, false, false, false, false, false, false, false, false, false, false, false, false] rfl rfl (by kernel_rfl) (fun _ _ _ h => h) (Or.inl ⟨by rfl, ?_⟩) ?_ ?_
              rotate_left
              · intro w'
                go_simp
                with_reducible rfl
              rotate_left
              · simp only [Act.put, List.setIfInBounds_toArray, List.set_cons_zero, List.set_cons_succ, i64_w, i32_w]
                rfl
              refine pure_ (i := 2) (N := some 27) (v := ?_) (a' := ?_) #[true, false, true, false, false, false, false, false, false, false, false, false, false, false, false, false, false, false, false, false, false, false, false, false, false, false, false, false] rfl rfl (by kernel_rfl) (fun _ _ _ h => h) (Or.inl ⟨by rfl, ?_⟩) ?_ ?_
              rotate_left
              · intro w'
                go_simp
                with_reducible rfl
              rotate_left
              · simp only [Act.put, List.setIfInBounds_toArray, List.set_cons_zero, List.set_cons_succ, i64_w, i32_w]
                rfl
              refine pure_ (i := 6) (N := some 31) (v := ?_) (a' := ?_) #[true, false, true, false, false, false, true, false, false, false, false, false, false, false, false, false, false, false, false, false, false, false, false, false, false, false, false, false] rfl rfl (by kernel_rfl) (fun _ _ _ h => h) (Or.inl ⟨by rfl, ?_⟩) ?_ ?_
              rotate_left
              · intro w'
                go_simp
                with_reducible rfl
              rotate_left
              · simp only [Act.put, List.setIfInBounds_toArray, List.set_cons_zero, List.set_cons_succ, i64_w, i32_w]
                rfl
              refine pure_ (i := 8) (N := some 33) (v := ?_) (a' := ?_) #[true, false, true, false, false, false, true, false, true, false, false, false, false, false, false, false, false, false, false, false, false, false, false, false, false, false, false, false] rfl rfl (by kernel_rfl) (fun _ _ _ h => h) (Or.inl ⟨by rfl, ?_⟩) ?_ ?_
              rotate_left
              · intro w'
                go_simp
                with_reducible rfl
              rotate_left
              · simp only [Act.put, List.setIfInBounds_toArray, List.set_cons_zero, List.set_cons_succ, i64_w, i32_w]
                rfl
              refine take_ (i := 1) (N := some 26) (v := ?_) (a' := ?_) #[true, true, true, false, false, false, true, false, true, false, false, false, false, false, false, false, false, false, false, false, false, false, false, false, false, false, false, false] rfl rfl (by kernel_rfl) (fun _ _ _ h => h) (Or.inl ⟨by rfl, ?_⟩) hHeld ?_ ?_
              rotate_left
              · rintro w' ⟨s0, s1, s2, s3, s4⟩
                go_simp
                with_reducible rfl
              rotate_left
              · simp only [Act.put, List.setIfInBounds_toArray, List.set_cons_zero, List.set_cons_succ, i64_w, i32_w]
                rfl
              refine pure_ (i := 3) (N := some 28) (v := ?_) (a' := ?_) #[true, true, true, true, false, false, true, false, true, false, false, false, false, false, false, false, false, false, false, false, false, false, false, false, false, false, false, false] rfl rfl (by kernel_rfl) (fun _ _ _ h => h) (Or.inl ⟨by rfl, ?_⟩) ?_ ?_
              rotate_left
              · intro w'
                go_simp
                with_reducible rfl
              rotate_left
              · simp only [Act.put, List.setIfInBounds_toArray, List.set_cons_zero, List.set_cons_succ, i64_w, i32_w]
                rfl
              refine pure_ (i := 4) (N := some 29) (v := ?_) (a' := ?_) #[true, true, true, true, true, false, true, false, true, false, false, false, false, false, false, false, false, false, false, false, false, false, false, false, false, false, false, false] rfl rfl (by kernel_rfl) (fun _ _ _ h => h) (Or.inl ⟨by rfl, ?_⟩) ?_ ?_
              rotate_left
              · intro w'
                go_simp
                with_reducible rfl
              rotate_left
              · simp only [Act.put, List.setIfInBounds_toArray, List.set_cons_zero, List.set_cons_succ, i64_w, i32_w]
                rfl
              refine take_ (i := 5) (N := some 30) (v := ?_) (a' := ?_) #[true, true, true, true, true, true, true, false, true, false, false, false, false, false, false, false, false, false, false, false, false, false, false, false, false, false, false, false] rfl rfl (by kernel_rfl) (fun _ _ _ h => h) (Or.inl ⟨by rfl, ?_⟩) hHeld ?_ ?_
              rotate_left
              · rintro w' ⟨s0, s1, s2, s3, s4⟩
                go_simp
                with_reducible rfl
              rotate_left
              · simp only [Act.put, List.setIfInBounds_toArray, List.set_cons_zero, List.set_cons_succ, i64_w, i32_w]
                rfl
              refine take_ (i := 7) (N := some 32) (v := ?_) (a' := ?_) #[true, true, true, true, true, true, true, true, true, false, false, false, false, false, false, false, false, false, false, false, false, false, false, false, false, false, false, false] rfl rfl (by kernel_rfl) (fun _ _ _ h => h) (Or.inl ⟨by rfl, ?_⟩) hHeld ?_ ?_
              rotate_left
              · rintro w' ⟨s0, s1, s2, s3, s4⟩
                go_simp
                with_reducible rfl
              rotate_left
              · simp only [Act.put, List.setIfInBounds_toArray, List.set_cons_zero, List.set_cons_succ, i64_w, i32_w]
                rfl
              refine pure_ (i := 9) (N := some 34) (v := ?_) (a' := ?_) #[true, true, true, true, true, true, true, true, true, true, false, false, false, false, false, false, false, false, false, false, false, false, false, false, false, false, false, false] rfl rfl (by kernel_rfl) (fun _ _ _ h => h) (Or.inl ⟨by rfl, ?_⟩) ?_ ?_
              rotate_left
              · intro w'
                go_simp
                with_reducible rfl
              rotate_left
              · simp only [Act.put, List.setIfInBounds_toArray, List.set_cons_zero, List.set_cons_succ, i64_w, i32_w]
                rfl
              refine pure_ (i := 10) (N := some 35) (v := ?_) (a' := ?_) #[true, true, true, true, true, true, true, true, true, true, true, false, false, false, false, false, false, false, false, false, false, false, false, false, false, false, false, false] rfl rfl (by kernel_rfl) (fun _ _ _ h => h) (Or.inl ⟨by rfl, ?_⟩) ?_ ?_
              rotate_left
              · intro w'
                go_simp
                with_reducible rfl
              rotate_left
              · simp only [Act.put, List.setIfInBounds_toArray, List.set_cons_zero, List.set_cons_succ, i64_w, i32_w]
                rfl
              refine take_ (i := 11) (N := some 36) (v := ?_) (a' := ?_) #[true, true, true, true, true, true, true, true, true, true, true, true, false, false, false, false, false, false, false, false, false, false, false, false, false, false, false, false] rfl rfl (by kernel_rfl) (fun _ _ _ h => h) (Or.inl ⟨by rfl, ?_⟩) hHeld ?_ ?_
              rotate_left
              · rintro w' ⟨s0, s1, s2, s3, s4⟩
                go_simp
                with_reducible rfl
              rotate_left
              · simp only [Act.put, List.setIfInBounds_toArray, List.set_cons_zero, List.set_cons_succ, i64_w, i32_w]
                rfl
              refine pure_ (i := 12) (N := some 37) (v := ?_) (a' := ?_) #[true, true, true, true, true, true, true, true, true, true, true, true, true, false, false, false, false, false, false, false, false, false, false, false, false, false, false, false] rfl rfl (by kernel_rfl) (fun _ _ _ h => h) (Or.inl ⟨by rfl, ?_⟩) ?_ ?_
              rotate_left
              · intro w'
                go_simp
                with_reducible rfl
              rotate_left
              · simp only [Act.put, List.setIfInBounds_toArray, List.set_cons_zero, List.set_cons_succ, i64_w, i32_w]
                rfl
              refine pure_ (i := 13) (N := some 38) (v := ?_) (a' := ?_) #[true, true, true, true, true, true, true, true, true, true, true, true, true, true, false, false, false, false, false, false, false, false, false, false, false, false, false, false] rfl rfl (by kernel_rfl) (fun _ _ _ h => h) (Or.inl ⟨by rfl, ?_⟩) ?_ ?_
              rotate_left
              · intro w'
                go_simp
                with_reducible rfl
              rotate_left
              · simp only [Act.put, List.setIfInBounds_toArray, List.set_cons_zero, List.set_cons_succ, i64_w, i32_w]
                rfl
              refine pure_ (i := 14) (N := some 39) (v := ?_) (a' := ?_) #[true, true, true, true, true, true, true, true, true, true, true, true, true, true, true, false, false, false, false, false, false, false, false, false, false, false, false, false] rfl rfl (by kernel_rfl) (fun _ _ _ h => h) (Or.inl ⟨by rfl, ?_⟩) ?_ ?_
              rotate_left
              · intro w'
                go_simp
                with_reducible rfl
              rotate_left
              · simp only [Act.put, List.setIfInBounds_toArray, List.set_cons_zero, List.set_cons_succ, i64_w, i32_w]
                rfl
              refine pure_ (i := 16) (N := some 41) (v := ?_) (a' := ?_) #[true, true, true, true, true, true, true, true, true, true, true, true, true, true, true, false, true, false, false, false, false, false, false, false, false, false, false, false] rfl rfl (by kernel_rfl) (fun _ _ _ h => h) (Or.inl ⟨by rfl, ?_⟩) ?_ ?_
              rotate_left
              · intro w'
                go_simp
                with_reducible rfl
              rotate_left
              · simp only [Act.put, List.setIfInBounds_toArray, List.set_cons_zero, List.set_cons_succ, i64_w, i32_w]
                rfl
              refine pure_ (i := 20) (N := some 45) (v := ?_) (a' := ?_) #[true, true, true, true, true, true, true, true, true, true, true, true, true, true, true, false, true, false, false, false, true, false, false, false, false, false, false, false] rfl rfl (by kernel_rfl) (fun _ _ _ h => h) (Or.inl ⟨by rfl, ?_⟩) ?_ ?_
              rotate_left
              · intro w'
                go_simp
                with_reducible rfl
              rotate_left
              · simp only [Act.put, List.setIfInBounds_toArray, List.set_cons_zero, List.set_cons_succ, i64_w, i32_w]
                rfl
              refine pure_ (i := 22) (N := some 47) (v := ?_) (a' := ?_) #[true, true, true, true, true, true, true, true, true, true, true, true, true, true, true, false, true, false, false, false, true, false, true, false, false, false, false, false] rfl rfl (by kernel_rfl) (fun _ _ _ h => h) (Or.inl ⟨by rfl, ?_⟩) ?_ ?_
              rotate_left
              · intro w'
                go_simp
                with_reducible rfl
              rotate_left
              · simp only [Act.put, List.setIfInBounds_toArray, List.set_cons_zero, List.set_cons_succ, i64_w, i32_w]
                rfl
              refine take_ (i := 15) (N := some 40) (v := ?_) (a' := ?_) #[true, true, true, true, true, true, true, true, true, true, true, true, true, true, true, true, true, false, false, false, true, false, true, false, false, false, false, false] rfl rfl (by kernel_rfl) (fun _ _ _ h => h) (Or.inl ⟨by rfl, ?_⟩) hHeld ?_ ?_
              rotate_left
              · rintro w' ⟨s0, s1, s2, s3, s4⟩
                go_simp
                with_reducible rfl
              rotate_left
              · simp only [Act.put, List.setIfInBounds_toArray, List.set_cons_zero, List.set_cons_succ, i64_w, i32_w]
                rfl
              refine pure_ (i := 17) (N := some 42) (v := ?_) (a' := ?_) #[true, true, true, true, true, true, true, true, true, true, true, true, true, true, true, true, true, true, false, false, true, false, true, false, false, false, false, false] rfl rfl (by kernel_rfl) (fun _ _ _ h => h) (Or.inl ⟨by rfl, ?_⟩) ?_ ?_
              rotate_left
              · intro w'
                go_simp
                with_reducible rfl
              rotate_left
              · simp only [Act.put, List.setIfInBounds_toArray, List.set_cons_zero, List.set_cons_succ, i64_w, i32_w]
                rfl
              refine pure_ (i := 18) (N := some 43) (v := ?_) (a' := ?_) #[true, true, true, true, true, true, true, true, true, true, true, true, true, true, true, true, true, true, true, false, true, false, true, false, false, false, false, false] rfl rfl (by kernel_rfl) (fun _ _ _ h => h) (Or.inl ⟨by rfl, ?_⟩) ?_ ?_
              rotate_left
              · intro w'
                go_simp
                with_reducible rfl
              rotate_left
              · simp only [Act.put, List.setIfInBounds_toArray, List.set_cons_zero, List.set_cons_succ, i64_w, i32_w]
                rfl
              refine take_ (i := 19) (N := some 44) (v := ?_) (a' := ?_) #[true, true, true, true, true, true, true, true, true, true, true, true, true, true, true, true, true, true, true, true, true, false, true, false, false, false, false, false] rfl rfl (by kernel_rfl) (fun _ _ _ h => h) (Or.inl ⟨by rfl, ?_⟩) hHeld ?_ ?_
              rotate_left
              · rintro w' ⟨s0, s1, s2, s3, s4⟩
                go_simp
                with_reducible rfl
              rotate_left
              · simp only [Act.put, List.setIfInBounds_toArray, List.set_cons_zero, List.set_cons_succ, i64_w, i32_w]
                rfl
              refine take_ (i := 21) (N := some 46) (v := ?_) (a' := ?_) #[true, true, true, true, true, true, true, true, true, true, true, true, true, true, true, true, true, true, true, true, true, true, true, false, false, false, false, false] rfl rfl (by kernel_rfl) (fun _ _ _ h => h) (Or.inl ⟨by rfl, ?_⟩) hHeld ?_ ?_
              rotate_left
              · rintro w' ⟨s0, s1, s2, s3, s4⟩
                go_simp
                with_reducible rfl
              rotate_left
              · simp only [Act.put, List.setIfInBounds_toArray, List.set_cons_zero, List.set_cons_succ, i64_w, i32_w]
                rfl
              refine pure_ (i := 23) (N := some 48) (v := ?_) (a' := ?_) #[true, true, true, true, true, true, true, true, true, true, true, true, true, true, true, true, true, true, true, true, true, true, true, true, false, false, false, false] rfl rfl (by kernel_rfl) (fun _ _ _ h => h) (Or.inl ⟨by rfl, ?_⟩) ?_ ?_
              rotate_left
              · intro w'
                go_simp
                with_reducible rfl
              rotate_left
              · simp only [Act.put, List.setIfInBounds_toArray, List.set_cons_zero, List.set_cons_succ, i64_w, i32_w]
                rfl
              refine pure_ (i := 24) (N := some 49) (v := ?_) (a' := ?_) #[true, true, true, true, true, true, true, true, true, true, true, true, true, true, true, true, true, true, true, true, true, true, true, true, true, false, false, false] rfl rfl (by kernel_rfl) (fun _ _ _ h => h) (Or.inl ⟨by rfl, ?_⟩) ?_ ?_
              rotate_left
              · intro w'
                go_simp
                with_reducible rfl
              rotate_left
              · simp only [Act.put, List.setIfInBounds_toArray, List.set_cons_zero, List.set_cons_succ, i64_w, i32_w]
                rfl
              refine take_ (i := 25) (N := some 50) (v := ?_) (a' := ?_) #[true, true, true, true, true, true, true, true, true, true, true, true, true, true, true, true, true, true, true, true, true, true, true, true, true, true, false, false] rfl rfl (by kernel_rfl) (fun _ _ _ h => h) (Or.inl ⟨by rfl, ?_⟩) hHeld ?_ ?_
              rotate_left
              · rintro w' ⟨s0, s1, s2, s3, s4⟩
                go_simp
                with_reducible rfl
              rotate_left
              · simp only [Act.put, List.setIfInBounds_toArray, List.set_cons_zero, List.set_cons_succ, i64_w, i32_w]
                rfl
              refine pure_ (i := 26) (N := some 51) (v := ?_) (a' := ?_) #[true, true, true, true, true, true, true, true, true, true, true, true, true, true, true, true, true, true, true, true, true, true, true, true, true, true, true, false] rfl rfl (by kernel_rfl) (fun _ _ _ h => h) (Or.inl ⟨by rfl, ?_⟩) ?_ ?_
              rotate_left
              · intro w'
                go_simp
                with_reducible rfl
              rotate_left
              · simp only [Act.put, List.setIfInBounds_toArray, List.set_cons_zero, List.set_cons_succ, i64_w, i32_w]
                rfl
              refine pure_ (i := 27) (N := some 52) (v := ?_) (a' := ?_) #[true, true, true, true, true, true, true, true, true, true, true, true, true, true, true, true, true, true, true, true, true, true, true, true, true, true, true, true] rfl rfl (by kernel_rfl) (fun _ _ _ h => h) (Or.inl ⟨by rfl, ?_⟩) ?_ ?_
              rotate_left
              · intro w'
                go_simp
                with_reducible rfl
              rotate_left
              · simp only [Act.put, List.setIfInBounds_toArray, List.set_cons_zero, List.set_cons_succ, i64_w, i32_w]
                rfl
              refine done_ (by kernel_rfl) ?_

              go_wp2
              go_roundw
              case rel => exact ⟨k + 1, by omega, by go_num, ⟨last_step HK.out HA2.out⟩, ⟨drawn_then hD⟩⟩
              case measure => simp [intOf]; omega
          · have e4 : (s.ki == r.ki) = false := beq_eq_false_iff_ne.2 h4
            have HA2 := Aside0.mk (show (ss.getD i default).meets (ss.getD k default) = false by rw [HSR.out.1, HSR.out.2]; exact meets_no1 h4)
            clear h4
            go_wp2_with fail
            refine start_ (n := 28) (S := fun w' => w'.cell? ⟨g2, 15, none⟩ = some (.slice (some ad) an ac) ∧ w'.cell? (ad.add (i * 5)) = some (.int .i64 s.ki) ∧ w'.cell? ⟨(ad.add (i * 5)).block, (ad.add (i * 5)).off + 1, none⟩ = some (.int .i64 s.id) ∧ w'.cell? (ad.add (k * 5)) = some (.int .i64 r.ki) ∧ w'.cell? ⟨(ad.add (k * 5)).block, (ad.add (k * 5)).off + 1, none⟩ = some (.int .i64 r.id)) (ds := []) #[false, false, false, false, false, false, false, false, false, false, false, false, false, false, false, false, false, false, false, false, false, false, false, false, false, false, false, false] (by kernel_rfl) rfl rfl ⟨cg2_15, (hsA.cell0 rfl), (hsA.cellp 1 (by decide) rfl), (hrA.cell0 rfl), (hrA.cellp 1 (by decide) rfl)⟩ (fun hHeld => ?_)
            refine pure_ (i := 0) (N := some 25) (v := ?_) (a' := ?_) #[true, false, false, false, false, false, false, false, false, false, false, false, false, false, false, false, false, false, false, false, false, false, false, false, false, false, false, false] rfl rfl (by kernel_rfl) (fun _ _ _ h => h) (Or.inl ⟨by rfl, ?_⟩) ?_ ?_
            rotate_left
            · intro w'
              go_simp
              with_reducible rfl
            rotate_left
            · simp only [Act.put, List.setIfInBounds_toArray, List.set_cons_zero, List.set_cons_succ, i64_w, i32_w]
              rfl
            refine pure_ (i := 2) (N := some 27) (v := ?_) (a' := ?_) #[true, false, true, false, false, false, false, false, false, false, false, false, false, false, false, false, false, false, false, false, false, false, false, false, false, false, false, false] rfl rfl (by kernel_rfl) (fun _ _ _ h => h) (Or.inl ⟨by rfl, ?_⟩) ?_ ?_
            rotate_left
            · intro w'
              go_simp
              with_reducible rfl
            rotate_left
            · simp only [Act.put, List.setIfInBounds_toArray, List.set_cons_zero, List.set_cons_succ, i64_w, i32_w]
              rfl
            refine pure_ (i := 6) (N := some 31) (v := ?_) (a' := ?_) #[true, false, true, false, false, false, true, false, false, false, false, false, false, false, false, false, false, false, false, false, false, false, false, false, false, false, false, false] rfl rfl (by kernel_rfl) (fun _ _ _ h => h) (Or.inl ⟨by rfl, ?_⟩) ?_ ?_
            rotate_left
            · intro w'
              go_simp
              with_reducible rfl
            rotate_left
            · simp only [Act.put, List.setIfInBounds_toArray, List.set_cons_zero, List.set_cons_succ, i64_w, i32_w]
              rfl
            refine pure_ (i := 8) (N := some 33) (v := ?_) (a' := ?_) #[true, false, true, false, false, false, true, false, true, false, false, false, false, false, false, false, false, false, false, false, false, false, false, false, false, false, false, false] rfl rfl (by kernel_rfl) (fun _ _ _ h => h) (Or.inl ⟨by rfl, ?_⟩) ?_ ?_
            rotate_left
            · intro w'
              go_simp
              with_reducible rfl
            rotate_left
            · simp only [Act.put, List.setIfInBounds_toArray, List.set_cons_zero, List.set_cons_succ, i64_w, i32_w]
              rfl
            refine take_ (i := 1) (N := some 26) (v := ?_) (a' := ?_) #[true, true, true, false, false, false, true, false, true, false, false, false, false, false, false, false, false, false, false, false, false, false, false, false, false, false, false, false] rfl rfl (by kernel_rfl) (fun _ _ _ h => h) (Or.inl ⟨by rfl, ?_⟩) hHeld ?_ ?_
            rotate_left
            · rintro w' ⟨s0, s1, s2, s3, s4⟩
              go_simp
              with_reducible rfl
            rotate_left
            · simp only [Act.put, List.setIfInBounds_toArray, List.set_cons_zero, List.set_cons_succ, i64_w, i32_w]
              rfl
            refine pure_ (i := 3) (N := some 28) (v := ?_) (a' := ?_) #[true, true, true, true, false, false, true, false, true, false, false, false, false, false, false, false, false, false, false, false, false, false, false, false, false, false, false, false] rfl rfl (by kernel_rfl) (fun _ _ _ h => h) (Or.inl ⟨by rfl, ?_⟩) ?_ ?_
            rotate_left
            · intro w'
              go_simp
              with_reducible rfl
            rotate_left
            · simp only [Act.put, List.setIfInBounds_toArray, List.set_cons_zero, List.set_cons_succ, i64_w, i32_w]
              rfl
            refine pure_ (i := 4) (N := some 29) (v := ?_) (a' := ?_) #[true, true, true, true, true, false, true, false, true, false, false, false, false, false, false, false, false, false, false, false, false, false, false, false, false, false, false, false] rfl rfl (by kernel_rfl) (fun _ _ _ h => h) (Or.inl ⟨by rfl, ?_⟩) ?_ ?_
            rotate_left
            · intro w'
              go_simp
              with_reducible rfl
            rotate_left
            · simp only [Act.put, List.setIfInBounds_toArray, List.set_cons_zero, List.set_cons_succ, i64_w, i32_w]
              rfl
            refine take_ (i := 5) (N := some 30) (v := ?_) (a' := ?_) #[true, true, true, true, true, true, true, false, true, false, false, false, false, false, false, false, false, false, false, false, false, false, false, false, false, false, false, false] rfl rfl (by kernel_rfl) (fun _ _ _ h => h) (Or.inl ⟨by rfl, ?_⟩) hHeld ?_ ?_
            rotate_left
            · rintro w' ⟨s0, s1, s2, s3, s4⟩
              go_simp
              with_reducible rfl
            rotate_left
            · simp only [Act.put, List.setIfInBounds_toArray, List.set_cons_zero, List.set_cons_succ, i64_w, i32_w]
              rfl
            refine take_ (i := 7) (N := some 32) (v := ?_) (a' := ?_) #[true, true, true, true, true, true, true, true, true, false, false, false, false, false, false, false, false, false, false, false, false, false, false, false, false, false, false, false] rfl rfl (by kernel_rfl) (fun _ _ _ h => h) (Or.inl ⟨by rfl, ?_⟩) hHeld ?_ ?_
            rotate_left
            · rintro w' ⟨s0, s1, s2, s3, s4⟩
              go_simp
              with_reducible rfl
            rotate_left
            · simp only [Act.put, List.setIfInBounds_toArray, List.set_cons_zero, List.set_cons_succ, i64_w, i32_w]
              rfl
            refine pure_ (i := 9) (N := some 34) (v := ?_) (a' := ?_) #[true, true, true, true, true, true, true, true, true, true, false, false, false, false, false, false, false, false, false, false, false, false, false, false, false, false, false, false] rfl rfl (by kernel_rfl) (fun _ _ _ h => h) (Or.inl ⟨by rfl, ?_⟩) ?_ ?_
            rotate_left
            · intro w'
              go_simp
              with_reducible rfl
            rotate_left
            · simp only [Act.put, List.setIfInBounds_toArray, List.set_cons_zero, List.set_cons_succ, i64_w, i32_w]
              rfl
            refine pure_ (i := 10) (N := some 35) (v := ?_) (a' := ?_) #[true, true, true, true, true, true, true, true, true, true, true, false, false, false, false, false, false, false, false, false, false, false, false, false, false, false, false, false] rfl rfl (by kernel_rfl) (fun _ _ _ h => h) (Or.inl ⟨by rfl, ?_⟩) ?_ ?_
            rotate_left
            · intro w'
              go_simp
              with_reducible rfl
            rotate_left
            · simp only [Act.put, List.setIfInBounds_toArray, List.set_cons_zero, List.set_cons_succ, i64_w, i32_w]
              rfl
            refine take_ (i := 11) (N := some 36) (v := ?_) (a' := ?_) #[true, true, true, true, true, true, true, true, true, true, true, true, false, false, false, false, false, false, false, false, false, false, false, false, false, false, false, false] rfl rfl (by kernel_rfl) (fun _ _ _ h => h) (Or.inl ⟨by rfl, ?_⟩) hHeld ?_ ?_
            rotate_left
            · rintro w' ⟨s0, s1, s2, s3, s4⟩
              go_simp
              with_reducible rfl
            rotate_left
            · simp only [Act.put, List.setIfInBounds_toArray, List.set_cons_zero, List.set_cons_succ, i64_w, i32_w]
              rfl
            refine pure_ (i := 12) (N := some 37) (v := ?_) (a' := ?_) #[true, true, true, true, true, true, true, true, true, true, true, true, true, false, false, false, false, false, false, false, false, false, false, false, false, false, false, false] rfl rfl (by kernel_rfl) (fun _ _ _ h => h) (Or.inl ⟨by rfl, ?_⟩) ?_ ?_
            rotate_left
            · intro w'
              go_simp
              with_reducible rfl
            rotate_left
            · simp only [Act.put, List.setIfInBounds_toArray, List.set_cons_zero, List.set_cons_succ, i64_w, i32_w]
              rfl
            refine pure_ (i := 13) (N := some 38) (v := ?_) (a' := ?_) #[true, true, true, true, true, true, true, true, true, true, true, true, true, true, false, false, false, false, false, false, false, false, false, false, false, false, false, false] rfl rfl (by kernel_rfl) (fun _ _ _ h => h) (Or.inl ⟨by rfl, ?_⟩) ?_ ?_
            rotate_left
            · intro w'
              go_simp
              with_reducible rfl
            rotate_left
            · simp only [Act.put, List.setIfInBounds_toArray, List.set_cons_zero, List.set_cons_succ, i64_w, i32_w]
              rfl
            refine pure_ (i := 14) (N := some 39) (v := undef) (a' := ?_) #[true, true, true, true, true, true, true, true, true, true, true, true, true, true, true, false, false, false, false, false, false, false, false, false, false, false, false, false] rfl rfl (by kernel_rfl) (fun _ _ _ h => h) (Or.inr ⟨by rfl, rfl⟩) ?_ ?_
            rotate_left
            · simp only [Act.put, List.setIfInBounds_toArray, List.set_cons_zero, List.set_cons_succ, i64_w, i32_w]
              rfl
            refine pure_ (i := 15) (N := some 40) (v := undef) (a' := ?_) #[true, true, true, true, true, true, true, true, true, true, true, true, true, true, true, true, false, false, false, false, false, false, false, false, false, false, false, false] rfl rfl (by kernel_rfl) (fun _ _ _ h => h) (Or.inr ⟨by rfl, rfl⟩) ?_ ?_
            rotate_left
            · simp only [Act.put, List.setIfInBounds_toArray, List.set_cons_zero, List.set_cons_succ, i64_w, i32_w]
              rfl
            refine pure_ (i := 16) (N := some 41) (v := undef) (a' := ?_) #[true, true, true, true, true, true, true, true, true, true, true, true, true, true, true, true, true, false, false, false, false, false, false, false, false, false, false, false] rfl rfl (by kernel_rfl) (fun _ _ _ h => h) (Or.inr ⟨by rfl, rfl⟩) ?_ ?_
            rotate_left
            · simp only [Act.put, List.setIfInBounds_toArray, List.set_cons_zero, List.set_cons_succ, i64_w, i32_w]
              rfl
            refine pure_ (i := 17) (N := some 42) (v := undef) (a' := ?_) #[true, true, true, true, true, true, true, true, true, true, true, true, true, true, true, true, true, true, false, false, false, false, false, false, false, false, false, false] rfl rfl (by kernel_rfl) (fun _ _ _ h => h) (Or.inr ⟨by rfl, rfl⟩) ?_ ?_
            rotate_left
            · simp only [Act.put, List.setIfInBounds_toArray, List.set_cons_zero, List.set_cons_succ, i64_w, i32_w]
              rfl
            refine pure_ (i := 18) (N := some 43) (v := undef) (a' := ?_) #[true, true, true, true, true, true, true, true, true, true, true, true, true, true, true, true, true, true, true, false, false, false, false, false, false, false, false, false] rfl rfl (by kernel_rfl) (fun _ _ _ h => h) (Or.inr ⟨by rfl, rfl⟩) ?_ ?_
            rotate_left
            · simp only [Act.put, List.setIfInBounds_toArray, List.set_cons_zero, List.set_cons_succ, i64_w, i32_w]
              rfl
            refine pure_ (i := 19) (N := some 44) (v := undef) (a' := ?_) #[true, true, true, true, true, true, true, true, true, true, true, true, true, true, true, true, true, true, true, true, false, false, false, false, false, false, false, false] rfl rfl (by kernel_rfl) (fun _ _ _ h => h) (Or.inr ⟨by rfl, rfl⟩) ?_ ?_
            rotate_left
            · simp only [Act.put, List.setIfInBounds_toArray, List.set_cons_zero, List.set_cons_succ, i64_w, i32_w]
              rfl
            refine pure_ (i := 20) (N := some 45) (v := undef) (a' := ?_) #[true, true, true, true, true, true, true, true, true, true, true, true, true, true, true, true, true, true, true, true, true, false, false, false, false, false, false, false] rfl rfl (by kernel_rfl) (fun _ _ _ h => h) (Or.inr ⟨by rfl, rfl⟩) ?_ ?_
            rotate_left
            · simp only [Act.put, List.setIfInBounds_toArray, List.set_cons_zero, List.set_cons_succ, i64_w, i32_w]
              rfl
            refine pure_ (i := 21) (N := some 46) (v := undef) (a' := ?_) #[true, true, true, true, true, true, true, true, true, true, true, true, true, true, true, true, true, true, true, true, true, true, false, false, false, false, false, false] rfl rfl (by kernel_rfl) (fun _ _ _ h => h) (Or.inr ⟨by rfl, rfl⟩) ?_ ?_
            rotate_left
            · simp only [Act.put, List.setIfInBounds_toArray, List.set_cons_zero, List.set_cons_succ, i64_w, i32_w]
              rfl
            refine pure_ (i := 22) (N := some 47) (v := undef) (a' := ?_) #[true, true, true, true, true, true, true, true, true, true, true, true, true, true, true, true, true, true, true, true, true, true, true, false, false, false, false, false] rfl rfl (by kernel_rfl) (fun _ _ _ h => h) (Or.inr ⟨by rfl, rfl⟩) ?_ ?_
            rotate_left
            · simp only [Act.put, List.setIfInBounds_toArray, List.set_cons_zero, List.set_cons_succ, i64_w, i32_w]
              rfl
            refine pure_ (i := 23) (N := some 48) (v := undef) (a' := ?_) #[true, true, true, true, true, true, true, true, true, true, true, true, true, true, true, true, true, true, true, true, true, true, true, true, false, false, false, false] rfl rfl (by kernel_rfl) (fun _ _ _ h => h) (Or.inr ⟨by rfl, rfl⟩) ?_ ?_
            rotate_left
            · simp only [Act.put, List.setIfInBounds_toArray, List.set_cons_zero, List.set_cons_succ, i64_w, i32_w]
              rfl
            refine pure_ (i := 24) (N := some 49) (v := undef) (a' := ?_) #[true, true, true, true, true, true, true, true, true, true, true, true, true, true, true, true, true, true, true, true, true, true, true, true, true, false, false, false] rfl rfl (by kernel_rfl) (fun _ _ _ h => h) (Or.inr ⟨by rfl, rfl⟩) ?_ ?_
            rotate_left
            · simp only [Act.put, List.setIfInBounds_toArray, List.set_cons_zero, List.set_cons_succ, i64_w, i32_w]
              rfl
            refine pure_ (i := 25) (N := some 50) (v := undef) (a' := ?_) #[true, true, true, true, true, true, true, true, true, true, true, true, true, true, true, true, true, true, true, true, true, true, true, true, true, true, false, false] rfl rfl (by kernel_rfl) (fun _ _ _ h => h) (Or.inr ⟨by rfl, rfl⟩) ?_ ?_
            rotate_left
            · simp only [Act.put, List.setIfInBounds_toArray, List.set_cons_zero, List.set_cons_succ, i64_w, i32_w]
              rfl
            refine pure_ (i := 26) (N := some 51) (v := undef) (a' := ?_) #[true, true, true, true, true, true, true, true, true, true, true, true, true, true, true, true, true, true, true, true, true, true, true, true, true, true, true, false] rfl rfl (by kernel_rfl) (fun _ _ _ h => h) (Or.inr ⟨by rfl, rfl⟩) ?_ ?_
            rotate_left
            · simp only [Act.put, List.setIfInBounds_toArray, List.set_cons_zero, List.set_cons_succ, i64_w, i32_w]
              rfl
            refine pure_ (i := 27) (N := some 52) (v := ?_) (a' := ?_) #[true, true, true, true, true, true, true, true, true, true, true, true, true, true, true, true, true, true, true, true, true, true, true, true, true, true, true, true] rfl rfl (by kernel_rfl) (fun _ _ _ h => h) (Or.inl ⟨by rfl, ?_⟩) ?_ ?_
            rotate_left
            · intro w'
              go_simp
              with_reducible rfl
            rotate_left
            · simp only [Act.put, List.setIfInBounds_toArray, List.set_cons_zero, List.set_cons_succ, i64_w, i32_w]
              rfl
            refine done_ (by kernel_rfl) ?_

            go_wp2
            go_roundw
            case rel => exact ⟨k + 1, by omega, by go_num, ⟨last_step HK.out HA2.out⟩, ⟨drawn_then hD⟩⟩
            case measure => simp [intOf]; omega
        · obtain rfl : i = k := by omega
          go_wp2_with fail
          go_roundw
          case rel => exact ⟨i + 1, by omega, by go_num, ⟨lone_step HL.out HK.out⟩, ⟨hD⟩⟩
          case measure => simp [intOf]; omega
    · obtain rfl : an = i := by omega
      have hLone : Lone ss := by intro a ha; rw [hS.len] at ha; exact HL.out a ha
      have HLone := Aside0.mk hLone
      clear hLone HL
      have Xg2 := dblk hD Xg2
      have hS := hS.drawn hD
      have hB := dbelow hD hB
      clear hD
      have cg2_3 : wi.cell? ⟨g2, 3, none⟩ = some (.int .i64 au) := (blk_cell Xg2 3).trans rfl
      have cg2_4 : wi.cell? ⟨g2, 4, none⟩ = some (.int .i64 av) := (blk_cell Xg2 4).trans rfl
      have cg2_7 : wi.cell? ⟨g2, 7, none⟩ = some (.int .i64 ahd) := (blk_cell Xg2 7).trans rfl
      have cg2_12 : wi.cell? ⟨g2, 12, none⟩ = some (.int .i64 awt) := (blk_cell Xg2 12).trans rfl
      have cg2_15 : wi.cell? ⟨g2, 15, none⟩ = some (.slice aA an ac) := (blk_cell Xg2 15).trans rfl
      go_wp2_with (first
        | ((with_reducible refine gate_dst (N := 53) rfl ?_); refine wpList_load_at rfl 47 (.tmp 2) rfl ⟨g2, 0, none⟩ rfl [.int .u64 atk, .int .i64 apl, .string anm, .int .i64 au, .int .i64 av, .int .i64 avx, .int .i64 avy, .int .i64 ahd, .int .i64 ahe, .int .i64 aen, .int .i64 aam, .int .i64 aco, .int .i64 awt, .int .i64 asp, .int .i64 asc, .slice aA an ac] _ Try.underlying47 rfl (by kernel_rfl) (At.of_blk Xg2) ?_)
        | ((with_reducible refine gate_dst (N := 54) rfl ?_); refine wpList_load_at rfl 47 (.tmp 2) rfl ⟨g2, 0, none⟩ rfl [.int .u64 atk, .int .i64 apl, .string anm, .int .i64 au, .int .i64 av, .int .i64 avx, .int .i64 avy, .int .i64 ahd, .int .i64 ahe, .int .i64 aen, .int .i64 aam, .int .i64 aco, .int .i64 awt, .int .i64 asp, .int .i64 asc, .slice aA an ac] _ Try.underlying47 rfl (by kernel_rfl) (At.of_blk Xg2) ?_)
        | ((with_reducible refine gate_dst (N := 56) rfl ?_); (with_reducible refine gate_callee (f := 26) rfl ?_); refine goesL_ _ rfl rfl Try.func26 (by kernel_rfl) rfl _ rfl (by simp only [List.map_toArray, List.map_cons, List.map_nil]; rfl) ?_; refine (self_yes atk apl au av avx avy ahd ahe aen aam aco awt asp asc anm aA an ac t _ ss hS HLone.out hn hw).mono ?_; rintro e w5 ⟨A1, c1, ps, rfl, hP, hps, hb⟩; refine ⟨_, rfl, ?_⟩; have hB := below_step hB hb; have hS := hS.below hb; have Xg2 := blk_below Xg2 hb; have HPS := Aside0.mk hps; clear hps hb; have cg2_3 : w5.cell? ⟨g2, 3, none⟩ = some (.int .i64 au) := (blk_cell Xg2 3).trans rfl; have cg2_4 : w5.cell? ⟨g2, 4, none⟩ = some (.int .i64 av) := (blk_cell Xg2 4).trans rfl; have cg2_7 : w5.cell? ⟨g2, 7, none⟩ = some (.int .i64 ahd) := (blk_cell Xg2 7).trans rfl; have cg2_12 : w5.cell? ⟨g2, 12, none⟩ = some (.int .i64 awt) := (blk_cell Xg2 12).trans rfl; have cg2_15 : w5.cell? ⟨g2, 15, none⟩ = some (.slice aA an ac) := (blk_cell Xg2 15).trans rfl))
      obtain ⟨ad1, eA1, hp0⟩ := hP.at_ 0 (by omega)
      subst eA1
      have HP0 := Aside0.mk (cons_at0 HPS.out)
      generalize ps.getD 0 default = q0 at hp0 HP0
      have hp0 : At w5.drew ad1 [.float .f32 q0.x, .float .f32 q0.y, .float .f32 q0.a] := by
        have h1 : At w5.drew ad1 q0.cs := by simpa [Addr.add] using hp0.drew
        exact h1
      have HPd := Aside0.mk (hP.drawn ((Drawn0.refl w5).step 1))
      have hPd := HPd.out
      refine start_ (n := 16) (S := fun w' => At w' ad1 [.float .f32 q0.x, .float .f32 q0.y, .float .f32 q0.a] ∧ w'.cell? ⟨g2, 3, none⟩ = some (.int .i64 au) ∧ w'.cell? ⟨g2, 4, none⟩ = some (.int .i64 av) ∧ w'.cell? ⟨g2, 7, none⟩ = some (.int .i64 ahd)) (ds := []) #[false, false, false, false, false, false, false, false, false, false, false, false, false, false, false, false] (by kernel_rfl) rfl rfl ⟨hp0, cg2_3, cg2_4, cg2_7⟩ (fun hHeld => ?_)
      refine pure_ (i := 0) (N := some 61) (v := ?_) (a' := ?_) #[true, false, false, false, false, false, false, false, false, false, false, false, false, false, false, false] rfl rfl (by kernel_rfl) (fun _ _ _ h => h) (Or.inl ⟨by rfl, ?_⟩) ?_ ?_
      rotate_left
      · intro w'
        go_simp
        with_reducible rfl
      rotate_left
      · simp only [Act.put, List.setIfInBounds_toArray, List.set_cons_zero, List.set_cons_succ, i64_w, i32_w]
        rfl
      refine pure_ (i := 1) (N := some 62) (v := ?_) (a' := ?_) #[true, true, false, false, false, false, false, false, false, false, false, false, false, false, false, false] rfl rfl (by kernel_rfl) (fun _ _ _ h => h) (Or.inl ⟨by rfl, ?_⟩) ?_ ?_
      rotate_left
      · intro w'
        go_simp
        with_reducible rfl
      rotate_left
      · simp only [Act.put, List.setIfInBounds_toArray, List.set_cons_zero, List.set_cons_succ, i64_w, i32_w]
        rfl
      refine pure_ (i := 2) (N := some 63) (v := ?_) (a' := ?_) #[true, true, true, false, false, false, false, false, false, false, false, false, false, false, false, false] rfl rfl (by kernel_rfl) (fun _ _ _ h => h) (Or.inl ⟨by rfl, ?_⟩) ?_ ?_
      rotate_left
      · intro w'
        go_simp
        with_reducible rfl
      rotate_left
      · simp only [Act.put, List.setIfInBounds_toArray, List.set_cons_zero, List.set_cons_succ, i64_w, i32_w]
        rfl
      refine pure_ (i := 3) (N := some 64) (v := ?_) (a' := ?_) #[true, true, true, true, false, false, false, false, false, false, false, false, false, false, false, false] rfl rfl (by kernel_rfl) (fun _ _ _ h => h) (Or.inl ⟨by rfl, ?_⟩) ?_ ?_
      rotate_left
      · intro w'
        go_simp
        with_reducible rfl
      rotate_left
      · simp only [Act.put, List.setIfInBounds_toArray, List.set_cons_zero, List.set_cons_succ, i64_w, i32_w]
        rfl
      refine pure_ (i := 4) (N := some 65) (v := ?_) (a' := ?_) #[true, true, true, true, true, false, false, false, false, false, false, false, false, false, false, false] rfl rfl (by kernel_rfl) (fun _ _ _ h => h) (Or.inl ⟨by rfl, ?_⟩) ?_ ?_
      rotate_left
      · intro w'
        go_simp
        with_reducible rfl
      rotate_left
      · simp only [Act.put, List.setIfInBounds_toArray, List.set_cons_zero, List.set_cons_succ, i64_w, i32_w]
        rfl
      refine pure_ (i := 5) (N := some 66) (v := ?_) (a' := ?_) #[true, true, true, true, true, true, false, false, false, false, false, false, false, false, false, false] rfl rfl (by kernel_rfl) (fun _ _ _ h => h) (Or.inl ⟨by rfl, ?_⟩) ?_ ?_
      rotate_left
      · intro w'
        go_simp
        with_reducible rfl
      rotate_left
      · simp only [Act.put, List.setIfInBounds_toArray, List.set_cons_zero, List.set_cons_succ, i64_w, i32_w]
        rfl
      refine pure_ (i := 7) (N := some 68) (v := ?_) (a' := ?_) #[true, true, true, true, true, true, false, true, false, false, false, false, false, false, false, false] rfl rfl (by kernel_rfl) (fun _ _ _ h => h) (Or.inl ⟨by rfl, ?_⟩) ?_ ?_
      rotate_left
      · intro w'
        go_simp
        with_reducible rfl
      rotate_left
      · simp only [Act.put, List.setIfInBounds_toArray, List.set_cons_zero, List.set_cons_succ, i64_w, i32_w]
        rfl
      refine pure_ (i := 8) (N := some 69) (v := ?_) (a' := ?_) #[true, true, true, true, true, true, false, true, true, false, false, false, false, false, false, false] rfl rfl (by kernel_rfl) (fun _ _ _ h => h) (Or.inl ⟨by rfl, ?_⟩) ?_ ?_
      rotate_left
      · intro w'
        go_simp
        with_reducible rfl
      rotate_left
      · simp only [Act.put, List.setIfInBounds_toArray, List.set_cons_zero, List.set_cons_succ, i64_w, i32_w]
        rfl
      refine pure_ (i := 10) (N := some 71) (v := ?_) (a' := ?_) #[true, true, true, true, true, true, false, true, true, false, true, false, false, false, false, false] rfl rfl (by kernel_rfl) (fun _ _ _ h => h) (Or.inl ⟨by rfl, ?_⟩) ?_ ?_
      rotate_left
      · intro w'
        go_simp
        with_reducible rfl
      rotate_left
      · simp only [Act.put, List.setIfInBounds_toArray, List.set_cons_zero, List.set_cons_succ, i64_w, i32_w]
        rfl
      refine pure_ (i := 11) (N := some 72) (v := ?_) (a' := ?_) #[true, true, true, true, true, true, false, true, true, false, true, true, false, false, false, false] rfl rfl (by kernel_rfl) (fun _ _ _ h => h) (Or.inl ⟨by rfl, ?_⟩) ?_ ?_
      rotate_left
      · intro w'
        go_simp
        with_reducible rfl
      rotate_left
      · simp only [Act.put, List.setIfInBounds_toArray, List.set_cons_zero, List.set_cons_succ, i64_w, i32_w]
        rfl
      refine take_ (i := 6) (N := some 67) (v := ?_) (a' := ?_) #[true, true, true, true, true, true, true, true, true, false, true, true, false, false, false, false] rfl rfl (by kernel_rfl) (fun _ _ _ h => h) (Or.inl ⟨by rfl, ?_⟩) hHeld ?_ ?_
      rotate_left
      · rintro w' ⟨s0, s1, s2, s3⟩
        refine Eq.trans (exec_load_at 24 _ (by rfl) ad1 (by rfl) [.float .f32 q0.x, .float .f32 q0.y, .float .f32 q0.a] _ Try.underlying24 rfl (by kernel_rfl) s0) ?_
        with_reducible rfl
      rotate_left
      · simp only [Act.put, List.setIfInBounds_toArray, List.set_cons_zero, List.set_cons_succ, i64_w, i32_w]
        rfl
      refine take_ (i := 9) (N := some 70) (v := ?_) (a' := ?_) #[true, true, true, true, true, true, true, true, true, true, true, true, false, false, false, false] rfl rfl (by kernel_rfl) (fun _ _ _ h => h) (Or.inl ⟨by rfl, ?_⟩) hHeld ?_ ?_
      rotate_left
      · rintro w' ⟨s0, s1, s2, s3⟩
        go_simp
        with_reducible rfl
      rotate_left
      · simp only [Act.put, List.setIfInBounds_toArray, List.set_cons_zero, List.set_cons_succ, i64_w, i32_w]
        rfl
      refine take_ (i := 12) (N := some 73) (v := ?_) (a' := ?_) #[true, true, true, true, true, true, true, true, true, true, true, true, true, false, false, false] rfl rfl (by kernel_rfl) (fun _ _ _ h => h) (Or.inl ⟨by rfl, ?_⟩) hHeld ?_ ?_
      rotate_left
      · rintro w' ⟨s0, s1, s2, s3⟩
        go_simp
        with_reducible rfl
      rotate_left
      · simp only [Act.put, List.setIfInBounds_toArray, List.set_cons_zero, List.set_cons_succ, i64_w, i32_w]
        rfl
      refine one_ (i := 13) (N := some 74) #[true, true, true, true, true, true, true, true, true, true, true, true, true, true, false, false] rfl rfl (by kernel_rfl) (by decide) (fun K hK => ?_)
      refine goes_ Try.func20 (by kernel_rfl) rfl _ (by rfl) rfl rfl (by simp only [List.map_toArray, List.map_cons, List.map_nil]; rfl) ?_
      refine (of_calls au av ahd _).mono ?_
      rintro e w8 ⟨p1, q1, hp1, hq1, rfl, hb1⟩
      refine ⟨_, rfl, ?_⟩
      have hE := mix_self t (of_pn au av ahd hU.1.lo hU.1.hi hU.2.1.lo hU.2.1.hi) HP0.out (r := ⟨p1, q1, angF (Go.bits .and .i64 ahd 255)⟩) ⟨hp1, hq1, Fe.refl _⟩
      have e_x := fun w => eq_float_of (P := Try.prog) w 9998 22 Try.underlying22 _ _ hE.x
      have e_y := fun w => eq_float_of (P := Try.prog) w 9998 22 Try.underlying22 _ _ hE.y
      have e_a := fun w => eq_float_of (P := Try.prog) w 9998 22 Try.underlying22 _ _ hE.a
      clear hE hp1 hq1
      have hB := below_step (below_drew hB) hb1
      have hS := (hS.drew').below hb1
      have Xg2 := blk_below (blk_drew Xg2) hb1
      have hP := hPd.below hb1
      refine hK.out _ _ ⟨(hHeld.1).below hb1, pw_cell_below hb1 (hHeld.2.1), pw_cell_below hb1 (hHeld.2.2.1), pw_cell_below hb1 (hHeld.2.2.2)⟩ (fun hHeld => ?_)
      clear hK K
      refine norm_ (a' := ?_) ?_ ?_
      rotate_left
      · show Act.put _ (some 74) _ = _
        simp only [Act.put, List.setIfInBounds_toArray, List.set_cons_zero, List.set_cons_succ, i64_w, i32_w]
        rfl
      refine pure_ (i := 14) (N := some 75) (v := ?_) (a' := ?_) #[true, true, true, true, true, true, true, true, true, true, true, true, true, true, true, false] rfl rfl (by kernel_rfl) (fun _ _ _ h => h) (Or.inl ⟨by rfl, ?_⟩) ?_ ?_
      rotate_left
      · intro w'
        go_simp
        with_reducible rfl
      rotate_left
      · simp only [Act.put, List.setIfInBounds_toArray, List.set_cons_zero, List.set_cons_succ, i64_w, i32_w]
        rfl
      refine pure_ (i := 15) (N := some 76) (v := ?_) (a' := ?_) #[true, true, true, true, true, true, true, true, true, true, true, true, true, true, true, true] rfl rfl (by kernel_rfl) (fun _ _ _ h => h) (Or.inl ⟨by rfl, ?_⟩) ?_ ?_
      rotate_left
      · intro w'
        go_simp
        with_reducible rfl
      rotate_left
      · simp only [Act.put, List.setIfInBounds_toArray, List.set_cons_zero, List.set_cons_succ, i64_w, i32_w]
        rfl
      refine done_ (by kernel_rfl) ?_
      clear hPd HPd hp0 e_x e_y e_a
      have cg2_3 : w8.cell? ⟨g2, 3, none⟩ = some (.int .i64 au) := (blk_cell Xg2 3).trans rfl
      have cg2_4 : w8.cell? ⟨g2, 4, none⟩ = some (.int .i64 av) := (blk_cell Xg2 4).trans rfl
      have cg2_7 : w8.cell? ⟨g2, 7, none⟩ = some (.int .i64 ahd) := (blk_cell Xg2 7).trans rfl
      have cg2_12 : w8.cell? ⟨g2, 12, none⟩ = some (.int .i64 awt) := (blk_cell Xg2 12).trans rfl
      have cg2_15 : w8.cell? ⟨g2, 15, none⟩ = some (.slice aA an ac) := (blk_cell Xg2 15).trans rfl
      have HSW := Aside0.mk hS
      have HPW := Aside0.mk hP
      have HXW := Aside0.mk Xg2
      have HBW := Aside0.mk hB
      have LG2 := Aside0.mk (blk_lt Xg2)
      have hq1 : ((an : Int) + 1 != 1 + (an : Int)) = false := by simp only [bne_eq_false_iff_eq]; omega
      have hq2 : (((an + 1 : Nat) : Int) != 1 + (an : Int)) = false := by simp only [bne_eq_false_iff_eq]; omega
      clear hS hP hB
      go_wp2_with (first
        | ((with_reducible refine gate_dst (N := 86) rfl ?_); refine wpList_load_at rfl 40 (.tmp 85) rfl ⟨g2, 1, none⟩ rfl [.int .i64 apl, .string anm, .int .i64 au, .int .i64 av, .int .i64 avx, .int .i64 avy, .int .i64 ahd, .int .i64 ahe, .int .i64 aen, .int .i64 aam, .int .i64 aco, .int .i64 awt, .int .i64 asp, .int .i64 asc] _ Try.underlying40 rfl (by kernel_rfl) (At.of_mid (ds := [.int .u64 atk]) (es := [.slice aA an ac]) Xg2) ?_)
        | ((with_reducible refine gate_dst (N := 9) rfl ?_); refine box_event ?hg (N := 9) ?hd (cs := #[.int .u64 0, .int .i64 0, .string ⟨#[]⟩, .int .i64 0, .int .i64 0, .int .i64 0, .int .i64 0, .int .i64 0, .int .i64 0, .int .i64 0, .int .i64 0, .int .i64 0, .int .i64 0, .int .i64 0, .int .i64 0, .slice none 0 0]) (t := 47) ?hr ?_; (case hd => rfl); (case hg => rfl); (case hr => first | (go_simp; done) | (go_simp; rfl)); intro g9 eg9 w10 Xg9 Bg9; have hg9 : w8.heap.size ≤ g9 := Nat.le_of_eq eg9.symm; clear eg9)
        | ((with_reducible refine gate_store (t := 47) (p := 9) rfl ?_); refine wpList_store_blk rfl 47 (.tmp 9) (.tmp 87) rfl g9 [.int .u64 0, .int .i64 apl, .string anm, .int .i64 au, .int .i64 av, .int .i64 avx, .int .i64 avy, .int .i64 ahd, .int .i64 ahe, .int .i64 aen, .int .i64 aam, .int .i64 aco, .int .i64 awt, .int .i64 asp, .int .i64 asc, .slice none 0 0] rfl rfl 47 _ Xg9 (by kernel_rfl) rfl rfl ?_; intro w11 Xs hb6 hk6 hz6; have hBr := hb6 _ _ Bg9 hg9; have HBR := Aside0.mk hBr; have Xg2 := blk_below Xg2 hBr; clear hb6 hk6 hz6 Bg9 hBr Xg9; have Xg9 := Xs; clear Xs; have c91 : w11.cell? ⟨g9, 1, none⟩ = some (.int .i64 apl) := (blk_cell Xg9 1).trans rfl; have f91 := blk_frozen Xg9 1; have n29 : g2 ≠ g9 := (by have := LG2.out; omega); have c215 : w11.cell? ⟨g2, 15, none⟩ = some (.slice aA an ac) := (blk_cell Xg2 15).trans rfl))
      have hBr2 := HBR.out.setCell (p := ⟨g9, 1, none⟩) hg9 (.int .i64 (wrap64 (apl + 1)))
      have hS := HSW.out.below hBr2
      have hP := HPW.out.below hBr2
      have hX2 := blk_below HXW.out hBr2
      have hB := below_step HBW.out hBr2
      have Xg9 : (w11.setCell ⟨g9, 1, none⟩ (.int .i64 (wrap64 (apl + 1)))).heap[g9]? = some (.cells #[.int .u64 0, .int .i64 (wrap64 (apl + 1)), .string anm, .int .i64 au, .int .i64 av, .int .i64 avx, .int .i64 avy, .int .i64 ahd, .int .i64 ahe, .int .i64 aen, .int .i64 aam, .int .i64 aco, .int .i64 awt, .int .i64 asp, .int .i64 asc, .slice none 0 0] 47 (0, 0)) := blk_put Xg9 1 _ rfl
      clear hBr2 HBR HSW HPW HXW HBW Xg2 c91 f91 c215 cg2_3 cg2_4 cg2_7 cg2_12 cg2_15 hq1 hq2
      generalize (w11.setCell ⟨g9, 1, none⟩ (.int .i64 (wrap64 (apl + 1)))) = wq at *
      have Xg2 := hX2
      clear hX2
      have cg2_15 : wq.cell? ⟨g2, 15, none⟩ = some (.slice aA an ac) := (blk_cell Xg2 15).trans rfl
      go_wp2_with fail
      go_loopw [10] (fun j wr => ∃ k : Nat, k ≤ an ∧ j = .int .i64 k ∧ Aside0 (Below wq.heap.size wq wr)) (fun j _ => an - (intOf j).toNat)
      case atStart => exact ⟨0, Nat.zero_le _, rfl, ⟨Below.refl _ _⟩⟩
      case round =>
        clear cg2_15
        obtain ⟨k, hk, rfl, HB⟩ := hrel
        have hBq := HB.out
        clear HB
        by_cases hlt : k < an
        · have hlk : k < ss.length := by rw [hS.len]; exact hlt
          obtain ⟨ad, eA, hc⟩ := (hS.below hBq).at_ k hlt
          subst eA
          obtain ⟨adq, eQ, hq0⟩ := (hP.below hBq).at_ (1 + k) (by omega)
          injection eQ with eQ
          subst eQ
          have hq0 := hq0.drew
          have HP0 := Aside0.mk (cons_at HPS.out k hlk)
          obtain ⟨bh, bx, by_⟩ := hBd.out k hlk
          generalize ss.getD k default = s at hc HP0 bh bx by_
          generalize ps.getD (1 + k) default = q0 at hq0 HP0
          have hPN : PN s.p := of_pn s.x s.y s.hd bx.lo bx.hi by_.lo by_.hi
          have hv0 := (hc.vec).drew
          have hh0 : wr.drew.cell? ⟨(ad.add (k * 5)).block, (ad.add (k * 5)).off + 4, none⟩ = some (.int .i64 s.hd) := hc.cellp 4 (by decide) rfl
          have cg2_15 : wr.cell? ⟨g2, 15, none⟩ = some (.slice (some ad) an ac) := (blk_cell (blk_below Xg2 hBq) 15).trans rfl
          have hk2 : (k : Int) < (an : Int) := Int.ofNat_lt.mpr hlt
          have hk0 : (0 : Int) ≤ k := Int.natCast_nonneg k
          have hk5 : (0 : Int) ≤ 1 + (k : Int) := by omega
          have hk6 : 1 + (k : Int) < (an : Int) + 1 := by omega
          have hk9 : 1 + (k : Int) < ((an + 1 : Nat) : Int) := by omega
          have hk7 : (1 + (k : Int)).toNat = 1 + k := by omega
          have hk8 : wrap64 (1 + (k : Int)) = 1 + (k : Int) := wrap_id (by omega) (by omega)
          clear hc
          go_wp2_with fail
          refine start_ (n := 20) (S := fun w' => w'.cell? ⟨g2, 15, none⟩ = some (.slice (some ad) an ac) ∧ At w' (ad1.add ((1 + k) * 3)) [.float .f32 q0.x, .float .f32 q0.y, .float .f32 q0.a] ∧ At w' ⟨(ad.add (k * 5)).block, (ad.add (k * 5)).off + 2, none⟩ [.int .i64 s.x, .int .i64 s.y] ∧ w'.cell? ⟨(ad.add (k * 5)).block, (ad.add (k * 5)).off + 4, none⟩ = some (.int .i64 s.hd)) (ds := []) #[false, false, false, false, false, false, false, false, false, false, false, false, false, false, false, false, false, false, false, false] (by kernel_rfl) rfl rfl ⟨cg2_15, hq0, hv0, hh0⟩ (fun hHeld => ?_)
          refine pure_ (i := 0) (N := some 101) (v := ?_) (a' := ?_) #[true, false, false, false, false, false, false, false, false, false, false, false, false, false, false, false, false, false, false, false] rfl rfl (by kernel_rfl) (fun _ _ _ h => h) (Or.inl ⟨by rfl, ?_⟩) ?_ ?_
          rotate_left
          · intro w'
            go_simp
            with_reducible rfl
          rotate_left
          · simp only [Act.put, List.setIfInBounds_toArray, List.set_cons_zero, List.set_cons_succ, i64_w, i32_w]
            rfl
          refine pure_ (i := 1) (N := some 102) (v := ?_) (a' := ?_) #[true, true, false, false, false, false, false, false, false, false, false, false, false, false, false, false, false, false, false, false] rfl rfl (by kernel_rfl) (fun _ _ _ h => h) (Or.inl ⟨by rfl, ?_⟩) ?_ ?_
          rotate_left
          · intro w'
            go_simp
            with_reducible rfl
          rotate_left
          · simp only [Act.put, List.setIfInBounds_toArray, List.set_cons_zero, List.set_cons_succ, i64_w, i32_w]
            rfl
          refine pure_ (i := 2) (N := some 103) (v := ?_) (a' := ?_) #[true, true, true, false, false, false, false, false, false, false, false, false, false, false, false, false, false, false, false, false] rfl rfl (by kernel_rfl) (fun _ _ _ h => h) (Or.inl ⟨by rfl, ?_⟩) ?_ ?_
          rotate_left
          · intro w'
            go_simp
            with_reducible rfl
          rotate_left
          · simp only [Act.put, List.setIfInBounds_toArray, List.set_cons_zero, List.set_cons_succ, i64_w, i32_w]
            rfl
          refine pure_ (i := 3) (N := some 104) (v := ?_) (a' := ?_) #[true, true, true, true, false, false, false, false, false, false, false, false, false, false, false, false, false, false, false, false] rfl rfl (by kernel_rfl) (fun _ _ _ h => h) (Or.inl ⟨by rfl, ?_⟩) ?_ ?_
          rotate_left
          · intro w'
            go_simp
            with_reducible rfl
          rotate_left
          · simp only [Act.put, List.setIfInBounds_toArray, List.set_cons_zero, List.set_cons_succ, i64_w, i32_w]
            rfl
          refine pure_ (i := 4) (N := some 105) (v := ?_) (a' := ?_) #[true, true, true, true, true, false, false, false, false, false, false, false, false, false, false, false, false, false, false, false] rfl rfl (by kernel_rfl) (fun _ _ _ h => h) (Or.inl ⟨by rfl, ?_⟩) ?_ ?_
          rotate_left
          · intro w'
            go_simp
            with_reducible rfl
          rotate_left
          · simp only [Act.put, List.setIfInBounds_toArray, List.set_cons_zero, List.set_cons_succ, i64_w, i32_w]
            rfl
          refine pure_ (i := 6) (N := some 107) (v := ?_) (a' := ?_) #[true, true, true, true, true, false, true, false, false, false, false, false, false, false, false, false, false, false, false, false] rfl rfl (by kernel_rfl) (fun _ _ _ h => h) (Or.inl ⟨by rfl, ?_⟩) ?_ ?_
          rotate_left
          · intro w'
            go_simp
            with_reducible rfl
          rotate_left
          · simp only [Act.put, List.setIfInBounds_toArray, List.set_cons_zero, List.set_cons_succ, i64_w, i32_w]
            rfl
          refine pure_ (i := 8) (N := some 109) (v := ?_) (a' := ?_) #[true, true, true, true, true, false, true, false, true, false, false, false, false, false, false, false, false, false, false, false] rfl rfl (by kernel_rfl) (fun _ _ _ h => h) (Or.inl ⟨by rfl, ?_⟩) ?_ ?_
          rotate_left
          · intro w'
            go_simp
            with_reducible rfl
          rotate_left
          · simp only [Act.put, List.setIfInBounds_toArray, List.set_cons_zero, List.set_cons_succ, i64_w, i32_w]
            rfl
          refine pure_ (i := 12) (N := some 113) (v := ?_) (a' := ?_) #[true, true, true, true, true, false, true, false, true, false, false, false, true, false, false, false, false, false, false, false] rfl rfl (by kernel_rfl) (fun _ _ _ h => h) (Or.inl ⟨by rfl, ?_⟩) ?_ ?_
          rotate_left
          · intro w'
            go_simp
            with_reducible rfl
          rotate_left
          · simp only [Act.put, List.setIfInBounds_toArray, List.set_cons_zero, List.set_cons_succ, i64_w, i32_w]
            rfl
          refine pure_ (i := 14) (N := some 115) (v := ?_) (a' := ?_) #[true, true, true, true, true, false, true, false, true, false, false, false, true, false, true, false, false, false, false, false] rfl rfl (by kernel_rfl) (fun _ _ _ h => h) (Or.inl ⟨by rfl, ?_⟩) ?_ ?_
          rotate_left
          · intro w'
            go_simp
            with_reducible rfl
          rotate_left
          · simp only [Act.put, List.setIfInBounds_toArray, List.set_cons_zero, List.set_cons_succ, i64_w, i32_w]
            rfl
          refine take_ (i := 5) (N := some 106) (v := ?_) (a' := ?_) #[true, true, true, true, true, true, true, false, true, false, false, false, true, false, true, false, false, false, false, false] rfl rfl (by kernel_rfl) (fun _ _ _ h => h) (Or.inl ⟨by rfl, ?_⟩) hHeld ?_ ?_
          rotate_left
          · rintro w' ⟨s0, s1, s2, s3⟩
            refine Eq.trans (exec_load_at 24 _ (by rfl) (ad1.add ((1 + k) * 3)) (by rfl) [.float .f32 q0.x, .float .f32 q0.y, .float .f32 q0.a] _ Try.underlying24 rfl (by kernel_rfl) s1) ?_
            with_reducible rfl
          rotate_left
          · simp only [Act.put, List.setIfInBounds_toArray, List.set_cons_zero, List.set_cons_succ, i64_w, i32_w]
            rfl
          refine take_ (i := 7) (N := some 108) (v := ?_) (a' := ?_) #[true, true, true, true, true, true, true, true, true, false, false, false, true, false, true, false, false, false, false, false] rfl rfl (by kernel_rfl) (fun _ _ _ h => h) (Or.inl ⟨by rfl, ?_⟩) hHeld ?_ ?_
          rotate_left
          · rintro w' ⟨s0, s1, s2, s3⟩
            go_simp
            with_reducible rfl
          rotate_left
          · simp only [Act.put, List.setIfInBounds_toArray, List.set_cons_zero, List.set_cons_succ, i64_w, i32_w]
            rfl
          refine pure_ (i := 9) (N := some 110) (v := ?_) (a' := ?_) #[true, true, true, true, true, true, true, true, true, true, false, false, true, false, true, false, false, false, false, false] rfl rfl (by kernel_rfl) (fun _ _ _ h => h) (Or.inl ⟨by rfl, ?_⟩) ?_ ?_
          rotate_left
          · intro w'
            go_simp
            with_reducible rfl
          rotate_left
          · simp only [Act.put, List.setIfInBounds_toArray, List.set_cons_zero, List.set_cons_succ, i64_w, i32_w]
            rfl
          refine pure_ (i := 10) (N := some 111) (v := ?_) (a' := ?_) #[true, true, true, true, true, true, true, true, true, true, true, false, true, false, true, false, false, false, false, false] rfl rfl (by kernel_rfl) (fun _ _ _ h => h) (Or.inl ⟨by rfl, ?_⟩) ?_ ?_
          rotate_left
          · intro w'
            go_simp
            with_reducible rfl
          rotate_left
          · simp only [Act.put, List.setIfInBounds_toArray, List.set_cons_zero, List.set_cons_succ, i64_w, i32_w]
            rfl
          refine take_ (i := 11) (N := some 112) (v := ?_) (a' := ?_) #[true, true, true, true, true, true, true, true, true, true, true, true, true, false, true, false, false, false, false, false] rfl rfl (by kernel_rfl) (fun _ _ _ h => h) (Or.inl ⟨by rfl, ?_⟩) hHeld ?_ ?_
          rotate_left
          · rintro w' ⟨s0, s1, s2, s3⟩
            refine Eq.trans (exec_load_at 38 _ (by rfl) ⟨(ad.add (k * 5)).block, (ad.add (k * 5)).off + 2, none⟩ (by rfl) [.int .i64 s.x, .int .i64 s.y] _ Try.underlying38 rfl (by kernel_rfl) s2) ?_
            with_reducible rfl
          rotate_left
          · simp only [Act.put, List.setIfInBounds_toArray, List.set_cons_zero, List.set_cons_succ, i64_w, i32_w]
            rfl
          refine take_ (i := 13) (N := some 114) (v := ?_) (a' := ?_) #[true, true, true, true, true, true, true, true, true, true, true, true, true, true, true, false, false, false, false, false] rfl rfl (by kernel_rfl) (fun _ _ _ h => h) (Or.inl ⟨by rfl, ?_⟩) hHeld ?_ ?_
          rotate_left
          · rintro w' ⟨s0, s1, s2, s3⟩
            go_simp
            with_reducible rfl
          rotate_left
          · simp only [Act.put, List.setIfInBounds_toArray, List.set_cons_zero, List.set_cons_succ, i64_w, i32_w]
            rfl
          refine pure_ (i := 15) (N := some 116) (v := ?_) (a' := ?_) #[true, true, true, true, true, true, true, true, true, true, true, true, true, true, true, true, false, false, false, false] rfl rfl (by kernel_rfl) (fun _ _ _ h => h) (Or.inl ⟨by rfl, ?_⟩) ?_ ?_
          rotate_left
          · intro w'
            go_simp
            with_reducible rfl
          rotate_left
          · simp only [Act.put, List.setIfInBounds_toArray, List.set_cons_zero, List.set_cons_succ, i64_w, i32_w]
            rfl
          refine pure_ (i := 16) (N := some 117) (v := ?_) (a' := ?_) #[true, true, true, true, true, true, true, true, true, true, true, true, true, true, true, true, true, false, false, false] rfl rfl (by kernel_rfl) (fun _ _ _ h => h) (Or.inl ⟨by rfl, ?_⟩) ?_ ?_
          rotate_left
          · intro w'
            go_simp
            with_reducible rfl
          rotate_left
          · simp only [Act.put, List.setIfInBounds_toArray, List.set_cons_zero, List.set_cons_succ, i64_w, i32_w]
            rfl
          refine take_ (i := 17) (N := some 118) (v := ?_) (a' := ?_) #[true, true, true, true, true, true, true, true, true, true, true, true, true, true, true, true, true, true, false, false] rfl rfl (by kernel_rfl) (fun _ _ _ h => h) (Or.inl ⟨by rfl, ?_⟩) hHeld ?_ ?_
          rotate_left
          · rintro w' ⟨s0, s1, s2, s3⟩
            go_simp
            with_reducible rfl
          rotate_left
          · simp only [Act.put, List.setIfInBounds_toArray, List.set_cons_zero, List.set_cons_succ, i64_w, i32_w]
            rfl
          refine one_ (i := 18) (N := some 119) #[true, true, true, true, true, true, true, true, true, true, true, true, true, true, true, true, true, true, true, false] rfl rfl (by kernel_rfl) (by decide) (fun K hK => ?_)
          refine goes_ Try.func20 (by kernel_rfl) rfl _ (by rfl) rfl rfl (by simp only [List.map_toArray, List.map_cons, List.map_nil]; rfl) ?_
          refine (of_calls s.x s.y s.hd _).mono ?_
          rintro e w8 ⟨p1, q1, hp1, hq1, rfl, hb1⟩
          refine ⟨_, rfl, ?_⟩
          have hE := mix_self t hPN HP0.out (r := ⟨p1, q1, angF (Go.bits .and .i64 s.hd 255)⟩) ⟨hp1, hq1, Fe.refl _⟩
          have e_x := fun w => eq_float_of (P := Try.prog) w 9998 22 Try.underlying22 _ _ hE.x
          have e_y := fun w => eq_float_of (P := Try.prog) w 9998 22 Try.underlying22 _ _ hE.y
          have e_a := fun w => eq_float_of (P := Try.prog) w 9998 22 Try.underlying22 _ _ hE.a
          clear hE hp1 hq1
          have hBq := below_step (below_drew hBq) hb1
          refine hK.out _ _ ⟨pw_cell_below hb1 (hHeld.1), (hHeld.2.1).below hb1, (hHeld.2.2.1).below hb1, pw_cell_below hb1 (hHeld.2.2.2)⟩ (fun hHeld => ?_)
          clear hK K
          refine norm_ (a' := ?_) ?_ ?_
          rotate_left
          · show Act.put _ (some 119) _ = _
            simp only [Act.put, List.setIfInBounds_toArray, List.set_cons_zero, List.set_cons_succ, i64_w, i32_w]
            rfl
          refine pure_ (i := 19) (N := some 120) (v := ?_) (a' := ?_) #[true, true, true, true, true, true, true, true, true, true, true, true, true, true, true, true, true, true, true, true] rfl rfl (by kernel_rfl) (fun _ _ _ h => h) (Or.inl ⟨by rfl, ?_⟩) ?_ ?_
          rotate_left
          · intro w'
            go_simp
            with_reducible rfl
          rotate_left
          · simp only [Act.put, List.setIfInBounds_toArray, List.set_cons_zero, List.set_cons_succ, i64_w, i32_w]
            rfl
          refine done_ (by kernel_rfl) ?_

          clear e_x e_y e_a hk5 hk6 hk7 hk8 hk9
          go_wp2
          go_roundw
          case rel => exact ⟨k + 1, by omega, by go_num, ⟨hBq⟩⟩
          case measure => simp [intOf]; omega
        · obtain rfl : an = k := by omega
          have hS := hS.below hBq
          have Xg2 := blk_below Xg2 hBq
          have Xg9 := blk_below Xg9 hBq
          have cg2_15 : wr.cell? ⟨g2, 15, none⟩ = some (.slice aA an ac) := (blk_cell Xg2 15).trans rfl
          have hB := below_step hB hBq
          clear hP hBq
          go_wp2_with (first
            | ((with_reducible refine gate_dst (N := 121) rfl ?_); refine wpList_load_at rfl 47 (.tmp 2) rfl ⟨g2, 0, none⟩ rfl [.int .u64 atk, .int .i64 apl, .string anm, .int .i64 au, .int .i64 av, .int .i64 avx, .int .i64 avy, .int .i64 ahd, .int .i64 ahe, .int .i64 aen, .int .i64 aam, .int .i64 aco, .int .i64 awt, .int .i64 asp, .int .i64 asc, .slice aA an ac] _ Try.underlying47 rfl (by kernel_rfl) (At.of_blk Xg2) ?_)
            | ((with_reducible refine gate_dst (N := 122) rfl ?_); refine wpList_load_at rfl 47 (.tmp 9) rfl ⟨g9, 0, none⟩ rfl [.int .u64 0, .int .i64 (wrap64 (apl + 1)), .string anm, .int .i64 au, .int .i64 av, .int .i64 avx, .int .i64 avy, .int .i64 ahd, .int .i64 ahe, .int .i64 aen, .int .i64 aam, .int .i64 aco, .int .i64 awt, .int .i64 asp, .int .i64 asc, .slice none 0 0] _ Try.underlying47 rfl (by kernel_rfl) (At.of_blk Xg9) ?_)
            | ((with_reducible refine gate_dst (N := 124) rfl ?_); (with_reducible refine gate_callee (f := 26) rfl ?_); refine goesL_ _ rfl rfl Try.func26 (by kernel_rfl) rfl _ rfl (by simp only [List.map_toArray, List.map_cons, List.map_nil]; rfl) ?_; refine (apart_calls atk apl au av avx avy ahd ahe aen aam aco awt asp asc anm aA an ac 0 (wrap64 (apl + 1)) au av avx avy ahd ahe aen aam aco awt asp asc anm none 0 0 t _ ss [] hS (SRow.nil _ _) hn (by omega) (wrap_ne apl hU.2.2) (.inr rfl)).mono ?_; rintro e w5 ⟨A5, c5, rfl, hb⟩; refine ⟨_, rfl, ?_⟩; have hB := below_step hB hb; have hS := hS.below hb; have Xg2 := blk_below Xg2 hb; have Xg9 := blk_below Xg9 hb; clear hb)
            | ((with_reducible refine gate_dst (N := 128) rfl ?_); (try (refine gate_guard (by rfl) ?_; dsimp only)); refine wpList_load_at rfl 47 (.tmp 9) rfl ⟨g9, 0, none⟩ rfl [.int .u64 0, .int .i64 (wrap64 (apl + 1)), .string anm, .int .i64 au, .int .i64 av, .int .i64 avx, .int .i64 avy, .int .i64 ahd, .int .i64 ahe, .int .i64 aen, .int .i64 aam, .int .i64 aco, .int .i64 awt, .int .i64 asp, .int .i64 asc, .slice none 0 0] _ Try.underlying47 rfl (by kernel_rfl) (At.of_blk Xg9) ?_)
            | ((with_reducible refine gate_dst (N := 129) rfl ?_); (try (refine gate_guard (by rfl) ?_; dsimp only)); refine wpList_load_at rfl 47 (.tmp 2) rfl ⟨g2, 0, none⟩ rfl [.int .u64 atk, .int .i64 apl, .string anm, .int .i64 au, .int .i64 av, .int .i64 avx, .int .i64 avy, .int .i64 ahd, .int .i64 ahe, .int .i64 aen, .int .i64 aam, .int .i64 aco, .int .i64 awt, .int .i64 asp, .int .i64 asc, .slice aA an ac] _ Try.underlying47 rfl (by kernel_rfl) (At.of_blk Xg2) ?_)
            | ((with_reducible refine gate_dst (N := 131) rfl ?_); (with_reducible refine gate_callee (f := 26) rfl ?_); (try (refine gate_guard (by rfl) ?_; dsimp only)); refine goesL_ _ rfl rfl Try.func26 (by kernel_rfl) rfl _ rfl (by simp only [List.map_toArray, List.map_cons, List.map_nil]; rfl) ?_; refine (apart_calls 0 (wrap64 (apl + 1)) au av avx avy ahd ahe aen aam aco awt asp asc anm none 0 0 atk apl au av avx avy ahd ahe aen aam aco awt asp asc anm aA an ac t _ [] ss (SRow.nil _ _) hS (by omega) (by omega) (wrap_ne apl hU.2.2).symm (.inl rfl)).mono ?_; rintro e w5 ⟨A6, c6, rfl, hb⟩; refine ⟨_, rfl, ?_⟩; have hB := below_step hB hb; clear hb))
          go_ret
          exact ⟨rfl, hB⟩
set_option maxHeartbeats 8000000 in
set_option maxRecDepth 100000 in
theorem self_0 (atk apl au av avx avy ahd ahe aen aam aco awt asp asc : Int) (anm : ByteArray) (aA : Option Addr) (an ac : Nat) (t : Nat) (w : World) (ss : List S5) (hS : SRow w aA an ss) (hBd : Bnds ss) (hU : I64 au ∧ I64 av ∧ I64 apl) (hn : an * 40 ≤ 140737488351232) (hw : ¬ awt ≤ 0) : Calls Try.prog 8 #[.agg #[.int .u64 atk, .int .i64 apl, .string anm, .int .i64 au, .int .i64 av, .int .i64 avx, .int .i64 avy, .int .i64 ahd, .int .i64 ahe, .int .i64 aen, .int .i64 aam, .int .i64 aco, .int .i64 awt, .int .i64 asp, .int .i64 asc, .slice aA an ac], .float .f32 t] w fun e w' => e = .returned (.bool true) ∧ Below w.heap.size w w' := by
  have hw2 : 0 < awt := by omega
  have hu47 := Try.underlying47
  have hu40 := Try.underlying40
  have hu38 := Try.underlying38
  have hu55 := Try.underlying55
  have hu45 := Try.underlying45
  have hu51 := Try.underlying51
  have hu24 := Try.underlying24
  have hu22 := Try.underlying22
  have hu3 := Try.underlying3
  have hu2 := Try.underlying2
  have hnn : (an : Int) ≤ 140737488351232 := by omega
  go_enter Try.func8, Try.ntmps8
  go_wp2_with (first
        | ((try (refine gate_guard (by rfl) ?_; dsimp only)); refine wpList_fl _ rfl _ _ _ _ _ rfl (by decide) _ _ _ _ rfl rfl (by first | assumption | exact Fe.refl _) (by first | assumption | exact Fe.refl _) ?_; intro z nd hz)
        | ((try (refine gate_guard (by rfl) ?_; dsimp only)); refine wpList_flc _ rfl _ _ _ _ _ rfl (by decide) _ _ _ _ rfl rfl (by first | assumption | exact Fe.refl _) (by first | assumption | exact Fe.refl _) ?_)
        | ((with_reducible refine gate_dst (N := 2) rfl ?_); refine box_event ?hg (N := 2) ?hd (cs := #[.int .u64 atk, .int .i64 apl, .string anm, .int .i64 au, .int .i64 av, .int .i64 avx, .int .i64 avy, .int .i64 ahd, .int .i64 ahe, .int .i64 aen, .int .i64 aam, .int .i64 aco, .int .i64 awt, .int .i64 asp, .int .i64 asc, .slice aA an ac]) (t := 47) ?hr ?_; (case hd => rfl); (case hg => rfl); (case hr => first | (go_simp; done) | (go_simp; rfl)); intro g2 eg2 w1 Xg2 Bg2; have hB := Bg2; have hS := hS.below Bg2; clear eg2 Bg2)
        | (go_at_call 10; refine (alive_calls _).mono ?_; rintro e w3 ⟨rfl, hb⟩; have Xg2 := blk_below Xg2 hb; have hB := below_step hB hb; have hS := hS.below hb; clear hb; have cg2_15 : w3.cell? ⟨g2, 15, none⟩ = some (.slice aA an ac) := (blk_cell Xg2 15).trans rfl))
  go_loopw [5] (fun i wr => ∃ k : Nat, k ≤ an ∧ i = .int .i64 k ∧ Aside0 (∀ a, a < k → ∀ b, b < a → (ss.getD a default).meets (ss.getD b default) = false) ∧ Aside0 (Drawn0 w3 wr)) (fun i _ => an - (intOf i).toNat)
  case atStart => exact ⟨0, Nat.zero_le _, rfl, ⟨fun a ha => absurd ha (Nat.not_lt_zero a)⟩, ⟨Drawn0.refl _⟩⟩
  case round =>
    clear cg2_15
    obtain ⟨i, hi, rfl, HL, HD⟩ := hrel
    have hD := HD.out
    clear HD
    obtain ⟨wi, rfl⟩ : ∃ wi, wi = wr := ⟨_, rfl⟩
    have cg2_15 : wi.cell? ⟨g2, 15, none⟩ = some (.slice aA an ac) := dcell hD ((blk_cell Xg2 15).trans rfl)
    by_cases hlt : i < an
    · have hi2 : (i : Int) < (an : Int) := Int.ofNat_lt.mpr hlt
      have hi0 : (0 : Int) ≤ i := Int.natCast_nonneg i
      go_wp2_with fail
      go_loopw [6] (fun j wr => ∃ k : Nat, k ≤ i ∧ j = .int .i64 k ∧ Aside0 (∀ b, b < k → (ss.getD i default).meets (ss.getD b default) = false) ∧ Aside0 (Drawn0 w3 wr)) (fun j _ => i - (intOf j).toNat)
      case atStart => exact ⟨0, Nat.zero_le _, rfl, ⟨fun a ha => absurd ha (Nat.not_lt_zero a)⟩, ⟨hD⟩⟩
      case round =>
        clear hD cg2_15
        obtain ⟨k, hk, rfl, HK, HD⟩ := hrel
        have hD := HD.out
        clear HD
        by_cases hki : k < i
        · have hk2 : (k : Int) < (i : Int) := Int.ofNat_lt.mpr hki
          have hk0 : (0 : Int) ≤ k := Int.natCast_nonneg k
          have hk3 : (k : Int) < (an : Int) := by omega
          obtain ⟨ad, eA, hsA⟩ := (hS.drawn hD).at_ i hlt
          subst eA
          obtain ⟨ad2, eA, hrA⟩ := (hS.drawn hD).at_ k (by omega)
          injection eA with eA
          subst eA
          have cg2_15 : wr.cell? ⟨g2, 15, none⟩ = some (.slice (some ad) an ac) := dcell hD ((blk_cell Xg2 15).trans rfl)
          obtain ⟨s, hs⟩ : ∃ s, ss.getD i default = s := ⟨_, rfl⟩
          obtain ⟨r, hr⟩ : ∃ r, ss.getD k default = r := ⟨_, rfl⟩
          rw [hs] at hsA
          rw [hr] at hrA
          have hsA := hsA.drew
          have hrA := hrA.drew
          have HSR := Aside0.mk (And.intro hs hr)
          clear hs hr
          by_cases h4 : s.ki = r.ki
          · have e4 : (s.ki == r.ki) = true := beq_iff_eq.2 h4
            by_cases h5 : s.id = r.id
            · have e5 : (s.id == r.id) = true := beq_iff_eq.2 h5
              clear h4 h5
              go_wp2_with fail
              refine start_ (n := 28) (S := fun w' => w'.cell? ⟨g2, 15, none⟩ = some (.slice (some ad) an ac) ∧ w'.cell? (ad.add (i * 5)) = some (.int .i64 s.ki) ∧ w'.cell? ⟨(ad.add (i * 5)).block, (ad.add (i * 5)).off + 1, none⟩ = some (.int .i64 s.id) ∧ w'.cell? (ad.add (k * 5)) = some (.int .i64 r.ki) ∧ w'.cell? ⟨(ad.add (k * 5)).block, (ad.add (k * 5)).off + 1, none⟩ = some (.int .i64 r.id)) (ds := []) #[false, false, false, false, false, false, false, false, false, false, false, false, false, false, false, false, false, false, false, false, false, false, false, false, false, false, false, false] (by kernel_rfl) rfl rfl ⟨cg2_15, (hsA.cell0 rfl), (hsA.cellp 1 (by decide) rfl), (hrA.cell0 rfl), (hrA.cellp 1 (by decide) rfl)⟩ (fun hHeld => ?_)
              refine pure_ (i := 0) (N := some 25) (v := ?_) (a' := ?_) #[true, false, false, false, false, false, false, false, false, false, false, false, false, false, false, false, false, false, false, false, false, false, false, false, false, false, false, false] rfl rfl (by kernel_rfl) (fun _ _ _ h => h) (Or.inl ⟨by rfl, ?_⟩) ?_ ?_
              rotate_left
              · intro w'
                go_simp
                with_reducible rfl
              rotate_left
              · simp only [Act.put, List.setIfInBounds_toArray, List.set_cons_zero, List.set_cons_succ, i64_w, i32_w]
                rfl
              refine pure_ (i := 2) (N := some 27) (v := ?_) (a' := ?_) #[true, false, true, false, false, false, false, false, false, false, false, false, false, false, false, false, false, false, false, false, false, false, false, false, false, false, false, false] rfl rfl (by kernel_rfl) (fun _ _ _ h => h) (Or.inl ⟨by rfl, ?_⟩) ?_ ?_
              rotate_left
              · intro w'
                go_simp
                with_reducible rfl
              rotate_left
              · simp only [Act.put, List.setIfInBounds_toArray, List.set_cons_zero, List.set_cons_succ, i64_w, i32_w]
                rfl
              refine pure_ (i := 6) (N := some 31) (v := ?_) (a' := ?_) #[true, false, true, false, false, false, true, false, false, false, false, false, false, false, false, false, false, false, false, false, false, false, false, false, false, false, false, false] rfl rfl (by kernel_rfl) (fun _ _ _ h => h) (Or.inl ⟨by rfl, ?_⟩) ?_ ?_
              rotate_left
              · intro w'
                go_simp
                with_reducible rfl
              rotate_left
              · simp only [Act.put, List.setIfInBounds_toArray, List.set_cons_zero, List.set_cons_succ, i64_w, i32_w]
                rfl
              refine pure_ (i := 8) (N := some 33) (v := ?_) (a' := ?_) #[true, false, true, false, false, false, true, false, true, false, false, false, false, false, false, false, false, false, false, false, false, false, false, false, false, false, false, false] rfl rfl (by kernel_rfl) (fun _ _ _ h => h) (Or.inl ⟨by rfl, ?_⟩) ?_ ?_
              rotate_left
              · intro w'
                go_simp
                with_reducible rfl
              rotate_left
              · simp only [Act.put, List.setIfInBounds_toArray, List.set_cons_zero, List.set_cons_succ, i64_w, i32_w]
                rfl
              refine take_ (i := 1) (N := some 26) (v := ?_) (a' := ?_) #[true, true, true, false, false, false, true, false, true, false, false, false, false, false, false, false, false, false, false, false, false, false, false, false, false, false, false, false] rfl rfl (by kernel_rfl) (fun _ _ _ h => h) (Or.inl ⟨by rfl, ?_⟩) hHeld ?_ ?_
              rotate_left
              · rintro w' ⟨s0, s1, s2, s3, s4⟩
                go_simp
                with_reducible rfl
              rotate_left
              · simp only [Act.put, List.setIfInBounds_toArray, List.set_cons_zero, List.set_cons_succ, i64_w, i32_w]
                rfl
              refine pure_ (i := 3) (N := some 28) (v := ?_) (a' := ?_) #[true, true, true, true, false, false, true, false, true, false, false, false, false, false, false, false, false, false, false, false, false, false, false, false, false, false, false, false] rfl rfl (by kernel_rfl) (fun _ _ _ h => h) (Or.inl ⟨by rfl, ?_⟩) ?_ ?_
              rotate_left
              · intro w'
                go_simp
                with_reducible rfl
              rotate_left
              · simp only [Act.put, List.setIfInBounds_toArray, List.set_cons_zero, List.set_cons_succ, i64_w, i32_w]
                rfl
              refine pure_ (i := 4) (N := some 29) (v := ?_) (a' := ?_) #[true, true, true, true, true, false, true, false, true, false, false, false, false, false, false, false, false, false, false, false, false, false, false, false, false, false, false, false] rfl rfl (by kernel_rfl) (fun _ _ _ h => h) (Or.inl ⟨by rfl, ?_⟩) ?_ ?_
              rotate_left
              · intro w'
                go_simp
                with_reducible rfl
              rotate_left
              · simp only [Act.put, List.setIfInBounds_toArray, List.set_cons_zero, List.set_cons_succ, i64_w, i32_w]
                rfl
              refine take_ (i := 5) (N := some 30) (v := ?_) (a' := ?_) #[true, true, true, true, true, true, true, false, true, false, false, false, false, false, false, false, false, false, false, false, false, false, false, false, false, false, false, false] rfl rfl (by kernel_rfl) (fun _ _ _ h => h) (Or.inl ⟨by rfl, ?_⟩) hHeld ?_ ?_
              rotate_left
              · rintro w' ⟨s0, s1, s2, s3, s4⟩
                go_simp
                with_reducible rfl
              rotate_left
              · simp only [Act.put, List.setIfInBounds_toArray, List.set_cons_zero, List.set_cons_succ, i64_w, i32_w]
                rfl
              refine take_ (i := 7) (N := some 32) (v := ?_) (a' := ?_) #[true, true, true, true, true, true, true, true, true, false, false, false, false, false, false, false, false, false, false, false, false, false, false, false, false, false, false, false] rfl rfl (by kernel_rfl) (fun _ _ _ h => h) (Or.inl ⟨by rfl, ?_⟩) hHeld ?_ ?_
              rotate_left
              · rintro w' ⟨s0, s1, s2, s3, s4⟩
                go_simp
                with_reducible rfl
              rotate_left
              · simp only [Act.put, List.setIfInBounds_toArray, List.set_cons_zero, List.set_cons_succ, i64_w, i32_w]
                rfl
              refine pure_ (i := 9) (N := some 34) (v := ?_) (a' := ?_) #[true, true, true, true, true, true, true, true, true, true, false, false, false, false, false, false, false, false, false, false, false, false, false, false, false, false, false, false] rfl rfl (by kernel_rfl) (fun _ _ _ h => h) (Or.inl ⟨by rfl, ?_⟩) ?_ ?_
              rotate_left
              · intro w'
                go_simp
                with_reducible rfl
              rotate_left
              · simp only [Act.put, List.setIfInBounds_toArray, List.set_cons_zero, List.set_cons_succ, i64_w, i32_w]
                rfl
              refine pure_ (i := 10) (N := some 35) (v := ?_) (a' := ?_) #[true, true, true, true, true, true, true, true, true, true, true, false, false, false, false, false, false, false, false, false, false, false, false, false, false, false, false, false] rfl rfl (by kernel_rfl) (fun _ _ _ h => h) (Or.inl ⟨by rfl, ?_⟩) ?_ ?_
              rotate_left
              · intro w'
                go_simp
                with_reducible rfl
              rotate_left
              · simp only [Act.put, List.setIfInBounds_toArray, List.set_cons_zero, List.set_cons_succ, i64_w, i32_w]
                rfl
              refine take_ (i := 11) (N := some 36) (v := ?_) (a' := ?_) #[true, true, true, true, true, true, true, true, true, true, true, true, false, false, false, false, false, false, false, false, false, false, false, false, false, false, false, false] rfl rfl (by kernel_rfl) (fun _ _ _ h => h) (Or.inl ⟨by rfl, ?_⟩) hHeld ?_ ?_
              rotate_left
              · rintro w' ⟨s0, s1, s2, s3, s4⟩
                go_simp
                with_reducible rfl
              rotate_left
              · simp only [Act.put, List.setIfInBounds_toArray, List.set_cons_zero, List.set_cons_succ, i64_w, i32_w]
                rfl
              refine pure_ (i := 12) (N := some 37) (v := ?_) (a' := ?_) #[true, true, true, true, true, true, true, true, true, true, true, true, true, false, false, false, false, false, false, false, false, false, false, false, false, false, false, false] rfl rfl (by kernel_rfl) (fun _ _ _ h => h) (Or.inl ⟨by rfl, ?_⟩) ?_ ?_
              rotate_left
              · intro w'
                go_simp
                with_reducible rfl
              rotate_left
              · simp only [Act.put, List.setIfInBounds_toArray, List.set_cons_zero, List.set_cons_succ, i64_w, i32_w]
                rfl
              refine pure_ (i := 13) (N := some 38) (v := ?_) (a' := ?_) #[true, true, true, true, true, true, true, true, true, true, true, true, true, true, false, false, false, false, false, false, false, false, false, false, false, false, false, false] rfl rfl (by kernel_rfl) (fun _ _ _ h => h) (Or.inl ⟨by rfl, ?_⟩) ?_ ?_
              rotate_left
              · intro w'
                go_simp
                with_reducible rfl
              rotate_left
              · simp only [Act.put, List.setIfInBounds_toArray, List.set_cons_zero, List.set_cons_succ, i64_w, i32_w]
                rfl
              refine pure_ (i := 14) (N := some 39) (v := ?_) (a' := ?_) #[true, true, true, true, true, true, true, true, true, true, true, true, true, true, true, false, false, false, false, false, false, false, false, false, false, false, false, false] rfl rfl (by kernel_rfl) (fun _ _ _ h => h) (Or.inl ⟨by rfl, ?_⟩) ?_ ?_
              rotate_left
              · intro w'
                go_simp
                with_reducible rfl
              rotate_left
              · simp only [Act.put, List.setIfInBounds_toArray, List.set_cons_zero, List.set_cons_succ, i64_w, i32_w]
                rfl
              refine pure_ (i := 16) (N := some 41) (v := ?_) (a' := ?_) #[true, true, true, true, true, true, true, true, true, true, true, true, true, true, true, false, true, false, false, false, false, false, false, false, false, false, false, false] rfl rfl (by kernel_rfl) (fun _ _ _ h => h) (Or.inl ⟨by rfl, ?_⟩) ?_ ?_
              rotate_left
              · intro w'
                go_simp
                with_reducible rfl
              rotate_left
              · simp only [Act.put, List.setIfInBounds_toArray, List.set_cons_zero, List.set_cons_succ, i64_w, i32_w]
                rfl
              refine pure_ (i := 20) (N := some 45) (v := ?_) (a' := ?_) #[true, true, true, true, true, true, true, true, true, true, true, true, true, true, true, false, true, false, false, false, true, false, false, false, false, false, false, false] rfl rfl (by kernel_rfl) (fun _ _ _ h => h) (Or.inl ⟨by rfl, ?_⟩) ?_ ?_
              rotate_left
              · intro w'
                go_simp
                with_reducible rfl
              rotate_left
              · simp only [Act.put, List.setIfInBounds_toArray, List.set_cons_zero, List.set_cons_succ, i64_w, i32_w]
                rfl
              refine pure_ (i := 22) (N := some 47) (v := ?_) (a' := ?_) #[true, true, true, true, true, true, true, true, true, true, true, true, true, true, true, false, true, false, false, false, true, false, true, false, false, false, false, false] rfl rfl (by kernel_rfl) (fun _ _ _ h => h) (Or.inl ⟨by rfl, ?_⟩) ?_ ?_
              rotate_left
              · intro w'
                go_simp
                with_reducible rfl
              rotate_left
              · simp only [Act.put, List.setIfInBounds_toArray, List.set_cons_zero, List.set_cons_succ, i64_w, i32_w]
                rfl
              refine take_ (i := 15) (N := some 40) (v := ?_) (a' := ?_) #[true, true, true, true, true, true, true, true, true, true, true, true, true, true, true, true, true, false, false, false, true, false, true, false, false, false, false, false] rfl rfl (by kernel_rfl) (fun _ _ _ h => h) (Or.inl ⟨by rfl, ?_⟩) hHeld ?_ ?_
              rotate_left
              · rintro w' ⟨s0, s1, s2, s3, s4⟩
                go_simp
                with_reducible rfl
              rotate_left
              · simp only [Act.put, List.setIfInBounds_toArray, List.set_cons_zero, List.set_cons_succ, i64_w, i32_w]
                rfl
              refine pure_ (i := 17) (N := some 42) (v := ?_) (a' := ?_) #[true, true, true, true, true, true, true, true, true, true, true, true, true, true, true, true, true, true, false, false, true, false, true, false, false, false, false, false] rfl rfl (by kernel_rfl) (fun _ _ _ h => h) (Or.inl ⟨by rfl, ?_⟩) ?_ ?_
              rotate_left
              · intro w'
                go_simp
                with_reducible rfl
              rotate_left
              · simp only [Act.put, List.setIfInBounds_toArray, List.set_cons_zero, List.set_cons_succ, i64_w, i32_w]
                rfl
              refine pure_ (i := 18) (N := some 43) (v := ?_) (a' := ?_) #[true, true, true, true, true, true, true, true, true, true, true, true, true, true, true, true, true, true, true, false, true, false, true, false, false, false, false, false] rfl rfl (by kernel_rfl) (fun _ _ _ h => h) (Or.inl ⟨by rfl, ?_⟩) ?_ ?_
              rotate_left
              · intro w'
                go_simp
                with_reducible rfl
              rotate_left
              · simp only [Act.put, List.setIfInBounds_toArray, List.set_cons_zero, List.set_cons_succ, i64_w, i32_w]
                rfl
              refine take_ (i := 19) (N := some 44) (v := ?_) (a' := ?_) #[true, true, true, true, true, true, true, true, true, true, true, true, true, true, true, true, true, true, true, true, true, false, true, false, false, false, false, false] rfl rfl (by kernel_rfl) (fun _ _ _ h => h) (Or.inl ⟨by rfl, ?_⟩) hHeld ?_ ?_
              rotate_left
              · rintro w' ⟨s0, s1, s2, s3, s4⟩
                go_simp
                with_reducible rfl
              rotate_left
              · simp only [Act.put, List.setIfInBounds_toArray, List.set_cons_zero, List.set_cons_succ, i64_w, i32_w]
                rfl
              refine take_ (i := 21) (N := some 46) (v := ?_) (a' := ?_) #[true, true, true, true, true, true, true, true, true, true, true, true, true, true, true, true, true, true, true, true, true, true, true, false, false, false, false, false] rfl rfl (by kernel_rfl) (fun _ _ _ h => h) (Or.inl ⟨by rfl, ?_⟩) hHeld ?_ ?_
              rotate_left
              · rintro w' ⟨s0, s1, s2, s3, s4⟩
                go_simp
                with_reducible rfl
              rotate_left
              · simp only [Act.put, List.setIfInBounds_toArray, List.set_cons_zero, List.set_cons_succ, i64_w, i32_w]
                rfl
              refine pure_ (i := 23) (N := some 48) (v := ?_) (a' := ?_) #[true, true, true, true, true, true, true, true, true, true, true, true, true, true, true, true, true, true, true, true, true, true, true, true, false, false, false, false] rfl rfl (by kernel_rfl) (fun _ _ _ h => h) (Or.inl ⟨by rfl, ?_⟩) ?_ ?_
              rotate_left
              · intro w'
                go_simp
                with_reducible rfl
              rotate_left
              · simp only [Act.put, List.setIfInBounds_toArray, List.set_cons_zero, List.set_cons_succ, i64_w, i32_w]
                rfl
              refine pure_ (i := 24) (N := some 49) (v := ?_) (a' := ?_) #[true, true, true, true, true, true, true, true, true, true, true, true, true, true, true, true, true, true, true, true, true, true, true, true, true, false, false, false] rfl rfl (by kernel_rfl) (fun _ _ _ h => h) (Or.inl ⟨by rfl, ?_⟩) ?_ ?_
              rotate_left
              · intro w'
                go_simp
                with_reducible rfl
              rotate_left
              · simp only [Act.put, List.setIfInBounds_toArray, List.set_cons_zero, List.set_cons_succ, i64_w, i32_w]
                rfl
              refine take_ (i := 25) (N := some 50) (v := ?_) (a' := ?_) #[true, true, true, true, true, true, true, true, true, true, true, true, true, true, true, true, true, true, true, true, true, true, true, true, true, true, false, false] rfl rfl (by kernel_rfl) (fun _ _ _ h => h) (Or.inl ⟨by rfl, ?_⟩) hHeld ?_ ?_
              rotate_left
              · rintro w' ⟨s0, s1, s2, s3, s4⟩
                go_simp
                with_reducible rfl
              rotate_left
              · simp only [Act.put, List.setIfInBounds_toArray, List.set_cons_zero, List.set_cons_succ, i64_w, i32_w]
                rfl
              refine pure_ (i := 26) (N := some 51) (v := ?_) (a' := ?_) #[true, true, true, true, true, true, true, true, true, true, true, true, true, true, true, true, true, true, true, true, true, true, true, true, true, true, true, false] rfl rfl (by kernel_rfl) (fun _ _ _ h => h) (Or.inl ⟨by rfl, ?_⟩) ?_ ?_
              rotate_left
              · intro w'
                go_simp
                with_reducible rfl
              rotate_left
              · simp only [Act.put, List.setIfInBounds_toArray, List.set_cons_zero, List.set_cons_succ, i64_w, i32_w]
                rfl
              refine pure_ (i := 27) (N := some 52) (v := ?_) (a' := ?_) #[true, true, true, true, true, true, true, true, true, true, true, true, true, true, true, true, true, true, true, true, true, true, true, true, true, true, true, true] rfl rfl (by kernel_rfl) (fun _ _ _ h => h) (Or.inl ⟨by rfl, ?_⟩) ?_ ?_
              rotate_left
              · intro w'
                go_simp
                with_reducible rfl
              rotate_left
              · simp only [Act.put, List.setIfInBounds_toArray, List.set_cons_zero, List.set_cons_succ, i64_w, i32_w]
                rfl
              refine done_ (by kernel_rfl) ?_

              go_wp2
              go_ret
              exact ⟨rfl, dbelow (drawn_then hD) hB⟩
            · have e5 : (s.id == r.id) = false := beq_eq_false_iff_ne.2 h5
              have HA2 := Aside0.mk (show (ss.getD i default).meets (ss.getD k default) = false by rw [HSR.out.1, HSR.out.2]; exact meets_no2 h5)
              clear h4 h5
              go_wp2_with fail
              refine start_ (n := 28) (S := fun w' => w'.cell? ⟨g2, 15, none⟩ = some (.slice (some ad) an ac) ∧ w'.cell? (ad.add (i * 5)) = some (.int .i64 s.ki) ∧ w'.cell? ⟨(ad.add (i * 5)).block, (ad.add (i * 5)).off + 1, none⟩ = some (.int .i64 s.id) ∧ w'.cell? (ad.add (k * 5)) = some (.int .i64 r.ki) ∧ w'.cell? ⟨(ad.add (k * 5)).block, (ad.add (k * 5)).off + 1, none⟩ = some (.int .i64 r.id)) (ds := []) #[false, false, false, false, false, false, false, false, false, false, false, false, false, false, false, false, false, false, false, false, false, false, false, false, false, false, false, false] (by kernel_rfl) rfl rfl ⟨cg2_15, (hsA.cell0 rfl), (hsA.cellp 1 (by decide) rfl), (hrA.cell0 rfl), (hrA.cellp 1 (by decide) rfl)⟩ (fun hHeld => ?_)
              refine pure_ (i := 0) (N := some 25) (v := ?_) (a' := ?_) #[true, false, false, false, false, false, false, false, false, false, false, false, false, false, false, false, false, false, false, false, false, false, false, false, false, false, false, false] rfl rfl (by kernel_rfl) (fun _ _ _ h => h) (Or.inl ⟨by rfl, ?_⟩) ?_ ?_
              rotate_left
              · intro w'
                go_simp
                with_reducible rfl
              rotate_left
              · simp only [Act.put, List.setIfInBounds_toArray, List.set_cons_zero, List.set_cons_succ, i64_w, i32_w]
                rfl
              refine pure_ (i := 2) (N := some 27) (v := ?_) (a' := ?_) #[true, false, true, false, false, false, false, false, false, false, false, false, false, false, false, false, false, false, false, false, false, false, false, false, false, false, false, false] rfl rfl (by kernel_rfl) (fun _ _ _ h => h) (Or.inl ⟨by rfl, ?_⟩) ?_ ?_
              rotate_left
              · intro w'
                go_simp
                with_reducible rfl
              rotate_left
              · simp only [Act.put, List.setIfInBounds_toArray, List.set_cons_zero, List.set_cons_succ, i64_w, i32_w]
                rfl
              refine pure_ (i := 6) (N := some 31) (v := ?_) (a' := ?_) #[true, false, true, false, false, false, true, false, false, false, false, false, false, false, false, false, false, false, false, false, false, false, false, false, false, false, false, false] rfl rfl (by kernel_rfl) (fun _ _ _ h => h) (Or.inl ⟨by rfl, ?_⟩) ?_ ?_
              rotate_left
              · intro w'
                go_simp
                with_reducible rfl
              rotate_left
              · simp only [Act.put, List.setIfInBounds_toArray, List.set_cons_zero, List.set_cons_succ, i64_w, i32_w]
                rfl
              refine pure_ (i := 8) (N := some 33) (v := ?_) (a' := ?_) #[true, false, true, false, false, false, true, false, true, false, false, false, false, false, false, false, false, false, false, false, false, false, false, false, false, false, false, false] rfl rfl (by kernel_rfl) (fun _ _ _ h => h) (Or.inl ⟨by rfl, ?_⟩) ?_ ?_
              rotate_left
              · intro w'
                go_simp
                with_reducible rfl
              rotate_left
              · simp only [Act.put, List.setIfInBounds_toArray, List.set_cons_zero, List.set_cons_succ, i64_w, i32_w]
                rfl
              refine take_ (i := 1) (N := some 26) (v := ?_) (a' := ?_) #[true, true, true, false, false, false, true, false, true, false, false, false, false, false, false, false, false, false, false, false, false, false, false, false, false, false, false, false] rfl rfl (by kernel_rfl) (fun _ _ _ h => h) (Or.inl ⟨by rfl, ?_⟩) hHeld ?_ ?_
              rotate_left
              · rintro w' ⟨s0, s1, s2, s3, s4⟩
                go_simp
                with_reducible rfl
              rotate_left
              · simp only [Act.put, List.setIfInBounds_toArray, List.set_cons_zero, List.set_cons_succ, i64_w, i32_w]
                rfl
              refine pure_ (i := 3) (N := some 28) (v := ?_) (a' := ?_) #[true, true, true, true, false, false, true, false, true, false, false, false, false, false, false, false, false, false, false, false, false, false, false, false, false, false, false, false] rfl rfl (by kernel_rfl) (fun _ _ _ h => h) (Or.inl ⟨by rfl, ?_⟩) ?_ ?_
              rotate_left
              · intro w'
                go_simp
                with_reducible rfl
              rotate_left
              · simp only [Act.put, List.setIfInBounds_toArray, List.set_cons_zero, List.set_cons_succ, i64_w, i32_w]
                rfl
              refine pure_ (i := 4) (N := some 29) (v := ?_) (a' := ?_) #[true, true, true, true, true, false, true, false, true, false, false, false, false, false, false, false, false, false, false, false, false, false, false, false, false, false, false, false] rfl rfl (by kernel_rfl) (fun _ _ _ h => h) (Or.inl ⟨by rfl, ?_⟩) ?_ ?_
              rotate_left
              · intro w'
                go_simp
                with_reducible rfl
              rotate_left
              · simp only [Act.put, List.setIfInBounds_toArray, List.set_cons_zero, List.set_cons_succ, i64_w, i32_w]
                rfl
              refine take_ (i := 5) (N := some 30) (v := ?_) (a' := ?_) #[true, true, true, true, true, true, true, false, true, false, false, false, false, false, false, false, false, false, false, false, false, false, false, false, false, false, false, false] rfl rfl (by kernel_rfl) (fun _ _ _ h => h) (Or.inl ⟨by rfl, ?_⟩) hHeld ?_ ?_
              rotate_left
              · rintro w' ⟨s0, s1, s2, s3, s4⟩
                go_simp
                with_reducible rfl
              rotate_left
              · simp only [Act.put, List.setIfInBounds_toArray, List.set_cons_zero, List.set_cons_succ, i64_w, i32_w]
                rfl
              refine take_ (i := 7) (N := some 32) (v := ?_) (a' := ?_) #[true, true, true, true, true, true, true, true, true, false, false, false, false, false, false, false, false, false, false, false, false, false, false, false, false, false, false, false] rfl rfl (by kernel_rfl) (fun _ _ _ h => h) (Or.inl ⟨by rfl, ?_⟩) hHeld ?_ ?_
              rotate_left
              · rintro w' ⟨s0, s1, s2, s3, s4⟩
                go_simp
                with_reducible rfl
              rotate_left
              · simp only [Act.put, List.setIfInBounds_toArray, List.set_cons_zero, List.set_cons_succ, i64_w, i32_w]
                rfl
              refine pure_ (i := 9) (N := some 34) (v := ?_) (a' := ?_) #[true, true, true, true, true, true, true, true, true, true, false, false, false, false, false, false, false, false, false, false, false, false, false, false, false, false, false, false] rfl rfl (by kernel_rfl) (fun _ _ _ h => h) (Or.inl ⟨by rfl, ?_⟩) ?_ ?_
              rotate_left
              · intro w'
                go_simp
                with_reducible rfl
              rotate_left
              · simp only [Act.put, List.setIfInBounds_toArray, List.set_cons_zero, List.set_cons_succ, i64_w, i32_w]
                rfl
              refine pure_ (i := 10) (N := some 35) (v := ?_) (a' := ?_) #[true, true, true, true, true, true, true, true, true, true, true, false, false, false, false, false, false, false, false, false, false, false, false, false, false, false, false, false] rfl rfl (by kernel_rfl) (fun _ _ _ h => h) (Or.inl ⟨by rfl, ?_⟩) ?_ ?_
              rotate_left
              · intro w'
                go_simp
                with_reducible rfl
              rotate_left
              · simp only [Act.put, List.setIfInBounds_toArray, List.set_cons_zero, List.set_cons_succ, i64_w, i32_w]
                rfl
              refine take_ (i := 11) (N := some 36) (v := ?_) (a' := ?_) #[true, true, true, true, true, true, true, true, true, true, true, true, false, false, false, false, false, false, false, false, false, false, false, false, false, false, false, false] rfl rfl (by kernel_rfl) (fun _ _ _ h => h) (Or.inl ⟨by rfl, ?_⟩) hHeld ?_ ?_
              rotate_left
              · rintro w' ⟨s0, s1, s2, s3, s4⟩
                go_simp
                with_reducible rfl
              rotate_left
              · simp only [Act.put, List.setIfInBounds_toArray, List.set_cons_zero, List.set_cons_succ, i64_w, i32_w]
                rfl
              refine pure_ (i := 12) (N := some 37) (v := ?_) (a' := ?_) #[true, true, true, true, true, true, true, true, true, true, true, true, true, false, false, false, false, false, false, false, false, false, false, false, false, false, false, false] rfl rfl (by kernel_rfl) (fun _ _ _ h => h) (Or.inl ⟨by rfl, ?_⟩) ?_ ?_
              rotate_left
              · intro w'
                go_simp
                with_reducible rfl
              rotate_left
              · simp only [Act.put, List.setIfInBounds_toArray, List.set_cons_zero, List.set_cons_succ, i64_w, i32_w]
                rfl
              refine pure_ (i := 13) (N := some 38) (v := ?_) (a' := ?_) #[true, true, true, true, true, true, true, true, true, true, true, true, true, true, false, false, false, false, false, false, false, false, false, false, false, false, false, false] rfl rfl (by kernel_rfl) (fun _ _ _ h => h) (Or.inl ⟨by rfl, ?_⟩) ?_ ?_
              rotate_left
              · intro w'
                go_simp
                with_reducible rfl
              rotate_left
              · simp only [Act.put, List.setIfInBounds_toArray, List.set_cons_zero, List.set_cons_succ, i64_w, i32_w]
                rfl
              refine pure_ (i := 14) (N := some 39) (v := ?_) (a' := ?_) #[true, true, true, true, true, true, true, true, true, true, true, true, true, true, true, false, false, false, false, false, false, false, false, false, false, false, false, false] rfl rfl (by kernel_rfl) (fun _ _ _ h => h) (Or.inl ⟨by rfl, ?_⟩) ?_ ?_
              rotate_left
              · intro w'
                go_simp
                with_reducible rfl
              rotate_left
              · simp only [Act.put, List.setIfInBounds_toArray, List.set_cons_zero, List.set_cons_succ, i64_w, i32_w]
                rfl
              refine pure_ (i := 16) (N := some 41) (v := ?_) (a' := ?_) #[true, true, true, true, true, true, true, true, true, true, true, true, true, true, true, false, true, false, false, false, false, false, false, false, false, false, false, false] rfl rfl (by kernel_rfl) (fun _ _ _ h => h) (Or.inl ⟨by rfl, ?_⟩) ?_ ?_
              rotate_left
              · intro w'
                go_simp
                with_reducible rfl
              rotate_left
              · simp only [Act.put, List.setIfInBounds_toArray, List.set_cons_zero, List.set_cons_succ, i64_w, i32_w]
                rfl
              refine pure_ (i := 20) (N := some 45) (v := ?_) (a' := ?_) #[true, true, true, true, true, true, true, true, true, true, true, true, true, true, true, false, true, false, false, false, true, false, false, false, false, false, false, false] rfl rfl (by kernel_rfl) (fun _ _ _ h => h) (Or.inl ⟨by rfl, ?_⟩) ?_ ?_
              rotate_left
              · intro w'
                go_simp
                with_reducible rfl
              rotate_left
              · simp only [Act.put, List.setIfInBounds_toArray, List.set_cons_zero, List.set_cons_succ, i64_w, i32_w]
                rfl
              refine pure_ (i := 22) (N := some 47) (v := ?_) (a' := ?_) #[true, true, true, true, true, true, true, true, true, true, true, true, true, true, true, false, true, false, false, false, true, false, true, false, false, false, false, false] rfl rfl (by kernel_rfl) (fun _ _ _ h => h) (Or.inl ⟨by rfl, ?_⟩) ?_ ?_
              rotate_left
              · intro w'
                go_simp
                with_reducible rfl
              rotate_left
              · simp only [Act.put, List.setIfInBounds_toArray, List.set_cons_zero, List.set_cons_succ, i64_w, i32_w]
                rfl
              refine take_ (i := 15) (N := some 40) (v := ?_) (a' := ?_) #[true, true, true, true, true, true, true, true, true, true, true, true, true, true, true, true, true, false, false, false, true, false, true, false, false, false, false, false] rfl rfl (by kernel_rfl) (fun _ _ _ h => h) (Or.inl ⟨by rfl, ?_⟩) hHeld ?_ ?_
              rotate_left
              · rintro w' ⟨s0, s1, s2, s3, s4⟩
                go_simp
                with_reducible rfl
              rotate_left
              · simp only [Act.put, List.setIfInBounds_toArray, List.set_cons_zero, List.set_cons_succ, i64_w, i32_w]
                rfl
              refine pure_ (i := 17) (N := some 42) (v := ?_) (a' := ?_) #[true, true, true, true, true, true, true, true, true, true, true, true, true, true, true, true, true, true, false, false, true, false, true, false, false, false, false, false] rfl rfl (by kernel_rfl) (fun _ _ _ h => h) (Or.inl ⟨by rfl, ?_⟩) ?_ ?_
              rotate_left
              · intro w'
                go_simp
                with_reducible rfl
              rotate_left
              · simp only [Act.put, List.setIfInBounds_toArray, List.set_cons_zero, List.set_cons_succ, i64_w, i32_w]
                rfl
              refine pure_ (i := 18) (N := some 43) (v := ?_) (a' := ?_) #[true, true, true, true, true, true, true, true, true, true, true, true, true, true, true, true, true, true, true, false, true, false, true, false, false, false, false, false] rfl rfl (by kernel_rfl) (fun _ _ _ h => h) (Or.inl ⟨by rfl, ?_⟩) ?_ ?_
              rotate_left
              · intro w'
                go_simp
                with_reducible rfl
              rotate_left
              · simp only [Act.put, List.setIfInBounds_toArray, List.set_cons_zero, List.set_cons_succ, i64_w, i32_w]
                rfl
              refine take_ (i := 19) (N := some 44) (v := ?_) (a' := ?_) #[true, true, true, true, true, true, true, true, true, true, true, true, true, true, true, true, true, true, true, true, true, false, true, false, false, false, false, false] rfl rfl (by kernel_rfl) (fun _ _ _ h => h) (Or.inl ⟨by rfl, ?_⟩) hHeld ?_ ?_
              rotate_left
              · rintro w' ⟨s0, s1, s2, s3, s4⟩
                go_simp
                with_reducible rfl
              rotate_left
              · simp only [Act.put, List.setIfInBounds_toArray, List.set_cons_zero, List.set_cons_succ, i64_w, i32_w]
                rfl
              refine take_ (i := 21) (N := some 46) (v := ?_) (a' := ?_) #[true, true, true, true, true, true, true, true, true, true, true, true, true, true, true, true, true, true, true, true, true, true, true, false, false, false, false, false] rfl rfl (by kernel_rfl) (fun _ _ _ h => h) (Or.inl ⟨by rfl, ?_⟩) hHeld ?_ ?_
              rotate_left
              · rintro w' ⟨s0, s1, s2, s3, s4⟩
                go_simp
                with_reducible rfl
              rotate_left
              · simp only [Act.put, List.setIfInBounds_toArray, List.set_cons_zero, List.set_cons_succ, i64_w, i32_w]
                rfl
              refine pure_ (i := 23) (N := some 48) (v := ?_) (a' := ?_) #[true, true, true, true, true, true, true, true, true, true, true, true, true, true, true, true, true, true, true, true, true, true, true, true, false, false, false, false] rfl rfl (by kernel_rfl) (fun _ _ _ h => h) (Or.inl ⟨by rfl, ?_⟩) ?_ ?_
              rotate_left
              · intro w'
                go_simp
                with_reducible rfl
              rotate_left
              · simp only [Act.put, List.setIfInBounds_toArray, List.set_cons_zero, List.set_cons_succ, i64_w, i32_w]
                rfl
              refine pure_ (i := 24) (N := some 49) (v := ?_) (a' := ?_) #[true, true, true, true, true, true, true, true, true, true, true, true, true, true, true, true, true, true, true, true, true, true, true, true, true, false, false, false] rfl rfl (by kernel_rfl) (fun _ _ _ h => h) (Or.inl ⟨by rfl, ?_⟩) ?_ ?_
              rotate_left
              · intro w'
                go_simp
                with_reducible rfl
              rotate_left
              · simp only [Act.put, List.setIfInBounds_toArray, List.set_cons_zero, List.set_cons_succ, i64_w, i32_w]
                rfl
              refine take_ (i := 25) (N := some 50) (v := ?_) (a' := ?_) #[true, true, true, true, true, true, true, true, true, true, true, true, true, true, true, true, true, true, true, true, true, true, true, true, true, true, false, false] rfl rfl (by kernel_rfl) (fun _ _ _ h => h) (Or.inl ⟨by rfl, ?_⟩) hHeld ?_ ?_
              rotate_left
              · rintro w' ⟨s0, s1, s2, s3, s4⟩
                go_simp
                with_reducible rfl
              rotate_left
              · simp only [Act.put, List.setIfInBounds_toArray, List.set_cons_zero, List.set_cons_succ, i64_w, i32_w]
                rfl
              refine pure_ (i := 26) (N := some 51) (v := ?_) (a' := ?_) #[true, true, true, true, true, true, true, true, true, true, true, true, true, true, true, true, true, true, true, true, true, true, true, true, true, true, true, false] rfl rfl (by kernel_rfl) (fun _ _ _ h => h) (Or.inl ⟨by rfl, ?_⟩) ?_ ?_
              rotate_left
              · intro w'
                go_simp
                with_reducible rfl
              rotate_left
              · simp only [Act.put, List.setIfInBounds_toArray, List.set_cons_zero, List.set_cons_succ, i64_w, i32_w]
                rfl
              refine pure_ (i := 27) (N := some 52) (v := ?_) (a' := ?_) #[true, true, true, true, true, true, true, true, true, true, true, true, true, true, true, true, true, true, true, true, true, true, true, true, true, true, true, true] rfl rfl (by kernel_rfl) (fun _ _ _ h => h) (Or.inl ⟨by rfl, ?_⟩) ?_ ?_
              rotate_left
              · intro w'
                go_simp
                with_reducible rfl
              rotate_left
              · simp only [Act.put, List.setIfInBounds_toArray, List.set_cons_zero, List.set_cons_succ, i64_w, i32_w]
                rfl
              refine done_ (by kernel_rfl) ?_

              go_wp2
              go_roundw
              case rel => exact ⟨k + 1, by omega, by go_num, ⟨last_step HK.out HA2.out⟩, ⟨drawn_then hD⟩⟩
              case measure => simp [intOf]; omega
          · have e4 : (s.ki == r.ki) = false := beq_eq_false_iff_ne.2 h4
            have HA2 := Aside0.mk (show (ss.getD i default).meets (ss.getD k default) = false by rw [HSR.out.1, HSR.out.2]; exact meets_no1 h4)
            clear h4
            go_wp2_with fail
            refine start_ (n := 28) (S := fun w' => w'.cell? ⟨g2, 15, none⟩ = some (.slice (some ad) an ac) ∧ w'.cell? (ad.add (i * 5)) = some (.int .i64 s.ki) ∧ w'.cell? ⟨(ad.add (i * 5)).block, (ad.add (i * 5)).off + 1, none⟩ = some (.int .i64 s.id) ∧ w'.cell? (ad.add (k * 5)) = some (.int .i64 r.ki) ∧ w'.cell? ⟨(ad.add (k * 5)).block, (ad.add (k * 5)).off + 1, none⟩ = some (.int .i64 r.id)) (ds := []) #[false, false, false, false, false, false, false, false, false, false, false, false, false, false, false, false, false, false, false, false, false, false, false, false, false, false, false, false] (by kernel_rfl) rfl rfl ⟨cg2_15, (hsA.cell0 rfl), (hsA.cellp 1 (by decide) rfl), (hrA.cell0 rfl), (hrA.cellp 1 (by decide) rfl)⟩ (fun hHeld => ?_)
            refine pure_ (i := 0) (N := some 25) (v := ?_) (a' := ?_) #[true, false, false, false, false, false, false, false, false, false, false, false, false, false, false, false, false, false, false, false, false, false, false, false, false, false, false, false] rfl rfl (by kernel_rfl) (fun _ _ _ h => h) (Or.inl ⟨by rfl, ?_⟩) ?_ ?_
            rotate_left
            · intro w'
              go_simp
              with_reducible rfl
            rotate_left
            · simp only [Act.put, List.setIfInBounds_toArray, List.set_cons_zero, List.set_cons_succ, i64_w, i32_w]
              rfl
            refine pure_ (i := 2) (N := some 27) (v := ?_) (a' := ?_) #[true, false, true, false, false, false, false, false, false, false, false, false, false, false, false, false, false, false, false, false, false, false, false, false, false, false, false, false] rfl rfl (by kernel_rfl) (fun _ _ _ h => h) (Or.inl ⟨by rfl, ?_⟩) ?_ ?_
            rotate_left
            · intro w'
              go_simp
              with_reducible rfl
            rotate_left
            · simp only [Act.put, List.setIfInBounds_toArray, List.set_cons_zero, List.set_cons_succ, i64_w, i32_w]
              rfl
            refine pure_ (i := 6) (N := some 31) (v := ?_) (a' := ?_) #[true, false, true, false, false, false, true, false, false, false, false, false, false, false, false, false, false, false, false, false, false, false, false, false, false, false, false, false] rfl rfl (by kernel_rfl) (fun _ _ _ h => h) (Or.inl ⟨by rfl, ?_⟩) ?_ ?_
            rotate_left
            · intro w'
              go_simp
              with_reducible rfl
            rotate_left
            · simp only [Act.put, List.setIfInBounds_toArray, List.set_cons_zero, List.set_cons_succ, i64_w, i32_w]
              rfl
            refine pure_ (i := 8) (N := some 33) (v := ?_) (a' := ?_) #[true, false, true, false, false, false, true, false, true, false, false, false, false, false, false, false, false, false, false, false, false, false, false, false, false, false, false, false] rfl rfl (by kernel_rfl) (fun _ _ _ h => h) (Or.inl ⟨by rfl, ?_⟩) ?_ ?_
            rotate_left
            · intro w'
              go_simp
              with_reducible rfl
            rotate_left
            · simp only [Act.put, List.setIfInBounds_toArray, List.set_cons_zero, List.set_cons_succ, i64_w, i32_w]
              rfl
            refine take_ (i := 1) (N := some 26) (v := ?_) (a' := ?_) #[true, true, true, false, false, false, true, false, true, false, false, false, false, false, false, false, false, false, false, false, false, false, false, false, false, false, false, false] rfl rfl (by kernel_rfl) (fun _ _ _ h => h) (Or.inl ⟨by rfl, ?_⟩) hHeld ?_ ?_
            rotate_left
            · rintro w' ⟨s0, s1, s2, s3, s4⟩
              go_simp
              with_reducible rfl
            rotate_left
            · simp only [Act.put, List.setIfInBounds_toArray, List.set_cons_zero, List.set_cons_succ, i64_w, i32_w]
              rfl
            refine pure_ (i := 3) (N := some 28) (v := ?_) (a' := ?_) #[true, true, true, true, false, false, true, false, true, false, false, false, false, false, false, false, false, false, false, false, false, false, false, false, false, false, false, false] rfl rfl (by kernel_rfl) (fun _ _ _ h => h) (Or.inl ⟨by rfl, ?_⟩) ?_ ?_
            rotate_left
            · intro w'
              go_simp
              with_reducible rfl
            rotate_left
            · simp only [Act.put, List.setIfInBounds_toArray, List.set_cons_zero, List.set_cons_succ, i64_w, i32_w]
              rfl
            refine pure_ (i := 4) (N := some 29) (v := ?_) (a' := ?_) #[true, true, true, true, true, false, true, false, true, false, false, false, false, false, false, false, false, false, false, false, false, false, false, false, false, false, false, false] rfl rfl (by kernel_rfl) (fun _ _ _ h => h) (Or.inl ⟨by rfl, ?_⟩) ?_ ?_
            rotate_left
            · intro w'
              go_simp
              with_reducible rfl
            rotate_left
            · simp only [Act.put, List.setIfInBounds_toArray, List.set_cons_zero, List.set_cons_succ, i64_w, i32_w]
              rfl
            refine take_ (i := 5) (N := some 30) (v := ?_) (a' := ?_) #[true, true, true, true, true, true, true, false, true, false, false, false, false, false, false, false, false, false, false, false, false, false, false, false, false, false, false, false] rfl rfl (by kernel_rfl) (fun _ _ _ h => h) (Or.inl ⟨by rfl, ?_⟩) hHeld ?_ ?_
            rotate_left
            · rintro w' ⟨s0, s1, s2, s3, s4⟩
              go_simp
              with_reducible rfl
            rotate_left
            · simp only [Act.put, List.setIfInBounds_toArray, List.set_cons_zero, List.set_cons_succ, i64_w, i32_w]
              rfl
            refine take_ (i := 7) (N := some 32) (v := ?_) (a' := ?_) #[true, true, true, true, true, true, true, true, true, false, false, false, false, false, false, false, false, false, false, false, false, false, false, false, false, false, false, false] rfl rfl (by kernel_rfl) (fun _ _ _ h => h) (Or.inl ⟨by rfl, ?_⟩) hHeld ?_ ?_
            rotate_left
            · rintro w' ⟨s0, s1, s2, s3, s4⟩
              go_simp
              with_reducible rfl
            rotate_left
            · simp only [Act.put, List.setIfInBounds_toArray, List.set_cons_zero, List.set_cons_succ, i64_w, i32_w]
              rfl
            refine pure_ (i := 9) (N := some 34) (v := ?_) (a' := ?_) #[true, true, true, true, true, true, true, true, true, true, false, false, false, false, false, false, false, false, false, false, false, false, false, false, false, false, false, false] rfl rfl (by kernel_rfl) (fun _ _ _ h => h) (Or.inl ⟨by rfl, ?_⟩) ?_ ?_
            rotate_left
            · intro w'
              go_simp
              with_reducible rfl
            rotate_left
            · simp only [Act.put, List.setIfInBounds_toArray, List.set_cons_zero, List.set_cons_succ, i64_w, i32_w]
              rfl
            refine pure_ (i := 10) (N := some 35) (v := ?_) (a' := ?_) #[true, true, true, true, true, true, true, true, true, true, true, false, false, false, false, false, false, false, false, false, false, false, false, false, false, false, false, false] rfl rfl (by kernel_rfl) (fun _ _ _ h => h) (Or.inl ⟨by rfl, ?_⟩) ?_ ?_
            rotate_left
            · intro w'
              go_simp
              with_reducible rfl
            rotate_left
            · simp only [Act.put, List.setIfInBounds_toArray, List.set_cons_zero, List.set_cons_succ, i64_w, i32_w]
              rfl
            refine take_ (i := 11) (N := some 36) (v := ?_) (a' := ?_) #[true, true, true, true, true, true, true, true, true, true, true, true, false, false, false, false, false, false, false, false, false, false, false, false, false, false, false, false] rfl rfl (by kernel_rfl) (fun _ _ _ h => h) (Or.inl ⟨by rfl, ?_⟩) hHeld ?_ ?_
            rotate_left
            · rintro w' ⟨s0, s1, s2, s3, s4⟩
              go_simp
              with_reducible rfl
            rotate_left
            · simp only [Act.put, List.setIfInBounds_toArray, List.set_cons_zero, List.set_cons_succ, i64_w, i32_w]
              rfl
            refine pure_ (i := 12) (N := some 37) (v := ?_) (a' := ?_) #[true, true, true, true, true, true, true, true, true, true, true, true, true, false, false, false, false, false, false, false, false, false, false, false, false, false, false, false] rfl rfl (by kernel_rfl) (fun _ _ _ h => h) (Or.inl ⟨by rfl, ?_⟩) ?_ ?_
            rotate_left
            · intro w'
              go_simp
              with_reducible rfl
            rotate_left
            · simp only [Act.put, List.setIfInBounds_toArray, List.set_cons_zero, List.set_cons_succ, i64_w, i32_w]
              rfl
            refine pure_ (i := 13) (N := some 38) (v := ?_) (a' := ?_) #[true, true, true, true, true, true, true, true, true, true, true, true, true, true, false, false, false, false, false, false, false, false, false, false, false, false, false, false] rfl rfl (by kernel_rfl) (fun _ _ _ h => h) (Or.inl ⟨by rfl, ?_⟩) ?_ ?_
            rotate_left
            · intro w'
              go_simp
              with_reducible rfl
            rotate_left
            · simp only [Act.put, List.setIfInBounds_toArray, List.set_cons_zero, List.set_cons_succ, i64_w, i32_w]
              rfl
            refine pure_ (i := 14) (N := some 39) (v := undef) (a' := ?_) #[true, true, true, true, true, true, true, true, true, true, true, true, true, true, true, false, false, false, false, false, false, false, false, false, false, false, false, false] rfl rfl (by kernel_rfl) (fun _ _ _ h => h) (Or.inr ⟨by rfl, rfl⟩) ?_ ?_
            rotate_left
            · simp only [Act.put, List.setIfInBounds_toArray, List.set_cons_zero, List.set_cons_succ, i64_w, i32_w]
              rfl
            refine pure_ (i := 15) (N := some 40) (v := undef) (a' := ?_) #[true, true, true, true, true, true, true, true, true, true, true, true, true, true, true, true, false, false, false, false, false, false, false, false, false, false, false, false] rfl rfl (by kernel_rfl) (fun _ _ _ h => h) (Or.inr ⟨by rfl, rfl⟩) ?_ ?_
            rotate_left
            · simp only [Act.put, List.setIfInBounds_toArray, List.set_cons_zero, List.set_cons_succ, i64_w, i32_w]
              rfl
            refine pure_ (i := 16) (N := some 41) (v := undef) (a' := ?_) #[true, true, true, true, true, true, true, true, true, true, true, true, true, true, true, true, true, false, false, false, false, false, false, false, false, false, false, false] rfl rfl (by kernel_rfl) (fun _ _ _ h => h) (Or.inr ⟨by rfl, rfl⟩) ?_ ?_
            rotate_left
            · simp only [Act.put, List.setIfInBounds_toArray, List.set_cons_zero, List.set_cons_succ, i64_w, i32_w]
              rfl
            refine pure_ (i := 17) (N := some 42) (v := undef) (a' := ?_) #[true, true, true, true, true, true, true, true, true, true, true, true, true, true, true, true, true, true, false, false, false, false, false, false, false, false, false, false] rfl rfl (by kernel_rfl) (fun _ _ _ h => h) (Or.inr ⟨by rfl, rfl⟩) ?_ ?_
            rotate_left
            · simp only [Act.put, List.setIfInBounds_toArray, List.set_cons_zero, List.set_cons_succ, i64_w, i32_w]
              rfl
            refine pure_ (i := 18) (N := some 43) (v := undef) (a' := ?_) #[true, true, true, true, true, true, true, true, true, true, true, true, true, true, true, true, true, true, true, false, false, false, false, false, false, false, false, false] rfl rfl (by kernel_rfl) (fun _ _ _ h => h) (Or.inr ⟨by rfl, rfl⟩) ?_ ?_
            rotate_left
            · simp only [Act.put, List.setIfInBounds_toArray, List.set_cons_zero, List.set_cons_succ, i64_w, i32_w]
              rfl
            refine pure_ (i := 19) (N := some 44) (v := undef) (a' := ?_) #[true, true, true, true, true, true, true, true, true, true, true, true, true, true, true, true, true, true, true, true, false, false, false, false, false, false, false, false] rfl rfl (by kernel_rfl) (fun _ _ _ h => h) (Or.inr ⟨by rfl, rfl⟩) ?_ ?_
            rotate_left
            · simp only [Act.put, List.setIfInBounds_toArray, List.set_cons_zero, List.set_cons_succ, i64_w, i32_w]
              rfl
            refine pure_ (i := 20) (N := some 45) (v := undef) (a' := ?_) #[true, true, true, true, true, true, true, true, true, true, true, true, true, true, true, true, true, true, true, true, true, false, false, false, false, false, false, false] rfl rfl (by kernel_rfl) (fun _ _ _ h => h) (Or.inr ⟨by rfl, rfl⟩) ?_ ?_
            rotate_left
            · simp only [Act.put, List.setIfInBounds_toArray, List.set_cons_zero, List.set_cons_succ, i64_w, i32_w]
              rfl
            refine pure_ (i := 21) (N := some 46) (v := undef) (a' := ?_) #[true, true, true, true, true, true, true, true, true, true, true, true, true, true, true, true, true, true, true, true, true, true, false, false, false, false, false, false] rfl rfl (by kernel_rfl) (fun _ _ _ h => h) (Or.inr ⟨by rfl, rfl⟩) ?_ ?_
            rotate_left
            · simp only [Act.put, List.setIfInBounds_toArray, List.set_cons_zero, List.set_cons_succ, i64_w, i32_w]
              rfl
            refine pure_ (i := 22) (N := some 47) (v := undef) (a' := ?_) #[true, true, true, true, true, true, true, true, true, true, true, true, true, true, true, true, true, true, true, true, true, true, true, false, false, false, false, false] rfl rfl (by kernel_rfl) (fun _ _ _ h => h) (Or.inr ⟨by rfl, rfl⟩) ?_ ?_
            rotate_left
            · simp only [Act.put, List.setIfInBounds_toArray, List.set_cons_zero, List.set_cons_succ, i64_w, i32_w]
              rfl
            refine pure_ (i := 23) (N := some 48) (v := undef) (a' := ?_) #[true, true, true, true, true, true, true, true, true, true, true, true, true, true, true, true, true, true, true, true, true, true, true, true, false, false, false, false] rfl rfl (by kernel_rfl) (fun _ _ _ h => h) (Or.inr ⟨by rfl, rfl⟩) ?_ ?_
            rotate_left
            · simp only [Act.put, List.setIfInBounds_toArray, List.set_cons_zero, List.set_cons_succ, i64_w, i32_w]
              rfl
            refine pure_ (i := 24) (N := some 49) (v := undef) (a' := ?_) #[true, true, true, true, true, true, true, true, true, true, true, true, true, true, true, true, true, true, true, true, true, true, true, true, true, false, false, false] rfl rfl (by kernel_rfl) (fun _ _ _ h => h) (Or.inr ⟨by rfl, rfl⟩) ?_ ?_
            rotate_left
            · simp only [Act.put, List.setIfInBounds_toArray, List.set_cons_zero, List.set_cons_succ, i64_w, i32_w]
              rfl
            refine pure_ (i := 25) (N := some 50) (v := undef) (a' := ?_) #[true, true, true, true, true, true, true, true, true, true, true, true, true, true, true, true, true, true, true, true, true, true, true, true, true, true, false, false] rfl rfl (by kernel_rfl) (fun _ _ _ h => h) (Or.inr ⟨by rfl, rfl⟩) ?_ ?_
            rotate_left
            · simp only [Act.put, List.setIfInBounds_toArray, List.set_cons_zero, List.set_cons_succ, i64_w, i32_w]
              rfl
            refine pure_ (i := 26) (N := some 51) (v := undef) (a' := ?_) #[true, true, true, true, true, true, true, true, true, true, true, true, true, true, true, true, true, true, true, true, true, true, true, true, true, true, true, false] rfl rfl (by kernel_rfl) (fun _ _ _ h => h) (Or.inr ⟨by rfl, rfl⟩) ?_ ?_
            rotate_left
            · simp only [Act.put, List.setIfInBounds_toArray, List.set_cons_zero, List.set_cons_succ, i64_w, i32_w]
              rfl
            refine pure_ (i := 27) (N := some 52) (v := ?_) (a' := ?_) #[true, true, true, true, true, true, true, true, true, true, true, true, true, true, true, true, true, true, true, true, true, true, true, true, true, true, true, true] rfl rfl (by kernel_rfl) (fun _ _ _ h => h) (Or.inl ⟨by rfl, ?_⟩) ?_ ?_
            rotate_left
            · intro w'
              go_simp
              with_reducible rfl
            rotate_left
            · simp only [Act.put, List.setIfInBounds_toArray, List.set_cons_zero, List.set_cons_succ, i64_w, i32_w]
              rfl
            refine done_ (by kernel_rfl) ?_

            go_wp2
            go_roundw
            case rel => exact ⟨k + 1, by omega, by go_num, ⟨last_step HK.out HA2.out⟩, ⟨drawn_then hD⟩⟩
            case measure => simp [intOf]; omega
        · obtain rfl : i = k := by omega
          go_wp2_with fail
          go_roundw
          case rel => exact ⟨i + 1, by omega, by go_num, ⟨lone_step HL.out HK.out⟩, ⟨hD⟩⟩
          case measure => simp [intOf]; omega
    · obtain rfl : an = i := by omega
      have hLone : Lone ss := by intro a ha; rw [hS.len] at ha; exact HL.out a ha
      have HLone := Aside0.mk hLone
      clear hLone HL
      have Xg2 := dblk hD Xg2
      have hS := hS.drawn hD
      have hB := dbelow hD hB
      clear hD
      have cg2_3 : wi.cell? ⟨g2, 3, none⟩ = some (.int .i64 au) := (blk_cell Xg2 3).trans rfl
      have cg2_4 : wi.cell? ⟨g2, 4, none⟩ = some (.int .i64 av) := (blk_cell Xg2 4).trans rfl
      have cg2_7 : wi.cell? ⟨g2, 7, none⟩ = some (.int .i64 ahd) := (blk_cell Xg2 7).trans rfl
      have cg2_12 : wi.cell? ⟨g2, 12, none⟩ = some (.int .i64 awt) := (blk_cell Xg2 12).trans rfl
      have cg2_15 : wi.cell? ⟨g2, 15, none⟩ = some (.slice aA an ac) := (blk_cell Xg2 15).trans rfl
      go_wp2_with (first
        | ((with_reducible refine gate_dst (N := 53) rfl ?_); refine wpList_load_at rfl 47 (.tmp 2) rfl ⟨g2, 0, none⟩ rfl [.int .u64 atk, .int .i64 apl, .string anm, .int .i64 au, .int .i64 av, .int .i64 avx, .int .i64 avy, .int .i64 ahd, .int .i64 ahe, .int .i64 aen, .int .i64 aam, .int .i64 aco, .int .i64 awt, .int .i64 asp, .int .i64 asc, .slice aA an ac] _ Try.underlying47 rfl (by kernel_rfl) (At.of_blk Xg2) ?_)
        | ((with_reducible refine gate_dst (N := 54) rfl ?_); refine wpList_load_at rfl 47 (.tmp 2) rfl ⟨g2, 0, none⟩ rfl [.int .u64 atk, .int .i64 apl, .string anm, .int .i64 au, .int .i64 av, .int .i64 avx, .int .i64 avy, .int .i64 ahd, .int .i64 ahe, .int .i64 aen, .int .i64 aam, .int .i64 aco, .int .i64 awt, .int .i64 asp, .int .i64 asc, .slice aA an ac] _ Try.underlying47 rfl (by kernel_rfl) (At.of_blk Xg2) ?_)
        | ((with_reducible refine gate_dst (N := 56) rfl ?_); (with_reducible refine gate_callee (f := 26) rfl ?_); refine goesL_ _ rfl rfl Try.func26 (by kernel_rfl) rfl _ rfl (by simp only [List.map_toArray, List.map_cons, List.map_nil]; rfl) ?_; refine (self_no atk apl au av avx avy ahd ahe aen aam aco awt asp asc anm aA an ac t _ ss hS HLone.out hn (by omega)).mono ?_; rintro e w5 ⟨A1, c1, ps, rfl, hP, hps, hb⟩; refine ⟨_, rfl, ?_⟩; have hB := below_step hB hb; have hS := hS.below hb; have Xg2 := blk_below Xg2 hb; have HPS := Aside0.mk hps; clear hps hb; have cg2_3 : w5.cell? ⟨g2, 3, none⟩ = some (.int .i64 au) := (blk_cell Xg2 3).trans rfl; have cg2_4 : w5.cell? ⟨g2, 4, none⟩ = some (.int .i64 av) := (blk_cell Xg2 4).trans rfl; have cg2_7 : w5.cell? ⟨g2, 7, none⟩ = some (.int .i64 ahd) := (blk_cell Xg2 7).trans rfl; have cg2_12 : w5.cell? ⟨g2, 12, none⟩ = some (.int .i64 awt) := (blk_cell Xg2 12).trans rfl; have cg2_15 : w5.cell? ⟨g2, 15, none⟩ = some (.slice aA an ac) := (blk_cell Xg2 15).trans rfl; have HSW := Aside0.mk hS; have HPW := Aside0.mk hP; have HXW := Aside0.mk Xg2; have HBW := Aside0.mk hB; have LG2 := Aside0.mk (blk_lt Xg2); clear hS hP hB)
        | ((with_reducible refine gate_dst (N := 86) rfl ?_); refine wpList_load_at rfl 40 (.tmp 85) rfl ⟨g2, 1, none⟩ rfl [.int .i64 apl, .string anm, .int .i64 au, .int .i64 av, .int .i64 avx, .int .i64 avy, .int .i64 ahd, .int .i64 ahe, .int .i64 aen, .int .i64 aam, .int .i64 aco, .int .i64 awt, .int .i64 asp, .int .i64 asc] _ Try.underlying40 rfl (by kernel_rfl) (At.of_mid (ds := [.int .u64 atk]) (es := [.slice aA an ac]) Xg2) ?_)
        | ((with_reducible refine gate_dst (N := 9) rfl ?_); refine box_event ?hg (N := 9) ?hd (cs := #[.int .u64 0, .int .i64 0, .string ⟨#[]⟩, .int .i64 0, .int .i64 0, .int .i64 0, .int .i64 0, .int .i64 0, .int .i64 0, .int .i64 0, .int .i64 0, .int .i64 0, .int .i64 0, .int .i64 0, .int .i64 0, .slice none 0 0]) (t := 47) ?hr ?_; (case hd => rfl); (case hg => rfl); (case hr => first | (go_simp; done) | (go_simp; rfl)); intro g9 eg9 w10 Xg9 Bg9; have hg9 : w5.heap.size ≤ g9 := Nat.le_of_eq eg9.symm; clear eg9)
        | ((with_reducible refine gate_store (t := 47) (p := 9) rfl ?_); refine wpList_store_blk rfl 47 (.tmp 9) (.tmp 87) rfl g9 [.int .u64 0, .int .i64 apl, .string anm, .int .i64 au, .int .i64 av, .int .i64 avx, .int .i64 avy, .int .i64 ahd, .int .i64 ahe, .int .i64 aen, .int .i64 aam, .int .i64 aco, .int .i64 awt, .int .i64 asp, .int .i64 asc, .slice none 0 0] rfl rfl 47 _ Xg9 (by kernel_rfl) rfl rfl ?_; intro w11 Xs hb6 hk6 hz6; have hBr := hb6 _ _ Bg9 hg9; have HBR := Aside0.mk hBr; have Xg2 := blk_below Xg2 hBr; clear hb6 hk6 hz6 Bg9 hBr Xg9; have Xg9 := Xs; clear Xs; have c91 : w11.cell? ⟨g9, 1, none⟩ = some (.int .i64 apl) := (blk_cell Xg9 1).trans rfl; have f91 := blk_frozen Xg9 1; have n29 : g2 ≠ g9 := (by have := LG2.out; omega); have c215 : w11.cell? ⟨g2, 15, none⟩ = some (.slice aA an ac) := (blk_cell Xg2 15).trans rfl))
      have hBr2 := HBR.out.setCell (p := ⟨g9, 1, none⟩) hg9 (.int .i64 (wrap64 (apl + 1)))
      have hS := HSW.out.below hBr2
      have hP := HPW.out.below hBr2
      have hX2 := blk_below HXW.out hBr2
      have hB := below_step HBW.out hBr2
      have Xg9 : (w11.setCell ⟨g9, 1, none⟩ (.int .i64 (wrap64 (apl + 1)))).heap[g9]? = some (.cells #[.int .u64 0, .int .i64 (wrap64 (apl + 1)), .string anm, .int .i64 au, .int .i64 av, .int .i64 avx, .int .i64 avy, .int .i64 ahd, .int .i64 ahe, .int .i64 aen, .int .i64 aam, .int .i64 aco, .int .i64 awt, .int .i64 asp, .int .i64 asc, .slice none 0 0] 47 (0, 0)) := blk_put Xg9 1 _ rfl
      clear hBr2 HBR HSW HPW HXW HBW Xg2 c91 f91 c215 cg2_3 cg2_4 cg2_7 cg2_12 cg2_15 
      generalize (w11.setCell ⟨g9, 1, none⟩ (.int .i64 (wrap64 (apl + 1)))) = wq at *
      have Xg2 := hX2
      clear hX2
      have cg2_15 : wq.cell? ⟨g2, 15, none⟩ = some (.slice aA an ac) := (blk_cell Xg2 15).trans rfl
      go_wp2_with fail
      go_loopw [10] (fun j wr => ∃ k : Nat, k ≤ an ∧ j = .int .i64 k ∧ Aside0 (Below wq.heap.size wq wr)) (fun j _ => an - (intOf j).toNat)
      case atStart => exact ⟨0, Nat.zero_le _, rfl, ⟨Below.refl _ _⟩⟩
      case round =>
        clear cg2_15
        obtain ⟨k, hk, rfl, HB⟩ := hrel
        have hBq := HB.out
        clear HB
        by_cases hlt : k < an
        · have hlk : k < ss.length := by rw [hS.len]; exact hlt
          obtain ⟨ad, eA, hc⟩ := (hS.below hBq).at_ k hlt
          subst eA
          obtain ⟨ad1, eQ, hq0⟩ := (hP.below hBq).at_ k hlt
          subst eQ
          have hq0 := hq0.drew
          have HP0 := Aside0.mk (map_at HPS.out k hlk)
          obtain ⟨bh, bx, by_⟩ := hBd.out k hlk
          generalize ss.getD k default = s at hc HP0 bh bx by_
          generalize ps.getD k default = q0 at hq0 HP0
          have hPN : PN s.p := of_pn s.x s.y s.hd bx.lo bx.hi by_.lo by_.hi
          have hv0 := (hc.vec).drew
          have hh0 : wr.drew.cell? ⟨(ad.add (k * 5)).block, (ad.add (k * 5)).off + 4, none⟩ = some (.int .i64 s.hd) := hc.cellp 4 (by decide) rfl
          have cg2_15 : wr.cell? ⟨g2, 15, none⟩ = some (.slice (some ad) an ac) := (blk_cell (blk_below Xg2 hBq) 15).trans rfl
          have hk2 : (k : Int) < (an : Int) := Int.ofNat_lt.mpr hlt
          have hk0 : (0 : Int) ≤ k := Int.natCast_nonneg k
          have hk7 : ((k : Int)).toNat = k := by omega
          have hk8 : wrap64 (k : Int) = (k : Int) := wrap_id (by omega) (by omega)
          clear hc
          go_wp2_with fail
          refine start_ (n := 20) (S := fun w' => w'.cell? ⟨g2, 15, none⟩ = some (.slice (some ad) an ac) ∧ At w' (ad1.add (k * 3)) [.float .f32 q0.x, .float .f32 q0.y, .float .f32 q0.a] ∧ At w' ⟨(ad.add (k * 5)).block, (ad.add (k * 5)).off + 2, none⟩ [.int .i64 s.x, .int .i64 s.y] ∧ w'.cell? ⟨(ad.add (k * 5)).block, (ad.add (k * 5)).off + 4, none⟩ = some (.int .i64 s.hd)) (ds := []) #[false, false, false, false, false, false, false, false, false, false, false, false, false, false, false, false, false, false, false, false] (by kernel_rfl) rfl rfl ⟨cg2_15, hq0, hv0, hh0⟩ (fun hHeld => ?_)
          refine pure_ (i := 0) (N := some 101) (v := ?_) (a' := ?_) #[true, false, false, false, false, false, false, false, false, false, false, false, false, false, false, false, false, false, false, false] rfl rfl (by kernel_rfl) (fun _ _ _ h => h) (Or.inl ⟨by rfl, ?_⟩) ?_ ?_
          rotate_left
          · intro w'
            go_simp
            with_reducible rfl
          rotate_left
          · simp only [Act.put, List.setIfInBounds_toArray, List.set_cons_zero, List.set_cons_succ, i64_w, i32_w]
            rfl
          refine pure_ (i := 1) (N := some 102) (v := ?_) (a' := ?_) #[true, true, false, false, false, false, false, false, false, false, false, false, false, false, false, false, false, false, false, false] rfl rfl (by kernel_rfl) (fun _ _ _ h => h) (Or.inl ⟨by rfl, ?_⟩) ?_ ?_
          rotate_left
          · intro w'
            go_simp
            with_reducible rfl
          rotate_left
          · simp only [Act.put, List.setIfInBounds_toArray, List.set_cons_zero, List.set_cons_succ, i64_w, i32_w]
            rfl
          refine pure_ (i := 2) (N := some 103) (v := ?_) (a' := ?_) #[true, true, true, false, false, false, false, false, false, false, false, false, false, false, false, false, false, false, false, false] rfl rfl (by kernel_rfl) (fun _ _ _ h => h) (Or.inl ⟨by rfl, ?_⟩) ?_ ?_
          rotate_left
          · intro w'
            go_simp
            with_reducible rfl
          rotate_left
          · simp only [Act.put, List.setIfInBounds_toArray, List.set_cons_zero, List.set_cons_succ, i64_w, i32_w]
            rfl
          refine pure_ (i := 3) (N := some 104) (v := ?_) (a' := ?_) #[true, true, true, true, false, false, false, false, false, false, false, false, false, false, false, false, false, false, false, false] rfl rfl (by kernel_rfl) (fun _ _ _ h => h) (Or.inl ⟨by rfl, ?_⟩) ?_ ?_
          rotate_left
          · intro w'
            go_simp
            with_reducible rfl
          rotate_left
          · simp only [Act.put, List.setIfInBounds_toArray, List.set_cons_zero, List.set_cons_succ, i64_w, i32_w]
            rfl
          refine pure_ (i := 4) (N := some 105) (v := ?_) (a' := ?_) #[true, true, true, true, true, false, false, false, false, false, false, false, false, false, false, false, false, false, false, false] rfl rfl (by kernel_rfl) (fun _ _ _ h => h) (Or.inl ⟨by rfl, ?_⟩) ?_ ?_
          rotate_left
          · intro w'
            go_simp
            with_reducible rfl
          rotate_left
          · simp only [Act.put, List.setIfInBounds_toArray, List.set_cons_zero, List.set_cons_succ, i64_w, i32_w]
            rfl
          refine pure_ (i := 6) (N := some 107) (v := ?_) (a' := ?_) #[true, true, true, true, true, false, true, false, false, false, false, false, false, false, false, false, false, false, false, false] rfl rfl (by kernel_rfl) (fun _ _ _ h => h) (Or.inl ⟨by rfl, ?_⟩) ?_ ?_
          rotate_left
          · intro w'
            go_simp
            with_reducible rfl
          rotate_left
          · simp only [Act.put, List.setIfInBounds_toArray, List.set_cons_zero, List.set_cons_succ, i64_w, i32_w]
            rfl
          refine pure_ (i := 8) (N := some 109) (v := ?_) (a' := ?_) #[true, true, true, true, true, false, true, false, true, false, false, false, false, false, false, false, false, false, false, false] rfl rfl (by kernel_rfl) (fun _ _ _ h => h) (Or.inl ⟨by rfl, ?_⟩) ?_ ?_
          rotate_left
          · intro w'
            go_simp
            with_reducible rfl
          rotate_left
          · simp only [Act.put, List.setIfInBounds_toArray, List.set_cons_zero, List.set_cons_succ, i64_w, i32_w]
            rfl
          refine pure_ (i := 12) (N := some 113) (v := ?_) (a' := ?_) #[true, true, true, true, true, false, true, false, true, false, false, false, true, false, false, false, false, false, false, false] rfl rfl (by kernel_rfl) (fun _ _ _ h => h) (Or.inl ⟨by rfl, ?_⟩) ?_ ?_
          rotate_left
          · intro w'
            go_simp
            with_reducible rfl
          rotate_left
          · simp only [Act.put, List.setIfInBounds_toArray, List.set_cons_zero, List.set_cons_succ, i64_w, i32_w]
            rfl
          refine pure_ (i := 14) (N := some 115) (v := ?_) (a' := ?_) #[true, true, true, true, true, false, true, false, true, false, false, false, true, false, true, false, false, false, false, false] rfl rfl (by kernel_rfl) (fun _ _ _ h => h) (Or.inl ⟨by rfl, ?_⟩) ?_ ?_
          rotate_left
          · intro w'
            go_simp
            with_reducible rfl
          rotate_left
          · simp only [Act.put, List.setIfInBounds_toArray, List.set_cons_zero, List.set_cons_succ, i64_w, i32_w]
            rfl
          refine take_ (i := 5) (N := some 106) (v := ?_) (a' := ?_) #[true, true, true, true, true, true, true, false, true, false, false, false, true, false, true, false, false, false, false, false] rfl rfl (by kernel_rfl) (fun _ _ _ h => h) (Or.inl ⟨by rfl, ?_⟩) hHeld ?_ ?_
          rotate_left
          · rintro w' ⟨s0, s1, s2, s3⟩
            refine Eq.trans (exec_load_at 24 _ (by rfl) (ad1.add (k * 3)) (by rfl) [.float .f32 q0.x, .float .f32 q0.y, .float .f32 q0.a] _ Try.underlying24 rfl (by kernel_rfl) s1) ?_
            with_reducible rfl
          rotate_left
          · simp only [Act.put, List.setIfInBounds_toArray, List.set_cons_zero, List.set_cons_succ, i64_w, i32_w]
            rfl
          refine take_ (i := 7) (N := some 108) (v := ?_) (a' := ?_) #[true, true, true, true, true, true, true, true, true, false, false, false, true, false, true, false, false, false, false, false] rfl rfl (by kernel_rfl) (fun _ _ _ h => h) (Or.inl ⟨by rfl, ?_⟩) hHeld ?_ ?_
          rotate_left
          · rintro w' ⟨s0, s1, s2, s3⟩
            go_simp
            with_reducible rfl
          rotate_left
          · simp only [Act.put, List.setIfInBounds_toArray, List.set_cons_zero, List.set_cons_succ, i64_w, i32_w]
            rfl
          refine pure_ (i := 9) (N := some 110) (v := ?_) (a' := ?_) #[true, true, true, true, true, true, true, true, true, true, false, false, true, false, true, false, false, false, false, false] rfl rfl (by kernel_rfl) (fun _ _ _ h => h) (Or.inl ⟨by rfl, ?_⟩) ?_ ?_
          rotate_left
          · intro w'
            go_simp
            with_reducible rfl
          rotate_left
          · simp only [Act.put, List.setIfInBounds_toArray, List.set_cons_zero, List.set_cons_succ, i64_w, i32_w]
            rfl
          refine pure_ (i := 10) (N := some 111) (v := ?_) (a' := ?_) #[true, true, true, true, true, true, true, true, true, true, true, false, true, false, true, false, false, false, false, false] rfl rfl (by kernel_rfl) (fun _ _ _ h => h) (Or.inl ⟨by rfl, ?_⟩) ?_ ?_
          rotate_left
          · intro w'
            go_simp
            with_reducible rfl
          rotate_left
          · simp only [Act.put, List.setIfInBounds_toArray, List.set_cons_zero, List.set_cons_succ, i64_w, i32_w]
            rfl
          refine take_ (i := 11) (N := some 112) (v := ?_) (a' := ?_) #[true, true, true, true, true, true, true, true, true, true, true, true, true, false, true, false, false, false, false, false] rfl rfl (by kernel_rfl) (fun _ _ _ h => h) (Or.inl ⟨by rfl, ?_⟩) hHeld ?_ ?_
          rotate_left
          · rintro w' ⟨s0, s1, s2, s3⟩
            refine Eq.trans (exec_load_at 38 _ (by rfl) ⟨(ad.add (k * 5)).block, (ad.add (k * 5)).off + 2, none⟩ (by rfl) [.int .i64 s.x, .int .i64 s.y] _ Try.underlying38 rfl (by kernel_rfl) s2) ?_
            with_reducible rfl
          rotate_left
          · simp only [Act.put, List.setIfInBounds_toArray, List.set_cons_zero, List.set_cons_succ, i64_w, i32_w]
            rfl
          refine take_ (i := 13) (N := some 114) (v := ?_) (a' := ?_) #[true, true, true, true, true, true, true, true, true, true, true, true, true, true, true, false, false, false, false, false] rfl rfl (by kernel_rfl) (fun _ _ _ h => h) (Or.inl ⟨by rfl, ?_⟩) hHeld ?_ ?_
          rotate_left
          · rintro w' ⟨s0, s1, s2, s3⟩
            go_simp
            with_reducible rfl
          rotate_left
          · simp only [Act.put, List.setIfInBounds_toArray, List.set_cons_zero, List.set_cons_succ, i64_w, i32_w]
            rfl
          refine pure_ (i := 15) (N := some 116) (v := ?_) (a' := ?_) #[true, true, true, true, true, true, true, true, true, true, true, true, true, true, true, true, false, false, false, false] rfl rfl (by kernel_rfl) (fun _ _ _ h => h) (Or.inl ⟨by rfl, ?_⟩) ?_ ?_
          rotate_left
          · intro w'
            go_simp
            with_reducible rfl
          rotate_left
          · simp only [Act.put, List.setIfInBounds_toArray, List.set_cons_zero, List.set_cons_succ, i64_w, i32_w]
            rfl
          refine pure_ (i := 16) (N := some 117) (v := ?_) (a' := ?_) #[true, true, true, true, true, true, true, true, true, true, true, true, true, true, true, true, true, false, false, false] rfl rfl (by kernel_rfl) (fun _ _ _ h => h) (Or.inl ⟨by rfl, ?_⟩) ?_ ?_
          rotate_left
          · intro w'
            go_simp
            with_reducible rfl
          rotate_left
          · simp only [Act.put, List.setIfInBounds_toArray, List.set_cons_zero, List.set_cons_succ, i64_w, i32_w]
            rfl
          refine take_ (i := 17) (N := some 118) (v := ?_) (a' := ?_) #[true, true, true, true, true, true, true, true, true, true, true, true, true, true, true, true, true, true, false, false] rfl rfl (by kernel_rfl) (fun _ _ _ h => h) (Or.inl ⟨by rfl, ?_⟩) hHeld ?_ ?_
          rotate_left
          · rintro w' ⟨s0, s1, s2, s3⟩
            go_simp
            with_reducible rfl
          rotate_left
          · simp only [Act.put, List.setIfInBounds_toArray, List.set_cons_zero, List.set_cons_succ, i64_w, i32_w]
            rfl
          refine one_ (i := 18) (N := some 119) #[true, true, true, true, true, true, true, true, true, true, true, true, true, true, true, true, true, true, true, false] rfl rfl (by kernel_rfl) (by decide) (fun K hK => ?_)
          refine goes_ Try.func20 (by kernel_rfl) rfl _ (by rfl) rfl rfl (by simp only [List.map_toArray, List.map_cons, List.map_nil]; rfl) ?_
          refine (of_calls s.x s.y s.hd _).mono ?_
          rintro e w8 ⟨p1, q1, hp1, hq1, rfl, hb1⟩
          refine ⟨_, rfl, ?_⟩
          have hE := mix_self t hPN HP0.out (r := ⟨p1, q1, angF (Go.bits .and .i64 s.hd 255)⟩) ⟨hp1, hq1, Fe.refl _⟩
          have e_x := fun w => eq_float_of (P := Try.prog) w 9998 22 Try.underlying22 _ _ hE.x
          have e_y := fun w => eq_float_of (P := Try.prog) w 9998 22 Try.underlying22 _ _ hE.y
          have e_a := fun w => eq_float_of (P := Try.prog) w 9998 22 Try.underlying22 _ _ hE.a
          clear hE hp1 hq1
          have hBq := below_step (below_drew hBq) hb1
          refine hK.out _ _ ⟨pw_cell_below hb1 (hHeld.1), (hHeld.2.1).below hb1, (hHeld.2.2.1).below hb1, pw_cell_below hb1 (hHeld.2.2.2)⟩ (fun hHeld => ?_)
          clear hK K
          refine norm_ (a' := ?_) ?_ ?_
          rotate_left
          · show Act.put _ (some 119) _ = _
            simp only [Act.put, List.setIfInBounds_toArray, List.set_cons_zero, List.set_cons_succ, i64_w, i32_w]
            rfl
          refine pure_ (i := 19) (N := some 120) (v := ?_) (a' := ?_) #[true, true, true, true, true, true, true, true, true, true, true, true, true, true, true, true, true, true, true, true] rfl rfl (by kernel_rfl) (fun _ _ _ h => h) (Or.inl ⟨by rfl, ?_⟩) ?_ ?_
          rotate_left
          · intro w'
            go_simp
            with_reducible rfl
          rotate_left
          · simp only [Act.put, List.setIfInBounds_toArray, List.set_cons_zero, List.set_cons_succ, i64_w, i32_w]
            rfl
          refine done_ (by kernel_rfl) ?_

          clear e_x e_y e_a hk7 hk8
          go_wp2
          go_roundw
          case rel => exact ⟨k + 1, by omega, by go_num, ⟨hBq⟩⟩
          case measure => simp [intOf]; omega
        · obtain rfl : an = k := by omega
          have hS := hS.below hBq
          have Xg2 := blk_below Xg2 hBq
          have Xg9 := blk_below Xg9 hBq
          have cg2_15 : wr.cell? ⟨g2, 15, none⟩ = some (.slice aA an ac) := (blk_cell Xg2 15).trans rfl
          have hB := below_step hB hBq
          clear hP hBq
          go_wp2_with (first
            | ((with_reducible refine gate_dst (N := 121) rfl ?_); refine wpList_load_at rfl 47 (.tmp 2) rfl ⟨g2, 0, none⟩ rfl [.int .u64 atk, .int .i64 apl, .string anm, .int .i64 au, .int .i64 av, .int .i64 avx, .int .i64 avy, .int .i64 ahd, .int .i64 ahe, .int .i64 aen, .int .i64 aam, .int .i64 aco, .int .i64 awt, .int .i64 asp, .int .i64 asc, .slice aA an ac] _ Try.underlying47 rfl (by kernel_rfl) (At.of_blk Xg2) ?_)
            | ((with_reducible refine gate_dst (N := 122) rfl ?_); refine wpList_load_at rfl 47 (.tmp 9) rfl ⟨g9, 0, none⟩ rfl [.int .u64 0, .int .i64 (wrap64 (apl + 1)), .string anm, .int .i64 au, .int .i64 av, .int .i64 avx, .int .i64 avy, .int .i64 ahd, .int .i64 ahe, .int .i64 aen, .int .i64 aam, .int .i64 aco, .int .i64 awt, .int .i64 asp, .int .i64 asc, .slice none 0 0] _ Try.underlying47 rfl (by kernel_rfl) (At.of_blk Xg9) ?_)
            | ((with_reducible refine gate_dst (N := 124) rfl ?_); (with_reducible refine gate_callee (f := 26) rfl ?_); refine goesL_ _ rfl rfl Try.func26 (by kernel_rfl) rfl _ rfl (by simp only [List.map_toArray, List.map_cons, List.map_nil]; rfl) ?_; refine (apart_calls atk apl au av avx avy ahd ahe aen aam aco awt asp asc anm aA an ac 0 (wrap64 (apl + 1)) au av avx avy ahd ahe aen aam aco awt asp asc anm none 0 0 t _ ss [] hS (SRow.nil _ _) hn (by omega) (wrap_ne apl hU.2.2) (.inr rfl)).mono ?_; rintro e w5 ⟨A5, c5, rfl, hb⟩; refine ⟨_, rfl, ?_⟩; have hB := below_step hB hb; have hS := hS.below hb; have Xg2 := blk_below Xg2 hb; have Xg9 := blk_below Xg9 hb; clear hb)
            | ((with_reducible refine gate_dst (N := 128) rfl ?_); (try (refine gate_guard (by rfl) ?_; dsimp only)); refine wpList_load_at rfl 47 (.tmp 9) rfl ⟨g9, 0, none⟩ rfl [.int .u64 0, .int .i64 (wrap64 (apl + 1)), .string anm, .int .i64 au, .int .i64 av, .int .i64 avx, .int .i64 avy, .int .i64 ahd, .int .i64 ahe, .int .i64 aen, .int .i64 aam, .int .i64 aco, .int .i64 awt, .int .i64 asp, .int .i64 asc, .slice none 0 0] _ Try.underlying47 rfl (by kernel_rfl) (At.of_blk Xg9) ?_)
            | ((with_reducible refine gate_dst (N := 129) rfl ?_); (try (refine gate_guard (by rfl) ?_; dsimp only)); refine wpList_load_at rfl 47 (.tmp 2) rfl ⟨g2, 0, none⟩ rfl [.int .u64 atk, .int .i64 apl, .string anm, .int .i64 au, .int .i64 av, .int .i64 avx, .int .i64 avy, .int .i64 ahd, .int .i64 ahe, .int .i64 aen, .int .i64 aam, .int .i64 aco, .int .i64 awt, .int .i64 asp, .int .i64 asc, .slice aA an ac] _ Try.underlying47 rfl (by kernel_rfl) (At.of_blk Xg2) ?_)
            | ((with_reducible refine gate_dst (N := 131) rfl ?_); (with_reducible refine gate_callee (f := 26) rfl ?_); (try (refine gate_guard (by rfl) ?_; dsimp only)); refine goesL_ _ rfl rfl Try.func26 (by kernel_rfl) rfl _ rfl (by simp only [List.map_toArray, List.map_cons, List.map_nil]; rfl) ?_; refine (apart_calls 0 (wrap64 (apl + 1)) au av avx avy ahd ahe aen aam aco awt asp asc anm none 0 0 atk apl au av avx avy ahd ahe aen aam aco awt asp asc anm aA an ac t _ [] ss (SRow.nil _ _) hS (by omega) (by omega) (wrap_ne apl hU.2.2).symm (.inl rfl)).mono ?_; rintro e w5 ⟨A6, c6, rfl, hb⟩; refine ⟨_, rfl, ?_⟩; have hB := below_step hB hb; clear hb))
          go_ret
          exact ⟨rfl, hB⟩
theorem self.calls (atk apl au av avx avy ahd ahe aen aam aco awt asp asc : Int) (anm : ByteArray) (aA : Option Addr) (an ac : Nat) (t : Nat) (w : World) (ss : List S5) (hS : SRow w aA an ss) (hBd : Bnds ss) (hU : I64 au ∧ I64 av ∧ I64 apl) (hn : an * 40 ≤ 140737488351232) : Calls Try.prog 8 #[.agg #[.int .u64 atk, .int .i64 apl, .string anm, .int .i64 au, .int .i64 av, .int .i64 avx, .int .i64 avy, .int .i64 ahd, .int .i64 ahe, .int .i64 aen, .int .i64 aam, .int .i64 aco, .int .i64 awt, .int .i64 asp, .int .i64 asc, .slice aA an ac], .float .f32 t] w fun e w' => e = .returned (.bool true) ∧ Below w.heap.size w w' := by
  by_cases hw : awt ≤ 0
  · exact self_1 atk apl au av avx avy ahd ahe aen aam aco awt asp asc anm aA an ac t w ss hS hBd hU hn hw
  · exact self_0 atk apl au av avx avy ahd ahe aen aam aco awt asp asc anm aA an ac t w ss hS hBd hU hn hw
end Go.Proofs.Ytjffkidfoapbjaa.Fl
