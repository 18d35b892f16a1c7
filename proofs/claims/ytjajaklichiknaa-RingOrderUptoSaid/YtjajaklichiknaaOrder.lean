/- Proved: the walk of RingOrder: true for every list of at most 1048576 steps. -/
import Derived.Test.YtjajaklichiknaaLimits
namespace Go.Proofs.Ytjajaklichiknaa.Rg
open Go.RowKit Go.Proofs.YtjajaklichiknaaW.PrintWords Go.Proofs.YtjajaklichiknaaW.PrintLast Go.Proofs.YtjajaklichiknaaW.PrintMore
set_option linter.unusedVariables false
set_option linter.unusedSimpArgs false

/-- The law's state: the ring, the two lists, that they lie apart. -/
structure St (w2 wr : World) (g gt n : Nat) (vi vo : Value) (ins outs q : List Int) : Prop where
  ring : RQ wr g gt n q
  oin : wr.ownsRow w2.heap.size 3 1 vi ins.length (encs ei ins)
  oout : wr.ownsRow w2.heap.size 3 1 vo outs.length (encs ei outs)
  apart : vi.ownBlock = none ∨ vi.ownBlock ≠ vo.ownBlock
  only : Only w2 wr (fun k => k = g ∨ k = gt)
  hg : g < w2.heap.size
  hgt : gt < w2.heap.size
section
variable {w2 wr : World} {g gt n : Nat} {vi vo : Value} {ins outs q : List Int}
theorem St.size (h : St w2 wr g gt n vi vo ins outs q) : w2.heap.size ≤ wr.heap.size := h.only.size
theorem St.step {w' : World} {q' : List Int} (h : St w2 wr g gt n vi vo ins outs q) (hO : Only wr w' (fun k => k = g ∨ k = gt)) (hR : RQ w' g gt n q') : St w2 w' g gt n vi vo ins outs q' :=
  ⟨hR, hO.own h.oin (own_far h.oin h.hg h.hgt), hO.own h.oout (own_far h.oout h.hg h.hgt), h.apart, h.only.then hO, h.hg, h.hgt⟩
theorem St.drawn {w' : World} (h : St w2 wr g gt n vi vo ins outs q) (d : Drawn0 wr w') : St w2 w' g gt n vi vo ins outs q := h.step (.of_below d.below _) (h.ring.drawn d)
theorem own_up {w w1 : World} {b n size : Nat} {e : TypeId} {v v' : Value} {xs : List Value} (h : w.ownsRow b e size v n xs) (hg : w.grownBy w1 v'.ownBlock) (hne : v.ownBlock = none ∨ v.ownBlock ≠ v'.ownBlock) : w1.ownsRow b e size v n xs := own_other h hg hne
theorem St.appIn {w1 : World} {v1 : Value} {x : Int} (h : St w2 wr g gt n vi vo ins outs q) (ho : w1.ownsRow w2.heap.size 3 1 v1 (ins ++ [x]).length (encs ei (ins ++ [x]))) (hb : Below w2.heap.size wr w1) (hg : wr.grownBy w1 vi.ownBlock) (hat : v1.ownBlock = vi.ownBlock ∨ ∃ b, v1.ownBlock = some b ∧ wr.heap.size ≤ b) : St w2 w1 g gt n v1 vo (ins ++ [x]) outs q := by
  have hap : vo.ownBlock = none ∨ vo.ownBlock ≠ vi.ownBlock := by
    rcases h.apart with e | e
    · cases hvo : vo.ownBlock with
      | none => exact .inl rfl
      | some b => exact .inr (by rw [e]; simp)
    · exact .inr fun e2 => e e2.symm
  refine ⟨h.ring.base hb h.hg h.hgt, ho, own_up h.oout hg hap, ?_, h.only.base hb, h.hg, h.hgt⟩
  rcases hat with e | ⟨b, e, hbb⟩
  · rw [e]; exact h.apart
  · refine .inr fun e2 => ?_
    rw [e] at e2
    have := own_lt h.oout b e2.symm
    omega
theorem St.appOut {w1 : World} {v1 : Value} {xs : List Int} (h : St w2 wr g gt n vi vo ins outs q) (ho : w1.ownsRow w2.heap.size 3 1 v1 (outs ++ xs).length (encs ei (outs ++ xs))) (hb : Below w2.heap.size wr w1) (hg : wr.grownBy w1 vo.ownBlock) (hat : v1.ownBlock = vo.ownBlock ∨ ∃ b, v1.ownBlock = some b ∧ wr.heap.size ≤ b) : St w2 w1 g gt n vi v1 ins (outs ++ xs) q := by
  refine ⟨h.ring.base hb h.hg h.hgt, own_up h.oin hg h.apart, ho, ?_, h.only.base hb, h.hg, h.hgt⟩
  rcases hat with e | ⟨b, e, hbb⟩
  · rw [e]; exact h.apart
  · cases hvi : vi.ownBlock with
    | none => exact .inl rfl
    | some b' =>
      refine .inr fun e2 => ?_
      rw [e] at e2
      injection e2 with e2
      have := own_lt h.oin b' hvi
      omega
end
theorem St.back {w2 wr : World} {g gt n : Nat} {Ai : Option Addr} {ci : Nat} {vo : Value} {ins outs q : List Int} (h : St w2 wr g gt n (.slice Ai ins.length ci) vo ins outs q) (hp : 0 < ins.length) : ∃ gi z, Ai = some ⟨gi, 0, none⟩ ∧ z ∈ ins ∧ wr.cell? ⟨gi, ins.length - 1, none⟩ = some (.int .i64 z) := by
  have ho := h.oin
  obtain ⟨gi, c, e, _, _⟩ := ho.form hp
  injection e with e1 e2 e3
  subst e1
  have a1 := (own_at_of (d := 0) ho ((ins.length - 1 : Nat) : Int) (by omega) (by omega)).1
  simp only [Int.toNat_natCast, rdOf] at a1
  refine ⟨gi, _, rfl, ?_, a1⟩
  rw [List.getD_eq_getElem?_getD, List.getElem?_eq_getElem (by omega)]
  simp
theorem St.lastc {w2 wr : World} {g gt n : Nat} {vi vo : Value} {ins outs q : List Int} {y : Int} (h : St w2 wr g gt n vi vo (ins ++ [y]) outs q) : ∃ gi c, vi = .slice (some ⟨gi, 0, none⟩) (ins.length + 1) c ∧ wr.cell? ⟨gi, ins.length, none⟩ = some (.int .i64 y) := by
  have ho := h.oin
  have e0 : (ins ++ [y]).length = ins.length + 1 := by simp
  rw [e0] at ho
  obtain ⟨gi, c, rfl, _, _⟩ := ho.form (by omega)
  have a1 := (own_at_of (d := 0) ho (ins.length : Int) (by omega) (by omega)).1
  simp only [Int.toNat_natCast, rdOf] at a1
  exact ⟨gi, c, rfl, by rw [a1]; simp⟩
theorem St.both {w2 wr : World} {g gt n : Nat} {Ai : Option Addr} {ci : Nat} {vo : Value} {ins outs q r : List Int} (h : St w2 wr g gt n (.slice Ai ins.length ci) vo ins (outs ++ q) r) (hs : Aside0 (ins = outs ++ q)) : ∃ Ao co, vo = .slice Ao ins.length co ∧ ReadsOf ei 0 wr Ai ins.length ins ∧ ReadsOf ei 0 wr Ao ins.length ins := by
  have ho := h.oout
  rw [← hs.out] at ho
  obtain ⟨A, c, rfl, h2⟩ := own_reads_of (d := 0) ho
  obtain ⟨A', c', e, h3⟩ := own_reads_of (d := 0) h.oin
  injection e with e1 e2 e3
  subst e1
  exact ⟨A, c, rfl, h3, h2⟩
theorem len_two {ins outs q : List Int} (h : ins = outs ++ q) : ins.length ≤ outs.length + q.length ∧ outs.length + q.length ≤ ins.length := by
  rw [h, List.length_append]
  exact ⟨Nat.le_refl _, Nat.le_refl _⟩
theorem take_at (w : World) {g gt n : Nat} {q : List Int} (h : RQ w g gt n q) (k : Int) (tk dr : List Int) (hk : -4096 ≤ k ∧ k ≤ 4096) (h1 : q.take k.toNat = tk) (h2 : q.drop k.toNat = dr) : Calls Try.prog 12 #[.pointer (some ⟨g, 0, none⟩), .int .i64 k] w fun e w' => ∃ A c, e = .returned (.slice A tk.length c) ∧ ReadsOf ei 0 w' A tk.length tk ∧ RQ w' g gt n dr ∧ Only w w' (fun k => k = g ∨ k = gt) := by
  subst h1 h2
  refine (take_calls w h k (by omega) (by omega)).mono ?_
  rintro e w' ⟨v, rfl, hT⟩
  obtain ⟨A, c, rfl, h3, h4⟩ := hT.slice _ _ rfl rfl
  exact ⟨A, c, rfl, h4, hT.ring, hT.only⟩
set_option maxHeartbeats 8000000 in
set_option maxRecDepth 100000 in
theorem order_ok (w : World) (n : Nat) (h0 : 0 < n) (h1 : n ≤ 4096) (A : Option Addr) (cap : Nat) (l : List Int) (hl : l.length ≤ 1048576) (HR0 : ReadsOf ei 0 w A l.length l) : Calls Try.prog 3 #[.int .i64 n, .slice A l.length cap] w fun e w' => e = .returned (.bool true) ∧ Below w.heap.size w w' := by
  have hn1 : (1 : Int) ≤ n := by omega
  have hn2 : (n : Int) ≤ 4096 := by omega
  have hu22 := Try.underlying22
  go_enter Try.func3, Try.ntmps3
  go_wp2_with (first
    | (go_at_call 8; refine (alive_calls _).mono ?_; rintro e w1 ⟨rfl, hB⟩; have hB0 := hB.size)
    | (go_at_call 9; refine (new_ok _ n h0 h1).mono ?_; rintro e wn ⟨g, gt, rfl, hR, hg, hgt, hne, hb⟩; have hB := below_step hB hb; have hAb := above_two (Nat.le_trans hB0 hg) (Nat.le_trans hB0 hgt); clear hb hg hgt)
    | (go_at_call 10; refine (num_calls _ _).mono ?_; rintro e w2 ⟨rfl, hd⟩; have hR := hR.drawn hd; have hB := dbelow hd hB; clear hd))
  have hS : St w2 w2 g gt n (.slice none 0 0) (.slice none 0 0) [] [] [] := ⟨hR, own_nil _ _ _ _, own_nil _ _ _ _, .inl rfl, Only.refl _ _, hR.lt.1, hR.lt.2⟩
  have hS : St w2 w2 g gt n (.slice none 0 0) (.slice none 0 0) [] [] [] := ⟨hR, own_nil _ _ _ _, own_nil _ _ _ _, .inl rfl, Only.refl _ _, hR.lt.1, hR.lt.2⟩
  go_loopw [9, 10, 11, 12, 13, 14, 15, 16] (fun nx vi vo i _ _ _ _ wr => ∃ (k x : Nat) (ins outs q : List Int), k ≤ l.length ∧ i = .int .i64 k ∧ nx = .int .i64 (x : Int) ∧ (x ≤ 100 * k ∧ ins.length ≤ x) ∧ Aside0 (ins = outs ++ q) ∧ (∀ y ∈ ins, y ≤ (x : Int)) ∧ Aside0 (St w2 wr g gt n vi vo ins outs q))
    (fun _ _ _ i _ _ _ _ _ => l.length - (intOf i).toNat)
  case atStart => exact ⟨0, 0, [], [], [], Nat.zero_le _, rfl, rfl, ⟨by omega, by simp⟩, ⟨rfl⟩, by simp, ⟨hS⟩⟩
  case round =>
    clear hS hR
    obtain ⟨k, x, ins, outs, q, hk, rfl, rfl, ⟨hx1, hx2⟩, hsum, hle, HS⟩ := hrel
    have hS := HS.out
    clear HS
    by_cases hlt : k < l.length
    · obtain ⟨ad, eA, hcell⟩ := HR0.2.2 (by omega)
      subst eA
      have hcl := pw_cell_below (hS.only.below hB hB.size hAb) (hcell k hlt)
      obtain ⟨sk, hsk⟩ : ∃ sk, l.getD k 0 = sk := ⟨_, rfl⟩
      rw [hsk] at hcl
      clear hcell
      obtain ⟨t, ht⟩ : ∃ t, sk.tmod 101 = t := ⟨_, rfl⟩
      have ht0 : -101 < t := by rw [← ht]; exact Int.lt_tmod_of_pos sk (by decide)
      have ht1 : t < 101 := by rw [← ht]; exact Int.tmod_lt_of_pos sk (by decide)
      have hk2 : (k : Int) < (l.length : Int) := Int.ofNat_lt.mpr hlt
      have hk0 : (0 : Int) ≤ k := Int.natCast_nonneg k
      obtain ⟨Ao, co, rfl⟩ := own_slice hS.oout
      go_wp2_with fail
      go_loopw [9, 10, 13, 14] (fun nx vi nn _ wr => ∃ (c : Int) (x : Nat) (ins q : List Int), nn = .int .i64 c ∧ nx = .int .i64 (x : Int) ∧ (-100 ≤ c ∧ c ≤ 100 ∧ x + c.toNat ≤ 100 * k + 100 ∧ ins.length ≤ x) ∧ Aside0 (ins = outs ++ q) ∧ (∀ y ∈ ins, y ≤ (x : Int)) ∧ Aside0 (St w2 wr g gt n vi (.slice Ao outs.length co) ins outs q))
        (fun _ _ nn _ _ => (intOf nn).toNat)
      case atStart => exact ⟨t, x, ins, q, rfl, rfl, ⟨by omega, by omega, by omega, hx2⟩, hsum, hle, ⟨hS⟩⟩
      case round =>
        clear hS hsum hle hx1 hx2 hcl
        obtain ⟨c, x, ins, q, rfl, rfl, ⟨hc0, hc1, hx1, hx2⟩, hsum, hle, HS⟩ := hrel
        have hS := HS.out
        clear HS
        obtain ⟨hlen1, hlen2⟩ := len_two hsum.out
        have hqn := hS.ring.len
        obtain ⟨Ai, ci, rfl⟩ := own_slice hS.oin
        by_cases hcp : 0 < c
        · by_cases hfull : q.length = n
          · obtain ⟨gi, z, e, hz, hzc⟩ := hS.back (by omega)
            subst e
            have hzx := hle z hz
            have hz3 : ¬ z = (x : Int) + 1 := by omega
            have hz1 : (z == (x : Int) + 1) = false := by simp only [beq_eq_false_iff_ne, ne_eq]; omega
            have hz2 : (z != (x : Int) + 1) = true := by simp only [bne_iff_ne, ne_eq]; omega
            have hz4 : ¬ ins.length = 0 := by omega
            have hge : (n : Int) ≤ (ins.length : Int) - (outs.length : Int) := by omega
            go_wp2_with (first
    | (go_at_call 11; refine (pushq_full _ hS.ring _ hfull).mono ?_; rintro e w9 ⟨rfl, hd⟩; have hS := hS.drawn hd; have hzc := dcell hd hzc; clear hd)
    | (go_at_call 10; refine (num_calls _ _).mono ?_; rintro e w9 ⟨rfl, hd⟩; have hS := hS.drawn hd; have hzc := dcell hd hzc; clear hd))
            go_roundw
            case rel => exact ⟨c - 1, x + 1, ins, q, by go_num, by go_num, ⟨by omega, by omega, by omega, by omega⟩, hsum, (fun y hy => by have := hle y hy; omega), ⟨hS⟩⟩
            case measure => simp [intOf]; omega
          · have hlt : q.length < n := by omega
            by_cases hnear : q.length + 1 = n
            · have hge : (n : Int) ≤ (ins.length : Int) + 1 - (outs.length : Int) := by omega
              go_wp2_with (first
    | (go_at_call 11; refine (pushq_room _ hS.ring _ hlt).mono ?_; rintro e w9 ⟨rfl, hR, hO⟩; have hS := hS.step hO hR; clear hO hR)
    | (go_at_call 10; refine (num_calls _ _).mono ?_; rintro e w9 ⟨rfl, hd⟩; have hS := hS.drawn hd; clear hd)
    | (at_builtin; refine print_append_of (w0 := _) ei w2.heap.size rfl (.tmp 72) (.tmp 74) 22 3 (.int .i64 0) 8 rfl Try.underlying22 (by kernel_rfl) rfl (by decide) _ ins _ rfl rfl rfl hS.oin (Below.refl _ _) hS.size (by omega) ?_; intro v5 w5 ho hb hg hat; have hS := hS.appIn ho hb hg hat; clear ho hb hg hat; obtain ⟨gi, ci2, rfl, hlc⟩ := hS.lastc))
              go_roundw
              case rel => exact ⟨c - 1, x + 1, ins ++ [(x : Int) + 1], q ++ [(x : Int) + 1], by go_num, by go_num, ⟨by omega, by omega, by omega, by simp; omega⟩, ⟨by rw [hsum.out, List.append_assoc]⟩, (fun y hy => by rcases List.mem_append.1 hy with h | h; (have := hle y h; omega); (simp at h; omega)), ⟨hS⟩⟩
              case measure => simp [intOf]; omega
            · have hge : (ins.length : Int) + 1 - (outs.length : Int) < (n : Int) := by omega
              go_wp2_with (first
    | (go_at_call 11; refine (pushq_room _ hS.ring _ hlt).mono ?_; rintro e w9 ⟨rfl, hR, hO⟩; have hS := hS.step hO hR; clear hO hR)
    | (go_at_call 10; refine (num_calls _ _).mono ?_; rintro e w9 ⟨rfl, hd⟩; have hS := hS.drawn hd; clear hd)
    | (at_builtin; refine print_append_of (w0 := _) ei w2.heap.size rfl (.tmp 72) (.tmp 74) 22 3 (.int .i64 0) 8 rfl Try.underlying22 (by kernel_rfl) rfl (by decide) _ ins _ rfl rfl rfl hS.oin (Below.refl _ _) hS.size (by omega) ?_; intro v5 w5 ho hb hg hat; have hS := hS.appIn ho hb hg hat; clear ho hb hg hat; obtain ⟨gi, ci2, rfl, hlc⟩ := hS.lastc))
              go_roundw
              case rel => exact ⟨c - 1, x + 1, ins ++ [(x : Int) + 1], q ++ [(x : Int) + 1], by go_num, by go_num, ⟨by omega, by omega, by omega, by simp; omega⟩, ⟨by rw [hsum.out, List.append_assoc]⟩, (fun y hy => by rcases List.mem_append.1 hy with h | h; (have := hle y h; omega); (simp at h; omega)), ⟨hS⟩⟩
              case measure => simp [intOf]; omega
        · by_cases hneg : c < 0
          · by_cases hpar : k % 2 = 0
            · have hp0 : (k : Int).tmod 2 = 0 := by rw [show (2 : Int) = ((2 : Nat) : Int) from rfl, ← Int.ofNat_tmod]; omega
              obtain ⟨tk, htk⟩ : ∃ tk, q.take (-c).toNat = tk := ⟨_, rfl⟩
              obtain ⟨dr, hdr⟩ : ∃ dr, q.drop (-c).toNat = dr := ⟨_, rfl⟩
              have htd : tk ++ dr = q := by rw [← htk, ← hdr]; exact List.take_append_drop _ _
              have htl : tk.length ≤ q.length := by rw [← htk, List.length_take]; omega
              go_wp2_with (first
    | (go_at_call 12; refine (take_at _ hS.ring (-c) tk dr ⟨by omega, by omega⟩ htk hdr).mono ?_; rintro e w8 ⟨A8, c8, rfl, hRd, hR, hO⟩; have hS := hS.step hO hR; clear hO hR)
    | (at_builtin; refine print_append_row_of (w0 := _) ei 0 w2.heap.size rfl (.tmp 116) (.tmp 120) 22 3 (.int .i64 0) 8 rfl Try.underlying22 (by kernel_rfl) rfl (by decide) (fun _ => rfl) _ outs tk _ _ _ rfl rfl hS.oout hRd (Below.refl _ _) hS.size (by omega) ?_; intro v5 w5 ho hb hg hat; have hS := hS.appOut ho hb hg hat; clear ho hb hg hat hRd))
              go_loopw [11, 13, 15, 16] (fun vo nn _ _ wr => ∃ (c : Int) (outs q : List Int), nn = .int .i64 c ∧ (-100 ≤ c ∧ c ≤ 0) ∧ Aside0 (ins = outs ++ q) ∧ Aside0 (St w2 wr g gt n (.slice Ai ins.length ci) vo ins outs q)) (fun _ nn _ _ _ => (-(intOf nn)).toNat)
              case atStart => exact ⟨_, _, _, rfl, ⟨by omega, by omega⟩, ⟨by rw [hsum.out, ← htd, List.append_assoc]⟩, ⟨hS⟩⟩
              case round =>
                clear hS hsum
                obtain ⟨c, outs, q, rfl, ⟨hc0, hc1⟩, hsum, HS⟩ := hrel
                have hS := HS.out
                clear HS
                obtain ⟨Ao, co, rfl⟩ := own_slice hS.oout
                obtain ⟨hlen1, hlen2⟩ := len_two hsum.out
                by_cases hcn : c < 0
                · by_cases hp2 : k % 2 = 0
                  · skip
                    have hp0 : (k : Int).tmod 2 = 0 := by rw [show (2 : Int) = ((2 : Nat) : Int) from rfl, ← Int.ofNat_tmod]; omega
                    have hqn := hS.ring.len
                    have hlen3 : (ins.length : Int) - (outs.length : Int) = (q.length : Int) := by omega
                    go_wp2_with (first
                        | (go_at_call 14; refine (lenq_calls _ hS.ring).mono ?_; rintro e w9 ⟨rfl, hd⟩; have hS := hS.drawn hd; clear hd))
                    go_roundw
                    case rel => exact ⟨k + 1, x, ins, outs, q, by omega, by go_num, rfl, ⟨by omega, by omega⟩, hsum, hle, ⟨hS⟩⟩
                    case measure => simp [intOf]; omega
                  · skip
                    exact absurd hpar hp2
                · have hcz : c = 0 := by omega
                  subst hcz
                  have hqn := hS.ring.len
                  have hlen3 : (ins.length : Int) - (outs.length : Int) = (q.length : Int) := by omega
                  go_wp2_with (first
                      | (go_at_call 14; refine (lenq_calls _ hS.ring).mono ?_; rintro e w9 ⟨rfl, hd⟩; have hS := hS.drawn hd; clear hd))
                  go_roundw
                  case rel => exact ⟨k + 1, x, ins, outs, q, by omega, by go_num, rfl, ⟨by omega, by omega⟩, hsum, hle, ⟨hS⟩⟩
                  case measure => simp [intOf]; omega
            · have hp0 : (k : Int).tmod 2 = 1 := by rw [show (2 : Int) = ((2 : Nat) : Int) from rfl, ← Int.ofNat_tmod]; omega
              go_wp2_with fail
              go_loopw [11, 13, 15, 16] (fun vo nn _ _ wr => ∃ (c : Int) (outs q : List Int), nn = .int .i64 c ∧ (-100 ≤ c ∧ c ≤ 0) ∧ Aside0 (ins = outs ++ q) ∧ Aside0 (St w2 wr g gt n (.slice Ai ins.length ci) vo ins outs q)) (fun _ nn _ _ _ => (-(intOf nn)).toNat)
              case atStart => exact ⟨_, _, _, rfl, ⟨by omega, by omega⟩, hsum, ⟨hS⟩⟩
              case round =>
                clear hS hsum
                obtain ⟨c, outs, q, rfl, ⟨hc0, hc1⟩, hsum, HS⟩ := hrel
                have hS := HS.out
                clear HS
                obtain ⟨Ao, co, rfl⟩ := own_slice hS.oout
                obtain ⟨hlen1, hlen2⟩ := len_two hsum.out
                by_cases hcn : c < 0
                · by_cases hp2 : k % 2 = 0
                  · skip
                    exact absurd hp2 hpar
                  · skip
                    have hp0 : (k : Int).tmod 2 = 1 := by rw [show (2 : Int) = ((2 : Nat) : Int) from rfl, ← Int.ofNat_tmod]; omega
                    by_cases hq : q = []
                    · go_wp2_with (first
                        | (go_at_call 13; refine (popq_none _ hS.ring hq).mono ?_; rintro e w9 ⟨rfl, hd⟩; have hS := hS.drawn hd; clear hd))
                      go_roundw
                      case rel => exact ⟨c + 1, outs, q, by go_num, ⟨by omega, by omega⟩, hsum, ⟨hS⟩⟩
                      case measure => simp [intOf]; omega
                    · obtain ⟨y, r, hq⟩ : ∃ y r, q = y :: r := by cases q with | nil => exact absurd rfl hq | cons y r => exact ⟨y, r, rfl⟩
                      go_wp2_with (first
                        | (go_at_call 13; refine (popq_some _ hS.ring y r hq).mono ?_; rintro e w9 ⟨rfl, hR, hO⟩; have hS := hS.step hO hR; clear hO hR)
                        | (at_builtin; refine print_append_of (w0 := _) ei w2.heap.size rfl (.tmp 137) (.tmp 139) 22 3 (.int .i64 0) 8 rfl Try.underlying22 (by kernel_rfl) rfl (by decide) _ outs _ rfl rfl rfl hS.oout (Below.refl _ _) hS.size (by omega) ?_; intro v5 w5 ho hb hg hat; have hS := hS.appOut ho hb hg hat; clear ho hb hg hat))
                      go_roundw
                      case rel => exact ⟨c + 1, outs ++ [y], r, by go_num, ⟨by omega, by omega⟩, ⟨by rw [hsum.out, hq]; simp⟩, ⟨hS⟩⟩
                      case measure => simp [intOf]; omega
                · have hcz : c = 0 := by omega
                  subst hcz
                  have hqn := hS.ring.len
                  have hlen3 : (ins.length : Int) - (outs.length : Int) = (q.length : Int) := by omega
                  go_wp2_with (first
                      | (go_at_call 14; refine (lenq_calls _ hS.ring).mono ?_; rintro e w9 ⟨rfl, hd⟩; have hS := hS.drawn hd; clear hd))
                  go_roundw
                  case rel => exact ⟨k + 1, x, ins, outs, q, by omega, by go_num, rfl, ⟨by omega, by omega⟩, hsum, hle, ⟨hS⟩⟩
                  case measure => simp [intOf]; omega
          · have hcz : c = 0 := by omega
            subst hcz
            go_wp2_with fail
            go_loopw [11, 13, 15, 16] (fun vo nn _ _ wr => ∃ (c : Int) (outs q : List Int), nn = .int .i64 c ∧ (-100 ≤ c ∧ c ≤ 0) ∧ Aside0 (ins = outs ++ q) ∧ Aside0 (St w2 wr g gt n (.slice Ai ins.length ci) vo ins outs q)) (fun _ nn _ _ _ => (-(intOf nn)).toNat)
            case atStart => exact ⟨_, _, _, rfl, ⟨by omega, by omega⟩, hsum, ⟨hS⟩⟩
            case round =>
              clear hS hsum
              obtain ⟨c, outs, q, rfl, ⟨hc0, hc1⟩, hsum, HS⟩ := hrel
              have hS := HS.out
              clear HS
              obtain ⟨Ao, co, rfl⟩ := own_slice hS.oout
              obtain ⟨hlen1, hlen2⟩ := len_two hsum.out
              by_cases hcn : c < 0
              · by_cases hp2 : k % 2 = 0
                · skip
                  have hp0 : (k : Int).tmod 2 = 0 := by rw [show (2 : Int) = ((2 : Nat) : Int) from rfl, ← Int.ofNat_tmod]; omega
                  have hqn := hS.ring.len
                  have hlen3 : (ins.length : Int) - (outs.length : Int) = (q.length : Int) := by omega
                  go_wp2_with (first
                      | (go_at_call 14; refine (lenq_calls _ hS.ring).mono ?_; rintro e w9 ⟨rfl, hd⟩; have hS := hS.drawn hd; clear hd))
                  go_roundw
                  case rel => exact ⟨k + 1, x, ins, outs, q, by omega, by go_num, rfl, ⟨by omega, by omega⟩, hsum, hle, ⟨hS⟩⟩
                  case measure => simp [intOf]; omega
                · skip
                  have hp0 : (k : Int).tmod 2 = 1 := by rw [show (2 : Int) = ((2 : Nat) : Int) from rfl, ← Int.ofNat_tmod]; omega
                  by_cases hq : q = []
                  · go_wp2_with (first
                      | (go_at_call 13; refine (popq_none _ hS.ring hq).mono ?_; rintro e w9 ⟨rfl, hd⟩; have hS := hS.drawn hd; clear hd))
                    go_roundw
                    case rel => exact ⟨c + 1, outs, q, by go_num, ⟨by omega, by omega⟩, hsum, ⟨hS⟩⟩
                    case measure => simp [intOf]; omega
                  · obtain ⟨y, r, hq⟩ : ∃ y r, q = y :: r := by cases q with | nil => exact absurd rfl hq | cons y r => exact ⟨y, r, rfl⟩
                    go_wp2_with (first
                      | (go_at_call 13; refine (popq_some _ hS.ring y r hq).mono ?_; rintro e w9 ⟨rfl, hR, hO⟩; have hS := hS.step hO hR; clear hO hR)
                      | (at_builtin; refine print_append_of (w0 := _) ei w2.heap.size rfl (.tmp 137) (.tmp 139) 22 3 (.int .i64 0) 8 rfl Try.underlying22 (by kernel_rfl) rfl (by decide) _ outs _ rfl rfl rfl hS.oout (Below.refl _ _) hS.size (by omega) ?_; intro v5 w5 ho hb hg hat; have hS := hS.appOut ho hb hg hat; clear ho hb hg hat))
                    go_roundw
                    case rel => exact ⟨c + 1, outs ++ [y], r, by go_num, ⟨by omega, by omega⟩, ⟨by rw [hsum.out, hq]; simp⟩, ⟨hS⟩⟩
                    case measure => simp [intOf]; omega
              · have hcz : c = 0 := by omega
                subst hcz
                have hqn := hS.ring.len
                have hlen3 : (ins.length : Int) - (outs.length : Int) = (q.length : Int) := by omega
                go_wp2_with (first
                    | (go_at_call 14; refine (lenq_calls _ hS.ring).mono ?_; rintro e w9 ⟨rfl, hd⟩; have hS := hS.drawn hd; clear hd))
                go_roundw
                case rel => exact ⟨k + 1, x, ins, outs, q, by omega, by go_num, rfl, ⟨by omega, by omega⟩, hsum, hle, ⟨hS⟩⟩
                case measure => simp [intOf]; omega
    · have hke : l.length = k := by omega
      subst hke
      obtain ⟨Ai, ci, rfl⟩ := own_slice hS.oin
      obtain ⟨Ao, co, rfl⟩ := own_slice hS.oout
      obtain ⟨hlen1, hlen2⟩ := len_two hsum.out
      have hqn := hS.ring.len
      have htk : q.take (n : Int).toNat = q := List.take_of_length_le (by omega)
      have hdr : q.drop (n : Int).toNat = [] := List.drop_eq_nil_of_le (by omega)
      go_wp2_with (first
    | (go_at_call 12; refine (take_at _ hS.ring n q [] ⟨by omega, by omega⟩ htk hdr).mono ?_; rintro e w8 ⟨A8, c8, rfl, hRd, hR, hO⟩; have hS := hS.step hO hR; clear hO hR)
    | (at_builtin; refine print_append_row_of (w0 := _) ei 0 w2.heap.size rfl (.tmp 155) (.tmp 158) 22 3 (.int .i64 0) 8 rfl Try.underlying22 (by kernel_rfl) rfl (by decide) (fun _ => rfl) _ outs q _ _ _ rfl rfl hS.oout hRd (Below.refl _ _) hS.size (by omega) ?_; intro v5 w5 ho hb hg hat; have hS := hS.appOut ho hb hg hat; clear ho hb hg hat hRd; obtain ⟨Ao, co, rfl, hRi, hRo⟩ := hS.both hsum)
    | (go_at_call 15; refine (same_at _ Ai Ao ci co ins ins.length rfl hRi hRo).mono ?_; rintro e w9 ⟨rfl, hd⟩; have hS := hS.drawn hd; clear hd)
    | (go_at_call 14; refine (lenq_calls _ hS.ring).mono ?_; rintro e w9 ⟨rfl, hd⟩; have hS := hS.drawn hd; clear hd)
    | (go_at_call 16; refine (roomq_calls _ hS.ring).mono ?_; rintro e w9 ⟨rfl, hd⟩; have hS := hS.drawn hd; clear hd))
      go_ret
      exact ⟨rfl, hS.only.below hB hB.size hAb⟩
set_option maxHeartbeats 4000000 in
set_option maxRecDepth 100000 in
theorem order_bad (w : World) (s : Int) (hs : s < 1 ∨ 4096 < s) (A : Option Addr) (n cap : Nat) : Calls Try.prog 3 #[.int .i64 s, .slice A n cap] w fun e w' => e = .returned (.bool true) ∧ Below w.heap.size w w' := by
  by_cases h1 : s < 1
  · go_enter Try.func3, Try.ntmps3
    go_wp2_with (first
    | (go_at_call 8; refine (alive_calls _).mono ?_; rintro e w1 ⟨rfl, hB⟩)
    | (go_at_call 9; refine (new_bad _ s hs).mono ?_; rintro e w2 ⟨rfl, hd⟩; have hB := dbelow hd hB; clear hd)
    | (go_at_call 10; refine (num_calls _ _).mono ?_; rintro e w9 ⟨rfl, hd⟩; have hB := dbelow hd hB; clear hd))
    go_ret
    exact ⟨rfl, hB⟩
  · have h2 : 4096 < s := by omega
    have h3 : 1 ≤ s := by omega
    go_enter Try.func3, Try.ntmps3
    go_wp2_with (first
    | (go_at_call 8; refine (alive_calls _).mono ?_; rintro e w1 ⟨rfl, hB⟩)
    | (go_at_call 9; refine (new_bad _ s hs).mono ?_; rintro e w2 ⟨rfl, hd⟩; have hB := dbelow hd hB; clear hd)
    | (go_at_call 10; refine (num_calls _ _).mono ?_; rintro e w9 ⟨rfl, hd⟩; have hB := dbelow hd hB; clear hd))
    go_ret
    exact ⟨rfl, hB⟩
theorem order.calls (s : Int) (A : Option Addr) (cap : Nat) (l : List Int) (hl : l.length ≤ 1048576) (w : World) (HR0 : ReadsOf ei 0 w A l.length l) : Calls Try.prog 3 #[.int .i64 s, .slice A l.length cap] w fun e w' => e = .returned (.bool true) ∧ Below w.heap.size w w' := by
  by_cases hs : s < 1 ∨ 4096 < s
  · exact order_bad w s hs A _ cap
  · obtain ⟨n, rfl⟩ : ∃ n : Nat, s = n := ⟨s.toNat, by omega⟩
    exact order_ok w n (by omega) (by omega) A cap l hl HR0
end Go.Proofs.Ytjajaklichiknaa.Rg
