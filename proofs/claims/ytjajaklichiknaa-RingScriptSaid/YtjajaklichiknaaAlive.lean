/- Proved: the walk of alive. -/
import Derived.Test.YtjajaklichiknaaTake
namespace Go.Proofs.Ytjajaklichiknaa.Rg
open Go.RowKit Go.Proofs.YtjajaklichiknaaW.PrintWords Go.Proofs.YtjajaklichiknaaW.PrintLast Go.Proofs.YtjajaklichiknaaW.PrintMore
set_option linter.unusedVariables false
set_option linter.unusedSimpArgs false

theorem above_two {b g gt : Nat} (h1 : b ≤ g) (h2 : b ≤ gt) : ∀ k, (k = g ∨ k = gt) → b ≤ k := fun k h => by rcases h with rfl | rfl <;> assumption
theorem Taken.slice {w w' : World} {g gt n k : Nat} {q : List Int} {v : Value} (h : Taken w w' g gt n q k v) (l : List Int) (m : Nat) (hl : q.take k = l) (hm : l.length = m) : ∃ A c, v = .slice A m c ∧ m ≤ c ∧ ReadsOf ei 0 w' A m l := by
  subst hl hm
  exact own_reads_of_le h.own
theorem lit2 (w : World) (a b : Int) : ReadsOf ei 0 (w.alloc (.cells #[.int .i64 a, .int .i64 b] 3)) (some ⟨w.heap.size, 0, none⟩) 2 [a, b] := by
  obtain ⟨A, c, e, h⟩ := own_reads_of (d := 0) (own_lit_of (enc := ei) w 0 3 [a, b] (Nat.zero_le _) (by simp))
  injection e with e1 e2 e3
  subst e1
  exact h
theorem same_at (w : World) (A B : Option Addr) (c d : Nat) (l : List Int) (n : Nat) (hn : l.length = n) (hA : ReadsOf ei 0 w A n l) (hB : ReadsOf ei 0 w B n l) : Calls Try.prog 15 #[.slice A n c, .slice B n d] w fun e w' => e = .returned (.bool true) ∧ Drawn0 w w' := by
  subst hn
  exact same_calls w A B c d l hA hB
set_option maxHeartbeats 4000000 in
set_option maxRecDepth 100000 in
theorem alive_calls (w : World) : Calls Try.prog 8 #[] w fun e w' => e = .returned (.bool true) ∧ Below w.heap.size w w' := by
  go_enter Try.func8, Try.ntmps8
  go_wp2_with (first
    | (go_at_call 9; refine (new_ok _ 3 (by decide) (by decide)).mono ?_; rintro e w1 ⟨g, gt, rfl, hR, hg, hgt, hne, hB⟩; have hS := above_two hg hgt)
    | (go_at_call 11; refine (pushq_room _ hR _ (by decide)).mono ?_; rintro e w9 ⟨rfl, hR, hO⟩; simp only [List.nil_append, List.cons_append, List.singleton_append] at hR; have hB := hO.below hB hB.size hS; clear hO)
    | (go_at_call 11; refine (pushq_full _ hR _ (by decide)).mono ?_; rintro e w9 ⟨rfl, hd⟩; have hR := hR.drawn hd; have hB := dbelow hd hB; clear hd)
    | (go_at_call 10; refine (num_calls _ _).mono ?_; rintro e w9 ⟨rfl, hd⟩; have hR := hR.drawn hd; have hB := dbelow hd hB; clear hd)
    | (go_at_call 13; refine (popq_some _ hR _ _ rfl).mono ?_; rintro e w9 ⟨rfl, hR, hO⟩; have hB := hO.below hB hB.size hS; clear hO)
    | (go_at_call 12; refine (take_calls _ hR 2 (by decide) (by decide)).mono ?_; rintro e w9 ⟨v, rfl, hT⟩; have hO := hT.only; have hB := hO.below hB hB.size hS; obtain ⟨A, c, rfl, hle, hRd⟩ := hT.slice [8, 9] 2 rfl rfl; have hR : RQ w9 g gt 3 [1] := hT.ring; clear hO hT)
    | ((with_reducible refine gate_callee (f := 10) rfl ?_); (try (refine gate_guard (by rfl) ?_; dsimp only)); refine goesL_ _ rfl rfl Try.func10 (by kernel_rfl) rfl _ rfl (by (try simp only [List.map_toArray, List.map_cons, List.map_nil]); first | done | rfl) ?_; refine (num_calls _ _).mono ?_; rintro e w9 ⟨rfl, hd⟩; refine ⟨_, rfl, ?_⟩; have hR := hR.drawn hd; have hB := dbelow hd hB; clear hd)
    | ((with_reducible refine gate_callee (f := 15) rfl ?_); (try (refine gate_guard (by rfl) ?_; dsimp only)); refine goesL_ _ rfl rfl Try.func15 (by kernel_rfl) rfl _ rfl (by (try simp only [List.map_toArray, List.map_cons, List.map_nil]); first | done | rfl) ?_; refine (same_at _ A _ c 2 [8, 9] 2 rfl (hRd.below (below_alloc (Below.refl _ _) _)) (lit2 w9 8 9)).mono ?_; rintro e w10 ⟨rfl, hd⟩; refine ⟨_, rfl, ?_⟩; have hR := (hR.below (below_alloc (Below.refl _ _) _)).drawn hd; have hB := dbelow hd (below_alloc hB _); clear hd)
    | ((with_reducible refine gate_callee (f := 14) rfl ?_); (try (refine gate_guard (by rfl) ?_; dsimp only)); refine goesL_ _ rfl rfl Try.func14 (by kernel_rfl) rfl _ rfl (by (try simp only [List.map_toArray, List.map_cons, List.map_nil]); first | done | rfl) ?_; refine (lenq_calls _ hR).mono ?_; rintro e w11 ⟨rfl, hd⟩; refine ⟨_, rfl, ?_⟩; have hR := hR.drawn hd; have hB := dbelow hd hB; clear hd)
    | ((with_reducible refine gate_callee (f := 16) rfl ?_); (try (refine gate_guard (by rfl) ?_; dsimp only)); refine goesL_ _ rfl rfl Try.func16 (by kernel_rfl) rfl _ rfl (by (try simp only [List.map_toArray, List.map_cons, List.map_nil]); first | done | rfl) ?_; refine (roomq_calls _ hR).mono ?_; rintro e w12 ⟨rfl, hd⟩; refine ⟨_, rfl, ?_⟩; have hR := hR.drawn hd; have hB := dbelow hd hB; clear hd))
  go_ret
  exact ⟨rfl, hB⟩
end Go.Proofs.Ytjajaklichiknaa.Rg
