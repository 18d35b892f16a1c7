/- Proved: who is there is who was used last: the plain law. -/
import Derived.Test.YtlainhbmfphojaaTu1
namespace Go.Proofs.Ytlainhbmfphojaa.Tb
open Go.RowKit Go.Maps Go.Proofs.YtlainhbmfphojaaW.PrintWords Go.Proofs.YtlainhbmfphojaaW.PrintLast Go.Proofs.YtlainhbmfphojaaW.PrintMore
set_option linter.unusedVariables false
set_option linter.unusedSimpArgs false

abbrev pos (U : List ByteArray) (s : ByteArray) : Int := lastI U s U.length
theorem lastI_ge (U : List ByteArray) (s : ByteArray) : ∀ k j, j < k → U.getD j ByteArray.empty = s → (j : Int) ≤ lastI U s k
  | 0, j, h, _ => absurd h (Nat.not_lt_zero _)
  | k + 1, j, h, e => by
    unfold lastI
    split
    · omega
    · rename_i hne
      have : j ≠ k := fun c => hne (c ▸ e)
      exact lastI_ge U s k j (by omega) e
theorem lastI_mem {U : List ByteArray} {s : ByteArray} (h : s ∈ U) : 0 ≤ pos U s := by
  obtain ⟨j, hj, e⟩ := List.getElem_of_mem h
  have := lastI_ge U s U.length j hj (by simp [List.getD_eq_getElem?_getD, hj, e])
  show 0 ≤ lastI U s U.length
  omega
theorem lastI_app (U : List ByteArray) (s t : ByteArray) : ∀ k, k ≤ U.length → lastI (U ++ [s]) t k = lastI U t k
  | 0, _ => rfl
  | k + 1, h => by
    unfold lastI
    rw [lastI_app U s t k (by omega), List.getD_eq_getElem?_getD, List.getElem?_append_left (by omega), ← List.getD_eq_getElem?_getD]
theorem pos_snoc (U : List ByteArray) (s t : ByteArray) : pos (U ++ [s]) t = if s = t then (U.length : Int) else pos U t := by
  unfold pos
  rw [List.length_append, List.length_singleton]
  conv => lhs; unfold lastI
  rw [lastI_app U s t U.length (Nat.le_refl _), List.getD_eq_getElem?_getD, List.getElem?_append_right (Nat.le_refl _)]
  simp
/-- What holds between the uses and the keys that are there. -/
structure Uj (U l : List ByteArray) (n : Nat) : Prop where
  nd : l.Nodup
  mem : ∀ s ∈ l, s ∈ U
  ord : l.Pairwise (fun a b => pos U a < pos U b)
  old : ∀ u ∈ U, u ∉ l → ∀ k ∈ l, pos U u < pos U k
  all : l.length < n → ∀ u ∈ U, u ∈ l
  lst : l.getLast? = U.getLast?
theorem Uj.begin (n : Nat) : Uj [] [] n := ⟨List.nodup_nil, by simp, List.Pairwise.nil, by simp, by simp, rfl⟩
theorem Uj.snoc {U l m : List ByteArray} {n : Nat} (h : Uj U l n) (s : ByteArray) (hs : m.Sublist l) (hn : s ∉ m) (h1 : ∀ t ∈ l, t ∉ m → t = s ∨ ∀ k ∈ m, pos U t < pos U k) (h2 : m.length + 1 < n → l.length < n ∧ ∀ t ∈ l, t ∈ m ∨ t = s) : Uj (U ++ [s]) (m ++ [s]) n := by
  have hp : ∀ t, t ≠ s → pos (U ++ [s]) t = pos U t := fun t c => by rw [pos_snoc, if_neg (fun e => c e.symm)]
  have hps : pos (U ++ [s]) s = U.length := by rw [pos_snoc, if_pos rfl]
  have hlt : ∀ t, pos U t < U.length := fun t => (lastI_lt U t U.length).2
  have hne : ∀ a ∈ m, a ≠ s := fun a ha e => hn (e ▸ ha)
  refine ⟨?_, ?_, ?_, ?_, ?_, by simp⟩
  · rw [List.nodup_append]
    exact ⟨hs.nodup h.nd, by simp, fun a ha b hb e => hne a ha (by simp at hb; rw [e, hb])⟩
  · intro t ht
    rcases List.mem_append.1 ht with ht | ht
    · exact List.mem_append_left _ (h.mem t (hs.subset ht))
    · exact List.mem_append_right _ ht
  · rw [List.pairwise_append]
    refine ⟨(h.ord.sublist hs).imp_of_mem (fun {a b} ha hb c => by rw [hp a (hne a ha), hp b (hne b hb)]; exact c), by simp, fun a ha b hb => ?_⟩
    obtain rfl : b = s := by simpa using hb
    rw [hp a (hne a ha), hps]
    exact hlt a
  · intro u hu hul k hk
    simp only [List.mem_append, List.mem_singleton, not_or] at hu hul hk
    have hu1 : u ∈ U := hu.resolve_right hul.2
    rw [hp u hul.2]
    rcases hk with hk | rfl
    · rw [hp k (hne k hk)]
      by_cases c : u ∈ l
      · rcases h1 u c hul.1 with e | e
        · exact absurd e hul.2
        · exact e k hk
      · exact h.old u hu1 c k (hs.subset hk)
    · rw [hps]
      exact hlt u
  · intro hl u hu
    rw [List.length_append, List.length_singleton] at hl
    obtain ⟨a, b⟩ := h2 hl
    simp only [List.mem_append, List.mem_singleton] at hu ⊢
    rcases hu with hu | hu
    · exact b u (h.all a u hu)
    · exact .inr hu
theorem ks_rm {X : Type} (s : ByteArray) (l : List (ByteArray × X)) : ks (rm s l) = (ks l).filter (fun t => decide (t ≠ s)) := by
  induction l with
  | nil => rfl
  | cons p l ih =>
    simp only [ks, rm] at ih ⊢
    by_cases c : p.1 = s
    · rw [List.filter_cons_of_neg (by simpa using c), List.map_cons, List.filter_cons_of_neg (by simpa using c), ih]
    · rw [List.filter_cons_of_pos (by simpa using c), List.map_cons, List.map_cons, List.filter_cons_of_pos (by simpa using c), ih]
theorem Uj.use {U l : List ByteArray} {n : Nat} (h : Uj U l n) (s : ByteArray) (hs : s ∈ l) : Uj (U ++ [s]) (l.filter (fun t => decide (t ≠ s)) ++ [s]) n := by
  refine h.snoc s List.filter_sublist (by simp) (fun t ht hn => .inl ?_) (fun hl => ⟨?_, fun t ht => ?_⟩)
  · by_cases c : t = s
    · exact c
    · exact absurd (List.mem_filter.2 ⟨ht, by simpa using c⟩) hn
  · obtain ⟨P, S, rfl⟩ := List.append_of_mem hs
    have hnd := h.nd
    simp only [List.nodup_append, List.nodup_cons, List.mem_cons, ne_eq] at hnd
    obtain ⟨a, ⟨b, c⟩, d⟩ := hnd
    have e1 : P.filter (fun t => decide (t ≠ s)) = P := List.filter_eq_self.2 (fun x hx => decide_eq_true (fun e => d x hx s (.inl rfl) e))
    have e2 : S.filter (fun t => decide (t ≠ s)) = S := List.filter_eq_self.2 (fun x hx => decide_eq_true (fun e => b (e ▸ hx)))
    rw [List.filter_append, List.filter_cons_of_neg (by simp), e1, e2] at hl
    simp only [List.length_append, List.length_cons] at hl ⊢
    omega
  · by_cases c : t = s
    · exact .inr c
    · exact .inl (List.mem_filter.2 ⟨ht, by simpa using c⟩)
theorem Uj.put {U : List ByteArray} {n : Nat} {l : LI} (h : Uj U (ks l) n) (hn : l.length ≤ n) (s : ByteArray) (x : Int) : Uj (U ++ [s]) (ks (putL n l s x)) n := by
  have e : ∀ m : LI, ks (m ++ [(s, x)]) = ks m ++ [s] := fun m => by simp [ks]
  unfold putL
  rw [e]
  cases hv : val s l with
  | some y =>
    rw [if_pos (show (some y).isSome = true from rfl), ks_rm]
    exact h.use s (val_some hv)
  | none =>
    have hs := val_none.1 hv
    rw [if_neg (by simp)]
    by_cases c : l.length = n
    · rw [if_pos c]
      cases l with
      | nil => exact h.snoc s (List.Sublist.refl _) hs (fun t ht hn => absurd ht hn) (fun hl => ⟨by simpa using Nat.lt_of_succ_lt hl, fun t ht => .inl ht⟩)
      | cons p l =>
        have ho := h.ord
        simp only [ks, List.map_cons, List.pairwise_cons] at ho
        refine h.snoc s (List.sublist_cons_self _ _) (fun hm => hs (List.mem_cons_of_mem _ hm)) (fun t ht hn => .inr fun k hk => ?_) (fun hl => ?_)
        · simp only [ks, List.map_cons, List.mem_cons] at ht
          rcases ht with rfl | ht
          · exact ho.1 k hk
          · exact absurd ht hn
        · simp at hl c
          omega
    · rw [if_neg c]
      exact h.snoc s (List.Sublist.refl _) hs (fun t ht hn => absurd ht hn) (fun hl => ⟨Nat.lt_of_succ_lt hl, fun t ht => .inl ht⟩)
theorem Uj.get {U : List ByteArray} {n : Nat} {l : LI} (h : Uj U (ks l) n) {s : ByteArray} {x : Int} (hv : val s l = some x) : Uj (U ++ [s]) (ks (rm s l ++ [(s, x)])) n := by
  have e : ks (rm s l ++ [(s, x)]) = (ks l).filter (fun t => decide (t ≠ s)) ++ [s] := by rw [← ks_rm]; simp [ks]
  rw [e]
  exact h.use s (val_some hv)
/-- The things' numbers: places of a Put. -/
def Vj (keys : List ByteArray) (i : Nat) (l : LI) : Prop := ∀ p ∈ l, ∃ x : Nat, p.2 = (x : Int) ∧ x < i ∧ x % 2 = 0 ∧ keys.getD x ByteArray.empty = p.1
theorem Vj.rm_ {keys : List ByteArray} {i : Nat} {l : LI} (h : Vj keys i l) (s : ByteArray) : Vj keys i (rm s l) := fun p hp => h p (List.mem_filter.1 hp).1
theorem Vj.mono {keys : List ByteArray} {i j : Nat} {l : LI} (h : Vj keys i l) (hij : i ≤ j) : Vj keys j l := fun p hp => by
  obtain ⟨x, h1, h2, h3⟩ := h p hp
  exact ⟨x, h1, by omega, h3⟩
theorem Vj.put {keys : List ByteArray} {i n : Nat} {l : LI} (h : Vj keys i l) (hi : i % 2 = 0) {s : ByteArray} (hs : keys.getD i ByteArray.empty = s) : Vj keys (i + 1) (putL n l s (i : Int)) := by
  intro p hp
  unfold putL at hp
  rcases List.mem_append.1 hp with hp | hp
  · refine (h.mono (Nat.le_succ i)) p ?_
    split at hp
    · exact (List.mem_filter.1 hp).1
    · split at hp
      · exact List.mem_of_mem_tail hp
      · exact hp
  · obtain rfl : p = (s, (i : Int)) := by simpa using hp
    exact ⟨i, rfl, by omega, hi, hs⟩
theorem val_mem {s : ByteArray} {x : Int} {l : LI} (h : val s l = some x) : (s, x) ∈ l := by
  unfold val at h
  cases hf : l.find? (fun p => decide (p.1 = s)) with
  | none => rw [hf] at h; cases h
  | some p =>
    rw [hf] at h
    have hm := List.mem_of_find?_eq_some hf
    have hp := List.find?_some hf
    simp only [Option.map_some, Option.some.injEq] at h
    have e : p.1 = s := of_decide_eq_true hp
    obtain ⟨a, b⟩ := p
    simp only at e h
    subst e h
    exact hm
theorem Vj.get {keys : List ByteArray} {i : Nat} {l : LI} (h : Vj keys i l) {s : ByteArray} {x : Int} (hv : val s l = some x) : Vj keys i (rm s l ++ [(s, x)]) := fun p hp => by
  rcases List.mem_append.1 hp with hp | hp
  · exact h.rm_ s p hp
  · obtain rfl : p = (s, x) := by simpa using hp
    exact h _ (val_mem hv)
/-- What is told of the list's element number j. -/
theorem Uj.told {U l : List ByteArray} {n : Nat} (h : Uj U l n) : (∀ j, j < l.length → 0 ≤ pos U (l.getD j ByteArray.empty)) ∧ (∀ j, j + 1 < l.length → pos U (l.getD j ByteArray.empty) < pos U (l.getD (j + 1) ByteArray.empty)) := by
  have hg : ∀ j (hj : j < l.length), l.getD j ByteArray.empty = l[j] := fun j hj => by simp [List.getD_eq_getElem?_getD, hj]
  refine ⟨fun j hj => ?_, fun j hj => ?_⟩
  · rw [hg j hj]
    exact lastI_mem (h.mem _ (List.getElem_mem hj))
  · rw [hg j (by omega), hg (j + 1) hj]
    exact List.pairwise_iff_getElem.1 h.ord j (j + 1) (by omega) hj (by omega)
theorem Uj.allIn {U l : List ByteArray} {n : Nat} (h : Uj U l n) (hl : l.length < n) : ∀ j, j < U.length → 0 ≤ lastI l (U.getD j ByteArray.empty) l.length := fun j hj => by
  have hg : U.getD j ByteArray.empty = U[j] := by simp [List.getD_eq_getElem?_getD, hj]
  rw [hg]
  exact lastI_mem (h.all hl _ (List.getElem_mem hj))
theorem Uj.laterIn {U l : List ByteArray} {n : Nat} (h : Uj U l n) (hl : 0 < l.length) : ∀ j : Nat, lastI U (l.getD 0 ByteArray.empty) U.length < (j : Int) → j < U.length → 0 ≤ lastI l (U.getD j ByteArray.empty) l.length := fun j hj hlt => by
  have hg : U.getD j ByteArray.empty = U[j] := by simp [List.getD_eq_getElem?_getD, hlt]
  have hg0 : l.getD 0 ByteArray.empty = l[0] := by simp [List.getD_eq_getElem?_getD, hl]
  rw [hg0] at hj
  rw [hg]
  by_cases c : U[j] ∈ l
  · exact lastI_mem c
  · have h1 := h.old _ (List.getElem_mem hlt) c _ (List.getElem_mem hl)
    have h2 := lastI_ge U U[j] U.length j hlt (by simp [List.getD_eq_getElem?_getD, hlt])
    unfold pos at h1
    omega
theorem Uj.ends {U l : List ByteArray} {n : Nat} (h : Uj U l n) (hU : U ≠ []) : 0 < l.length ∧ 0 < U.length ∧ l.getD (l.length - 1) ByteArray.empty = U.getD (U.length - 1) ByteArray.empty := by
  have hl := h.lst
  have hl0 : l ≠ [] := fun e => by
    subst e
    rw [List.getLast?_nil] at hl
    exact hU (List.getLast?_eq_none_iff.1 hl.symm)
  refine ⟨List.length_pos_iff.2 hl0, List.length_pos_iff.2 hU, ?_⟩
  rw [List.getLast?_eq_getElem?, List.getLast?_eq_getElem?] at hl
  rw [List.getD_eq_getElem?_getD, List.getD_eq_getElem?_getD, hl]
end Go.Proofs.Ytlainhbmfphojaa.Tb
