/- Proved: what holds while Each goes through the keys, for both functions of TableTurns. -/
import Derived.Test.YtlainhbmfphojaaTt2
namespace Go.Proofs.Ytlainhbmfphojaa.Tb
open Go.RowKit Go.Maps Go.Proofs.YtlainhbmfphojaaW.PrintWords Go.Proofs.YtlainhbmfphojaaW.PrintLast Go.Proofs.YtlainhbmfphojaaW.PrintMore
set_option linter.unusedVariables false
set_option linter.unusedSimpArgs false

abbrev kat (K : List ByteArray) (j : Nat) : ByteArray := K.getD j ByteArray.empty
theorem kat_mem {K : List ByteArray} {j : Nat} (h : j < K.length) : kat K j ∈ K := by
  unfold kat
  rw [List.getD_eq_getElem?_getD, List.getElem?_eq_getElem h]
  exact List.getElem_mem h
theorem kat_inj {K : List ByteArray} (hn : K.Nodup) {i j : Nat} (hi : i < K.length) (hj : j < K.length) (h : kat K i = kat K j) : i = j := by
  unfold kat at h
  rw [List.getD_eq_getElem?_getD, List.getD_eq_getElem?_getD, List.getElem?_eq_getElem hi, List.getElem?_eq_getElem hj] at h
  rcases Nat.lt_trichotomy i j with c | c | c
  · exact absurd h (List.pairwise_iff_getElem.1 hn i j hi hj c)
  · exact c
  · exact absurd h.symm (List.pairwise_iff_getElem.1 hn j i hj hi c)
theorem kat_take {K : List ByteArray} {j : Nat} (h : j < K.length) : K.take (j + 1) = K.take j ++ [kat K j] := by
  unfold kat
  rw [List.take_add_one, List.getD_eq_getElem?_getD, List.getElem?_eq_getElem h]
  rfl
theorem kat_drop {K : List ByteArray} {j : Nat} (h : j < K.length) : K.drop j = kat K j :: K.drop (j + 1) := by
  unfold kat
  rw [List.drop_eq_getElem_cons h, List.getD_eq_getElem?_getD, List.getElem?_eq_getElem h]
  rfl
theorem val_cons {X : Type} (s : ByteArray) (p : ByteArray × X) (l : List (ByteArray × X)) : val s (p :: l) = if p.1 = s then some p.2 else val s l := by
  unfold val
  rw [List.find?_cons]
  by_cases c : p.1 = s <;> simp [c]
theorem val_setL (s t : ByteArray) (y : Int) : ∀ l : LI, val s (setL t y l) = if s = t then (val s l).map (fun _ => y) else val s l
  | [] => by simp [setL, val]
  | p :: l => by
    have ih := val_setL s t y l
    unfold setL at ih ⊢
    rw [List.map_cons, val_cons, val_cons, ih]
    by_cases c : p.1 = t
    · rw [if_pos c]
      by_cases d : s = t
      · subst d
        simp [c]
      · have e : ¬ p.1 = s := fun e => d (e ▸ c)
        have f : ¬ t = s := fun e => d e.symm
        simp [d, e, f]
    · rw [if_neg c]
      by_cases d : s = t
      · subst d
        simp [c]
      · simp [d]
theorem val_rm {X : Type} {s t : ByteArray} (h : s ≠ t) : ∀ l : List (ByteArray × X), val s (rm t l) = val s l
  | [] => rfl
  | p :: l => by
    have ih := val_rm h l
    unfold rm at ih ⊢
    rw [val_cons]
    by_cases c : p.1 = t
    · rw [List.filter_cons_of_neg (by simp [c]), ih, if_neg (fun e => h (e.symm.trans c))]
    · rw [List.filter_cons_of_pos (by simpa using c), val_cons, ih]
theorem val_app {X : Type} {s : ByteArray} {l m : List (ByteArray × X)} (h : val s l = none) : val s (l ++ m) = val s m := by
  unfold val at h ⊢
  rw [Option.map_eq_none_iff] at h
  rw [List.find?_append, h]
  rfl
/-- What was put, one after the other. -/
def Pj (keys : List ByteArray) (i : Nat) (l : LI) : Prop := l.length ≤ i ∧ ∀ p ∈ l, ∃ x : Nat, p.2 = (x : Int) ∧ x < i ∧ keys.getD x ByteArray.empty = p.1
theorem Pj.begin (keys : List ByteArray) : Pj keys 0 [] := ⟨Nat.le_refl _, fun p hp => by simp at hp⟩
theorem Pj.put {keys : List ByteArray} {i n : Nat} {l : LI} {s : ByteArray} (h : Pj keys i l) (hs : keys.getD i ByteArray.empty = s) : Pj keys (i + 1) (putL n l s (i : Int)) := by
  have hsub : ∀ p ∈ (if (val s l).isSome then rm s l else if l.length = n then l.tail else l), p ∈ l := by
    intro p hp
    split at hp
    · exact (List.mem_filter.1 hp).1
    · split at hp
      · exact List.mem_of_mem_tail hp
      · exact hp
  have hlen : (if (val s l).isSome then rm s l else if l.length = n then l.tail else l).length ≤ l.length := by
    split
    · exact rm_len s l
    · split
      · rw [List.length_tail]; omega
      · exact Nat.le_refl _
  unfold putL
  refine ⟨by rw [List.length_append, List.length_singleton]; have := h.1; omega, fun p hp => ?_⟩
  rcases List.mem_append.1 hp with hp | hp
  · obtain ⟨x, a, b, c⟩ := h.2 p (hsub p hp)
    exact ⟨x, a, by omega, c⟩
  · obtain rfl : p = (s, (i : Int)) := by simpa using hp
    exact ⟨i, rfl, by omega, hs⟩
theorem val_at2 {l : LI} (hn : (ks l).Nodup) {p : ByteArray × Int} (hp : p ∈ l) : val p.1 l = some p.2 := by
  obtain ⟨P, S, rfl⟩ := List.append_of_mem hp
  refine val_mid fun hm => ?_
  simp only [ks, List.map_append, List.map_cons, List.nodup_append, List.mem_cons, ne_eq] at hn
  exact hn.2.2 _ hm _ (.inl rfl) rfl
theorem Pj.at_ {keys : List ByteArray} {i : Nat} {l : LI} (h : Pj keys i l) (hn : (ks l).Nodup) {j : Nat} (hj : j < (ks l).length) : ∃ x : Nat, x < i ∧ keys.getD x ByteArray.empty = kat (ks l) j ∧ val (kat (ks l) j) l = some (x : Int) := by
  have hj2 : j < l.length := by simpa using hj
  have e : kat (ks l) j = l[j].1 := by
    unfold kat
    simp [List.getD_eq_getElem?_getD, hj2]
  obtain ⟨x, a, b, c⟩ := h.2 l[j] (List.getElem_mem hj2)
  refine ⟨x, b, by rw [e]; exact c, ?_⟩
  rw [e, ← a]
  exact val_at2 hn (List.getElem_mem hj2)
/-- Between the rounds of the first Each: values up to a are laid anew; c keys were called. -/
structure E1 (w0 : World) (B g n bc ba : Nat) (add : Int) (K kl : List ByteArray) (S0 : Nat → Prop) (A : Option Addr) (a c : Nat) (S : Nat → Prop) (l : LI) (w : World) : Prop where
  eS : S = S0
  tab : Tab w 54 57 eI B g n S l
  rs : RS w A K.length K
  hA : ∀ p, A = some p → w0.heap.size ≤ p.block
  kseq : ks l = K
  vals : ∀ i, i < K.length → ∃ x : Nat, x < kl.length ∧ kl.getD x ByteArray.empty = kat K i ∧ val (kat K i) l = some (if i < a then wrap64 ((x : Int) + add) else (x : Int))
  called : ∃ v : Value, w.heap[bc]? = some (.cells #[v] 22 (0, 0)) ∧ w.ownsRow w0.heap.size 9 1 v (K.take c).length (encs (fun x : ByteArray => Value.string x) (K.take c)) ∧ ∀ p, A = some p → v.ownBlock ≠ some p.block
  only : Only w0 w (fun k => S0 k ∨ k = bc)
structure M1 (w0 : World) (B g n bc ba : Nat) (add : Int) (K kl : List ByteArray) (S0 : Nat → Prop) (A : Option Addr) (j : Nat) (y : Int) (S : Nat → Prop) (l : LI) (w : World) : Prop where
  e : E1 w0 B g n bc ba add K kl S0 A j (j + 1) S l w
  y_ : ∃ x : Nat, x < kl.length ∧ kl.getD x ByteArray.empty = kat K j ∧ y = wrap64 ((x : Int) + add)
theorem each1 {w0 : World} {B g n bc ba : Nat} {add : Int} {K kl : List ByteArray} {S0 : Nat → Prop} {l0 : LI} (hT : Tab w0 54 57 eI B g n S0 l0) (hK : ks l0 = K) (hP : Pj kl kl.length l0) (hlen : K.length ≤ 4096)
    (hc : w0.heap[bc]? = some (.cells #[.slice none 0 0] 22 (0, 0))) (ha : w0.heap[ba]? = some (.cells #[.int .i64 add] 3 (0, 0))) (nc : ¬ S0 bc) (na : ¬ S0 ba) (hab : ba ≠ bc) :
    Calls Try.prog 25 #[.pointer (some ⟨g, 0, none⟩), .func (.func 26) #[] #[.pointer (some ⟨bc, 0, none⟩), .pointer (some ⟨ba, 0, none⟩)]] w0 fun r w' => r = .returned (.tuple #[]) ∧ ∃ A S l, E1 w0 B g n bc ba add K kl S0 A K.length K.length S l w' := by
  have hn : K.Nodup := hK ▸ hT.nd
  have hS0 := hT.lt
  have lc := blk_lt hc
  have la := blk_lt ha
  refine each26 w0 B g n S0 l0 _ _ K (fun A j S l w => E1 w0 B g n bc ba add K kl S0 A j j S l w) (fun A j y S l w => M1 w0 B g n bc ba add K kl S0 A j y S l w) hT hK.symm ?_ ?_
  · refine ⟨fun A w hb hR hA => ?_, fun A j S l w h => ⟨h.tab, h.rs⟩, fun A j y S l w h => h.e.tab, fun A j S l w hj h hv => ?_, fun A j y z S l w w' hj h hv ht hO => ?_, fun A j y S l w hj h hv => ?_⟩
    · refine ⟨rfl, hT.below hb, hR, hA, hK, fun i hi => ?_, ⟨.slice none 0 0, (hb.block bc lc).trans hc, own_nil _ _ _ _, fun p hp => by simp [Value.ownBlock]⟩, Only.of_below hb _⟩
      obtain ⟨x, a, b, c⟩ := hP.at_ hT.nd (j := i) (by rw [hK]; exact hi)
      rw [hK] at b c
      exact ⟨x, a, b, by rw [if_neg (Nat.not_lt_zero i)]; exact c⟩
    · obtain ⟨x, _, _, c⟩ := h.vals j hj
      rw [hv] at c
      cases c
    · obtain ⟨⟨rfl, tab, rs, hA, kseq, vals, ⟨v, c1, c2, c3⟩, only⟩, y_⟩ := h
      refine ⟨rfl, ht, rs.only hO (fun p hp h => ?_), hA, by rw [setL_ks]; exact kseq, fun i hi => ?_, ⟨v, hO.blk c1 nc, hO.own c2 (fun k hk h => ?_), c3⟩, only.thenT hO (fun i _ h => .inl h)⟩
      · have := hA p hp
        have := hS0 _ h
        omega
      · rw [val_setL]
        by_cases e : kat K i = kat K j
        · obtain rfl := kat_inj hn hi hj e
          obtain ⟨x, a, b, c⟩ := y_
          refine ⟨x, a, b, ?_⟩
          have hv' : val (kat K i) l = some z := hv
          rw [if_pos rfl, hv', if_pos (Nat.lt_succ_self i), c]
          rfl
        · obtain ⟨x, a, b, c⟩ := vals i hi
          refine ⟨x, a, b, ?_⟩
          have hij : i ≠ j := fun q => e (q ▸ rfl)
          rw [if_neg e, c]
          by_cases q : i < j
          · rw [if_pos q, if_pos (by omega)]
          · rw [if_neg q, if_neg (by omega)]
      · have := own_base_ c2 k hk
        have := hS0 _ h
        omega
    · obtain ⟨x, _, _, c⟩ := h.e.vals j hj
      have hv' : val (kat K j) l = none := hv
      rw [hv'] at c
      cases c
  · intro A j S l w x hj h hv
    obtain ⟨rfl, tab, rs, hA, kseq, vals, ⟨v, c1, c2, c3⟩, only⟩ := h
    have hob := own_base_ c2
    have ha2 := only.blk ha (fun h => h.elim na hab)
    have hlt : (K.take j).length ≤ 4096 := by rw [List.length_take]; omega
    refine (f26_calls w w0.heap.size (kat K j) x add bc ba v (K.take j) c1 ha2 c2 (fun e => by have := hob _ e; omega) (fun e => by have := hob _ e; omega) hab hlt only.size).mono ?_
    rintro r w' ⟨rfl, v', d1, d2, d3, hO⟩
    refine ⟨_, S, l, rfl, ⟨⟨rfl, tab.only hO (fun k hk h => ?_), rs.only hO (fun p hp h => ?_), hA, kseq, vals, ⟨v', d1, by rw [kat_take hj]; exact d2, fun p hp e => ?_⟩, only.thenT hO (fun i hi h => ?_)⟩, ?_⟩⟩
    · rcases h with h | h
      · exact nc (h ▸ hk)
      · have := hob _ h
        have := hS0 _ hk
        omega
    · rcases h with h | h
      · have := hA p hp
        omega
      · exact c3 p hp h
    · rcases d3 with e2 | ⟨b, e2, hb⟩
      · exact c3 p hp (e2 ▸ e)
      · rw [e] at e2
        injection e2 with e2
        obtain ⟨ad, e3, hcell⟩ := rs.2.2 (by omega)
        rw [hp] at e3
        injection e3 with e3
        have h5 := World.block_lt_of_cell? w _ (hcell 0 (by omega))
        have h6 : (ad.add 0).block = ad.block := rfl
        rw [h6, ← e3] at h5
        omega
    · rcases h with h | h
      · exact .inr h
      · have := hob _ h
        omega
    · obtain ⟨x', a, b, c⟩ := vals j hj
      have hv' : val (kat K j) l = some x := hv
      rw [hv', if_neg (Nat.lt_irrefl j)] at c
      injection c with c
      exact ⟨x', a, b, by rw [c]⟩
end Go.Proofs.Ytlainhbmfphojaa.Tb
