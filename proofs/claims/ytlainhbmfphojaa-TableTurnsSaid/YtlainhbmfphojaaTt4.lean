/- Proved: what holds while the second Each of TableTurns goes through the keys. -/
import Derived.Test.YtlainhbmfphojaaTt3
namespace Go.Proofs.Ytlainhbmfphojaa.Tb
open Go.RowKit Go.Maps Go.Proofs.YtlainhbmfphojaaW.PrintWords Go.Proofs.YtlainhbmfphojaaW.PrintLast Go.Proofs.YtlainhbmfphojaaW.PrintMore
set_option linter.unusedVariables false
set_option linter.unusedSimpArgs false

abbrev left (K : List ByteArray) (d fr : ByteArray) (j : Nat) : List ByteArray := (K.take j).filter (fun t => decide (t ≠ d)) ++ K.drop j ++ (if 0 < j then [fr] else [])
theorem kat_notin {K : List ByteArray} (hn : K.Nodup) {j : Nat} (hj : j < K.length) : kat K j ∉ K.drop (j + 1) := by
  have h := hn
  rw [← List.take_append_drop j K, kat_drop hj] at h
  rw [List.nodup_append] at h
  exact (List.nodup_cons.1 h.2.1).1
theorem filt_self {l : List ByteArray} {d : ByteArray} (h : d ∉ l) : l.filter (fun t => decide (t ≠ d)) = l := by
  rw [List.filter_eq_self]
  intro t ht
  exact decide_eq_true (fun e => h (e ▸ ht))
theorem turn_ks {K : List ByteArray} {d fr : ByteArray} {n j : Nat} {l : LI} (hn : K.Nodup) (hj : j < K.length) (hfr : fr ∉ K) (hfd : fr ≠ d) (hroom : l.length < n) (h : ks l = left K d fr j) (hv : 0 < j → val fr l = some 5) :
    ks (turn n d fr (j : Int) (kat K j) l) = left K d fr (j + 1) ∧ val fr (turn n d fr (j : Int) (kat K j) l) = some 5 := by
  obtain ⟨l1, hl1⟩ : ∃ l1, (if kat K j = d then rm d l else l) = l1 := ⟨_, rfl⟩
  have k1 : ks l1 = (K.take (j + 1)).filter (fun t => decide (t ≠ d)) ++ K.drop (j + 1) ++ (if 0 < j then [fr] else []) := by
    rw [← hl1, kat_take hj, List.filter_append]
    by_cases c : kat K j = d
    · have nd := kat_notin hn hj
      rw [if_pos c, ks_rm, h]
      unfold left
      rw [kat_drop hj, List.filter_append, List.filter_append, List.filter_filter]
      rw [c] at nd ⊢
      rw [List.filter_cons_of_neg (by simp), filt_self nd]
      have e1 : ∀ m : List ByteArray, m.filter (fun a => decide (a ≠ d) && decide (a ≠ d)) = m.filter (fun t => decide (t ≠ d)) := fun m => by
        refine List.filter_congr fun x _ => ?_
        rw [Bool.and_self]
      have e2 : (if 0 < j then [fr] else []).filter (fun t => decide (t ≠ d)) = (if 0 < j then [fr] else []) := by
        split
        · exact filt_self (by simpa using fun e => hfd e.symm)
        · rfl
      rw [e1, e2]
      simp
    · rw [if_neg c, h]
      unfold left
      rw [kat_drop hj, List.filter_cons_of_pos (by simpa using c)]
      simp
  have v1 : 0 < j → val fr l1 = some 5 := fun q => by
    rw [← hl1]
    split
    · rw [val_rm hfd, hv q]
    · exact hv q
  have len1 : l1.length ≤ l.length := by
    rw [← hl1]
    split
    · exact rm_len d l
    · exact Nat.le_refl _
  unfold turn
  rw [hl1]
  by_cases z : j = 0
  · subst z
    rw [if_pos (by rfl)]
    have hno : fr ∉ ks l1 := by
      rw [k1, if_neg (Nat.lt_irrefl 0), List.append_nil, List.mem_append, List.mem_filter]
      rintro (q | q)
      · exact hfr (List.mem_of_mem_take q.1)
      · exact hfr (List.mem_of_mem_drop q)
    have hvn : val fr l1 = none := val_none.2 hno
    unfold putL
    rw [hvn, if_neg (by simp), if_neg (by omega)]
    refine ⟨?_, ?_⟩
    · rw [ks, List.map_append, show List.map Prod.fst l1 = ks l1 from rfl, k1]
      unfold left
      simp
    · rw [val_app hvn, val_cons, if_pos rfl]
  · rw [if_neg (by omega), k1]
    unfold left
    rw [if_pos (by omega), if_pos (by omega)]
    exact ⟨rfl, v1 (by omega)⟩
/-- Between the rounds of the second Each. -/
structure E2 (w0 : World) (B g n bn : Nat) (d fr : ByteArray) (K : List ByteArray) (S0 : Nat → Prop) (A : Option Addr) (j : Nat) (S : Nat → Prop) (l : LI) (w : World) : Prop where
  tab : Tab w 54 57 eI B g n S l
  rs : RS w A K.length K
  hA : ∀ p, A = some p → w0.heap.size ≤ p.block ∧ ¬ S p.block
  ksl : ks l = left K d fr j
  vf : 0 < j → val fr l = some 5
  cn : w.heap[bn]? = some (.cells #[.int .i64 (j : Int)] 3 (0, 0))
  only : Only w0 w (fun k => S0 k ∨ k = bn)
  new : ∀ k, S k → S0 k ∨ w0.heap.size ≤ k
theorem left_there {K : List ByteArray} {d fr : ByteArray} {j : Nat} {l : LI} (h : ks l = left K d fr j) (hj : j < K.length) : val (kat K j) l ≠ none := fun hv => by
  have := val_none.1 hv
  rw [h] at this
  refine this (List.mem_append_left _ (List.mem_append_right _ ?_))
  rw [kat_drop hj]
  exact List.mem_cons_self
theorem left_len (K : List ByteArray) (d fr : ByteArray) (j : Nat) : (left K d fr j).length ≤ K.length + 1 := by
  unfold left
  have h1 : ((K.take j).filter (fun t => decide (t ≠ d))).length ≤ (K.take j).length := List.length_filter_le _ _
  have h2 : (K.take j).length + (K.drop j).length = K.length := by rw [← List.length_append, List.take_append_drop]
  have h3 : (if 0 < j then [fr] else []).length ≤ 1 := by split <;> simp
  rw [List.length_append, List.length_append]
  omega
theorem each2 {w0 : World} {B g n bn bd bt bf ba : Nat} {add : Int} {d fr : ByteArray} {K : List ByteArray} {S0 : Nat → Prop} {l0 : LI} (hT : Tab w0 54 57 eI B g n S0 l0) (hK : ks l0 = K) (hlen : K.length ≤ 4096) (hroom : K.length + 1 < n) (hfr : fr ∉ K) (hfd : fr ≠ d) (hszf : fr.size ≤ maxLen)
    (hbn : w0.heap[bn]? = some (.cells #[.int .i64 0] 3 (0, 0))) (hbd : w0.heap[bd]? = some (.cells #[.string d] 9 (0, 0))) (hbt : w0.heap[bt]? = some (.cells #[.pointer (some ⟨g, 0, none⟩)] 26 (0, 0))) (hbf : w0.heap[bf]? = some (.cells #[.string fr] 9 (0, 0))) (hba : w0.heap[ba]? = some (.cells #[.int .i64 add] 3 (0, 0)))
    (dbd : bd ≠ bn) (dbt : bt ≠ bn) (dbf : bf ≠ bn) (dba : ba ≠ bn) (nbn : ¬ S0 bn) (nbd : ¬ S0 bd) (nbt : ¬ S0 bt) (nbf : ¬ S0 bf) (nba : ¬ S0 ba) :
    Calls Try.prog 25 #[.pointer (some ⟨g, 0, none⟩), .func (.func 27) #[] #[.pointer (some ⟨bn, 0, none⟩), .pointer (some ⟨bd, 0, none⟩), .pointer (some ⟨bt, 0, none⟩), .pointer (some ⟨bf, 0, none⟩), .pointer (some ⟨ba, 0, none⟩)]] w0 fun r w' => r = .returned (.tuple #[]) ∧ ∃ A S l, E2 w0 B g n bn d fr K S0 A K.length S l w' := by
  have hn : K.Nodup := hK ▸ hT.nd
  have hS0 := hT.lt
  have lbn := blk_lt hbn
  refine each27 w0 B g n S0 l0 _ _ _ _ _ K (fun A j S l w => E2 w0 B g n bn d fr K S0 A j S l w) (fun A j _ S l w => E2 w0 B g n bn d fr K S0 A (j + 1) S l w) hT hK.symm ?_ ?_
  · refine ⟨fun A w hb hR hA => ?_, fun A j S l w h => ⟨h.tab, h.rs⟩, fun A j y S l w h => h.tab, fun A j S l w hj h hv => ?_, fun A j y z S l w w' hj h hv ht hO => ?_, fun A j y S l w hj h hv => h⟩
    · refine ⟨hT.below hb, hR, fun p hp => ⟨hA p hp, fun h => ?_⟩, ?_, fun q => absurd q (Nat.lt_irrefl 0), (hb.block bn lbn).trans hbn, Only.of_below hb _, fun k hk => .inl hk⟩
      · have := hA p hp
        have := hS0 _ h
        omega
      · unfold left
        rw [hK]
        simp
    · exact absurd hv (left_there h.ksl hj)
    · have nS : ¬ S bn := fun q => (h.new bn q).elim nbn (fun q => by omega)
      have hne : fr ≠ kat K j := fun e => hfr (e ▸ kat_mem hj)
      refine ⟨ht, h.rs.only hO (fun p hp q => (h.hA p hp).2 q), h.hA, by rw [setL_ks]; exact h.ksl, fun _ => ?_, hO.blk h.cn nS, h.only.thenT hO (fun i hi q => (h.new i q).elim .inl (fun q => by omega)), h.new⟩
      have hne' : ¬ fr = K.getD j ByteArray.empty := hne
      rw [val_setL, if_neg hne']
      exact h.vf (Nat.succ_pos j)
  · intro A j S l w x hj h hv
    have at_ : ∀ {b v t}, w0.heap[b]? = some (.cells #[v] t (0, 0)) → ¬ S0 b → b ≠ bn → w.heap[b]? = some (.cells #[v] t (0, 0)) ∧ ¬ S b := fun {b v t} hb nb db => ⟨h.only.blk hb (fun q => q.elim nb db), fun q => (h.new b q).elim nb (fun q => by have := blk_lt hb; omega)⟩
    have nS : ¬ S bn := fun q => (h.new bn q).elim nbn (fun q => by omega)
    have hll : l.length < n := by
      have h1 := left_len K d fr j
      rw [← h.ksl, List.length_map] at h1
      omega
    obtain ⟨t1, t2⟩ := turn_ks hn hj hfr hfd hll h.ksl h.vf
    refine (f27_calls h.tab (kat K j) d fr x add (j : Int) bn bd bt bf ba h.cn (at_ hbd nbd dbd).1 (at_ hbt nbt dbt).1 (at_ hbf nbf dbf).1 (at_ hba nba dba).1 dbd dbt dbf dba nS (at_ hbd nbd dbd).2 (at_ hbt nbt dbt).2 (at_ hbf nbf dbf).2 (at_ hba nba dba).2 (Int.natCast_nonneg j) (by omega) hv hszf).mono ?_
    rintro r w' ⟨rfl, S', ht, hcn, hO, hnew⟩
    refine ⟨_, S', _, rfl, ⟨ht, h.rs.only hO (fun p hp q => ?_), fun p hp => ⟨(h.hA p hp).1, fun q => ?_⟩, t1, fun _ => t2, hcn, h.only.thenT hO (fun i hi q => ?_), fun k q => ?_⟩⟩
    · rcases q with q | q
      · have := (h.hA p hp).1
        omega
      · exact (h.hA p hp).2 q
    · rcases hnew _ q with q | q
      · exact (h.hA p hp).2 q
      · obtain ⟨ad, e3, hcell⟩ := h.rs.2.2 (by omega)
        rw [hp] at e3
        injection e3 with e3
        have h5 := World.block_lt_of_cell? w _ (hcell 0 (by omega))
        have h6 : (ad.add 0).block = ad.block := rfl
        rw [h6, ← e3] at h5
        omega
    · rcases q with q | q
      · exact .inr q
      · exact (h.new i q).elim .inl (fun q => by omega)
    · rcases hnew k q with q | q
      · exact h.new k q
      · exact .inr (Nat.le_trans h.only.size q)
theorem filt_len {d : ByteArray} : ∀ {K : List ByteArray}, K.Nodup → ((d ∈ K → (K.filter (fun t => decide (t ≠ d))).length + 1 = K.length) ∧ (d ∉ K → (K.filter (fun t => decide (t ≠ d))).length = K.length))
  | [], _ => ⟨fun h => by simp at h, fun _ => rfl⟩
  | a :: K, h => by
    obtain ⟨h1, h2⟩ := List.nodup_cons.1 h
    obtain ⟨ih1, ih2⟩ := filt_len (d := d) h2
    by_cases c : a = d
    · subst c
      rw [List.filter_cons_of_neg (by simp), filt_self h1]
      exact ⟨fun _ => rfl, fun q => absurd List.mem_cons_self q⟩
    · rw [List.filter_cons_of_pos (by simpa using c), List.length_cons, List.length_cons]
      refine ⟨fun q => ?_, fun q => ?_⟩
      · rw [ih1 ((List.mem_cons.1 q).resolve_left (fun q => c q.symm))]
      · rw [ih2 (fun r => q (List.mem_cons_of_mem _ r))]
/-- What the second Each leaves. -/
theorem E2.fin {w0 w : World} {B g n bn : Nat} {d fr : ByteArray} {K : List ByteArray} {S0 S : Nat → Prop} {A : Option Addr} {l : LI} (h : E2 w0 B g n bn d fr K S0 A K.length S l w) (hn : K.Nodup) (hfd : fr ≠ d) (h0 : 0 < K.length) :
    val d l = none ∧ val fr l = some 5 ∧ (d ∈ K → l.length = K.length) ∧ (d ∉ K → l.length = K.length + 1) := by
  have e := h.ksl
  unfold left at e
  rw [List.take_length, List.drop_length, List.append_nil, if_pos h0] at e
  refine ⟨val_none.2 ?_, h.vf h0, ?_⟩
  · rw [e, List.mem_append, List.mem_filter]
    rintro (q | q)
    · simp at q
    · exact hfd (List.mem_singleton.1 q).symm
  · have h1 : l.length = (ks l).length := (List.length_map _).symm
    obtain ⟨h2, h3⟩ := filt_len (d := d) hn
    rw [h1, e, List.length_append]
    simp only [List.length_cons, List.length_nil]
    exact ⟨fun q => h2 q, fun q => by rw [h3 q]⟩
/-- The key that is new: longer than each. -/
def fz (K : List ByteArray) : Nat → ByteArray
  | 0 => ⟨#[97, 32, 110, 101, 119, 32, 111, 110, 101]⟩
  | k + 1 => fz K k ++ kat K k
theorem fz_size (K : List ByteArray) : ∀ k, 9 ≤ (fz K k).size ∧ ∀ i, i < k → (kat K i).size < (fz K k).size
  | 0 => ⟨Nat.le_refl 9, fun i h => absurd h (Nat.not_lt_zero i)⟩
  | k + 1 => by
    obtain ⟨h1, h2⟩ := fz_size K k
    have e : (fz K (k + 1)).size = (fz K k).size + (kat K k).size := ByteArray.size_append
    refine ⟨by omega, fun i hi => ?_⟩
    by_cases c : i = k
    · subst c
      omega
    · have := h2 i (by omega)
      omega
theorem fz_le (K : List ByteArray) {z : Nat} (h : ∀ i, i < K.length → (kat K i).size ≤ z) : ∀ k, k ≤ K.length → (fz K k).size ≤ 9 + k * z
  | 0, _ => by show 9 ≤ 9 + 0 * z; omega
  | k + 1, hk => by
    have h1 := fz_le K h k (by omega)
    have h2 := h k (by omega)
    have e : (fz K (k + 1)).size = (fz K k).size + (kat K k).size := ByteArray.size_append
    rw [Nat.succ_mul]
    omega
theorem longer_notin {K : List ByteArray} {fr : ByteArray} (h : ∀ i, i < K.length → (kat K i).size < fr.size) : fr ∉ K := fun hm => by
  obtain ⟨i, hi, e⟩ := List.getElem_of_mem hm
  have h1 := h i hi
  unfold kat at h1
  rw [List.getD_eq_getElem?_getD, List.getElem?_eq_getElem hi, e] at h1
  exact Nat.lt_irrefl _ h1
end Go.Proofs.Ytlainhbmfphojaa.Tb
