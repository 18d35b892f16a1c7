/- Proved: two tables and a list beside them, through steps that touch other blocks; the list of keys as they are asked for in turn. -/
import Derived.Test.YtlainhbmfphojaaTf0
namespace Go.Proofs.Ytlainhbmfphojaa.Tb
open Go.RowKit Go.Maps Go.Proofs.YtlainhbmfphojaaW.PrintWords Go.Proofs.YtlainhbmfphojaaW.PrintLast Go.Proofs.YtlainhbmfphojaaW.PrintMore
set_option linter.unusedVariables false
set_option linter.unusedSimpArgs false

abbrev LS : Type := List (ByteArray × ByteArray)
theorem own_lt' {w : World} {base n size : Nat} {e : TypeId} {v : Value} {xs : List Value} (h : w.ownsRow base e size v n xs) : ∀ k, v.ownBlock = some k → k < w.heap.size ∧ base ≤ k := by
  intro k hk
  rcases h.2 with ⟨rfl, _⟩ | ⟨g, c, cur, rfl, hb, hr, _⟩
  · cases hk
  · cases hk
    exact ⟨blk_lt hr, hb⟩
theorem only_grown' {w w1 : World} {v : Value} (hg : w.grownBy w1 v.ownBlock) : Only w w1 (fun k => v.ownBlock = some k) := ⟨hg.os, hg.tape, hg.output, hg.size, fun k hk hs => hg.block k hk (fun e => hs e.symm)⟩
theorem Tab.rebase {X : Type} {w : World} {tb th : TypeId} {enc : X → Value} {B B' g n : Nat} {S : Nat → Prop} {l : List (ByteArray × X)} (h : Tab w tb th enc B g n S l) (hle : B' ≤ B) : Tab w tb th enc B' g n S l := by
  obtain ⟨gm, L, t, e1, e2⟩ := h.ex
  exact ⟨gm, L, { t with lo := ⟨Nat.le_trans hle t.lo.1, Nat.le_trans hle t.lo.2.1, fun b hb => Nat.le_trans hle (t.lo.2.2 b hb)⟩ }, e1, e2⟩
structure Rs (wa wr : World) (g1 g2 n : Nat) (S1 S2 : Nat → Prop) (l : LS) (vw : Value) (W : List ByteArray) : Prop where
  t : Tab wr 62 65 eS wa.heap.size g1 n S1 l
  u : Tab wr 62 65 eS wa.heap.size g2 n S2 []
  w : wr.ownsRow wa.heap.size 9 1 vw W.length (encs eS W)
  d12 : ∀ k, S1 k → ¬ S2 k
  dw : ∀ b, vw.ownBlock = some b → ¬ S1 b ∧ ¬ S2 b
  bel : Below wa.heap.size wa wr
def Fp (S1 S2 : Nat → Prop) (vw : Value) (k : Nat) : Prop := S1 k ∨ S2 k ∨ vw.ownBlock = some k
section
variable {wa wr w' : World} {g1 g2 n : Nat} {S1 S2 : Nat → Prop} {l : LS} {vw : Value} {W : List ByteArray}
theorem Rs.only {T : Nat → Prop} (h : Rs wa wr g1 g2 n S1 S2 l vw W) (hO : Only wr w' T) (hT : ∀ k, Fp S1 S2 vw k → ¬ T k) (hB : ∀ k, T k → wa.heap.size ≤ k) : Rs wa w' g1 g2 n S1 S2 l vw W :=
  ⟨h.t.only hO (fun k hk => hT k (.inl hk)), h.u.only hO (fun k hk => hT k (.inr (.inl hk))), hO.own h.w (fun k hk => hT k (.inr (.inr hk))), h.d12, h.dw, hO.below h.bel h.bel.size hB⟩
theorem Rs.below (h : Rs wa wr g1 g2 n S1 S2 l vw W) (hb : Below wr.heap.size wr w') : Rs wa w' g1 g2 n S1 S2 l vw W := h.only (Only.of_below hb (fun _ => False)) (fun _ _ h => h) (fun _ h => h.elim)
theorem Rs.lt (h : Rs wa wr g1 g2 n S1 S2 l vw W) : ∀ k, Fp S1 S2 vw k → k < wr.heap.size := by
  rintro k (hk | hk | hk)
  · exact h.t.lt k hk
  · exact h.u.lt k hk
  · exact (own_lt' h.w k hk).1
theorem Rs.step {S1' : Nat → Prop} {l' : LS} (h : Rs wa wr g1 g2 n S1 S2 l vw W) (ht : Tab w' 62 65 eS wa.heap.size g1 n S1' l') (hN : Nx wr w' S1 S1') : Rs wa w' g1 g2 n S1' S2 l' vw W :=
  ⟨ht, h.u.only hN.only (fun k hk hs => h.d12 k hs hk), hN.only.own h.w (fun b hb => (h.dw b hb).1), fun k hk hs => by
    rcases hN.new k hk with c | c
    · exact h.d12 k c hs
    · have := h.u.lt k hs
      omega, fun b hb => ⟨hN.apart (h.dw b hb).1 (own_lt' h.w b hb).1, (h.dw b hb).2⟩, hN.below h.t h.bel⟩
end
/-- What is under each key: the key with '!' behind it. -/
def Vs (l : LS) : Prop := ∀ p ∈ l, p.2 = p.1 ++ ⟨#[33]⟩
theorem Vs.put {l : LS} (h : Vs l) (n : Nat) (s : ByteArray) : Vs (putL n l s (s ++ ⟨#[33]⟩)) := by
  intro p hp
  unfold putL at hp
  rcases List.mem_append.1 hp with hp | hp
  · refine h p ?_
    split at hp
    · exact (List.mem_filter.1 hp).1
    · split at hp
      · exact List.mem_of_mem_tail hp
      · exact hp
  · obtain rfl : p = (s, s ++ ⟨#[33]⟩) := by simpa using hp
    rfl
theorem Vs.val_ {l : LS} (h : Vs l) {s : ByteArray} (hs : s ∈ ks l) : val s l = some (s ++ ⟨#[33]⟩) := by
  cases hv : val s l with
  | none => exact absurd hs (val_none.1 hv)
  | some x =>
    unfold val at hv
    cases hf : l.find? (fun p => decide (p.1 = s)) with
    | none => rw [hf] at hv; cases hv
    | some p =>
      rw [hf] at hv
      have hm := List.mem_of_find?_eq_some hf
      have hp0 := List.find?_some hf
      have e : p.1 = s := of_decide_eq_true hp0
      simp only [Option.map_some, Option.some.injEq] at hv
      rw [← hv, h p hm, e]
theorem Vs.get {l : LS} (h : Vs l) (s : ByteArray) : Vs (rm s l ++ [(s, s ++ ⟨#[33]⟩)]) := fun p hp => by
  rcases List.mem_append.1 hp with hp | hp
  · exact h p (List.mem_filter.1 hp).1
  · obtain rfl : p = (s, s ++ ⟨#[33]⟩) := by simpa using hp
    rfl
/-- The keys, one after the other used: their order is what it was. -/
theorem ks_turn {X : List ByteArray} {k : Nat} {l : LS} (hk : k < X.length) (nd : X.Nodup) (h : ks l = X.drop k ++ X.take k) {s : ByteArray} (hs : X.getD k ByteArray.empty = s) (y : ByteArray) : ks (rm s l ++ [(s, y)]) = X.drop (k + 1) ++ X.take (k + 1) := by
  have e : ks (rm s l ++ [(s, y)]) = (ks l).filter (fun t => decide (t ≠ s)) ++ [s] := by rw [← ks_rm]; simp [ks]
  have es : X[k] = s := by rw [← hs]; simp [List.getD_eq_getElem?_getD, hk]
  have hd : X.drop k = s :: X.drop (k + 1) := by rw [List.drop_eq_getElem_cons hk, es]
  have nd2 : (X.take k ++ s :: X.drop (k + 1)).Nodup := by rw [← hd, List.take_append_drop]; exact nd
  simp only [List.nodup_append, List.nodup_cons, List.mem_cons, ne_eq] at nd2
  obtain ⟨a, ⟨b, c⟩, d⟩ := nd2
  have e1 : (X.take k).filter (fun t => decide (t ≠ s)) = X.take k := List.filter_eq_self.2 (fun x hx => decide_eq_true (fun e => d x hx s (.inl rfl) e))
  have e2 : (X.drop (k + 1)).filter (fun t => decide (t ≠ s)) = X.drop (k + 1) := List.filter_eq_self.2 (fun x hx => decide_eq_true (fun e => b (e ▸ hx)))
  rw [e, h, hd, List.filter_append, List.filter_cons_of_neg (by simp), e1, e2, List.append_assoc, List.take_succ_eq_append_getElem hk, es]
end Go.Proofs.Ytlainhbmfphojaa.Tb
