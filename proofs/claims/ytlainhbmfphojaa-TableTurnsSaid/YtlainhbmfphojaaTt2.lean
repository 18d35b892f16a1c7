/- Proved: the walks of the two functions that are handed to Each. -/
import Derived.Test.YtlainhbmfphojaaTt1
namespace Go.Proofs.Ytlainhbmfphojaa.Tb
open Go.RowKit Go.Maps Go.Proofs.YtlainhbmfphojaaW.PrintWords Go.Proofs.YtlainhbmfphojaaW.PrintLast Go.Proofs.YtlainhbmfphojaaW.PrintMore
set_option linter.unusedVariables false
set_option linter.unusedSimpArgs false

theorem RS.only {w w' : World} {T : Nat → Prop} {A : Option Addr} {n : Nat} {l : List ByteArray} (h : RS w A n l) (hO : Only w w' T) (hs : ∀ a, A = some a → ¬ T a.block) : RS w' A n l := ⟨h.1, h.2.1, fun h0 => by
  obtain ⟨ad, e, hc⟩ := h.2.2 h0
  exact ⟨ad, e, fun j hj => only_cell hO (hc j hj) (by have h3 := hs ad e; simp only [Addr.add]; split <;> exact h3)⟩⟩
theorem tt_only_grown {w w1 : World} {v : Value} (hg : w.grownBy w1 v.ownBlock) : Only w w1 (fun k => v.ownBlock = some k) := ⟨hg.os, hg.tape, hg.output, hg.size, fun k hk hs => hg.block k hk (fun e => hs e.symm)⟩
set_option maxHeartbeats 4000000 in
set_option maxRecDepth 100000 in
theorem f26_calls (w : World) (B : Nat) (s : ByteArray) (x add : Int) (bc ba : Nat) (v : Value) (U : List ByteArray) (hc : w.heap[bc]? = some (.cells #[v] 22 (0, 0))) (ha : w.heap[ba]? = some (.cells #[.int .i64 add] 3 (0, 0)))
    (ho : w.ownsRow B 9 1 v U.length (encs (fun x : ByteArray => Value.string x) U)) (hne : v.ownBlock ≠ some bc) (hna : v.ownBlock ≠ some ba) (hab : ba ≠ bc) (hl : U.length ≤ 4096) (hB : B ≤ w.heap.size) :
    Calls Try.prog 26 #[.string s, .int .i64 x, .pointer (some ⟨bc, 0, none⟩), .pointer (some ⟨ba, 0, none⟩)] w fun r w' => r = .returned (.int .i64 (wrap64 (x + add))) ∧ ∃ v' : Value, w'.heap[bc]? = some (.cells #[v'] 22 (0, 0)) ∧ w'.ownsRow B 9 1 v' (U ++ [s]).length (encs (fun x : ByteArray => Value.string x) (U ++ [s])) ∧
      (v'.ownBlock = v.ownBlock ∨ ∃ b, v'.ownBlock = some b ∧ w.heap.size ≤ b) ∧ Only w w' (fun k => k = bc ∨ v.ownBlock = some k) := by
  have hu3 := Try.underlying3
  have hu22 := Try.underlying22
  have hu9 := Try.underlying9
  have hu26 := Try.underlying26
  have hu51 := Try.underlying51
  have hu52 := Try.underlying52
  have hu54 := Try.underlying54
  have hu57 := Try.underlying57
  have hu48 := Try.underlying48
  obtain ⟨A, c, rfl⟩ := own_slice ho
  have hlc := blk_lt hc
  have hla := blk_lt ha
  have hal : Below w.heap.size w (w.alloc (.cells #[.string s] 9)) := (Below.refl _ _).alloc (Nat.le_refl _) _
  have cc0 := blk_cell hc 0
  have fc0 := blk_frozen hc 0
  have ca0 := blk_cell ha 0
  have fa0 := blk_frozen ha 0
  simp only [List.getElem?_toArray, List.getElem?_cons_zero, List.getElem?_cons_succ] at cc0 ca0
  go_enter Try.func26, Try.ntmps26
  go_wp2_with (first
    | (at_builtin; refine print_append_row_of (w0 := w) (fun x : ByteArray => Value.string x) ByteArray.empty B rfl (.tmp 7) (.tmp 9) 22 9 (.string ⟨#[]⟩) 16 rfl Try.underlying22 (by kernel_rfl) rfl (by decide) (fun _ => rfl) _ U [s] (some ⟨w.heap.size, 0, none⟩) 1 1 rfl rfl (ho.alloc _) (lit1 w s) ((Below.refl B w).alloc hB _) (Nat.le_trans hB hal.size) (by omega) ?_; intro v5 w5 hown5 hB5 hg5 hat5; obtain ⟨A5, c5, rfl⟩ := own_slice hown5; have hO5 := (Only.of_below hal (fun k => k = bc ∨ (Value.slice A U.length c).ownBlock = some k)).then ((tt_only_grown hg5).mono (fun k hk => .inr hk)); have hc5 := (tt_only_grown hg5).blk (hal.block bc hlc ▸ hc) hne; have ha5 := (tt_only_grown hg5).blk (hal.block ba hla ▸ ha) hna; clear cc0 fc0 ca0 fa0; have cc0 := blk_cell hc5 0; have fc0 := blk_frozen hc5 0; have ca0 := blk_cell ha5 0; have fa0 := blk_frozen ha5 0; simp only [List.getElem?_toArray, List.getElem?_cons_zero, List.getElem?_cons_succ] at cc0 ca0))
  go_ret
  have hne5 : ∀ k, (Value.slice A5 (U ++ [s]).length c5).ownBlock = some k → ¬ k = bc := by
    rintro k hk rfl
    rcases hat5 with e | ⟨b, e, hb⟩
    · exact hne (e ▸ hk)
    · rw [hk] at e
      injection e with e
      have := hal.size
      omega
  refine ⟨rfl, .slice A5 (U ++ [s]).length c5, by simpa using blk_set hc5 0 (.slice A5 (U ++ [s]).length c5), ((Only.refl w5 (fun k => k = bc)).set rfl).own hown5 hne5, ?_, hO5.set (.inl rfl)⟩
  rcases hat5 with e | ⟨b, e, hb⟩
  · exact .inl e
  · exact .inr ⟨b, e, Nat.le_trans hal.size hb⟩
/-- What the second function leaves: its key is struck out if it is the one; a new one is laid at the first time. -/
def turn (n : Nat) (d fr : ByteArray) (z : Int) (key : ByteArray) (l : LI) : LI := if z = 0 then putL n (if key = d then rm d l else l) fr 5 else if key = d then rm d l else l
theorem f27_none : True := trivial
set_option maxHeartbeats 8000000 in
set_option maxRecDepth 100000 in
theorem f27_calls {w : World} {B g n : Nat} {S : Nat → Prop} {l : LI} (hT : Tab w 54 57 eI B g n S l) (key d fr : ByteArray) (x add z : Int) (bn bd bt bf ba : Nat) (hbn : w.heap[bn]? = some (.cells #[.int .i64 z] 3 (0, 0))) (hbd : w.heap[bd]? = some (.cells #[.string d] 9 (0, 0))) (hbt : w.heap[bt]? = some (.cells #[.pointer (some ⟨g, 0, none⟩)] 26 (0, 0))) (hbf : w.heap[bf]? = some (.cells #[.string fr] 9 (0, 0))) (hba : w.heap[ba]? = some (.cells #[.int .i64 add] 3 (0, 0))) (dbd : bd ≠ bn) (dbt : bt ≠ bn) (dbf : bf ≠ bn) (dba : ba ≠ bn) (nbn : ¬ S bn) (nbd : ¬ S bd) (nbt : ¬ S bt) (nbf : ¬ S bf) (nba : ¬ S ba)
    (h0 : 0 ≤ z) (h1 : z ≤ 4096) {y : Int} (hv : val key l = some y) (hszf : fr.size ≤ maxLen) :
    Calls Try.prog 27 #[.string key, .int .i64 x, .pointer (some ⟨bn, 0, none⟩), .pointer (some ⟨bd, 0, none⟩), .pointer (some ⟨bt, 0, none⟩), .pointer (some ⟨bf, 0, none⟩), .pointer (some ⟨ba, 0, none⟩)] w fun r w' => r = .returned (.int .i64 (wrap64 (x - add))) ∧ ∃ S', Tab w' 54 57 eI B g n S' (turn n d fr z key l) ∧ w'.heap[bn]? = some (.cells #[.int .i64 (z + 1)] 3 (0, 0)) ∧
      Only w w' (fun k => k = bn ∨ S k) ∧ (∀ k, S' k → S k ∨ w.heap.size ≤ k) := by
  have hu3 := Try.underlying3
  have hu22 := Try.underlying22
  have hu9 := Try.underlying9
  have hu26 := Try.underlying26
  have hu51 := Try.underlying51
  have hu52 := Try.underlying52
  have hu54 := Try.underlying54
  have hu57 := Try.underlying57
  have hu48 := Try.underlying48
  have cbn := blk_cell hbn 0
  have fbn := blk_frozen hbn 0
  have cbd := blk_cell hbd 0
  have fbd := blk_frozen hbd 0
  have cbt := blk_cell hbt 0
  have fbt := blk_frozen hbt 0
  have cbf := blk_cell hbf 0
  have fbf := blk_frozen hbf 0
  have cba := blk_cell hba 0
  have fba := blk_frozen hba 0
  simp only [List.getElem?_toArray, List.getElem?_cons_zero, List.getElem?_cons_succ] at cbn cbd cbt cbf cba
  have hw : wrap64 (z + 1) = z + 1 := by unfold wrap64; omega
  go_enter Try.func27, Try.ntmps27
  go_upto_region 2 with fail
  try rw [hw]
  obtain ⟨w1, hw1⟩ : ∃ w1, w.setCell ⟨bn, 0, none⟩ (.int .i64 (z + 1)) = w1 := ⟨_, rfl⟩
  have hO1 : Only w w1 (fun k => k = bn) := hw1 ▸ (Only.refl w _).set rfl
  have hbn1 : w1.heap[bn]? = some (.cells #[.int .i64 (z + 1)] 3 (0, 0)) := hw1 ▸ (by simpa using blk_set hbn 0 (.int .i64 (z + 1)))
  have hbd1 := hO1.blk hbd dbd
  have hbt1 := hO1.blk hbt dbt
  have hbf1 := hO1.blk hbf dbf
  have hba1 := hO1.blk hba dba
  have hT1 := hT.only hO1 (fun k hk e => nbn (e ▸ hk))
  rw [hw1]
  clear hw1
  clear cbn fbn cbd fbd cbt fbt cbf fbf cba fba
  have cbn := blk_cell hbn1 0
  have fbn := blk_frozen hbn1 0
  have cbd := blk_cell hbd1 0
  have fbd := blk_frozen hbd1 0
  have cbt := blk_cell hbt1 0
  have fbt := blk_frozen hbt1 0
  have cbf := blk_cell hbf1 0
  have fbf := blk_frozen hbf1 0
  have cba := blk_cell hba1 0
  have fba := blk_frozen hba1 0
  simp only [List.getElem?_toArray, List.getElem?_cons_zero, List.getElem?_cons_succ] at cbn cbd cbt cbf cba
  clear hT hbn hbd hbt hbf hba
  have hS1 := hO1.size
  have fin : ∀ (w' : World) (S' : Nat → Prop), Nx w1 w' S S' → w'.heap[bn]? = some (.cells #[.int .i64 (z + 1)] 3 (0, 0)) ∧ Only w w' (fun k => k = bn ∨ S k) ∧ (∀ k, S' k → S k ∨ w.heap.size ≤ k) := fun w' S' hN =>
    ⟨hN.only.blk hbn1 nbn, (hO1.mono (fun k hk => .inl hk)).then (hN.only.mono (fun k hk => .inr hk)), fun k hk => (hN.new k hk).imp id (fun h => Nat.le_trans hS1 h)⟩
  have fin := Aside0.mk fin
  by_cases ck : key = d
  · by_cases cz : z = 0
    · subst ck
      obtain rfl : z = 0 := cz
      have ez : turn n key fr 0 key l = putL n (if key = key then rm key l else l) fr 5 := if_pos rfl
      rw [if_pos rfl] at ez
      go_wp2_with (first
        | (go_at_call 28; refine (tdeleteI_some hT1 hv).mono ?_; rintro r w2 ⟨S2, rfl, hT2, hN2⟩; have hbn2 := hN2.only.blk hbn1 nbn; have hbd2 := hN2.only.blk hbd1 nbd; have hbt2 := hN2.only.blk hbt1 nbt; have hbf2 := hN2.only.blk hbf1 nbf; have hba2 := hN2.only.blk hba1 nba; clear cbn fbn cbd fbd cbt fbt cbf fbf cba fba; have cbn := blk_cell hbn2 0; have fbn := blk_frozen hbn2 0; have cbd := blk_cell hbd2 0; have fbd := blk_frozen hbd2 0; have cbt := blk_cell hbt2 0; have fbt := blk_frozen hbt2 0; have cbf := blk_cell hbf2 0; have fbf := blk_frozen hbf2 0; have cba := blk_cell hba2 0; have fba := blk_frozen hba2 0; simp only [List.getElem?_toArray, List.getElem?_cons_zero, List.getElem?_cons_succ] at cbn cbd cbt cbf cba; have nbn2 := hN2.apart nbn (blk_lt hbn1); have nbd2 := hN2.apart nbd (blk_lt hbd1); have nbt2 := hN2.apart nbt (blk_lt hbt1); have nbf2 := hN2.apart nbf (blk_lt hbf1); have nba2 := hN2.apart nba (blk_lt hba1))
        | (go_at_call 9; refine (tputI (x := 5) hT2 hszf).mono ?_; rintro r w3 ⟨S3, rfl, hT3, hN3⟩; have hbn3 := hN3.only.blk hbn2 nbn2; have hbd3 := hN3.only.blk hbd2 nbd2; have hbt3 := hN3.only.blk hbt2 nbt2; have hbf3 := hN3.only.blk hbf2 nbf2; have hba3 := hN3.only.blk hba2 nba2; clear cbn fbn cbd fbd cbt fbt cbf fbf cba fba; have cbn := blk_cell hbn3 0; have fbn := blk_frozen hbn3 0; have cbd := blk_cell hbd3 0; have fbd := blk_frozen hbd3 0; have cbt := blk_cell hbt3 0; have fbt := blk_frozen hbt3 0; have cbf := blk_cell hbf3 0; have fbf := blk_frozen hbf3 0; have cba := blk_cell hba3 0; have fba := blk_frozen hba3 0; simp only [List.getElem?_toArray, List.getElem?_cons_zero, List.getElem?_cons_succ] at cbn cbd cbt cbf cba))
      go_ret
      rw [ez]
      exact ⟨rfl, S3, hT3, fin.out _ _ ⟨hN2.only.thenT hN3.only (fun i hi h => ((hN2.new i h).resolve_right (by omega))), fun k hk => (hN3.new k hk).elim (fun h => hN2.new k h) (fun h => .inr (Nat.le_trans hN2.only.size h))⟩⟩
    · subst ck
      have em : (z + 1 == 1) = false := by simp only [beq_eq_false_iff_ne, ne_eq]; omega
      have ez : turn n key fr z key l = if key = key then rm key l else l := if_neg cz
      rw [if_pos rfl] at ez
      go_wp2_with (first
        | (go_at_call 28; refine (tdeleteI_some hT1 hv).mono ?_; rintro r w2 ⟨S2, rfl, hT2, hN2⟩; have hbn2 := hN2.only.blk hbn1 nbn; have hbd2 := hN2.only.blk hbd1 nbd; have hbt2 := hN2.only.blk hbt1 nbt; have hbf2 := hN2.only.blk hbf1 nbf; have hba2 := hN2.only.blk hba1 nba; clear cbn fbn cbd fbd cbt fbt cbf fbf cba fba; have cbn := blk_cell hbn2 0; have fbn := blk_frozen hbn2 0; have cbd := blk_cell hbd2 0; have fbd := blk_frozen hbd2 0; have cbt := blk_cell hbt2 0; have fbt := blk_frozen hbt2 0; have cbf := blk_cell hbf2 0; have fbf := blk_frozen hbf2 0; have cba := blk_cell hba2 0; have fba := blk_frozen hba2 0; simp only [List.getElem?_toArray, List.getElem?_cons_zero, List.getElem?_cons_succ] at cbn cbd cbt cbf cba))
      go_ret
      rw [ez]
      exact ⟨rfl, S2, hT2, fin.out _ _ hN2⟩
  · by_cases cz : z = 0
    · have eb := bs_ne ck
      obtain rfl : z = 0 := cz
      have ez : turn n d fr 0 key l = putL n (if key = d then rm d l else l) fr 5 := if_pos rfl
      rw [if_neg ck] at ez
      go_wp2_with (first
        | (go_at_call 9; refine (tputI (x := 5) hT1 hszf).mono ?_; rintro r w3 ⟨S3, rfl, hT3, hN3⟩; have hbn3 := hN3.only.blk hbn1 nbn; have hbd3 := hN3.only.blk hbd1 nbd; have hbt3 := hN3.only.blk hbt1 nbt; have hbf3 := hN3.only.blk hbf1 nbf; have hba3 := hN3.only.blk hba1 nba; clear cbn fbn cbd fbd cbt fbt cbf fbf cba fba; have cbn := blk_cell hbn3 0; have fbn := blk_frozen hbn3 0; have cbd := blk_cell hbd3 0; have fbd := blk_frozen hbd3 0; have cbt := blk_cell hbt3 0; have fbt := blk_frozen hbt3 0; have cbf := blk_cell hbf3 0; have fbf := blk_frozen hbf3 0; have cba := blk_cell hba3 0; have fba := blk_frozen hba3 0; simp only [List.getElem?_toArray, List.getElem?_cons_zero, List.getElem?_cons_succ] at cbn cbd cbt cbf cba))
      go_ret
      rw [ez]
      exact ⟨rfl, S3, hT3, fin.out _ _ hN3⟩
    · have eb := bs_ne ck
      have em : (z + 1 == 1) = false := by simp only [beq_eq_false_iff_ne, ne_eq]; omega
      have ez : turn n d fr z key l = if key = d then rm d l else l := if_neg cz
      rw [if_neg ck] at ez
      go_wp2_with fail
      go_ret
      rw [ez]
      exact ⟨rfl, S, hT1, fin.out _ _ ⟨Only.refl w1 S, fun k hk => .inl hk⟩⟩
end Go.Proofs.Ytlainhbmfphojaa.Tb
