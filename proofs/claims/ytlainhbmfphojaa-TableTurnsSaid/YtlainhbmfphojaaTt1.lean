/- Proved: the walk of Each: what the function is called for, what is laid. -/
import Derived.Test.YtlainhbmfphojaaTu2
namespace Go.Proofs.Ytlainhbmfphojaa.Tb
open Go.RowKit Go.Maps Go.Proofs.YtlainhbmfphojaaW.PrintWords Go.Proofs.YtlainhbmfphojaaW.PrintLast Go.Proofs.YtlainhbmfphojaaW.PrintMore
set_option linter.unusedVariables false
set_option linter.unusedSimpArgs false

/-- Another thing under a key that is there. -/
def setL (s : ByteArray) (y : Int) (l : LI) : LI := l.map (fun p => if p.1 = s then (s, y) else p)
theorem setL_ks (s : ByteArray) (y : Int) (l : LI) : ks (setL s y l) = ks l := by
  simp only [ks, setL, List.map_map]
  refine List.map_congr_left fun p _ => ?_
  simp only [Function.comp]
  split
  · rename_i h; exact h.symm
  · rfl
theorem setL_not {s : ByteArray} {y : Int} {l : LI} (h : s ∉ ks l) : setL s y l = l := by
  unfold setL
  conv => rhs; rw [← List.map_id l]
  refine List.map_congr_left fun p hp => ?_
  have hne : ¬ p.1 = s := fun e => h (e ▸ (List.mem_map_of_mem hp : p.1 ∈ l.map Prod.fst))
  rw [if_neg hne]
  rfl
theorem setL_kv {P S : List (E Int)} {e : E Int} (y : Int) (h : ((P ++ e :: S).map E.key).Nodup) : setL e.key y (kv (P ++ e :: S)) = kv (P ++ { e with val := y } :: S) := by
  obtain ⟨h1, h2⟩ := kd_mid h
  rw [kv_append, kv_append]
  have a := setL_not (y := y) h1
  have b := setL_not (y := y) h2
  unfold setL at a b ⊢
  rw [List.map_append, a, show kv (e :: S) = (e.key, e.val) :: kv S from rfl, List.map_cons, b, if_pos rfl]
  rfl
/-- A thing that is there: how it is found, and laid anew. -/
theorem Tab.thing {w : World} {B g n : Nat} {S : Nat → Prop} {l : LI} {s : ByteArray} {x : Int} (h : Tab w 54 57 eI B g n S l) (hv : val s l = some x) : ∃ gm b, w.cell? ⟨g, 1, none⟩ = some (.map (some gm)) ∧
    (Instr.lookup 51 (.map (some gm)) (.string s) true).run Try.prog w = .ok (.tuple #[.pointer (some ⟨b, 0, none⟩), .bool true]) w ∧ w.cell? ⟨b, 1, none⟩ = some (.int .i64 x) ∧ w.frozen? ⟨b, 1, none⟩ = false ∧
    S b ∧ ∀ y : Int, Tab (w.setCell ⟨b, 1, none⟩ (.int .i64 y)) 54 57 eI B g n S (setL s y l) ∧ Only w (w.setCell ⟨b, 1, none⟩ (.int .i64 y)) (fun k => k = b) := by
  obtain ⟨gm, L, h1, rfl, rfl⟩ := h.ex
  have hs := val_some hv
  rw [ks_kv] at hs
  obtain ⟨P, e, S, rfl, rfl⟩ := key_split hs
  rw [kv_val h1.kd] at hv
  injection hv with hv
  subst hv
  refine ⟨gm, e.blk, (blk_cell h1.blk 1).trans rfl, h1.mp.found Try.underlying51 (zero52 w) (by simp) (h1.sz _ (by simp)), (blk_cell h1.seg.at_ 1).trans rfl, blk_frozen h1.seg.at_ 1, .inr (.inr (by simp)), fun y => ?_⟩
  obtain ⟨h2, h3⟩ := h1.setval y
  refine ⟨⟨gm, _, h2, ?_, setL_kv y h1.kd⟩, h3⟩
  unfold TS
  simp
theorem Tab.lack {w : World} {B g n : Nat} {S : Nat → Prop} {l : LI} {s : ByteArray} (h : Tab w 54 57 eI B g n S l) (hv : val s l = none) (hs : s.size ≤ maxLen) : ∃ gm, w.cell? ⟨g, 1, none⟩ = some (.map (some gm)) ∧
    (Instr.lookup 51 (.map (some gm)) (.string s) true).run Try.prog w = .ok (.tuple #[.pointer none, .bool false]) w := by
  obtain ⟨gm, L, h1, rfl, rfl⟩ := h.ex
  rw [val_none, ks_kv] at hv
  exact ⟨gm, (blk_cell h1.blk 1).trans rfl, h1.mp.lacks Try.underlying51 (zero52 w) hv hs⟩
theorem Tab.sz {w : World} {B g n : Nat} {S : Nat → Prop} {l : LI} (h : Tab w 54 57 eI B g n S l) : ∀ s ∈ ks l, s.size ≤ maxLen := by
  obtain ⟨gm, L, h1, rfl, rfl⟩ := h.ex
  rw [ks_kv]
  exact h1.sz
/-- What is asked of a function that Each calls: before it is called for key number j (I), behind the call (M). -/
structure Eachly (w0 : World) (B g n : Nat) (K : List ByteArray) (l0 : LI) (S0 : Nat → Prop) (I : Option Addr → Nat → (Nat → Prop) → LI → World → Prop) (M : Option Addr → Nat → Int → (Nat → Prop) → LI → World → Prop) : Prop where
  beg : ∀ A w, Below w0.heap.size w0 w → RS w A K.length K → (∀ a, A = some a → w0.heap.size ≤ a.block) → I A 0 S0 l0 w
  tabI : ∀ A j S l w, I A j S l w → Tab w 54 57 eI B g n S l ∧ RS w A K.length K
  tabM : ∀ A j y S l w, M A j y S l w → Tab w 54 57 eI B g n S l
  skip : ∀ A j S l w, j < K.length → I A j S l w → val (K.getD j ByteArray.empty) l = none → I A (j + 1) S l w
  set_ : ∀ A j y z S l w w', j < K.length → M A j y S l w → val (K.getD j ByteArray.empty) l = some z → Tab w' 54 57 eI B g n S (setL (K.getD j ByteArray.empty) y l) → Only w w' S → I A (j + 1) S (setL (K.getD j ByteArray.empty) y l) w'
  none_ : ∀ A j y S l w, j < K.length → M A j y S l w → val (K.getD j ByteArray.empty) l = none → I A (j + 1) S l w
set_option maxHeartbeats 4000000 in
set_option maxRecDepth 100000 in
theorem each26 (w : World) (B g n : Nat) (S0 : Nat → Prop) (l0 : LI) (c0 c1 : Value) (K : List ByteArray) (I : Option Addr → Nat → (Nat → Prop) → LI → World → Prop) (M : Option Addr → Nat → Int → (Nat → Prop) → LI → World → Prop) (hT : Tab w 54 57 eI B g n S0 l0) (eK : K = ks l0) (H : Eachly w B g n K l0 S0 I M)
    (hcall : ∀ A j S l w x, j < K.length → I A j S l w → val (K.getD j ByteArray.empty) l = some x → Calls Try.prog 26 #[.string (K.getD j ByteArray.empty), .int .i64 x, c0, c1] w fun r w' => ∃ y S' l', r = .returned (.int .i64 y) ∧ M A j y S' l' w') :
    Calls Try.prog 25 #[.pointer (some ⟨g, 0, none⟩), .func (.func 26) #[] #[c0, c1]] w fun r w' => r = .returned (.tuple #[]) ∧ ∃ A S l, I A K.length S l w' := by
  have hu3 := Try.underlying3
  have hu22 := Try.underlying22
  have hu9 := Try.underlying9
  have hu26 := Try.underlying26
  have hu51 := Try.underlying51
  have hu52 := Try.underlying52
  have hu54 := Try.underlying54
  have hu57 := Try.underlying57
  have hu48 := Try.underlying48
  have hkl : K.length ≤ 4096 := by
    have := hT.len
    rw [eK, List.length_map]
    omega
  have hksz : ∀ j, j < K.length → (K.getD j ByteArray.empty).size ≤ maxLen := fun j hj => hT.sz _ (by
    rw [← eK, List.getD_eq_getElem?_getD, List.getElem?_eq_getElem hj]
    exact List.getElem_mem hj)
  have hkeys := Aside0.mk (tkeysI hT)
  rw [← eK] at hkeys
  clear eK
  go_enter Try.func25, Try.ntmps25
  go_wp2_with (first
    | (go_at_call 12; refine hkeys.out.mono ?_; rintro r w7 ⟨v7, rfl, hk7, hb7⟩; have hbs7 := own_base_ hk7; obtain ⟨A7, c7, rfl, _, hR7⟩ := own_rs hk7; clear hk7))
  have hI0 := H.beg A7 w7 hb7 hR7 (fun a ha => hbs7 a.block (by rw [ha]; rfl))
  go_loopw [12] (fun i wr => ∃ (k : Nat) (S : Nat → Prop) (l : LI), k ≤ K.length ∧ i = .int .i64 k ∧ Aside0 (I A7 k S l wr)) (fun i _ => K.length - (intOf i).toNat)
  case atStart => exact ⟨0, S0, l0, Nat.zero_le _, rfl, ⟨hI0⟩⟩
  case round =>
    clear hT hI0 hb7 hR7 hbs7
    obtain ⟨k, S, l, hk, rfl, HI⟩ := hrel
    have hk0 : (0 : Int) ≤ k := Int.natCast_nonneg k
    by_cases hlt : k < K.length
    · have hk2 : (k : Int) < (K.length : Int) := Int.ofNat_lt.mpr hlt
      obtain ⟨hT, hR⟩ := H.tabI _ _ _ _ _ HI.out
      obtain ⟨ad, s, eA, hx, gs⟩ := hR.at_ k hlt
      have hsz := hksz k hlt
      have hskip := Aside0.mk (H.skip A7 k S l _ hlt HI.out)
      have hset := Aside0.mk (H.set_ A7 k)
      have hno := Aside0.mk (H.none_ A7 k)
      have hc := Aside0.mk (hcall A7 k S l wr)
      rw [gs] at hsz hskip hset hno hc
      subst eA
      clear gs hR
      cases hv : val s l with
      | none =>
        obtain ⟨gm, cg1, hrun⟩ := hT.lack hv hsz
        go_wp2_with fail
        go_roundw
        case rel => exact ⟨k + 1, S, l, by omega, by go_num, ⟨hskip.out hv⟩⟩
        case measure => simp [intOf]; omega
      | some x =>
        obtain ⟨gm, b, cg1, hrun, ce1, fe1, hSb, hlay⟩ := hT.thing hv
        clear hlay hskip
        go_upto_region 6 with (first
          | (go_at_call 26; refine (hc.out x hlt HI.out hv).mono ?_; rintro r w3 ⟨y, S3, l3, rfl, hM3⟩; have hM3 := Aside0.mk hM3; clear cg1 hrun ce1 fe1 hc))
        have hT3 := H.tabM _ _ _ _ _ _ hM3.out
        cases hv3 : val s l3 with
        | none =>
          obtain ⟨gm, cg1, hrun⟩ := hT3.lack hv3 hsz
          go_wp2_with fail
          go_roundw
          case rel => exact ⟨k + 1, S3, l3, by omega, by go_num, ⟨hno.out y S3 l3 w3 hlt hM3.out hv3⟩⟩
          case measure => simp [intOf]; omega
        | some z =>
          obtain ⟨gm, b, cg1, hrun, ce1, fe1, hSb, hlay⟩ := hT3.thing hv3
          have hlay2 := Aside0.mk (hlay y)
          clear hlay
          go_wp2_with fail
          go_roundw
          case rel => exact ⟨k + 1, S3, _, by omega, by go_num, ⟨hset.out y z S3 l3 w3 _ hlt hM3.out hv3 hlay2.out.1 (hlay2.out.2.mono (fun i hi => hi ▸ hSb))⟩⟩
          case measure => simp [intOf]; omega
    · obtain rfl : k = K.length := by omega
      go_wp2_with fail
      go_end0
      exact ⟨rfl, A7, S, l, HI.out⟩
set_option maxHeartbeats 4000000 in
set_option maxRecDepth 100000 in
theorem each27 (w : World) (B g n : Nat) (S0 : Nat → Prop) (l0 : LI) (c0 c1 c2 c3 c4 : Value) (K : List ByteArray) (I : Option Addr → Nat → (Nat → Prop) → LI → World → Prop) (M : Option Addr → Nat → Int → (Nat → Prop) → LI → World → Prop) (hT : Tab w 54 57 eI B g n S0 l0) (eK : K = ks l0) (H : Eachly w B g n K l0 S0 I M)
    (hcall : ∀ A j S l w x, j < K.length → I A j S l w → val (K.getD j ByteArray.empty) l = some x → Calls Try.prog 27 #[.string (K.getD j ByteArray.empty), .int .i64 x, c0, c1, c2, c3, c4] w fun r w' => ∃ y S' l', r = .returned (.int .i64 y) ∧ M A j y S' l' w') :
    Calls Try.prog 25 #[.pointer (some ⟨g, 0, none⟩), .func (.func 27) #[] #[c0, c1, c2, c3, c4]] w fun r w' => r = .returned (.tuple #[]) ∧ ∃ A S l, I A K.length S l w' := by
  have hu3 := Try.underlying3
  have hu22 := Try.underlying22
  have hu9 := Try.underlying9
  have hu26 := Try.underlying26
  have hu51 := Try.underlying51
  have hu52 := Try.underlying52
  have hu54 := Try.underlying54
  have hu57 := Try.underlying57
  have hu48 := Try.underlying48
  have hkl : K.length ≤ 4096 := by
    have := hT.len
    rw [eK, List.length_map]
    omega
  have hksz : ∀ j, j < K.length → (K.getD j ByteArray.empty).size ≤ maxLen := fun j hj => hT.sz _ (by
    rw [← eK, List.getD_eq_getElem?_getD, List.getElem?_eq_getElem hj]
    exact List.getElem_mem hj)
  have hkeys := Aside0.mk (tkeysI hT)
  rw [← eK] at hkeys
  clear eK
  go_enter Try.func25, Try.ntmps25
  go_wp2_with (first
    | (go_at_call 12; refine hkeys.out.mono ?_; rintro r w7 ⟨v7, rfl, hk7, hb7⟩; have hbs7 := own_base_ hk7; obtain ⟨A7, c7, rfl, _, hR7⟩ := own_rs hk7; clear hk7))
  have hI0 := H.beg A7 w7 hb7 hR7 (fun a ha => hbs7 a.block (by rw [ha]; rfl))
  go_loopw [12] (fun i wr => ∃ (k : Nat) (S : Nat → Prop) (l : LI), k ≤ K.length ∧ i = .int .i64 k ∧ Aside0 (I A7 k S l wr)) (fun i _ => K.length - (intOf i).toNat)
  case atStart => exact ⟨0, S0, l0, Nat.zero_le _, rfl, ⟨hI0⟩⟩
  case round =>
    clear hT hI0 hb7 hR7 hbs7
    obtain ⟨k, S, l, hk, rfl, HI⟩ := hrel
    have hk0 : (0 : Int) ≤ k := Int.natCast_nonneg k
    by_cases hlt : k < K.length
    · have hk2 : (k : Int) < (K.length : Int) := Int.ofNat_lt.mpr hlt
      obtain ⟨hT, hR⟩ := H.tabI _ _ _ _ _ HI.out
      obtain ⟨ad, s, eA, hx, gs⟩ := hR.at_ k hlt
      have hsz := hksz k hlt
      have hskip := Aside0.mk (H.skip A7 k S l _ hlt HI.out)
      have hset := Aside0.mk (H.set_ A7 k)
      have hno := Aside0.mk (H.none_ A7 k)
      have hc := Aside0.mk (hcall A7 k S l wr)
      rw [gs] at hsz hskip hset hno hc
      subst eA
      clear gs hR
      cases hv : val s l with
      | none =>
        obtain ⟨gm, cg1, hrun⟩ := hT.lack hv hsz
        go_wp2_with fail
        go_roundw
        case rel => exact ⟨k + 1, S, l, by omega, by go_num, ⟨hskip.out hv⟩⟩
        case measure => simp [intOf]; omega
      | some x =>
        obtain ⟨gm, b, cg1, hrun, ce1, fe1, hSb, hlay⟩ := hT.thing hv
        clear hlay hskip
        go_upto_region 6 with (first
          | (go_at_call 27; refine (hc.out x hlt HI.out hv).mono ?_; rintro r w3 ⟨y, S3, l3, rfl, hM3⟩; have hM3 := Aside0.mk hM3; clear cg1 hrun ce1 fe1 hc))
        have hT3 := H.tabM _ _ _ _ _ _ hM3.out
        cases hv3 : val s l3 with
        | none =>
          obtain ⟨gm, cg1, hrun⟩ := hT3.lack hv3 hsz
          go_wp2_with fail
          go_roundw
          case rel => exact ⟨k + 1, S3, l3, by omega, by go_num, ⟨hno.out y S3 l3 w3 hlt hM3.out hv3⟩⟩
          case measure => simp [intOf]; omega
        | some z =>
          obtain ⟨gm, b, cg1, hrun, ce1, fe1, hSb, hlay⟩ := hT3.thing hv3
          have hlay2 := Aside0.mk (hlay y)
          clear hlay
          go_wp2_with fail
          go_roundw
          case rel => exact ⟨k + 1, S3, _, by omega, by go_num, ⟨hset.out y z S3 l3 w3 _ hlt hM3.out hv3 hlay2.out.1 (hlay2.out.2.mono (fun i hi => hi ▸ hSb))⟩⟩
          case measure => simp [intOf]; omega
    · obtain rfl : k = K.length := by omega
      go_wp2_with fail
      go_end0
      exact ⟨rfl, A7, S, l, HI.out⟩
end Go.Proofs.Ytlainhbmfphojaa.Tb
