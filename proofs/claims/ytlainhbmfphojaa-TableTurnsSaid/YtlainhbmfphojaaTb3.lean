/- Proved: the map of a table as the list of its things; what a step does to both. -/
import Derived.Test.YtlainhbmfphojaaTb2
namespace Go.Proofs.Ytlainhbmfphojaa.Tb
open Go.RowKit Go.Maps Go.Proofs.YtlainhbmfphojaaW.PrintWords Go.Proofs.YtlainhbmfphojaaW.PrintLast Go.Proofs.YtlainhbmfphojaaW.PrintMore
set_option linter.unusedVariables false
set_option linter.unusedSimpArgs false

theorem law9 : Keyed Try.prog 9 := string_keyed Try.underlying9
abbrev kl (s : ByteArray) : Lit := .string s.data.toList
instance : DecidableEq ByteArray := fun a b => decidable_of_iff (a.data = b.data) ⟨fun h => by cases a; cases b; simpa using h, fun h => h ▸ rfl⟩
theorem kl_ne {s t : ByteArray} (h : s ≠ t) : kl s ≠ kl t := fun e => h (by
  injection e with e
  cases s; cases t
  simp only [ByteArray.mk.injEq]
  exact Array.toList_inj.1 e)
theorem key_at {s : ByteArray} (h : s.size ≤ maxLen) : keyOf Try.prog 9 (.string s) = some (kl s) := WideMaps.keyOf_string_mk Try.underlying9 h
/-- How the map's elements read: by their blocks. -/
def pe (v : Value) : Option (DataW Unit × List MemPlace) :=
  match v with
  | .pointer (some ⟨b, 0, none⟩) => some (.lit (.int .i64 (b : Int)), [])
  | .pointer none => some (.lit (.int .i64 (-1)), [])
  | _ => none
theorem pe_inv {v : Value} {z : Int} {ps : List MemPlace} (h : pe v = some (.lit (.int .i64 z), ps)) : (z = -1 ∧ v = .pointer none) ∨ ∃ b : Nat, z = (b : Int) ∧ v = .pointer (some ⟨b, 0, none⟩) := by
  unfold pe at h
  split at h
  · rename_i b
    simp only [Option.some.injEq, Prod.mk.injEq, DataW.lit.injEq, Lit.int.injEq, true_and] at h
    exact .inr ⟨b, h.1.symm, rfl⟩
  · simp only [Option.some.injEq, Prod.mk.injEq, DataW.lit.injEq, Lit.int.injEq, true_and] at h
    exact .inl ⟨h.1.symm, rfl⟩
  · cases h
/-- The map at gm holds the things of L. -/
structure Mp {X : Type} (w : World) (gm : Nat) (L : List (E X)) : Prop where
  ex : ∃ D : DataW Unit, w.ownsMap Try.prog 9 pe gm L.length D ∧ Maps.size D = L.length ∧ (∀ s, has D (kl s) = true ↔ s ∈ L.map E.key) ∧ (∀ e ∈ L, ∀ zd, D.atKey (kl e.key) zd = .lit (.int .i64 (e.blk : Int)))
section
variable {X : Type} {w w' : World} {gm : Nat} {L L' : List (E X)}
theorem Mp.lt (h : Mp w gm L) : gm < w.heap.size := by
  obtain ⟨D, h1, _⟩ := h.ex
  exact h1.lt
theorem Mp.only {S : Nat → Prop} (h : Mp w gm L) (hO : Only w w' S) (hs : ¬ S gm) : Mp w' gm L := by
  obtain ⟨D, h1, h2⟩ := h.ex
  exact ⟨D, hO.map h1 hs, h2⟩
theorem Mp.made (w : World) : Mp (w.alloc (.map #[] 0)) w.heap.size ([] : List (E X)) :=
  ⟨.map [], World.ownsMap_made w Try.prog 9 pe, rfl, fun s => by simp [has], fun e he => by simp at he⟩
/-- Another order, other numbers: the map is the same. -/
theorem Mp.perm (h : Mp w gm L) (hl : L'.length = L.length) (hk : ∀ s, s ∈ L'.map E.key ↔ s ∈ L.map E.key) (hb : ∀ e ∈ L', ∃ e0 ∈ L, e0.key = e.key ∧ e0.blk = e.blk) : Mp w gm L' := by
  obtain ⟨D, h1, h2, h3, h4⟩ := h.ex
  refine ⟨D, by rw [hl]; exact h1, by rw [hl]; exact h2, fun s => by rw [h3]; exact (hk s).symm, fun e he zd => ?_⟩
  obtain ⟨e0, m0, e1, e2⟩ := hb e he
  rw [← e1, ← e2]
  exact h4 e0 m0 zd
theorem Mp.found (h : Mp w gm L) {t p : TypeId} (ht : Try.prog.underlying t = some (.map 9 p)) (hz : (zeroValue p).run Try.prog w = .ok (.pointer none) w) {e : E X} (he : e ∈ L) (hs : e.key.size ≤ maxLen) :
    (Instr.lookup t (.map (some gm)) (.string e.key) true).run Try.prog w = .ok (.tuple #[.pointer (some ⟨e.blk, 0, none⟩), .bool true]) w := by
  obtain ⟨D, h1, h2, h3, h4⟩ := h.ex
  obtain ⟨v, ps, hrun, hv⟩ := h1.look_ok law9 ht hz (zd := .lit (.int .i64 (-1))) (zp := []) rfl (key_at hs)
  rw [h4 e he] at hv
  rw [hrun, (h3 _).2 (List.mem_map_of_mem he)]
  rcases pe_inv hv with ⟨hz, _⟩ | ⟨b, hb, rfl⟩
  · omega
  · have : b = e.blk := by omega
    subst this
    rfl
theorem Mp.lacks (h : Mp w gm L) {t p : TypeId} (ht : Try.prog.underlying t = some (.map 9 p)) (hz : (zeroValue p).run Try.prog w = .ok (.pointer none) w) {s : ByteArray} (he : s ∉ L.map E.key) (hs : s.size ≤ maxLen) :
    (Instr.lookup t (.map (some gm)) (.string s) true).run Try.prog w = .ok (.tuple #[.pointer none, .bool false]) w := by
  obtain ⟨D, h1, h2, h3, h4⟩ := h.ex
  obtain ⟨v, ps, hrun, hv⟩ := h1.look_ok law9 ht hz (zd := .lit (.int .i64 (-1))) (zp := []) rfl (key_at hs)
  have hn : has D (kl s) = false := by rw [← Bool.not_eq_true, h3]; exact he
  rw [atKey_of_not_has hn] at hv
  rw [hrun, hn]
  rcases pe_inv hv with ⟨_, rfl⟩ | ⟨b, hb, rfl⟩
  · rfl
  · omega
theorem Mp.len_run (h : Mp w gm L) {t p : TypeId} (ht : Try.prog.underlying t = some (.map 9 p)) (ty : TypeId) : (Builtin.len_ #[t] ty #[.map (some gm)]).run Try.prog w = .ok (.int .i64 (L.length : Int)) w := by
  obtain ⟨D, h1, h2, h3, h4⟩ := h.ex
  rw [h1.len ht, h2]
/-- A thing more. -/
theorem Mp.put (h : Mp w gm L) {t p : TypeId} (ht : Try.prog.underlying t = some (.map 9 p)) {e : E X} (he : e.key ∉ L.map E.key) (hs : e.key.size ≤ maxLen) (hl : L.length < maxLen) :
    ∃ w', (Instr.mapUpdate t (.map (some gm)) (.string e.key) (.pointer (some ⟨e.blk, 0, none⟩))).run Try.prog w = .ok () w' ∧ Mp w' gm (L ++ [e]) ∧ w.grownBy w' (some gm) := by
  obtain ⟨D, h1, h2, h3, h4⟩ := h.ex
  obtain ⟨w', hrun, h5, h6⟩ := h1.update law9 ht hl (key_at hs) (show pe (.pointer (some ⟨e.blk, 0, none⟩)) = some (.lit (.int .i64 (e.blk : Int)), []) from rfl)
  have hM := h1.isMap
  have hn : has D (kl e.key) = false := by rw [← Bool.not_eq_true, h3]; exact he
  refine ⟨w', hrun, ⟨_, by simpa using h5, ?_, fun s => ?_, fun x hx zd => ?_⟩, h6⟩
  · rw [size_put (h1.tidy law9), hn, h2]; simp
  · by_cases c : s = e.key
    · rw [c]
      rw [has_put_same hM (show WideAt.IsKeyLit (kl e.key) from trivial)]
      simp
    · rw [has_put_other (kl_ne c), h3]
      simp [c]
  · rcases List.mem_append.1 hx with hx | hx
    · have c : x.key ≠ e.key := fun c => he (c ▸ List.mem_map_of_mem hx)
      rw [atKey_put_other (kl_ne c)]
      exact h4 x hx zd
    · have c : x = e := by simpa using hx
      rw [c]
      exact atKey_put_same hM (show WideAt.IsKeyLit (kl e.key) from trivial) _ _
/-- A thing less. -/
theorem Mp.drop (h : Mp w gm L) {t p : TypeId} (ht : Try.prog.underlying t = some (.map 9 p)) {P S : List (E X)} {e : E X} (hL : L = P ++ e :: S) (kd : (L.map E.key).Nodup) (hs : e.key.size ≤ maxLen) (ty : TypeId) :
    ∃ w', (Builtin.delete_ #[t, 9] ty #[.map (some gm), .string e.key]).run Try.prog w = .ok (.tuple #[]) w' ∧ Mp w' gm (P ++ S) ∧ w.grownBy w' (some gm) := by
  obtain ⟨D, h1, h2, h3, h4⟩ := h.ex
  obtain ⟨w', hrun, h5, h6⟩ := h1.drop law9 ht (key_at hs) ty
  subst hL
  have hn : has D (kl e.key) = true := (h3 _).2 (by simp)
  have hsz := size_del (h1.tidy law9) (k := kl e.key)
  rw [hn, h2] at hsz
  simp only [if_true, List.length_append, List.length_cons] at hsz
  simp only [List.map_append, List.map_cons, List.nodup_append, List.nodup_cons, List.mem_cons, ne_eq] at kd
  obtain ⟨kP, ⟨kS, _⟩, kPS⟩ := kd
  have hne : ∀ x ∈ P ++ S, x.key ≠ e.key := fun x hx c => by
    rcases List.mem_append.1 hx with hx | hx
    · exact kPS x.key (List.mem_map_of_mem hx) _ (.inl rfl) c
    · exact kS (c ▸ List.mem_map_of_mem hx)
  have h7 : w'.ownsMap Try.prog 9 pe gm (P ++ S).length (D.del (kl e.key)) := by
    obtain ⟨es, clock, g1, g2, g3, g4⟩ := h5
    refine ⟨es, clock, g1, g2, ?_, g4⟩
    have : Maps.size (D.del (kl e.key)) = es.size := by rw [g4]; simp [Maps.size, length_sorted]
    simp only [List.length_append]
    omega
  refine ⟨w', hrun, ⟨_, h7, by simp only [List.length_append]; omega, fun s => ?_, fun x hx zd => ?_⟩, h6.grown⟩
  · by_cases c : s = e.key
    · subst c
      rw [has_del_same]
      simp only [Bool.false_eq_true, false_iff, List.mem_map, not_exists, not_and]
      exact fun x hx => hne x hx
    · rw [has_del_other (kl_ne c), h3]
      simp [c]
  · rw [atKey_del_other (kl_ne (hne x hx))]
    exact h4 x (by rcases List.mem_append.1 hx with h | h <;> simp [h]) zd
end

/-- A table of n at most, at g: its map at gm, its things L. -/
structure TB {X : Type} (w : World) (tb th : TypeId) (enc : X → Value) (B g gm n : Nat) (L : List (E X)) : Prop where
  blk : w.heap[g]? = some (.cells #[.int .i64 (n : Int), .map (some gm), ptr (hd L none), ptr (lst none L)] tb (0, 0))
  seg : Seg w th enc none L none
  mp : Mp w gm L
  nd : (L.map E.blk).Nodup
  kd : (L.map E.key).Nodup
  ng : g ∉ L.map E.blk
  nm : gm ∉ L.map E.blk
  gg : g ≠ gm
  lo : B ≤ g ∧ B ≤ gm ∧ ∀ b ∈ L.map E.blk, B ≤ b
  sz : ∀ s ∈ L.map E.key, s.size ≤ maxLen
  len : L.length ≤ n
  n0 : 0 < n
  n1 : n ≤ 4096
/-- The blocks of a table. -/
def TS {X : Type} (g gm : Nat) (L : List (E X)) (k : Nat) : Prop := k = g ∨ k = gm ∨ k ∈ L.map E.blk
section
variable {X : Type} {w w' : World} {tb th : TypeId} {enc : X → Value} {B g gm n : Nat} {L : List (E X)}
theorem TB.only {S : Nat → Prop} (h : TB w tb th enc B g gm n L) (hO : Only w w' S) (hs : ∀ k, TS g gm L k → ¬ S k) : TB w' tb th enc B g gm n L :=
  ⟨hO.blk h.blk (hs g (.inl rfl)), h.seg.only hO (fun e he => hs _ (.inr (.inr (List.mem_map_of_mem he)))), h.mp.only hO (hs gm (.inr (.inl rfl))), h.nd, h.kd, h.ng, h.nm, h.gg, h.lo, h.sz, h.len, h.n0, h.n1⟩
theorem TB.below (h : TB w tb th enc B g gm n L) (hb : Below w.heap.size w w') : TB w' tb th enc B g gm n L := h.only (Only.of_below hb (fun _ => False)) (fun _ _ h => h)
theorem TB.lt (h : TB w tb th enc B g gm n L) : ∀ k, TS g gm L k → k < w.heap.size := by
  rintro k (rfl | rfl | hk)
  · exact blk_lt h.blk
  · exact h.mp.lt
  · exact h.seg.lt k hk
theorem TB.ge (h : TB w tb th enc B g gm n L) : ∀ k, TS g gm L k → B ≤ k := by
  rintro k (rfl | rfl | hk)
  · exact h.lo.1
  · exact h.lo.2.1
  · exact h.lo.2.2 k hk
theorem TB.size (h : TB w tb th enc B g gm n L) : B ≤ w.heap.size := Nat.le_trans h.lo.1 (Nat.le_of_lt (h.lt g (.inl rfl)))
end
end Go.Proofs.Ytlainhbmfphojaa.Tb
