/- Proved: what each operation does to a table, as a list of keys and what is there. -/
import Derived.Test.YtlainhbmfphojaaTb6
namespace Go.Proofs.Ytlainhbmfphojaa.Tb
open Go.RowKit Go.Maps Go.Proofs.YtlainhbmfphojaaW.PrintWords Go.Proofs.YtlainhbmfphojaaW.PrintLast Go.Proofs.YtlainhbmfphojaaW.PrintMore
set_option linter.unusedVariables false
set_option linter.unusedSimpArgs false

section
variable {X : Type}
def kv (L : List (E X)) : List (ByteArray × X) := L.map (fun e => (e.key, e.val))
abbrev ks (l : List (ByteArray × X)) : List ByteArray := l.map Prod.fst
def val (s : ByteArray) (l : List (ByteArray × X)) : Option X := (l.find? (fun p => decide (p.1 = s))).map Prod.snd
def rm (s : ByteArray) (l : List (ByteArray × X)) : List (ByteArray × X) := l.filter (fun p => decide (p.1 ≠ s))
def putL (n : Nat) (l : List (ByteArray × X)) (s : ByteArray) (x : X) : List (ByteArray × X) := (if (val s l).isSome then rm s l else if l.length = n then l.tail else l) ++ [(s, x)]
def goneL (n : Nat) (l : List (ByteArray × X)) (s : ByteArray) : ByteArray := if (val s l).isSome then ⟨#[]⟩ else if l.length = n then (match l with | p :: _ => p.1 | [] => ⟨#[]⟩) else ⟨#[]⟩
def wentL (n : Nat) (l : List (ByteArray × X)) (s : ByteArray) : Bool := (val s l).isNone && decide (l.length = n)
def getL (l : List (ByteArray × X)) (s : ByteArray) : List (ByteArray × X) := match val s l with | some x => rm s l ++ [(s, x)] | none => l
theorem ks_kv (L : List (E X)) : ks (kv L) = L.map E.key := by simp [ks, kv]
theorem kv_len (L : List (E X)) : (kv L).length = L.length := by simp [kv]
theorem kv_append (P S : List (E X)) : kv (P ++ S) = kv P ++ kv S := by simp [kv]
theorem rm_append (s : ByteArray) (l m : List (ByteArray × X)) : rm s (l ++ m) = rm s l ++ rm s m := List.filter_append ..
theorem rm_not {s : ByteArray} {l : List (ByteArray × X)} (h : s ∉ ks l) : rm s l = l := by
  unfold rm
  rw [List.filter_eq_self]
  intro p hp
  exact decide_eq_true (fun e => h (e ▸ List.mem_map_of_mem hp))
theorem rm_one (s : ByteArray) (x : X) : rm s [(s, x)] = [] := by simp [rm]
theorem rm_len (s : ByteArray) (l : List (ByteArray × X)) : (rm s l).length ≤ l.length := List.length_filter_le _ _
theorem mem_rm {s t : ByteArray} {l : List (ByteArray × X)} : t ∈ ks (rm s l) ↔ t ≠ s ∧ t ∈ ks l := by
  simp only [ks, rm, List.mem_map, List.mem_filter, decide_eq_true_eq]
  constructor
  · rintro ⟨p, ⟨h1, h2⟩, rfl⟩
    exact ⟨h2, p, h1, rfl⟩
  · rintro ⟨h, p, h1, rfl⟩
    exact ⟨p, ⟨h1, h⟩, rfl⟩
theorem val_none {s : ByteArray} {l : List (ByteArray × X)} : val s l = none ↔ s ∉ ks l := by
  unfold val
  rw [Option.map_eq_none_iff, List.find?_eq_none]
  simp only [decide_eq_true_eq, List.mem_map, not_exists, not_and, ks]
theorem val_mid {s : ByteArray} {x : X} {l m : List (ByteArray × X)} (h : s ∉ ks l) : val s (l ++ (s, x) :: m) = some x := by
  unfold val
  rw [List.find?_append]
  have : l.find? (fun p => decide (p.1 = s)) = none := by
    rw [List.find?_eq_none]
    intro p hp
    rw [decide_eq_true_eq]
    exact fun e => h (e ▸ List.mem_map_of_mem hp)
  simp [this]
theorem val_some {s : ByteArray} {x : X} {l : List (ByteArray × X)} (h : val s l = some x) : s ∈ ks l := by
  by_cases c : s ∈ ks l
  · exact c
  · rw [val_none.2 c] at h
    cases h
theorem key_split {s : ByteArray} {L : List (E X)} (h : s ∈ L.map E.key) : ∃ P e S, L = P ++ e :: S ∧ e.key = s := by
  obtain ⟨e, he, rfl⟩ := List.mem_map.1 h
  obtain ⟨P, S, rfl⟩ := List.append_of_mem he
  exact ⟨P, e, S, rfl, rfl⟩
theorem kd_mid {P S : List (E X)} {e : E X} (h : ((P ++ e :: S).map E.key).Nodup) : e.key ∉ ks (kv P) ∧ e.key ∉ ks (kv S) := by
  rw [ks_kv, ks_kv]
  simp only [List.map_append, List.map_cons, List.nodup_append, List.nodup_cons, List.mem_cons, ne_eq] at h
  obtain ⟨a, ⟨b, c⟩, d⟩ := h
  exact ⟨fun hm => d _ hm _ (.inl rfl) rfl, b⟩
theorem kv_rm {P S : List (E X)} {e : E X} (h : ((P ++ e :: S).map E.key).Nodup) : rm e.key (kv (P ++ e :: S)) = kv (P ++ S) := by
  obtain ⟨h1, h2⟩ := kd_mid h
  rw [kv_append, show kv (e :: S) = [(e.key, e.val)] ++ kv S from rfl, rm_append, rm_append, rm_one, rm_not h1, rm_not h2, kv_append]
  rfl
theorem kv_val {P S : List (E X)} {e : E X} (h : ((P ++ e :: S).map E.key).Nodup) : val e.key (kv (P ++ e :: S)) = some e.val := by
  rw [kv_append]
  exact val_mid (kd_mid h).1
end

/-- A table at g, of n at most, in the blocks S; what it holds. -/
structure Tab {X : Type} (w : World) (tb th : TypeId) (enc : X → Value) (B g n : Nat) (S : Nat → Prop) (l : List (ByteArray × X)) : Prop where
  ex : ∃ gm L, TB w tb th enc B g gm n L ∧ S = TS g gm L ∧ l = kv L
/-- What a step does to the blocks. -/
structure Nx (w w' : World) (S S' : Nat → Prop) : Prop where
  only : Only w w' S
  new : ∀ k, S' k → S k ∨ w.heap.size ≤ k
section
variable {X : Type} {w w' : World} {tb th : TypeId} {enc : X → Value} {B g n : Nat} {S : Nat → Prop} {l : List (ByteArray × X)}
theorem Tab.lt (h : Tab w tb th enc B g n S l) : ∀ k, S k → k < w.heap.size := by
  obtain ⟨gm, L, h1_, rfl, rfl⟩ := h.ex
  replace h := h1_
  clear h1_
  exact h.lt
theorem Tab.ge (h : Tab w tb th enc B g n S l) : ∀ k, S k → B ≤ k := by
  obtain ⟨gm, L, h1_, rfl, rfl⟩ := h.ex
  replace h := h1_
  clear h1_
  exact h.ge
theorem Tab.size (h : Tab w tb th enc B g n S l) : B ≤ w.heap.size := by
  obtain ⟨gm, L, h1_, rfl, rfl⟩ := h.ex
  replace h := h1_
  clear h1_
  exact h.size
theorem Tab.nd (h : Tab w tb th enc B g n S l) : (ks l).Nodup := by
  obtain ⟨gm, L, h1_, rfl, rfl⟩ := h.ex
  replace h := h1_
  clear h1_
  rw [ks_kv]
  exact h.kd
theorem Tab.len (h : Tab w tb th enc B g n S l) : l.length ≤ n ∧ 0 < n ∧ n ≤ 4096 := by
  obtain ⟨gm, L, h1_, rfl, rfl⟩ := h.ex
  replace h := h1_
  clear h1_
  rw [kv_len]
  exact ⟨h.len, h.n0, h.n1⟩
theorem Tab.only {T : Nat → Prop} (h : Tab w tb th enc B g n S l) (hO : Only w w' T) (hs : ∀ k, S k → ¬ T k) : Tab w' tb th enc B g n S l := by
  obtain ⟨gm, L, h1_, rfl, rfl⟩ := h.ex
  replace h := h1_
  clear h1_
  exact ⟨gm, L, h.only hO hs, rfl, rfl⟩
theorem Tab.below (h : Tab w tb th enc B g n S l) (hb : Below w.heap.size w w') : Tab w' tb th enc B g n S l := h.only (Only.of_below hb (fun _ => False)) (fun _ _ h => h)
theorem Nx.below {S' : Nat → Prop} {w0 : World} (h : Nx w w' S S') (ht : Tab w tb th enc B g n S l) (hb : Below B w0 w) : Below B w0 w' := h.only.below hb ht.size ht.ge
/-- What was apart from the table is so behind the step. -/
theorem Nx.apart {S' : Nat → Prop} (h : Nx w w' S S') {k : Nat} (hk : ¬ S k) (hl : k < w.heap.size) : ¬ S' k := fun c => by
  rcases h.new k c with c | c
  · exact hk c
  · omega
end

theorem tnewI (w : World) (n : Nat) (h0 : 0 < n) (h1 : n ≤ 4096) : Calls Try.prog 8 #[.int .i64 (n : Int)] w fun r w' => ∃ g S, r = .returned (.tuple #[.pointer (some ⟨g, 0, none⟩), .int .i64 0]) ∧ Tab w' 54 57 eI w.heap.size g n S ([] : List (ByteArray × Int)) ∧ Below w.heap.size w w' := by
  refine (newI_ok w n h0 h1).mono ?_
  rintro r w' ⟨g, gm, rfl, h, hb⟩
  exact ⟨g, _, rfl, ⟨gm, [], h, rfl, rfl⟩, hb⟩
theorem tpeekI_some {w : World} {B g n : Nat} {S : Nat → Prop} {l : List (ByteArray × Int)} {s : ByteArray} {x : Int} (h : Tab w 54 57 eI B g n S l) (hv : val s l = some x) : Calls Try.prog 11 #[.pointer (some ⟨g, 0, none⟩), .string s] w fun r w' => r = .returned (.tuple #[.int .i64 x, .bool true]) ∧ w' = w := by
  obtain ⟨gm, L, h1_, rfl, rfl⟩ := h.ex
  replace h := h1_
  clear h1_
  have hs := val_some hv
  rw [ks_kv] at hs
  obtain ⟨P, e, S, rfl, rfl⟩ := key_split hs
  rw [kv_val h.kd] at hv
  injection hv with hv
  subst hv
  exact peekI_in h
theorem tpeekI_none {w : World} {B g n : Nat} {S : Nat → Prop} {l : List (ByteArray × Int)} {s : ByteArray} (h : Tab w 54 57 eI B g n S l) (hv : val s l = none) (hs : s.size ≤ maxLen) : Calls Try.prog 11 #[.pointer (some ⟨g, 0, none⟩), .string s] w fun r w' => r = .returned (.tuple #[.int .i64 0, .bool false]) ∧ w' = w := by
  obtain ⟨gm, L, h1_, rfl, rfl⟩ := h.ex
  replace h := h1_
  clear h1_
  rw [val_none, ks_kv] at hv
  exact peekI_out h hs hv
theorem tgetI_some {w : World} {B g n : Nat} {S : Nat → Prop} {l : List (ByteArray × Int)} {s : ByteArray} {x : Int} (h : Tab w 54 57 eI B g n S l) (hv : val s l = some x) : Calls Try.prog 10 #[.pointer (some ⟨g, 0, none⟩), .string s] w fun r w' => ∃ S', r = .returned (.tuple #[.int .i64 x, .bool true]) ∧ Tab w' 54 57 eI B g n S' (rm s l ++ [(s, x)]) ∧ Nx w w' S S' := by
  obtain ⟨gm, L, h1_, rfl, rfl⟩ := h.ex
  replace h := h1_
  clear h1_
  have hs := val_some hv
  rw [ks_kv] at hs
  obtain ⟨P, e, S, rfl, rfl⟩ := key_split hs
  have hv0 := kv_val h.kd
  rw [hv0] at hv
  injection hv with hv
  subst hv
  refine (getI_in h).mono ?_
  rintro r w' ⟨rfl, h1, hO⟩
  refine ⟨_, rfl, ⟨gm, P ++ S ++ [e], h1, rfl, ?_⟩, ⟨hO, fun k hk => .inl ?_⟩⟩
  · rw [kv_rm h.kd, kv_append (P ++ S)]
    rfl
  · rcases hk with h | h | h
    · exact .inl h
    · exact .inr (.inl h)
    · exact .inr (.inr ((perm_end (P := P) (S := S) E.blk rfl).mem_iff.1 h))
theorem tgetI_none {w : World} {B g n : Nat} {S : Nat → Prop} {l : List (ByteArray × Int)} {s : ByteArray} (h : Tab w 54 57 eI B g n S l) (hv : val s l = none) (hs : s.size ≤ maxLen) : Calls Try.prog 10 #[.pointer (some ⟨g, 0, none⟩), .string s] w fun r w' => r = .returned (.tuple #[.int .i64 0, .bool false]) ∧ w' = w := by
  obtain ⟨gm, L, h1_, rfl, rfl⟩ := h.ex
  replace h := h1_
  clear h1_
  rw [val_none, ks_kv] at hv
  exact getI_out h hs hv
theorem tlenI {w : World} {B g n : Nat} {S : Nat → Prop} {l : List (ByteArray × Int)} (h : Tab w 54 57 eI B g n S l) : Calls Try.prog 14 #[.pointer (some ⟨g, 0, none⟩)] w fun r w' => r = .returned (.int .i64 (l.length : Int)) ∧ w' = w := by
  obtain ⟨gm, L, h1_, rfl, rfl⟩ := h.ex
  replace h := h1_
  clear h1_
  rw [kv_len]
  exact lenI h
theorem tkeysI {w : World} {B g n : Nat} {S : Nat → Prop} {l : List (ByteArray × Int)} (h : Tab w 54 57 eI B g n S l) : Calls Try.prog 12 #[.pointer (some ⟨g, 0, none⟩)] w fun r w' => ∃ v, r = .returned v ∧ w'.ownsRow w.heap.size 9 1 v (ks l).length (encs (fun x : ByteArray => Value.string x) (ks l)) ∧ Below w.heap.size w w' := by
  obtain ⟨gm, L, h1_, rfl, rfl⟩ := h.ex
  replace h := h1_
  clear h1_
  rw [ks_kv]
  exact keysI h
theorem tdeleteI_some {w : World} {B g n : Nat} {S : Nat → Prop} {l : List (ByteArray × Int)} {s : ByteArray} {x : Int} (h : Tab w 54 57 eI B g n S l) (hv : val s l = some x) : Calls Try.prog 28 #[.pointer (some ⟨g, 0, none⟩), .string s] w fun r w' => ∃ S', r = .returned (.bool true) ∧ Tab w' 54 57 eI B g n S' (rm s l) ∧ Nx w w' S S' := by
  obtain ⟨gm, L, h1_, rfl, rfl⟩ := h.ex
  replace h := h1_
  clear h1_
  have hs := val_some hv
  rw [ks_kv] at hs
  obtain ⟨P, e, S, rfl, rfl⟩ := key_split hs
  refine (deleteI_in h).mono ?_
  rintro r w' ⟨rfl, h1, hO⟩
  refine ⟨_, rfl, ⟨gm, P ++ S, h1, rfl, kv_rm h.kd⟩, ⟨hO, fun k hk => .inl ?_⟩⟩
  rcases hk with h | h | h
  · exact .inl h
  · exact .inr (.inl h)
  · refine .inr (.inr ?_)
    simp only [List.map_append, List.map_cons, List.mem_append, List.mem_cons] at h ⊢
    rcases h with h | h
    · exact .inl h
    · exact .inr (.inr h)
theorem tdeleteI_none {w : World} {B g n : Nat} {S : Nat → Prop} {l : List (ByteArray × Int)} {s : ByteArray} (h : Tab w 54 57 eI B g n S l) (hv : val s l = none) (hs : s.size ≤ maxLen) : Calls Try.prog 28 #[.pointer (some ⟨g, 0, none⟩), .string s] w fun r w' => r = .returned (.bool false) ∧ w' = w := by
  obtain ⟨gm, L, h1_, rfl, rfl⟩ := h.ex
  replace h := h1_
  clear h1_
  rw [val_none, ks_kv] at hv
  exact deleteI_out h hs hv
theorem tputI {w : World} {B g n : Nat} {S : Nat → Prop} {l : List (ByteArray × Int)} {s : ByteArray} {x : Int} (h : Tab w 54 57 eI B g n S l) (hs : s.size ≤ maxLen) : Calls Try.prog 9 #[.pointer (some ⟨g, 0, none⟩), .string s, .int .i64 x] w fun r w' => ∃ S', r = .returned (.tuple #[.string (goneL n l s), .bool (wentL n l s)]) ∧ Tab w' 54 57 eI B g n S' (putL n l s x) ∧ Nx w w' S S' := by
  obtain ⟨gm, L, h1_, rfl, rfl⟩ := h.ex
  replace h := h1_
  clear h1_
  unfold goneL wentL putL
  by_cases c : s ∈ L.map E.key
  · obtain ⟨P, e, S, rfl, rfl⟩ := key_split c
    rw [kv_val h.kd, kv_rm h.kd]
    refine (putI_in x h).mono ?_
    rintro r w' ⟨rfl, h1, hO⟩
    refine ⟨_, rfl, ⟨gm, P ++ S ++ [{ e with val := x }], h1, rfl, ?_⟩, ⟨hO, fun k hk => .inl ?_⟩⟩
    · rw [kv_append (P ++ S)]
      rfl
    · rcases hk with h | h | h
      · exact .inl h
      · exact .inr (.inl h)
      · exact .inr (.inr ((perm_end (P := P) (S := S) (e' := { e with val := x }) (e := e) E.blk rfl).mem_iff.1 h))
  · have hv : val s (kv L) = none := val_none.2 (by rw [ks_kv]; exact c)
    rw [hv]
    by_cases hl : L.length = n
    · have h0 := h.n0
      cases L with
      | nil => simp at hl; omega
      | cons e0 S0 =>
        rw [kv_len, if_pos hl]
        simp only [hl, decide_true]
        refine (putI_full x h hs c hl).mono ?_
        rintro r w' ⟨b, rfl, hb, h1, hO⟩
        refine ⟨_, rfl, ⟨gm, _, h1, rfl, ?_⟩, ⟨hO, fun k hk => ?_⟩⟩
        · rw [kv_append]
          rfl
        · rcases hk with h | h | h
          · exact .inl (.inl h)
          · exact .inl (.inr (.inl h))
          · simp only [List.map_append, List.map_cons, List.map_nil, List.mem_append, List.mem_cons, List.not_mem_nil, or_false] at h
            rcases h with h | h
            · exact .inl (.inr (.inr (List.mem_cons_of_mem _ h)))
            · exact .inr (h ▸ hb)
    · rw [kv_len, if_neg hl]
      have hlt : L.length < n := by have := h.len; omega
      simp only [hl, decide_false]
      refine (putI_new x h hs c hlt).mono ?_
      rintro r w' ⟨b, rfl, hb, h1, hO⟩
      refine ⟨_, rfl, ⟨gm, _, h1, rfl, ?_⟩, ⟨hO, fun k hk => ?_⟩⟩
      · rw [kv_append]
        rfl
      · rcases hk with h | h | h
        · exact .inl (.inl h)
        · exact .inl (.inr (.inl h))
        · simp only [List.map_append, List.map_cons, List.map_nil, List.mem_append, List.mem_cons, List.not_mem_nil, or_false] at h
          rcases h with h | h
          · exact .inl (.inr (.inr h))
          · exact .inr (h ▸ hb)

theorem tnewS (w : World) (n : Nat) (h0 : 0 < n) (h1 : n ≤ 4096) : Calls Try.prog 18 #[.int .i64 (n : Int)] w fun r w' => ∃ g S, r = .returned (.tuple #[.pointer (some ⟨g, 0, none⟩), .int .i64 0]) ∧ Tab w' 62 65 eS w.heap.size g n S ([] : List (ByteArray × ByteArray)) ∧ Below w.heap.size w w' := by
  refine (newS_ok w n h0 h1).mono ?_
  rintro r w' ⟨g, gm, rfl, h, hb⟩
  exact ⟨g, _, rfl, ⟨gm, [], h, rfl, rfl⟩, hb⟩
theorem tpeekS_some {w : World} {B g n : Nat} {S : Nat → Prop} {l : List (ByteArray × ByteArray)} {s : ByteArray} {x : ByteArray} (h : Tab w 62 65 eS B g n S l) (hv : val s l = some x) : Calls Try.prog 23 #[.pointer (some ⟨g, 0, none⟩), .string s] w fun r w' => r = .returned (.tuple #[.string x, .bool true]) ∧ w' = w := by
  obtain ⟨gm, L, h1_, rfl, rfl⟩ := h.ex
  replace h := h1_
  clear h1_
  have hs := val_some hv
  rw [ks_kv] at hs
  obtain ⟨P, e, S, rfl, rfl⟩ := key_split hs
  rw [kv_val h.kd] at hv
  injection hv with hv
  subst hv
  exact peekS_in h
theorem tpeekS_none {w : World} {B g n : Nat} {S : Nat → Prop} {l : List (ByteArray × ByteArray)} {s : ByteArray} (h : Tab w 62 65 eS B g n S l) (hv : val s l = none) (hs : s.size ≤ maxLen) : Calls Try.prog 23 #[.pointer (some ⟨g, 0, none⟩), .string s] w fun r w' => r = .returned (.tuple #[.string ⟨#[]⟩, .bool false]) ∧ w' = w := by
  obtain ⟨gm, L, h1_, rfl, rfl⟩ := h.ex
  replace h := h1_
  clear h1_
  rw [val_none, ks_kv] at hv
  exact peekS_out h hs hv
theorem tgetS_some {w : World} {B g n : Nat} {S : Nat → Prop} {l : List (ByteArray × ByteArray)} {s : ByteArray} {x : ByteArray} (h : Tab w 62 65 eS B g n S l) (hv : val s l = some x) : Calls Try.prog 22 #[.pointer (some ⟨g, 0, none⟩), .string s] w fun r w' => ∃ S', r = .returned (.tuple #[.string x, .bool true]) ∧ Tab w' 62 65 eS B g n S' (rm s l ++ [(s, x)]) ∧ Nx w w' S S' := by
  obtain ⟨gm, L, h1_, rfl, rfl⟩ := h.ex
  replace h := h1_
  clear h1_
  have hs := val_some hv
  rw [ks_kv] at hs
  obtain ⟨P, e, S, rfl, rfl⟩ := key_split hs
  have hv0 := kv_val h.kd
  rw [hv0] at hv
  injection hv with hv
  subst hv
  refine (getS_in h).mono ?_
  rintro r w' ⟨rfl, h1, hO⟩
  refine ⟨_, rfl, ⟨gm, P ++ S ++ [e], h1, rfl, ?_⟩, ⟨hO, fun k hk => .inl ?_⟩⟩
  · rw [kv_rm h.kd, kv_append (P ++ S)]
    rfl
  · rcases hk with h | h | h
    · exact .inl h
    · exact .inr (.inl h)
    · exact .inr (.inr ((perm_end (P := P) (S := S) E.blk rfl).mem_iff.1 h))
theorem tgetS_none {w : World} {B g n : Nat} {S : Nat → Prop} {l : List (ByteArray × ByteArray)} {s : ByteArray} (h : Tab w 62 65 eS B g n S l) (hv : val s l = none) (hs : s.size ≤ maxLen) : Calls Try.prog 22 #[.pointer (some ⟨g, 0, none⟩), .string s] w fun r w' => r = .returned (.tuple #[.string ⟨#[]⟩, .bool false]) ∧ w' = w := by
  obtain ⟨gm, L, h1_, rfl, rfl⟩ := h.ex
  replace h := h1_
  clear h1_
  rw [val_none, ks_kv] at hv
  exact getS_out h hs hv
theorem tlenS {w : World} {B g n : Nat} {S : Nat → Prop} {l : List (ByteArray × ByteArray)} (h : Tab w 62 65 eS B g n S l) : Calls Try.prog 24 #[.pointer (some ⟨g, 0, none⟩)] w fun r w' => r = .returned (.int .i64 (l.length : Int)) ∧ w' = w := by
  obtain ⟨gm, L, h1_, rfl, rfl⟩ := h.ex
  replace h := h1_
  clear h1_
  rw [kv_len]
  exact lenS h
theorem tkeysS {w : World} {B g n : Nat} {S : Nat → Prop} {l : List (ByteArray × ByteArray)} (h : Tab w 62 65 eS B g n S l) : Calls Try.prog 20 #[.pointer (some ⟨g, 0, none⟩)] w fun r w' => ∃ v, r = .returned v ∧ w'.ownsRow w.heap.size 9 1 v (ks l).length (encs (fun x : ByteArray => Value.string x) (ks l)) ∧ Below w.heap.size w w' := by
  obtain ⟨gm, L, h1_, rfl, rfl⟩ := h.ex
  replace h := h1_
  clear h1_
  rw [ks_kv]
  exact keysS h
theorem tdeleteS_some {w : World} {B g n : Nat} {S : Nat → Prop} {l : List (ByteArray × ByteArray)} {s : ByteArray} {x : ByteArray} (h : Tab w 62 65 eS B g n S l) (hv : val s l = some x) : Calls Try.prog 33 #[.pointer (some ⟨g, 0, none⟩), .string s] w fun r w' => ∃ S', r = .returned (.bool true) ∧ Tab w' 62 65 eS B g n S' (rm s l) ∧ Nx w w' S S' := by
  obtain ⟨gm, L, h1_, rfl, rfl⟩ := h.ex
  replace h := h1_
  clear h1_
  have hs := val_some hv
  rw [ks_kv] at hs
  obtain ⟨P, e, S, rfl, rfl⟩ := key_split hs
  refine (deleteS_in h).mono ?_
  rintro r w' ⟨rfl, h1, hO⟩
  refine ⟨_, rfl, ⟨gm, P ++ S, h1, rfl, kv_rm h.kd⟩, ⟨hO, fun k hk => .inl ?_⟩⟩
  rcases hk with h | h | h
  · exact .inl h
  · exact .inr (.inl h)
  · refine .inr (.inr ?_)
    simp only [List.map_append, List.map_cons, List.mem_append, List.mem_cons] at h ⊢
    rcases h with h | h
    · exact .inl h
    · exact .inr (.inr h)
theorem tdeleteS_none {w : World} {B g n : Nat} {S : Nat → Prop} {l : List (ByteArray × ByteArray)} {s : ByteArray} (h : Tab w 62 65 eS B g n S l) (hv : val s l = none) (hs : s.size ≤ maxLen) : Calls Try.prog 33 #[.pointer (some ⟨g, 0, none⟩), .string s] w fun r w' => r = .returned (.bool false) ∧ w' = w := by
  obtain ⟨gm, L, h1_, rfl, rfl⟩ := h.ex
  replace h := h1_
  clear h1_
  rw [val_none, ks_kv] at hv
  exact deleteS_out h hs hv
theorem tputS {w : World} {B g n : Nat} {S : Nat → Prop} {l : List (ByteArray × ByteArray)} {s : ByteArray} {x : ByteArray} (h : Tab w 62 65 eS B g n S l) (hs : s.size ≤ maxLen) : Calls Try.prog 19 #[.pointer (some ⟨g, 0, none⟩), .string s, .string x] w fun r w' => ∃ S', r = .returned (.tuple #[.string (goneL n l s), .bool (wentL n l s)]) ∧ Tab w' 62 65 eS B g n S' (putL n l s x) ∧ Nx w w' S S' := by
  obtain ⟨gm, L, h1_, rfl, rfl⟩ := h.ex
  replace h := h1_
  clear h1_
  unfold goneL wentL putL
  by_cases c : s ∈ L.map E.key
  · obtain ⟨P, e, S, rfl, rfl⟩ := key_split c
    rw [kv_val h.kd, kv_rm h.kd]
    refine (putS_in x h).mono ?_
    rintro r w' ⟨rfl, h1, hO⟩
    refine ⟨_, rfl, ⟨gm, P ++ S ++ [{ e with val := x }], h1, rfl, ?_⟩, ⟨hO, fun k hk => .inl ?_⟩⟩
    · rw [kv_append (P ++ S)]
      rfl
    · rcases hk with h | h | h
      · exact .inl h
      · exact .inr (.inl h)
      · exact .inr (.inr ((perm_end (P := P) (S := S) (e' := { e with val := x }) (e := e) E.blk rfl).mem_iff.1 h))
  · have hv : val s (kv L) = none := val_none.2 (by rw [ks_kv]; exact c)
    rw [hv]
    by_cases hl : L.length = n
    · have h0 := h.n0
      cases L with
      | nil => simp at hl; omega
      | cons e0 S0 =>
        rw [kv_len, if_pos hl]
        simp only [hl, decide_true]
        refine (putS_full x h hs c hl).mono ?_
        rintro r w' ⟨b, rfl, hb, h1, hO⟩
        refine ⟨_, rfl, ⟨gm, _, h1, rfl, ?_⟩, ⟨hO, fun k hk => ?_⟩⟩
        · rw [kv_append]
          rfl
        · rcases hk with h | h | h
          · exact .inl (.inl h)
          · exact .inl (.inr (.inl h))
          · simp only [List.map_append, List.map_cons, List.map_nil, List.mem_append, List.mem_cons, List.not_mem_nil, or_false] at h
            rcases h with h | h
            · exact .inl (.inr (.inr (List.mem_cons_of_mem _ h)))
            · exact .inr (h ▸ hb)
    · rw [kv_len, if_neg hl]
      have hlt : L.length < n := by have := h.len; omega
      simp only [hl, decide_false]
      refine (putS_new x h hs c hlt).mono ?_
      rintro r w' ⟨b, rfl, hb, h1, hO⟩
      refine ⟨_, rfl, ⟨gm, _, h1, rfl, ?_⟩, ⟨hO, fun k hk => ?_⟩⟩
      · rw [kv_append]
        rfl
      · rcases hk with h | h | h
        · exact .inl (.inl h)
        · exact .inl (.inr (.inl h))
        · simp only [List.map_append, List.map_cons, List.map_nil, List.mem_append, List.mem_cons, List.not_mem_nil, or_false] at h
          rcases h with h | h
          · exact .inl (.inr (.inr h))
          · exact .inr (h ▸ hb)
end Go.Proofs.Ytlainhbmfphojaa.Tb
