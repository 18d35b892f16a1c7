/- Proved: the table as a list of its things; what out and end do to it. -/
import Derived.Test.YtlainhbmfphojaaTb1
namespace Go.Proofs.Ytlainhbmfphojaa.Tb
open Go.RowKit Go.Maps Go.Proofs.YtlainhbmfphojaaW.PrintWords Go.Proofs.YtlainhbmfphojaaW.PrintLast Go.Proofs.YtlainhbmfphojaaW.PrintMore
set_option linter.unusedVariables false
set_option linter.unusedSimpArgs false

abbrev ptr (b : Option Nat) : Value := .pointer (b.map fun b => ⟨b, 0, none⟩)
structure E (X : Type) where
  key : ByteArray
  val : X
  blk : Nat
def hd {X : Type} (L : List (E X)) (n : Option Nat) : Option Nat := match L with | [] => n | e :: _ => some e.blk
def lst {X : Type} : Option Nat → List (E X) → Option Nat
  | p, [] => p
  | _, e :: L => lst (some e.blk) L
def Seg {X : Type} (w : World) (t : TypeId) (enc : X → Value) : Option Nat → List (E X) → Option Nat → Prop
  | _, [], _ => True
  | p, e :: L, n => w.heap[e.blk]? = some (.cells #[.string e.key, enc e.val, ptr p, ptr (hd L n)] t (0, 0)) ∧ Seg w t enc (some e.blk) L n
section
variable {X : Type} {w w' : World} {t : TypeId} {enc : X → Value}
theorem hd_append (P Q : List (E X)) (n : Option Nat) : hd (P ++ Q) n = hd P (hd Q n) := by cases P <;> rfl
theorem lst_append (p : Option Nat) (P Q : List (E X)) : lst p (P ++ Q) = lst (lst p P) Q := by
  induction P generalizing p with
  | nil => rfl
  | cons e P ih => exact ih _
theorem seg_append (p : Option Nat) (P Q : List (E X)) (n : Option Nat) : Seg w t enc p (P ++ Q) n ↔ Seg w t enc p P (hd Q n) ∧ Seg w t enc (lst p P) Q n := by
  induction P generalizing p with
  | nil => exact ⟨fun h => ⟨trivial, h⟩, fun h => h.2⟩
  | cons e P ih =>
    show (_ ∧ Seg w t enc (some e.blk) (P ++ Q) n) ↔ (_ ∧ _) ∧ _
    rw [ih, show hd (P.append Q) n = hd P (hd Q n) from hd_append P Q n]
    exact ⟨fun ⟨a, b, c⟩ => ⟨⟨a, b⟩, c⟩, fun ⟨⟨a, b⟩, c⟩ => ⟨a, b, c⟩⟩
theorem Seg.only {S : Nat → Prop} (hO : Only w w' S) : ∀ {L : List (E X)} {p n : Option Nat}, Seg w t enc p L n → (∀ e ∈ L, ¬ S e.blk) → Seg w' t enc p L n
  | [], _, _, _, _ => trivial
  | e :: L, _, _, h, hs => ⟨hO.blk h.1 (hs e (by simp)), Seg.only hO h.2 (fun x hx => hs x (List.mem_cons_of_mem _ hx))⟩
theorem Seg.lt : ∀ {L : List (E X)} {p n : Option Nat}, Seg w t enc p L n → ∀ b ∈ L.map E.blk, b < w.heap.size
  | [], _, _, _ => by simp
  | e :: L, _, _, h => by
    intro b hb
    rcases List.mem_cons.1 hb with rfl | hb
    · exact blk_lt h.1
    · exact Seg.lt h.2 b hb
theorem last_cases (P : List (E X)) : P = [] ∨ ∃ P' a, P = P' ++ [a] := by
  rcases List.eq_nil_or_concat P with h | ⟨P', a, h⟩
  · exact .inl h
  · exact .inr ⟨P', a, by rw [h, List.concat_eq_append]⟩
end

abbrev eI (x : Int) : Value := .int .i64 x
theorem outI (w : World) {g gm : Nat} {n : Int} (P S : List (E Int)) (e : E Int) (hg : w.heap[g]? = some (.cells #[.int .i64 n, .map (some gm), ptr (hd (P ++ e :: S) none), ptr (lst none (P ++ e :: S))] 54 (0, 0))) (hs : Seg w 57 eI none (P ++ e :: S) none) (nd : ((P ++ e :: S).map E.blk).Nodup) (ng : g ∉ (P ++ e :: S).map E.blk) :
    Calls Try.prog 29 #[.pointer (some ⟨g, 0, none⟩), .pointer (some ⟨e.blk, 0, none⟩)] w fun r w' => r = .returned (.tuple #[]) ∧ w'.heap[g]? = some (.cells #[.int .i64 n, .map (some gm), ptr (hd (P ++ S) none), ptr (lst none (P ++ S))] 54 (0, 0)) ∧ Seg w' 57 eI none (P ++ S) none ∧ w'.heap[e.blk]? = some (.cells #[.string e.key, eI e.val, ptr none, ptr none] 57 (0, 0)) ∧ Only w w' (fun k => k = g ∨ k ∈ (P ++ e :: S).map E.blk) := by
  obtain ⟨hP, he, hS⟩ := (seg_append none P (e :: S) none).1 hs
  simp only [List.map_append, List.map_cons, List.mem_append, List.mem_cons, not_or] at ng
  simp only [List.map_append, List.map_cons, List.nodup_append, List.nodup_cons, List.mem_cons, ne_eq] at nd
  obtain ⟨ndP, ⟨neS, ndS⟩, nPS⟩ := nd
  obtain ⟨ngP, nge, ngS⟩ := ng
  have hmem : ∀ k, k = e.blk → k ∈ (P ++ e :: S).map E.blk := fun k h => by simp [h]
  rcases last_cases P with rfl | ⟨P', a, rfl⟩
  · cases S with
    | nil =>
      refine (outI_00 g e.blk gm n _ _ _ e.key w hg he nge).mono ?_
      rintro r w' ⟨rfl, ⟨h1, h2⟩, hO⟩
      exact ⟨rfl, h1, trivial, h2, hO.mono (fun k h => by rcases h with h | h <;> simp [h])⟩
    | cons b S =>
      have nbe : b.blk ≠ e.blk := fun h => neS (by simp [h])
      have nbg : b.blk ≠ g := fun h => ngS (by simp [h])
      refine (outI_01 g e.blk gm n _ _ _ e.key b.blk b.key _ _ w hg he hS.1 nge nbg nbe).mono ?_
      rintro r w' ⟨rfl, ⟨h1, h2, h3⟩, hO⟩
      refine ⟨rfl, ?_, ⟨h3, ?_⟩, h2, hO.mono (fun k h => by rcases h with h | h | h <;> simp [h])⟩
      · exact h1
      · refine hS.2.only hO (fun x hx h => ?_)
        rcases h with h | h | h
        · exact ngS (h ▸ by simp; exact .inr ⟨x, hx, rfl⟩)
        · exact neS (h ▸ by simp; exact .inr ⟨x, hx, rfl⟩)
        · exact (List.nodup_cons.1 ndS).1 (h ▸ List.mem_map_of_mem hx)
  · obtain ⟨hP', ha, _⟩ := (seg_append none P' [a] _).1 hP
    have nae : a.blk ≠ e.blk := fun h => nPS a.blk (by simp) _ (.inl rfl) h
    have nag : a.blk ≠ g := fun h => ngP (by simp [h])
    have ndP2 := ndP
    simp only [List.map_append, List.map_cons, List.map_nil, List.nodup_append, List.mem_cons, List.not_mem_nil, or_false, ne_eq] at ndP2
    have hPx : ∀ x ∈ P', x.blk ≠ g ∧ x.blk ≠ e.blk ∧ x.blk ≠ a.blk := fun x hx => ⟨fun h => ngP (h ▸ List.mem_map_of_mem (List.mem_append_left _ hx)), fun h => nPS x.blk (List.mem_map_of_mem (List.mem_append_left _ hx)) _ (.inl rfl) h, fun h => ndP2.2.2 x.blk (List.mem_map_of_mem hx) a.blk rfl h⟩
    have el : lst none (P' ++ [a]) = some a.blk := lst_append _ _ _
    rw [el] at he
    cases S with
    | nil =>
      have e1 : ∀ q, hd (P' ++ [a] ++ q) none = hd (P' ++ [a]) none := fun q => by cases P' <;> rfl
      have e2 : lst none (P' ++ [a] ++ [e]) = some e.blk := by rw [lst_append]; rfl
      rw [e1, e2] at hg
      refine (outI_10 g e.blk gm n _ _ _ e.key a.blk a.key _ _ w hg he ha nge nag nae).mono ?_
      rintro r w' ⟨rfl, ⟨h1, h2, h3⟩, hO⟩
      refine ⟨rfl, ?_, ?_, h2, hO.mono (fun k h => by rcases h with h | h | h <;> simp [h])⟩
      · rw [List.append_nil, el]
        exact h1
      · rw [List.append_nil]
        refine (seg_append none P' [a] none).2 ⟨hP'.only hO (fun x hx h => ?_), h3, trivial⟩
        obtain ⟨x1, x2, x3⟩ := hPx x hx
        rcases h with h | h | h
        · exact x1 h
        · exact x2 h
        · exact x3 h
    | cons b S =>
      have nbe : b.blk ≠ e.blk := fun h => neS (by simp [h])
      have nbg : b.blk ≠ g := fun h => ngS (by simp [h])
      have nab : a.blk ≠ b.blk := fun h => nPS a.blk (by simp) b.blk (.inr (by simp)) h
      have e1 : ∀ q, hd (P' ++ [a] ++ q) none = hd (P' ++ [a]) none := fun q => by cases P' <;> rfl
      have e2 : lst none (P' ++ [a] ++ e :: b :: S) = lst (some b.blk) S := by rw [lst_append]; rfl
      rw [e1, e2] at hg
      refine (outI_11 g e.blk gm n _ _ _ e.key a.blk a.key _ _ b.blk b.key _ _ w hg he ha hS.1 nge nag nae nbg nbe nab).mono ?_
      rintro r w' ⟨rfl, ⟨h1, h2, h3, h4⟩, hO⟩
      refine ⟨rfl, ?_, ?_, h2, hO.mono (fun k h => by rcases h with h | h | h | h <;> simp [h])⟩
      · rw [e1, show lst none (P' ++ [a] ++ b :: S) = lst (some b.blk) S from by rw [lst_append]; rfl]
        exact h1
      · refine (seg_append none (P' ++ [a]) (b :: S) none).2 ⟨(seg_append none P' [a] _).2 ⟨hP'.only hO (fun x hx h => ?_), h3, trivial⟩, ?_⟩
        · obtain ⟨x1, x2, x3⟩ := hPx x hx
          rcases h with h | h | h | h
          · exact x1 h
          · exact x2 h
          · exact x3 h
          · exact nPS x.blk (List.mem_map_of_mem (List.mem_append_left _ hx)) b.blk (.inr (by simp)) h
        · rw [el]
          refine ⟨h4, hS.2.only hO (fun x hx h => ?_)⟩
          rcases h with h | h | h | h
          · exact ngS (h ▸ by simp; exact .inr ⟨x, hx, rfl⟩)
          · exact neS (h ▸ by simp; exact .inr ⟨x, hx, rfl⟩)
          · exact nPS a.blk (by simp) x.blk (.inr (by simp; exact .inr ⟨x, hx, rfl⟩)) h.symm
          · exact (List.nodup_cons.1 ndS).1 (h ▸ List.mem_map_of_mem hx)
theorem endI (w : World) {g gm : Nat} {n : Int} (P : List (E Int)) (e : E Int) (xe : Option Addr) (hg : w.heap[g]? = some (.cells #[.int .i64 n, .map (some gm), ptr (hd P none), ptr (lst none P)] 54 (0, 0))) (hs : Seg w 57 eI none P none) (he : w.heap[e.blk]? = some (.cells #[.string e.key, eI e.val, .pointer xe, ptr none] 57 (0, 0))) (nd : (P.map E.blk).Nodup) (ng : g ∉ P.map E.blk) (nge : g ≠ e.blk) (neP : e.blk ∉ P.map E.blk) :
    Calls Try.prog 30 #[.pointer (some ⟨g, 0, none⟩), .pointer (some ⟨e.blk, 0, none⟩)] w fun r w' => r = .returned (.tuple #[]) ∧ w'.heap[g]? = some (.cells #[.int .i64 n, .map (some gm), ptr (hd (P ++ [e]) none), ptr (lst none (P ++ [e]))] 54 (0, 0)) ∧ Seg w' 57 eI none (P ++ [e]) none ∧ Only w w' (fun k => k = g ∨ k = e.blk ∨ k ∈ P.map E.blk) := by
  rcases last_cases P with rfl | ⟨P', z, rfl⟩
  · refine (endI_0 g e.blk gm n _ _ _ e.key w hg he nge).mono ?_
    rintro r w' ⟨rfl, ⟨h1, h2⟩, hO⟩
    exact ⟨rfl, h1, ⟨h2, trivial⟩, hO.mono (fun k h => by rcases h with h | h <;> simp [h])⟩
  · obtain ⟨hP', hz, _⟩ := (seg_append none P' [z] _).1 hs
    have el : lst none (P' ++ [z]) = some z.blk := lst_append _ _ _
    have nze : z.blk ≠ e.blk := fun h => neP (by simp [h])
    have nzg : z.blk ≠ g := fun h => ng (by simp [h])
    simp only [List.map_append, List.map_cons, List.map_nil, List.nodup_append, List.mem_cons, List.not_mem_nil, or_false, ne_eq] at nd
    rw [el] at hg
    refine (endI_1 g e.blk gm n _ _ _ e.key z.blk z.key _ _ _ w hg he hz nge nzg nze).mono ?_
    rintro r w' ⟨rfl, ⟨h1, h2, h3⟩, hO⟩
    have e1 : hd (P' ++ [z] ++ [e]) none = hd (P' ++ [z]) none := by cases P' <;> rfl
    refine ⟨rfl, ?_, ?_, hO.mono (fun k h => by rcases h with h | h | h <;> simp [h])⟩
    · rw [e1, show lst none (P' ++ [z] ++ [e]) = some e.blk from lst_append _ _ _]
      exact h1
    · refine (seg_append none (P' ++ [z]) [e] none).2 ⟨(seg_append none P' [z] _).2 ⟨hP'.only hO (fun x hx h => ?_), h3, trivial⟩, ?_⟩
      · rcases h with h | h | h
        · exact ng (h ▸ List.mem_map_of_mem (List.mem_append_left _ hx))
        · exact neP (h ▸ List.mem_map_of_mem (List.mem_append_left _ hx))
        · exact nd.2.2 x.blk (List.mem_map_of_mem hx) z.blk rfl h
      · rw [el]
        exact ⟨h2, trivial⟩

abbrev eS (x : ByteArray) : Value := .string x
theorem outS (w : World) {g gm : Nat} {n : Int} (P S : List (E ByteArray)) (e : E ByteArray) (hg : w.heap[g]? = some (.cells #[.int .i64 n, .map (some gm), ptr (hd (P ++ e :: S) none), ptr (lst none (P ++ e :: S))] 62 (0, 0))) (hs : Seg w 65 eS none (P ++ e :: S) none) (nd : ((P ++ e :: S).map E.blk).Nodup) (ng : g ∉ (P ++ e :: S).map E.blk) :
    Calls Try.prog 31 #[.pointer (some ⟨g, 0, none⟩), .pointer (some ⟨e.blk, 0, none⟩)] w fun r w' => r = .returned (.tuple #[]) ∧ w'.heap[g]? = some (.cells #[.int .i64 n, .map (some gm), ptr (hd (P ++ S) none), ptr (lst none (P ++ S))] 62 (0, 0)) ∧ Seg w' 65 eS none (P ++ S) none ∧ w'.heap[e.blk]? = some (.cells #[.string e.key, eS e.val, ptr none, ptr none] 65 (0, 0)) ∧ Only w w' (fun k => k = g ∨ k ∈ (P ++ e :: S).map E.blk) := by
  obtain ⟨hP, he, hS⟩ := (seg_append none P (e :: S) none).1 hs
  simp only [List.map_append, List.map_cons, List.mem_append, List.mem_cons, not_or] at ng
  simp only [List.map_append, List.map_cons, List.nodup_append, List.nodup_cons, List.mem_cons, ne_eq] at nd
  obtain ⟨ndP, ⟨neS, ndS⟩, nPS⟩ := nd
  obtain ⟨ngP, nge, ngS⟩ := ng
  have hmem : ∀ k, k = e.blk → k ∈ (P ++ e :: S).map E.blk := fun k h => by simp [h]
  rcases last_cases P with rfl | ⟨P', a, rfl⟩
  · cases S with
    | nil =>
      refine (outS_00 g e.blk gm n _ _ _ e.key w hg he nge).mono ?_
      rintro r w' ⟨rfl, ⟨h1, h2⟩, hO⟩
      exact ⟨rfl, h1, trivial, h2, hO.mono (fun k h => by rcases h with h | h <;> simp [h])⟩
    | cons b S =>
      have nbe : b.blk ≠ e.blk := fun h => neS (by simp [h])
      have nbg : b.blk ≠ g := fun h => ngS (by simp [h])
      refine (outS_01 g e.blk gm n _ _ _ e.key b.blk b.key _ _ w hg he hS.1 nge nbg nbe).mono ?_
      rintro r w' ⟨rfl, ⟨h1, h2, h3⟩, hO⟩
      refine ⟨rfl, ?_, ⟨h3, ?_⟩, h2, hO.mono (fun k h => by rcases h with h | h | h <;> simp [h])⟩
      · exact h1
      · refine hS.2.only hO (fun x hx h => ?_)
        rcases h with h | h | h
        · exact ngS (h ▸ by simp; exact .inr ⟨x, hx, rfl⟩)
        · exact neS (h ▸ by simp; exact .inr ⟨x, hx, rfl⟩)
        · exact (List.nodup_cons.1 ndS).1 (h ▸ List.mem_map_of_mem hx)
  · obtain ⟨hP', ha, _⟩ := (seg_append none P' [a] _).1 hP
    have nae : a.blk ≠ e.blk := fun h => nPS a.blk (by simp) _ (.inl rfl) h
    have nag : a.blk ≠ g := fun h => ngP (by simp [h])
    have ndP2 := ndP
    simp only [List.map_append, List.map_cons, List.map_nil, List.nodup_append, List.mem_cons, List.not_mem_nil, or_false, ne_eq] at ndP2
    have hPx : ∀ x ∈ P', x.blk ≠ g ∧ x.blk ≠ e.blk ∧ x.blk ≠ a.blk := fun x hx => ⟨fun h => ngP (h ▸ List.mem_map_of_mem (List.mem_append_left _ hx)), fun h => nPS x.blk (List.mem_map_of_mem (List.mem_append_left _ hx)) _ (.inl rfl) h, fun h => ndP2.2.2 x.blk (List.mem_map_of_mem hx) a.blk rfl h⟩
    have el : lst none (P' ++ [a]) = some a.blk := lst_append _ _ _
    rw [el] at he
    cases S with
    | nil =>
      have e1 : ∀ q, hd (P' ++ [a] ++ q) none = hd (P' ++ [a]) none := fun q => by cases P' <;> rfl
      have e2 : lst none (P' ++ [a] ++ [e]) = some e.blk := by rw [lst_append]; rfl
      rw [e1, e2] at hg
      refine (outS_10 g e.blk gm n _ _ _ e.key a.blk a.key _ _ w hg he ha nge nag nae).mono ?_
      rintro r w' ⟨rfl, ⟨h1, h2, h3⟩, hO⟩
      refine ⟨rfl, ?_, ?_, h2, hO.mono (fun k h => by rcases h with h | h | h <;> simp [h])⟩
      · rw [List.append_nil, el]
        exact h1
      · rw [List.append_nil]
        refine (seg_append none P' [a] none).2 ⟨hP'.only hO (fun x hx h => ?_), h3, trivial⟩
        obtain ⟨x1, x2, x3⟩ := hPx x hx
        rcases h with h | h | h
        · exact x1 h
        · exact x2 h
        · exact x3 h
    | cons b S =>
      have nbe : b.blk ≠ e.blk := fun h => neS (by simp [h])
      have nbg : b.blk ≠ g := fun h => ngS (by simp [h])
      have nab : a.blk ≠ b.blk := fun h => nPS a.blk (by simp) b.blk (.inr (by simp)) h
      have e1 : ∀ q, hd (P' ++ [a] ++ q) none = hd (P' ++ [a]) none := fun q => by cases P' <;> rfl
      have e2 : lst none (P' ++ [a] ++ e :: b :: S) = lst (some b.blk) S := by rw [lst_append]; rfl
      rw [e1, e2] at hg
      refine (outS_11 g e.blk gm n _ _ _ e.key a.blk a.key _ _ b.blk b.key _ _ w hg he ha hS.1 nge nag nae nbg nbe nab).mono ?_
      rintro r w' ⟨rfl, ⟨h1, h2, h3, h4⟩, hO⟩
      refine ⟨rfl, ?_, ?_, h2, hO.mono (fun k h => by rcases h with h | h | h | h <;> simp [h])⟩
      · rw [e1, show lst none (P' ++ [a] ++ b :: S) = lst (some b.blk) S from by rw [lst_append]; rfl]
        exact h1
      · refine (seg_append none (P' ++ [a]) (b :: S) none).2 ⟨(seg_append none P' [a] _).2 ⟨hP'.only hO (fun x hx h => ?_), h3, trivial⟩, ?_⟩
        · obtain ⟨x1, x2, x3⟩ := hPx x hx
          rcases h with h | h | h | h
          · exact x1 h
          · exact x2 h
          · exact x3 h
          · exact nPS x.blk (List.mem_map_of_mem (List.mem_append_left _ hx)) b.blk (.inr (by simp)) h
        · rw [el]
          refine ⟨h4, hS.2.only hO (fun x hx h => ?_)⟩
          rcases h with h | h | h | h
          · exact ngS (h ▸ by simp; exact .inr ⟨x, hx, rfl⟩)
          · exact neS (h ▸ by simp; exact .inr ⟨x, hx, rfl⟩)
          · exact nPS a.blk (by simp) x.blk (.inr (by simp; exact .inr ⟨x, hx, rfl⟩)) h.symm
          · exact (List.nodup_cons.1 ndS).1 (h ▸ List.mem_map_of_mem hx)
theorem endS (w : World) {g gm : Nat} {n : Int} (P : List (E ByteArray)) (e : E ByteArray) (xe : Option Addr) (hg : w.heap[g]? = some (.cells #[.int .i64 n, .map (some gm), ptr (hd P none), ptr (lst none P)] 62 (0, 0))) (hs : Seg w 65 eS none P none) (he : w.heap[e.blk]? = some (.cells #[.string e.key, eS e.val, .pointer xe, ptr none] 65 (0, 0))) (nd : (P.map E.blk).Nodup) (ng : g ∉ P.map E.blk) (nge : g ≠ e.blk) (neP : e.blk ∉ P.map E.blk) :
    Calls Try.prog 32 #[.pointer (some ⟨g, 0, none⟩), .pointer (some ⟨e.blk, 0, none⟩)] w fun r w' => r = .returned (.tuple #[]) ∧ w'.heap[g]? = some (.cells #[.int .i64 n, .map (some gm), ptr (hd (P ++ [e]) none), ptr (lst none (P ++ [e]))] 62 (0, 0)) ∧ Seg w' 65 eS none (P ++ [e]) none ∧ Only w w' (fun k => k = g ∨ k = e.blk ∨ k ∈ P.map E.blk) := by
  rcases last_cases P with rfl | ⟨P', z, rfl⟩
  · refine (endS_0 g e.blk gm n _ _ _ e.key w hg he nge).mono ?_
    rintro r w' ⟨rfl, ⟨h1, h2⟩, hO⟩
    exact ⟨rfl, h1, ⟨h2, trivial⟩, hO.mono (fun k h => by rcases h with h | h <;> simp [h])⟩
  · obtain ⟨hP', hz, _⟩ := (seg_append none P' [z] _).1 hs
    have el : lst none (P' ++ [z]) = some z.blk := lst_append _ _ _
    have nze : z.blk ≠ e.blk := fun h => neP (by simp [h])
    have nzg : z.blk ≠ g := fun h => ng (by simp [h])
    simp only [List.map_append, List.map_cons, List.map_nil, List.nodup_append, List.mem_cons, List.not_mem_nil, or_false, ne_eq] at nd
    rw [el] at hg
    refine (endS_1 g e.blk gm n _ _ _ e.key z.blk z.key _ _ _ w hg he hz nge nzg nze).mono ?_
    rintro r w' ⟨rfl, ⟨h1, h2, h3⟩, hO⟩
    have e1 : hd (P' ++ [z] ++ [e]) none = hd (P' ++ [z]) none := by cases P' <;> rfl
    refine ⟨rfl, ?_, ?_, hO.mono (fun k h => by rcases h with h | h | h <;> simp [h])⟩
    · rw [e1, show lst none (P' ++ [z] ++ [e]) = some e.blk from lst_append _ _ _]
      exact h1
    · refine (seg_append none (P' ++ [z]) [e] none).2 ⟨(seg_append none P' [z] _).2 ⟨hP'.only hO (fun x hx h => ?_), h3, trivial⟩, ?_⟩
      · rcases h with h | h | h
        · exact ng (h ▸ List.mem_map_of_mem (List.mem_append_left _ hx))
        · exact neP (h ▸ List.mem_map_of_mem (List.mem_append_left _ hx))
        · exact nd.2.2 x.blk (List.mem_map_of_mem hx) z.blk rfl h
      · rw [el]
        exact ⟨h2, trivial⟩
end Go.Proofs.Ytlainhbmfphojaa.Tb
