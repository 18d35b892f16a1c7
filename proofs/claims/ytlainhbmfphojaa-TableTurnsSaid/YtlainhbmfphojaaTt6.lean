/- Proved: TableTurns answers true, whatever is handed in. -/
import Derived.Test.YtlainhbmfphojaaTt5
import Derived.Test.YtlainhbmfphojaaTk2

import Derived.Test.YtlainhbmfphojaaTk1
import Derived.Laws.Cover2
import Derived.Lib.SmallJoins
import Derived.SizedLaws
import Derived.Deep.Slices
namespace Go.Proofs.Ytlainhbmfphojaa.Tb
open Go.RowKit Go.Maps Go.Proofs.YtlainhbmfphojaaW.PrintWords Go.Proofs.YtlainhbmfphojaaW.PrintLast Go.Proofs.YtlainhbmfphojaaW.PrintMore
set_option linter.unusedVariables false
set_option linter.unusedSimpArgs false
theorem turns.calls (kl : List ByteArray) (A : Option Addr) (c : Nat) (add : Int) (dr : ByteArray) (w : World) (HR : RS w A kl.length kl) (hal : ∀ k, k < kl.length → (kl.getD k ByteArray.empty).size ≤ 140737488355328) (hdr : dr.size ≤ 140737488355328) :
    Calls Try.prog 6 #[.slice A kl.length c, .int .i64 add, .string dr] w fun r w' => r = .returned (.bool true) ∧ Below w.heap.size w w' := by
  by_cases hl : kl.length ≤ 200
  · exact turns_ok kl A c add dr w hl HR hal hdr
  · exact turns_long kl A c add dr w (by omega)
theorem weightsAll_mem {H : Type} {e : TypeId} : ∀ {ds : List (DataW H)} {d : DataW H} {m : Nat}, d ∈ ds → m ∈ DataW.weights Try.prog e d → m ∈ DataW.weightsAll Try.prog e ds
  | [], _, _, h, _ => by simp at h
  | x :: r, d, m, h, hm => by
    rw [DataW.weightsAll, List.mem_append]
    rcases List.mem_cons.1 h with rfl | h
    · exact .inl hm
    · exact .inr (weightsAll_mem h hm)
section
variable {H : Type} {enc : TypeId × Value → H} {w : World} {base : Nat} {spare : Nat → Bool} {held : Bool} {fuel : Nat}
theorem trod_strs_sized {A : Option Addr} {n c : Nat} {x : DataW H × List MemPlace} (h : DataW.trod enc Try.prog w base spare held fuel 22 [.slice A n c] = some x) : ∃ l : List ByteArray, RS w A l.length l ∧ (∀ k, k < l.length → (l.getD k ByteArray.empty).data.toList.length ∈ DataW.weights Try.prog 22 x.1) ∧ n = l.length := by
  rcases Go.Deep.open_slice Try.underlying22 h with ⟨hc, _⟩ | ⟨a, len', cap', m, k, D, Pl, hc, _, hl, hm, hm', hx, hcell⟩
  · simp only [List.cons.injEq, Value.slice.injEq, and_true] at hc
    obtain ⟨rfl, rfl, rfl⟩ := hc
    exact ⟨[], ⟨rfl, by simp, fun h0 => absurd h0 (by simp)⟩, fun k hk => absurd hk (Nat.not_lt_zero k), rfl⟩
  · simp only [List.cons.injEq, Value.slice.injEq, and_true] at hc
    obtain ⟨rfl, rfl, rfl⟩ := hc
    have hle : n ≤ m := by rw [hm']; split <;> omega
    have hall : ∀ i, i < n → ∃ s : ByteArray, w.cell? (a.add i) = some (.string s) ∧ D i = .lit (.string s.data.toList) := by
      intro i hi
      obtain ⟨cs, h1, h2⟩ := hcell i (by omega)
      obtain ⟨s, rfl, hD, hs⟩ := DataW.trod_string Try.underlying9 h2
      obtain ⟨_, hlen, hc2⟩ := World.cells?_some h1
      rw [cells9, Nat.mul_one] at hc2
      refine ⟨s, ?_, (Prod.mk.inj hD).1⟩
      have := hc2 0 (by decide)
      simpa [Addr.add] using this
    obtain ⟨f, hf⟩ := Go.Deep.choose_lt hall
    have hg : ∀ i, i < n → ((List.range n).map f).getD i ByteArray.empty = f i := fun i hi => by simp [List.getD_eq_getElem?_getD, hi]
    have hln : ((List.range n).map f).length = n := by simp
    refine ⟨(List.range n).map f, ⟨rfl, ?_, fun h0 => ⟨a, rfl, fun j hj => ?_⟩⟩, fun k hk => ?_, hln.symm⟩
    · rw [hln]
      unfold maxLen at hm
      omega
    · rw [hln] at hj
      rw [hg j hj]; exact (hf j hj).1
    · rw [hln] at hk
      rw [hg k hk, hx]
      show _ ∈ DataW.weights Try.prog 22 (.slice ((List.range n).map D) _)
      rw [DataW.weights, Try.underlying22]
      refine List.mem_cons_of_mem _ (List.mem_append_left _ (weightsAll_mem (d := D k) (List.mem_map.2 ⟨k, List.mem_range.2 hk, rfl⟩) ?_))
      rw [(hf k hk).2, DataW.weights]
      exact List.mem_singleton.2 rfl
end
end Go.Proofs.Ytlainhbmfphojaa.Tb
