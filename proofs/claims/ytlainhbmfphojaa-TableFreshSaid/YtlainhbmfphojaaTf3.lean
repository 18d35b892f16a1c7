/- Proved: what reads as a row of texts, their sizes; TableFresh for every argument. -/
import Derived.Test.YtlainhbmfphojaaTf2
import Derived.Laws.Cover2
import Derived.Lib.SmallJoins
import Derived.SizedLaws
import Derived.Deep.Slices
namespace Go.Proofs.Ytlainhbmfphojaa.Tb
open Go.ChangeShapes Go.WideShapes Go.ChangeAt Go.RowKit Go.Maps Go.Proofs.YtlainhbmfphojaaW.PrintWords
set_option linter.unusedVariables false
set_option linter.unusedSimpArgs false
theorem fresh.calls (A : Option Addr) (c : Nat) (kl : List ByteArray) (z : Int) (w : World) (HR : RS w A kl.length kl) (hal : ∀ k, k < kl.length → (kl.getD k ByteArray.empty).size ≤ 140737488355328) : Calls Try.prog 5 #[.slice A kl.length c, .int .i64 z] w fun r w' => r = .returned (.bool true) ∧ Below w.heap.size w w' := by
  by_cases c1 : z < 1 ∨ 4096 < z
  · exact fresh_bad z A c kl w c1
  · obtain ⟨m, rfl⟩ := Int.eq_ofNat_of_zero_le (show 0 ≤ z by omega)
    exact fresh_ok m A c kl w (by omega) (by omega) HR hal
section
variable {H : Type} {enc : TypeId × Value → H} {w : World} {base : Nat} {spare : Nat → Bool} {held : Bool} {fuel : Nat}
theorem cells9' : Try.prog.cellsOf 9 = 1 := by kernel_rfl
theorem weightsAll_mem {P : Program} {e : TypeId} {d : DataW H} {n : Nat} (hn : n ∈ d.weights P e) : ∀ {l : List (DataW H)}, d ∈ l → n ∈ DataW.weightsAll P e l
  | [], h => by simp at h
  | x :: r, h => by
    unfold DataW.weightsAll
    rcases List.mem_cons.1 h with rfl | h
    · exact List.mem_append_left _ hn
    · exact List.mem_append_right _ (weightsAll_mem hn h)
theorem trod_strs_w {A : Option Addr} {n c : Nat} {x : DataW H × List MemPlace} (h : DataW.trod enc Try.prog w base spare held fuel 22 [.slice A n c] = some x) : ∃ l : List ByteArray, RS w A l.length l ∧ (∀ k, k < l.length → (l.getD k ByteArray.empty).size ≤ maxLen ∧ (l.getD k ByteArray.empty).size ∈ DataW.weights Try.prog 22 x.1) ∧ n = l.length := by
  rcases Go.Deep.open_slice Try.underlying22 h with ⟨hc, _⟩ | ⟨a, len', cap', m, k, D, Pl, hc, _, hl, hm, hm', hxx, hcell⟩
  · simp only [List.cons.injEq, Value.slice.injEq, and_true] at hc
    obtain ⟨rfl, rfl, rfl⟩ := hc
    exact ⟨[], ⟨rfl, by simp, fun h0 => absurd h0 (by simp)⟩, fun k hk => absurd hk (Nat.not_lt_zero k), rfl⟩
  · simp only [List.cons.injEq, Value.slice.injEq, and_true] at hc
    obtain ⟨rfl, rfl, rfl⟩ := hc
    have hle : n ≤ m := by rw [hm']; split <;> omega
    have hall : ∀ i, i < n → ∃ s : ByteArray, w.cell? (a.add i) = some (.string s) ∧ s.size ≤ maxLen ∧ D i = .lit (.string s.data.toList) := by
      intro i hi
      obtain ⟨cs, h1, h2⟩ := hcell i (by omega)
      obtain ⟨s, rfl, hx, hs⟩ := DataW.trod_string Try.underlying9 h2
      obtain ⟨_, hlen, hc2⟩ := World.cells?_some h1
      rw [cells9', Nat.mul_one] at hc2
      refine ⟨s, ?_, hs, congrArg Prod.fst hx⟩
      have := hc2 0 (by decide)
      simpa [Addr.add] using this
    obtain ⟨f, hf⟩ := Go.Deep.choose_lt hall
    have hg : ∀ i, i < n → ((List.range n).map f).getD i ByteArray.empty = f i := fun i hi => by simp [List.getD_eq_getElem?_getD, hi]
    have hln : ((List.range n).map f).length = n := by simp
    refine ⟨(List.range n).map f, ⟨rfl, ?_, fun h0 => ⟨a, rfl, fun j hj => ?_⟩⟩, fun k hk => ?_, hln.symm⟩
    · rw [hln]
      unfold maxLen at hm
      omega
    · rw [hln] at hj
      rw [hg j hj]; exact (hf j hj).1
    · rw [hln] at hk
      rw [hg k hk]
      refine ⟨(hf k hk).2.1, ?_⟩
      rw [hxx]
      show (f k).size ∈ DataW.weights Try.prog 22 (.slice ((List.range n).map D) _)
      rw [DataW.weights, Try.underlying22]
      refine List.mem_cons_of_mem _ (List.mem_append_left _ (weightsAll_mem (d := D k) ?_ (List.mem_map.2 ⟨k, List.mem_range.2 hk, rfl⟩)))
      rw [(hf k hk).2.2, DataW.weights]
      refine List.mem_singleton.2 ?_
      exact Array.length_toList.symm
theorem strs_size {ts : List TypeId} {ds : List (DataW H)} (h : (DataW.weightsEach Try.prog ts ds).all (· ≤ reachBytes) = true) {j n : Nat} {d : DataW H} (ht : ts[j]? = some 22) (hd : ds[j]? = some d) (hn : n ∈ DataW.weights Try.prog 22 d) : n ≤ 140737488355328 := by
  have := List.all_eq_true.1 h _ (DataW.weights_mem_each ht hd n hn)
  have this : n ≤ reachBytes := by simpa using this
  simp only [reachBytes] at this
  omega
end
end Go.Proofs.Ytlainhbmfphojaa.Tb
