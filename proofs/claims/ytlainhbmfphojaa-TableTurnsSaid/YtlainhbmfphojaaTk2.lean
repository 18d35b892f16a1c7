/- Proved: what reads as a row of texts, as a Keep; TableKeeps for every argument. -/
import Derived.Test.YtlainhbmfphojaaTk1
import Derived.Laws.Cover2
import Derived.Lib.SmallJoins
import Derived.SizedLaws
import Derived.Deep.Slices
namespace Go.Proofs.Ytlainhbmfphojaa.Tb
open Go.ChangeShapes Go.WideShapes Go.ChangeAt Go.RowKit Go.Maps Go.Proofs.YtlainhbmfphojaaW.PrintWords
set_option linter.unusedVariables false
set_option linter.unusedSimpArgs false
theorem keeps.calls (z : Int) (A : Option Addr) (c : Nat) (al : List ByteArray) (key : ByteArray) (n : Int) (w : World) (HR : RS w A al.length al) (hal : ∀ k, k < al.length → (al.getD k ByteArray.empty).size ≤ maxLen) (hkey : key.size ≤ 140737488355328) (hN : -9223372036854775808 ≤ n ∧ n ≤ 9223372036854775807) : Calls Try.prog 3 #[.agg #[.int .i64 z, .slice A al.length c, .string key, .int .i64 n]] w fun r w' => r = .returned (.bool true) ∧ Below w.heap.size w w' := by
  by_cases c1 : z < 1 ∨ 200 < z
  · exact keeps_bad z A c al key n w c1
  · obtain ⟨m, rfl⟩ := Int.eq_ofNat_of_zero_le (show 0 ≤ z by omega)
    exact keeps_ok m A c al key n w (by omega) (by omega) HR hal hkey hN
section
variable {H : Type} {enc : TypeId × Value → H} {w : World} {base : Nat} {spare : Nat → Bool} {held : Bool} {fuel : Nat}
theorem row_cons {n : Nat} {l : List Value} (h : l.length = n + 1) : ∃ c r, l = c :: r ∧ r.length = n := by
  match l, h with
  | c :: r, h => exact ⟨c, r, rfl, by simpa using h⟩
theorem row_nil {l : List Value} (h : l.length = 0) : l = [] := List.eq_nil_of_length_eq_zero h
theorem wf_i64 {n : Int} (h : (Lit.int .i64 n).wf = true) : -9223372036854775808 ≤ n ∧ n ≤ 9223372036854775807 := by
  simp [Lit.wf] at h
  exact ⟨h.1, h.2⟩
theorem cells3 : Try.prog.cellsOf 3 = 1 := by kernel_rfl
theorem cells9 : Try.prog.cellsOf 9 = 1 := by kernel_rfl
theorem cells22 : Try.prog.cellsOf 22 = 1 := by kernel_rfl
theorem cells24 : Try.prog.cellsOf 24 = 4 := by kernel_rfl
theorem bytes9 : Try.prog.bytesOf 9 = 16 := by kernel_rfl
theorem trod_strs {A : Option Addr} {n c : Nat} {x : DataW H × List MemPlace} (h : DataW.trod enc Try.prog w base spare held fuel 22 [.slice A n c] = some x) : ∃ l : List ByteArray, RS w A l.length l ∧ (∀ k, k < l.length → (l.getD k ByteArray.empty).size ≤ maxLen) ∧ n = l.length := by
  rcases Go.Deep.open_slice Try.underlying22 h with ⟨hc, _⟩ | ⟨a, len', cap', m, k, D, Pl, hc, _, hl, hm, hm', _, hcell⟩
  · simp only [List.cons.injEq, Value.slice.injEq, and_true] at hc
    obtain ⟨rfl, rfl, rfl⟩ := hc
    exact ⟨[], ⟨rfl, by simp, fun h0 => absurd h0 (by simp)⟩, fun k hk => absurd hk (Nat.not_lt_zero k), rfl⟩
  · simp only [List.cons.injEq, Value.slice.injEq, and_true] at hc
    obtain ⟨rfl, rfl, rfl⟩ := hc
    have hle : n ≤ m := by rw [hm']; split <;> omega
    have hall : ∀ i, i < n → ∃ s : ByteArray, w.cell? (a.add i) = some (.string s) ∧ s.size ≤ maxLen := by
      intro i hi
      obtain ⟨cs, h1, h2⟩ := hcell i (by omega)
      obtain ⟨s, rfl, _, hs⟩ := DataW.trod_string Try.underlying9 h2
      obtain ⟨_, hlen, hc2⟩ := World.cells?_some h1
      rw [cells9, Nat.mul_one] at hc2
      refine ⟨s, ?_, hs⟩
      have := hc2 0 (by decide)
      simpa [Addr.add] using this
    obtain ⟨f, hf⟩ := Go.Deep.choose_lt hall
    have hg : ∀ i, i < n → ((List.range n).map f).getD i ByteArray.empty = f i := fun i hi => by simp [List.getD_eq_getElem?_getD, hi]
    have hln : ((List.range n).map f).length = n := by simp
    refine ⟨(List.range n).map f, ⟨rfl, ?_, fun h0 => ⟨a, rfl, fun j hj => ?_⟩⟩, fun k hk => ?_, hln.symm⟩
    · rw [hln]
      unfold maxLen at hm
      omega
    · rw [hln] at hj
      rw [hg j hj]; exact (hf j hj).1
    · rw [hln] at hk
      rw [hg k hk]; exact (hf k hk).2
theorem trod_keep {cs : List Value} {x : DataW H × List MemPlace} (h : DataW.trod enc Try.prog w base spare held fuel 24 cs = some x) : ∃ (z : Int) (A : Option Addr) (c : Nat) (al : List ByteArray) (key : ByteArray) (n : Int) (d0 d1 d3 : DataW H), cs = [.int .i64 z, .slice A al.length c, .string key, .int .i64 n] ∧ RS w A al.length al ∧ (∀ k, k < al.length → (al.getD k ByteArray.empty).size ≤ maxLen) ∧ (-9223372036854775808 ≤ n ∧ n ≤ 9223372036854775807) ∧ x.1 = .agg [d0, d1, .lit (.string key.data.toList), d3] := by
  obtain ⟨xs, m, _, rfl, hl, hlen, hf⟩ := DataW.trod_struct Try.underlying24 h
  rw [cells24] at hl
  obtain ⟨c0, r0, rfl, l0⟩ := row_cons hl
  obtain ⟨c1, r1, rfl, l1⟩ := row_cons l0
  obtain ⟨c2, r2, rfl, l2⟩ := row_cons l1
  obtain ⟨c3, r3, rfl, l3⟩ := row_cons l2
  obtain rfl := row_nil l3
  clear hl l0 l1 l2 l3
  have f0 : DataW.trod enc Try.prog w base spare held m 3 (([c0, c1, c2, c3].drop 0).take (Try.prog.cellsOf 3)) = xs[0]? := hf 0 _ rfl
  have f1 : DataW.trod enc Try.prog w base spare held m 22 (([c0, c1, c2, c3].drop 1).take (Try.prog.cellsOf 22)) = xs[1]? := hf 1 _ rfl
  have f2 : DataW.trod enc Try.prog w base spare held m 9 (([c0, c1, c2, c3].drop 2).take (Try.prog.cellsOf 9)) = xs[2]? := hf 2 _ rfl
  have f3 : DataW.trod enc Try.prog w base spare held m 3 (([c0, c1, c2, c3].drop 3).take (Try.prog.cellsOf 3)) = xs[3]? := hf 3 _ rfl
  simp only [cells3, List.drop_zero, List.take_succ_cons, List.take_zero] at f0
  simp only [cells22, List.drop_succ_cons, List.drop_zero, List.take_succ_cons, List.take_zero] at f1
  simp only [cells9, List.drop_succ_cons, List.drop_zero, List.take_succ_cons, List.take_zero] at f2
  simp only [cells3, List.drop_succ_cons, List.drop_zero, List.take_succ_cons, List.take_zero] at f3
  match xs, hlen with
  | [y0, y1, y2, y3], _ =>
  simp only [List.getElem?_cons_zero, List.getElem?_cons_succ] at f0 f1 f2 f3
  obtain ⟨z, q0, _, _⟩ := DataW.trod_int Try.underlying3 f0
  obtain ⟨key, q2, e2, _⟩ := DataW.trod_string Try.underlying9 f2
  obtain ⟨n, q3, _, wn⟩ := DataW.trod_int Try.underlying3 f3
  have hsl : ∃ A n c, c1 = .slice A n c := by
    rcases Go.Deep.open_slice Try.underlying22 f1 with ⟨hc, _⟩ | ⟨a, len', cap', m', k, D, Pl, hc, _⟩
    · simp only [List.cons.injEq, and_true] at hc
      exact ⟨_, _, _, hc⟩
    · simp only [List.cons.injEq, and_true] at hc
      exact ⟨_, _, _, hc⟩
  obtain ⟨A, ln, c, rfl⟩ := hsl
  obtain ⟨al, hr, ha, rfl⟩ := trod_strs f1
  simp only [List.cons.injEq, and_true] at q0 q2 q3
  subst q0 q2 q3
  subst e2
  exact ⟨z, A, c, al, key, n, y0.1, y1.1, y3.1, rfl, hr, ha, wf_i64 wn, rfl⟩
set_option maxRecDepth 100000 in
theorem keep_size {ts : List TypeId} {ds : List (DataW H)} (h : (DataW.weightsEach Try.prog ts ds).all (· ≤ reachBytes) = true) {j : Nat} {d0 d1 d3 : DataW H} {key : ByteArray} (ht : ts[j]? = some 24) (hd : ds[j]? = some (.agg [d0, d1, .lit (.string key.data.toList), d3])) : key.size ≤ 140737488355328 := by
  have e24 : DataW.weights Try.prog 24 (.agg [d0, d1, .lit (.string key.data.toList), d3]) = DataW.weightsEach Try.prog [3, 22, 9, 3] [d0, d1, .lit (.string key.data.toList), d3] := by
    rw [DataW.weights, Try.underlying24]
    rfl
  have := List.all_eq_true.1 h _ (DataW.weights_mem_each ht hd key.data.toList.length (by
    rw [e24]
    exact DataW.weights_mem_each (j := 2) rfl rfl _ (by rw [DataW.weights]; exact List.mem_singleton.2 rfl)))
  have this : key.data.toList.length ≤ reachBytes := by simpa using this
  simp only [reachBytes] at this
  have e : key.data.toList.length = key.size := Array.length_toList
  omega
end
end Go.Proofs.Ytlainhbmfphojaa.Tb
