/-
  No cell of these rows narrows 'for every input' (looked for: loops, veiled, ifaces, maps, wideKeys, modest, calm, conditions, laid).
  DERIVED. THE GIVEN ROWS OF THIS SEAT. 7 by the template 'for every input the law returns true; each argument reads behind the call as it read before'; 0 by the template 'total and deterministic' (their statements: YtjffkidfoapbjaaTotals.lean).
  GIVEN WITH THE SEED: the statements are not yours to turn. If you find one false, say at which input.
  Laid BY PROGRAM, IN A SANDBOX (cutbox-rows.mjs): the forced cells as the released guide's own fill.sh prints them over the translation d980228f9d97254d… (all of the seat's roots in one cut). By AI agents, Wed Nov 11 2026. No macro, syntax, notation, axiom, sorry.
-/
import Derived.Test.YtjffkidfoapbjaaChecked
import GoSem.Claim
import GoSem.ClaimJoined
import GoSem.ClaimMapViews
import Derived.JoinedTies
import Derived.KernelRfl
namespace Go.Proofs.Ytjffkidfoapbjaa
/- THE CELL 'sum', in the pinned program and in every row, IS THE sha256 OF THE DUMP (.gsa) THAT YtjffkidfoapbjaaProg.lean LOADS. Nothing in Lean hashes anything: it is a label: what it is worth is what the hold of that sum in a sandbox is worth. -/
noncomputable def Try.pinned : Pinned := { name := "ytjffkidfoapbjaa", sum := "d980228f9d97254dd1338e3b05e24e5a3d6a87146767f8dc149d0580d222c86d", checked := Try.checked }
namespace Rows
def none {H : Type} : Left H := { results := [], args := [] }

/-- 'joustlaw25.SmoothMixes': WHATEVER THE INPUT: true; the input reads as it did. -/
def smoothMixesSpec : ChangeSpec := { name := "smoothMixes", fn := fun _ => fun
  | [d1, d2, d3] => { results := [.lit (.bool true)], args := [d1, d2, d3] }
  | _ => none }
def smoothMixesRow : OpenClaim := { program := "ytjffkidfoapbjaa", sum := "d980228f9d97254dd1338e3b05e24e5a3d6a87146767f8dc149d0580d222c86d", func := "joust/joustlaw25.SmoothMixes", spec := "smoothMixes", apart := false }
def SmoothMixesSaid : Prop := smoothMixesRow.holds Try.pinned (OpenSpec.ofChange smoothMixesSpec)

/-- ITS FALSE NEIGHBOUR: 'it returns false'. Refute it at one input. -/
def smoothMixesWrong : ChangeSpec := { name := "smoothMixes", fn := fun _ => fun
  | [d1, d2, d3] => { results := [.lit (.bool false)], args := [d1, d2, d3] }
  | _ => none }
def SmoothMixesWrongFalsely : Prop := smoothMixesRow.holds Try.pinned (OpenSpec.ofChange smoothMixesWrong)

/-- 'joustlaw25.SmoothMeans': WHATEVER THE INPUT: true; the input reads as it did. -/
def smoothMeansSpec : ChangeSpec := { name := "smoothMeans", fn := fun _ => fun
  | [d] => { results := [.lit (.bool true)], args := [d] }
  | _ => none }
def smoothMeansRow : OpenClaim := { program := "ytjffkidfoapbjaa", sum := "d980228f9d97254dd1338e3b05e24e5a3d6a87146767f8dc149d0580d222c86d", func := "joust/joustlaw25.SmoothMeans", spec := "smoothMeans", apart := false }
def SmoothMeansSaid : Prop := smoothMeansRow.holds Try.pinned (OpenSpec.ofChange smoothMeansSpec)

/-- ITS FALSE NEIGHBOUR: 'it returns false'. Refute it at one input. -/
def smoothMeansWrong : ChangeSpec := { name := "smoothMeans", fn := fun _ => fun
  | [d] => { results := [.lit (.bool false)], args := [d] }
  | _ => none }
def SmoothMeansWrongFalsely : Prop := smoothMeansRow.holds Try.pinned (OpenSpec.ofChange smoothMeansWrong)

/-- 'joustlaw25.SmoothTurns': WHATEVER THE INPUT: true; the input reads as it did. -/
def smoothTurnsSpec : ChangeSpec := { name := "smoothTurns", fn := fun _ => fun
  | [d1, d2, d3] => { results := [.lit (.bool true)], args := [d1, d2, d3] }
  | _ => none }
def smoothTurnsRow : OpenClaim := { program := "ytjffkidfoapbjaa", sum := "d980228f9d97254dd1338e3b05e24e5a3d6a87146767f8dc149d0580d222c86d", func := "joust/joustlaw25.SmoothTurns", spec := "smoothTurns", apart := false }
def SmoothTurnsSaid : Prop := smoothTurnsRow.holds Try.pinned (OpenSpec.ofChange smoothTurnsSpec)

/-- ITS FALSE NEIGHBOUR: 'it returns false'. Refute it at one input. -/
def smoothTurnsWrong : ChangeSpec := { name := "smoothTurns", fn := fun _ => fun
  | [d1, d2, d3] => { results := [.lit (.bool false)], args := [d1, d2, d3] }
  | _ => none }
def SmoothTurnsWrongFalsely : Prop := smoothTurnsRow.holds Try.pinned (OpenSpec.ofChange smoothTurnsWrong)

/-- 'joustlaw25.SmoothPlaces': WHATEVER THE INPUT: true; the input reads as it did. -/
def smoothPlacesSpec : ChangeSpec := { name := "smoothPlaces", fn := fun _ => fun
  | [d1, d2] => { results := [.lit (.bool true)], args := [d1, d2] }
  | _ => none }
def smoothPlacesRow : OpenClaim := { program := "ytjffkidfoapbjaa", sum := "d980228f9d97254dd1338e3b05e24e5a3d6a87146767f8dc149d0580d222c86d", func := "joust/joustlaw25.SmoothPlaces", spec := "smoothPlaces", apart := false }
def SmoothPlacesSaid : Prop := smoothPlacesRow.holds Try.pinned (OpenSpec.ofChange smoothPlacesSpec)

/-- ITS FALSE NEIGHBOUR: 'it returns false'. Refute it at one input. -/
def smoothPlacesWrong : ChangeSpec := { name := "smoothPlaces", fn := fun _ => fun
  | [d1, d2] => { results := [.lit (.bool false)], args := [d1, d2] }
  | _ => none }
def SmoothPlacesWrongFalsely : Prop := smoothPlacesRow.holds Try.pinned (OpenSpec.ofChange smoothPlacesWrong)

/-- 'joustlaw25.SmoothBetween': WHATEVER THE INPUT: true; the input reads as it did. -/
def smoothBetweenSpec : ChangeSpec := { name := "smoothBetween", fn := fun _ => fun
  | [d1, d2, d3] => { results := [.lit (.bool true)], args := [d1, d2, d3] }
  | _ => none }
def smoothBetweenRow : OpenClaim := { program := "ytjffkidfoapbjaa", sum := "d980228f9d97254dd1338e3b05e24e5a3d6a87146767f8dc149d0580d222c86d", func := "joust/joustlaw25.SmoothBetween", spec := "smoothBetween", apart := false }
def SmoothBetweenSaid : Prop := smoothBetweenRow.holds Try.pinned (OpenSpec.ofChange smoothBetweenSpec)

/-- ITS FALSE NEIGHBOUR: 'it returns false'. Refute it at one input. -/
def smoothBetweenWrong : ChangeSpec := { name := "smoothBetween", fn := fun _ => fun
  | [d1, d2, d3] => { results := [.lit (.bool false)], args := [d1, d2, d3] }
  | _ => none }
def SmoothBetweenWrongFalsely : Prop := smoothBetweenRow.holds Try.pinned (OpenSpec.ofChange smoothBetweenWrong)

/-- 'joustlaw25.SmoothSelf': WHATEVER THE INPUT: true; the input reads as it did. -/
def smoothSelfSpec : ChangeSpec := { name := "smoothSelf", fn := fun _ => fun
  | [d1, d2] => { results := [.lit (.bool true)], args := [d1, d2] }
  | _ => none }
def smoothSelfRow : OpenClaim := { program := "ytjffkidfoapbjaa", sum := "d980228f9d97254dd1338e3b05e24e5a3d6a87146767f8dc149d0580d222c86d", func := "joust/joustlaw25.SmoothSelf", spec := "smoothSelf", apart := false }
def SmoothSelfSaid : Prop := smoothSelfRow.holds Try.pinned (OpenSpec.ofChange smoothSelfSpec)

/-- ITS FALSE NEIGHBOUR: 'it returns false'. Refute it at one input. -/
def smoothSelfWrong : ChangeSpec := { name := "smoothSelf", fn := fun _ => fun
  | [d1, d2] => { results := [.lit (.bool false)], args := [d1, d2] }
  | _ => none }
def SmoothSelfWrongFalsely : Prop := smoothSelfRow.holds Try.pinned (OpenSpec.ofChange smoothSelfWrong)

/-- 'joustlaw25.SmoothKeeps': WHATEVER THE INPUT: true; the input reads as it did. -/
def smoothKeepsSpec : ChangeSpec := { name := "smoothKeeps", fn := fun _ => fun
  | [d1, d2, d3] => { results := [.lit (.bool true)], args := [d1, d2, d3] }
  | _ => none }
def smoothKeepsRow : OpenClaim := { program := "ytjffkidfoapbjaa", sum := "d980228f9d97254dd1338e3b05e24e5a3d6a87146767f8dc149d0580d222c86d", func := "joust/joustlaw25.SmoothKeeps", spec := "smoothKeeps", apart := false }
def SmoothKeepsSaid : Prop := smoothKeepsRow.holds Try.pinned (OpenSpec.ofChange smoothKeepsSpec)

/-- ITS FALSE NEIGHBOUR: 'it returns false'. Refute it at one input. -/
def smoothKeepsWrong : ChangeSpec := { name := "smoothKeeps", fn := fun _ => fun
  | [d1, d2, d3] => { results := [.lit (.bool false)], args := [d1, d2, d3] }
  | _ => none }
def SmoothKeepsWrongFalsely : Prop := smoothKeepsRow.holds Try.pinned (OpenSpec.ofChange smoothKeepsWrong)

/- THE SECOND FORM. 'bulk': how many values and letters a reading holds, each counted each time it is reached (what is shared counts as often as it is met; a slice's spare places count too). A statement '..UptoSaid' is the law's where the arguments, and the package variables that the reading takes, are together of bulk at most 1048576: NARROWER than '..Said'. Prove '..Said' where nothing that the law and all that it calls make is longer than what came in: it says more and counts as full. Else prove '..UptoSaid'. A law counts once. -/
mutual
def uptoBulk {H : Type} : DataW H → Nat
  | .lit (.string bytes) => bytes.length + 1
  | .lit _ => 1
  | .nil => 1
  | .ptr d => uptoBulk d + 1
  | .slice elems spare => uptoBulkAll elems + uptoBulkAll spare + 1
  | .agg parts => uptoBulkAll parts + 1
  | .iface _ d => uptoBulk d + 1
  | .map entries => uptoBulkEntries entries + 1
  | .held _ => 1
def uptoBulkAll {H : Type} : List (DataW H) → Nat
  | [] => 0
  | d :: r => uptoBulk d + uptoBulkAll r
def uptoBulkEntries {H : Type} : List (Lit × DataW H) → Nat
  | [] => 0
  | x :: r => uptoBulkEntry x + uptoBulkEntries r
def uptoBulkEntry {H : Type} : Lit × DataW H → Nat
  | (.string bytes, d) => bytes.length + uptoBulk d + 1
  | (_, d) => uptoBulk d + 1
 end
def uptoSmall : (H : Type) → List (DataW H) → Bool := fun _ ds => decide (uptoBulkAll ds ≤ 1048576)
def OpenSpec.upto (s : _root_.Go.ChangeSpec) : _root_.Go.OpenSpec := { _root_.Go.OpenSpec.ofChange s with cond := some uptoSmall }

/-- 'joustlaw25.SmoothMixes', WHERE WHAT IT READS IS OF BULK AT MOST 1048576: true; the input reads as it did. -/
def smoothMixesUptoRow : OpenClaim := { program := "ytjffkidfoapbjaa", sum := "d980228f9d97254dd1338e3b05e24e5a3d6a87146767f8dc149d0580d222c86d", func := "joust/joustlaw25.SmoothMixes", spec := "smoothMixes", apart := false, narrowed := true }
def SmoothMixesUptoSaid : Prop := smoothMixesUptoRow.holds Try.pinned (OpenSpec.upto smoothMixesSpec)

/-- 'joustlaw25.SmoothMeans', WHERE WHAT IT READS IS OF BULK AT MOST 1048576: true; the input reads as it did. -/
def smoothMeansUptoRow : OpenClaim := { program := "ytjffkidfoapbjaa", sum := "d980228f9d97254dd1338e3b05e24e5a3d6a87146767f8dc149d0580d222c86d", func := "joust/joustlaw25.SmoothMeans", spec := "smoothMeans", apart := false, narrowed := true }
def SmoothMeansUptoSaid : Prop := smoothMeansUptoRow.holds Try.pinned (OpenSpec.upto smoothMeansSpec)

/-- 'joustlaw25.SmoothTurns', WHERE WHAT IT READS IS OF BULK AT MOST 1048576: true; the input reads as it did. -/
def smoothTurnsUptoRow : OpenClaim := { program := "ytjffkidfoapbjaa", sum := "d980228f9d97254dd1338e3b05e24e5a3d6a87146767f8dc149d0580d222c86d", func := "joust/joustlaw25.SmoothTurns", spec := "smoothTurns", apart := false, narrowed := true }
def SmoothTurnsUptoSaid : Prop := smoothTurnsUptoRow.holds Try.pinned (OpenSpec.upto smoothTurnsSpec)

/-- 'joustlaw25.SmoothPlaces', WHERE WHAT IT READS IS OF BULK AT MOST 1048576: true; the input reads as it did. -/
def smoothPlacesUptoRow : OpenClaim := { program := "ytjffkidfoapbjaa", sum := "d980228f9d97254dd1338e3b05e24e5a3d6a87146767f8dc149d0580d222c86d", func := "joust/joustlaw25.SmoothPlaces", spec := "smoothPlaces", apart := false, narrowed := true }
def SmoothPlacesUptoSaid : Prop := smoothPlacesUptoRow.holds Try.pinned (OpenSpec.upto smoothPlacesSpec)

/-- 'joustlaw25.SmoothBetween', WHERE WHAT IT READS IS OF BULK AT MOST 1048576: true; the input reads as it did. -/
def smoothBetweenUptoRow : OpenClaim := { program := "ytjffkidfoapbjaa", sum := "d980228f9d97254dd1338e3b05e24e5a3d6a87146767f8dc149d0580d222c86d", func := "joust/joustlaw25.SmoothBetween", spec := "smoothBetween", apart := false, narrowed := true }
def SmoothBetweenUptoSaid : Prop := smoothBetweenUptoRow.holds Try.pinned (OpenSpec.upto smoothBetweenSpec)

/-- 'joustlaw25.SmoothSelf', WHERE WHAT IT READS IS OF BULK AT MOST 1048576: true; the input reads as it did. -/
def smoothSelfUptoRow : OpenClaim := { program := "ytjffkidfoapbjaa", sum := "d980228f9d97254dd1338e3b05e24e5a3d6a87146767f8dc149d0580d222c86d", func := "joust/joustlaw25.SmoothSelf", spec := "smoothSelf", apart := false, narrowed := true }
def SmoothSelfUptoSaid : Prop := smoothSelfUptoRow.holds Try.pinned (OpenSpec.upto smoothSelfSpec)

/-- 'joustlaw25.SmoothKeeps', WHERE WHAT IT READS IS OF BULK AT MOST 1048576: true; the input reads as it did. -/
def smoothKeepsUptoRow : OpenClaim := { program := "ytjffkidfoapbjaa", sum := "d980228f9d97254dd1338e3b05e24e5a3d6a87146767f8dc149d0580d222c86d", func := "joust/joustlaw25.SmoothKeeps", spec := "smoothKeeps", apart := false, narrowed := true }
def SmoothKeepsUptoSaid : Prop := smoothKeepsUptoRow.holds Try.pinned (OpenSpec.upto smoothKeepsSpec)

end Rows
end Go.Proofs.Ytjffkidfoapbjaa
