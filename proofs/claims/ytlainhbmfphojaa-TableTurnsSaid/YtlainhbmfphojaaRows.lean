/-
  No cell of these rows narrows 'for every input' (looked for: loops, veiled, ifaces, maps, wideKeys, modest, calm, conditions, laid).
  DERIVED. THE GIVEN ROWS OF THIS SEAT. 4 by the template 'for every input the law returns true; each argument reads behind the call as it read before'; 0 by the template 'total and deterministic' (their statements: YtlainhbmfphojaaTotals.lean).
  GIVEN WITH THE SEED: the statements are not yours to turn. If you find one false, say at which input.
  Laid BY PROGRAM, IN A SANDBOX (cutbox-rows.mjs): the forced cells as the released guide's own fill.sh prints them over the translation 550b45efb29a7207… (all of the seat's roots in one cut). By AI agents, Wed Nov 11 2026. No macro, syntax, notation, axiom, sorry.
-/
import Derived.Test.YtlainhbmfphojaaChecked
import GoSem.Claim
import GoSem.ClaimJoined
import GoSem.ClaimMapViews
import Derived.JoinedTies
import Derived.KernelRfl
namespace Go.Proofs.Ytlainhbmfphojaa
/- THE CELL 'sum', in the pinned program and in every row, IS THE sha256 OF THE DUMP (.gsa) THAT YtlainhbmfphojaaProg.lean LOADS. Nothing in Lean hashes anything: it is a label: what it is worth is what the hold of that sum in a sandbox is worth. -/
noncomputable def Try.pinned : Pinned := { name := "ytlainhbmfphojaa", sum := "550b45efb29a72077ddf6226c3efdc9487ed4010998dc8e690815eb8845f54e5", checked := Try.checked }
namespace Rows
def none {H : Type} : Left H := { results := [], args := [] }

/-- 'joustlaw11.TableKeeps': WHATEVER THE INPUT: true; the input reads as it did. -/
def tableKeepsSpec : ChangeSpec := { name := "tableKeeps", fn := fun _ => fun
  | [d] => { results := [.lit (.bool true)], args := [d] }
  | _ => none }
def tableKeepsRow : OpenClaim := { program := "ytlainhbmfphojaa", sum := "550b45efb29a72077ddf6226c3efdc9487ed4010998dc8e690815eb8845f54e5", func := "joust/joustlaw11.TableKeeps", spec := "tableKeeps", apart := false }
def TableKeepsSaid : Prop := tableKeepsRow.holds Try.pinned (OpenSpec.ofChange tableKeepsSpec)

/-- ITS FALSE NEIGHBOUR: 'it returns false'. Refute it at one input. -/
def tableKeepsWrong : ChangeSpec := { name := "tableKeeps", fn := fun _ => fun
  | [d] => { results := [.lit (.bool false)], args := [d] }
  | _ => none }
def TableKeepsWrongFalsely : Prop := tableKeepsRow.holds Try.pinned (OpenSpec.ofChange tableKeepsWrong)

/-- 'joustlaw11.TableUses': WHATEVER THE INPUT: true; the input reads as it did. -/
def tableUsesSpec : ChangeSpec := { name := "tableUses", fn := fun _ => fun
  | [d1, d2] => { results := [.lit (.bool true)], args := [d1, d2] }
  | _ => none }
def tableUsesRow : OpenClaim := { program := "ytlainhbmfphojaa", sum := "550b45efb29a72077ddf6226c3efdc9487ed4010998dc8e690815eb8845f54e5", func := "joust/joustlaw11.TableUses", spec := "tableUses", apart := false }
def TableUsesSaid : Prop := tableUsesRow.holds Try.pinned (OpenSpec.ofChange tableUsesSpec)

/-- ITS FALSE NEIGHBOUR: 'it returns false'. Refute it at one input. -/
def tableUsesWrong : ChangeSpec := { name := "tableUses", fn := fun _ => fun
  | [d1, d2] => { results := [.lit (.bool false)], args := [d1, d2] }
  | _ => none }
def TableUsesWrongFalsely : Prop := tableUsesRow.holds Try.pinned (OpenSpec.ofChange tableUsesWrong)

/-- 'joustlaw11.TableFresh': WHATEVER THE INPUT: true; the input reads as it did. -/
def tableFreshSpec : ChangeSpec := { name := "tableFresh", fn := fun _ => fun
  | [d1, d2] => { results := [.lit (.bool true)], args := [d1, d2] }
  | _ => none }
def tableFreshRow : OpenClaim := { program := "ytlainhbmfphojaa", sum := "550b45efb29a72077ddf6226c3efdc9487ed4010998dc8e690815eb8845f54e5", func := "joust/joustlaw11.TableFresh", spec := "tableFresh", apart := false }
def TableFreshSaid : Prop := tableFreshRow.holds Try.pinned (OpenSpec.ofChange tableFreshSpec)

/-- ITS FALSE NEIGHBOUR: 'it returns false'. Refute it at one input. -/
def tableFreshWrong : ChangeSpec := { name := "tableFresh", fn := fun _ => fun
  | [d1, d2] => { results := [.lit (.bool false)], args := [d1, d2] }
  | _ => none }
def TableFreshWrongFalsely : Prop := tableFreshRow.holds Try.pinned (OpenSpec.ofChange tableFreshWrong)

/-- 'joustlaw11.TableTurns': WHATEVER THE INPUT: true; the input reads as it did. -/
def tableTurnsSpec : ChangeSpec := { name := "tableTurns", fn := fun _ => fun
  | [d1, d2, d3] => { results := [.lit (.bool true)], args := [d1, d2, d3] }
  | _ => none }
def tableTurnsRow : OpenClaim := { program := "ytlainhbmfphojaa", sum := "550b45efb29a72077ddf6226c3efdc9487ed4010998dc8e690815eb8845f54e5", func := "joust/joustlaw11.TableTurns", spec := "tableTurns", unfollowed := true, recurses := true, apart := false }
def TableTurnsSaid : Prop := tableTurnsRow.holds Try.pinned (OpenSpec.ofChange tableTurnsSpec)

/-- ITS FALSE NEIGHBOUR: 'it returns false'. Refute it at one input. -/
def tableTurnsWrong : ChangeSpec := { name := "tableTurns", fn := fun _ => fun
  | [d1, d2, d3] => { results := [.lit (.bool false)], args := [d1, d2, d3] }
  | _ => none }
def TableTurnsWrongFalsely : Prop := tableTurnsRow.holds Try.pinned (OpenSpec.ofChange tableTurnsWrong)

/- THE SECOND FORM. 'bulk': how many values and letters a reading holds, each counted each time it is reached (what is shared counts as often as it is met; a slice's spare places count too). A statement '..UptoSaid' is the law's where the arguments, and the package variables that the reading takes, are together of bulk at most 1048576: NARROWER than '..Said'. Prove '..Said' where nothing that the law and all that it calls make is longer than what came in: it says more and counts as full. Else prove '..UptoSaid'. A law counts once. -/
mutual
def uptoBulk {H : Type} : DataW H → Nat
  | .lit (.string bytes) => bytes.length + 1
  | .lit _ => 1
  | .nil => 1
  | .ptr d => uptoBulk d + 1
  | .slice elems spare => uptoBulkAll elems + uptoBulkAll spare + 1
  | .agg parts => uptoBulkAll parts + 1
  | .iface _ d => uptoBulk d + 1
  | .map entries => uptoBulkEntries entries + 1
  | .held _ => 1
def uptoBulkAll {H : Type} : List (DataW H) → Nat
  | [] => 0
  | d :: r => uptoBulk d + uptoBulkAll r
def uptoBulkEntries {H : Type} : List (Lit × DataW H) → Nat
  | [] => 0
  | x :: r => uptoBulkEntry x + uptoBulkEntries r
def uptoBulkEntry {H : Type} : Lit × DataW H → Nat
  | (.string bytes, d) => bytes.length + uptoBulk d + 1
  | (_, d) => uptoBulk d + 1
 end
def uptoSmall : (H : Type) → List (DataW H) → Bool := fun _ ds => decide (uptoBulkAll ds ≤ 1048576)
def OpenSpec.upto (s : _root_.Go.ChangeSpec) : _root_.Go.OpenSpec := { _root_.Go.OpenSpec.ofChange s with cond := some uptoSmall }

/-- 'joustlaw11.TableKeeps', WHERE WHAT IT READS IS OF BULK AT MOST 1048576: true; the input reads as it did. -/
def tableKeepsUptoRow : OpenClaim := { program := "ytlainhbmfphojaa", sum := "550b45efb29a72077ddf6226c3efdc9487ed4010998dc8e690815eb8845f54e5", func := "joust/joustlaw11.TableKeeps", spec := "tableKeeps", apart := false, narrowed := true }
def TableKeepsUptoSaid : Prop := tableKeepsUptoRow.holds Try.pinned (OpenSpec.upto tableKeepsSpec)

/-- 'joustlaw11.TableUses', WHERE WHAT IT READS IS OF BULK AT MOST 1048576: true; the input reads as it did. -/
def tableUsesUptoRow : OpenClaim := { program := "ytlainhbmfphojaa", sum := "550b45efb29a72077ddf6226c3efdc9487ed4010998dc8e690815eb8845f54e5", func := "joust/joustlaw11.TableUses", spec := "tableUses", apart := false, narrowed := true }
def TableUsesUptoSaid : Prop := tableUsesUptoRow.holds Try.pinned (OpenSpec.upto tableUsesSpec)

/-- 'joustlaw11.TableFresh', WHERE WHAT IT READS IS OF BULK AT MOST 1048576: true; the input reads as it did. -/
def tableFreshUptoRow : OpenClaim := { program := "ytlainhbmfphojaa", sum := "550b45efb29a72077ddf6226c3efdc9487ed4010998dc8e690815eb8845f54e5", func := "joust/joustlaw11.TableFresh", spec := "tableFresh", apart := false, narrowed := true }
def TableFreshUptoSaid : Prop := tableFreshUptoRow.holds Try.pinned (OpenSpec.upto tableFreshSpec)

/-- 'joustlaw11.TableTurns', WHERE WHAT IT READS IS OF BULK AT MOST 1048576: true; the input reads as it did. -/
def tableTurnsUptoRow : OpenClaim := { program := "ytlainhbmfphojaa", sum := "550b45efb29a72077ddf6226c3efdc9487ed4010998dc8e690815eb8845f54e5", func := "joust/joustlaw11.TableTurns", spec := "tableTurns", unfollowed := true, recurses := true, apart := false, narrowed := true }
def TableTurnsUptoSaid : Prop := tableTurnsUptoRow.holds Try.pinned (OpenSpec.upto tableTurnsSpec)

end Rows
end Go.Proofs.Ytlainhbmfphojaa
