/-
  No cell of these rows narrows 'for every input' (looked for: loops, veiled, ifaces, maps, wideKeys, modest, calm, conditions, laid).
  DERIVED. THE GIVEN ROWS OF THIS SEAT. 5 by the template 'for every input the law returns true; each argument reads behind the call as it read before'; 0 by the template 'total and deterministic' (their statements: YtjajaklichiknaaTotals.lean).
  GIVEN WITH THE SEED: the statements are not yours to turn. If you find one false, say at which input.
  Laid BY PROGRAM, IN A SANDBOX (cutbox-rows.mjs): the forced cells as the released guide's own fill.sh prints them over the translation f3388afbb92f435a… (all of the seat's roots in one cut). By AI agents, Wed Nov 11 2026. No macro, syntax, notation, axiom, sorry.
-/
import Derived.Test.YtjajaklichiknaaChecked
import GoSem.Claim
import GoSem.ClaimJoined
import GoSem.ClaimMapViews
import Derived.JoinedTies
import Derived.KernelRfl
namespace Go.Proofs.Ytjajaklichiknaa
/- THE CELL 'sum', in the pinned program and in every row, IS THE sha256 OF THE DUMP (.gsa) THAT YtjajaklichiknaaProg.lean LOADS. Nothing in Lean hashes anything: it is a label: what it is worth is what the hold of that sum in a sandbox is worth. -/
noncomputable def Try.pinned : Pinned := { name := "ytjajaklichiknaa", sum := "f3388afbb92f435a399cba676f541a3c3ad964520abba4d4b6d2279ccd5ade2e", checked := Try.checked }
namespace Rows
def none {H : Type} : Left H := { results := [], args := [] }

/-- 'joustlaw04.RingOrder': WHATEVER THE INPUT: true; the input reads as it did. -/
def ringOrderSpec : ChangeSpec := { name := "ringOrder", fn := fun _ => fun
  | [d1, d2] => { results := [.lit (.bool true)], args := [d1, d2] }
  | _ => none }
def ringOrderRow : OpenClaim := { program := "ytjajaklichiknaa", sum := "f3388afbb92f435a399cba676f541a3c3ad964520abba4d4b6d2279ccd5ade2e", func := "joust/joustlaw04.RingOrder", spec := "ringOrder", apart := false }
def RingOrderSaid : Prop := ringOrderRow.holds Try.pinned (OpenSpec.ofChange ringOrderSpec)

/-- ITS FALSE NEIGHBOUR: 'it returns false'. Refute it at one input. -/
def ringOrderWrong : ChangeSpec := { name := "ringOrder", fn := fun _ => fun
  | [d1, d2] => { results := [.lit (.bool false)], args := [d1, d2] }
  | _ => none }
def RingOrderWrongFalsely : Prop := ringOrderRow.holds Try.pinned (OpenSpec.ofChange ringOrderWrong)

/-- 'joustlaw04.RingFresh': WHATEVER THE INPUT: true; the input reads as it did. -/
def ringFreshSpec : ChangeSpec := { name := "ringFresh", fn := fun _ => fun
  | [d1, d2, d3] => { results := [.lit (.bool true)], args := [d1, d2, d3] }
  | _ => none }
def ringFreshRow : OpenClaim := { program := "ytjajaklichiknaa", sum := "f3388afbb92f435a399cba676f541a3c3ad964520abba4d4b6d2279ccd5ade2e", func := "joust/joustlaw04.RingFresh", spec := "ringFresh", apart := false }
def RingFreshSaid : Prop := ringFreshRow.holds Try.pinned (OpenSpec.ofChange ringFreshSpec)

/-- ITS FALSE NEIGHBOUR: 'it returns false'. Refute it at one input. -/
def ringFreshWrong : ChangeSpec := { name := "ringFresh", fn := fun _ => fun
  | [d1, d2, d3] => { results := [.lit (.bool false)], args := [d1, d2, d3] }
  | _ => none }
def RingFreshWrongFalsely : Prop := ringFreshRow.holds Try.pinned (OpenSpec.ofChange ringFreshWrong)

/-- 'joustlaw04.RingLimits': WHATEVER THE INPUT: true; the input reads as it did. -/
def ringLimitsSpec : ChangeSpec := { name := "ringLimits", fn := fun _ => fun
  | [d1, d2, d3] => { results := [.lit (.bool true)], args := [d1, d2, d3] }
  | _ => none }
def ringLimitsRow : OpenClaim := { program := "ytjajaklichiknaa", sum := "f3388afbb92f435a399cba676f541a3c3ad964520abba4d4b6d2279ccd5ade2e", func := "joust/joustlaw04.RingLimits", spec := "ringLimits", apart := false }
def RingLimitsSaid : Prop := ringLimitsRow.holds Try.pinned (OpenSpec.ofChange ringLimitsSpec)

/-- ITS FALSE NEIGHBOUR: 'it returns false'. Refute it at one input. -/
def ringLimitsWrong : ChangeSpec := { name := "ringLimits", fn := fun _ => fun
  | [d1, d2, d3] => { results := [.lit (.bool false)], args := [d1, d2, d3] }
  | _ => none }
def RingLimitsWrongFalsely : Prop := ringLimitsRow.holds Try.pinned (OpenSpec.ofChange ringLimitsWrong)

/-- 'joustlaw04.RingRounds': WHATEVER THE INPUT: true; the input reads as it did. -/
def ringRoundsSpec : ChangeSpec := { name := "ringRounds", fn := fun _ => fun
  | [d1, d2] => { results := [.lit (.bool true)], args := [d1, d2] }
  | _ => none }
def ringRoundsRow : OpenClaim := { program := "ytjajaklichiknaa", sum := "f3388afbb92f435a399cba676f541a3c3ad964520abba4d4b6d2279ccd5ade2e", func := "joust/joustlaw04.RingRounds", spec := "ringRounds", unfollowed := true, recurses := true, apart := false }
def RingRoundsSaid : Prop := ringRoundsRow.holds Try.pinned (OpenSpec.ofChange ringRoundsSpec)

/-- ITS FALSE NEIGHBOUR: 'it returns false'. Refute it at one input. -/
def ringRoundsWrong : ChangeSpec := { name := "ringRounds", fn := fun _ => fun
  | [d1, d2] => { results := [.lit (.bool false)], args := [d1, d2] }
  | _ => none }
def RingRoundsWrongFalsely : Prop := ringRoundsRow.holds Try.pinned (OpenSpec.ofChange ringRoundsWrong)

/-- 'joustlaw04.RingScript': WHATEVER THE INPUT: true; the input reads as it did. -/
def ringScriptSpec : ChangeSpec := { name := "ringScript", fn := fun _ => fun
  | [d1, d2] => { results := [.lit (.bool true)], args := [d1, d2] }
  | _ => none }
def ringScriptRow : OpenClaim := { program := "ytjajaklichiknaa", sum := "f3388afbb92f435a399cba676f541a3c3ad964520abba4d4b6d2279ccd5ade2e", func := "joust/joustlaw04.RingScript", spec := "ringScript", unfollowed := true, recurses := true, apart := false }
def RingScriptSaid : Prop := ringScriptRow.holds Try.pinned (OpenSpec.ofChange ringScriptSpec)

/-- ITS FALSE NEIGHBOUR: 'it returns false'. Refute it at one input. -/
def ringScriptWrong : ChangeSpec := { name := "ringScript", fn := fun _ => fun
  | [d1, d2] => { results := [.lit (.bool false)], args := [d1, d2] }
  | _ => none }
def RingScriptWrongFalsely : Prop := ringScriptRow.holds Try.pinned (OpenSpec.ofChange ringScriptWrong)

/- THE SECOND FORM. 'bulk': how many values and letters a reading holds, each counted each time it is reached (what is shared counts as often as it is met; a slice's spare places count too). A statement '..UptoSaid' is the law's where the arguments, and the package variables that the reading takes, are together of bulk at most 1048576: NARROWER than '..Said'. Prove '..Said' where nothing that the law and all that it calls make is longer than what came in: it says more and counts as full. Else prove '..UptoSaid'. A law counts once. -/
mutual
def uptoBulk {H : Type} : DataW H → Nat
  | .lit (.string bytes) => bytes.length + 1
  | .lit _ => 1
  | .nil => 1
  | .ptr d => uptoBulk d + 1
  | .slice elems spare => uptoBulkAll elems + uptoBulkAll spare + 1
  | .agg parts => uptoBulkAll parts + 1
  | .iface _ d => uptoBulk d + 1
  | .map entries => uptoBulkEntries entries + 1
  | .held _ => 1
def uptoBulkAll {H : Type} : List (DataW H) → Nat
  | [] => 0
  | d :: r => uptoBulk d + uptoBulkAll r
def uptoBulkEntries {H : Type} : List (Lit × DataW H) → Nat
  | [] => 0
  | x :: r => uptoBulkEntry x + uptoBulkEntries r
def uptoBulkEntry {H : Type} : Lit × DataW H → Nat
  | (.string bytes, d) => bytes.length + uptoBulk d + 1
  | (_, d) => uptoBulk d + 1
 end
def uptoSmall : (H : Type) → List (DataW H) → Bool := fun _ ds => decide (uptoBulkAll ds ≤ 1048576)
def OpenSpec.upto (s : _root_.Go.ChangeSpec) : _root_.Go.OpenSpec := { _root_.Go.OpenSpec.ofChange s with cond := some uptoSmall }

/-- 'joustlaw04.RingOrder', WHERE WHAT IT READS IS OF BULK AT MOST 1048576: true; the input reads as it did. -/
def ringOrderUptoRow : OpenClaim := { program := "ytjajaklichiknaa", sum := "f3388afbb92f435a399cba676f541a3c3ad964520abba4d4b6d2279ccd5ade2e", func := "joust/joustlaw04.RingOrder", spec := "ringOrder", apart := false, narrowed := true }
def RingOrderUptoSaid : Prop := ringOrderUptoRow.holds Try.pinned (OpenSpec.upto ringOrderSpec)

/-- 'joustlaw04.RingFresh', WHERE WHAT IT READS IS OF BULK AT MOST 1048576: true; the input reads as it did. -/
def ringFreshUptoRow : OpenClaim := { program := "ytjajaklichiknaa", sum := "f3388afbb92f435a399cba676f541a3c3ad964520abba4d4b6d2279ccd5ade2e", func := "joust/joustlaw04.RingFresh", spec := "ringFresh", apart := false, narrowed := true }
def RingFreshUptoSaid : Prop := ringFreshUptoRow.holds Try.pinned (OpenSpec.upto ringFreshSpec)

/-- 'joustlaw04.RingLimits', WHERE WHAT IT READS IS OF BULK AT MOST 1048576: true; the input reads as it did. -/
def ringLimitsUptoRow : OpenClaim := { program := "ytjajaklichiknaa", sum := "f3388afbb92f435a399cba676f541a3c3ad964520abba4d4b6d2279ccd5ade2e", func := "joust/joustlaw04.RingLimits", spec := "ringLimits", apart := false, narrowed := true }
def RingLimitsUptoSaid : Prop := ringLimitsUptoRow.holds Try.pinned (OpenSpec.upto ringLimitsSpec)

/-- 'joustlaw04.RingRounds', WHERE WHAT IT READS IS OF BULK AT MOST 1048576: true; the input reads as it did. -/
def ringRoundsUptoRow : OpenClaim := { program := "ytjajaklichiknaa", sum := "f3388afbb92f435a399cba676f541a3c3ad964520abba4d4b6d2279ccd5ade2e", func := "joust/joustlaw04.RingRounds", spec := "ringRounds", unfollowed := true, recurses := true, apart := false, narrowed := true }
def RingRoundsUptoSaid : Prop := ringRoundsUptoRow.holds Try.pinned (OpenSpec.upto ringRoundsSpec)

/-- 'joustlaw04.RingScript', WHERE WHAT IT READS IS OF BULK AT MOST 1048576: true; the input reads as it did. -/
def ringScriptUptoRow : OpenClaim := { program := "ytjajaklichiknaa", sum := "f3388afbb92f435a399cba676f541a3c3ad964520abba4d4b6d2279ccd5ade2e", func := "joust/joustlaw04.RingScript", spec := "ringScript", unfollowed := true, recurses := true, apart := false, narrowed := true }
def RingScriptUptoSaid : Prop := ringScriptUptoRow.holds Try.pinned (OpenSpec.upto ringScriptSpec)

end Rows
end Go.Proofs.Ytjajaklichiknaa
