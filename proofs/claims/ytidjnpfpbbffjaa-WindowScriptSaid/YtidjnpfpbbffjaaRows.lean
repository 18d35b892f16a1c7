/-
  No cell of these rows narrows 'for every input' (looked for: loops, veiled, ifaces, maps, wideKeys, modest, calm, conditions, laid).
  DERIVED. THE GIVEN ROWS OF THIS SEAT. 8 by the template 'for every input the law returns true; each argument reads behind the call as it read before'; 0 by the template 'total and deterministic' (their statements: YtidjnpfpbbffjaaTotals.lean).
  GIVEN WITH THE SEED: the statements are not yours to turn. If you find one false, say at which input.
  Laid BY PROGRAM, IN A SANDBOX (cutbox-rows.mjs): the forced cells as the released guide's own fill.sh prints them over the translation 36822b30c2e4c1a3… (all of the seat's roots in one cut). By AI agents, Wed Nov 11 2026. No macro, syntax, notation, axiom, sorry.
-/
import Derived.Test.YtidjnpfpbbffjaaChecked
import GoSem.Claim
import GoSem.ClaimJoined
import GoSem.ClaimMapViews
import Derived.JoinedTies
import Derived.KernelRfl
namespace Go.Proofs.Ytidjnpfpbbffjaa
/- THE CELL 'sum', in the pinned program and in every row, IS THE sha256 OF THE DUMP (.gsa) THAT YtidjnpfpbbffjaaProg.lean LOADS. Nothing in Lean hashes anything: it is a label: what it is worth is what the hold of that sum in a sandbox is worth. -/
noncomputable def Try.pinned : Pinned := { name := "ytidjnpfpbbffjaa", sum := "36822b30c2e4c1a31bfe286188771f71035557c39791ff6b5717efbb1d728c2c", checked := Try.checked }
namespace Rows
def none {H : Type} : Left H := { results := [], args := [] }

/-- 'joustlaw09.WindowScript': WHATEVER THE INPUT: true; the input reads as it did. -/
def windowScriptSpec : ChangeSpec := { name := "windowScript", fn := fun _ => fun
  | [d] => { results := [.lit (.bool true)], args := [d] }
  | _ => none }
def windowScriptRow : OpenClaim := { program := "ytidjnpfpbbffjaa", sum := "36822b30c2e4c1a31bfe286188771f71035557c39791ff6b5717efbb1d728c2c", func := "joust/joustlaw09.WindowScript", spec := "windowScript", apart := false }
def WindowScriptSaid : Prop := windowScriptRow.holds Try.pinned (OpenSpec.ofChange windowScriptSpec)

/-- ITS FALSE NEIGHBOUR: 'it returns false'. Refute it at one input. -/
def windowScriptWrong : ChangeSpec := { name := "windowScript", fn := fun _ => fun
  | [d] => { results := [.lit (.bool false)], args := [d] }
  | _ => none }
def WindowScriptWrongFalsely : Prop := windowScriptRow.holds Try.pinned (OpenSpec.ofChange windowScriptWrong)

/-- 'joustlaw09.WindowOnce': WHATEVER THE INPUT: true; the input reads as it did. -/
def windowOnceSpec : ChangeSpec := { name := "windowOnce", fn := fun _ => fun
  | [d] => { results := [.lit (.bool true)], args := [d] }
  | _ => none }
def windowOnceRow : OpenClaim := { program := "ytidjnpfpbbffjaa", sum := "36822b30c2e4c1a31bfe286188771f71035557c39791ff6b5717efbb1d728c2c", func := "joust/joustlaw09.WindowOnce", spec := "windowOnce", apart := false }
def WindowOnceSaid : Prop := windowOnceRow.holds Try.pinned (OpenSpec.ofChange windowOnceSpec)

/-- ITS FALSE NEIGHBOUR: 'it returns false'. Refute it at one input. -/
def windowOnceWrong : ChangeSpec := { name := "windowOnce", fn := fun _ => fun
  | [d] => { results := [.lit (.bool false)], args := [d] }
  | _ => none }
def WindowOnceWrongFalsely : Prop := windowOnceRow.holds Try.pinned (OpenSpec.ofChange windowOnceWrong)

/-- 'joustlaw09.WindowOrder': WHATEVER THE INPUT: true; the input reads as it did. -/
def windowOrderSpec : ChangeSpec := { name := "windowOrder", fn := fun _ => fun
  | [d1, d2, d3] => { results := [.lit (.bool true)], args := [d1, d2, d3] }
  | _ => none }
def windowOrderRow : OpenClaim := { program := "ytidjnpfpbbffjaa", sum := "36822b30c2e4c1a31bfe286188771f71035557c39791ff6b5717efbb1d728c2c", func := "joust/joustlaw09.WindowOrder", spec := "windowOrder", apart := false }
def WindowOrderSaid : Prop := windowOrderRow.holds Try.pinned (OpenSpec.ofChange windowOrderSpec)

/-- ITS FALSE NEIGHBOUR: 'it returns false'. Refute it at one input. -/
def windowOrderWrong : ChangeSpec := { name := "windowOrder", fn := fun _ => fun
  | [d1, d2, d3] => { results := [.lit (.bool false)], args := [d1, d2, d3] }
  | _ => none }
def WindowOrderWrongFalsely : Prop := windowOrderRow.holds Try.pinned (OpenSpec.ofChange windowOrderWrong)

/-- 'joustlaw09.WindowSteps': WHATEVER THE INPUT: true; the input reads as it did. -/
def windowStepsSpec : ChangeSpec := { name := "windowSteps", fn := fun _ => fun
  | [d] => { results := [.lit (.bool true)], args := [d] }
  | _ => none }
def windowStepsRow : OpenClaim := { program := "ytidjnpfpbbffjaa", sum := "36822b30c2e4c1a31bfe286188771f71035557c39791ff6b5717efbb1d728c2c", func := "joust/joustlaw09.WindowSteps", spec := "windowSteps", apart := false }
def WindowStepsSaid : Prop := windowStepsRow.holds Try.pinned (OpenSpec.ofChange windowStepsSpec)

/-- ITS FALSE NEIGHBOUR: 'it returns false'. Refute it at one input. -/
def windowStepsWrong : ChangeSpec := { name := "windowSteps", fn := fun _ => fun
  | [d] => { results := [.lit (.bool false)], args := [d] }
  | _ => none }
def WindowStepsWrongFalsely : Prop := windowStepsRow.holds Try.pinned (OpenSpec.ofChange windowStepsWrong)

/-- 'joustlaw08.BucketPlays': WHATEVER THE INPUT: true; the input reads as it did. -/
def bucketPlaysSpec : ChangeSpec := { name := "bucketPlays", fn := fun _ => fun
  | [d1, d2, d3] => { results := [.lit (.bool true)], args := [d1, d2, d3] }
  | _ => none }
def bucketPlaysRow : OpenClaim := { program := "ytidjnpfpbbffjaa", sum := "36822b30c2e4c1a31bfe286188771f71035557c39791ff6b5717efbb1d728c2c", func := "joust/joustlaw08.BucketPlays", spec := "bucketPlays", apart := false }
def BucketPlaysSaid : Prop := bucketPlaysRow.holds Try.pinned (OpenSpec.ofChange bucketPlaysSpec)

/-- ITS FALSE NEIGHBOUR: 'it returns false'. Refute it at one input. -/
def bucketPlaysWrong : ChangeSpec := { name := "bucketPlays", fn := fun _ => fun
  | [d1, d2, d3] => { results := [.lit (.bool false)], args := [d1, d2, d3] }
  | _ => none }
def BucketPlaysWrongFalsely : Prop := bucketPlaysRow.holds Try.pinned (OpenSpec.ofChange bucketPlaysWrong)

/-- 'joustlaw08.BucketBound': WHATEVER THE INPUT: true; the input reads as it did. -/
def bucketBoundSpec : ChangeSpec := { name := "bucketBound", fn := fun _ => fun
  | [d1, d2, d3] => { results := [.lit (.bool true)], args := [d1, d2, d3] }
  | _ => none }
def bucketBoundRow : OpenClaim := { program := "ytidjnpfpbbffjaa", sum := "36822b30c2e4c1a31bfe286188771f71035557c39791ff6b5717efbb1d728c2c", func := "joust/joustlaw08.BucketBound", spec := "bucketBound", apart := false }
def BucketBoundSaid : Prop := bucketBoundRow.holds Try.pinned (OpenSpec.ofChange bucketBoundSpec)

/-- ITS FALSE NEIGHBOUR: 'it returns false'. Refute it at one input. -/
def bucketBoundWrong : ChangeSpec := { name := "bucketBound", fn := fun _ => fun
  | [d1, d2, d3] => { results := [.lit (.bool false)], args := [d1, d2, d3] }
  | _ => none }
def BucketBoundWrongFalsely : Prop := bucketBoundRow.holds Try.pinned (OpenSpec.ofChange bucketBoundWrong)

/-- 'joustlaw08.BucketTicks': WHATEVER THE INPUT: true; the input reads as it did. -/
def bucketTicksSpec : ChangeSpec := { name := "bucketTicks", fn := fun _ => fun
  | [d1, d2, d3] => { results := [.lit (.bool true)], args := [d1, d2, d3] }
  | _ => none }
def bucketTicksRow : OpenClaim := { program := "ytidjnpfpbbffjaa", sum := "36822b30c2e4c1a31bfe286188771f71035557c39791ff6b5717efbb1d728c2c", func := "joust/joustlaw08.BucketTicks", spec := "bucketTicks", apart := false }
def BucketTicksSaid : Prop := bucketTicksRow.holds Try.pinned (OpenSpec.ofChange bucketTicksSpec)

/-- ITS FALSE NEIGHBOUR: 'it returns false'. Refute it at one input. -/
def bucketTicksWrong : ChangeSpec := { name := "bucketTicks", fn := fun _ => fun
  | [d1, d2, d3] => { results := [.lit (.bool false)], args := [d1, d2, d3] }
  | _ => none }
def BucketTicksWrongFalsely : Prop := bucketTicksRow.holds Try.pinned (OpenSpec.ofChange bucketTicksWrong)

/-- 'joustlaw08.BucketLeft': WHATEVER THE INPUT: true; the input reads as it did. -/
def bucketLeftSpec : ChangeSpec := { name := "bucketLeft", fn := fun _ => fun
  | [d1, d2, d3] => { results := [.lit (.bool true)], args := [d1, d2, d3] }
  | _ => none }
def bucketLeftRow : OpenClaim := { program := "ytidjnpfpbbffjaa", sum := "36822b30c2e4c1a31bfe286188771f71035557c39791ff6b5717efbb1d728c2c", func := "joust/joustlaw08.BucketLeft", spec := "bucketLeft", apart := false }
def BucketLeftSaid : Prop := bucketLeftRow.holds Try.pinned (OpenSpec.ofChange bucketLeftSpec)

/-- ITS FALSE NEIGHBOUR: 'it returns false'. Refute it at one input. -/
def bucketLeftWrong : ChangeSpec := { name := "bucketLeft", fn := fun _ => fun
  | [d1, d2, d3] => { results := [.lit (.bool false)], args := [d1, d2, d3] }
  | _ => none }
def BucketLeftWrongFalsely : Prop := bucketLeftRow.holds Try.pinned (OpenSpec.ofChange bucketLeftWrong)

/- THE SECOND FORM. 'bulk': how many values and letters a reading holds, each counted each time it is reached (what is shared counts as often as it is met; a slice's spare places count too). A statement '..UptoSaid' is the law's where the arguments, and the package variables that the reading takes, are together of bulk at most 1048576: NARROWER than '..Said'. Prove '..Said' where nothing that the law and all that it calls make is longer than what came in: it says more and counts as full. Else prove '..UptoSaid'. A law counts once. -/
mutual
def uptoBulk {H : Type} : DataW H → Nat
  | .lit (.string bytes) => bytes.length + 1
  | .lit _ => 1
  | .nil => 1
  | .ptr d => uptoBulk d + 1
  | .slice elems spare => uptoBulkAll elems + uptoBulkAll spare + 1
  | .agg parts => uptoBulkAll parts + 1
  | .iface _ d => uptoBulk d + 1
  | .map entries => uptoBulkEntries entries + 1
  | .held _ => 1
def uptoBulkAll {H : Type} : List (DataW H) → Nat
  | [] => 0
  | d :: r => uptoBulk d + uptoBulkAll r
def uptoBulkEntries {H : Type} : List (Lit × DataW H) → Nat
  | [] => 0
  | x :: r => uptoBulkEntry x + uptoBulkEntries r
def uptoBulkEntry {H : Type} : Lit × DataW H → Nat
  | (.string bytes, d) => bytes.length + uptoBulk d + 1
  | (_, d) => uptoBulk d + 1
 end
def uptoSmall : (H : Type) → List (DataW H) → Bool := fun _ ds => decide (uptoBulkAll ds ≤ 1048576)
def OpenSpec.upto (s : _root_.Go.ChangeSpec) : _root_.Go.OpenSpec := { _root_.Go.OpenSpec.ofChange s with cond := some uptoSmall }

/-- 'joustlaw09.WindowScript', WHERE WHAT IT READS IS OF BULK AT MOST 1048576: true; the input reads as it did. -/
def windowScriptUptoRow : OpenClaim := { program := "ytidjnpfpbbffjaa", sum := "36822b30c2e4c1a31bfe286188771f71035557c39791ff6b5717efbb1d728c2c", func := "joust/joustlaw09.WindowScript", spec := "windowScript", apart := false, narrowed := true }
def WindowScriptUptoSaid : Prop := windowScriptUptoRow.holds Try.pinned (OpenSpec.upto windowScriptSpec)

/-- 'joustlaw09.WindowOnce', WHERE WHAT IT READS IS OF BULK AT MOST 1048576: true; the input reads as it did. -/
def windowOnceUptoRow : OpenClaim := { program := "ytidjnpfpbbffjaa", sum := "36822b30c2e4c1a31bfe286188771f71035557c39791ff6b5717efbb1d728c2c", func := "joust/joustlaw09.WindowOnce", spec := "windowOnce", apart := false, narrowed := true }
def WindowOnceUptoSaid : Prop := windowOnceUptoRow.holds Try.pinned (OpenSpec.upto windowOnceSpec)

/-- 'joustlaw09.WindowOrder', WHERE WHAT IT READS IS OF BULK AT MOST 1048576: true; the input reads as it did. -/
def windowOrderUptoRow : OpenClaim := { program := "ytidjnpfpbbffjaa", sum := "36822b30c2e4c1a31bfe286188771f71035557c39791ff6b5717efbb1d728c2c", func := "joust/joustlaw09.WindowOrder", spec := "windowOrder", apart := false, narrowed := true }
def WindowOrderUptoSaid : Prop := windowOrderUptoRow.holds Try.pinned (OpenSpec.upto windowOrderSpec)

/-- 'joustlaw09.WindowSteps', WHERE WHAT IT READS IS OF BULK AT MOST 1048576: true; the input reads as it did. -/
def windowStepsUptoRow : OpenClaim := { program := "ytidjnpfpbbffjaa", sum := "36822b30c2e4c1a31bfe286188771f71035557c39791ff6b5717efbb1d728c2c", func := "joust/joustlaw09.WindowSteps", spec := "windowSteps", apart := false, narrowed := true }
def WindowStepsUptoSaid : Prop := windowStepsUptoRow.holds Try.pinned (OpenSpec.upto windowStepsSpec)

/-- 'joustlaw08.BucketPlays', WHERE WHAT IT READS IS OF BULK AT MOST 1048576: true; the input reads as it did. -/
def bucketPlaysUptoRow : OpenClaim := { program := "ytidjnpfpbbffjaa", sum := "36822b30c2e4c1a31bfe286188771f71035557c39791ff6b5717efbb1d728c2c", func := "joust/joustlaw08.BucketPlays", spec := "bucketPlays", apart := false, narrowed := true }
def BucketPlaysUptoSaid : Prop := bucketPlaysUptoRow.holds Try.pinned (OpenSpec.upto bucketPlaysSpec)

/-- 'joustlaw08.BucketBound', WHERE WHAT IT READS IS OF BULK AT MOST 1048576: true; the input reads as it did. -/
def bucketBoundUptoRow : OpenClaim := { program := "ytidjnpfpbbffjaa", sum := "36822b30c2e4c1a31bfe286188771f71035557c39791ff6b5717efbb1d728c2c", func := "joust/joustlaw08.BucketBound", spec := "bucketBound", apart := false, narrowed := true }
def BucketBoundUptoSaid : Prop := bucketBoundUptoRow.holds Try.pinned (OpenSpec.upto bucketBoundSpec)

/-- 'joustlaw08.BucketTicks', WHERE WHAT IT READS IS OF BULK AT MOST 1048576: true; the input reads as it did. -/
def bucketTicksUptoRow : OpenClaim := { program := "ytidjnpfpbbffjaa", sum := "36822b30c2e4c1a31bfe286188771f71035557c39791ff6b5717efbb1d728c2c", func := "joust/joustlaw08.BucketTicks", spec := "bucketTicks", apart := false, narrowed := true }
def BucketTicksUptoSaid : Prop := bucketTicksUptoRow.holds Try.pinned (OpenSpec.upto bucketTicksSpec)

/-- 'joustlaw08.BucketLeft', WHERE WHAT IT READS IS OF BULK AT MOST 1048576: true; the input reads as it did. -/
def bucketLeftUptoRow : OpenClaim := { program := "ytidjnpfpbbffjaa", sum := "36822b30c2e4c1a31bfe286188771f71035557c39791ff6b5717efbb1d728c2c", func := "joust/joustlaw08.BucketLeft", spec := "bucketLeft", apart := false, narrowed := true }
def BucketLeftUptoSaid : Prop := bucketLeftUptoRow.holds Try.pinned (OpenSpec.upto bucketLeftSpec)

end Rows
end Go.Proofs.Ytidjnpfpbbffjaa
