/-
  No cell of these rows narrows 'for every input' (looked for: loops, veiled, ifaces, maps, wideKeys, modest, calm, conditions, laid).
  DERIVED. THE GIVEN ROWS OF THIS SEAT. 8 by the template 'for every input the law returns true; each argument reads behind the call as it read before'; 0 by the template 'total and deterministic' (their statements: YtbnlobfhcanbgaaTotals.lean).
  GIVEN WITH THE SEED: the statements are not yours to turn. If you find one false, say at which input.
  Laid BY PROGRAM, IN A SANDBOX (cutbox-rows.mjs): the forced cells as the released guide's own fill.sh prints them over the translation 692971060b59b739… (all of the seat's roots in one cut). By AI agents, Wed Nov 11 2026. No macro, syntax, notation, axiom, sorry.
-/
import Derived.Test.YtbnlobfhcanbgaaChecked
import GoSem.Claim
import GoSem.ClaimJoined
import GoSem.ClaimMapViews
import Derived.JoinedTies
import Derived.KernelRfl
namespace Go.Proofs.Ytbnlobfhcanbgaa
/- THE CELL 'sum', in the pinned program and in every row, IS THE sha256 OF THE DUMP (.gsa) THAT YtbnlobfhcanbgaaProg.lean LOADS. Nothing in Lean hashes anything: it is a label: what it is worth is what the hold of that sum in a sandbox is worth. -/
noncomputable def Try.pinned : Pinned := { name := "ytbnlobfhcanbgaa", sum := "692971060b59b73952752ff582e79d27b6bd53f4477581423da2aa6c3e0d4bb4", checked := Try.checked }
namespace Rows
def none {H : Type} : Left H := { results := [], args := [] }

/-- 'shipwrightlaw02.CodeNames': WHATEVER THE INPUT: true; the input reads as it did. -/
def codeNamesSpec : ChangeSpec := { name := "codeNames", fn := fun _ => fun
  | [] => { results := [.lit (.bool true)], args := [] }
  | _ => none }
def codeNamesRow : OpenClaim := { program := "ytbnlobfhcanbgaa", sum := "692971060b59b73952752ff582e79d27b6bd53f4477581423da2aa6c3e0d4bb4", func := "shipwright/shipwrightlaw02.CodeNames", spec := "codeNames", unfollowed := true, recurses := true, apart := false }
def CodeNamesSaid : Prop := codeNamesRow.holds Try.pinned (OpenSpec.ofChange codeNamesSpec)

/-- ITS FALSE NEIGHBOUR: 'it returns false'. Refute it at one input. -/
def codeNamesWrong : ChangeSpec := { name := "codeNames", fn := fun _ => fun
  | [] => { results := [.lit (.bool false)], args := [] }
  | _ => none }
def CodeNamesWrongFalsely : Prop := codeNamesRow.holds Try.pinned (OpenSpec.ofChange codeNamesWrong)

/-- 'shipwrightlaw02.CodeWrites': WHATEVER THE INPUT: true; the input reads as it did. -/
def codeWritesSpec : ChangeSpec := { name := "codeWrites", fn := fun _ => fun
  | [d] => { results := [.lit (.bool true)], args := [d] }
  | _ => none }
def codeWritesRow : OpenClaim := { program := "ytbnlobfhcanbgaa", sum := "692971060b59b73952752ff582e79d27b6bd53f4477581423da2aa6c3e0d4bb4", func := "shipwright/shipwrightlaw02.CodeWrites", spec := "codeWrites", unfollowed := true, recurses := true, apart := false }
def CodeWritesSaid : Prop := codeWritesRow.holds Try.pinned (OpenSpec.ofChange codeWritesSpec)

/-- ITS FALSE NEIGHBOUR: 'it returns false'. Refute it at one input. -/
def codeWritesWrong : ChangeSpec := { name := "codeWrites", fn := fun _ => fun
  | [d] => { results := [.lit (.bool false)], args := [d] }
  | _ => none }
def CodeWritesWrongFalsely : Prop := codeWritesRow.holds Try.pinned (OpenSpec.ofChange codeWritesWrong)

/-- 'shipwrightlaw02.CodeReads': WHATEVER THE INPUT: true; the input reads as it did. -/
def codeReadsSpec : ChangeSpec := { name := "codeReads", fn := fun _ => fun
  | [d1, d2] => { results := [.lit (.bool true)], args := [d1, d2] }
  | _ => none }
def codeReadsRow : OpenClaim := { program := "ytbnlobfhcanbgaa", sum := "692971060b59b73952752ff582e79d27b6bd53f4477581423da2aa6c3e0d4bb4", func := "shipwright/shipwrightlaw02.CodeReads", spec := "codeReads", unfollowed := true, recurses := true, apart := false }
def CodeReadsSaid : Prop := codeReadsRow.holds Try.pinned (OpenSpec.ofChange codeReadsSpec)

/-- ITS FALSE NEIGHBOUR: 'it returns false'. Refute it at one input. -/
def codeReadsWrong : ChangeSpec := { name := "codeReads", fn := fun _ => fun
  | [d1, d2] => { results := [.lit (.bool false)], args := [d1, d2] }
  | _ => none }
def CodeReadsWrongFalsely : Prop := codeReadsRow.holds Try.pinned (OpenSpec.ofChange codeReadsWrong)

/-- 'shipwrightlaw02.CodeBack': WHATEVER THE INPUT: true; the input reads as it did. -/
def codeBackSpec : ChangeSpec := { name := "codeBack", fn := fun _ => fun
  | [d1, d2] => { results := [.lit (.bool true)], args := [d1, d2] }
  | _ => none }
def codeBackRow : OpenClaim := { program := "ytbnlobfhcanbgaa", sum := "692971060b59b73952752ff582e79d27b6bd53f4477581423da2aa6c3e0d4bb4", func := "shipwright/shipwrightlaw02.CodeBack", spec := "codeBack", unfollowed := true, recurses := true, apart := false }
def CodeBackSaid : Prop := codeBackRow.holds Try.pinned (OpenSpec.ofChange codeBackSpec)

/-- ITS FALSE NEIGHBOUR: 'it returns false'. Refute it at one input. -/
def codeBackWrong : ChangeSpec := { name := "codeBack", fn := fun _ => fun
  | [d1, d2] => { results := [.lit (.bool false)], args := [d1, d2] }
  | _ => none }
def CodeBackWrongFalsely : Prop := codeBackRow.holds Try.pinned (OpenSpec.ofChange codeBackWrong)

/-- 'shipwrightlaw02.CodeOnce': WHATEVER THE INPUT: true; the input reads as it did. -/
def codeOnceSpec : ChangeSpec := { name := "codeOnce", fn := fun _ => fun
  | [d] => { results := [.lit (.bool true)], args := [d] }
  | _ => none }
def codeOnceRow : OpenClaim := { program := "ytbnlobfhcanbgaa", sum := "692971060b59b73952752ff582e79d27b6bd53f4477581423da2aa6c3e0d4bb4", func := "shipwright/shipwrightlaw02.CodeOnce", spec := "codeOnce", unfollowed := true, recurses := true, apart := false }
def CodeOnceSaid : Prop := codeOnceRow.holds Try.pinned (OpenSpec.ofChange codeOnceSpec)

/-- ITS FALSE NEIGHBOUR: 'it returns false'. Refute it at one input. -/
def codeOnceWrong : ChangeSpec := { name := "codeOnce", fn := fun _ => fun
  | [d] => { results := [.lit (.bool false)], args := [d] }
  | _ => none }
def CodeOnceWrongFalsely : Prop := codeOnceRow.holds Try.pinned (OpenSpec.ofChange codeOnceWrong)

/-- 'shipwrightlaw02.CodeTexts': WHATEVER THE INPUT: true; the input reads as it did. -/
def codeTextsSpec : ChangeSpec := { name := "codeTexts", fn := fun _ => fun
  | [d1, d2] => { results := [.lit (.bool true)], args := [d1, d2] }
  | _ => none }
def codeTextsRow : OpenClaim := { program := "ytbnlobfhcanbgaa", sum := "692971060b59b73952752ff582e79d27b6bd53f4477581423da2aa6c3e0d4bb4", func := "shipwright/shipwrightlaw02.CodeTexts", spec := "codeTexts", unfollowed := true, recurses := true, apart := false }
def CodeTextsSaid : Prop := codeTextsRow.holds Try.pinned (OpenSpec.ofChange codeTextsSpec)

/-- ITS FALSE NEIGHBOUR: 'it returns false'. Refute it at one input. -/
def codeTextsWrong : ChangeSpec := { name := "codeTexts", fn := fun _ => fun
  | [d1, d2] => { results := [.lit (.bool false)], args := [d1, d2] }
  | _ => none }
def CodeTextsWrongFalsely : Prop := codeTextsRow.holds Try.pinned (OpenSpec.ofChange codeTextsWrong)

/-- 'shipwrightlaw02.CodeNeeds': WHATEVER THE INPUT: true; the input reads as it did. -/
def codeNeedsSpec : ChangeSpec := { name := "codeNeeds", fn := fun _ => fun
  | [d1, d2] => { results := [.lit (.bool true)], args := [d1, d2] }
  | _ => none }
def codeNeedsRow : OpenClaim := { program := "ytbnlobfhcanbgaa", sum := "692971060b59b73952752ff582e79d27b6bd53f4477581423da2aa6c3e0d4bb4", func := "shipwright/shipwrightlaw02.CodeNeeds", spec := "codeNeeds", unfollowed := true, recurses := true, apart := false }
def CodeNeedsSaid : Prop := codeNeedsRow.holds Try.pinned (OpenSpec.ofChange codeNeedsSpec)

/-- ITS FALSE NEIGHBOUR: 'it returns false'. Refute it at one input. -/
def codeNeedsWrong : ChangeSpec := { name := "codeNeeds", fn := fun _ => fun
  | [d1, d2] => { results := [.lit (.bool false)], args := [d1, d2] }
  | _ => none }
def CodeNeedsWrongFalsely : Prop := codeNeedsRow.holds Try.pinned (OpenSpec.ofChange codeNeedsWrong)

/-- 'shipwrightlaw02.CodeApart': WHATEVER THE INPUT: true; the input reads as it did. -/
def codeApartSpec : ChangeSpec := { name := "codeApart", fn := fun _ => fun
  | [d1, d2] => { results := [.lit (.bool true)], args := [d1, d2] }
  | _ => none }
def codeApartRow : OpenClaim := { program := "ytbnlobfhcanbgaa", sum := "692971060b59b73952752ff582e79d27b6bd53f4477581423da2aa6c3e0d4bb4", func := "shipwright/shipwrightlaw02.CodeApart", spec := "codeApart", unfollowed := true, recurses := true, apart := false }
def CodeApartSaid : Prop := codeApartRow.holds Try.pinned (OpenSpec.ofChange codeApartSpec)

/-- ITS FALSE NEIGHBOUR: 'it returns false'. Refute it at one input. -/
def codeApartWrong : ChangeSpec := { name := "codeApart", fn := fun _ => fun
  | [d1, d2] => { results := [.lit (.bool false)], args := [d1, d2] }
  | _ => none }
def CodeApartWrongFalsely : Prop := codeApartRow.holds Try.pinned (OpenSpec.ofChange codeApartWrong)

/- THE SECOND FORM. 'bulk': how many values and letters a reading holds, each counted each time it is reached (what is shared counts as often as it is met; a slice's spare places count too). A statement '..UptoSaid' is the law's where the arguments, and the package variables that the reading takes, are together of bulk at most 1048576: NARROWER than '..Said'. Prove '..Said' where nothing that the law and all that it calls make is longer than what came in: it says more and counts as full. Else prove '..UptoSaid'. A law counts once. -/
mutual
def uptoBulk {H : Type} : DataW H → Nat
  | .lit (.string bytes) => bytes.length + 1
  | .lit _ => 1
  | .nil => 1
  | .ptr d => uptoBulk d + 1
  | .slice elems spare => uptoBulkAll elems + uptoBulkAll spare + 1
  | .agg parts => uptoBulkAll parts + 1
  | .iface _ d => uptoBulk d + 1
  | .map entries => uptoBulkEntries entries + 1
  | .held _ => 1
def uptoBulkAll {H : Type} : List (DataW H) → Nat
  | [] => 0
  | d :: r => uptoBulk d + uptoBulkAll r
def uptoBulkEntries {H : Type} : List (Lit × DataW H) → Nat
  | [] => 0
  | x :: r => uptoBulkEntry x + uptoBulkEntries r
def uptoBulkEntry {H : Type} : Lit × DataW H → Nat
  | (.string bytes, d) => bytes.length + uptoBulk d + 1
  | (_, d) => uptoBulk d + 1
 end
def uptoSmall : (H : Type) → List (DataW H) → Bool := fun _ ds => decide (uptoBulkAll ds ≤ 1048576)
def OpenSpec.upto (s : _root_.Go.ChangeSpec) : _root_.Go.OpenSpec := { _root_.Go.OpenSpec.ofChange s with cond := some uptoSmall }

/-- 'shipwrightlaw02.CodeNames', WHERE WHAT IT READS IS OF BULK AT MOST 1048576: true; the input reads as it did. -/
def codeNamesUptoRow : OpenClaim := { program := "ytbnlobfhcanbgaa", sum := "692971060b59b73952752ff582e79d27b6bd53f4477581423da2aa6c3e0d4bb4", func := "shipwright/shipwrightlaw02.CodeNames", spec := "codeNames", unfollowed := true, recurses := true, apart := false, narrowed := true }
def CodeNamesUptoSaid : Prop := codeNamesUptoRow.holds Try.pinned (OpenSpec.upto codeNamesSpec)

/-- 'shipwrightlaw02.CodeWrites', WHERE WHAT IT READS IS OF BULK AT MOST 1048576: true; the input reads as it did. -/
def codeWritesUptoRow : OpenClaim := { program := "ytbnlobfhcanbgaa", sum := "692971060b59b73952752ff582e79d27b6bd53f4477581423da2aa6c3e0d4bb4", func := "shipwright/shipwrightlaw02.CodeWrites", spec := "codeWrites", unfollowed := true, recurses := true, apart := false, narrowed := true }
def CodeWritesUptoSaid : Prop := codeWritesUptoRow.holds Try.pinned (OpenSpec.upto codeWritesSpec)

/-- 'shipwrightlaw02.CodeReads', WHERE WHAT IT READS IS OF BULK AT MOST 1048576: true; the input reads as it did. -/
def codeReadsUptoRow : OpenClaim := { program := "ytbnlobfhcanbgaa", sum := "692971060b59b73952752ff582e79d27b6bd53f4477581423da2aa6c3e0d4bb4", func := "shipwright/shipwrightlaw02.CodeReads", spec := "codeReads", unfollowed := true, recurses := true, apart := false, narrowed := true }
def CodeReadsUptoSaid : Prop := codeReadsUptoRow.holds Try.pinned (OpenSpec.upto codeReadsSpec)

/-- 'shipwrightlaw02.CodeBack', WHERE WHAT IT READS IS OF BULK AT MOST 1048576: true; the input reads as it did. -/
def codeBackUptoRow : OpenClaim := { program := "ytbnlobfhcanbgaa", sum := "692971060b59b73952752ff582e79d27b6bd53f4477581423da2aa6c3e0d4bb4", func := "shipwright/shipwrightlaw02.CodeBack", spec := "codeBack", unfollowed := true, recurses := true, apart := false, narrowed := true }
def CodeBackUptoSaid : Prop := codeBackUptoRow.holds Try.pinned (OpenSpec.upto codeBackSpec)

/-- 'shipwrightlaw02.CodeOnce', WHERE WHAT IT READS IS OF BULK AT MOST 1048576: true; the input reads as it did. -/
def codeOnceUptoRow : OpenClaim := { program := "ytbnlobfhcanbgaa", sum := "692971060b59b73952752ff582e79d27b6bd53f4477581423da2aa6c3e0d4bb4", func := "shipwright/shipwrightlaw02.CodeOnce", spec := "codeOnce", unfollowed := true, recurses := true, apart := false, narrowed := true }
def CodeOnceUptoSaid : Prop := codeOnceUptoRow.holds Try.pinned (OpenSpec.upto codeOnceSpec)

/-- 'shipwrightlaw02.CodeTexts', WHERE WHAT IT READS IS OF BULK AT MOST 1048576: true; the input reads as it did. -/
def codeTextsUptoRow : OpenClaim := { program := "ytbnlobfhcanbgaa", sum := "692971060b59b73952752ff582e79d27b6bd53f4477581423da2aa6c3e0d4bb4", func := "shipwright/shipwrightlaw02.CodeTexts", spec := "codeTexts", unfollowed := true, recurses := true, apart := false, narrowed := true }
def CodeTextsUptoSaid : Prop := codeTextsUptoRow.holds Try.pinned (OpenSpec.upto codeTextsSpec)

/-- 'shipwrightlaw02.CodeNeeds', WHERE WHAT IT READS IS OF BULK AT MOST 1048576: true; the input reads as it did. -/
def codeNeedsUptoRow : OpenClaim := { program := "ytbnlobfhcanbgaa", sum := "692971060b59b73952752ff582e79d27b6bd53f4477581423da2aa6c3e0d4bb4", func := "shipwright/shipwrightlaw02.CodeNeeds", spec := "codeNeeds", unfollowed := true, recurses := true, apart := false, narrowed := true }
def CodeNeedsUptoSaid : Prop := codeNeedsUptoRow.holds Try.pinned (OpenSpec.upto codeNeedsSpec)

/-- 'shipwrightlaw02.CodeApart', WHERE WHAT IT READS IS OF BULK AT MOST 1048576: true; the input reads as it did. -/
def codeApartUptoRow : OpenClaim := { program := "ytbnlobfhcanbgaa", sum := "692971060b59b73952752ff582e79d27b6bd53f4477581423da2aa6c3e0d4bb4", func := "shipwright/shipwrightlaw02.CodeApart", spec := "codeApart", unfollowed := true, recurses := true, apart := false, narrowed := true }
def CodeApartUptoSaid : Prop := codeApartUptoRow.holds Try.pinned (OpenSpec.upto codeApartSpec)

end Rows
end Go.Proofs.Ytbnlobfhcanbgaa
