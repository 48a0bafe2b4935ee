/-
  No cell of these rows narrows 'for every input' (looked for: loops, veiled, ifaces, maps, wideKeys, modest, calm, conditions, laid).
  DERIVED. THE GIVEN ROWS OF THIS SEAT. 11 by the template 'for every input the law returns true; each argument reads behind the call as it read before'; 0 by the template 'total and deterministic' (their statements: YtmpbimechgelfaaTotals.lean).
  GIVEN WITH THE SEED: the statements are not yours to turn. If you find one false, say at which input.
  Laid BY PROGRAM, IN A SANDBOX (cutbox-rows.mjs): the forced cells as the released guide's own fill.sh prints them over the translation ea1938c42550dfca… (all of the seat's roots in one cut). By AI agents, Wed Nov 11 2026. No macro, syntax, notation, axiom, sorry.
-/
import Derived.Test.YtmpbimechgelfaaChecked
import GoSem.Claim
import GoSem.ClaimJoined
import GoSem.ClaimMapViews
import Derived.JoinedTies
import Derived.KernelRfl
namespace Go.Proofs.Ytmpbimechgelfaa
/- THE CELL 'sum', in the pinned program and in every row, IS THE sha256 OF THE DUMP (.gsa) THAT YtmpbimechgelfaaProg.lean LOADS. Nothing in Lean hashes anything: it is a label: what it is worth is what the hold of that sum in a sandbox is worth. -/
noncomputable def Try.pinned : Pinned := { name := "ytmpbimechgelfaa", sum := "ea1938c42550dfca4a1221c3f160faa4aefbeff4e8254eac5e920fc1ae6305ef", checked := Try.checked }
namespace Rows
def none {H : Type} : Left H := { results := [], args := [] }

/-- 'shipwrightlaw17.TransferPicks': WHATEVER THE INPUT: true; the input reads as it did. -/
def transferPicksSpec : ChangeSpec := { name := "transferPicks", fn := fun _ => fun
  | [d1, d2, d3] => { results := [.lit (.bool true)], args := [d1, d2, d3] }
  | _ => none }
def transferPicksRow : OpenClaim := { program := "ytmpbimechgelfaa", sum := "ea1938c42550dfca4a1221c3f160faa4aefbeff4e8254eac5e920fc1ae6305ef", func := "shipwright/shipwrightlaw17.TransferPicks", spec := "transferPicks", inPlace := ["internal/bytealg.MakeNoZero"], unfollowed := true, recurses := true, apart := false }
def TransferPicksSaid : Prop := transferPicksRow.holds Try.pinned (OpenSpec.ofChange transferPicksSpec)

/-- ITS FALSE NEIGHBOUR: 'it returns false'. Refute it at one input. -/
def transferPicksWrong : ChangeSpec := { name := "transferPicks", fn := fun _ => fun
  | [d1, d2, d3] => { results := [.lit (.bool false)], args := [d1, d2, d3] }
  | _ => none }
def TransferPicksWrongFalsely : Prop := transferPicksRow.holds Try.pinned (OpenSpec.ofChange transferPicksWrong)

/-- 'shipwrightlaw17.TransferGrows': WHATEVER THE INPUT: true; the input reads as it did. -/
def transferGrowsSpec : ChangeSpec := { name := "transferGrows", fn := fun _ => fun
  | [d1, d2, d3, d4, d5] => { results := [.lit (.bool true)], args := [d1, d2, d3, d4, d5] }
  | _ => none }
def transferGrowsRow : OpenClaim := { program := "ytmpbimechgelfaa", sum := "ea1938c42550dfca4a1221c3f160faa4aefbeff4e8254eac5e920fc1ae6305ef", func := "shipwright/shipwrightlaw17.TransferGrows", spec := "transferGrows", inPlace := ["internal/bytealg.MakeNoZero"], unfollowed := true, recurses := true, apart := false }
def TransferGrowsSaid : Prop := transferGrowsRow.holds Try.pinned (OpenSpec.ofChange transferGrowsSpec)

/-- ITS FALSE NEIGHBOUR: 'it returns false'. Refute it at one input. -/
def transferGrowsWrong : ChangeSpec := { name := "transferGrows", fn := fun _ => fun
  | [d1, d2, d3, d4, d5] => { results := [.lit (.bool false)], args := [d1, d2, d3, d4, d5] }
  | _ => none }
def TransferGrowsWrongFalsely : Prop := transferGrowsRow.holds Try.pinned (OpenSpec.ofChange transferGrowsWrong)

/-- 'shipwrightlaw17.TransferFinds': WHATEVER THE INPUT: true; the input reads as it did. -/
def transferFindsSpec : ChangeSpec := { name := "transferFinds", fn := fun _ => fun
  | [d1, d2, d3, d4] => { results := [.lit (.bool true)], args := [d1, d2, d3, d4] }
  | _ => none }
def transferFindsRow : OpenClaim := { program := "ytmpbimechgelfaa", sum := "ea1938c42550dfca4a1221c3f160faa4aefbeff4e8254eac5e920fc1ae6305ef", func := "shipwright/shipwrightlaw17.TransferFinds", spec := "transferFinds", inPlace := ["internal/bytealg.MakeNoZero"], unfollowed := true, recurses := true, apart := false }
def TransferFindsSaid : Prop := transferFindsRow.holds Try.pinned (OpenSpec.ofChange transferFindsSpec)

/-- ITS FALSE NEIGHBOUR: 'it returns false'. Refute it at one input. -/
def transferFindsWrong : ChangeSpec := { name := "transferFinds", fn := fun _ => fun
  | [d1, d2, d3, d4] => { results := [.lit (.bool false)], args := [d1, d2, d3, d4] }
  | _ => none }
def TransferFindsWrongFalsely : Prop := transferFindsRow.holds Try.pinned (OpenSpec.ofChange transferFindsWrong)

/-- 'shipwrightlaw17.TransferEnds': WHATEVER THE INPUT: true; the input reads as it did. -/
def transferEndsSpec : ChangeSpec := { name := "transferEnds", fn := fun _ => fun
  | [d1, d2, d3, d4] => { results := [.lit (.bool true)], args := [d1, d2, d3, d4] }
  | _ => none }
def transferEndsRow : OpenClaim := { program := "ytmpbimechgelfaa", sum := "ea1938c42550dfca4a1221c3f160faa4aefbeff4e8254eac5e920fc1ae6305ef", func := "shipwright/shipwrightlaw17.TransferEnds", spec := "transferEnds", inPlace := ["internal/bytealg.MakeNoZero"], unfollowed := true, recurses := true, apart := false }
def TransferEndsSaid : Prop := transferEndsRow.holds Try.pinned (OpenSpec.ofChange transferEndsSpec)

/-- ITS FALSE NEIGHBOUR: 'it returns false'. Refute it at one input. -/
def transferEndsWrong : ChangeSpec := { name := "transferEnds", fn := fun _ => fun
  | [d1, d2, d3, d4] => { results := [.lit (.bool false)], args := [d1, d2, d3, d4] }
  | _ => none }
def TransferEndsWrongFalsely : Prop := transferEndsRow.holds Try.pinned (OpenSpec.ofChange transferEndsWrong)

/-- 'shipwrightlaw03.ShaParts': WHATEVER THE INPUT: true; the input reads as it did. -/
def shaPartsSpec : ChangeSpec := { name := "shaParts", fn := fun _ => fun
  | [d1, d2] => { results := [.lit (.bool true)], args := [d1, d2] }
  | _ => none }
def shaPartsRow : OpenClaim := { program := "ytmpbimechgelfaa", sum := "ea1938c42550dfca4a1221c3f160faa4aefbeff4e8254eac5e920fc1ae6305ef", func := "shipwright/shipwrightlaw03.ShaParts", spec := "shaParts", inPlace := ["internal/bytealg.MakeNoZero"], unfollowed := true, recurses := true, apart := false }
def ShaPartsSaid : Prop := shaPartsRow.holds Try.pinned (OpenSpec.ofChange shaPartsSpec)

/-- ITS FALSE NEIGHBOUR: 'it returns false'. Refute it at one input. -/
def shaPartsWrong : ChangeSpec := { name := "shaParts", fn := fun _ => fun
  | [d1, d2] => { results := [.lit (.bool false)], args := [d1, d2] }
  | _ => none }
def ShaPartsWrongFalsely : Prop := shaPartsRow.holds Try.pinned (OpenSpec.ofChange shaPartsWrong)

/-- 'shipwrightlaw03.ShaKeys': WHATEVER THE INPUT: true; the input reads as it did. -/
def shaKeysSpec : ChangeSpec := { name := "shaKeys", fn := fun _ => fun
  | [d1, d2] => { results := [.lit (.bool true)], args := [d1, d2] }
  | _ => none }
def shaKeysRow : OpenClaim := { program := "ytmpbimechgelfaa", sum := "ea1938c42550dfca4a1221c3f160faa4aefbeff4e8254eac5e920fc1ae6305ef", func := "shipwright/shipwrightlaw03.ShaKeys", spec := "shaKeys", inPlace := ["internal/bytealg.MakeNoZero"], unfollowed := true, recurses := true, apart := false }
def ShaKeysSaid : Prop := shaKeysRow.holds Try.pinned (OpenSpec.ofChange shaKeysSpec)

/-- ITS FALSE NEIGHBOUR: 'it returns false'. Refute it at one input. -/
def shaKeysWrong : ChangeSpec := { name := "shaKeys", fn := fun _ => fun
  | [d1, d2] => { results := [.lit (.bool false)], args := [d1, d2] }
  | _ => none }
def ShaKeysWrongFalsely : Prop := shaKeysRow.holds Try.pinned (OpenSpec.ofChange shaKeysWrong)

/-- 'shipwrightlaw03.ShaTwo': WHATEVER THE INPUT: true; the input reads as it did. -/
def shaTwoSpec : ChangeSpec := { name := "shaTwo", fn := fun _ => fun
  | [d1, d2, d3, d4] => { results := [.lit (.bool true)], args := [d1, d2, d3, d4] }
  | _ => none }
def shaTwoRow : OpenClaim := { program := "ytmpbimechgelfaa", sum := "ea1938c42550dfca4a1221c3f160faa4aefbeff4e8254eac5e920fc1ae6305ef", func := "shipwright/shipwrightlaw03.ShaTwo", spec := "shaTwo", inPlace := ["internal/bytealg.MakeNoZero"], unfollowed := true, recurses := true, apart := false }
def ShaTwoSaid : Prop := shaTwoRow.holds Try.pinned (OpenSpec.ofChange shaTwoSpec)

/-- ITS FALSE NEIGHBOUR: 'it returns false'. Refute it at one input. -/
def shaTwoWrong : ChangeSpec := { name := "shaTwo", fn := fun _ => fun
  | [d1, d2, d3, d4] => { results := [.lit (.bool false)], args := [d1, d2, d3, d4] }
  | _ => none }
def ShaTwoWrongFalsely : Prop := shaTwoRow.holds Try.pinned (OpenSpec.ofChange shaTwoWrong)

/-- 'shipwrightlaw03.ShaNests': WHATEVER THE INPUT: true; the input reads as it did. -/
def shaNestsSpec : ChangeSpec := { name := "shaNests", fn := fun _ => fun
  | [d1, d2] => { results := [.lit (.bool true)], args := [d1, d2] }
  | _ => none }
def shaNestsRow : OpenClaim := { program := "ytmpbimechgelfaa", sum := "ea1938c42550dfca4a1221c3f160faa4aefbeff4e8254eac5e920fc1ae6305ef", func := "shipwright/shipwrightlaw03.ShaNests", spec := "shaNests", inPlace := ["internal/bytealg.MakeNoZero"], unfollowed := true, recurses := true, apart := false }
def ShaNestsSaid : Prop := shaNestsRow.holds Try.pinned (OpenSpec.ofChange shaNestsSpec)

/-- ITS FALSE NEIGHBOUR: 'it returns false'. Refute it at one input. -/
def shaNestsWrong : ChangeSpec := { name := "shaNests", fn := fun _ => fun
  | [d1, d2] => { results := [.lit (.bool false)], args := [d1, d2] }
  | _ => none }
def ShaNestsWrongFalsely : Prop := shaNestsRow.holds Try.pinned (OpenSpec.ofChange shaNestsWrong)

/-- 'shipwrightlaw17.TransferTakes': WHATEVER THE INPUT: true; the input reads as it did. -/
def transferTakesSpec : ChangeSpec := { name := "transferTakes", fn := fun _ => fun
  | [d1, d2, d3, d4, d5] => { results := [.lit (.bool true)], args := [d1, d2, d3, d4, d5] }
  | _ => none }
def transferTakesRow : OpenClaim := { program := "ytmpbimechgelfaa", sum := "ea1938c42550dfca4a1221c3f160faa4aefbeff4e8254eac5e920fc1ae6305ef", func := "shipwright/shipwrightlaw17.TransferTakes", spec := "transferTakes", inPlace := ["internal/bytealg.MakeNoZero", "math/bits.Add64"], unfollowed := true, recurses := true, apart := false }
def TransferTakesSaid : Prop := transferTakesRow.holds Try.pinned (OpenSpec.ofChange transferTakesSpec)

/-- ITS FALSE NEIGHBOUR: 'it returns false'. Refute it at one input. -/
def transferTakesWrong : ChangeSpec := { name := "transferTakes", fn := fun _ => fun
  | [d1, d2, d3, d4, d5] => { results := [.lit (.bool false)], args := [d1, d2, d3, d4, d5] }
  | _ => none }
def TransferTakesWrongFalsely : Prop := transferTakesRow.holds Try.pinned (OpenSpec.ofChange transferTakesWrong)

/-- 'shipwrightlaw03.ShaTells': WHATEVER THE INPUT: true; the input reads as it did. -/
def shaTellsSpec : ChangeSpec := { name := "shaTells", fn := fun _ => fun
  | [d1, d2] => { results := [.lit (.bool true)], args := [d1, d2] }
  | _ => none }
def shaTellsRow : OpenClaim := { program := "ytmpbimechgelfaa", sum := "ea1938c42550dfca4a1221c3f160faa4aefbeff4e8254eac5e920fc1ae6305ef", func := "shipwright/shipwrightlaw03.ShaTells", spec := "shaTells", inPlace := ["internal/bytealg.MakeNoZero", "math/bits.Add64"], unfollowed := true, recurses := true, apart := false }
def ShaTellsSaid : Prop := shaTellsRow.holds Try.pinned (OpenSpec.ofChange shaTellsSpec)

/-- ITS FALSE NEIGHBOUR: 'it returns false'. Refute it at one input. -/
def shaTellsWrong : ChangeSpec := { name := "shaTells", fn := fun _ => fun
  | [d1, d2] => { results := [.lit (.bool false)], args := [d1, d2] }
  | _ => none }
def ShaTellsWrongFalsely : Prop := shaTellsRow.holds Try.pinned (OpenSpec.ofChange shaTellsWrong)

/-- 'shipwrightlaw03.ShaTrees': WHATEVER THE INPUT: true; the input reads as it did. -/
def shaTreesSpec : ChangeSpec := { name := "shaTrees", fn := fun _ => fun
  | [d] => { results := [.lit (.bool true)], args := [d] }
  | _ => none }
def shaTreesRow : OpenClaim := { program := "ytmpbimechgelfaa", sum := "ea1938c42550dfca4a1221c3f160faa4aefbeff4e8254eac5e920fc1ae6305ef", func := "shipwright/shipwrightlaw03.ShaTrees", spec := "shaTrees", inPlace := ["internal/bytealg.MakeNoZero", "math/bits.Add64"], unfollowed := true, recurses := true, apart := false }
def ShaTreesSaid : Prop := shaTreesRow.holds Try.pinned (OpenSpec.ofChange shaTreesSpec)

/-- ITS FALSE NEIGHBOUR: 'it returns false'. Refute it at one input. -/
def shaTreesWrong : ChangeSpec := { name := "shaTrees", fn := fun _ => fun
  | [d] => { results := [.lit (.bool false)], args := [d] }
  | _ => none }
def ShaTreesWrongFalsely : Prop := shaTreesRow.holds Try.pinned (OpenSpec.ofChange shaTreesWrong)

/- THE SECOND FORM. 'bulk': how many values and letters a reading holds, each counted each time it is reached (what is shared counts as often as it is met; a slice's spare places count too). A statement '..UptoSaid' is the law's where the arguments, and the package variables that the reading takes, are together of bulk at most 1048576: NARROWER than '..Said'. Prove '..Said' where nothing that the law and all that it calls make is longer than what came in: it says more and counts as full. Else prove '..UptoSaid'. A law counts once. -/
mutual
def uptoBulk {H : Type} : DataW H → Nat
  | .lit (.string bytes) => bytes.length + 1
  | .lit _ => 1
  | .nil => 1
  | .ptr d => uptoBulk d + 1
  | .slice elems spare => uptoBulkAll elems + uptoBulkAll spare + 1
  | .agg parts => uptoBulkAll parts + 1
  | .iface _ d => uptoBulk d + 1
  | .map entries => uptoBulkEntries entries + 1
  | .held _ => 1
def uptoBulkAll {H : Type} : List (DataW H) → Nat
  | [] => 0
  | d :: r => uptoBulk d + uptoBulkAll r
def uptoBulkEntries {H : Type} : List (Lit × DataW H) → Nat
  | [] => 0
  | x :: r => uptoBulkEntry x + uptoBulkEntries r
def uptoBulkEntry {H : Type} : Lit × DataW H → Nat
  | (.string bytes, d) => bytes.length + uptoBulk d + 1
  | (_, d) => uptoBulk d + 1
 end
def uptoSmall : (H : Type) → List (DataW H) → Bool := fun _ ds => decide (uptoBulkAll ds ≤ 1048576)
def OpenSpec.upto (s : _root_.Go.ChangeSpec) : _root_.Go.OpenSpec := { _root_.Go.OpenSpec.ofChange s with cond := some uptoSmall }

/-- 'shipwrightlaw17.TransferPicks', WHERE WHAT IT READS IS OF BULK AT MOST 1048576: true; the input reads as it did. -/
def transferPicksUptoRow : OpenClaim := { program := "ytmpbimechgelfaa", sum := "ea1938c42550dfca4a1221c3f160faa4aefbeff4e8254eac5e920fc1ae6305ef", func := "shipwright/shipwrightlaw17.TransferPicks", spec := "transferPicks", inPlace := ["internal/bytealg.MakeNoZero"], unfollowed := true, recurses := true, apart := false, narrowed := true }
def TransferPicksUptoSaid : Prop := transferPicksUptoRow.holds Try.pinned (OpenSpec.upto transferPicksSpec)

/-- 'shipwrightlaw17.TransferGrows', WHERE WHAT IT READS IS OF BULK AT MOST 1048576: true; the input reads as it did. -/
def transferGrowsUptoRow : OpenClaim := { program := "ytmpbimechgelfaa", sum := "ea1938c42550dfca4a1221c3f160faa4aefbeff4e8254eac5e920fc1ae6305ef", func := "shipwright/shipwrightlaw17.TransferGrows", spec := "transferGrows", inPlace := ["internal/bytealg.MakeNoZero"], unfollowed := true, recurses := true, apart := false, narrowed := true }
def TransferGrowsUptoSaid : Prop := transferGrowsUptoRow.holds Try.pinned (OpenSpec.upto transferGrowsSpec)

/-- 'shipwrightlaw17.TransferFinds', WHERE WHAT IT READS IS OF BULK AT MOST 1048576: true; the input reads as it did. -/
def transferFindsUptoRow : OpenClaim := { program := "ytmpbimechgelfaa", sum := "ea1938c42550dfca4a1221c3f160faa4aefbeff4e8254eac5e920fc1ae6305ef", func := "shipwright/shipwrightlaw17.TransferFinds", spec := "transferFinds", inPlace := ["internal/bytealg.MakeNoZero"], unfollowed := true, recurses := true, apart := false, narrowed := true }
def TransferFindsUptoSaid : Prop := transferFindsUptoRow.holds Try.pinned (OpenSpec.upto transferFindsSpec)

/-- 'shipwrightlaw17.TransferEnds', WHERE WHAT IT READS IS OF BULK AT MOST 1048576: true; the input reads as it did. -/
def transferEndsUptoRow : OpenClaim := { program := "ytmpbimechgelfaa", sum := "ea1938c42550dfca4a1221c3f160faa4aefbeff4e8254eac5e920fc1ae6305ef", func := "shipwright/shipwrightlaw17.TransferEnds", spec := "transferEnds", inPlace := ["internal/bytealg.MakeNoZero"], unfollowed := true, recurses := true, apart := false, narrowed := true }
def TransferEndsUptoSaid : Prop := transferEndsUptoRow.holds Try.pinned (OpenSpec.upto transferEndsSpec)

/-- 'shipwrightlaw03.ShaParts', WHERE WHAT IT READS IS OF BULK AT MOST 1048576: true; the input reads as it did. -/
def shaPartsUptoRow : OpenClaim := { program := "ytmpbimechgelfaa", sum := "ea1938c42550dfca4a1221c3f160faa4aefbeff4e8254eac5e920fc1ae6305ef", func := "shipwright/shipwrightlaw03.ShaParts", spec := "shaParts", inPlace := ["internal/bytealg.MakeNoZero"], unfollowed := true, recurses := true, apart := false, narrowed := true }
def ShaPartsUptoSaid : Prop := shaPartsUptoRow.holds Try.pinned (OpenSpec.upto shaPartsSpec)

/-- 'shipwrightlaw03.ShaKeys', WHERE WHAT IT READS IS OF BULK AT MOST 1048576: true; the input reads as it did. -/
def shaKeysUptoRow : OpenClaim := { program := "ytmpbimechgelfaa", sum := "ea1938c42550dfca4a1221c3f160faa4aefbeff4e8254eac5e920fc1ae6305ef", func := "shipwright/shipwrightlaw03.ShaKeys", spec := "shaKeys", inPlace := ["internal/bytealg.MakeNoZero"], unfollowed := true, recurses := true, apart := false, narrowed := true }
def ShaKeysUptoSaid : Prop := shaKeysUptoRow.holds Try.pinned (OpenSpec.upto shaKeysSpec)

/-- 'shipwrightlaw03.ShaTwo', WHERE WHAT IT READS IS OF BULK AT MOST 1048576: true; the input reads as it did. -/
def shaTwoUptoRow : OpenClaim := { program := "ytmpbimechgelfaa", sum := "ea1938c42550dfca4a1221c3f160faa4aefbeff4e8254eac5e920fc1ae6305ef", func := "shipwright/shipwrightlaw03.ShaTwo", spec := "shaTwo", inPlace := ["internal/bytealg.MakeNoZero"], unfollowed := true, recurses := true, apart := false, narrowed := true }
def ShaTwoUptoSaid : Prop := shaTwoUptoRow.holds Try.pinned (OpenSpec.upto shaTwoSpec)

/-- 'shipwrightlaw03.ShaNests', WHERE WHAT IT READS IS OF BULK AT MOST 1048576: true; the input reads as it did. -/
def shaNestsUptoRow : OpenClaim := { program := "ytmpbimechgelfaa", sum := "ea1938c42550dfca4a1221c3f160faa4aefbeff4e8254eac5e920fc1ae6305ef", func := "shipwright/shipwrightlaw03.ShaNests", spec := "shaNests", inPlace := ["internal/bytealg.MakeNoZero"], unfollowed := true, recurses := true, apart := false, narrowed := true }
def ShaNestsUptoSaid : Prop := shaNestsUptoRow.holds Try.pinned (OpenSpec.upto shaNestsSpec)

/-- 'shipwrightlaw17.TransferTakes', WHERE WHAT IT READS IS OF BULK AT MOST 1048576: true; the input reads as it did. -/
def transferTakesUptoRow : OpenClaim := { program := "ytmpbimechgelfaa", sum := "ea1938c42550dfca4a1221c3f160faa4aefbeff4e8254eac5e920fc1ae6305ef", func := "shipwright/shipwrightlaw17.TransferTakes", spec := "transferTakes", inPlace := ["internal/bytealg.MakeNoZero", "math/bits.Add64"], unfollowed := true, recurses := true, apart := false, narrowed := true }
def TransferTakesUptoSaid : Prop := transferTakesUptoRow.holds Try.pinned (OpenSpec.upto transferTakesSpec)

/-- 'shipwrightlaw03.ShaTells', WHERE WHAT IT READS IS OF BULK AT MOST 1048576: true; the input reads as it did. -/
def shaTellsUptoRow : OpenClaim := { program := "ytmpbimechgelfaa", sum := "ea1938c42550dfca4a1221c3f160faa4aefbeff4e8254eac5e920fc1ae6305ef", func := "shipwright/shipwrightlaw03.ShaTells", spec := "shaTells", inPlace := ["internal/bytealg.MakeNoZero", "math/bits.Add64"], unfollowed := true, recurses := true, apart := false, narrowed := true }
def ShaTellsUptoSaid : Prop := shaTellsUptoRow.holds Try.pinned (OpenSpec.upto shaTellsSpec)

/-- 'shipwrightlaw03.ShaTrees', WHERE WHAT IT READS IS OF BULK AT MOST 1048576: true; the input reads as it did. -/
def shaTreesUptoRow : OpenClaim := { program := "ytmpbimechgelfaa", sum := "ea1938c42550dfca4a1221c3f160faa4aefbeff4e8254eac5e920fc1ae6305ef", func := "shipwright/shipwrightlaw03.ShaTrees", spec := "shaTrees", inPlace := ["internal/bytealg.MakeNoZero", "math/bits.Add64"], unfollowed := true, recurses := true, apart := false, narrowed := true }
def ShaTreesUptoSaid : Prop := shaTreesUptoRow.holds Try.pinned (OpenSpec.upto shaTreesSpec)

end Rows
end Go.Proofs.Ytmpbimechgelfaa
