/-
  No cell of these rows narrows 'for every input' (looked for: loops, veiled, ifaces, maps, wideKeys, modest, calm, conditions, laid).
  DERIVED. THE GIVEN ROWS OF THIS SEAT. 12 by the template 'for every input the law returns true; each argument reads behind the call as it read before'; 0 by the template 'total and deterministic' (their statements: YtdkkklhpfflpkaaTotals.lean).
  GIVEN WITH THE SEED: the statements are not yours to turn. If you find one false, say at which input.
  Laid BY PROGRAM, IN A SANDBOX (cutbox-rows.mjs): the forced cells as the released guide's own fill.sh prints them over the translation aa47441e3fe72594… (all of the seat's roots in one cut). By AI agents, Wed Nov 11 2026. No macro, syntax, notation, axiom, sorry.
-/
import Derived.Test.YtdkkklhpfflpkaaChecked
import GoSem.Claim
import GoSem.ClaimJoined
import GoSem.ClaimMapViews
import Derived.JoinedTies
import Derived.KernelRfl
namespace Go.Proofs.Ytdkkklhpfflpkaa
/- THE CELL 'sum', in the pinned program and in every row, IS THE sha256 OF THE DUMP (.gsa) THAT YtdkkklhpfflpkaaProg.lean LOADS. Nothing in Lean hashes anything: it is a label: what it is worth is what the hold of that sum in a sandbox is worth. -/
noncomputable def Try.pinned : Pinned := { name := "ytdkkklhpfflpkaa", sum := "aa47441e3fe725949bce41478c307de4eb0b2af5d5ebee5a6b7f0df882b1caee", checked := Try.checked }
namespace Rows
def none {H : Type} : Left H := { results := [], args := [] }

/-- 'sparsetreelaw01.BitsMatch': WHATEVER THE INPUT: true; the input reads as it did. -/
def bitsMatchSpec : ChangeSpec := { name := "bitsMatch", fn := fun _ => fun
  | [d1, d2] => { results := [.lit (.bool true)], args := [d1, d2] }
  | _ => none }
def bitsMatchRow : OpenClaim := { program := "ytdkkklhpfflpkaa", sum := "aa47441e3fe725949bce41478c307de4eb0b2af5d5ebee5a6b7f0df882b1caee", func := "sparsetree/sparsetreelaw01.BitsMatch", spec := "bitsMatch", inPlace := ["internal/bytealg.Compare"], apart := false }
def BitsMatchSaid : Prop := bitsMatchRow.holds Try.pinned (OpenSpec.ofChange bitsMatchSpec)

/-- ITS FALSE NEIGHBOUR: 'it returns false'. Refute it at one input. -/
def bitsMatchWrong : ChangeSpec := { name := "bitsMatch", fn := fun _ => fun
  | [d1, d2] => { results := [.lit (.bool false)], args := [d1, d2] }
  | _ => none }
def BitsMatchWrongFalsely : Prop := bitsMatchRow.holds Try.pinned (OpenSpec.ofChange bitsMatchWrong)

/-- 'sparsetreelaw01.BitsCommon': WHATEVER THE INPUT: true; the input reads as it did. -/
def bitsCommonSpec : ChangeSpec := { name := "bitsCommon", fn := fun _ => fun
  | [d1, d2] => { results := [.lit (.bool true)], args := [d1, d2] }
  | _ => none }
def bitsCommonRow : OpenClaim := { program := "ytdkkklhpfflpkaa", sum := "aa47441e3fe725949bce41478c307de4eb0b2af5d5ebee5a6b7f0df882b1caee", func := "sparsetree/sparsetreelaw01.BitsCommon", spec := "bitsCommon", inPlace := ["internal/bytealg.Compare"], apart := false }
def BitsCommonSaid : Prop := bitsCommonRow.holds Try.pinned (OpenSpec.ofChange bitsCommonSpec)

/-- ITS FALSE NEIGHBOUR: 'it returns false'. Refute it at one input. -/
def bitsCommonWrong : ChangeSpec := { name := "bitsCommon", fn := fun _ => fun
  | [d1, d2] => { results := [.lit (.bool false)], args := [d1, d2] }
  | _ => none }
def BitsCommonWrongFalsely : Prop := bitsCommonRow.holds Try.pinned (OpenSpec.ofChange bitsCommonWrong)

/-- 'sparsetreelaw01.BitsPrefix': WHATEVER THE INPUT: true; the input reads as it did. -/
def bitsPrefixSpec : ChangeSpec := { name := "bitsPrefix", fn := fun _ => fun
  | [d1, d2] => { results := [.lit (.bool true)], args := [d1, d2] }
  | _ => none }
def bitsPrefixRow : OpenClaim := { program := "ytdkkklhpfflpkaa", sum := "aa47441e3fe725949bce41478c307de4eb0b2af5d5ebee5a6b7f0df882b1caee", func := "sparsetree/sparsetreelaw01.BitsPrefix", spec := "bitsPrefix", inPlace := ["internal/bytealg.Compare"], apart := false }
def BitsPrefixSaid : Prop := bitsPrefixRow.holds Try.pinned (OpenSpec.ofChange bitsPrefixSpec)

/-- ITS FALSE NEIGHBOUR: 'it returns false'. Refute it at one input. -/
def bitsPrefixWrong : ChangeSpec := { name := "bitsPrefix", fn := fun _ => fun
  | [d1, d2] => { results := [.lit (.bool false)], args := [d1, d2] }
  | _ => none }
def BitsPrefixWrongFalsely : Prop := bitsPrefixRow.holds Try.pinned (OpenSpec.ofChange bitsPrefixWrong)

/-- 'sparsetreelaw01.BitsCompare': WHATEVER THE INPUT: true; the input reads as it did. -/
def bitsCompareSpec : ChangeSpec := { name := "bitsCompare", fn := fun _ => fun
  | [d1, d2] => { results := [.lit (.bool true)], args := [d1, d2] }
  | _ => none }
def bitsCompareRow : OpenClaim := { program := "ytdkkklhpfflpkaa", sum := "aa47441e3fe725949bce41478c307de4eb0b2af5d5ebee5a6b7f0df882b1caee", func := "sparsetree/sparsetreelaw01.BitsCompare", spec := "bitsCompare", inPlace := ["internal/bytealg.Compare"], apart := false }
def BitsCompareSaid : Prop := bitsCompareRow.holds Try.pinned (OpenSpec.ofChange bitsCompareSpec)

/-- ITS FALSE NEIGHBOUR: 'it returns false'. Refute it at one input. -/
def bitsCompareWrong : ChangeSpec := { name := "bitsCompare", fn := fun _ => fun
  | [d1, d2] => { results := [.lit (.bool false)], args := [d1, d2] }
  | _ => none }
def BitsCompareWrongFalsely : Prop := bitsCompareRow.holds Try.pinned (OpenSpec.ofChange bitsCompareWrong)

/-- 'sparsetreelaw01.BitsDirections': WHATEVER THE INPUT: true; the input reads as it did. -/
def bitsDirectionsSpec : ChangeSpec := { name := "bitsDirections", fn := fun _ => fun
  | [d1, d2] => { results := [.lit (.bool true)], args := [d1, d2] }
  | _ => none }
def bitsDirectionsRow : OpenClaim := { program := "ytdkkklhpfflpkaa", sum := "aa47441e3fe725949bce41478c307de4eb0b2af5d5ebee5a6b7f0df882b1caee", func := "sparsetree/sparsetreelaw01.BitsDirections", spec := "bitsDirections", inPlace := ["internal/bytealg.Compare"], apart := false }
def BitsDirectionsSaid : Prop := bitsDirectionsRow.holds Try.pinned (OpenSpec.ofChange bitsDirectionsSpec)

/-- ITS FALSE NEIGHBOUR: 'it returns false'. Refute it at one input. -/
def bitsDirectionsWrong : ChangeSpec := { name := "bitsDirections", fn := fun _ => fun
  | [d1, d2] => { results := [.lit (.bool false)], args := [d1, d2] }
  | _ => none }
def BitsDirectionsWrongFalsely : Prop := bitsDirectionsRow.holds Try.pinned (OpenSpec.ofChange bitsDirectionsWrong)

/-- 'sparsetreelaw01.BitsAgree': WHATEVER THE INPUT: true; the input reads as it did. -/
def bitsAgreeSpec : ChangeSpec := { name := "bitsAgree", fn := fun _ => fun
  | [d1, d2, d3] => { results := [.lit (.bool true)], args := [d1, d2, d3] }
  | _ => none }
def bitsAgreeRow : OpenClaim := { program := "ytdkkklhpfflpkaa", sum := "aa47441e3fe725949bce41478c307de4eb0b2af5d5ebee5a6b7f0df882b1caee", func := "sparsetree/sparsetreelaw01.BitsAgree", spec := "bitsAgree", inPlace := ["internal/bytealg.Compare"], apart := false }
def BitsAgreeSaid : Prop := bitsAgreeRow.holds Try.pinned (OpenSpec.ofChange bitsAgreeSpec)

/-- ITS FALSE NEIGHBOUR: 'it returns false'. Refute it at one input. -/
def bitsAgreeWrong : ChangeSpec := { name := "bitsAgree", fn := fun _ => fun
  | [d1, d2, d3] => { results := [.lit (.bool false)], args := [d1, d2, d3] }
  | _ => none }
def BitsAgreeWrongFalsely : Prop := bitsAgreeRow.holds Try.pinned (OpenSpec.ofChange bitsAgreeWrong)

/-- 'sparsetreelaw14.BitmapOf': WHATEVER THE INPUT: true; the input reads as it did. -/
def bitmapOfSpec : ChangeSpec := { name := "bitmapOf", fn := fun _ => fun
  | [d] => { results := [.lit (.bool true)], args := [d] }
  | _ => none }
def bitmapOfRow : OpenClaim := { program := "ytdkkklhpfflpkaa", sum := "aa47441e3fe725949bce41478c307de4eb0b2af5d5ebee5a6b7f0df882b1caee", func := "sparsetree/sparsetreelaw14.BitmapOf", spec := "bitmapOf", unfollowed := true, recurses := true, apart := false }
def BitmapOfSaid : Prop := bitmapOfRow.holds Try.pinned (OpenSpec.ofChange bitmapOfSpec)

/-- ITS FALSE NEIGHBOUR: 'it returns false'. Refute it at one input. -/
def bitmapOfWrong : ChangeSpec := { name := "bitmapOf", fn := fun _ => fun
  | [d] => { results := [.lit (.bool false)], args := [d] }
  | _ => none }
def BitmapOfWrongFalsely : Prop := bitmapOfRow.holds Try.pinned (OpenSpec.ofChange bitmapOfWrong)

/-- 'sparsetreelaw14.BitmapHas': WHATEVER THE INPUT: true; the input reads as it did. -/
def bitmapHasSpec : ChangeSpec := { name := "bitmapHas", fn := fun _ => fun
  | [d1, d2] => { results := [.lit (.bool true)], args := [d1, d2] }
  | _ => none }
def bitmapHasRow : OpenClaim := { program := "ytdkkklhpfflpkaa", sum := "aa47441e3fe725949bce41478c307de4eb0b2af5d5ebee5a6b7f0df882b1caee", func := "sparsetree/sparsetreelaw14.BitmapHas", spec := "bitmapHas", unfollowed := true, recurses := true, apart := false }
def BitmapHasSaid : Prop := bitmapHasRow.holds Try.pinned (OpenSpec.ofChange bitmapHasSpec)

/-- ITS FALSE NEIGHBOUR: 'it returns false'. Refute it at one input. -/
def bitmapHasWrong : ChangeSpec := { name := "bitmapHas", fn := fun _ => fun
  | [d1, d2] => { results := [.lit (.bool false)], args := [d1, d2] }
  | _ => none }
def BitmapHasWrongFalsely : Prop := bitmapHasRow.holds Try.pinned (OpenSpec.ofChange bitmapHasWrong)

/-- 'sparsetreelaw14.BitmapChanges': WHATEVER THE INPUT: true; the input reads as it did. -/
def bitmapChangesSpec : ChangeSpec := { name := "bitmapChanges", fn := fun _ => fun
  | [d1, d2, d3] => { results := [.lit (.bool true)], args := [d1, d2, d3] }
  | _ => none }
def bitmapChangesRow : OpenClaim := { program := "ytdkkklhpfflpkaa", sum := "aa47441e3fe725949bce41478c307de4eb0b2af5d5ebee5a6b7f0df882b1caee", func := "sparsetree/sparsetreelaw14.BitmapChanges", spec := "bitmapChanges", unfollowed := true, recurses := true, apart := false }
def BitmapChangesSaid : Prop := bitmapChangesRow.holds Try.pinned (OpenSpec.ofChange bitmapChangesSpec)

/-- ITS FALSE NEIGHBOUR: 'it returns false'. Refute it at one input. -/
def bitmapChangesWrong : ChangeSpec := { name := "bitmapChanges", fn := fun _ => fun
  | [d1, d2, d3] => { results := [.lit (.bool false)], args := [d1, d2, d3] }
  | _ => none }
def BitmapChangesWrongFalsely : Prop := bitmapChangesRow.holds Try.pinned (OpenSpec.ofChange bitmapChangesWrong)

/-- 'sparsetreelaw14.BitmapLists': WHATEVER THE INPUT: true; the input reads as it did. -/
def bitmapListsSpec : ChangeSpec := { name := "bitmapLists", fn := fun _ => fun
  | [d] => { results := [.lit (.bool true)], args := [d] }
  | _ => none }
def bitmapListsRow : OpenClaim := { program := "ytdkkklhpfflpkaa", sum := "aa47441e3fe725949bce41478c307de4eb0b2af5d5ebee5a6b7f0df882b1caee", func := "sparsetree/sparsetreelaw14.BitmapLists", spec := "bitmapLists", unfollowed := true, recurses := true, apart := false }
def BitmapListsSaid : Prop := bitmapListsRow.holds Try.pinned (OpenSpec.ofChange bitmapListsSpec)

/-- ITS FALSE NEIGHBOUR: 'it returns false'. Refute it at one input. -/
def bitmapListsWrong : ChangeSpec := { name := "bitmapLists", fn := fun _ => fun
  | [d] => { results := [.lit (.bool false)], args := [d] }
  | _ => none }
def BitmapListsWrongFalsely : Prop := bitmapListsRow.holds Try.pinned (OpenSpec.ofChange bitmapListsWrong)

/-- 'sparsetreelaw14.BitmapUnites': WHATEVER THE INPUT: true; the input reads as it did. -/
def bitmapUnitesSpec : ChangeSpec := { name := "bitmapUnites", fn := fun _ => fun
  | [d1, d2, d3] => { results := [.lit (.bool true)], args := [d1, d2, d3] }
  | _ => none }
def bitmapUnitesRow : OpenClaim := { program := "ytdkkklhpfflpkaa", sum := "aa47441e3fe725949bce41478c307de4eb0b2af5d5ebee5a6b7f0df882b1caee", func := "sparsetree/sparsetreelaw14.BitmapUnites", spec := "bitmapUnites", unfollowed := true, recurses := true, apart := false }
def BitmapUnitesSaid : Prop := bitmapUnitesRow.holds Try.pinned (OpenSpec.ofChange bitmapUnitesSpec)

/-- ITS FALSE NEIGHBOUR: 'it returns false'. Refute it at one input. -/
def bitmapUnitesWrong : ChangeSpec := { name := "bitmapUnites", fn := fun _ => fun
  | [d1, d2, d3] => { results := [.lit (.bool false)], args := [d1, d2, d3] }
  | _ => none }
def BitmapUnitesWrongFalsely : Prop := bitmapUnitesRow.holds Try.pinned (OpenSpec.ofChange bitmapUnitesWrong)

/-- 'sparsetreelaw14.BitmapOrder': WHATEVER THE INPUT: true; the input reads as it did. -/
def bitmapOrderSpec : ChangeSpec := { name := "bitmapOrder", fn := fun _ => fun
  | [d] => { results := [.lit (.bool true)], args := [d] }
  | _ => none }
def bitmapOrderRow : OpenClaim := { program := "ytdkkklhpfflpkaa", sum := "aa47441e3fe725949bce41478c307de4eb0b2af5d5ebee5a6b7f0df882b1caee", func := "sparsetree/sparsetreelaw14.BitmapOrder", spec := "bitmapOrder", unfollowed := true, recurses := true, apart := false }
def BitmapOrderSaid : Prop := bitmapOrderRow.holds Try.pinned (OpenSpec.ofChange bitmapOrderSpec)

/-- ITS FALSE NEIGHBOUR: 'it returns false'. Refute it at one input. -/
def bitmapOrderWrong : ChangeSpec := { name := "bitmapOrder", fn := fun _ => fun
  | [d] => { results := [.lit (.bool false)], args := [d] }
  | _ => none }
def BitmapOrderWrongFalsely : Prop := bitmapOrderRow.holds Try.pinned (OpenSpec.ofChange bitmapOrderWrong)

/- THE SECOND FORM. 'bulk': how many values and letters a reading holds, each counted each time it is reached (what is shared counts as often as it is met; a slice's spare places count too). A statement '..UptoSaid' is the law's where the arguments, and the package variables that the reading takes, are together of bulk at most 1048576: NARROWER than '..Said'. Prove '..Said' where nothing that the law and all that it calls make is longer than what came in: it says more and counts as full. Else prove '..UptoSaid'. A law counts once. -/
mutual
def uptoBulk {H : Type} : DataW H → Nat
  | .lit (.string bytes) => bytes.length + 1
  | .lit _ => 1
  | .nil => 1
  | .ptr d => uptoBulk d + 1
  | .slice elems spare => uptoBulkAll elems + uptoBulkAll spare + 1
  | .agg parts => uptoBulkAll parts + 1
  | .iface _ d => uptoBulk d + 1
  | .map entries => uptoBulkEntries entries + 1
  | .held _ => 1
def uptoBulkAll {H : Type} : List (DataW H) → Nat
  | [] => 0
  | d :: r => uptoBulk d + uptoBulkAll r
def uptoBulkEntries {H : Type} : List (Lit × DataW H) → Nat
  | [] => 0
  | x :: r => uptoBulkEntry x + uptoBulkEntries r
def uptoBulkEntry {H : Type} : Lit × DataW H → Nat
  | (.string bytes, d) => bytes.length + uptoBulk d + 1
  | (_, d) => uptoBulk d + 1
 end
def uptoSmall : (H : Type) → List (DataW H) → Bool := fun _ ds => decide (uptoBulkAll ds ≤ 1048576)
def OpenSpec.upto (s : _root_.Go.ChangeSpec) : _root_.Go.OpenSpec := { _root_.Go.OpenSpec.ofChange s with cond := some uptoSmall }

/-- 'sparsetreelaw01.BitsMatch', WHERE WHAT IT READS IS OF BULK AT MOST 1048576: true; the input reads as it did. -/
def bitsMatchUptoRow : OpenClaim := { program := "ytdkkklhpfflpkaa", sum := "aa47441e3fe725949bce41478c307de4eb0b2af5d5ebee5a6b7f0df882b1caee", func := "sparsetree/sparsetreelaw01.BitsMatch", spec := "bitsMatch", inPlace := ["internal/bytealg.Compare"], apart := false, narrowed := true }
def BitsMatchUptoSaid : Prop := bitsMatchUptoRow.holds Try.pinned (OpenSpec.upto bitsMatchSpec)

/-- 'sparsetreelaw01.BitsCommon', WHERE WHAT IT READS IS OF BULK AT MOST 1048576: true; the input reads as it did. -/
def bitsCommonUptoRow : OpenClaim := { program := "ytdkkklhpfflpkaa", sum := "aa47441e3fe725949bce41478c307de4eb0b2af5d5ebee5a6b7f0df882b1caee", func := "sparsetree/sparsetreelaw01.BitsCommon", spec := "bitsCommon", inPlace := ["internal/bytealg.Compare"], apart := false, narrowed := true }
def BitsCommonUptoSaid : Prop := bitsCommonUptoRow.holds Try.pinned (OpenSpec.upto bitsCommonSpec)

/-- 'sparsetreelaw01.BitsPrefix', WHERE WHAT IT READS IS OF BULK AT MOST 1048576: true; the input reads as it did. -/
def bitsPrefixUptoRow : OpenClaim := { program := "ytdkkklhpfflpkaa", sum := "aa47441e3fe725949bce41478c307de4eb0b2af5d5ebee5a6b7f0df882b1caee", func := "sparsetree/sparsetreelaw01.BitsPrefix", spec := "bitsPrefix", inPlace := ["internal/bytealg.Compare"], apart := false, narrowed := true }
def BitsPrefixUptoSaid : Prop := bitsPrefixUptoRow.holds Try.pinned (OpenSpec.upto bitsPrefixSpec)

/-- 'sparsetreelaw01.BitsCompare', WHERE WHAT IT READS IS OF BULK AT MOST 1048576: true; the input reads as it did. -/
def bitsCompareUptoRow : OpenClaim := { program := "ytdkkklhpfflpkaa", sum := "aa47441e3fe725949bce41478c307de4eb0b2af5d5ebee5a6b7f0df882b1caee", func := "sparsetree/sparsetreelaw01.BitsCompare", spec := "bitsCompare", inPlace := ["internal/bytealg.Compare"], apart := false, narrowed := true }
def BitsCompareUptoSaid : Prop := bitsCompareUptoRow.holds Try.pinned (OpenSpec.upto bitsCompareSpec)

/-- 'sparsetreelaw01.BitsDirections', WHERE WHAT IT READS IS OF BULK AT MOST 1048576: true; the input reads as it did. -/
def bitsDirectionsUptoRow : OpenClaim := { program := "ytdkkklhpfflpkaa", sum := "aa47441e3fe725949bce41478c307de4eb0b2af5d5ebee5a6b7f0df882b1caee", func := "sparsetree/sparsetreelaw01.BitsDirections", spec := "bitsDirections", inPlace := ["internal/bytealg.Compare"], apart := false, narrowed := true }
def BitsDirectionsUptoSaid : Prop := bitsDirectionsUptoRow.holds Try.pinned (OpenSpec.upto bitsDirectionsSpec)

/-- 'sparsetreelaw01.BitsAgree', WHERE WHAT IT READS IS OF BULK AT MOST 1048576: true; the input reads as it did. -/
def bitsAgreeUptoRow : OpenClaim := { program := "ytdkkklhpfflpkaa", sum := "aa47441e3fe725949bce41478c307de4eb0b2af5d5ebee5a6b7f0df882b1caee", func := "sparsetree/sparsetreelaw01.BitsAgree", spec := "bitsAgree", inPlace := ["internal/bytealg.Compare"], apart := false, narrowed := true }
def BitsAgreeUptoSaid : Prop := bitsAgreeUptoRow.holds Try.pinned (OpenSpec.upto bitsAgreeSpec)

/-- 'sparsetreelaw14.BitmapOf', WHERE WHAT IT READS IS OF BULK AT MOST 1048576: true; the input reads as it did. -/
def bitmapOfUptoRow : OpenClaim := { program := "ytdkkklhpfflpkaa", sum := "aa47441e3fe725949bce41478c307de4eb0b2af5d5ebee5a6b7f0df882b1caee", func := "sparsetree/sparsetreelaw14.BitmapOf", spec := "bitmapOf", unfollowed := true, recurses := true, apart := false, narrowed := true }
def BitmapOfUptoSaid : Prop := bitmapOfUptoRow.holds Try.pinned (OpenSpec.upto bitmapOfSpec)

/-- 'sparsetreelaw14.BitmapHas', WHERE WHAT IT READS IS OF BULK AT MOST 1048576: true; the input reads as it did. -/
def bitmapHasUptoRow : OpenClaim := { program := "ytdkkklhpfflpkaa", sum := "aa47441e3fe725949bce41478c307de4eb0b2af5d5ebee5a6b7f0df882b1caee", func := "sparsetree/sparsetreelaw14.BitmapHas", spec := "bitmapHas", unfollowed := true, recurses := true, apart := false, narrowed := true }
def BitmapHasUptoSaid : Prop := bitmapHasUptoRow.holds Try.pinned (OpenSpec.upto bitmapHasSpec)

/-- 'sparsetreelaw14.BitmapChanges', WHERE WHAT IT READS IS OF BULK AT MOST 1048576: true; the input reads as it did. -/
def bitmapChangesUptoRow : OpenClaim := { program := "ytdkkklhpfflpkaa", sum := "aa47441e3fe725949bce41478c307de4eb0b2af5d5ebee5a6b7f0df882b1caee", func := "sparsetree/sparsetreelaw14.BitmapChanges", spec := "bitmapChanges", unfollowed := true, recurses := true, apart := false, narrowed := true }
def BitmapChangesUptoSaid : Prop := bitmapChangesUptoRow.holds Try.pinned (OpenSpec.upto bitmapChangesSpec)

/-- 'sparsetreelaw14.BitmapLists', WHERE WHAT IT READS IS OF BULK AT MOST 1048576: true; the input reads as it did. -/
def bitmapListsUptoRow : OpenClaim := { program := "ytdkkklhpfflpkaa", sum := "aa47441e3fe725949bce41478c307de4eb0b2af5d5ebee5a6b7f0df882b1caee", func := "sparsetree/sparsetreelaw14.BitmapLists", spec := "bitmapLists", unfollowed := true, recurses := true, apart := false, narrowed := true }
def BitmapListsUptoSaid : Prop := bitmapListsUptoRow.holds Try.pinned (OpenSpec.upto bitmapListsSpec)

/-- 'sparsetreelaw14.BitmapUnites', WHERE WHAT IT READS IS OF BULK AT MOST 1048576: true; the input reads as it did. -/
def bitmapUnitesUptoRow : OpenClaim := { program := "ytdkkklhpfflpkaa", sum := "aa47441e3fe725949bce41478c307de4eb0b2af5d5ebee5a6b7f0df882b1caee", func := "sparsetree/sparsetreelaw14.BitmapUnites", spec := "bitmapUnites", unfollowed := true, recurses := true, apart := false, narrowed := true }
def BitmapUnitesUptoSaid : Prop := bitmapUnitesUptoRow.holds Try.pinned (OpenSpec.upto bitmapUnitesSpec)

/-- 'sparsetreelaw14.BitmapOrder', WHERE WHAT IT READS IS OF BULK AT MOST 1048576: true; the input reads as it did. -/
def bitmapOrderUptoRow : OpenClaim := { program := "ytdkkklhpfflpkaa", sum := "aa47441e3fe725949bce41478c307de4eb0b2af5d5ebee5a6b7f0df882b1caee", func := "sparsetree/sparsetreelaw14.BitmapOrder", spec := "bitmapOrder", unfollowed := true, recurses := true, apart := false, narrowed := true }
def BitmapOrderUptoSaid : Prop := bitmapOrderUptoRow.holds Try.pinned (OpenSpec.upto bitmapOrderSpec)

end Rows
end Go.Proofs.Ytdkkklhpfflpkaa
