/-
  NARROWER THAN 'FOR EVERY INPUT', by the rows' own cells (each row's printed sentence says how): TreePuts: loops · TreeSizes: loops · TreeMaps: loops · LayerLast: loops · TreeOrders: loops · TreeCompares: loops · PathPlaces: loops · MergeCuts: loops · PathLeaves: loops · PathDrops: loops · PathWays: loops · PathAll: loops · LayerEmpty: loops · LayerDiffs: loops · LayerMisses: loops · LayerOvers: loops · TreeChecks: loops · MergeThree: loops.
  DERIVED. THE GIVEN ROWS OF THIS SEAT. 19 by the template 'for every input the law returns true; each argument reads behind the call as it read before'; 0 by the template 'total and deterministic' (their statements: YtmdihildjblgnaaTotals.lean).
  GIVEN WITH THE SEED: the statements are not yours to turn. If you find one false, say at which input.
  Laid BY PROGRAM, IN A SANDBOX (cutbox-rows.mjs): the forced cells as the released guide's own fill.sh prints them over the translation 2b72d5410a6d1b82… (all of the seat's roots in one cut). By AI agents, Wed Nov 11 2026. No macro, syntax, notation, axiom, sorry.
-/
import Derived.Test.YtmdihildjblgnaaChecked
import GoSem.Claim
import GoSem.ClaimJoined
import GoSem.ClaimMapViews
import Derived.JoinedTies
import Derived.KernelRfl
namespace Go.Proofs.Ytmdihildjblgnaa
/- THE CELL 'sum', in the pinned program and in every row, IS THE sha256 OF THE DUMP (.gsa) THAT YtmdihildjblgnaaProg.lean LOADS. Nothing in Lean hashes anything: it is a label: what it is worth is what the hold of that sum in a sandbox is worth. -/
noncomputable def Try.pinned : Pinned := { name := "ytmdihildjblgnaa", sum := "2b72d5410a6d1b826acce3cf8b14302850f8f66e2a220882b81709fccaa67d66", checked := Try.checked }
namespace Rows
def none {H : Type} : Left H := { results := [], args := [] }

/-- 'mizzenlaw01.TreePuts': WHATEVER THE INPUT: true; the input reads as it did. -/
def treePutsSpec : ChangeSpec := { name := "treePuts", fn := fun _ => fun
  | [d1, d2, d3, d4, d5] => { results := [.lit (.bool true)], args := [d1, d2, d3, d4, d5] }
  | _ => none }
def treePutsRow : OpenClaim := { program := "ytmdihildjblgnaa", sum := "2b72d5410a6d1b826acce3cf8b14302850f8f66e2a220882b81709fccaa67d66", func := "mizzen/mizzenlaw01.TreePuts", spec := "treePuts", inPlace := ["internal/bytealg.abigen_runtime_cmpstring", "slices.overlaps[mizzen/api.Pair]"], unfollowed := true, recurses := true, loops := true, apart := false }
def TreePutsSaid : Prop := treePutsRow.holds Try.pinned (OpenSpec.ofChange treePutsSpec)

/-- ITS FALSE NEIGHBOUR: 'it returns false'. Refute it at one input. -/
def treePutsWrong : ChangeSpec := { name := "treePuts", fn := fun _ => fun
  | [d1, d2, d3, d4, d5] => { results := [.lit (.bool false)], args := [d1, d2, d3, d4, d5] }
  | _ => none }
def TreePutsWrongFalsely : Prop := treePutsRow.holds Try.pinned (OpenSpec.ofChange treePutsWrong)

/-- 'mizzenlaw01.TreeSizes': WHATEVER THE INPUT: true; the input reads as it did. -/
def treeSizesSpec : ChangeSpec := { name := "treeSizes", fn := fun _ => fun
  | [d] => { results := [.lit (.bool true)], args := [d] }
  | _ => none }
def treeSizesRow : OpenClaim := { program := "ytmdihildjblgnaa", sum := "2b72d5410a6d1b826acce3cf8b14302850f8f66e2a220882b81709fccaa67d66", func := "mizzen/mizzenlaw01.TreeSizes", spec := "treeSizes", inPlace := ["internal/bytealg.abigen_runtime_cmpstring", "slices.overlaps[mizzen/api.Pair]"], unfollowed := true, recurses := true, loops := true, apart := false }
def TreeSizesSaid : Prop := treeSizesRow.holds Try.pinned (OpenSpec.ofChange treeSizesSpec)

/-- ITS FALSE NEIGHBOUR: 'it returns false'. Refute it at one input. -/
def treeSizesWrong : ChangeSpec := { name := "treeSizes", fn := fun _ => fun
  | [d] => { results := [.lit (.bool false)], args := [d] }
  | _ => none }
def TreeSizesWrongFalsely : Prop := treeSizesRow.holds Try.pinned (OpenSpec.ofChange treeSizesWrong)

/-- 'mizzenlaw01.TreeMaps': WHATEVER THE INPUT: true; the input reads as it did. -/
def treeMapsSpec : ChangeSpec := { name := "treeMaps", fn := fun _ => fun
  | [d1, d2, d3, d4] => { results := [.lit (.bool true)], args := [d1, d2, d3, d4] }
  | _ => none }
def treeMapsRow : OpenClaim := { program := "ytmdihildjblgnaa", sum := "2b72d5410a6d1b826acce3cf8b14302850f8f66e2a220882b81709fccaa67d66", func := "mizzen/mizzenlaw01.TreeMaps", spec := "treeMaps", inPlace := ["internal/bytealg.abigen_runtime_cmpstring", "slices.overlaps[mizzen/api.Pair]"], unfollowed := true, recurses := true, loops := true, apart := false }
def TreeMapsSaid : Prop := treeMapsRow.holds Try.pinned (OpenSpec.ofChange treeMapsSpec)

/-- ITS FALSE NEIGHBOUR: 'it returns false'. Refute it at one input. -/
def treeMapsWrong : ChangeSpec := { name := "treeMaps", fn := fun _ => fun
  | [d1, d2, d3, d4] => { results := [.lit (.bool false)], args := [d1, d2, d3, d4] }
  | _ => none }
def TreeMapsWrongFalsely : Prop := treeMapsRow.holds Try.pinned (OpenSpec.ofChange treeMapsWrong)

/-- 'mizzenlaw03.LayerLast': WHATEVER THE INPUT: true; the input reads as it did. -/
def layerLastSpec : ChangeSpec := { name := "layerLast", fn := fun _ => fun
  | [d1, d2, d3] => { results := [.lit (.bool true)], args := [d1, d2, d3] }
  | _ => none }
def layerLastRow : OpenClaim := { program := "ytmdihildjblgnaa", sum := "2b72d5410a6d1b826acce3cf8b14302850f8f66e2a220882b81709fccaa67d66", func := "mizzen/mizzenlaw03.LayerLast", spec := "layerLast", inPlace := ["internal/bytealg.abigen_runtime_cmpstring", "slices.overlaps[mizzen/api.Pair]"], unfollowed := true, recurses := true, loops := true, apart := false }
def LayerLastSaid : Prop := layerLastRow.holds Try.pinned (OpenSpec.ofChange layerLastSpec)

/-- ITS FALSE NEIGHBOUR: 'it returns false'. Refute it at one input. -/
def layerLastWrong : ChangeSpec := { name := "layerLast", fn := fun _ => fun
  | [d1, d2, d3] => { results := [.lit (.bool false)], args := [d1, d2, d3] }
  | _ => none }
def LayerLastWrongFalsely : Prop := layerLastRow.holds Try.pinned (OpenSpec.ofChange layerLastWrong)

/-- 'mizzenlaw01.TreeOrders': WHATEVER THE INPUT: true; the input reads as it did. -/
def treeOrdersSpec : ChangeSpec := { name := "treeOrders", fn := fun _ => fun
  | [d1, d2, d3] => { results := [.lit (.bool true)], args := [d1, d2, d3] }
  | _ => none }
def treeOrdersRow : OpenClaim := { program := "ytmdihildjblgnaa", sum := "2b72d5410a6d1b826acce3cf8b14302850f8f66e2a220882b81709fccaa67d66", func := "mizzen/mizzenlaw01.TreeOrders", spec := "treeOrders", inPlace := ["internal/bytealg.abigen_runtime_cmpstring", "slices.overlaps[mizzen/api.Pair]"], unfollowed := true, recurses := true, loops := true, apart := false }
def TreeOrdersSaid : Prop := treeOrdersRow.holds Try.pinned (OpenSpec.ofChange treeOrdersSpec)

/-- ITS FALSE NEIGHBOUR: 'it returns false'. Refute it at one input. -/
def treeOrdersWrong : ChangeSpec := { name := "treeOrders", fn := fun _ => fun
  | [d1, d2, d3] => { results := [.lit (.bool false)], args := [d1, d2, d3] }
  | _ => none }
def TreeOrdersWrongFalsely : Prop := treeOrdersRow.holds Try.pinned (OpenSpec.ofChange treeOrdersWrong)

/-- 'mizzenlaw01.TreeCompares': WHATEVER THE INPUT: true; the input reads as it did. -/
def treeComparesSpec : ChangeSpec := { name := "treeCompares", fn := fun _ => fun
  | [d1, d2] => { results := [.lit (.bool true)], args := [d1, d2] }
  | _ => none }
def treeComparesRow : OpenClaim := { program := "ytmdihildjblgnaa", sum := "2b72d5410a6d1b826acce3cf8b14302850f8f66e2a220882b81709fccaa67d66", func := "mizzen/mizzenlaw01.TreeCompares", spec := "treeCompares", inPlace := ["internal/bytealg.abigen_runtime_cmpstring", "slices.overlaps[mizzen/api.Pair]"], unfollowed := true, recurses := true, loops := true, apart := false }
def TreeComparesSaid : Prop := treeComparesRow.holds Try.pinned (OpenSpec.ofChange treeComparesSpec)

/-- ITS FALSE NEIGHBOUR: 'it returns false'. Refute it at one input. -/
def treeComparesWrong : ChangeSpec := { name := "treeCompares", fn := fun _ => fun
  | [d1, d2] => { results := [.lit (.bool false)], args := [d1, d2] }
  | _ => none }
def TreeComparesWrongFalsely : Prop := treeComparesRow.holds Try.pinned (OpenSpec.ofChange treeComparesWrong)

/-- 'mizzenlaw02.PathPlaces': WHATEVER THE INPUT: true; the input reads as it did. -/
def pathPlacesSpec : ChangeSpec := { name := "pathPlaces", fn := fun _ => fun
  | [d1, d2, d3] => { results := [.lit (.bool true)], args := [d1, d2, d3] }
  | _ => none }
def pathPlacesRow : OpenClaim := { program := "ytmdihildjblgnaa", sum := "2b72d5410a6d1b826acce3cf8b14302850f8f66e2a220882b81709fccaa67d66", func := "mizzen/mizzenlaw02.PathPlaces", spec := "pathPlaces", inPlace := ["internal/bytealg.abigen_runtime_cmpstring", "slices.overlaps[mizzen/api.Pair]"], unfollowed := true, recurses := true, loops := true, apart := false }
def PathPlacesSaid : Prop := pathPlacesRow.holds Try.pinned (OpenSpec.ofChange pathPlacesSpec)

/-- ITS FALSE NEIGHBOUR: 'it returns false'. Refute it at one input. -/
def pathPlacesWrong : ChangeSpec := { name := "pathPlaces", fn := fun _ => fun
  | [d1, d2, d3] => { results := [.lit (.bool false)], args := [d1, d2, d3] }
  | _ => none }
def PathPlacesWrongFalsely : Prop := pathPlacesRow.holds Try.pinned (OpenSpec.ofChange pathPlacesWrong)

/-- 'mizzenlaw14.MergeCuts': WHATEVER THE INPUT: true; the input reads as it did. -/
def mergeCutsSpec : ChangeSpec := { name := "mergeCuts", fn := fun _ => fun
  | [d1, d2] => { results := [.lit (.bool true)], args := [d1, d2] }
  | _ => none }
def mergeCutsRow : OpenClaim := { program := "ytmdihildjblgnaa", sum := "2b72d5410a6d1b826acce3cf8b14302850f8f66e2a220882b81709fccaa67d66", func := "mizzen/mizzenlaw14.MergeCuts", spec := "mergeCuts", inPlace := ["internal/bytealg.abigen_runtime_cmpstring", "slices.overlaps[mizzen/api.Pair]"], unfollowed := true, recurses := true, loops := true, apart := false }
def MergeCutsSaid : Prop := mergeCutsRow.holds Try.pinned (OpenSpec.ofChange mergeCutsSpec)

/-- ITS FALSE NEIGHBOUR: 'it returns false'. Refute it at one input. -/
def mergeCutsWrong : ChangeSpec := { name := "mergeCuts", fn := fun _ => fun
  | [d1, d2] => { results := [.lit (.bool false)], args := [d1, d2] }
  | _ => none }
def MergeCutsWrongFalsely : Prop := mergeCutsRow.holds Try.pinned (OpenSpec.ofChange mergeCutsWrong)

/-- 'mizzenlaw02.PathLeaves': WHATEVER THE INPUT: true; the input reads as it did. -/
def pathLeavesSpec : ChangeSpec := { name := "pathLeaves", fn := fun _ => fun
  | [d1, d2] => { results := [.lit (.bool true)], args := [d1, d2] }
  | _ => none }
def pathLeavesRow : OpenClaim := { program := "ytmdihildjblgnaa", sum := "2b72d5410a6d1b826acce3cf8b14302850f8f66e2a220882b81709fccaa67d66", func := "mizzen/mizzenlaw02.PathLeaves", spec := "pathLeaves", inPlace := ["internal/bytealg.abigen_runtime_cmpstring", "slices.overlaps[mizzen/api.Pair]"], unfollowed := true, recurses := true, loops := true, apart := false }
def PathLeavesSaid : Prop := pathLeavesRow.holds Try.pinned (OpenSpec.ofChange pathLeavesSpec)

/-- ITS FALSE NEIGHBOUR: 'it returns false'. Refute it at one input. -/
def pathLeavesWrong : ChangeSpec := { name := "pathLeaves", fn := fun _ => fun
  | [d1, d2] => { results := [.lit (.bool false)], args := [d1, d2] }
  | _ => none }
def PathLeavesWrongFalsely : Prop := pathLeavesRow.holds Try.pinned (OpenSpec.ofChange pathLeavesWrong)

/-- 'mizzenlaw02.PathDrops': WHATEVER THE INPUT: true; the input reads as it did. -/
def pathDropsSpec : ChangeSpec := { name := "pathDrops", fn := fun _ => fun
  | [d1, d2] => { results := [.lit (.bool true)], args := [d1, d2] }
  | _ => none }
def pathDropsRow : OpenClaim := { program := "ytmdihildjblgnaa", sum := "2b72d5410a6d1b826acce3cf8b14302850f8f66e2a220882b81709fccaa67d66", func := "mizzen/mizzenlaw02.PathDrops", spec := "pathDrops", inPlace := ["internal/bytealg.abigen_runtime_cmpstring", "slices.overlaps[mizzen/api.Pair]"], unfollowed := true, recurses := true, loops := true, apart := false }
def PathDropsSaid : Prop := pathDropsRow.holds Try.pinned (OpenSpec.ofChange pathDropsSpec)

/-- ITS FALSE NEIGHBOUR: 'it returns false'. Refute it at one input. -/
def pathDropsWrong : ChangeSpec := { name := "pathDrops", fn := fun _ => fun
  | [d1, d2] => { results := [.lit (.bool false)], args := [d1, d2] }
  | _ => none }
def PathDropsWrongFalsely : Prop := pathDropsRow.holds Try.pinned (OpenSpec.ofChange pathDropsWrong)

/-- 'mizzenlaw02.PathWays': WHATEVER THE INPUT: true; the input reads as it did. -/
def pathWaysSpec : ChangeSpec := { name := "pathWays", fn := fun _ => fun
  | [d1, d2, d3] => { results := [.lit (.bool true)], args := [d1, d2, d3] }
  | _ => none }
def pathWaysRow : OpenClaim := { program := "ytmdihildjblgnaa", sum := "2b72d5410a6d1b826acce3cf8b14302850f8f66e2a220882b81709fccaa67d66", func := "mizzen/mizzenlaw02.PathWays", spec := "pathWays", inPlace := ["internal/bytealg.abigen_runtime_cmpstring", "slices.overlaps[mizzen/api.Pair]"], unfollowed := true, recurses := true, loops := true, apart := false }
def PathWaysSaid : Prop := pathWaysRow.holds Try.pinned (OpenSpec.ofChange pathWaysSpec)

/-- ITS FALSE NEIGHBOUR: 'it returns false'. Refute it at one input. -/
def pathWaysWrong : ChangeSpec := { name := "pathWays", fn := fun _ => fun
  | [d1, d2, d3] => { results := [.lit (.bool false)], args := [d1, d2, d3] }
  | _ => none }
def PathWaysWrongFalsely : Prop := pathWaysRow.holds Try.pinned (OpenSpec.ofChange pathWaysWrong)

/-- 'mizzenlaw02.PathAll': WHATEVER THE INPUT: true; the input reads as it did. -/
def pathAllSpec : ChangeSpec := { name := "pathAll", fn := fun _ => fun
  | [d1, d2] => { results := [.lit (.bool true)], args := [d1, d2] }
  | _ => none }
def pathAllRow : OpenClaim := { program := "ytmdihildjblgnaa", sum := "2b72d5410a6d1b826acce3cf8b14302850f8f66e2a220882b81709fccaa67d66", func := "mizzen/mizzenlaw02.PathAll", spec := "pathAll", inPlace := ["internal/bytealg.abigen_runtime_cmpstring", "slices.overlaps[mizzen/api.Pair]"], unfollowed := true, recurses := true, loops := true, apart := false }
def PathAllSaid : Prop := pathAllRow.holds Try.pinned (OpenSpec.ofChange pathAllSpec)

/-- ITS FALSE NEIGHBOUR: 'it returns false'. Refute it at one input. -/
def pathAllWrong : ChangeSpec := { name := "pathAll", fn := fun _ => fun
  | [d1, d2] => { results := [.lit (.bool false)], args := [d1, d2] }
  | _ => none }
def PathAllWrongFalsely : Prop := pathAllRow.holds Try.pinned (OpenSpec.ofChange pathAllWrong)

/-- 'mizzenlaw03.LayerEmpty': WHATEVER THE INPUT: true; the input reads as it did. -/
def layerEmptySpec : ChangeSpec := { name := "layerEmpty", fn := fun _ => fun
  | [d1, d2] => { results := [.lit (.bool true)], args := [d1, d2] }
  | _ => none }
def layerEmptyRow : OpenClaim := { program := "ytmdihildjblgnaa", sum := "2b72d5410a6d1b826acce3cf8b14302850f8f66e2a220882b81709fccaa67d66", func := "mizzen/mizzenlaw03.LayerEmpty", spec := "layerEmpty", inPlace := ["internal/bytealg.abigen_runtime_cmpstring", "slices.overlaps[mizzen/api.Pair]"], unfollowed := true, recurses := true, loops := true, apart := false }
def LayerEmptySaid : Prop := layerEmptyRow.holds Try.pinned (OpenSpec.ofChange layerEmptySpec)

/-- ITS FALSE NEIGHBOUR: 'it returns false'. Refute it at one input. -/
def layerEmptyWrong : ChangeSpec := { name := "layerEmpty", fn := fun _ => fun
  | [d1, d2] => { results := [.lit (.bool false)], args := [d1, d2] }
  | _ => none }
def LayerEmptyWrongFalsely : Prop := layerEmptyRow.holds Try.pinned (OpenSpec.ofChange layerEmptyWrong)

/-- 'mizzenlaw03.LayerDiffs': WHATEVER THE INPUT: true; the input reads as it did. -/
def layerDiffsSpec : ChangeSpec := { name := "layerDiffs", fn := fun _ => fun
  | [d1, d2] => { results := [.lit (.bool true)], args := [d1, d2] }
  | _ => none }
def layerDiffsRow : OpenClaim := { program := "ytmdihildjblgnaa", sum := "2b72d5410a6d1b826acce3cf8b14302850f8f66e2a220882b81709fccaa67d66", func := "mizzen/mizzenlaw03.LayerDiffs", spec := "layerDiffs", inPlace := ["internal/bytealg.abigen_runtime_cmpstring", "slices.overlaps[mizzen/api.Pair]"], unfollowed := true, recurses := true, loops := true, apart := false }
def LayerDiffsSaid : Prop := layerDiffsRow.holds Try.pinned (OpenSpec.ofChange layerDiffsSpec)

/-- ITS FALSE NEIGHBOUR: 'it returns false'. Refute it at one input. -/
def layerDiffsWrong : ChangeSpec := { name := "layerDiffs", fn := fun _ => fun
  | [d1, d2] => { results := [.lit (.bool false)], args := [d1, d2] }
  | _ => none }
def LayerDiffsWrongFalsely : Prop := layerDiffsRow.holds Try.pinned (OpenSpec.ofChange layerDiffsWrong)

/-- 'mizzenlaw03.LayerMisses': WHATEVER THE INPUT: true; the input reads as it did. -/
def layerMissesSpec : ChangeSpec := { name := "layerMisses", fn := fun _ => fun
  | [d1, d2, d3] => { results := [.lit (.bool true)], args := [d1, d2, d3] }
  | _ => none }
def layerMissesRow : OpenClaim := { program := "ytmdihildjblgnaa", sum := "2b72d5410a6d1b826acce3cf8b14302850f8f66e2a220882b81709fccaa67d66", func := "mizzen/mizzenlaw03.LayerMisses", spec := "layerMisses", inPlace := ["internal/bytealg.abigen_runtime_cmpstring", "slices.overlaps[mizzen/api.Pair]"], unfollowed := true, recurses := true, loops := true, apart := false }
def LayerMissesSaid : Prop := layerMissesRow.holds Try.pinned (OpenSpec.ofChange layerMissesSpec)

/-- ITS FALSE NEIGHBOUR: 'it returns false'. Refute it at one input. -/
def layerMissesWrong : ChangeSpec := { name := "layerMisses", fn := fun _ => fun
  | [d1, d2, d3] => { results := [.lit (.bool false)], args := [d1, d2, d3] }
  | _ => none }
def LayerMissesWrongFalsely : Prop := layerMissesRow.holds Try.pinned (OpenSpec.ofChange layerMissesWrong)

/-- 'mizzenlaw03.LayerOvers': WHATEVER THE INPUT: true; the input reads as it did. -/
def layerOversSpec : ChangeSpec := { name := "layerOvers", fn := fun _ => fun
  | [d1, d2, d3] => { results := [.lit (.bool true)], args := [d1, d2, d3] }
  | _ => none }
def layerOversRow : OpenClaim := { program := "ytmdihildjblgnaa", sum := "2b72d5410a6d1b826acce3cf8b14302850f8f66e2a220882b81709fccaa67d66", func := "mizzen/mizzenlaw03.LayerOvers", spec := "layerOvers", inPlace := ["internal/bytealg.abigen_runtime_cmpstring", "slices.overlaps[mizzen/api.Pair]"], unfollowed := true, recurses := true, loops := true, apart := false }
def LayerOversSaid : Prop := layerOversRow.holds Try.pinned (OpenSpec.ofChange layerOversSpec)

/-- ITS FALSE NEIGHBOUR: 'it returns false'. Refute it at one input. -/
def layerOversWrong : ChangeSpec := { name := "layerOvers", fn := fun _ => fun
  | [d1, d2, d3] => { results := [.lit (.bool false)], args := [d1, d2, d3] }
  | _ => none }
def LayerOversWrongFalsely : Prop := layerOversRow.holds Try.pinned (OpenSpec.ofChange layerOversWrong)

/-- 'mizzenlaw01.TreeChecks': WHATEVER THE INPUT: true; the input reads as it did. -/
def treeChecksSpec : ChangeSpec := { name := "treeChecks", fn := fun _ => fun
  | [d1, d2] => { results := [.lit (.bool true)], args := [d1, d2] }
  | _ => none }
def treeChecksRow : OpenClaim := { program := "ytmdihildjblgnaa", sum := "2b72d5410a6d1b826acce3cf8b14302850f8f66e2a220882b81709fccaa67d66", func := "mizzen/mizzenlaw01.TreeChecks", spec := "treeChecks", inPlace := ["internal/bytealg.abigen_runtime_cmpstring", "slices.overlaps[mizzen/api.Pair]", "internal/bytealg.IndexByteString", "internal/bytealg.IndexString"], unfollowed := true, recurses := true, named := ["internal/bytealg.MaxLen"], loops := true, apart := false }
def TreeChecksSaid : Prop := treeChecksRow.holds Try.pinned (OpenSpec.ofChange treeChecksSpec)

/-- ITS FALSE NEIGHBOUR: 'it returns false'. Refute it at one input. -/
def treeChecksWrong : ChangeSpec := { name := "treeChecks", fn := fun _ => fun
  | [d1, d2] => { results := [.lit (.bool false)], args := [d1, d2] }
  | _ => none }
def TreeChecksWrongFalsely : Prop := treeChecksRow.holds Try.pinned (OpenSpec.ofChange treeChecksWrong)

/-- 'mizzenlaw01.TreeMakes': WHATEVER THE INPUT: true; the input reads as it did. -/
def treeMakesSpec : ChangeSpec := { name := "treeMakes", fn := fun _ => fun
  | [d1, d2, d3] => { results := [.lit (.bool true)], args := [d1, d2, d3] }
  | _ => none }
def treeMakesRow : OpenClaim := { program := "ytmdihildjblgnaa", sum := "2b72d5410a6d1b826acce3cf8b14302850f8f66e2a220882b81709fccaa67d66", func := "mizzen/mizzenlaw01.TreeMakes", spec := "treeMakes", inPlace := ["internal/bytealg.abigen_runtime_cmpstring", "slices.overlaps[mizzen/api.Pair]", "internal/bytealg.IndexByteString", "internal/bytealg.IndexString"], unfollowed := true, recurses := true, named := ["internal/bytealg.MaxLen"], apart := false }
def TreeMakesSaid : Prop := treeMakesRow.holds Try.pinned (OpenSpec.ofChange treeMakesSpec)

/-- ITS FALSE NEIGHBOUR: 'it returns false'. Refute it at one input. -/
def treeMakesWrong : ChangeSpec := { name := "treeMakes", fn := fun _ => fun
  | [d1, d2, d3] => { results := [.lit (.bool false)], args := [d1, d2, d3] }
  | _ => none }
def TreeMakesWrongFalsely : Prop := treeMakesRow.holds Try.pinned (OpenSpec.ofChange treeMakesWrong)

/-- 'mizzenlaw14.MergeThree': WHATEVER THE INPUT: true; the input reads as it did. -/
def mergeThreeSpec : ChangeSpec := { name := "mergeThree", fn := fun _ => fun
  | [d1, d2, d3] => { results := [.lit (.bool true)], args := [d1, d2, d3] }
  | _ => none }
def mergeThreeRow : OpenClaim := { program := "ytmdihildjblgnaa", sum := "2b72d5410a6d1b826acce3cf8b14302850f8f66e2a220882b81709fccaa67d66", func := "mizzen/mizzenlaw14.MergeThree", spec := "mergeThree", inPlace := ["internal/bytealg.abigen_runtime_cmpstring", "slices.overlaps[mizzen/api.Pair]"], unfollowed := true, recurses := true, loops := true, apart := false }
def MergeThreeSaid : Prop := mergeThreeRow.holds Try.pinned (OpenSpec.ofChange mergeThreeSpec)

/-- ITS FALSE NEIGHBOUR: 'it returns false'. Refute it at one input. -/
def mergeThreeWrong : ChangeSpec := { name := "mergeThree", fn := fun _ => fun
  | [d1, d2, d3] => { results := [.lit (.bool false)], args := [d1, d2, d3] }
  | _ => none }
def MergeThreeWrongFalsely : Prop := mergeThreeRow.holds Try.pinned (OpenSpec.ofChange mergeThreeWrong)

/- THE SECOND FORM. 'bulk': how many values and letters a reading holds, each counted each time it is reached (what is shared counts as often as it is met; a slice's spare places count too). A statement '..UptoSaid' is the law's where the arguments, and the package variables that the reading takes, are together of bulk at most 1048576: NARROWER than '..Said'. Prove '..Said' where nothing that the law and all that it calls make is longer than what came in: it says more and counts as full. Else prove '..UptoSaid'. A law counts once. -/
mutual
def uptoBulk {H : Type} : DataW H → Nat
  | .lit (.string bytes) => bytes.length + 1
  | .lit _ => 1
  | .nil => 1
  | .ptr d => uptoBulk d + 1
  | .slice elems spare => uptoBulkAll elems + uptoBulkAll spare + 1
  | .agg parts => uptoBulkAll parts + 1
  | .iface _ d => uptoBulk d + 1
  | .map entries => uptoBulkEntries entries + 1
  | .held _ => 1
def uptoBulkAll {H : Type} : List (DataW H) → Nat
  | [] => 0
  | d :: r => uptoBulk d + uptoBulkAll r
def uptoBulkEntries {H : Type} : List (Lit × DataW H) → Nat
  | [] => 0
  | x :: r => uptoBulkEntry x + uptoBulkEntries r
def uptoBulkEntry {H : Type} : Lit × DataW H → Nat
  | (.string bytes, d) => bytes.length + uptoBulk d + 1
  | (_, d) => uptoBulk d + 1
 end
def uptoSmall : (H : Type) → List (DataW H) → Bool := fun _ ds => decide (uptoBulkAll ds ≤ 1048576)
def OpenSpec.upto (s : _root_.Go.ChangeSpec) : _root_.Go.OpenSpec := { _root_.Go.OpenSpec.ofChange s with cond := some uptoSmall }

/-- 'mizzenlaw01.TreePuts', WHERE WHAT IT READS IS OF BULK AT MOST 1048576: true; the input reads as it did. -/
def treePutsUptoRow : OpenClaim := { program := "ytmdihildjblgnaa", sum := "2b72d5410a6d1b826acce3cf8b14302850f8f66e2a220882b81709fccaa67d66", func := "mizzen/mizzenlaw01.TreePuts", spec := "treePuts", inPlace := ["internal/bytealg.abigen_runtime_cmpstring", "slices.overlaps[mizzen/api.Pair]"], unfollowed := true, recurses := true, loops := true, apart := false, narrowed := true }
def TreePutsUptoSaid : Prop := treePutsUptoRow.holds Try.pinned (OpenSpec.upto treePutsSpec)

/-- 'mizzenlaw01.TreeSizes', WHERE WHAT IT READS IS OF BULK AT MOST 1048576: true; the input reads as it did. -/
def treeSizesUptoRow : OpenClaim := { program := "ytmdihildjblgnaa", sum := "2b72d5410a6d1b826acce3cf8b14302850f8f66e2a220882b81709fccaa67d66", func := "mizzen/mizzenlaw01.TreeSizes", spec := "treeSizes", inPlace := ["internal/bytealg.abigen_runtime_cmpstring", "slices.overlaps[mizzen/api.Pair]"], unfollowed := true, recurses := true, loops := true, apart := false, narrowed := true }
def TreeSizesUptoSaid : Prop := treeSizesUptoRow.holds Try.pinned (OpenSpec.upto treeSizesSpec)

/-- 'mizzenlaw01.TreeMaps', WHERE WHAT IT READS IS OF BULK AT MOST 1048576: true; the input reads as it did. -/
def treeMapsUptoRow : OpenClaim := { program := "ytmdihildjblgnaa", sum := "2b72d5410a6d1b826acce3cf8b14302850f8f66e2a220882b81709fccaa67d66", func := "mizzen/mizzenlaw01.TreeMaps", spec := "treeMaps", inPlace := ["internal/bytealg.abigen_runtime_cmpstring", "slices.overlaps[mizzen/api.Pair]"], unfollowed := true, recurses := true, loops := true, apart := false, narrowed := true }
def TreeMapsUptoSaid : Prop := treeMapsUptoRow.holds Try.pinned (OpenSpec.upto treeMapsSpec)

/-- 'mizzenlaw03.LayerLast', WHERE WHAT IT READS IS OF BULK AT MOST 1048576: true; the input reads as it did. -/
def layerLastUptoRow : OpenClaim := { program := "ytmdihildjblgnaa", sum := "2b72d5410a6d1b826acce3cf8b14302850f8f66e2a220882b81709fccaa67d66", func := "mizzen/mizzenlaw03.LayerLast", spec := "layerLast", inPlace := ["internal/bytealg.abigen_runtime_cmpstring", "slices.overlaps[mizzen/api.Pair]"], unfollowed := true, recurses := true, loops := true, apart := false, narrowed := true }
def LayerLastUptoSaid : Prop := layerLastUptoRow.holds Try.pinned (OpenSpec.upto layerLastSpec)

/-- 'mizzenlaw01.TreeOrders', WHERE WHAT IT READS IS OF BULK AT MOST 1048576: true; the input reads as it did. -/
def treeOrdersUptoRow : OpenClaim := { program := "ytmdihildjblgnaa", sum := "2b72d5410a6d1b826acce3cf8b14302850f8f66e2a220882b81709fccaa67d66", func := "mizzen/mizzenlaw01.TreeOrders", spec := "treeOrders", inPlace := ["internal/bytealg.abigen_runtime_cmpstring", "slices.overlaps[mizzen/api.Pair]"], unfollowed := true, recurses := true, loops := true, apart := false, narrowed := true }
def TreeOrdersUptoSaid : Prop := treeOrdersUptoRow.holds Try.pinned (OpenSpec.upto treeOrdersSpec)

/-- 'mizzenlaw01.TreeCompares', WHERE WHAT IT READS IS OF BULK AT MOST 1048576: true; the input reads as it did. -/
def treeComparesUptoRow : OpenClaim := { program := "ytmdihildjblgnaa", sum := "2b72d5410a6d1b826acce3cf8b14302850f8f66e2a220882b81709fccaa67d66", func := "mizzen/mizzenlaw01.TreeCompares", spec := "treeCompares", inPlace := ["internal/bytealg.abigen_runtime_cmpstring", "slices.overlaps[mizzen/api.Pair]"], unfollowed := true, recurses := true, loops := true, apart := false, narrowed := true }
def TreeComparesUptoSaid : Prop := treeComparesUptoRow.holds Try.pinned (OpenSpec.upto treeComparesSpec)

/-- 'mizzenlaw02.PathPlaces', WHERE WHAT IT READS IS OF BULK AT MOST 1048576: true; the input reads as it did. -/
def pathPlacesUptoRow : OpenClaim := { program := "ytmdihildjblgnaa", sum := "2b72d5410a6d1b826acce3cf8b14302850f8f66e2a220882b81709fccaa67d66", func := "mizzen/mizzenlaw02.PathPlaces", spec := "pathPlaces", inPlace := ["internal/bytealg.abigen_runtime_cmpstring", "slices.overlaps[mizzen/api.Pair]"], unfollowed := true, recurses := true, loops := true, apart := false, narrowed := true }
def PathPlacesUptoSaid : Prop := pathPlacesUptoRow.holds Try.pinned (OpenSpec.upto pathPlacesSpec)

/-- 'mizzenlaw14.MergeCuts', WHERE WHAT IT READS IS OF BULK AT MOST 1048576: true; the input reads as it did. -/
def mergeCutsUptoRow : OpenClaim := { program := "ytmdihildjblgnaa", sum := "2b72d5410a6d1b826acce3cf8b14302850f8f66e2a220882b81709fccaa67d66", func := "mizzen/mizzenlaw14.MergeCuts", spec := "mergeCuts", inPlace := ["internal/bytealg.abigen_runtime_cmpstring", "slices.overlaps[mizzen/api.Pair]"], unfollowed := true, recurses := true, loops := true, apart := false, narrowed := true }
def MergeCutsUptoSaid : Prop := mergeCutsUptoRow.holds Try.pinned (OpenSpec.upto mergeCutsSpec)

/-- 'mizzenlaw02.PathLeaves', WHERE WHAT IT READS IS OF BULK AT MOST 1048576: true; the input reads as it did. -/
def pathLeavesUptoRow : OpenClaim := { program := "ytmdihildjblgnaa", sum := "2b72d5410a6d1b826acce3cf8b14302850f8f66e2a220882b81709fccaa67d66", func := "mizzen/mizzenlaw02.PathLeaves", spec := "pathLeaves", inPlace := ["internal/bytealg.abigen_runtime_cmpstring", "slices.overlaps[mizzen/api.Pair]"], unfollowed := true, recurses := true, loops := true, apart := false, narrowed := true }
def PathLeavesUptoSaid : Prop := pathLeavesUptoRow.holds Try.pinned (OpenSpec.upto pathLeavesSpec)

/-- 'mizzenlaw02.PathDrops', WHERE WHAT IT READS IS OF BULK AT MOST 1048576: true; the input reads as it did. -/
def pathDropsUptoRow : OpenClaim := { program := "ytmdihildjblgnaa", sum := "2b72d5410a6d1b826acce3cf8b14302850f8f66e2a220882b81709fccaa67d66", func := "mizzen/mizzenlaw02.PathDrops", spec := "pathDrops", inPlace := ["internal/bytealg.abigen_runtime_cmpstring", "slices.overlaps[mizzen/api.Pair]"], unfollowed := true, recurses := true, loops := true, apart := false, narrowed := true }
def PathDropsUptoSaid : Prop := pathDropsUptoRow.holds Try.pinned (OpenSpec.upto pathDropsSpec)

/-- 'mizzenlaw02.PathWays', WHERE WHAT IT READS IS OF BULK AT MOST 1048576: true; the input reads as it did. -/
def pathWaysUptoRow : OpenClaim := { program := "ytmdihildjblgnaa", sum := "2b72d5410a6d1b826acce3cf8b14302850f8f66e2a220882b81709fccaa67d66", func := "mizzen/mizzenlaw02.PathWays", spec := "pathWays", inPlace := ["internal/bytealg.abigen_runtime_cmpstring", "slices.overlaps[mizzen/api.Pair]"], unfollowed := true, recurses := true, loops := true, apart := false, narrowed := true }
def PathWaysUptoSaid : Prop := pathWaysUptoRow.holds Try.pinned (OpenSpec.upto pathWaysSpec)

/-- 'mizzenlaw02.PathAll', WHERE WHAT IT READS IS OF BULK AT MOST 1048576: true; the input reads as it did. -/
def pathAllUptoRow : OpenClaim := { program := "ytmdihildjblgnaa", sum := "2b72d5410a6d1b826acce3cf8b14302850f8f66e2a220882b81709fccaa67d66", func := "mizzen/mizzenlaw02.PathAll", spec := "pathAll", inPlace := ["internal/bytealg.abigen_runtime_cmpstring", "slices.overlaps[mizzen/api.Pair]"], unfollowed := true, recurses := true, loops := true, apart := false, narrowed := true }
def PathAllUptoSaid : Prop := pathAllUptoRow.holds Try.pinned (OpenSpec.upto pathAllSpec)

/-- 'mizzenlaw03.LayerEmpty', WHERE WHAT IT READS IS OF BULK AT MOST 1048576: true; the input reads as it did. -/
def layerEmptyUptoRow : OpenClaim := { program := "ytmdihildjblgnaa", sum := "2b72d5410a6d1b826acce3cf8b14302850f8f66e2a220882b81709fccaa67d66", func := "mizzen/mizzenlaw03.LayerEmpty", spec := "layerEmpty", inPlace := ["internal/bytealg.abigen_runtime_cmpstring", "slices.overlaps[mizzen/api.Pair]"], unfollowed := true, recurses := true, loops := true, apart := false, narrowed := true }
def LayerEmptyUptoSaid : Prop := layerEmptyUptoRow.holds Try.pinned (OpenSpec.upto layerEmptySpec)

/-- 'mizzenlaw03.LayerDiffs', WHERE WHAT IT READS IS OF BULK AT MOST 1048576: true; the input reads as it did. -/
def layerDiffsUptoRow : OpenClaim := { program := "ytmdihildjblgnaa", sum := "2b72d5410a6d1b826acce3cf8b14302850f8f66e2a220882b81709fccaa67d66", func := "mizzen/mizzenlaw03.LayerDiffs", spec := "layerDiffs", inPlace := ["internal/bytealg.abigen_runtime_cmpstring", "slices.overlaps[mizzen/api.Pair]"], unfollowed := true, recurses := true, loops := true, apart := false, narrowed := true }
def LayerDiffsUptoSaid : Prop := layerDiffsUptoRow.holds Try.pinned (OpenSpec.upto layerDiffsSpec)

/-- 'mizzenlaw03.LayerMisses', WHERE WHAT IT READS IS OF BULK AT MOST 1048576: true; the input reads as it did. -/
def layerMissesUptoRow : OpenClaim := { program := "ytmdihildjblgnaa", sum := "2b72d5410a6d1b826acce3cf8b14302850f8f66e2a220882b81709fccaa67d66", func := "mizzen/mizzenlaw03.LayerMisses", spec := "layerMisses", inPlace := ["internal/bytealg.abigen_runtime_cmpstring", "slices.overlaps[mizzen/api.Pair]"], unfollowed := true, recurses := true, loops := true, apart := false, narrowed := true }
def LayerMissesUptoSaid : Prop := layerMissesUptoRow.holds Try.pinned (OpenSpec.upto layerMissesSpec)

/-- 'mizzenlaw03.LayerOvers', WHERE WHAT IT READS IS OF BULK AT MOST 1048576: true; the input reads as it did. -/
def layerOversUptoRow : OpenClaim := { program := "ytmdihildjblgnaa", sum := "2b72d5410a6d1b826acce3cf8b14302850f8f66e2a220882b81709fccaa67d66", func := "mizzen/mizzenlaw03.LayerOvers", spec := "layerOvers", inPlace := ["internal/bytealg.abigen_runtime_cmpstring", "slices.overlaps[mizzen/api.Pair]"], unfollowed := true, recurses := true, loops := true, apart := false, narrowed := true }
def LayerOversUptoSaid : Prop := layerOversUptoRow.holds Try.pinned (OpenSpec.upto layerOversSpec)

/-- 'mizzenlaw01.TreeChecks', WHERE WHAT IT READS IS OF BULK AT MOST 1048576: true; the input reads as it did. -/
def treeChecksUptoRow : OpenClaim := { program := "ytmdihildjblgnaa", sum := "2b72d5410a6d1b826acce3cf8b14302850f8f66e2a220882b81709fccaa67d66", func := "mizzen/mizzenlaw01.TreeChecks", spec := "treeChecks", inPlace := ["internal/bytealg.abigen_runtime_cmpstring", "slices.overlaps[mizzen/api.Pair]", "internal/bytealg.IndexByteString", "internal/bytealg.IndexString"], unfollowed := true, recurses := true, named := ["internal/bytealg.MaxLen"], loops := true, apart := false, narrowed := true }
def TreeChecksUptoSaid : Prop := treeChecksUptoRow.holds Try.pinned (OpenSpec.upto treeChecksSpec)

/-- 'mizzenlaw01.TreeMakes', WHERE WHAT IT READS IS OF BULK AT MOST 1048576: true; the input reads as it did. -/
def treeMakesUptoRow : OpenClaim := { program := "ytmdihildjblgnaa", sum := "2b72d5410a6d1b826acce3cf8b14302850f8f66e2a220882b81709fccaa67d66", func := "mizzen/mizzenlaw01.TreeMakes", spec := "treeMakes", inPlace := ["internal/bytealg.abigen_runtime_cmpstring", "slices.overlaps[mizzen/api.Pair]", "internal/bytealg.IndexByteString", "internal/bytealg.IndexString"], unfollowed := true, recurses := true, named := ["internal/bytealg.MaxLen"], apart := false, narrowed := true }
def TreeMakesUptoSaid : Prop := treeMakesUptoRow.holds Try.pinned (OpenSpec.upto treeMakesSpec)

/-- 'mizzenlaw14.MergeThree', WHERE WHAT IT READS IS OF BULK AT MOST 1048576: true; the input reads as it did. -/
def mergeThreeUptoRow : OpenClaim := { program := "ytmdihildjblgnaa", sum := "2b72d5410a6d1b826acce3cf8b14302850f8f66e2a220882b81709fccaa67d66", func := "mizzen/mizzenlaw14.MergeThree", spec := "mergeThree", inPlace := ["internal/bytealg.abigen_runtime_cmpstring", "slices.overlaps[mizzen/api.Pair]"], unfollowed := true, recurses := true, loops := true, apart := false, narrowed := true }
def MergeThreeUptoSaid : Prop := mergeThreeUptoRow.holds Try.pinned (OpenSpec.upto mergeThreeSpec)

end Rows
end Go.Proofs.Ytmdihildjblgnaa
