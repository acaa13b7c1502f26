/-
  NARROWER THAN 'FOR EVERY INPUT', by the rows' own cells (each row's printed sentence says how): SchemaLeaves: loops, laid · SchemaValues: loops, laid · EvolveUpgrades: loops, laid · EvolveNames: laid · EvolveCompatible: loops, laid · EvolveLossless: loops, laid · EvolveSame: loops, laid · EvolveDrops: loops, laid · EvolveWitness: loops, laid.
  DERIVED. THE GIVEN ROWS OF THIS SEAT. 9 by the template 'for every input the law returns true; each argument reads behind the call as it read before'; 0 by the template 'total and deterministic' (their statements: YtgpmlelfkjfbiaaGreatDoorTotals.lean).
  GIVEN WITH THE SEED: the statements are not yours to turn. If you find one false, say at which input.
  Laid BY PROGRAM, IN A SANDBOX (cutbox-rows.mjs): the forced cells as the released guide's own fill.sh prints them over the translation af43358e24376762… (all of the seat's roots in one cut). By AI agents, Wed Nov 11 2026. No macro, syntax, notation, axiom, sorry.
-/
import Derived.Test.YtgpmlelfkjfbiaaGreatDoorChecked
import GoSem.PinnedTables
import GoSem.Claim
import GoSem.ClaimJoined
import GoSem.ClaimMapViews
import Derived.JoinedTies
import Derived.KernelRfl
namespace Go.Proofs.YtgpmlelfkjfbiaaGreatDoor
/- THE CELL 'sum', in the pinned program and in every row, IS THE sha256 OF THE DUMP (.gsa) THAT YtgpmlelfkjfbiaaGreatDoorProg.lean LOADS. Nothing in Lean hashes anything: it is a label: what it is worth is what the hold of that sum in a sandbox is worth. -/
noncomputable def Tryz.pinned : Pinned := { name := "ytgpmlelfkjfbiaagreatdoor", sum := "af43358e243767629c348c5ad5c440943807fdc0fe80e69ff05c0bfa5edccef5", checked := Tryz.checked }
namespace Rows
def none {H : Type} : Left H := { results := [], args := [] }

/- WHAT THE LISTED PACKAGE-LEVEL VARIABLES READ AS WHEN THE CALL BEGINS. Each datum BY PROGRAM (the guide's laid-datum.mjs) off the statement by which the dump's own 'gosem.cut.vars' lays the variable. In a bare row this is a premise. The card (YtgpmlelfkjfbiaaGreatDoorCards.lean) ties it to the program's text. -/
def laid_math_bits_deBruijn32tab {H : Type} : DataW H := .agg [.lit (.int .u8 0), .lit (.int .u8 1), .lit (.int .u8 28), .lit (.int .u8 2), .lit (.int .u8 29), .lit (.int .u8 14), .lit (.int .u8 24), .lit (.int .u8 3), .lit (.int .u8 30), .lit (.int .u8 22), .lit (.int .u8 20), .lit (.int .u8 15), .lit (.int .u8 25), .lit (.int .u8 17), .lit (.int .u8 4), .lit (.int .u8 8), .lit (.int .u8 31), .lit (.int .u8 27), .lit (.int .u8 13), .lit (.int .u8 23), .lit (.int .u8 21), .lit (.int .u8 19), .lit (.int .u8 16), .lit (.int .u8 7), .lit (.int .u8 26), .lit (.int .u8 12), .lit (.int .u8 18), .lit (.int .u8 6), .lit (.int .u8 11), .lit (.int .u8 5), .lit (.int .u8 10), .lit (.int .u8 9)]
def laid_math_bits_deBruijn64tab {H : Type} : DataW H := .agg [.lit (.int .u8 0), .lit (.int .u8 1), .lit (.int .u8 56), .lit (.int .u8 2), .lit (.int .u8 57), .lit (.int .u8 49), .lit (.int .u8 28), .lit (.int .u8 3), .lit (.int .u8 61), .lit (.int .u8 58), .lit (.int .u8 42), .lit (.int .u8 50), .lit (.int .u8 38), .lit (.int .u8 29), .lit (.int .u8 17), .lit (.int .u8 4), .lit (.int .u8 62), .lit (.int .u8 47), .lit (.int .u8 59), .lit (.int .u8 36), .lit (.int .u8 45), .lit (.int .u8 43), .lit (.int .u8 51), .lit (.int .u8 22), .lit (.int .u8 53), .lit (.int .u8 39), .lit (.int .u8 33), .lit (.int .u8 30), .lit (.int .u8 24), .lit (.int .u8 18), .lit (.int .u8 12), .lit (.int .u8 5), .lit (.int .u8 63), .lit (.int .u8 55), .lit (.int .u8 48), .lit (.int .u8 27), .lit (.int .u8 60), .lit (.int .u8 41), .lit (.int .u8 37), .lit (.int .u8 16), .lit (.int .u8 46), .lit (.int .u8 35), .lit (.int .u8 44), .lit (.int .u8 21), .lit (.int .u8 52), .lit (.int .u8 32), .lit (.int .u8 23), .lit (.int .u8 11), .lit (.int .u8 54), .lit (.int .u8 26), .lit (.int .u8 40), .lit (.int .u8 15), .lit (.int .u8 34), .lit (.int .u8 20), .lit (.int .u8 31), .lit (.int .u8 10), .lit (.int .u8 25), .lit (.int .u8 14), .lit (.int .u8 19), .lit (.int .u8 9), .lit (.int .u8 13), .lit (.int .u8 8), .lit (.int .u8 7), .lit (.int .u8 6)]
def laid_internal_strconv_uint64pow10 {H : Type} : DataW H := .agg [.lit (.int .u64 1), .lit (.int .u64 10), .lit (.int .u64 100), .lit (.int .u64 1000), .lit (.int .u64 10000), .lit (.int .u64 100000), .lit (.int .u64 1000000), .lit (.int .u64 10000000), .lit (.int .u64 100000000), .lit (.int .u64 1000000000), .lit (.int .u64 10000000000), .lit (.int .u64 100000000000), .lit (.int .u64 1000000000000), .lit (.int .u64 10000000000000), .lit (.int .u64 100000000000000), .lit (.int .u64 1000000000000000), .lit (.int .u64 10000000000000000), .lit (.int .u64 100000000000000000), .lit (.int .u64 1000000000000000000), .lit (.int .u64 10000000000000000000)]
def laid_unicode_utf8_acceptRanges {H : Type} : DataW H := .agg [.agg [.lit (.int .u8 128), .lit (.int .u8 191)], .agg [.lit (.int .u8 160), .lit (.int .u8 191)], .agg [.lit (.int .u8 128), .lit (.int .u8 159)], .agg [.lit (.int .u8 144), .lit (.int .u8 191)], .agg [.lit (.int .u8 128), .lit (.int .u8 143)], .agg [.lit (.int .u8 0), .lit (.int .u8 0)], .agg [.lit (.int .u8 0), .lit (.int .u8 0)], .agg [.lit (.int .u8 0), .lit (.int .u8 0)], .agg [.lit (.int .u8 0), .lit (.int .u8 0)], .agg [.lit (.int .u8 0), .lit (.int .u8 0)], .agg [.lit (.int .u8 0), .lit (.int .u8 0)], .agg [.lit (.int .u8 0), .lit (.int .u8 0)], .agg [.lit (.int .u8 0), .lit (.int .u8 0)], .agg [.lit (.int .u8 0), .lit (.int .u8 0)], .agg [.lit (.int .u8 0), .lit (.int .u8 0)], .agg [.lit (.int .u8 0), .lit (.int .u8 0)]]
/-- One of Go's own tables, pinned by name: the form's constant. -/
def laid_unicode_utf8_first : DataW Unit := Go.Pinned.utf8First

/-- 'manifoldlaw06.SchemaLeaves': WHATEVER THE INPUT: true; the input reads as it did. -/
def schemaLeavesSpec : ChangeSpec := { name := "schemaLeaves", fn := fun _ => fun
  | [d] => { results := [.lit (.bool true)], args := [d] }
  | _ => none }
def schemaLeavesRow : OpenClaim := { program := "ytgpmlelfkjfbiaagreatdoor", sum := "af43358e243767629c348c5ad5c440943807fdc0fe80e69ff05c0bfa5edccef5", func := "manifold/manifoldlaw06.SchemaLeaves", spec := "schemaLeaves", inPlace := ["internal/abi.NoEscape", "internal/bytealg.MakeNoZero", "internal/bytealg.abigen_runtime_cmpstring"], unfollowed := true, recurses := true, named := ["unicode/utf8.first", "unicode/utf8.acceptRanges", "internal/strconv.uint64pow10", "math/bits.deBruijn32tab", "math/bits.deBruijn64tab"], loops := true, apart := false, laid := [("math/bits.deBruijn32tab", laid_math_bits_deBruijn32tab), ("math/bits.deBruijn64tab", laid_math_bits_deBruijn64tab), ("internal/strconv.uint64pow10", laid_internal_strconv_uint64pow10), ("unicode/utf8.acceptRanges", laid_unicode_utf8_acceptRanges), ("unicode/utf8.first", laid_unicode_utf8_first)] }
def SchemaLeavesSaid : Prop := schemaLeavesRow.holds Tryz.pinned (OpenSpec.ofChange schemaLeavesSpec)

/-- ITS FALSE NEIGHBOUR: 'it returns false'. Refute it at one input. -/
def schemaLeavesWrong : ChangeSpec := { name := "schemaLeaves", fn := fun _ => fun
  | [d] => { results := [.lit (.bool false)], args := [d] }
  | _ => none }
def SchemaLeavesWrongFalsely : Prop := schemaLeavesRow.holds Tryz.pinned (OpenSpec.ofChange schemaLeavesWrong)

/-- 'manifoldlaw06.SchemaValues': WHATEVER THE INPUT: true; the input reads as it did. -/
def schemaValuesSpec : ChangeSpec := { name := "schemaValues", fn := fun _ => fun
  | [d1, d2] => { results := [.lit (.bool true)], args := [d1, d2] }
  | _ => none }
def schemaValuesRow : OpenClaim := { program := "ytgpmlelfkjfbiaagreatdoor", sum := "af43358e243767629c348c5ad5c440943807fdc0fe80e69ff05c0bfa5edccef5", func := "manifold/manifoldlaw06.SchemaValues", spec := "schemaValues", inPlace := ["internal/abi.NoEscape", "internal/bytealg.MakeNoZero", "internal/bytealg.abigen_runtime_cmpstring", "slices.overlaps[manifold/api.Field]"], unfollowed := true, recurses := true, named := ["unicode/utf8.first", "unicode/utf8.acceptRanges", "internal/strconv.uint64pow10", "math/bits.deBruijn32tab", "math/bits.deBruijn64tab"], loops := true, apart := false, laid := [("math/bits.deBruijn32tab", laid_math_bits_deBruijn32tab), ("math/bits.deBruijn64tab", laid_math_bits_deBruijn64tab), ("internal/strconv.uint64pow10", laid_internal_strconv_uint64pow10), ("unicode/utf8.acceptRanges", laid_unicode_utf8_acceptRanges), ("unicode/utf8.first", laid_unicode_utf8_first)] }
def SchemaValuesSaid : Prop := schemaValuesRow.holds Tryz.pinned (OpenSpec.ofChange schemaValuesSpec)

/-- ITS FALSE NEIGHBOUR: 'it returns false'. Refute it at one input. -/
def schemaValuesWrong : ChangeSpec := { name := "schemaValues", fn := fun _ => fun
  | [d1, d2] => { results := [.lit (.bool false)], args := [d1, d2] }
  | _ => none }
def SchemaValuesWrongFalsely : Prop := schemaValuesRow.holds Tryz.pinned (OpenSpec.ofChange schemaValuesWrong)

/-- 'manifoldlaw09.EvolveUpgrades': WHATEVER THE INPUT: true; the input reads as it did. -/
def evolveUpgradesSpec : ChangeSpec := { name := "evolveUpgrades", fn := fun _ => fun
  | [d1, d2] => { results := [.lit (.bool true)], args := [d1, d2] }
  | _ => none }
def evolveUpgradesRow : OpenClaim := { program := "ytgpmlelfkjfbiaagreatdoor", sum := "af43358e243767629c348c5ad5c440943807fdc0fe80e69ff05c0bfa5edccef5", func := "manifold/manifoldlaw09.EvolveUpgrades", spec := "evolveUpgrades", inPlace := ["internal/bytealg.abigen_runtime_cmpstring", "slices.overlaps[manifold/api.Field]"], unfollowed := true, recurses := true, named := ["unicode/utf8.first", "unicode/utf8.acceptRanges", "internal/strconv.uint64pow10", "math/bits.deBruijn32tab", "math/bits.deBruijn64tab"], loops := true, apart := false, laid := [("math/bits.deBruijn32tab", laid_math_bits_deBruijn32tab), ("math/bits.deBruijn64tab", laid_math_bits_deBruijn64tab), ("internal/strconv.uint64pow10", laid_internal_strconv_uint64pow10), ("unicode/utf8.acceptRanges", laid_unicode_utf8_acceptRanges), ("unicode/utf8.first", laid_unicode_utf8_first)] }
def EvolveUpgradesSaid : Prop := evolveUpgradesRow.holds Tryz.pinned (OpenSpec.ofChange evolveUpgradesSpec)

/-- ITS FALSE NEIGHBOUR: 'it returns false'. Refute it at one input. -/
def evolveUpgradesWrong : ChangeSpec := { name := "evolveUpgrades", fn := fun _ => fun
  | [d1, d2] => { results := [.lit (.bool false)], args := [d1, d2] }
  | _ => none }
def EvolveUpgradesWrongFalsely : Prop := evolveUpgradesRow.holds Tryz.pinned (OpenSpec.ofChange evolveUpgradesWrong)

/-- 'manifoldlaw09.EvolveNames': WHATEVER THE INPUT: true; the input reads as it did. -/
def evolveNamesSpec : ChangeSpec := { name := "evolveNames", fn := fun _ => fun
  | [d] => { results := [.lit (.bool true)], args := [d] }
  | _ => none }
def evolveNamesRow : OpenClaim := { program := "ytgpmlelfkjfbiaagreatdoor", sum := "af43358e243767629c348c5ad5c440943807fdc0fe80e69ff05c0bfa5edccef5", func := "manifold/manifoldlaw09.EvolveNames", spec := "evolveNames", inPlace := ["internal/bytealg.abigen_runtime_cmpstring", "slices.overlaps[manifold/api.Field]"], unfollowed := true, recurses := true, named := ["unicode/utf8.first", "unicode/utf8.acceptRanges", "internal/strconv.uint64pow10", "math/bits.deBruijn32tab", "math/bits.deBruijn64tab"], apart := false, laid := [("math/bits.deBruijn32tab", laid_math_bits_deBruijn32tab), ("math/bits.deBruijn64tab", laid_math_bits_deBruijn64tab), ("internal/strconv.uint64pow10", laid_internal_strconv_uint64pow10), ("unicode/utf8.acceptRanges", laid_unicode_utf8_acceptRanges), ("unicode/utf8.first", laid_unicode_utf8_first)] }
def EvolveNamesSaid : Prop := evolveNamesRow.holds Tryz.pinned (OpenSpec.ofChange evolveNamesSpec)

/-- ITS FALSE NEIGHBOUR: 'it returns false'. Refute it at one input. -/
def evolveNamesWrong : ChangeSpec := { name := "evolveNames", fn := fun _ => fun
  | [d] => { results := [.lit (.bool false)], args := [d] }
  | _ => none }
def EvolveNamesWrongFalsely : Prop := evolveNamesRow.holds Tryz.pinned (OpenSpec.ofChange evolveNamesWrong)

/-- 'manifoldlaw09.EvolveCompatible': WHATEVER THE INPUT: true; the input reads as it did. -/
def evolveCompatibleSpec : ChangeSpec := { name := "evolveCompatible", fn := fun _ => fun
  | [d1, d2] => { results := [.lit (.bool true)], args := [d1, d2] }
  | _ => none }
def evolveCompatibleRow : OpenClaim := { program := "ytgpmlelfkjfbiaagreatdoor", sum := "af43358e243767629c348c5ad5c440943807fdc0fe80e69ff05c0bfa5edccef5", func := "manifold/manifoldlaw09.EvolveCompatible", spec := "evolveCompatible", inPlace := ["internal/bytealg.abigen_runtime_cmpstring", "slices.overlaps[manifold/api.Field]"], unfollowed := true, recurses := true, named := ["unicode/utf8.first", "unicode/utf8.acceptRanges", "internal/strconv.uint64pow10", "math/bits.deBruijn32tab", "math/bits.deBruijn64tab"], loops := true, apart := false, laid := [("math/bits.deBruijn32tab", laid_math_bits_deBruijn32tab), ("math/bits.deBruijn64tab", laid_math_bits_deBruijn64tab), ("internal/strconv.uint64pow10", laid_internal_strconv_uint64pow10), ("unicode/utf8.acceptRanges", laid_unicode_utf8_acceptRanges), ("unicode/utf8.first", laid_unicode_utf8_first)] }
def EvolveCompatibleSaid : Prop := evolveCompatibleRow.holds Tryz.pinned (OpenSpec.ofChange evolveCompatibleSpec)

/-- ITS FALSE NEIGHBOUR: 'it returns false'. Refute it at one input. -/
def evolveCompatibleWrong : ChangeSpec := { name := "evolveCompatible", fn := fun _ => fun
  | [d1, d2] => { results := [.lit (.bool false)], args := [d1, d2] }
  | _ => none }
def EvolveCompatibleWrongFalsely : Prop := evolveCompatibleRow.holds Tryz.pinned (OpenSpec.ofChange evolveCompatibleWrong)

/-- 'manifoldlaw09.EvolveLossless': WHATEVER THE INPUT: true; the input reads as it did. -/
def evolveLosslessSpec : ChangeSpec := { name := "evolveLossless", fn := fun _ => fun
  | [d1, d2] => { results := [.lit (.bool true)], args := [d1, d2] }
  | _ => none }
def evolveLosslessRow : OpenClaim := { program := "ytgpmlelfkjfbiaagreatdoor", sum := "af43358e243767629c348c5ad5c440943807fdc0fe80e69ff05c0bfa5edccef5", func := "manifold/manifoldlaw09.EvolveLossless", spec := "evolveLossless", inPlace := ["internal/bytealg.abigen_runtime_cmpstring", "slices.overlaps[manifold/api.Field]"], unfollowed := true, recurses := true, named := ["unicode/utf8.first", "unicode/utf8.acceptRanges", "internal/strconv.uint64pow10", "math/bits.deBruijn32tab", "math/bits.deBruijn64tab"], loops := true, apart := false, laid := [("math/bits.deBruijn32tab", laid_math_bits_deBruijn32tab), ("math/bits.deBruijn64tab", laid_math_bits_deBruijn64tab), ("internal/strconv.uint64pow10", laid_internal_strconv_uint64pow10), ("unicode/utf8.acceptRanges", laid_unicode_utf8_acceptRanges), ("unicode/utf8.first", laid_unicode_utf8_first)] }
def EvolveLosslessSaid : Prop := evolveLosslessRow.holds Tryz.pinned (OpenSpec.ofChange evolveLosslessSpec)

/-- ITS FALSE NEIGHBOUR: 'it returns false'. Refute it at one input. -/
def evolveLosslessWrong : ChangeSpec := { name := "evolveLossless", fn := fun _ => fun
  | [d1, d2] => { results := [.lit (.bool false)], args := [d1, d2] }
  | _ => none }
def EvolveLosslessWrongFalsely : Prop := evolveLosslessRow.holds Tryz.pinned (OpenSpec.ofChange evolveLosslessWrong)

/-- 'manifoldlaw09.EvolveSame': WHATEVER THE INPUT: true; the input reads as it did. -/
def evolveSameSpec : ChangeSpec := { name := "evolveSame", fn := fun _ => fun
  | [d1, d2] => { results := [.lit (.bool true)], args := [d1, d2] }
  | _ => none }
def evolveSameRow : OpenClaim := { program := "ytgpmlelfkjfbiaagreatdoor", sum := "af43358e243767629c348c5ad5c440943807fdc0fe80e69ff05c0bfa5edccef5", func := "manifold/manifoldlaw09.EvolveSame", spec := "evolveSame", inPlace := ["internal/bytealg.abigen_runtime_cmpstring", "slices.overlaps[manifold/api.Field]"], unfollowed := true, recurses := true, named := ["unicode/utf8.first", "unicode/utf8.acceptRanges", "internal/strconv.uint64pow10", "math/bits.deBruijn32tab", "math/bits.deBruijn64tab"], loops := true, apart := false, laid := [("math/bits.deBruijn32tab", laid_math_bits_deBruijn32tab), ("math/bits.deBruijn64tab", laid_math_bits_deBruijn64tab), ("internal/strconv.uint64pow10", laid_internal_strconv_uint64pow10), ("unicode/utf8.acceptRanges", laid_unicode_utf8_acceptRanges), ("unicode/utf8.first", laid_unicode_utf8_first)] }
def EvolveSameSaid : Prop := evolveSameRow.holds Tryz.pinned (OpenSpec.ofChange evolveSameSpec)

/-- ITS FALSE NEIGHBOUR: 'it returns false'. Refute it at one input. -/
def evolveSameWrong : ChangeSpec := { name := "evolveSame", fn := fun _ => fun
  | [d1, d2] => { results := [.lit (.bool false)], args := [d1, d2] }
  | _ => none }
def EvolveSameWrongFalsely : Prop := evolveSameRow.holds Tryz.pinned (OpenSpec.ofChange evolveSameWrong)

/-- 'manifoldlaw09.EvolveDrops': WHATEVER THE INPUT: true; the input reads as it did. -/
def evolveDropsSpec : ChangeSpec := { name := "evolveDrops", fn := fun _ => fun
  | [d1, d2, d3] => { results := [.lit (.bool true)], args := [d1, d2, d3] }
  | _ => none }
def evolveDropsRow : OpenClaim := { program := "ytgpmlelfkjfbiaagreatdoor", sum := "af43358e243767629c348c5ad5c440943807fdc0fe80e69ff05c0bfa5edccef5", func := "manifold/manifoldlaw09.EvolveDrops", spec := "evolveDrops", inPlace := ["internal/bytealg.abigen_runtime_cmpstring", "slices.overlaps[manifold/api.Field]"], unfollowed := true, recurses := true, named := ["unicode/utf8.first", "unicode/utf8.acceptRanges", "internal/strconv.uint64pow10", "math/bits.deBruijn32tab", "math/bits.deBruijn64tab"], loops := true, apart := false, laid := [("math/bits.deBruijn32tab", laid_math_bits_deBruijn32tab), ("math/bits.deBruijn64tab", laid_math_bits_deBruijn64tab), ("internal/strconv.uint64pow10", laid_internal_strconv_uint64pow10), ("unicode/utf8.acceptRanges", laid_unicode_utf8_acceptRanges), ("unicode/utf8.first", laid_unicode_utf8_first)] }
def EvolveDropsSaid : Prop := evolveDropsRow.holds Tryz.pinned (OpenSpec.ofChange evolveDropsSpec)

/-- ITS FALSE NEIGHBOUR: 'it returns false'. Refute it at one input. -/
def evolveDropsWrong : ChangeSpec := { name := "evolveDrops", fn := fun _ => fun
  | [d1, d2, d3] => { results := [.lit (.bool false)], args := [d1, d2, d3] }
  | _ => none }
def EvolveDropsWrongFalsely : Prop := evolveDropsRow.holds Tryz.pinned (OpenSpec.ofChange evolveDropsWrong)

/-- 'manifoldlaw09.EvolveWitness': WHATEVER THE INPUT: true; the input reads as it did. -/
def evolveWitnessSpec : ChangeSpec := { name := "evolveWitness", fn := fun _ => fun
  | [d] => { results := [.lit (.bool true)], args := [d] }
  | _ => none }
def evolveWitnessRow : OpenClaim := { program := "ytgpmlelfkjfbiaagreatdoor", sum := "af43358e243767629c348c5ad5c440943807fdc0fe80e69ff05c0bfa5edccef5", func := "manifold/manifoldlaw09.EvolveWitness", spec := "evolveWitness", inPlace := ["internal/bytealg.abigen_runtime_cmpstring", "slices.overlaps[manifold/api.Field]", "internal/abi.NoEscape", "internal/bytealg.MakeNoZero"], unfollowed := true, recurses := true, named := ["unicode/utf8.first", "unicode/utf8.acceptRanges", "internal/strconv.uint64pow10", "math/bits.deBruijn32tab", "math/bits.deBruijn64tab"], loops := true, apart := false, laid := [("math/bits.deBruijn32tab", laid_math_bits_deBruijn32tab), ("math/bits.deBruijn64tab", laid_math_bits_deBruijn64tab), ("internal/strconv.uint64pow10", laid_internal_strconv_uint64pow10), ("unicode/utf8.acceptRanges", laid_unicode_utf8_acceptRanges), ("unicode/utf8.first", laid_unicode_utf8_first)] }
def EvolveWitnessSaid : Prop := evolveWitnessRow.holds Tryz.pinned (OpenSpec.ofChange evolveWitnessSpec)

/-- ITS FALSE NEIGHBOUR: 'it returns false'. Refute it at one input. -/
def evolveWitnessWrong : ChangeSpec := { name := "evolveWitness", fn := fun _ => fun
  | [d] => { results := [.lit (.bool false)], args := [d] }
  | _ => none }
def EvolveWitnessWrongFalsely : Prop := evolveWitnessRow.holds Tryz.pinned (OpenSpec.ofChange evolveWitnessWrong)

/- THE SECOND FORM. 'bulk': how many values and letters a reading holds, each counted each time it is reached (what is shared counts as often as it is met; a slice's spare places count too). A statement '..UptoSaid' is the law's where the arguments, and the package variables that the reading takes, are together of bulk at most 1048576: NARROWER than '..Said'. Prove '..Said' where nothing that the law and all that it calls make is longer than what came in: it says more and counts as full. Else prove '..UptoSaid'. A law counts once. -/
mutual
def uptoBulk {H : Type} : DataW H → Nat
  | .lit (.string bytes) => bytes.length + 1
  | .lit _ => 1
  | .nil => 1
  | .ptr d => uptoBulk d + 1
  | .slice elems spare => uptoBulkAll elems + uptoBulkAll spare + 1
  | .agg parts => uptoBulkAll parts + 1
  | .iface _ d => uptoBulk d + 1
  | .map entries => uptoBulkEntries entries + 1
  | .held _ => 1
def uptoBulkAll {H : Type} : List (DataW H) → Nat
  | [] => 0
  | d :: r => uptoBulk d + uptoBulkAll r
def uptoBulkEntries {H : Type} : List (Lit × DataW H) → Nat
  | [] => 0
  | x :: r => uptoBulkEntry x + uptoBulkEntries r
def uptoBulkEntry {H : Type} : Lit × DataW H → Nat
  | (.string bytes, d) => bytes.length + uptoBulk d + 1
  | (_, d) => uptoBulk d + 1
 end
def uptoSmall : (H : Type) → List (DataW H) → Bool := fun _ ds => decide (uptoBulkAll ds ≤ 1048576)
def OpenSpec.upto (s : _root_.Go.ChangeSpec) : _root_.Go.OpenSpec := { _root_.Go.OpenSpec.ofChange s with cond := some uptoSmall }

/-- 'manifoldlaw06.SchemaLeaves', WHERE WHAT IT READS IS OF BULK AT MOST 1048576: true; the input reads as it did. -/
def schemaLeavesUptoRow : OpenClaim := { program := "ytgpmlelfkjfbiaagreatdoor", sum := "af43358e243767629c348c5ad5c440943807fdc0fe80e69ff05c0bfa5edccef5", func := "manifold/manifoldlaw06.SchemaLeaves", spec := "schemaLeaves", inPlace := ["internal/abi.NoEscape", "internal/bytealg.MakeNoZero", "internal/bytealg.abigen_runtime_cmpstring"], unfollowed := true, recurses := true, named := ["unicode/utf8.first", "unicode/utf8.acceptRanges", "internal/strconv.uint64pow10", "math/bits.deBruijn32tab", "math/bits.deBruijn64tab"], loops := true, apart := false, laid := [("math/bits.deBruijn32tab", laid_math_bits_deBruijn32tab), ("math/bits.deBruijn64tab", laid_math_bits_deBruijn64tab), ("internal/strconv.uint64pow10", laid_internal_strconv_uint64pow10), ("unicode/utf8.acceptRanges", laid_unicode_utf8_acceptRanges), ("unicode/utf8.first", laid_unicode_utf8_first)], narrowed := true }
def SchemaLeavesUptoSaid : Prop := schemaLeavesUptoRow.holds Tryz.pinned (OpenSpec.upto schemaLeavesSpec)

/-- 'manifoldlaw06.SchemaValues', WHERE WHAT IT READS IS OF BULK AT MOST 1048576: true; the input reads as it did. -/
def schemaValuesUptoRow : OpenClaim := { program := "ytgpmlelfkjfbiaagreatdoor", sum := "af43358e243767629c348c5ad5c440943807fdc0fe80e69ff05c0bfa5edccef5", func := "manifold/manifoldlaw06.SchemaValues", spec := "schemaValues", inPlace := ["internal/abi.NoEscape", "internal/bytealg.MakeNoZero", "internal/bytealg.abigen_runtime_cmpstring", "slices.overlaps[manifold/api.Field]"], unfollowed := true, recurses := true, named := ["unicode/utf8.first", "unicode/utf8.acceptRanges", "internal/strconv.uint64pow10", "math/bits.deBruijn32tab", "math/bits.deBruijn64tab"], loops := true, apart := false, laid := [("math/bits.deBruijn32tab", laid_math_bits_deBruijn32tab), ("math/bits.deBruijn64tab", laid_math_bits_deBruijn64tab), ("internal/strconv.uint64pow10", laid_internal_strconv_uint64pow10), ("unicode/utf8.acceptRanges", laid_unicode_utf8_acceptRanges), ("unicode/utf8.first", laid_unicode_utf8_first)], narrowed := true }
def SchemaValuesUptoSaid : Prop := schemaValuesUptoRow.holds Tryz.pinned (OpenSpec.upto schemaValuesSpec)

/-- 'manifoldlaw09.EvolveUpgrades', WHERE WHAT IT READS IS OF BULK AT MOST 1048576: true; the input reads as it did. -/
def evolveUpgradesUptoRow : OpenClaim := { program := "ytgpmlelfkjfbiaagreatdoor", sum := "af43358e243767629c348c5ad5c440943807fdc0fe80e69ff05c0bfa5edccef5", func := "manifold/manifoldlaw09.EvolveUpgrades", spec := "evolveUpgrades", inPlace := ["internal/bytealg.abigen_runtime_cmpstring", "slices.overlaps[manifold/api.Field]"], unfollowed := true, recurses := true, named := ["unicode/utf8.first", "unicode/utf8.acceptRanges", "internal/strconv.uint64pow10", "math/bits.deBruijn32tab", "math/bits.deBruijn64tab"], loops := true, apart := false, laid := [("math/bits.deBruijn32tab", laid_math_bits_deBruijn32tab), ("math/bits.deBruijn64tab", laid_math_bits_deBruijn64tab), ("internal/strconv.uint64pow10", laid_internal_strconv_uint64pow10), ("unicode/utf8.acceptRanges", laid_unicode_utf8_acceptRanges), ("unicode/utf8.first", laid_unicode_utf8_first)], narrowed := true }
def EvolveUpgradesUptoSaid : Prop := evolveUpgradesUptoRow.holds Tryz.pinned (OpenSpec.upto evolveUpgradesSpec)

/-- 'manifoldlaw09.EvolveNames', WHERE WHAT IT READS IS OF BULK AT MOST 1048576: true; the input reads as it did. -/
def evolveNamesUptoRow : OpenClaim := { program := "ytgpmlelfkjfbiaagreatdoor", sum := "af43358e243767629c348c5ad5c440943807fdc0fe80e69ff05c0bfa5edccef5", func := "manifold/manifoldlaw09.EvolveNames", spec := "evolveNames", inPlace := ["internal/bytealg.abigen_runtime_cmpstring", "slices.overlaps[manifold/api.Field]"], unfollowed := true, recurses := true, named := ["unicode/utf8.first", "unicode/utf8.acceptRanges", "internal/strconv.uint64pow10", "math/bits.deBruijn32tab", "math/bits.deBruijn64tab"], apart := false, laid := [("math/bits.deBruijn32tab", laid_math_bits_deBruijn32tab), ("math/bits.deBruijn64tab", laid_math_bits_deBruijn64tab), ("internal/strconv.uint64pow10", laid_internal_strconv_uint64pow10), ("unicode/utf8.acceptRanges", laid_unicode_utf8_acceptRanges), ("unicode/utf8.first", laid_unicode_utf8_first)], narrowed := true }
def EvolveNamesUptoSaid : Prop := evolveNamesUptoRow.holds Tryz.pinned (OpenSpec.upto evolveNamesSpec)

/-- 'manifoldlaw09.EvolveCompatible', WHERE WHAT IT READS IS OF BULK AT MOST 1048576: true; the input reads as it did. -/
def evolveCompatibleUptoRow : OpenClaim := { program := "ytgpmlelfkjfbiaagreatdoor", sum := "af43358e243767629c348c5ad5c440943807fdc0fe80e69ff05c0bfa5edccef5", func := "manifold/manifoldlaw09.EvolveCompatible", spec := "evolveCompatible", inPlace := ["internal/bytealg.abigen_runtime_cmpstring", "slices.overlaps[manifold/api.Field]"], unfollowed := true, recurses := true, named := ["unicode/utf8.first", "unicode/utf8.acceptRanges", "internal/strconv.uint64pow10", "math/bits.deBruijn32tab", "math/bits.deBruijn64tab"], loops := true, apart := false, laid := [("math/bits.deBruijn32tab", laid_math_bits_deBruijn32tab), ("math/bits.deBruijn64tab", laid_math_bits_deBruijn64tab), ("internal/strconv.uint64pow10", laid_internal_strconv_uint64pow10), ("unicode/utf8.acceptRanges", laid_unicode_utf8_acceptRanges), ("unicode/utf8.first", laid_unicode_utf8_first)], narrowed := true }
def EvolveCompatibleUptoSaid : Prop := evolveCompatibleUptoRow.holds Tryz.pinned (OpenSpec.upto evolveCompatibleSpec)

/-- 'manifoldlaw09.EvolveLossless', WHERE WHAT IT READS IS OF BULK AT MOST 1048576: true; the input reads as it did. -/
def evolveLosslessUptoRow : OpenClaim := { program := "ytgpmlelfkjfbiaagreatdoor", sum := "af43358e243767629c348c5ad5c440943807fdc0fe80e69ff05c0bfa5edccef5", func := "manifold/manifoldlaw09.EvolveLossless", spec := "evolveLossless", inPlace := ["internal/bytealg.abigen_runtime_cmpstring", "slices.overlaps[manifold/api.Field]"], unfollowed := true, recurses := true, named := ["unicode/utf8.first", "unicode/utf8.acceptRanges", "internal/strconv.uint64pow10", "math/bits.deBruijn32tab", "math/bits.deBruijn64tab"], loops := true, apart := false, laid := [("math/bits.deBruijn32tab", laid_math_bits_deBruijn32tab), ("math/bits.deBruijn64tab", laid_math_bits_deBruijn64tab), ("internal/strconv.uint64pow10", laid_internal_strconv_uint64pow10), ("unicode/utf8.acceptRanges", laid_unicode_utf8_acceptRanges), ("unicode/utf8.first", laid_unicode_utf8_first)], narrowed := true }
def EvolveLosslessUptoSaid : Prop := evolveLosslessUptoRow.holds Tryz.pinned (OpenSpec.upto evolveLosslessSpec)

/-- 'manifoldlaw09.EvolveSame', WHERE WHAT IT READS IS OF BULK AT MOST 1048576: true; the input reads as it did. -/
def evolveSameUptoRow : OpenClaim := { program := "ytgpmlelfkjfbiaagreatdoor", sum := "af43358e243767629c348c5ad5c440943807fdc0fe80e69ff05c0bfa5edccef5", func := "manifold/manifoldlaw09.EvolveSame", spec := "evolveSame", inPlace := ["internal/bytealg.abigen_runtime_cmpstring", "slices.overlaps[manifold/api.Field]"], unfollowed := true, recurses := true, named := ["unicode/utf8.first", "unicode/utf8.acceptRanges", "internal/strconv.uint64pow10", "math/bits.deBruijn32tab", "math/bits.deBruijn64tab"], loops := true, apart := false, laid := [("math/bits.deBruijn32tab", laid_math_bits_deBruijn32tab), ("math/bits.deBruijn64tab", laid_math_bits_deBruijn64tab), ("internal/strconv.uint64pow10", laid_internal_strconv_uint64pow10), ("unicode/utf8.acceptRanges", laid_unicode_utf8_acceptRanges), ("unicode/utf8.first", laid_unicode_utf8_first)], narrowed := true }
def EvolveSameUptoSaid : Prop := evolveSameUptoRow.holds Tryz.pinned (OpenSpec.upto evolveSameSpec)

/-- 'manifoldlaw09.EvolveDrops', WHERE WHAT IT READS IS OF BULK AT MOST 1048576: true; the input reads as it did. -/
def evolveDropsUptoRow : OpenClaim := { program := "ytgpmlelfkjfbiaagreatdoor", sum := "af43358e243767629c348c5ad5c440943807fdc0fe80e69ff05c0bfa5edccef5", func := "manifold/manifoldlaw09.EvolveDrops", spec := "evolveDrops", inPlace := ["internal/bytealg.abigen_runtime_cmpstring", "slices.overlaps[manifold/api.Field]"], unfollowed := true, recurses := true, named := ["unicode/utf8.first", "unicode/utf8.acceptRanges", "internal/strconv.uint64pow10", "math/bits.deBruijn32tab", "math/bits.deBruijn64tab"], loops := true, apart := false, laid := [("math/bits.deBruijn32tab", laid_math_bits_deBruijn32tab), ("math/bits.deBruijn64tab", laid_math_bits_deBruijn64tab), ("internal/strconv.uint64pow10", laid_internal_strconv_uint64pow10), ("unicode/utf8.acceptRanges", laid_unicode_utf8_acceptRanges), ("unicode/utf8.first", laid_unicode_utf8_first)], narrowed := true }
def EvolveDropsUptoSaid : Prop := evolveDropsUptoRow.holds Tryz.pinned (OpenSpec.upto evolveDropsSpec)

/-- 'manifoldlaw09.EvolveWitness', WHERE WHAT IT READS IS OF BULK AT MOST 1048576: true; the input reads as it did. -/
def evolveWitnessUptoRow : OpenClaim := { program := "ytgpmlelfkjfbiaagreatdoor", sum := "af43358e243767629c348c5ad5c440943807fdc0fe80e69ff05c0bfa5edccef5", func := "manifold/manifoldlaw09.EvolveWitness", spec := "evolveWitness", inPlace := ["internal/bytealg.abigen_runtime_cmpstring", "slices.overlaps[manifold/api.Field]", "internal/abi.NoEscape", "internal/bytealg.MakeNoZero"], unfollowed := true, recurses := true, named := ["unicode/utf8.first", "unicode/utf8.acceptRanges", "internal/strconv.uint64pow10", "math/bits.deBruijn32tab", "math/bits.deBruijn64tab"], loops := true, apart := false, laid := [("math/bits.deBruijn32tab", laid_math_bits_deBruijn32tab), ("math/bits.deBruijn64tab", laid_math_bits_deBruijn64tab), ("internal/strconv.uint64pow10", laid_internal_strconv_uint64pow10), ("unicode/utf8.acceptRanges", laid_unicode_utf8_acceptRanges), ("unicode/utf8.first", laid_unicode_utf8_first)], narrowed := true }
def EvolveWitnessUptoSaid : Prop := evolveWitnessUptoRow.holds Tryz.pinned (OpenSpec.upto evolveWitnessSpec)

end Rows
end Go.Proofs.YtgpmlelfkjfbiaaGreatDoor
