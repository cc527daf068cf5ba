/-
  No cell of these rows narrows 'for every input' (looked for: loops, veiled, ifaces, maps, wideKeys, modest, calm, conditions, laid).
  DERIVED. THE GIVEN ROWS OF THIS SEAT. 17 by the template 'for every input the law returns true; each argument reads behind the call as it read before'; 0 by the template 'total and deterministic' (their statements: YtmglkelmdcpinaaTotals.lean).
  GIVEN WITH THE SEED: the statements are not yours to turn. If you find one false, say at which input.
  Laid BY PROGRAM, IN A SANDBOX (cutbox-rows.mjs): the forced cells as the released guide's own fill.sh prints them over the translation 2ab7dd60d92d7938… (all of the seat's roots in one cut). By AI agents, Wed Nov 11 2026. No macro, syntax, notation, axiom, sorry.
-/
import Derived.Test.YtmglkelmdcpinaaChecked
import GoSem.Claim
import GoSem.ClaimJoined
import GoSem.ClaimMapViews
import Derived.JoinedTies
import Derived.KernelRfl
namespace Go.Proofs.Ytmglkelmdcpinaa
/- THE CELL 'sum', in the pinned program and in every row, IS THE sha256 OF THE DUMP (.gsa) THAT YtmglkelmdcpinaaProg.lean LOADS. Nothing in Lean hashes anything: it is a label: what it is worth is what the hold of that sum in a sandbox is worth. -/
noncomputable def Try.pinned : Pinned := { name := "ytmglkelmdcpinaa", sum := "2ab7dd60d92d79380244ac260e1946a5e254b03c7fd34cbc9077dd41727781e0", checked := Try.checked }
namespace Rows
def none {H : Type} : Left H := { results := [], args := [] }

/-- 'headroomlaw02.SatOnly': WHATEVER THE INPUT: true; the input reads as it did. -/
def satOnlySpec : ChangeSpec := { name := "satOnly", fn := fun _ => fun
  | [d1, d2, d3, d4, d5] => { results := [.lit (.bool true)], args := [d1, d2, d3, d4, d5] }
  | _ => none }
def satOnlyRow : OpenClaim := { program := "ytmglkelmdcpinaa", sum := "2ab7dd60d92d79380244ac260e1946a5e254b03c7fd34cbc9077dd41727781e0", func := "headroom/headroomlaw02.SatOnly", spec := "satOnly", unfollowed := true, recurses := true, apart := false }
def SatOnlySaid : Prop := satOnlyRow.holds Try.pinned (OpenSpec.ofChange satOnlySpec)

/-- ITS FALSE NEIGHBOUR: 'it returns false'. Refute it at one input. -/
def satOnlyWrong : ChangeSpec := { name := "satOnly", fn := fun _ => fun
  | [d1, d2, d3, d4, d5] => { results := [.lit (.bool false)], args := [d1, d2, d3, d4, d5] }
  | _ => none }
def SatOnlyWrongFalsely : Prop := satOnlyRow.holds Try.pinned (OpenSpec.ofChange satOnlyWrong)

/-- 'headroomlaw10.TwoPasses': WHATEVER THE INPUT: true; the input reads as it did. -/
def twoPassesSpec : ChangeSpec := { name := "twoPasses", fn := fun _ => fun
  | [d1, d2, d3, d4, d5, d6, d7] => { results := [.lit (.bool true)], args := [d1, d2, d3, d4, d5, d6, d7] }
  | _ => none }
def twoPassesRow : OpenClaim := { program := "ytmglkelmdcpinaa", sum := "2ab7dd60d92d79380244ac260e1946a5e254b03c7fd34cbc9077dd41727781e0", func := "headroom/headroomlaw10.TwoPasses", spec := "twoPasses", unfollowed := true, recurses := true, apart := false }
def TwoPassesSaid : Prop := twoPassesRow.holds Try.pinned (OpenSpec.ofChange twoPassesSpec)

/-- ITS FALSE NEIGHBOUR: 'it returns false'. Refute it at one input. -/
def twoPassesWrong : ChangeSpec := { name := "twoPasses", fn := fun _ => fun
  | [d1, d2, d3, d4, d5, d6, d7] => { results := [.lit (.bool false)], args := [d1, d2, d3, d4, d5, d6, d7] }
  | _ => none }
def TwoPassesWrongFalsely : Prop := twoPassesRow.holds Try.pinned (OpenSpec.ofChange twoPassesWrong)

/-- 'headroomlaw10.TwoGrows': WHATEVER THE INPUT: true; the input reads as it did. -/
def twoGrowsSpec : ChangeSpec := { name := "twoGrows", fn := fun _ => fun
  | [d1, d2, d3, d4, d5, d6, d7] => { results := [.lit (.bool true)], args := [d1, d2, d3, d4, d5, d6, d7] }
  | _ => none }
def twoGrowsRow : OpenClaim := { program := "ytmglkelmdcpinaa", sum := "2ab7dd60d92d79380244ac260e1946a5e254b03c7fd34cbc9077dd41727781e0", func := "headroom/headroomlaw10.TwoGrows", spec := "twoGrows", unfollowed := true, recurses := true, apart := false }
def TwoGrowsSaid : Prop := twoGrowsRow.holds Try.pinned (OpenSpec.ofChange twoGrowsSpec)

/-- ITS FALSE NEIGHBOUR: 'it returns false'. Refute it at one input. -/
def twoGrowsWrong : ChangeSpec := { name := "twoGrows", fn := fun _ => fun
  | [d1, d2, d3, d4, d5, d6, d7] => { results := [.lit (.bool false)], args := [d1, d2, d3, d4, d5, d6, d7] }
  | _ => none }
def TwoGrowsWrongFalsely : Prop := twoGrowsRow.holds Try.pinned (OpenSpec.ofChange twoGrowsWrong)

/-- 'headroomlaw11.FourPasses': WHATEVER THE INPUT: true; the input reads as it did. -/
def fourPassesSpec : ChangeSpec := { name := "fourPasses", fn := fun _ => fun
  | [d1, d2, d3, d4, d5, d6, d7] => { results := [.lit (.bool true)], args := [d1, d2, d3, d4, d5, d6, d7] }
  | _ => none }
def fourPassesRow : OpenClaim := { program := "ytmglkelmdcpinaa", sum := "2ab7dd60d92d79380244ac260e1946a5e254b03c7fd34cbc9077dd41727781e0", func := "headroom/headroomlaw11.FourPasses", spec := "fourPasses", unfollowed := true, recurses := true, apart := false }
def FourPassesSaid : Prop := fourPassesRow.holds Try.pinned (OpenSpec.ofChange fourPassesSpec)

/-- ITS FALSE NEIGHBOUR: 'it returns false'. Refute it at one input. -/
def fourPassesWrong : ChangeSpec := { name := "fourPasses", fn := fun _ => fun
  | [d1, d2, d3, d4, d5, d6, d7] => { results := [.lit (.bool false)], args := [d1, d2, d3, d4, d5, d6, d7] }
  | _ => none }
def FourPassesWrongFalsely : Prop := fourPassesRow.holds Try.pinned (OpenSpec.ofChange fourPassesWrong)

/-- 'headroomlaw11.FourGrows': WHATEVER THE INPUT: true; the input reads as it did. -/
def fourGrowsSpec : ChangeSpec := { name := "fourGrows", fn := fun _ => fun
  | [d1, d2, d3, d4, d5, d6, d7] => { results := [.lit (.bool true)], args := [d1, d2, d3, d4, d5, d6, d7] }
  | _ => none }
def fourGrowsRow : OpenClaim := { program := "ytmglkelmdcpinaa", sum := "2ab7dd60d92d79380244ac260e1946a5e254b03c7fd34cbc9077dd41727781e0", func := "headroom/headroomlaw11.FourGrows", spec := "fourGrows", unfollowed := true, recurses := true, apart := false }
def FourGrowsSaid : Prop := fourGrowsRow.holds Try.pinned (OpenSpec.ofChange fourGrowsSpec)

/-- ITS FALSE NEIGHBOUR: 'it returns false'. Refute it at one input. -/
def fourGrowsWrong : ChangeSpec := { name := "fourGrows", fn := fun _ => fun
  | [d1, d2, d3, d4, d5, d6, d7] => { results := [.lit (.bool false)], args := [d1, d2, d3, d4, d5, d6, d7] }
  | _ => none }
def FourGrowsWrongFalsely : Prop := fourGrowsRow.holds Try.pinned (OpenSpec.ofChange fourGrowsWrong)

/-- 'headroomlaw07.RootsTells': WHATEVER THE INPUT: true; the input reads as it did. -/
def rootsTellsSpec : ChangeSpec := { name := "rootsTells", fn := fun _ => fun
  | [d1, d2, d3] => { results := [.lit (.bool true)], args := [d1, d2, d3] }
  | _ => none }
def rootsTellsRow : OpenClaim := { program := "ytmglkelmdcpinaa", sum := "2ab7dd60d92d79380244ac260e1946a5e254b03c7fd34cbc9077dd41727781e0", func := "headroom/headroomlaw07.RootsTells", spec := "rootsTells", unfollowed := true, recurses := true, apart := false }
def RootsTellsSaid : Prop := rootsTellsRow.holds Try.pinned (OpenSpec.ofChange rootsTellsSpec)

/-- ITS FALSE NEIGHBOUR: 'it returns false'. Refute it at one input. -/
def rootsTellsWrong : ChangeSpec := { name := "rootsTells", fn := fun _ => fun
  | [d1, d2, d3] => { results := [.lit (.bool false)], args := [d1, d2, d3] }
  | _ => none }
def RootsTellsWrongFalsely : Prop := rootsTellsRow.holds Try.pinned (OpenSpec.ofChange rootsTellsWrong)

/-- 'headroomlaw07.RootsTurn': WHATEVER THE INPUT: true; the input reads as it did. -/
def rootsTurnSpec : ChangeSpec := { name := "rootsTurn", fn := fun _ => fun
  | [d1, d2, d3] => { results := [.lit (.bool true)], args := [d1, d2, d3] }
  | _ => none }
def rootsTurnRow : OpenClaim := { program := "ytmglkelmdcpinaa", sum := "2ab7dd60d92d79380244ac260e1946a5e254b03c7fd34cbc9077dd41727781e0", func := "headroom/headroomlaw07.RootsTurn", spec := "rootsTurn", unfollowed := true, recurses := true, apart := false }
def RootsTurnSaid : Prop := rootsTurnRow.holds Try.pinned (OpenSpec.ofChange rootsTurnSpec)

/-- ITS FALSE NEIGHBOUR: 'it returns false'. Refute it at one input. -/
def rootsTurnWrong : ChangeSpec := { name := "rootsTurn", fn := fun _ => fun
  | [d1, d2, d3] => { results := [.lit (.bool false)], args := [d1, d2, d3] }
  | _ => none }
def RootsTurnWrongFalsely : Prop := rootsTurnRow.holds Try.pinned (OpenSpec.ofChange rootsTurnWrong)

/-- 'headroomlaw07.RootsProduct': WHATEVER THE INPUT: true; the input reads as it did. -/
def rootsProductSpec : ChangeSpec := { name := "rootsProduct", fn := fun _ => fun
  | [d1, d2, d3, d4] => { results := [.lit (.bool true)], args := [d1, d2, d3, d4] }
  | _ => none }
def rootsProductRow : OpenClaim := { program := "ytmglkelmdcpinaa", sum := "2ab7dd60d92d79380244ac260e1946a5e254b03c7fd34cbc9077dd41727781e0", func := "headroom/headroomlaw07.RootsProduct", spec := "rootsProduct", unfollowed := true, recurses := true, apart := false }
def RootsProductSaid : Prop := rootsProductRow.holds Try.pinned (OpenSpec.ofChange rootsProductSpec)

/-- ITS FALSE NEIGHBOUR: 'it returns false'. Refute it at one input. -/
def rootsProductWrong : ChangeSpec := { name := "rootsProduct", fn := fun _ => fun
  | [d1, d2, d3, d4] => { results := [.lit (.bool false)], args := [d1, d2, d3, d4] }
  | _ => none }
def RootsProductWrongFalsely : Prop := rootsProductRow.holds Try.pinned (OpenSpec.ofChange rootsProductWrong)

/-- 'headroomlaw11.FourTwos': WHATEVER THE INPUT: true; the input reads as it did. -/
def fourTwosSpec : ChangeSpec := { name := "fourTwos", fn := fun _ => fun
  | [d1, d2] => { results := [.lit (.bool true)], args := [d1, d2] }
  | _ => none }
def fourTwosRow : OpenClaim := { program := "ytmglkelmdcpinaa", sum := "2ab7dd60d92d79380244ac260e1946a5e254b03c7fd34cbc9077dd41727781e0", func := "headroom/headroomlaw11.FourTwos", spec := "fourTwos", unfollowed := true, recurses := true, apart := false }
def FourTwosSaid : Prop := fourTwosRow.holds Try.pinned (OpenSpec.ofChange fourTwosSpec)

/-- ITS FALSE NEIGHBOUR: 'it returns false'. Refute it at one input. -/
def fourTwosWrong : ChangeSpec := { name := "fourTwos", fn := fun _ => fun
  | [d1, d2] => { results := [.lit (.bool false)], args := [d1, d2] }
  | _ => none }
def FourTwosWrongFalsely : Prop := fourTwosRow.holds Try.pinned (OpenSpec.ofChange fourTwosWrong)

/-- 'headroomlaw07.RootsTables': WHATEVER THE INPUT: true; the input reads as it did. -/
def rootsTablesSpec : ChangeSpec := { name := "rootsTables", fn := fun _ => fun
  | [d1, d2, d3] => { results := [.lit (.bool true)], args := [d1, d2, d3] }
  | _ => none }
def rootsTablesRow : OpenClaim := { program := "ytmglkelmdcpinaa", sum := "2ab7dd60d92d79380244ac260e1946a5e254b03c7fd34cbc9077dd41727781e0", func := "headroom/headroomlaw07.RootsTables", spec := "rootsTables", unfollowed := true, recurses := true, apart := false }
def RootsTablesSaid : Prop := rootsTablesRow.holds Try.pinned (OpenSpec.ofChange rootsTablesSpec)

/-- ITS FALSE NEIGHBOUR: 'it returns false'. Refute it at one input. -/
def rootsTablesWrong : ChangeSpec := { name := "rootsTables", fn := fun _ => fun
  | [d1, d2, d3] => { results := [.lit (.bool false)], args := [d1, d2, d3] }
  | _ => none }
def RootsTablesWrongFalsely : Prop := rootsTablesRow.holds Try.pinned (OpenSpec.ofChange rootsTablesWrong)

/-- 'headroomlaw19.WindowMirrors': WHATEVER THE INPUT: true; the input reads as it did. -/
def windowMirrorsSpec : ChangeSpec := { name := "windowMirrors", fn := fun _ => fun
  | [d1, d2, d3] => { results := [.lit (.bool true)], args := [d1, d2, d3] }
  | _ => none }
def windowMirrorsRow : OpenClaim := { program := "ytmglkelmdcpinaa", sum := "2ab7dd60d92d79380244ac260e1946a5e254b03c7fd34cbc9077dd41727781e0", func := "headroom/headroomlaw19.WindowMirrors", spec := "windowMirrors", unfollowed := true, recurses := true, apart := false }
def WindowMirrorsSaid : Prop := windowMirrorsRow.holds Try.pinned (OpenSpec.ofChange windowMirrorsSpec)

/-- ITS FALSE NEIGHBOUR: 'it returns false'. Refute it at one input. -/
def windowMirrorsWrong : ChangeSpec := { name := "windowMirrors", fn := fun _ => fun
  | [d1, d2, d3] => { results := [.lit (.bool false)], args := [d1, d2, d3] }
  | _ => none }
def WindowMirrorsWrongFalsely : Prop := windowMirrorsRow.holds Try.pinned (OpenSpec.ofChange windowMirrorsWrong)

/-- 'headroomlaw19.WindowTables': WHATEVER THE INPUT: true; the input reads as it did. -/
def windowTablesSpec : ChangeSpec := { name := "windowTables", fn := fun _ => fun
  | [d1, d2, d3] => { results := [.lit (.bool true)], args := [d1, d2, d3] }
  | _ => none }
def windowTablesRow : OpenClaim := { program := "ytmglkelmdcpinaa", sum := "2ab7dd60d92d79380244ac260e1946a5e254b03c7fd34cbc9077dd41727781e0", func := "headroom/headroomlaw19.WindowTables", spec := "windowTables", unfollowed := true, recurses := true, apart := false }
def WindowTablesSaid : Prop := windowTablesRow.holds Try.pinned (OpenSpec.ofChange windowTablesSpec)

/-- ITS FALSE NEIGHBOUR: 'it returns false'. Refute it at one input. -/
def windowTablesWrong : ChangeSpec := { name := "windowTables", fn := fun _ => fun
  | [d1, d2, d3] => { results := [.lit (.bool false)], args := [d1, d2, d3] }
  | _ => none }
def WindowTablesWrongFalsely : Prop := windowTablesRow.holds Try.pinned (OpenSpec.ofChange windowTablesWrong)

/-- 'headroomlaw21.SingleQuarters': WHATEVER THE INPUT: true; the input reads as it did. -/
def singleQuartersSpec : ChangeSpec := { name := "singleQuarters", fn := fun _ => fun
  | [d1, d2] => { results := [.lit (.bool true)], args := [d1, d2] }
  | _ => none }
def singleQuartersRow : OpenClaim := { program := "ytmglkelmdcpinaa", sum := "2ab7dd60d92d79380244ac260e1946a5e254b03c7fd34cbc9077dd41727781e0", func := "headroom/headroomlaw21.SingleQuarters", spec := "singleQuarters", unfollowed := true, recurses := true, apart := false }
def SingleQuartersSaid : Prop := singleQuartersRow.holds Try.pinned (OpenSpec.ofChange singleQuartersSpec)

/-- ITS FALSE NEIGHBOUR: 'it returns false'. Refute it at one input. -/
def singleQuartersWrong : ChangeSpec := { name := "singleQuarters", fn := fun _ => fun
  | [d1, d2] => { results := [.lit (.bool false)], args := [d1, d2] }
  | _ => none }
def SingleQuartersWrongFalsely : Prop := singleQuartersRow.holds Try.pinned (OpenSpec.ofChange singleQuartersWrong)

/-- 'headroomlaw21.SingleBins': WHATEVER THE INPUT: true; the input reads as it did. -/
def singleBinsSpec : ChangeSpec := { name := "singleBins", fn := fun _ => fun
  | [d1, d2] => { results := [.lit (.bool true)], args := [d1, d2] }
  | _ => none }
def singleBinsRow : OpenClaim := { program := "ytmglkelmdcpinaa", sum := "2ab7dd60d92d79380244ac260e1946a5e254b03c7fd34cbc9077dd41727781e0", func := "headroom/headroomlaw21.SingleBins", spec := "singleBins", unfollowed := true, recurses := true, apart := false }
def SingleBinsSaid : Prop := singleBinsRow.holds Try.pinned (OpenSpec.ofChange singleBinsSpec)

/-- ITS FALSE NEIGHBOUR: 'it returns false'. Refute it at one input. -/
def singleBinsWrong : ChangeSpec := { name := "singleBins", fn := fun _ => fun
  | [d1, d2] => { results := [.lit (.bool false)], args := [d1, d2] }
  | _ => none }
def SingleBinsWrongFalsely : Prop := singleBinsRow.holds Try.pinned (OpenSpec.ofChange singleBinsWrong)

/-- 'headroomlaw21.SingleMirrors': WHATEVER THE INPUT: true; the input reads as it did. -/
def singleMirrorsSpec : ChangeSpec := { name := "singleMirrors", fn := fun _ => fun
  | [d1, d2] => { results := [.lit (.bool true)], args := [d1, d2] }
  | _ => none }
def singleMirrorsRow : OpenClaim := { program := "ytmglkelmdcpinaa", sum := "2ab7dd60d92d79380244ac260e1946a5e254b03c7fd34cbc9077dd41727781e0", func := "headroom/headroomlaw21.SingleMirrors", spec := "singleMirrors", unfollowed := true, recurses := true, apart := false }
def SingleMirrorsSaid : Prop := singleMirrorsRow.holds Try.pinned (OpenSpec.ofChange singleMirrorsSpec)

/-- ITS FALSE NEIGHBOUR: 'it returns false'. Refute it at one input. -/
def singleMirrorsWrong : ChangeSpec := { name := "singleMirrors", fn := fun _ => fun
  | [d1, d2] => { results := [.lit (.bool false)], args := [d1, d2] }
  | _ => none }
def SingleMirrorsWrongFalsely : Prop := singleMirrorsRow.holds Try.pinned (OpenSpec.ofChange singleMirrorsWrong)

/-- 'headroomlaw16.DftTurns': WHATEVER THE INPUT: true; the input reads as it did. -/
def dftTurnsSpec : ChangeSpec := { name := "dftTurns", fn := fun _ => fun
  | [d1, d2] => { results := [.lit (.bool true)], args := [d1, d2] }
  | _ => none }
def dftTurnsRow : OpenClaim := { program := "ytmglkelmdcpinaa", sum := "2ab7dd60d92d79380244ac260e1946a5e254b03c7fd34cbc9077dd41727781e0", func := "headroom/headroomlaw16.DftTurns", spec := "dftTurns", unfollowed := true, recurses := true, apart := false }
def DftTurnsSaid : Prop := dftTurnsRow.holds Try.pinned (OpenSpec.ofChange dftTurnsSpec)

/-- ITS FALSE NEIGHBOUR: 'it returns false'. Refute it at one input. -/
def dftTurnsWrong : ChangeSpec := { name := "dftTurns", fn := fun _ => fun
  | [d1, d2] => { results := [.lit (.bool false)], args := [d1, d2] }
  | _ => none }
def DftTurnsWrongFalsely : Prop := dftTurnsRow.holds Try.pinned (OpenSpec.ofChange dftTurnsWrong)

/-- 'headroomlaw16.DftBins': WHATEVER THE INPUT: true; the input reads as it did. -/
def dftBinsSpec : ChangeSpec := { name := "dftBins", fn := fun _ => fun
  | [d1, d2, d3] => { results := [.lit (.bool true)], args := [d1, d2, d3] }
  | _ => none }
def dftBinsRow : OpenClaim := { program := "ytmglkelmdcpinaa", sum := "2ab7dd60d92d79380244ac260e1946a5e254b03c7fd34cbc9077dd41727781e0", func := "headroom/headroomlaw16.DftBins", spec := "dftBins", unfollowed := true, recurses := true, apart := false }
def DftBinsSaid : Prop := dftBinsRow.holds Try.pinned (OpenSpec.ofChange dftBinsSpec)

/-- ITS FALSE NEIGHBOUR: 'it returns false'. Refute it at one input. -/
def dftBinsWrong : ChangeSpec := { name := "dftBins", fn := fun _ => fun
  | [d1, d2, d3] => { results := [.lit (.bool false)], args := [d1, d2, d3] }
  | _ => none }
def DftBinsWrongFalsely : Prop := dftBinsRow.holds Try.pinned (OpenSpec.ofChange dftBinsWrong)

/- THE SECOND FORM. 'bulk': how many values and letters a reading holds, each counted each time it is reached (what is shared counts as often as it is met; a slice's spare places count too). A statement '..UptoSaid' is the law's where the arguments, and the package variables that the reading takes, are together of bulk at most 1048576: NARROWER than '..Said'. Prove '..Said' where nothing that the law and all that it calls make is longer than what came in: it says more and counts as full. Else prove '..UptoSaid'. A law counts once. -/
mutual
def uptoBulk {H : Type} : DataW H → Nat
  | .lit (.string bytes) => bytes.length + 1
  | .lit _ => 1
  | .nil => 1
  | .ptr d => uptoBulk d + 1
  | .slice elems spare => uptoBulkAll elems + uptoBulkAll spare + 1
  | .agg parts => uptoBulkAll parts + 1
  | .iface _ d => uptoBulk d + 1
  | .map entries => uptoBulkEntries entries + 1
  | .held _ => 1
def uptoBulkAll {H : Type} : List (DataW H) → Nat
  | [] => 0
  | d :: r => uptoBulk d + uptoBulkAll r
def uptoBulkEntries {H : Type} : List (Lit × DataW H) → Nat
  | [] => 0
  | x :: r => uptoBulkEntry x + uptoBulkEntries r
def uptoBulkEntry {H : Type} : Lit × DataW H → Nat
  | (.string bytes, d) => bytes.length + uptoBulk d + 1
  | (_, d) => uptoBulk d + 1
 end
def uptoSmall : (H : Type) → List (DataW H) → Bool := fun _ ds => decide (uptoBulkAll ds ≤ 1048576)
def OpenSpec.upto (s : _root_.Go.ChangeSpec) : _root_.Go.OpenSpec := { _root_.Go.OpenSpec.ofChange s with cond := some uptoSmall }

/-- 'headroomlaw02.SatOnly', WHERE WHAT IT READS IS OF BULK AT MOST 1048576: true; the input reads as it did. -/
def satOnlyUptoRow : OpenClaim := { program := "ytmglkelmdcpinaa", sum := "2ab7dd60d92d79380244ac260e1946a5e254b03c7fd34cbc9077dd41727781e0", func := "headroom/headroomlaw02.SatOnly", spec := "satOnly", unfollowed := true, recurses := true, apart := false, narrowed := true }
def SatOnlyUptoSaid : Prop := satOnlyUptoRow.holds Try.pinned (OpenSpec.upto satOnlySpec)

/-- 'headroomlaw10.TwoPasses', WHERE WHAT IT READS IS OF BULK AT MOST 1048576: true; the input reads as it did. -/
def twoPassesUptoRow : OpenClaim := { program := "ytmglkelmdcpinaa", sum := "2ab7dd60d92d79380244ac260e1946a5e254b03c7fd34cbc9077dd41727781e0", func := "headroom/headroomlaw10.TwoPasses", spec := "twoPasses", unfollowed := true, recurses := true, apart := false, narrowed := true }
def TwoPassesUptoSaid : Prop := twoPassesUptoRow.holds Try.pinned (OpenSpec.upto twoPassesSpec)

/-- 'headroomlaw10.TwoGrows', WHERE WHAT IT READS IS OF BULK AT MOST 1048576: true; the input reads as it did. -/
def twoGrowsUptoRow : OpenClaim := { program := "ytmglkelmdcpinaa", sum := "2ab7dd60d92d79380244ac260e1946a5e254b03c7fd34cbc9077dd41727781e0", func := "headroom/headroomlaw10.TwoGrows", spec := "twoGrows", unfollowed := true, recurses := true, apart := false, narrowed := true }
def TwoGrowsUptoSaid : Prop := twoGrowsUptoRow.holds Try.pinned (OpenSpec.upto twoGrowsSpec)

/-- 'headroomlaw11.FourPasses', WHERE WHAT IT READS IS OF BULK AT MOST 1048576: true; the input reads as it did. -/
def fourPassesUptoRow : OpenClaim := { program := "ytmglkelmdcpinaa", sum := "2ab7dd60d92d79380244ac260e1946a5e254b03c7fd34cbc9077dd41727781e0", func := "headroom/headroomlaw11.FourPasses", spec := "fourPasses", unfollowed := true, recurses := true, apart := false, narrowed := true }
def FourPassesUptoSaid : Prop := fourPassesUptoRow.holds Try.pinned (OpenSpec.upto fourPassesSpec)

/-- 'headroomlaw11.FourGrows', WHERE WHAT IT READS IS OF BULK AT MOST 1048576: true; the input reads as it did. -/
def fourGrowsUptoRow : OpenClaim := { program := "ytmglkelmdcpinaa", sum := "2ab7dd60d92d79380244ac260e1946a5e254b03c7fd34cbc9077dd41727781e0", func := "headroom/headroomlaw11.FourGrows", spec := "fourGrows", unfollowed := true, recurses := true, apart := false, narrowed := true }
def FourGrowsUptoSaid : Prop := fourGrowsUptoRow.holds Try.pinned (OpenSpec.upto fourGrowsSpec)

/-- 'headroomlaw07.RootsTells', WHERE WHAT IT READS IS OF BULK AT MOST 1048576: true; the input reads as it did. -/
def rootsTellsUptoRow : OpenClaim := { program := "ytmglkelmdcpinaa", sum := "2ab7dd60d92d79380244ac260e1946a5e254b03c7fd34cbc9077dd41727781e0", func := "headroom/headroomlaw07.RootsTells", spec := "rootsTells", unfollowed := true, recurses := true, apart := false, narrowed := true }
def RootsTellsUptoSaid : Prop := rootsTellsUptoRow.holds Try.pinned (OpenSpec.upto rootsTellsSpec)

/-- 'headroomlaw07.RootsTurn', WHERE WHAT IT READS IS OF BULK AT MOST 1048576: true; the input reads as it did. -/
def rootsTurnUptoRow : OpenClaim := { program := "ytmglkelmdcpinaa", sum := "2ab7dd60d92d79380244ac260e1946a5e254b03c7fd34cbc9077dd41727781e0", func := "headroom/headroomlaw07.RootsTurn", spec := "rootsTurn", unfollowed := true, recurses := true, apart := false, narrowed := true }
def RootsTurnUptoSaid : Prop := rootsTurnUptoRow.holds Try.pinned (OpenSpec.upto rootsTurnSpec)

/-- 'headroomlaw07.RootsProduct', WHERE WHAT IT READS IS OF BULK AT MOST 1048576: true; the input reads as it did. -/
def rootsProductUptoRow : OpenClaim := { program := "ytmglkelmdcpinaa", sum := "2ab7dd60d92d79380244ac260e1946a5e254b03c7fd34cbc9077dd41727781e0", func := "headroom/headroomlaw07.RootsProduct", spec := "rootsProduct", unfollowed := true, recurses := true, apart := false, narrowed := true }
def RootsProductUptoSaid : Prop := rootsProductUptoRow.holds Try.pinned (OpenSpec.upto rootsProductSpec)

/-- 'headroomlaw11.FourTwos', WHERE WHAT IT READS IS OF BULK AT MOST 1048576: true; the input reads as it did. -/
def fourTwosUptoRow : OpenClaim := { program := "ytmglkelmdcpinaa", sum := "2ab7dd60d92d79380244ac260e1946a5e254b03c7fd34cbc9077dd41727781e0", func := "headroom/headroomlaw11.FourTwos", spec := "fourTwos", unfollowed := true, recurses := true, apart := false, narrowed := true }
def FourTwosUptoSaid : Prop := fourTwosUptoRow.holds Try.pinned (OpenSpec.upto fourTwosSpec)

/-- 'headroomlaw07.RootsTables', WHERE WHAT IT READS IS OF BULK AT MOST 1048576: true; the input reads as it did. -/
def rootsTablesUptoRow : OpenClaim := { program := "ytmglkelmdcpinaa", sum := "2ab7dd60d92d79380244ac260e1946a5e254b03c7fd34cbc9077dd41727781e0", func := "headroom/headroomlaw07.RootsTables", spec := "rootsTables", unfollowed := true, recurses := true, apart := false, narrowed := true }
def RootsTablesUptoSaid : Prop := rootsTablesUptoRow.holds Try.pinned (OpenSpec.upto rootsTablesSpec)

/-- 'headroomlaw19.WindowMirrors', WHERE WHAT IT READS IS OF BULK AT MOST 1048576: true; the input reads as it did. -/
def windowMirrorsUptoRow : OpenClaim := { program := "ytmglkelmdcpinaa", sum := "2ab7dd60d92d79380244ac260e1946a5e254b03c7fd34cbc9077dd41727781e0", func := "headroom/headroomlaw19.WindowMirrors", spec := "windowMirrors", unfollowed := true, recurses := true, apart := false, narrowed := true }
def WindowMirrorsUptoSaid : Prop := windowMirrorsUptoRow.holds Try.pinned (OpenSpec.upto windowMirrorsSpec)

/-- 'headroomlaw19.WindowTables', WHERE WHAT IT READS IS OF BULK AT MOST 1048576: true; the input reads as it did. -/
def windowTablesUptoRow : OpenClaim := { program := "ytmglkelmdcpinaa", sum := "2ab7dd60d92d79380244ac260e1946a5e254b03c7fd34cbc9077dd41727781e0", func := "headroom/headroomlaw19.WindowTables", spec := "windowTables", unfollowed := true, recurses := true, apart := false, narrowed := true }
def WindowTablesUptoSaid : Prop := windowTablesUptoRow.holds Try.pinned (OpenSpec.upto windowTablesSpec)

/-- 'headroomlaw21.SingleQuarters', WHERE WHAT IT READS IS OF BULK AT MOST 1048576: true; the input reads as it did. -/
def singleQuartersUptoRow : OpenClaim := { program := "ytmglkelmdcpinaa", sum := "2ab7dd60d92d79380244ac260e1946a5e254b03c7fd34cbc9077dd41727781e0", func := "headroom/headroomlaw21.SingleQuarters", spec := "singleQuarters", unfollowed := true, recurses := true, apart := false, narrowed := true }
def SingleQuartersUptoSaid : Prop := singleQuartersUptoRow.holds Try.pinned (OpenSpec.upto singleQuartersSpec)

/-- 'headroomlaw21.SingleBins', WHERE WHAT IT READS IS OF BULK AT MOST 1048576: true; the input reads as it did. -/
def singleBinsUptoRow : OpenClaim := { program := "ytmglkelmdcpinaa", sum := "2ab7dd60d92d79380244ac260e1946a5e254b03c7fd34cbc9077dd41727781e0", func := "headroom/headroomlaw21.SingleBins", spec := "singleBins", unfollowed := true, recurses := true, apart := false, narrowed := true }
def SingleBinsUptoSaid : Prop := singleBinsUptoRow.holds Try.pinned (OpenSpec.upto singleBinsSpec)

/-- 'headroomlaw21.SingleMirrors', WHERE WHAT IT READS IS OF BULK AT MOST 1048576: true; the input reads as it did. -/
def singleMirrorsUptoRow : OpenClaim := { program := "ytmglkelmdcpinaa", sum := "2ab7dd60d92d79380244ac260e1946a5e254b03c7fd34cbc9077dd41727781e0", func := "headroom/headroomlaw21.SingleMirrors", spec := "singleMirrors", unfollowed := true, recurses := true, apart := false, narrowed := true }
def SingleMirrorsUptoSaid : Prop := singleMirrorsUptoRow.holds Try.pinned (OpenSpec.upto singleMirrorsSpec)

/-- 'headroomlaw16.DftTurns', WHERE WHAT IT READS IS OF BULK AT MOST 1048576: true; the input reads as it did. -/
def dftTurnsUptoRow : OpenClaim := { program := "ytmglkelmdcpinaa", sum := "2ab7dd60d92d79380244ac260e1946a5e254b03c7fd34cbc9077dd41727781e0", func := "headroom/headroomlaw16.DftTurns", spec := "dftTurns", unfollowed := true, recurses := true, apart := false, narrowed := true }
def DftTurnsUptoSaid : Prop := dftTurnsUptoRow.holds Try.pinned (OpenSpec.upto dftTurnsSpec)

/-- 'headroomlaw16.DftBins', WHERE WHAT IT READS IS OF BULK AT MOST 1048576: true; the input reads as it did. -/
def dftBinsUptoRow : OpenClaim := { program := "ytmglkelmdcpinaa", sum := "2ab7dd60d92d79380244ac260e1946a5e254b03c7fd34cbc9077dd41727781e0", func := "headroom/headroomlaw16.DftBins", spec := "dftBins", unfollowed := true, recurses := true, apart := false, narrowed := true }
def DftBinsUptoSaid : Prop := dftBinsUptoRow.holds Try.pinned (OpenSpec.upto dftBinsSpec)

end Rows
end Go.Proofs.Ytmglkelmdcpinaa
