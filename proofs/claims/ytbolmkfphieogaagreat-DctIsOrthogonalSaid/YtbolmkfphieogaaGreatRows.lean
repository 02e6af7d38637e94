/-
  No cell of these rows narrows 'for every input' (looked for: loops, veiled, ifaces, maps, wideKeys, modest, calm, conditions, laid).
  DERIVED. THE GIVEN ROWS OF THIS SEAT. 12 by the template 'for every input the law returns true; each argument reads behind the call as it read before'; 0 by the template 'total and deterministic' (their statements: YtbolmkfphieogaaGreatTotals.lean).
  GIVEN WITH THE SEED: the statements are not yours to turn. If you find one false, say at which input.
  Laid BY PROGRAM, IN A SANDBOX (cutbox-rows.mjs): the forced cells as the released guide's own fill.sh prints them over the translation e1f0e0670a9b7a8d… (all of the seat's roots in one cut). By AI agents, Wed Nov 11 2026. No macro, syntax, notation, axiom, sorry.
-/
import Derived.Test.YtbolmkfphieogaaGreatChecked
import GoSem.Claim
import GoSem.ClaimJoined
import GoSem.ClaimMapViews
import Derived.JoinedTies
import Derived.KernelRfl
namespace Go.Proofs.YtbolmkfphieogaaGreat
/- THE CELL 'sum', in the pinned program and in every row, IS THE sha256 OF THE DUMP (.gsa) THAT YtbolmkfphieogaaGreatProg.lean LOADS. Nothing in Lean hashes anything: it is a label: what it is worth is what the hold of that sum in a sandbox is worth. -/
noncomputable def Tryz.pinned : Pinned := { name := "ytbolmkfphieogaagreat", sum := "e1f0e0670a9b7a8dcb0ed4ca18adb7634d12881b193c90299571d2a3c26f9360", checked := Tryz.checked }
namespace Rows
def none {H : Type} : Left H := { results := [], args := [] }

/-- 'dspcompilerlaw10.EnclosureRoots': WHATEVER THE INPUT: true; the input reads as it did. -/
def enclosureRootsSpec : ChangeSpec := { name := "enclosureRoots", fn := fun _ => fun
  | [d1, d2, d3] => { results := [.lit (.bool true)], args := [d1, d2, d3] }
  | _ => none }
def enclosureRootsRow : OpenClaim := { program := "ytbolmkfphieogaagreat", sum := "e1f0e0670a9b7a8dcb0ed4ca18adb7634d12881b193c90299571d2a3c26f9360", func := "dspcompiler/dspcompilerlaw10.EnclosureRoots", spec := "enclosureRoots", unfollowed := true, recurses := true, apart := false }
def EnclosureRootsSaid : Prop := enclosureRootsRow.holds Tryz.pinned (OpenSpec.ofChange enclosureRootsSpec)

/-- ITS FALSE NEIGHBOUR: 'it returns false'. Refute it at one input. -/
def enclosureRootsWrong : ChangeSpec := { name := "enclosureRoots", fn := fun _ => fun
  | [d1, d2, d3] => { results := [.lit (.bool false)], args := [d1, d2, d3] }
  | _ => none }
def EnclosureRootsWrongFalsely : Prop := enclosureRootsRow.holds Tryz.pinned (OpenSpec.ofChange enclosureRootsWrong)

/-- 'dspcompilerlaw10.EnclosureTight': WHATEVER THE INPUT: true; the input reads as it did. -/
def enclosureTightSpec : ChangeSpec := { name := "enclosureTight", fn := fun _ => fun
  | [d1, d2, d3] => { results := [.lit (.bool true)], args := [d1, d2, d3] }
  | _ => none }
def enclosureTightRow : OpenClaim := { program := "ytbolmkfphieogaagreat", sum := "e1f0e0670a9b7a8dcb0ed4ca18adb7634d12881b193c90299571d2a3c26f9360", func := "dspcompiler/dspcompilerlaw10.EnclosureTight", spec := "enclosureTight", unfollowed := true, recurses := true, apart := false }
def EnclosureTightSaid : Prop := enclosureTightRow.holds Tryz.pinned (OpenSpec.ofChange enclosureTightSpec)

/-- ITS FALSE NEIGHBOUR: 'it returns false'. Refute it at one input. -/
def enclosureTightWrong : ChangeSpec := { name := "enclosureTight", fn := fun _ => fun
  | [d1, d2, d3] => { results := [.lit (.bool false)], args := [d1, d2, d3] }
  | _ => none }
def EnclosureTightWrongFalsely : Prop := enclosureTightRow.holds Tryz.pinned (OpenSpec.ofChange enclosureTightWrong)

/-- 'dspcompilerlaw10.EnclosureNests': WHATEVER THE INPUT: true; the input reads as it did. -/
def enclosureNestsSpec : ChangeSpec := { name := "enclosureNests", fn := fun _ => fun
  | [d1, d2, d3, d4, d5] => { results := [.lit (.bool true)], args := [d1, d2, d3, d4, d5] }
  | _ => none }
def enclosureNestsRow : OpenClaim := { program := "ytbolmkfphieogaagreat", sum := "e1f0e0670a9b7a8dcb0ed4ca18adb7634d12881b193c90299571d2a3c26f9360", func := "dspcompiler/dspcompilerlaw10.EnclosureNests", spec := "enclosureNests", unfollowed := true, recurses := true, apart := false }
def EnclosureNestsSaid : Prop := enclosureNestsRow.holds Tryz.pinned (OpenSpec.ofChange enclosureNestsSpec)

/-- ITS FALSE NEIGHBOUR: 'it returns false'. Refute it at one input. -/
def enclosureNestsWrong : ChangeSpec := { name := "enclosureNests", fn := fun _ => fun
  | [d1, d2, d3, d4, d5] => { results := [.lit (.bool false)], args := [d1, d2, d3, d4, d5] }
  | _ => none }
def EnclosureNestsWrongFalsely : Prop := enclosureNestsRow.holds Tryz.pinned (OpenSpec.ofChange enclosureNestsWrong)

/-- 'dspcompilerlaw10.EnclosureCosines': WHATEVER THE INPUT: true; the input reads as it did. -/
def enclosureCosinesSpec : ChangeSpec := { name := "enclosureCosines", fn := fun _ => fun
  | [d1, d2, d3] => { results := [.lit (.bool true)], args := [d1, d2, d3] }
  | _ => none }
def enclosureCosinesRow : OpenClaim := { program := "ytbolmkfphieogaagreat", sum := "e1f0e0670a9b7a8dcb0ed4ca18adb7634d12881b193c90299571d2a3c26f9360", func := "dspcompiler/dspcompilerlaw10.EnclosureCosines", spec := "enclosureCosines", unfollowed := true, recurses := true, apart := false }
def EnclosureCosinesSaid : Prop := enclosureCosinesRow.holds Tryz.pinned (OpenSpec.ofChange enclosureCosinesSpec)

/-- ITS FALSE NEIGHBOUR: 'it returns false'. Refute it at one input. -/
def enclosureCosinesWrong : ChangeSpec := { name := "enclosureCosines", fn := fun _ => fun
  | [d1, d2, d3] => { results := [.lit (.bool false)], args := [d1, d2, d3] }
  | _ => none }
def EnclosureCosinesWrongFalsely : Prop := enclosureCosinesRow.holds Tryz.pinned (OpenSpec.ofChange enclosureCosinesWrong)

/-- 'dspcompilerlaw10.EnclosureTurns': WHATEVER THE INPUT: true; the input reads as it did. -/
def enclosureTurnsSpec : ChangeSpec := { name := "enclosureTurns", fn := fun _ => fun
  | [d1, d2, d3] => { results := [.lit (.bool true)], args := [d1, d2, d3] }
  | _ => none }
def enclosureTurnsRow : OpenClaim := { program := "ytbolmkfphieogaagreat", sum := "e1f0e0670a9b7a8dcb0ed4ca18adb7634d12881b193c90299571d2a3c26f9360", func := "dspcompiler/dspcompilerlaw10.EnclosureTurns", spec := "enclosureTurns", unfollowed := true, recurses := true, apart := false }
def EnclosureTurnsSaid : Prop := enclosureTurnsRow.holds Tryz.pinned (OpenSpec.ofChange enclosureTurnsSpec)

/-- ITS FALSE NEIGHBOUR: 'it returns false'. Refute it at one input. -/
def enclosureTurnsWrong : ChangeSpec := { name := "enclosureTurns", fn := fun _ => fun
  | [d1, d2, d3] => { results := [.lit (.bool false)], args := [d1, d2, d3] }
  | _ => none }
def EnclosureTurnsWrongFalsely : Prop := enclosureTurnsRow.holds Tryz.pinned (OpenSpec.ofChange enclosureTurnsWrong)

/-- 'dspcompilerlaw10.EnclosureChebyshev': WHATEVER THE INPUT: true; the input reads as it did. -/
def enclosureChebyshevSpec : ChangeSpec := { name := "enclosureChebyshev", fn := fun _ => fun
  | [d1, d2, d3] => { results := [.lit (.bool true)], args := [d1, d2, d3] }
  | _ => none }
def enclosureChebyshevRow : OpenClaim := { program := "ytbolmkfphieogaagreat", sum := "e1f0e0670a9b7a8dcb0ed4ca18adb7634d12881b193c90299571d2a3c26f9360", func := "dspcompiler/dspcompilerlaw10.EnclosureChebyshev", spec := "enclosureChebyshev", unfollowed := true, recurses := true, apart := false }
def EnclosureChebyshevSaid : Prop := enclosureChebyshevRow.holds Tryz.pinned (OpenSpec.ofChange enclosureChebyshevSpec)

/-- ITS FALSE NEIGHBOUR: 'it returns false'. Refute it at one input. -/
def enclosureChebyshevWrong : ChangeSpec := { name := "enclosureChebyshev", fn := fun _ => fun
  | [d1, d2, d3] => { results := [.lit (.bool false)], args := [d1, d2, d3] }
  | _ => none }
def EnclosureChebyshevWrongFalsely : Prop := enclosureChebyshevRow.holds Tryz.pinned (OpenSpec.ofChange enclosureChebyshevWrong)

/-- 'dspcompilerlaw37.DctReverses': WHATEVER THE INPUT: true; the input reads as it did. -/
def dctReversesSpec : ChangeSpec := { name := "dctReverses", fn := fun _ => fun
  | [d1, d2] => { results := [.lit (.bool true)], args := [d1, d2] }
  | _ => none }
def dctReversesRow : OpenClaim := { program := "ytbolmkfphieogaagreat", sum := "e1f0e0670a9b7a8dcb0ed4ca18adb7634d12881b193c90299571d2a3c26f9360", func := "dspcompiler/dspcompilerlaw37.DctReverses", spec := "dctReverses", unfollowed := true, recurses := true, apart := false }
def DctReversesSaid : Prop := dctReversesRow.holds Tryz.pinned (OpenSpec.ofChange dctReversesSpec)

/-- ITS FALSE NEIGHBOUR: 'it returns false'. Refute it at one input. -/
def dctReversesWrong : ChangeSpec := { name := "dctReverses", fn := fun _ => fun
  | [d1, d2] => { results := [.lit (.bool false)], args := [d1, d2] }
  | _ => none }
def DctReversesWrongFalsely : Prop := dctReversesRow.holds Tryz.pinned (OpenSpec.ofChange dctReversesWrong)

/-- 'dspcompilerlaw37.DctKeepsVolume': WHATEVER THE INPUT: true; the input reads as it did. -/
def dctKeepsVolumeSpec : ChangeSpec := { name := "dctKeepsVolume", fn := fun _ => fun
  | [d1, d2] => { results := [.lit (.bool true)], args := [d1, d2] }
  | _ => none }
def dctKeepsVolumeRow : OpenClaim := { program := "ytbolmkfphieogaagreat", sum := "e1f0e0670a9b7a8dcb0ed4ca18adb7634d12881b193c90299571d2a3c26f9360", func := "dspcompiler/dspcompilerlaw37.DctKeepsVolume", spec := "dctKeepsVolume", unfollowed := true, recurses := true, apart := false }
def DctKeepsVolumeSaid : Prop := dctKeepsVolumeRow.holds Tryz.pinned (OpenSpec.ofChange dctKeepsVolumeSpec)

/-- ITS FALSE NEIGHBOUR: 'it returns false'. Refute it at one input. -/
def dctKeepsVolumeWrong : ChangeSpec := { name := "dctKeepsVolume", fn := fun _ => fun
  | [d1, d2] => { results := [.lit (.bool false)], args := [d1, d2] }
  | _ => none }
def DctKeepsVolumeWrongFalsely : Prop := dctKeepsVolumeRow.holds Tryz.pinned (OpenSpec.ofChange dctKeepsVolumeWrong)

/-- 'dspcompilerlaw37.DctStaysNear': WHATEVER THE INPUT: true; the input reads as it did. -/
def dctStaysNearSpec : ChangeSpec := { name := "dctStaysNear", fn := fun _ => fun
  | [d1, d2] => { results := [.lit (.bool true)], args := [d1, d2] }
  | _ => none }
def dctStaysNearRow : OpenClaim := { program := "ytbolmkfphieogaagreat", sum := "e1f0e0670a9b7a8dcb0ed4ca18adb7634d12881b193c90299571d2a3c26f9360", func := "dspcompiler/dspcompilerlaw37.DctStaysNear", spec := "dctStaysNear", unfollowed := true, recurses := true, apart := false }
def DctStaysNearSaid : Prop := dctStaysNearRow.holds Tryz.pinned (OpenSpec.ofChange dctStaysNearSpec)

/-- ITS FALSE NEIGHBOUR: 'it returns false'. Refute it at one input. -/
def dctStaysNearWrong : ChangeSpec := { name := "dctStaysNear", fn := fun _ => fun
  | [d1, d2] => { results := [.lit (.bool false)], args := [d1, d2] }
  | _ => none }
def DctStaysNearWrongFalsely : Prop := dctStaysNearRow.holds Tryz.pinned (OpenSpec.ofChange dctStaysNearWrong)

/-- 'dspcompilerlaw37.DctDoes': WHATEVER THE INPUT: true; the input reads as it did. -/
def dctDoesSpec : ChangeSpec := { name := "dctDoes", fn := fun _ => fun
  | [d1, d2, d3] => { results := [.lit (.bool true)], args := [d1, d2, d3] }
  | _ => none }
def dctDoesRow : OpenClaim := { program := "ytbolmkfphieogaagreat", sum := "e1f0e0670a9b7a8dcb0ed4ca18adb7634d12881b193c90299571d2a3c26f9360", func := "dspcompiler/dspcompilerlaw37.DctDoes", spec := "dctDoes", unfollowed := true, recurses := true, apart := false }
def DctDoesSaid : Prop := dctDoesRow.holds Tryz.pinned (OpenSpec.ofChange dctDoesSpec)

/-- ITS FALSE NEIGHBOUR: 'it returns false'. Refute it at one input. -/
def dctDoesWrong : ChangeSpec := { name := "dctDoes", fn := fun _ => fun
  | [d1, d2, d3] => { results := [.lit (.bool false)], args := [d1, d2, d3] }
  | _ => none }
def DctDoesWrongFalsely : Prop := dctDoesRow.holds Tryz.pinned (OpenSpec.ofChange dctDoesWrong)

/-- 'dspcompilerlaw37.DctIsOrthogonal': WHATEVER THE INPUT: true; the input reads as it did. -/
def dctIsOrthogonalSpec : ChangeSpec := { name := "dctIsOrthogonal", fn := fun _ => fun
  | [d1, d2, d3, d4] => { results := [.lit (.bool true)], args := [d1, d2, d3, d4] }
  | _ => none }
def dctIsOrthogonalRow : OpenClaim := { program := "ytbolmkfphieogaagreat", sum := "e1f0e0670a9b7a8dcb0ed4ca18adb7634d12881b193c90299571d2a3c26f9360", func := "dspcompiler/dspcompilerlaw37.DctIsOrthogonal", spec := "dctIsOrthogonal", unfollowed := true, recurses := true, apart := false }
def DctIsOrthogonalSaid : Prop := dctIsOrthogonalRow.holds Tryz.pinned (OpenSpec.ofChange dctIsOrthogonalSpec)

/-- ITS FALSE NEIGHBOUR: 'it returns false'. Refute it at one input. -/
def dctIsOrthogonalWrong : ChangeSpec := { name := "dctIsOrthogonal", fn := fun _ => fun
  | [d1, d2, d3, d4] => { results := [.lit (.bool false)], args := [d1, d2, d3, d4] }
  | _ => none }
def DctIsOrthogonalWrongFalsely : Prop := dctIsOrthogonalRow.holds Tryz.pinned (OpenSpec.ofChange dctIsOrthogonalWrong)

/-- 'dspcompilerlaw37.DctCosines': WHATEVER THE INPUT: true; the input reads as it did. -/
def dctCosinesSpec : ChangeSpec := { name := "dctCosines", fn := fun _ => fun
  | [d1, d2, d3, d4, d5, d6] => { results := [.lit (.bool true)], args := [d1, d2, d3, d4, d5, d6] }
  | _ => none }
def dctCosinesRow : OpenClaim := { program := "ytbolmkfphieogaagreat", sum := "e1f0e0670a9b7a8dcb0ed4ca18adb7634d12881b193c90299571d2a3c26f9360", func := "dspcompiler/dspcompilerlaw37.DctCosines", spec := "dctCosines", unfollowed := true, recurses := true, apart := false }
def DctCosinesSaid : Prop := dctCosinesRow.holds Tryz.pinned (OpenSpec.ofChange dctCosinesSpec)

/-- ITS FALSE NEIGHBOUR: 'it returns false'. Refute it at one input. -/
def dctCosinesWrong : ChangeSpec := { name := "dctCosines", fn := fun _ => fun
  | [d1, d2, d3, d4, d5, d6] => { results := [.lit (.bool false)], args := [d1, d2, d3, d4, d5, d6] }
  | _ => none }
def DctCosinesWrongFalsely : Prop := dctCosinesRow.holds Tryz.pinned (OpenSpec.ofChange dctCosinesWrong)

/- THE SECOND FORM. 'bulk': how many values and letters a reading holds, each counted each time it is reached (what is shared counts as often as it is met; a slice's spare places count too). A statement '..UptoSaid' is the law's where the arguments, and the package variables that the reading takes, are together of bulk at most 1048576: NARROWER than '..Said'. Prove '..Said' where nothing that the law and all that it calls make is longer than what came in: it says more and counts as full. Else prove '..UptoSaid'. A law counts once. -/
mutual
def uptoBulk {H : Type} : DataW H → Nat
  | .lit (.string bytes) => bytes.length + 1
  | .lit _ => 1
  | .nil => 1
  | .ptr d => uptoBulk d + 1
  | .slice elems spare => uptoBulkAll elems + uptoBulkAll spare + 1
  | .agg parts => uptoBulkAll parts + 1
  | .iface _ d => uptoBulk d + 1
  | .map entries => uptoBulkEntries entries + 1
  | .held _ => 1
def uptoBulkAll {H : Type} : List (DataW H) → Nat
  | [] => 0
  | d :: r => uptoBulk d + uptoBulkAll r
def uptoBulkEntries {H : Type} : List (Lit × DataW H) → Nat
  | [] => 0
  | x :: r => uptoBulkEntry x + uptoBulkEntries r
def uptoBulkEntry {H : Type} : Lit × DataW H → Nat
  | (.string bytes, d) => bytes.length + uptoBulk d + 1
  | (_, d) => uptoBulk d + 1
 end
def uptoSmall : (H : Type) → List (DataW H) → Bool := fun _ ds => decide (uptoBulkAll ds ≤ 1048576)
def OpenSpec.upto (s : _root_.Go.ChangeSpec) : _root_.Go.OpenSpec := { _root_.Go.OpenSpec.ofChange s with cond := some uptoSmall }

/-- 'dspcompilerlaw10.EnclosureRoots', WHERE WHAT IT READS IS OF BULK AT MOST 1048576: true; the input reads as it did. -/
def enclosureRootsUptoRow : OpenClaim := { program := "ytbolmkfphieogaagreat", sum := "e1f0e0670a9b7a8dcb0ed4ca18adb7634d12881b193c90299571d2a3c26f9360", func := "dspcompiler/dspcompilerlaw10.EnclosureRoots", spec := "enclosureRoots", unfollowed := true, recurses := true, apart := false, narrowed := true }
def EnclosureRootsUptoSaid : Prop := enclosureRootsUptoRow.holds Tryz.pinned (OpenSpec.upto enclosureRootsSpec)

/-- 'dspcompilerlaw10.EnclosureTight', WHERE WHAT IT READS IS OF BULK AT MOST 1048576: true; the input reads as it did. -/
def enclosureTightUptoRow : OpenClaim := { program := "ytbolmkfphieogaagreat", sum := "e1f0e0670a9b7a8dcb0ed4ca18adb7634d12881b193c90299571d2a3c26f9360", func := "dspcompiler/dspcompilerlaw10.EnclosureTight", spec := "enclosureTight", unfollowed := true, recurses := true, apart := false, narrowed := true }
def EnclosureTightUptoSaid : Prop := enclosureTightUptoRow.holds Tryz.pinned (OpenSpec.upto enclosureTightSpec)

/-- 'dspcompilerlaw10.EnclosureNests', WHERE WHAT IT READS IS OF BULK AT MOST 1048576: true; the input reads as it did. -/
def enclosureNestsUptoRow : OpenClaim := { program := "ytbolmkfphieogaagreat", sum := "e1f0e0670a9b7a8dcb0ed4ca18adb7634d12881b193c90299571d2a3c26f9360", func := "dspcompiler/dspcompilerlaw10.EnclosureNests", spec := "enclosureNests", unfollowed := true, recurses := true, apart := false, narrowed := true }
def EnclosureNestsUptoSaid : Prop := enclosureNestsUptoRow.holds Tryz.pinned (OpenSpec.upto enclosureNestsSpec)

/-- 'dspcompilerlaw10.EnclosureCosines', WHERE WHAT IT READS IS OF BULK AT MOST 1048576: true; the input reads as it did. -/
def enclosureCosinesUptoRow : OpenClaim := { program := "ytbolmkfphieogaagreat", sum := "e1f0e0670a9b7a8dcb0ed4ca18adb7634d12881b193c90299571d2a3c26f9360", func := "dspcompiler/dspcompilerlaw10.EnclosureCosines", spec := "enclosureCosines", unfollowed := true, recurses := true, apart := false, narrowed := true }
def EnclosureCosinesUptoSaid : Prop := enclosureCosinesUptoRow.holds Tryz.pinned (OpenSpec.upto enclosureCosinesSpec)

/-- 'dspcompilerlaw10.EnclosureTurns', WHERE WHAT IT READS IS OF BULK AT MOST 1048576: true; the input reads as it did. -/
def enclosureTurnsUptoRow : OpenClaim := { program := "ytbolmkfphieogaagreat", sum := "e1f0e0670a9b7a8dcb0ed4ca18adb7634d12881b193c90299571d2a3c26f9360", func := "dspcompiler/dspcompilerlaw10.EnclosureTurns", spec := "enclosureTurns", unfollowed := true, recurses := true, apart := false, narrowed := true }
def EnclosureTurnsUptoSaid : Prop := enclosureTurnsUptoRow.holds Tryz.pinned (OpenSpec.upto enclosureTurnsSpec)

/-- 'dspcompilerlaw10.EnclosureChebyshev', WHERE WHAT IT READS IS OF BULK AT MOST 1048576: true; the input reads as it did. -/
def enclosureChebyshevUptoRow : OpenClaim := { program := "ytbolmkfphieogaagreat", sum := "e1f0e0670a9b7a8dcb0ed4ca18adb7634d12881b193c90299571d2a3c26f9360", func := "dspcompiler/dspcompilerlaw10.EnclosureChebyshev", spec := "enclosureChebyshev", unfollowed := true, recurses := true, apart := false, narrowed := true }
def EnclosureChebyshevUptoSaid : Prop := enclosureChebyshevUptoRow.holds Tryz.pinned (OpenSpec.upto enclosureChebyshevSpec)

/-- 'dspcompilerlaw37.DctReverses', WHERE WHAT IT READS IS OF BULK AT MOST 1048576: true; the input reads as it did. -/
def dctReversesUptoRow : OpenClaim := { program := "ytbolmkfphieogaagreat", sum := "e1f0e0670a9b7a8dcb0ed4ca18adb7634d12881b193c90299571d2a3c26f9360", func := "dspcompiler/dspcompilerlaw37.DctReverses", spec := "dctReverses", unfollowed := true, recurses := true, apart := false, narrowed := true }
def DctReversesUptoSaid : Prop := dctReversesUptoRow.holds Tryz.pinned (OpenSpec.upto dctReversesSpec)

/-- 'dspcompilerlaw37.DctKeepsVolume', WHERE WHAT IT READS IS OF BULK AT MOST 1048576: true; the input reads as it did. -/
def dctKeepsVolumeUptoRow : OpenClaim := { program := "ytbolmkfphieogaagreat", sum := "e1f0e0670a9b7a8dcb0ed4ca18adb7634d12881b193c90299571d2a3c26f9360", func := "dspcompiler/dspcompilerlaw37.DctKeepsVolume", spec := "dctKeepsVolume", unfollowed := true, recurses := true, apart := false, narrowed := true }
def DctKeepsVolumeUptoSaid : Prop := dctKeepsVolumeUptoRow.holds Tryz.pinned (OpenSpec.upto dctKeepsVolumeSpec)

/-- 'dspcompilerlaw37.DctStaysNear', WHERE WHAT IT READS IS OF BULK AT MOST 1048576: true; the input reads as it did. -/
def dctStaysNearUptoRow : OpenClaim := { program := "ytbolmkfphieogaagreat", sum := "e1f0e0670a9b7a8dcb0ed4ca18adb7634d12881b193c90299571d2a3c26f9360", func := "dspcompiler/dspcompilerlaw37.DctStaysNear", spec := "dctStaysNear", unfollowed := true, recurses := true, apart := false, narrowed := true }
def DctStaysNearUptoSaid : Prop := dctStaysNearUptoRow.holds Tryz.pinned (OpenSpec.upto dctStaysNearSpec)

/-- 'dspcompilerlaw37.DctDoes', WHERE WHAT IT READS IS OF BULK AT MOST 1048576: true; the input reads as it did. -/
def dctDoesUptoRow : OpenClaim := { program := "ytbolmkfphieogaagreat", sum := "e1f0e0670a9b7a8dcb0ed4ca18adb7634d12881b193c90299571d2a3c26f9360", func := "dspcompiler/dspcompilerlaw37.DctDoes", spec := "dctDoes", unfollowed := true, recurses := true, apart := false, narrowed := true }
def DctDoesUptoSaid : Prop := dctDoesUptoRow.holds Tryz.pinned (OpenSpec.upto dctDoesSpec)

/-- 'dspcompilerlaw37.DctIsOrthogonal', WHERE WHAT IT READS IS OF BULK AT MOST 1048576: true; the input reads as it did. -/
def dctIsOrthogonalUptoRow : OpenClaim := { program := "ytbolmkfphieogaagreat", sum := "e1f0e0670a9b7a8dcb0ed4ca18adb7634d12881b193c90299571d2a3c26f9360", func := "dspcompiler/dspcompilerlaw37.DctIsOrthogonal", spec := "dctIsOrthogonal", unfollowed := true, recurses := true, apart := false, narrowed := true }
def DctIsOrthogonalUptoSaid : Prop := dctIsOrthogonalUptoRow.holds Tryz.pinned (OpenSpec.upto dctIsOrthogonalSpec)

/-- 'dspcompilerlaw37.DctCosines', WHERE WHAT IT READS IS OF BULK AT MOST 1048576: true; the input reads as it did. -/
def dctCosinesUptoRow : OpenClaim := { program := "ytbolmkfphieogaagreat", sum := "e1f0e0670a9b7a8dcb0ed4ca18adb7634d12881b193c90299571d2a3c26f9360", func := "dspcompiler/dspcompilerlaw37.DctCosines", spec := "dctCosines", unfollowed := true, recurses := true, apart := false, narrowed := true }
def DctCosinesUptoSaid : Prop := dctCosinesUptoRow.holds Tryz.pinned (OpenSpec.upto dctCosinesSpec)

end Rows
end Go.Proofs.YtbolmkfphieogaaGreat
