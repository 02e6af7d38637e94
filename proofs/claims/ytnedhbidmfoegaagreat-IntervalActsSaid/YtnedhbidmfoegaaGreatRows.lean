/-
  No cell of these rows narrows 'for every input' (looked for: loops, veiled, ifaces, maps, wideKeys, modest, calm, conditions, laid).
  DERIVED. THE GIVEN ROWS OF THIS SEAT. 8 by the template 'for every input the law returns true; each argument reads behind the call as it read before'; 0 by the template 'total and deterministic' (their statements: YtnedhbidmfoegaaGreatTotals.lean).
  GIVEN WITH THE SEED: the statements are not yours to turn. If you find one false, say at which input.
  Laid BY PROGRAM, IN A SANDBOX (cutbox-rows.mjs): the forced cells as the released guide's own fill.sh prints them over the translation 984da70ea6c865c9… (all of the seat's roots in one cut). By AI agents, Wed Nov 11 2026. No macro, syntax, notation, axiom, sorry.
-/
import Derived.Test.YtnedhbidmfoegaaGreatChecked
import GoSem.Claim
import GoSem.ClaimJoined
import GoSem.ClaimMapViews
import Derived.JoinedTies
import Derived.KernelRfl
namespace Go.Proofs.YtnedhbidmfoegaaGreat
/- THE CELL 'sum', in the pinned program and in every row, IS THE sha256 OF THE DUMP (.gsa) THAT YtnedhbidmfoegaaGreatProg.lean LOADS. Nothing in Lean hashes anything: it is a label: what it is worth is what the hold of that sum in a sandbox is worth. -/
noncomputable def Tryz.pinned : Pinned := { name := "ytnedhbidmfoegaagreat", sum := "984da70ea6c865c997df428f9674d5d41f93dee80db6a646a2557ed0bdc3d739", checked := Tryz.checked }
namespace Rows
def none {H : Type} : Left H := { results := [], args := [] }

/-- 'dspcompilerlaw04.IntervalEncloses': WHATEVER THE INPUT: true; the input reads as it did. -/
def intervalEnclosesSpec : ChangeSpec := { name := "intervalEncloses", fn := fun _ => fun
  | [d1, d2, d3, d4] => { results := [.lit (.bool true)], args := [d1, d2, d3, d4] }
  | _ => none }
def intervalEnclosesRow : OpenClaim := { program := "ytnedhbidmfoegaagreat", sum := "984da70ea6c865c997df428f9674d5d41f93dee80db6a646a2557ed0bdc3d739", func := "dspcompiler/dspcompilerlaw04.IntervalEncloses", spec := "intervalEncloses", unfollowed := true, recurses := true, apart := false }
def IntervalEnclosesSaid : Prop := intervalEnclosesRow.holds Tryz.pinned (OpenSpec.ofChange intervalEnclosesSpec)

/-- ITS FALSE NEIGHBOUR: 'it returns false'. Refute it at one input. -/
def intervalEnclosesWrong : ChangeSpec := { name := "intervalEncloses", fn := fun _ => fun
  | [d1, d2, d3, d4] => { results := [.lit (.bool false)], args := [d1, d2, d3, d4] }
  | _ => none }
def IntervalEnclosesWrongFalsely : Prop := intervalEnclosesRow.holds Tryz.pinned (OpenSpec.ofChange intervalEnclosesWrong)

/-- 'dspcompilerlaw05.PolyDivisions': WHATEVER THE INPUT: true; the input reads as it did. -/
def polyDivisionsSpec : ChangeSpec := { name := "polyDivisions", fn := fun _ => fun
  | [d1, d2, d3, d4] => { results := [.lit (.bool true)], args := [d1, d2, d3, d4] }
  | _ => none }
def polyDivisionsRow : OpenClaim := { program := "ytnedhbidmfoegaagreat", sum := "984da70ea6c865c997df428f9674d5d41f93dee80db6a646a2557ed0bdc3d739", func := "dspcompiler/dspcompilerlaw05.PolyDivisions", spec := "polyDivisions", unfollowed := true, recurses := true, apart := false }
def PolyDivisionsSaid : Prop := polyDivisionsRow.holds Tryz.pinned (OpenSpec.ofChange polyDivisionsSpec)

/-- ITS FALSE NEIGHBOUR: 'it returns false'. Refute it at one input. -/
def polyDivisionsWrong : ChangeSpec := { name := "polyDivisions", fn := fun _ => fun
  | [d1, d2, d3, d4] => { results := [.lit (.bool false)], args := [d1, d2, d3, d4] }
  | _ => none }
def PolyDivisionsWrongFalsely : Prop := polyDivisionsRow.holds Tryz.pinned (OpenSpec.ofChange polyDivisionsWrong)

/-- 'dspcompilerlaw05.PolyGcds': WHATEVER THE INPUT: true; the input reads as it did. -/
def polyGcdsSpec : ChangeSpec := { name := "polyGcds", fn := fun _ => fun
  | [d1, d2, d3] => { results := [.lit (.bool true)], args := [d1, d2, d3] }
  | _ => none }
def polyGcdsRow : OpenClaim := { program := "ytnedhbidmfoegaagreat", sum := "984da70ea6c865c997df428f9674d5d41f93dee80db6a646a2557ed0bdc3d739", func := "dspcompiler/dspcompilerlaw05.PolyGcds", spec := "polyGcds", unfollowed := true, recurses := true, apart := false }
def PolyGcdsSaid : Prop := polyGcdsRow.holds Tryz.pinned (OpenSpec.ofChange polyGcdsSpec)

/-- ITS FALSE NEIGHBOUR: 'it returns false'. Refute it at one input. -/
def polyGcdsWrong : ChangeSpec := { name := "polyGcds", fn := fun _ => fun
  | [d1, d2, d3] => { results := [.lit (.bool false)], args := [d1, d2, d3] }
  | _ => none }
def PolyGcdsWrongFalsely : Prop := polyGcdsRow.holds Tryz.pinned (OpenSpec.ofChange polyGcdsWrong)

/-- 'dspcompilerlaw05.PolySquarefrees': WHATEVER THE INPUT: true; the input reads as it did. -/
def polySquarefreesSpec : ChangeSpec := { name := "polySquarefrees", fn := fun _ => fun
  | [d] => { results := [.lit (.bool true)], args := [d] }
  | _ => none }
def polySquarefreesRow : OpenClaim := { program := "ytnedhbidmfoegaagreat", sum := "984da70ea6c865c997df428f9674d5d41f93dee80db6a646a2557ed0bdc3d739", func := "dspcompiler/dspcompilerlaw05.PolySquarefrees", spec := "polySquarefrees", unfollowed := true, recurses := true, apart := false }
def PolySquarefreesSaid : Prop := polySquarefreesRow.holds Tryz.pinned (OpenSpec.ofChange polySquarefreesSpec)

/-- ITS FALSE NEIGHBOUR: 'it returns false'. Refute it at one input. -/
def polySquarefreesWrong : ChangeSpec := { name := "polySquarefrees", fn := fun _ => fun
  | [d] => { results := [.lit (.bool false)], args := [d] }
  | _ => none }
def PolySquarefreesWrongFalsely : Prop := polySquarefreesRow.holds Tryz.pinned (OpenSpec.ofChange polySquarefreesWrong)

/-- 'dspcompilerlaw05.PolyEncloses': WHATEVER THE INPUT: true; the input reads as it did. -/
def polyEnclosesSpec : ChangeSpec := { name := "polyEncloses", fn := fun _ => fun
  | [d1, d2, d3, d4] => { results := [.lit (.bool true)], args := [d1, d2, d3, d4] }
  | _ => none }
def polyEnclosesRow : OpenClaim := { program := "ytnedhbidmfoegaagreat", sum := "984da70ea6c865c997df428f9674d5d41f93dee80db6a646a2557ed0bdc3d739", func := "dspcompiler/dspcompilerlaw05.PolyEncloses", spec := "polyEncloses", unfollowed := true, recurses := true, apart := false }
def PolyEnclosesSaid : Prop := polyEnclosesRow.holds Tryz.pinned (OpenSpec.ofChange polyEnclosesSpec)

/-- ITS FALSE NEIGHBOUR: 'it returns false'. Refute it at one input. -/
def polyEnclosesWrong : ChangeSpec := { name := "polyEncloses", fn := fun _ => fun
  | [d1, d2, d3, d4] => { results := [.lit (.bool false)], args := [d1, d2, d3, d4] }
  | _ => none }
def PolyEnclosesWrongFalsely : Prop := polyEnclosesRow.holds Tryz.pinned (OpenSpec.ofChange polyEnclosesWrong)

/-- 'dspcompilerlaw05.PolyValues': WHATEVER THE INPUT: true; the input reads as it did. -/
def polyValuesSpec : ChangeSpec := { name := "polyValues", fn := fun _ => fun
  | [d1, d2, d3] => { results := [.lit (.bool true)], args := [d1, d2, d3] }
  | _ => none }
def polyValuesRow : OpenClaim := { program := "ytnedhbidmfoegaagreat", sum := "984da70ea6c865c997df428f9674d5d41f93dee80db6a646a2557ed0bdc3d739", func := "dspcompiler/dspcompilerlaw05.PolyValues", spec := "polyValues", unfollowed := true, recurses := true, apart := false }
def PolyValuesSaid : Prop := polyValuesRow.holds Tryz.pinned (OpenSpec.ofChange polyValuesSpec)

/-- ITS FALSE NEIGHBOUR: 'it returns false'. Refute it at one input. -/
def polyValuesWrong : ChangeSpec := { name := "polyValues", fn := fun _ => fun
  | [d1, d2, d3] => { results := [.lit (.bool false)], args := [d1, d2, d3] }
  | _ => none }
def PolyValuesWrongFalsely : Prop := polyValuesRow.holds Tryz.pinned (OpenSpec.ofChange polyValuesWrong)

/-- 'dspcompilerlaw04.IntervalActs': WHATEVER THE INPUT: true; the input reads as it did. -/
def intervalActsSpec : ChangeSpec := { name := "intervalActs", fn := fun _ => fun
  | [d1, d2, d3, d4] => { results := [.lit (.bool true)], args := [d1, d2, d3, d4] }
  | _ => none }
def intervalActsRow : OpenClaim := { program := "ytnedhbidmfoegaagreat", sum := "984da70ea6c865c997df428f9674d5d41f93dee80db6a646a2557ed0bdc3d739", func := "dspcompiler/dspcompilerlaw04.IntervalActs", spec := "intervalActs", unfollowed := true, recurses := true, apart := false }
def IntervalActsSaid : Prop := intervalActsRow.holds Tryz.pinned (OpenSpec.ofChange intervalActsSpec)

/-- ITS FALSE NEIGHBOUR: 'it returns false'. Refute it at one input. -/
def intervalActsWrong : ChangeSpec := { name := "intervalActs", fn := fun _ => fun
  | [d1, d2, d3, d4] => { results := [.lit (.bool false)], args := [d1, d2, d3, d4] }
  | _ => none }
def IntervalActsWrongFalsely : Prop := intervalActsRow.holds Tryz.pinned (OpenSpec.ofChange intervalActsWrong)

/-- 'dspcompilerlaw05.PolyActs': WHATEVER THE INPUT: true; the input reads as it did. -/
def polyActsSpec : ChangeSpec := { name := "polyActs", fn := fun _ => fun
  | [d1, d2, d3, d4, d5] => { results := [.lit (.bool true)], args := [d1, d2, d3, d4, d5] }
  | _ => none }
def polyActsRow : OpenClaim := { program := "ytnedhbidmfoegaagreat", sum := "984da70ea6c865c997df428f9674d5d41f93dee80db6a646a2557ed0bdc3d739", func := "dspcompiler/dspcompilerlaw05.PolyActs", spec := "polyActs", unfollowed := true, recurses := true, apart := false }
def PolyActsSaid : Prop := polyActsRow.holds Tryz.pinned (OpenSpec.ofChange polyActsSpec)

/-- ITS FALSE NEIGHBOUR: 'it returns false'. Refute it at one input. -/
def polyActsWrong : ChangeSpec := { name := "polyActs", fn := fun _ => fun
  | [d1, d2, d3, d4, d5] => { results := [.lit (.bool false)], args := [d1, d2, d3, d4, d5] }
  | _ => none }
def PolyActsWrongFalsely : Prop := polyActsRow.holds Tryz.pinned (OpenSpec.ofChange polyActsWrong)

/- THE SECOND FORM. 'bulk': how many values and letters a reading holds, each counted each time it is reached (what is shared counts as often as it is met; a slice's spare places count too). A statement '..UptoSaid' is the law's where the arguments, and the package variables that the reading takes, are together of bulk at most 1048576: NARROWER than '..Said'. Prove '..Said' where nothing that the law and all that it calls make is longer than what came in: it says more and counts as full. Else prove '..UptoSaid'. A law counts once. -/
mutual
def uptoBulk {H : Type} : DataW H → Nat
  | .lit (.string bytes) => bytes.length + 1
  | .lit _ => 1
  | .nil => 1
  | .ptr d => uptoBulk d + 1
  | .slice elems spare => uptoBulkAll elems + uptoBulkAll spare + 1
  | .agg parts => uptoBulkAll parts + 1
  | .iface _ d => uptoBulk d + 1
  | .map entries => uptoBulkEntries entries + 1
  | .held _ => 1
def uptoBulkAll {H : Type} : List (DataW H) → Nat
  | [] => 0
  | d :: r => uptoBulk d + uptoBulkAll r
def uptoBulkEntries {H : Type} : List (Lit × DataW H) → Nat
  | [] => 0
  | x :: r => uptoBulkEntry x + uptoBulkEntries r
def uptoBulkEntry {H : Type} : Lit × DataW H → Nat
  | (.string bytes, d) => bytes.length + uptoBulk d + 1
  | (_, d) => uptoBulk d + 1
 end
def uptoSmall : (H : Type) → List (DataW H) → Bool := fun _ ds => decide (uptoBulkAll ds ≤ 1048576)
def OpenSpec.upto (s : _root_.Go.ChangeSpec) : _root_.Go.OpenSpec := { _root_.Go.OpenSpec.ofChange s with cond := some uptoSmall }

/-- 'dspcompilerlaw04.IntervalEncloses', WHERE WHAT IT READS IS OF BULK AT MOST 1048576: true; the input reads as it did. -/
def intervalEnclosesUptoRow : OpenClaim := { program := "ytnedhbidmfoegaagreat", sum := "984da70ea6c865c997df428f9674d5d41f93dee80db6a646a2557ed0bdc3d739", func := "dspcompiler/dspcompilerlaw04.IntervalEncloses", spec := "intervalEncloses", unfollowed := true, recurses := true, apart := false, narrowed := true }
def IntervalEnclosesUptoSaid : Prop := intervalEnclosesUptoRow.holds Tryz.pinned (OpenSpec.upto intervalEnclosesSpec)

/-- 'dspcompilerlaw05.PolyDivisions', WHERE WHAT IT READS IS OF BULK AT MOST 1048576: true; the input reads as it did. -/
def polyDivisionsUptoRow : OpenClaim := { program := "ytnedhbidmfoegaagreat", sum := "984da70ea6c865c997df428f9674d5d41f93dee80db6a646a2557ed0bdc3d739", func := "dspcompiler/dspcompilerlaw05.PolyDivisions", spec := "polyDivisions", unfollowed := true, recurses := true, apart := false, narrowed := true }
def PolyDivisionsUptoSaid : Prop := polyDivisionsUptoRow.holds Tryz.pinned (OpenSpec.upto polyDivisionsSpec)

/-- 'dspcompilerlaw05.PolyGcds', WHERE WHAT IT READS IS OF BULK AT MOST 1048576: true; the input reads as it did. -/
def polyGcdsUptoRow : OpenClaim := { program := "ytnedhbidmfoegaagreat", sum := "984da70ea6c865c997df428f9674d5d41f93dee80db6a646a2557ed0bdc3d739", func := "dspcompiler/dspcompilerlaw05.PolyGcds", spec := "polyGcds", unfollowed := true, recurses := true, apart := false, narrowed := true }
def PolyGcdsUptoSaid : Prop := polyGcdsUptoRow.holds Tryz.pinned (OpenSpec.upto polyGcdsSpec)

/-- 'dspcompilerlaw05.PolySquarefrees', WHERE WHAT IT READS IS OF BULK AT MOST 1048576: true; the input reads as it did. -/
def polySquarefreesUptoRow : OpenClaim := { program := "ytnedhbidmfoegaagreat", sum := "984da70ea6c865c997df428f9674d5d41f93dee80db6a646a2557ed0bdc3d739", func := "dspcompiler/dspcompilerlaw05.PolySquarefrees", spec := "polySquarefrees", unfollowed := true, recurses := true, apart := false, narrowed := true }
def PolySquarefreesUptoSaid : Prop := polySquarefreesUptoRow.holds Tryz.pinned (OpenSpec.upto polySquarefreesSpec)

/-- 'dspcompilerlaw05.PolyEncloses', WHERE WHAT IT READS IS OF BULK AT MOST 1048576: true; the input reads as it did. -/
def polyEnclosesUptoRow : OpenClaim := { program := "ytnedhbidmfoegaagreat", sum := "984da70ea6c865c997df428f9674d5d41f93dee80db6a646a2557ed0bdc3d739", func := "dspcompiler/dspcompilerlaw05.PolyEncloses", spec := "polyEncloses", unfollowed := true, recurses := true, apart := false, narrowed := true }
def PolyEnclosesUptoSaid : Prop := polyEnclosesUptoRow.holds Tryz.pinned (OpenSpec.upto polyEnclosesSpec)

/-- 'dspcompilerlaw05.PolyValues', WHERE WHAT IT READS IS OF BULK AT MOST 1048576: true; the input reads as it did. -/
def polyValuesUptoRow : OpenClaim := { program := "ytnedhbidmfoegaagreat", sum := "984da70ea6c865c997df428f9674d5d41f93dee80db6a646a2557ed0bdc3d739", func := "dspcompiler/dspcompilerlaw05.PolyValues", spec := "polyValues", unfollowed := true, recurses := true, apart := false, narrowed := true }
def PolyValuesUptoSaid : Prop := polyValuesUptoRow.holds Tryz.pinned (OpenSpec.upto polyValuesSpec)

/-- 'dspcompilerlaw04.IntervalActs', WHERE WHAT IT READS IS OF BULK AT MOST 1048576: true; the input reads as it did. -/
def intervalActsUptoRow : OpenClaim := { program := "ytnedhbidmfoegaagreat", sum := "984da70ea6c865c997df428f9674d5d41f93dee80db6a646a2557ed0bdc3d739", func := "dspcompiler/dspcompilerlaw04.IntervalActs", spec := "intervalActs", unfollowed := true, recurses := true, apart := false, narrowed := true }
def IntervalActsUptoSaid : Prop := intervalActsUptoRow.holds Tryz.pinned (OpenSpec.upto intervalActsSpec)

/-- 'dspcompilerlaw05.PolyActs', WHERE WHAT IT READS IS OF BULK AT MOST 1048576: true; the input reads as it did. -/
def polyActsUptoRow : OpenClaim := { program := "ytnedhbidmfoegaagreat", sum := "984da70ea6c865c997df428f9674d5d41f93dee80db6a646a2557ed0bdc3d739", func := "dspcompiler/dspcompilerlaw05.PolyActs", spec := "polyActs", unfollowed := true, recurses := true, apart := false, narrowed := true }
def PolyActsUptoSaid : Prop := polyActsUptoRow.holds Tryz.pinned (OpenSpec.upto polyActsSpec)

end Rows
end Go.Proofs.YtnedhbidmfoegaaGreat
