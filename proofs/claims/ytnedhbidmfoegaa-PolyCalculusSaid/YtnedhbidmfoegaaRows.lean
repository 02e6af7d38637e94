/-
  No cell of these rows narrows 'for every input' (looked for: loops, veiled, ifaces, maps, wideKeys, modest, calm, conditions, laid).
  DERIVED. THE GIVEN ROWS OF THIS SEAT. 4 by the template 'for every input the law returns true; each argument reads behind the call as it read before'; 0 by the template 'total and deterministic' (their statements: YtnedhbidmfoegaaTotals.lean).
  GIVEN WITH THE SEED: the statements are not yours to turn. If you find one false, say at which input.
  Laid BY PROGRAM, IN A SANDBOX (cutbox-rows.mjs): the forced cells as the released guide's own fill.sh prints them over the translation 92d4cb482e8f25fd… (all of the seat's roots in one cut). By AI agents, Wed Nov 11 2026. No macro, syntax, notation, axiom, sorry.
-/
import Derived.Test.YtnedhbidmfoegaaChecked
import GoSem.Claim
import GoSem.ClaimJoined
import GoSem.ClaimMapViews
import Derived.JoinedTies
import Derived.KernelRfl
namespace Go.Proofs.Ytnedhbidmfoegaa
/- THE CELL 'sum', in the pinned program and in every row, IS THE sha256 OF THE DUMP (.gsa) THAT YtnedhbidmfoegaaProg.lean LOADS. Nothing in Lean hashes anything: it is a label: what it is worth is what the hold of that sum in a sandbox is worth. -/
noncomputable def Try.pinned : Pinned := { name := "ytnedhbidmfoegaa", sum := "92d4cb482e8f25fd89ff1a2ee777c8c817375f071c431c1f85617c9911d1f4d1", checked := Try.checked }
namespace Rows
def none {H : Type} : Left H := { results := [], args := [] }

/-- 'dspcompilerlaw04.IntervalMeets': WHATEVER THE INPUT: true; the input reads as it did. -/
def intervalMeetsSpec : ChangeSpec := { name := "intervalMeets", fn := fun _ => fun
  | [d1, d2, d3, d4] => { results := [.lit (.bool true)], args := [d1, d2, d3, d4] }
  | _ => none }
def intervalMeetsRow : OpenClaim := { program := "ytnedhbidmfoegaa", sum := "92d4cb482e8f25fd89ff1a2ee777c8c817375f071c431c1f85617c9911d1f4d1", func := "dspcompiler/dspcompilerlaw04.IntervalMeets", spec := "intervalMeets", unfollowed := true, recurses := true, apart := false }
def IntervalMeetsSaid : Prop := intervalMeetsRow.holds Try.pinned (OpenSpec.ofChange intervalMeetsSpec)

/-- ITS FALSE NEIGHBOUR: 'it returns false'. Refute it at one input. -/
def intervalMeetsWrong : ChangeSpec := { name := "intervalMeets", fn := fun _ => fun
  | [d1, d2, d3, d4] => { results := [.lit (.bool false)], args := [d1, d2, d3, d4] }
  | _ => none }
def IntervalMeetsWrongFalsely : Prop := intervalMeetsRow.holds Try.pinned (OpenSpec.ofChange intervalMeetsWrong)

/-- 'dspcompilerlaw04.IntervalGrows': WHATEVER THE INPUT: true; the input reads as it did. -/
def intervalGrowsSpec : ChangeSpec := { name := "intervalGrows", fn := fun _ => fun
  | [d1, d2, d3, d4] => { results := [.lit (.bool true)], args := [d1, d2, d3, d4] }
  | _ => none }
def intervalGrowsRow : OpenClaim := { program := "ytnedhbidmfoegaa", sum := "92d4cb482e8f25fd89ff1a2ee777c8c817375f071c431c1f85617c9911d1f4d1", func := "dspcompiler/dspcompilerlaw04.IntervalGrows", spec := "intervalGrows", unfollowed := true, recurses := true, apart := false }
def IntervalGrowsSaid : Prop := intervalGrowsRow.holds Try.pinned (OpenSpec.ofChange intervalGrowsSpec)

/-- ITS FALSE NEIGHBOUR: 'it returns false'. Refute it at one input. -/
def intervalGrowsWrong : ChangeSpec := { name := "intervalGrows", fn := fun _ => fun
  | [d1, d2, d3, d4] => { results := [.lit (.bool false)], args := [d1, d2, d3, d4] }
  | _ => none }
def IntervalGrowsWrongFalsely : Prop := intervalGrowsRow.holds Try.pinned (OpenSpec.ofChange intervalGrowsWrong)

/-- 'dspcompilerlaw05.PolyDivides': WHATEVER THE INPUT: true; the input reads as it did. -/
def polyDividesSpec : ChangeSpec := { name := "polyDivides", fn := fun _ => fun
  | [d1, d2] => { results := [.lit (.bool true)], args := [d1, d2] }
  | _ => none }
def polyDividesRow : OpenClaim := { program := "ytnedhbidmfoegaa", sum := "92d4cb482e8f25fd89ff1a2ee777c8c817375f071c431c1f85617c9911d1f4d1", func := "dspcompiler/dspcompilerlaw05.PolyDivides", spec := "polyDivides", unfollowed := true, recurses := true, apart := false }
def PolyDividesSaid : Prop := polyDividesRow.holds Try.pinned (OpenSpec.ofChange polyDividesSpec)

/-- ITS FALSE NEIGHBOUR: 'it returns false'. Refute it at one input. -/
def polyDividesWrong : ChangeSpec := { name := "polyDivides", fn := fun _ => fun
  | [d1, d2] => { results := [.lit (.bool false)], args := [d1, d2] }
  | _ => none }
def PolyDividesWrongFalsely : Prop := polyDividesRow.holds Try.pinned (OpenSpec.ofChange polyDividesWrong)

/-- 'dspcompilerlaw05.PolyCalculus': WHATEVER THE INPUT: true; the input reads as it did. -/
def polyCalculusSpec : ChangeSpec := { name := "polyCalculus", fn := fun _ => fun
  | [d1, d2, d3] => { results := [.lit (.bool true)], args := [d1, d2, d3] }
  | _ => none }
def polyCalculusRow : OpenClaim := { program := "ytnedhbidmfoegaa", sum := "92d4cb482e8f25fd89ff1a2ee777c8c817375f071c431c1f85617c9911d1f4d1", func := "dspcompiler/dspcompilerlaw05.PolyCalculus", spec := "polyCalculus", unfollowed := true, recurses := true, apart := false }
def PolyCalculusSaid : Prop := polyCalculusRow.holds Try.pinned (OpenSpec.ofChange polyCalculusSpec)

/-- ITS FALSE NEIGHBOUR: 'it returns false'. Refute it at one input. -/
def polyCalculusWrong : ChangeSpec := { name := "polyCalculus", fn := fun _ => fun
  | [d1, d2, d3] => { results := [.lit (.bool false)], args := [d1, d2, d3] }
  | _ => none }
def PolyCalculusWrongFalsely : Prop := polyCalculusRow.holds Try.pinned (OpenSpec.ofChange polyCalculusWrong)

/- THE SECOND FORM. 'bulk': how many values and letters a reading holds, each counted each time it is reached (what is shared counts as often as it is met; a slice's spare places count too). A statement '..UptoSaid' is the law's where the arguments, and the package variables that the reading takes, are together of bulk at most 1048576: NARROWER than '..Said'. Prove '..Said' where nothing that the law and all that it calls make is longer than what came in: it says more and counts as full. Else prove '..UptoSaid'. A law counts once. -/
mutual
def uptoBulk {H : Type} : DataW H → Nat
  | .lit (.string bytes) => bytes.length + 1
  | .lit _ => 1
  | .nil => 1
  | .ptr d => uptoBulk d + 1
  | .slice elems spare => uptoBulkAll elems + uptoBulkAll spare + 1
  | .agg parts => uptoBulkAll parts + 1
  | .iface _ d => uptoBulk d + 1
  | .map entries => uptoBulkEntries entries + 1
  | .held _ => 1
def uptoBulkAll {H : Type} : List (DataW H) → Nat
  | [] => 0
  | d :: r => uptoBulk d + uptoBulkAll r
def uptoBulkEntries {H : Type} : List (Lit × DataW H) → Nat
  | [] => 0
  | x :: r => uptoBulkEntry x + uptoBulkEntries r
def uptoBulkEntry {H : Type} : Lit × DataW H → Nat
  | (.string bytes, d) => bytes.length + uptoBulk d + 1
  | (_, d) => uptoBulk d + 1
 end
def uptoSmall : (H : Type) → List (DataW H) → Bool := fun _ ds => decide (uptoBulkAll ds ≤ 1048576)
def OpenSpec.upto (s : _root_.Go.ChangeSpec) : _root_.Go.OpenSpec := { _root_.Go.OpenSpec.ofChange s with cond := some uptoSmall }

/-- 'dspcompilerlaw04.IntervalMeets', WHERE WHAT IT READS IS OF BULK AT MOST 1048576: true; the input reads as it did. -/
def intervalMeetsUptoRow : OpenClaim := { program := "ytnedhbidmfoegaa", sum := "92d4cb482e8f25fd89ff1a2ee777c8c817375f071c431c1f85617c9911d1f4d1", func := "dspcompiler/dspcompilerlaw04.IntervalMeets", spec := "intervalMeets", unfollowed := true, recurses := true, apart := false, narrowed := true }
def IntervalMeetsUptoSaid : Prop := intervalMeetsUptoRow.holds Try.pinned (OpenSpec.upto intervalMeetsSpec)

/-- 'dspcompilerlaw04.IntervalGrows', WHERE WHAT IT READS IS OF BULK AT MOST 1048576: true; the input reads as it did. -/
def intervalGrowsUptoRow : OpenClaim := { program := "ytnedhbidmfoegaa", sum := "92d4cb482e8f25fd89ff1a2ee777c8c817375f071c431c1f85617c9911d1f4d1", func := "dspcompiler/dspcompilerlaw04.IntervalGrows", spec := "intervalGrows", unfollowed := true, recurses := true, apart := false, narrowed := true }
def IntervalGrowsUptoSaid : Prop := intervalGrowsUptoRow.holds Try.pinned (OpenSpec.upto intervalGrowsSpec)

/-- 'dspcompilerlaw05.PolyDivides', WHERE WHAT IT READS IS OF BULK AT MOST 1048576: true; the input reads as it did. -/
def polyDividesUptoRow : OpenClaim := { program := "ytnedhbidmfoegaa", sum := "92d4cb482e8f25fd89ff1a2ee777c8c817375f071c431c1f85617c9911d1f4d1", func := "dspcompiler/dspcompilerlaw05.PolyDivides", spec := "polyDivides", unfollowed := true, recurses := true, apart := false, narrowed := true }
def PolyDividesUptoSaid : Prop := polyDividesUptoRow.holds Try.pinned (OpenSpec.upto polyDividesSpec)

/-- 'dspcompilerlaw05.PolyCalculus', WHERE WHAT IT READS IS OF BULK AT MOST 1048576: true; the input reads as it did. -/
def polyCalculusUptoRow : OpenClaim := { program := "ytnedhbidmfoegaa", sum := "92d4cb482e8f25fd89ff1a2ee777c8c817375f071c431c1f85617c9911d1f4d1", func := "dspcompiler/dspcompilerlaw05.PolyCalculus", spec := "polyCalculus", unfollowed := true, recurses := true, apart := false, narrowed := true }
def PolyCalculusUptoSaid : Prop := polyCalculusUptoRow.holds Try.pinned (OpenSpec.upto polyCalculusSpec)

end Rows
end Go.Proofs.Ytnedhbidmfoegaa
