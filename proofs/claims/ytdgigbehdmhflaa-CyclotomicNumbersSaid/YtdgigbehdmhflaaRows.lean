/-
  No cell of these rows narrows 'for every input' (looked for: loops, veiled, ifaces, maps, wideKeys, modest, calm, conditions, laid).
  DERIVED. THE GIVEN ROWS OF THIS SEAT. 5 by the template 'for every input the law returns true; each argument reads behind the call as it read before'; 0 by the template 'total and deterministic' (their statements: YtdgigbehdmhflaaTotals.lean).
  GIVEN WITH THE SEED: the statements are not yours to turn. If you find one false, say at which input.
  Laid BY PROGRAM, IN A SANDBOX (cutbox-rows.mjs): the forced cells as the released guide's own fill.sh prints them over the translation cbefccbe592f2170… (all of the seat's roots in one cut). By AI agents, Wed Nov 11 2026. No macro, syntax, notation, axiom, sorry.
-/
import Derived.Test.YtdgigbehdmhflaaChecked
import GoSem.Claim
import GoSem.ClaimJoined
import GoSem.ClaimMapViews
import Derived.JoinedTies
import Derived.KernelRfl
namespace Go.Proofs.Ytdgigbehdmhflaa
/- THE CELL 'sum', in the pinned program and in every row, IS THE sha256 OF THE DUMP (.gsa) THAT YtdgigbehdmhflaaProg.lean LOADS. Nothing in Lean hashes anything: it is a label: what it is worth is what the hold of that sum in a sandbox is worth. -/
noncomputable def Try.pinned : Pinned := { name := "ytdgigbehdmhflaa", sum := "cbefccbe592f21701a65c476f54e1b650887dc4a4cdc483fec75d1d420b09a87", checked := Try.checked }
namespace Rows
def none {H : Type} : Left H := { results := [], args := [] }

/-- 'dspcompilerlaw34.CyclotomicFactors': WHATEVER THE INPUT: true; the input reads as it did. -/
def cyclotomicFactorsSpec : ChangeSpec := { name := "cyclotomicFactors", fn := fun _ => fun
  | [d] => { results := [.lit (.bool true)], args := [d] }
  | _ => none }
def cyclotomicFactorsRow : OpenClaim := { program := "ytdgigbehdmhflaa", sum := "cbefccbe592f21701a65c476f54e1b650887dc4a4cdc483fec75d1d420b09a87", func := "dspcompiler/dspcompilerlaw34.CyclotomicFactors", spec := "cyclotomicFactors", recurses := true, apart := false }
def CyclotomicFactorsSaid : Prop := cyclotomicFactorsRow.holds Try.pinned (OpenSpec.ofChange cyclotomicFactorsSpec)

/-- ITS FALSE NEIGHBOUR: 'it returns false'. Refute it at one input. -/
def cyclotomicFactorsWrong : ChangeSpec := { name := "cyclotomicFactors", fn := fun _ => fun
  | [d] => { results := [.lit (.bool false)], args := [d] }
  | _ => none }
def CyclotomicFactorsWrongFalsely : Prop := cyclotomicFactorsRow.holds Try.pinned (OpenSpec.ofChange cyclotomicFactorsWrong)

/-- 'dspcompilerlaw34.CyclotomicIsARing': WHATEVER THE INPUT: true; the input reads as it did. -/
def cyclotomicIsARingSpec : ChangeSpec := { name := "cyclotomicIsARing", fn := fun _ => fun
  | [d1, d2, d3, d4] => { results := [.lit (.bool true)], args := [d1, d2, d3, d4] }
  | _ => none }
def cyclotomicIsARingRow : OpenClaim := { program := "ytdgigbehdmhflaa", sum := "cbefccbe592f21701a65c476f54e1b650887dc4a4cdc483fec75d1d420b09a87", func := "dspcompiler/dspcompilerlaw34.CyclotomicIsARing", spec := "cyclotomicIsARing", recurses := true, apart := false }
def CyclotomicIsARingSaid : Prop := cyclotomicIsARingRow.holds Try.pinned (OpenSpec.ofChange cyclotomicIsARingSpec)

/-- ITS FALSE NEIGHBOUR: 'it returns false'. Refute it at one input. -/
def cyclotomicIsARingWrong : ChangeSpec := { name := "cyclotomicIsARing", fn := fun _ => fun
  | [d1, d2, d3, d4] => { results := [.lit (.bool false)], args := [d1, d2, d3, d4] }
  | _ => none }
def CyclotomicIsARingWrongFalsely : Prop := cyclotomicIsARingRow.holds Try.pinned (OpenSpec.ofChange cyclotomicIsARingWrong)

/-- 'dspcompilerlaw34.CyclotomicGalois': WHATEVER THE INPUT: true; the input reads as it did. -/
def cyclotomicGaloisSpec : ChangeSpec := { name := "cyclotomicGalois", fn := fun _ => fun
  | [d1, d2, d3, d4, d5] => { results := [.lit (.bool true)], args := [d1, d2, d3, d4, d5] }
  | _ => none }
def cyclotomicGaloisRow : OpenClaim := { program := "ytdgigbehdmhflaa", sum := "cbefccbe592f21701a65c476f54e1b650887dc4a4cdc483fec75d1d420b09a87", func := "dspcompiler/dspcompilerlaw34.CyclotomicGalois", spec := "cyclotomicGalois", recurses := true, apart := false }
def CyclotomicGaloisSaid : Prop := cyclotomicGaloisRow.holds Try.pinned (OpenSpec.ofChange cyclotomicGaloisSpec)

/-- ITS FALSE NEIGHBOUR: 'it returns false'. Refute it at one input. -/
def cyclotomicGaloisWrong : ChangeSpec := { name := "cyclotomicGalois", fn := fun _ => fun
  | [d1, d2, d3, d4, d5] => { results := [.lit (.bool false)], args := [d1, d2, d3, d4, d5] }
  | _ => none }
def CyclotomicGaloisWrongFalsely : Prop := cyclotomicGaloisRow.holds Try.pinned (OpenSpec.ofChange cyclotomicGaloisWrong)

/-- 'dspcompilerlaw34.CyclotomicRoots': WHATEVER THE INPUT: true; the input reads as it did. -/
def cyclotomicRootsSpec : ChangeSpec := { name := "cyclotomicRoots", fn := fun _ => fun
  | [d1, d2, d3] => { results := [.lit (.bool true)], args := [d1, d2, d3] }
  | _ => none }
def cyclotomicRootsRow : OpenClaim := { program := "ytdgigbehdmhflaa", sum := "cbefccbe592f21701a65c476f54e1b650887dc4a4cdc483fec75d1d420b09a87", func := "dspcompiler/dspcompilerlaw34.CyclotomicRoots", spec := "cyclotomicRoots", recurses := true, apart := false }
def CyclotomicRootsSaid : Prop := cyclotomicRootsRow.holds Try.pinned (OpenSpec.ofChange cyclotomicRootsSpec)

/-- ITS FALSE NEIGHBOUR: 'it returns false'. Refute it at one input. -/
def cyclotomicRootsWrong : ChangeSpec := { name := "cyclotomicRoots", fn := fun _ => fun
  | [d1, d2, d3] => { results := [.lit (.bool false)], args := [d1, d2, d3] }
  | _ => none }
def CyclotomicRootsWrongFalsely : Prop := cyclotomicRootsRow.holds Try.pinned (OpenSpec.ofChange cyclotomicRootsWrong)

/-- 'dspcompilerlaw34.CyclotomicNumbers': WHATEVER THE INPUT: true; the input reads as it did. -/
def cyclotomicNumbersSpec : ChangeSpec := { name := "cyclotomicNumbers", fn := fun _ => fun
  | [d1, d2, d3, d4] => { results := [.lit (.bool true)], args := [d1, d2, d3, d4] }
  | _ => none }
def cyclotomicNumbersRow : OpenClaim := { program := "ytdgigbehdmhflaa", sum := "cbefccbe592f21701a65c476f54e1b650887dc4a4cdc483fec75d1d420b09a87", func := "dspcompiler/dspcompilerlaw34.CyclotomicNumbers", spec := "cyclotomicNumbers", recurses := true, apart := false }
def CyclotomicNumbersSaid : Prop := cyclotomicNumbersRow.holds Try.pinned (OpenSpec.ofChange cyclotomicNumbersSpec)

/-- ITS FALSE NEIGHBOUR: 'it returns false'. Refute it at one input. -/
def cyclotomicNumbersWrong : ChangeSpec := { name := "cyclotomicNumbers", fn := fun _ => fun
  | [d1, d2, d3, d4] => { results := [.lit (.bool false)], args := [d1, d2, d3, d4] }
  | _ => none }
def CyclotomicNumbersWrongFalsely : Prop := cyclotomicNumbersRow.holds Try.pinned (OpenSpec.ofChange cyclotomicNumbersWrong)

/- THE SECOND FORM. 'bulk': how many values and letters a reading holds, each counted each time it is reached (what is shared counts as often as it is met; a slice's spare places count too). A statement '..UptoSaid' is the law's where the arguments, and the package variables that the reading takes, are together of bulk at most 1048576: NARROWER than '..Said'. Prove '..Said' where nothing that the law and all that it calls make is longer than what came in: it says more and counts as full. Else prove '..UptoSaid'. A law counts once. -/
mutual
def uptoBulk {H : Type} : DataW H → Nat
  | .lit (.string bytes) => bytes.length + 1
  | .lit _ => 1
  | .nil => 1
  | .ptr d => uptoBulk d + 1
  | .slice elems spare => uptoBulkAll elems + uptoBulkAll spare + 1
  | .agg parts => uptoBulkAll parts + 1
  | .iface _ d => uptoBulk d + 1
  | .map entries => uptoBulkEntries entries + 1
  | .held _ => 1
def uptoBulkAll {H : Type} : List (DataW H) → Nat
  | [] => 0
  | d :: r => uptoBulk d + uptoBulkAll r
def uptoBulkEntries {H : Type} : List (Lit × DataW H) → Nat
  | [] => 0
  | x :: r => uptoBulkEntry x + uptoBulkEntries r
def uptoBulkEntry {H : Type} : Lit × DataW H → Nat
  | (.string bytes, d) => bytes.length + uptoBulk d + 1
  | (_, d) => uptoBulk d + 1
 end
def uptoSmall : (H : Type) → List (DataW H) → Bool := fun _ ds => decide (uptoBulkAll ds ≤ 1048576)
def OpenSpec.upto (s : _root_.Go.ChangeSpec) : _root_.Go.OpenSpec := { _root_.Go.OpenSpec.ofChange s with cond := some uptoSmall }

/-- 'dspcompilerlaw34.CyclotomicFactors', WHERE WHAT IT READS IS OF BULK AT MOST 1048576: true; the input reads as it did. -/
def cyclotomicFactorsUptoRow : OpenClaim := { program := "ytdgigbehdmhflaa", sum := "cbefccbe592f21701a65c476f54e1b650887dc4a4cdc483fec75d1d420b09a87", func := "dspcompiler/dspcompilerlaw34.CyclotomicFactors", spec := "cyclotomicFactors", recurses := true, apart := false, narrowed := true }
def CyclotomicFactorsUptoSaid : Prop := cyclotomicFactorsUptoRow.holds Try.pinned (OpenSpec.upto cyclotomicFactorsSpec)

/-- 'dspcompilerlaw34.CyclotomicIsARing', WHERE WHAT IT READS IS OF BULK AT MOST 1048576: true; the input reads as it did. -/
def cyclotomicIsARingUptoRow : OpenClaim := { program := "ytdgigbehdmhflaa", sum := "cbefccbe592f21701a65c476f54e1b650887dc4a4cdc483fec75d1d420b09a87", func := "dspcompiler/dspcompilerlaw34.CyclotomicIsARing", spec := "cyclotomicIsARing", recurses := true, apart := false, narrowed := true }
def CyclotomicIsARingUptoSaid : Prop := cyclotomicIsARingUptoRow.holds Try.pinned (OpenSpec.upto cyclotomicIsARingSpec)

/-- 'dspcompilerlaw34.CyclotomicGalois', WHERE WHAT IT READS IS OF BULK AT MOST 1048576: true; the input reads as it did. -/
def cyclotomicGaloisUptoRow : OpenClaim := { program := "ytdgigbehdmhflaa", sum := "cbefccbe592f21701a65c476f54e1b650887dc4a4cdc483fec75d1d420b09a87", func := "dspcompiler/dspcompilerlaw34.CyclotomicGalois", spec := "cyclotomicGalois", recurses := true, apart := false, narrowed := true }
def CyclotomicGaloisUptoSaid : Prop := cyclotomicGaloisUptoRow.holds Try.pinned (OpenSpec.upto cyclotomicGaloisSpec)

/-- 'dspcompilerlaw34.CyclotomicRoots', WHERE WHAT IT READS IS OF BULK AT MOST 1048576: true; the input reads as it did. -/
def cyclotomicRootsUptoRow : OpenClaim := { program := "ytdgigbehdmhflaa", sum := "cbefccbe592f21701a65c476f54e1b650887dc4a4cdc483fec75d1d420b09a87", func := "dspcompiler/dspcompilerlaw34.CyclotomicRoots", spec := "cyclotomicRoots", recurses := true, apart := false, narrowed := true }
def CyclotomicRootsUptoSaid : Prop := cyclotomicRootsUptoRow.holds Try.pinned (OpenSpec.upto cyclotomicRootsSpec)

/-- 'dspcompilerlaw34.CyclotomicNumbers', WHERE WHAT IT READS IS OF BULK AT MOST 1048576: true; the input reads as it did. -/
def cyclotomicNumbersUptoRow : OpenClaim := { program := "ytdgigbehdmhflaa", sum := "cbefccbe592f21701a65c476f54e1b650887dc4a4cdc483fec75d1d420b09a87", func := "dspcompiler/dspcompilerlaw34.CyclotomicNumbers", spec := "cyclotomicNumbers", recurses := true, apart := false, narrowed := true }
def CyclotomicNumbersUptoSaid : Prop := cyclotomicNumbersUptoRow.holds Try.pinned (OpenSpec.upto cyclotomicNumbersSpec)

end Rows
end Go.Proofs.Ytdgigbehdmhflaa
