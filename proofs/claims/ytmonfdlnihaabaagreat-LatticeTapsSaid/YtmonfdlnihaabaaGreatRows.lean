/-
  No cell of these rows narrows 'for every input' (looked for: loops, veiled, ifaces, maps, wideKeys, modest, calm, conditions, laid).
  DERIVED. THE GIVEN ROWS OF THIS SEAT. 6 by the template 'for every input the law returns true; each argument reads behind the call as it read before'; 0 by the template 'total and deterministic' (their statements: YtmonfdlnihaabaaGreatTotals.lean).
  GIVEN WITH THE SEED: the statements are not yours to turn. If you find one false, say at which input.
  Laid BY PROGRAM, IN A SANDBOX (cutbox-rows.mjs): the forced cells as the released guide's own fill.sh prints them over the translation a51d10ad3ac1f33f… (all of the seat's roots in one cut). By AI agents, Wed Nov 11 2026. No macro, syntax, notation, axiom, sorry.
-/
import Derived.Test.YtmonfdlnihaabaaGreatChecked
import GoSem.Claim
import GoSem.ClaimJoined
import GoSem.ClaimMapViews
import Derived.JoinedTies
import Derived.KernelRfl
namespace Go.Proofs.YtmonfdlnihaabaaGreat
/- THE CELL 'sum', in the pinned program and in every row, IS THE sha256 OF THE DUMP (.gsa) THAT YtmonfdlnihaabaaGreatProg.lean LOADS. Nothing in Lean hashes anything: it is a label: what it is worth is what the hold of that sum in a sandbox is worth. -/
noncomputable def Tryz.pinned : Pinned := { name := "ytmonfdlnihaabaagreat", sum := "a51d10ad3ac1f33fff5540420ec3c294be0b1f99a7c313998da99cec12e786c3", checked := Tryz.checked }
namespace Rows
def none {H : Type} : Left H := { results := [], args := [] }

/-- 'dspcompilerlaw25.LatticeTaps': WHATEVER THE INPUT: true; the input reads as it did. -/
def latticeTapsSpec : ChangeSpec := { name := "latticeTaps", fn := fun _ => fun
  | [d1, d2, d3] => { results := [.lit (.bool true)], args := [d1, d2, d3] }
  | _ => none }
def latticeTapsRow : OpenClaim := { program := "ytmonfdlnihaabaagreat", sum := "a51d10ad3ac1f33fff5540420ec3c294be0b1f99a7c313998da99cec12e786c3", func := "dspcompiler/dspcompilerlaw25.LatticeTaps", spec := "latticeTaps", unfollowed := true, recurses := true, apart := false }
def LatticeTapsSaid : Prop := latticeTapsRow.holds Tryz.pinned (OpenSpec.ofChange latticeTapsSpec)

/-- ITS FALSE NEIGHBOUR: 'it returns false'. Refute it at one input. -/
def latticeTapsWrong : ChangeSpec := { name := "latticeTaps", fn := fun _ => fun
  | [d1, d2, d3] => { results := [.lit (.bool false)], args := [d1, d2, d3] }
  | _ => none }
def LatticeTapsWrongFalsely : Prop := latticeTapsRow.holds Tryz.pinned (OpenSpec.ofChange latticeTapsWrong)

/-- 'dspcompilerlaw25.LatticeRefuses': WHATEVER THE INPUT: true; the input reads as it did. -/
def latticeRefusesSpec : ChangeSpec := { name := "latticeRefuses", fn := fun _ => fun
  | [d1, d2] => { results := [.lit (.bool true)], args := [d1, d2] }
  | _ => none }
def latticeRefusesRow : OpenClaim := { program := "ytmonfdlnihaabaagreat", sum := "a51d10ad3ac1f33fff5540420ec3c294be0b1f99a7c313998da99cec12e786c3", func := "dspcompiler/dspcompilerlaw25.LatticeRefuses", spec := "latticeRefuses", unfollowed := true, recurses := true, apart := false }
def LatticeRefusesSaid : Prop := latticeRefusesRow.holds Tryz.pinned (OpenSpec.ofChange latticeRefusesSpec)

/-- ITS FALSE NEIGHBOUR: 'it returns false'. Refute it at one input. -/
def latticeRefusesWrong : ChangeSpec := { name := "latticeRefuses", fn := fun _ => fun
  | [d1, d2] => { results := [.lit (.bool false)], args := [d1, d2] }
  | _ => none }
def LatticeRefusesWrongFalsely : Prop := latticeRefusesRow.holds Tryz.pinned (OpenSpec.ofChange latticeRefusesWrong)

/-- 'dspcompilerlaw26.WaveIsComplementary': WHATEVER THE INPUT: true; the input reads as it did. -/
def waveIsComplementarySpec : ChangeSpec := { name := "waveIsComplementary", fn := fun _ => fun
  | [d1, d2] => { results := [.lit (.bool true)], args := [d1, d2] }
  | _ => none }
def waveIsComplementaryRow : OpenClaim := { program := "ytmonfdlnihaabaagreat", sum := "a51d10ad3ac1f33fff5540420ec3c294be0b1f99a7c313998da99cec12e786c3", func := "dspcompiler/dspcompilerlaw26.WaveIsComplementary", spec := "waveIsComplementary", unfollowed := true, recurses := true, apart := false }
def WaveIsComplementarySaid : Prop := waveIsComplementaryRow.holds Tryz.pinned (OpenSpec.ofChange waveIsComplementarySpec)

/-- ITS FALSE NEIGHBOUR: 'it returns false'. Refute it at one input. -/
def waveIsComplementaryWrong : ChangeSpec := { name := "waveIsComplementary", fn := fun _ => fun
  | [d1, d2] => { results := [.lit (.bool false)], args := [d1, d2] }
  | _ => none }
def WaveIsComplementaryWrongFalsely : Prop := waveIsComplementaryRow.holds Tryz.pinned (OpenSpec.ofChange waveIsComplementaryWrong)

/-- 'dspcompilerlaw26.WaveBuilds': WHATEVER THE INPUT: true; the input reads as it did. -/
def waveBuildsSpec : ChangeSpec := { name := "waveBuilds", fn := fun _ => fun
  | [d1, d2, d3, d4, d5] => { results := [.lit (.bool true)], args := [d1, d2, d3, d4, d5] }
  | _ => none }
def waveBuildsRow : OpenClaim := { program := "ytmonfdlnihaabaagreat", sum := "a51d10ad3ac1f33fff5540420ec3c294be0b1f99a7c313998da99cec12e786c3", func := "dspcompiler/dspcompilerlaw26.WaveBuilds", spec := "waveBuilds", unfollowed := true, recurses := true, apart := false }
def WaveBuildsSaid : Prop := waveBuildsRow.holds Tryz.pinned (OpenSpec.ofChange waveBuildsSpec)

/-- ITS FALSE NEIGHBOUR: 'it returns false'. Refute it at one input. -/
def waveBuildsWrong : ChangeSpec := { name := "waveBuilds", fn := fun _ => fun
  | [d1, d2, d3, d4, d5] => { results := [.lit (.bool false)], args := [d1, d2, d3, d4, d5] }
  | _ => none }
def WaveBuildsWrongFalsely : Prop := waveBuildsRow.holds Tryz.pinned (OpenSpec.ofChange waveBuildsWrong)

/-- 'dspcompilerlaw26.WavePassesAll': WHATEVER THE INPUT: true; the input reads as it did. -/
def wavePassesAllSpec : ChangeSpec := { name := "wavePassesAll", fn := fun _ => fun
  | [d1, d2] => { results := [.lit (.bool true)], args := [d1, d2] }
  | _ => none }
def wavePassesAllRow : OpenClaim := { program := "ytmonfdlnihaabaagreat", sum := "a51d10ad3ac1f33fff5540420ec3c294be0b1f99a7c313998da99cec12e786c3", func := "dspcompiler/dspcompilerlaw26.WavePassesAll", spec := "wavePassesAll", unfollowed := true, recurses := true, apart := false }
def WavePassesAllSaid : Prop := wavePassesAllRow.holds Tryz.pinned (OpenSpec.ofChange wavePassesAllSpec)

/-- ITS FALSE NEIGHBOUR: 'it returns false'. Refute it at one input. -/
def wavePassesAllWrong : ChangeSpec := { name := "wavePassesAll", fn := fun _ => fun
  | [d1, d2] => { results := [.lit (.bool false)], args := [d1, d2] }
  | _ => none }
def WavePassesAllWrongFalsely : Prop := wavePassesAllRow.holds Tryz.pinned (OpenSpec.ofChange wavePassesAllWrong)

/-- 'dspcompilerlaw24.CascadePairs': WHATEVER THE INPUT: true; the input reads as it did. -/
def cascadePairsSpec : ChangeSpec := { name := "cascadePairs", fn := fun _ => fun
  | [d1, d2, d3] => { results := [.lit (.bool true)], args := [d1, d2, d3] }
  | _ => none }
def cascadePairsRow : OpenClaim := { program := "ytmonfdlnihaabaagreat", sum := "a51d10ad3ac1f33fff5540420ec3c294be0b1f99a7c313998da99cec12e786c3", func := "dspcompiler/dspcompilerlaw24.CascadePairs", spec := "cascadePairs", unfollowed := true, recurses := true, apart := false }
def CascadePairsSaid : Prop := cascadePairsRow.holds Tryz.pinned (OpenSpec.ofChange cascadePairsSpec)

/-- ITS FALSE NEIGHBOUR: 'it returns false'. Refute it at one input. -/
def cascadePairsWrong : ChangeSpec := { name := "cascadePairs", fn := fun _ => fun
  | [d1, d2, d3] => { results := [.lit (.bool false)], args := [d1, d2, d3] }
  | _ => none }
def CascadePairsWrongFalsely : Prop := cascadePairsRow.holds Tryz.pinned (OpenSpec.ofChange cascadePairsWrong)

/- THE SECOND FORM. 'bulk': how many values and letters a reading holds, each counted each time it is reached (what is shared counts as often as it is met; a slice's spare places count too). A statement '..UptoSaid' is the law's where the arguments, and the package variables that the reading takes, are together of bulk at most 1048576: NARROWER than '..Said'. Prove '..Said' where nothing that the law and all that it calls make is longer than what came in: it says more and counts as full. Else prove '..UptoSaid'. A law counts once. -/
mutual
def uptoBulk {H : Type} : DataW H → Nat
  | .lit (.string bytes) => bytes.length + 1
  | .lit _ => 1
  | .nil => 1
  | .ptr d => uptoBulk d + 1
  | .slice elems spare => uptoBulkAll elems + uptoBulkAll spare + 1
  | .agg parts => uptoBulkAll parts + 1
  | .iface _ d => uptoBulk d + 1
  | .map entries => uptoBulkEntries entries + 1
  | .held _ => 1
def uptoBulkAll {H : Type} : List (DataW H) → Nat
  | [] => 0
  | d :: r => uptoBulk d + uptoBulkAll r
def uptoBulkEntries {H : Type} : List (Lit × DataW H) → Nat
  | [] => 0
  | x :: r => uptoBulkEntry x + uptoBulkEntries r
def uptoBulkEntry {H : Type} : Lit × DataW H → Nat
  | (.string bytes, d) => bytes.length + uptoBulk d + 1
  | (_, d) => uptoBulk d + 1
 end
def uptoSmall : (H : Type) → List (DataW H) → Bool := fun _ ds => decide (uptoBulkAll ds ≤ 1048576)
def OpenSpec.upto (s : _root_.Go.ChangeSpec) : _root_.Go.OpenSpec := { _root_.Go.OpenSpec.ofChange s with cond := some uptoSmall }

/-- 'dspcompilerlaw25.LatticeTaps', WHERE WHAT IT READS IS OF BULK AT MOST 1048576: true; the input reads as it did. -/
def latticeTapsUptoRow : OpenClaim := { program := "ytmonfdlnihaabaagreat", sum := "a51d10ad3ac1f33fff5540420ec3c294be0b1f99a7c313998da99cec12e786c3", func := "dspcompiler/dspcompilerlaw25.LatticeTaps", spec := "latticeTaps", unfollowed := true, recurses := true, apart := false, narrowed := true }
def LatticeTapsUptoSaid : Prop := latticeTapsUptoRow.holds Tryz.pinned (OpenSpec.upto latticeTapsSpec)

/-- 'dspcompilerlaw25.LatticeRefuses', WHERE WHAT IT READS IS OF BULK AT MOST 1048576: true; the input reads as it did. -/
def latticeRefusesUptoRow : OpenClaim := { program := "ytmonfdlnihaabaagreat", sum := "a51d10ad3ac1f33fff5540420ec3c294be0b1f99a7c313998da99cec12e786c3", func := "dspcompiler/dspcompilerlaw25.LatticeRefuses", spec := "latticeRefuses", unfollowed := true, recurses := true, apart := false, narrowed := true }
def LatticeRefusesUptoSaid : Prop := latticeRefusesUptoRow.holds Tryz.pinned (OpenSpec.upto latticeRefusesSpec)

/-- 'dspcompilerlaw26.WaveIsComplementary', WHERE WHAT IT READS IS OF BULK AT MOST 1048576: true; the input reads as it did. -/
def waveIsComplementaryUptoRow : OpenClaim := { program := "ytmonfdlnihaabaagreat", sum := "a51d10ad3ac1f33fff5540420ec3c294be0b1f99a7c313998da99cec12e786c3", func := "dspcompiler/dspcompilerlaw26.WaveIsComplementary", spec := "waveIsComplementary", unfollowed := true, recurses := true, apart := false, narrowed := true }
def WaveIsComplementaryUptoSaid : Prop := waveIsComplementaryUptoRow.holds Tryz.pinned (OpenSpec.upto waveIsComplementarySpec)

/-- 'dspcompilerlaw26.WaveBuilds', WHERE WHAT IT READS IS OF BULK AT MOST 1048576: true; the input reads as it did. -/
def waveBuildsUptoRow : OpenClaim := { program := "ytmonfdlnihaabaagreat", sum := "a51d10ad3ac1f33fff5540420ec3c294be0b1f99a7c313998da99cec12e786c3", func := "dspcompiler/dspcompilerlaw26.WaveBuilds", spec := "waveBuilds", unfollowed := true, recurses := true, apart := false, narrowed := true }
def WaveBuildsUptoSaid : Prop := waveBuildsUptoRow.holds Tryz.pinned (OpenSpec.upto waveBuildsSpec)

/-- 'dspcompilerlaw26.WavePassesAll', WHERE WHAT IT READS IS OF BULK AT MOST 1048576: true; the input reads as it did. -/
def wavePassesAllUptoRow : OpenClaim := { program := "ytmonfdlnihaabaagreat", sum := "a51d10ad3ac1f33fff5540420ec3c294be0b1f99a7c313998da99cec12e786c3", func := "dspcompiler/dspcompilerlaw26.WavePassesAll", spec := "wavePassesAll", unfollowed := true, recurses := true, apart := false, narrowed := true }
def WavePassesAllUptoSaid : Prop := wavePassesAllUptoRow.holds Tryz.pinned (OpenSpec.upto wavePassesAllSpec)

/-- 'dspcompilerlaw24.CascadePairs', WHERE WHAT IT READS IS OF BULK AT MOST 1048576: true; the input reads as it did. -/
def cascadePairsUptoRow : OpenClaim := { program := "ytmonfdlnihaabaagreat", sum := "a51d10ad3ac1f33fff5540420ec3c294be0b1f99a7c313998da99cec12e786c3", func := "dspcompiler/dspcompilerlaw24.CascadePairs", spec := "cascadePairs", unfollowed := true, recurses := true, apart := false, narrowed := true }
def CascadePairsUptoSaid : Prop := cascadePairsUptoRow.holds Tryz.pinned (OpenSpec.upto cascadePairsSpec)

end Rows
end Go.Proofs.YtmonfdlnihaabaaGreat
