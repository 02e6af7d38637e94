/-
  No cell of these rows narrows 'for every input' (looked for: loops, veiled, ifaces, maps, wideKeys, modest, calm, conditions, laid).
  DERIVED. THE GIVEN ROWS OF THIS SEAT. 6 by the template 'for every input the law returns true; each argument reads behind the call as it read before'; 0 by the template 'total and deterministic' (their statements: YtdmpfhhhlhoeiaaGreatTotals.lean).
  GIVEN WITH THE SEED: the statements are not yours to turn. If you find one false, say at which input.
  Laid BY PROGRAM, IN A SANDBOX (cutbox-rows.mjs): the forced cells as the released guide's own fill.sh prints them over the translation 11df968ad5ba7a24… (all of the seat's roots in one cut). By AI agents, Wed Nov 11 2026. No macro, syntax, notation, axiom, sorry.
-/
import Derived.Test.YtdmpfhhhlhoeiaaGreatChecked
import GoSem.Claim
import GoSem.ClaimJoined
import GoSem.ClaimMapViews
import Derived.JoinedTies
import Derived.KernelRfl
namespace Go.Proofs.YtdmpfhhhlhoeiaaGreat
/- THE CELL 'sum', in the pinned program and in every row, IS THE sha256 OF THE DUMP (.gsa) THAT YtdmpfhhhlhoeiaaGreatProg.lean LOADS. Nothing in Lean hashes anything: it is a label: what it is worth is what the hold of that sum in a sandbox is worth. -/
noncomputable def Tryz.pinned : Pinned := { name := "ytdmpfhhhlhoeiaagreat", sum := "11df968ad5ba7a2489a2d95be40b73e78a40d0df892262ea2c80074710d12a7e", checked := Tryz.checked }
namespace Rows
def none {H : Type} : Left H := { results := [], args := [] }

/-- 'dspcompilerlaw25.LatticeReflects': WHATEVER THE INPUT: true; the input reads as it did. -/
def latticeReflectsSpec : ChangeSpec := { name := "latticeReflects", fn := fun _ => fun
  | [d1, d2, d3] => { results := [.lit (.bool true)], args := [d1, d2, d3] }
  | _ => none }
def latticeReflectsRow : OpenClaim := { program := "ytdmpfhhhlhoeiaagreat", sum := "11df968ad5ba7a2489a2d95be40b73e78a40d0df892262ea2c80074710d12a7e", func := "dspcompiler/dspcompilerlaw25.LatticeReflects", spec := "latticeReflects", unfollowed := true, recurses := true, apart := false }
def LatticeReflectsSaid : Prop := latticeReflectsRow.holds Tryz.pinned (OpenSpec.ofChange latticeReflectsSpec)

/-- ITS FALSE NEIGHBOUR: 'it returns false'. Refute it at one input. -/
def latticeReflectsWrong : ChangeSpec := { name := "latticeReflects", fn := fun _ => fun
  | [d1, d2, d3] => { results := [.lit (.bool false)], args := [d1, d2, d3] }
  | _ => none }
def LatticeReflectsWrongFalsely : Prop := latticeReflectsRow.holds Tryz.pinned (OpenSpec.ofChange latticeReflectsWrong)

/-- 'dspcompilerlaw25.LatticeBuilds': WHATEVER THE INPUT: true; the input reads as it did. -/
def latticeBuildsSpec : ChangeSpec := { name := "latticeBuilds", fn := fun _ => fun
  | [d1, d2, d3, d4] => { results := [.lit (.bool true)], args := [d1, d2, d3, d4] }
  | _ => none }
def latticeBuildsRow : OpenClaim := { program := "ytdmpfhhhlhoeiaagreat", sum := "11df968ad5ba7a2489a2d95be40b73e78a40d0df892262ea2c80074710d12a7e", func := "dspcompiler/dspcompilerlaw25.LatticeBuilds", spec := "latticeBuilds", unfollowed := true, recurses := true, apart := false }
def LatticeBuildsSaid : Prop := latticeBuildsRow.holds Tryz.pinned (OpenSpec.ofChange latticeBuildsSpec)

/-- ITS FALSE NEIGHBOUR: 'it returns false'. Refute it at one input. -/
def latticeBuildsWrong : ChangeSpec := { name := "latticeBuilds", fn := fun _ => fun
  | [d1, d2, d3, d4] => { results := [.lit (.bool false)], args := [d1, d2, d3, d4] }
  | _ => none }
def LatticeBuildsWrongFalsely : Prop := latticeBuildsRow.holds Tryz.pinned (OpenSpec.ofChange latticeBuildsWrong)

/-- 'dspcompilerlaw26.WaveBuilds': WHATEVER THE INPUT: true; the input reads as it did. -/
def waveBuildsSpec : ChangeSpec := { name := "waveBuilds", fn := fun _ => fun
  | [d1, d2, d3, d4, d5] => { results := [.lit (.bool true)], args := [d1, d2, d3, d4, d5] }
  | _ => none }
def waveBuildsRow : OpenClaim := { program := "ytdmpfhhhlhoeiaagreat", sum := "11df968ad5ba7a2489a2d95be40b73e78a40d0df892262ea2c80074710d12a7e", func := "dspcompiler/dspcompilerlaw26.WaveBuilds", spec := "waveBuilds", unfollowed := true, recurses := true, apart := false }
def WaveBuildsSaid : Prop := waveBuildsRow.holds Tryz.pinned (OpenSpec.ofChange waveBuildsSpec)

/-- ITS FALSE NEIGHBOUR: 'it returns false'. Refute it at one input. -/
def waveBuildsWrong : ChangeSpec := { name := "waveBuilds", fn := fun _ => fun
  | [d1, d2, d3, d4, d5] => { results := [.lit (.bool false)], args := [d1, d2, d3, d4, d5] }
  | _ => none }
def WaveBuildsWrongFalsely : Prop := waveBuildsRow.holds Tryz.pinned (OpenSpec.ofChange waveBuildsWrong)

/-- 'dspcompilerlaw26.WaveSumsBack': WHATEVER THE INPUT: true; the input reads as it did. -/
def waveSumsBackSpec : ChangeSpec := { name := "waveSumsBack", fn := fun _ => fun
  | [d1, d2, d3, d4] => { results := [.lit (.bool true)], args := [d1, d2, d3, d4] }
  | _ => none }
def waveSumsBackRow : OpenClaim := { program := "ytdmpfhhhlhoeiaagreat", sum := "11df968ad5ba7a2489a2d95be40b73e78a40d0df892262ea2c80074710d12a7e", func := "dspcompiler/dspcompilerlaw26.WaveSumsBack", spec := "waveSumsBack", unfollowed := true, recurses := true, apart := false }
def WaveSumsBackSaid : Prop := waveSumsBackRow.holds Tryz.pinned (OpenSpec.ofChange waveSumsBackSpec)

/-- ITS FALSE NEIGHBOUR: 'it returns false'. Refute it at one input. -/
def waveSumsBackWrong : ChangeSpec := { name := "waveSumsBack", fn := fun _ => fun
  | [d1, d2, d3, d4] => { results := [.lit (.bool false)], args := [d1, d2, d3, d4] }
  | _ => none }
def WaveSumsBackWrongFalsely : Prop := waveSumsBackRow.holds Tryz.pinned (OpenSpec.ofChange waveSumsBackWrong)

/-- 'dspcompilerlaw24.CascadePairs': WHATEVER THE INPUT: true; the input reads as it did. -/
def cascadePairsSpec : ChangeSpec := { name := "cascadePairs", fn := fun _ => fun
  | [d1, d2, d3] => { results := [.lit (.bool true)], args := [d1, d2, d3] }
  | _ => none }
def cascadePairsRow : OpenClaim := { program := "ytdmpfhhhlhoeiaagreat", sum := "11df968ad5ba7a2489a2d95be40b73e78a40d0df892262ea2c80074710d12a7e", func := "dspcompiler/dspcompilerlaw24.CascadePairs", spec := "cascadePairs", unfollowed := true, recurses := true, apart := false }
def CascadePairsSaid : Prop := cascadePairsRow.holds Tryz.pinned (OpenSpec.ofChange cascadePairsSpec)

/-- ITS FALSE NEIGHBOUR: 'it returns false'. Refute it at one input. -/
def cascadePairsWrong : ChangeSpec := { name := "cascadePairs", fn := fun _ => fun
  | [d1, d2, d3] => { results := [.lit (.bool false)], args := [d1, d2, d3] }
  | _ => none }
def CascadePairsWrongFalsely : Prop := cascadePairsRow.holds Tryz.pinned (OpenSpec.ofChange cascadePairsWrong)

/-- 'dspcompilerlaw24.CascadeBuilds': WHATEVER THE INPUT: true; the input reads as it did. -/
def cascadeBuildsSpec : ChangeSpec := { name := "cascadeBuilds", fn := fun _ => fun
  | [d1, d2, d3] => { results := [.lit (.bool true)], args := [d1, d2, d3] }
  | _ => none }
def cascadeBuildsRow : OpenClaim := { program := "ytdmpfhhhlhoeiaagreat", sum := "11df968ad5ba7a2489a2d95be40b73e78a40d0df892262ea2c80074710d12a7e", func := "dspcompiler/dspcompilerlaw24.CascadeBuilds", spec := "cascadeBuilds", unfollowed := true, recurses := true, apart := false }
def CascadeBuildsSaid : Prop := cascadeBuildsRow.holds Tryz.pinned (OpenSpec.ofChange cascadeBuildsSpec)

/-- ITS FALSE NEIGHBOUR: 'it returns false'. Refute it at one input. -/
def cascadeBuildsWrong : ChangeSpec := { name := "cascadeBuilds", fn := fun _ => fun
  | [d1, d2, d3] => { results := [.lit (.bool false)], args := [d1, d2, d3] }
  | _ => none }
def CascadeBuildsWrongFalsely : Prop := cascadeBuildsRow.holds Tryz.pinned (OpenSpec.ofChange cascadeBuildsWrong)

/- THE SECOND FORM. 'bulk': how many values and letters a reading holds, each counted each time it is reached (what is shared counts as often as it is met; a slice's spare places count too). A statement '..UptoSaid' is the law's where the arguments, and the package variables that the reading takes, are together of bulk at most 1048576: NARROWER than '..Said'. Prove '..Said' where nothing that the law and all that it calls make is longer than what came in: it says more and counts as full. Else prove '..UptoSaid'. A law counts once. -/
mutual
def uptoBulk {H : Type} : DataW H → Nat
  | .lit (.string bytes) => bytes.length + 1
  | .lit _ => 1
  | .nil => 1
  | .ptr d => uptoBulk d + 1
  | .slice elems spare => uptoBulkAll elems + uptoBulkAll spare + 1
  | .agg parts => uptoBulkAll parts + 1
  | .iface _ d => uptoBulk d + 1
  | .map entries => uptoBulkEntries entries + 1
  | .held _ => 1
def uptoBulkAll {H : Type} : List (DataW H) → Nat
  | [] => 0
  | d :: r => uptoBulk d + uptoBulkAll r
def uptoBulkEntries {H : Type} : List (Lit × DataW H) → Nat
  | [] => 0
  | x :: r => uptoBulkEntry x + uptoBulkEntries r
def uptoBulkEntry {H : Type} : Lit × DataW H → Nat
  | (.string bytes, d) => bytes.length + uptoBulk d + 1
  | (_, d) => uptoBulk d + 1
 end
def uptoSmall : (H : Type) → List (DataW H) → Bool := fun _ ds => decide (uptoBulkAll ds ≤ 1048576)
def OpenSpec.upto (s : _root_.Go.ChangeSpec) : _root_.Go.OpenSpec := { _root_.Go.OpenSpec.ofChange s with cond := some uptoSmall }

/-- 'dspcompilerlaw25.LatticeReflects', WHERE WHAT IT READS IS OF BULK AT MOST 1048576: true; the input reads as it did. -/
def latticeReflectsUptoRow : OpenClaim := { program := "ytdmpfhhhlhoeiaagreat", sum := "11df968ad5ba7a2489a2d95be40b73e78a40d0df892262ea2c80074710d12a7e", func := "dspcompiler/dspcompilerlaw25.LatticeReflects", spec := "latticeReflects", unfollowed := true, recurses := true, apart := false, narrowed := true }
def LatticeReflectsUptoSaid : Prop := latticeReflectsUptoRow.holds Tryz.pinned (OpenSpec.upto latticeReflectsSpec)

/-- 'dspcompilerlaw25.LatticeBuilds', WHERE WHAT IT READS IS OF BULK AT MOST 1048576: true; the input reads as it did. -/
def latticeBuildsUptoRow : OpenClaim := { program := "ytdmpfhhhlhoeiaagreat", sum := "11df968ad5ba7a2489a2d95be40b73e78a40d0df892262ea2c80074710d12a7e", func := "dspcompiler/dspcompilerlaw25.LatticeBuilds", spec := "latticeBuilds", unfollowed := true, recurses := true, apart := false, narrowed := true }
def LatticeBuildsUptoSaid : Prop := latticeBuildsUptoRow.holds Tryz.pinned (OpenSpec.upto latticeBuildsSpec)

/-- 'dspcompilerlaw26.WaveBuilds', WHERE WHAT IT READS IS OF BULK AT MOST 1048576: true; the input reads as it did. -/
def waveBuildsUptoRow : OpenClaim := { program := "ytdmpfhhhlhoeiaagreat", sum := "11df968ad5ba7a2489a2d95be40b73e78a40d0df892262ea2c80074710d12a7e", func := "dspcompiler/dspcompilerlaw26.WaveBuilds", spec := "waveBuilds", unfollowed := true, recurses := true, apart := false, narrowed := true }
def WaveBuildsUptoSaid : Prop := waveBuildsUptoRow.holds Tryz.pinned (OpenSpec.upto waveBuildsSpec)

/-- 'dspcompilerlaw26.WaveSumsBack', WHERE WHAT IT READS IS OF BULK AT MOST 1048576: true; the input reads as it did. -/
def waveSumsBackUptoRow : OpenClaim := { program := "ytdmpfhhhlhoeiaagreat", sum := "11df968ad5ba7a2489a2d95be40b73e78a40d0df892262ea2c80074710d12a7e", func := "dspcompiler/dspcompilerlaw26.WaveSumsBack", spec := "waveSumsBack", unfollowed := true, recurses := true, apart := false, narrowed := true }
def WaveSumsBackUptoSaid : Prop := waveSumsBackUptoRow.holds Tryz.pinned (OpenSpec.upto waveSumsBackSpec)

/-- 'dspcompilerlaw24.CascadePairs', WHERE WHAT IT READS IS OF BULK AT MOST 1048576: true; the input reads as it did. -/
def cascadePairsUptoRow : OpenClaim := { program := "ytdmpfhhhlhoeiaagreat", sum := "11df968ad5ba7a2489a2d95be40b73e78a40d0df892262ea2c80074710d12a7e", func := "dspcompiler/dspcompilerlaw24.CascadePairs", spec := "cascadePairs", unfollowed := true, recurses := true, apart := false, narrowed := true }
def CascadePairsUptoSaid : Prop := cascadePairsUptoRow.holds Tryz.pinned (OpenSpec.upto cascadePairsSpec)

/-- 'dspcompilerlaw24.CascadeBuilds', WHERE WHAT IT READS IS OF BULK AT MOST 1048576: true; the input reads as it did. -/
def cascadeBuildsUptoRow : OpenClaim := { program := "ytdmpfhhhlhoeiaagreat", sum := "11df968ad5ba7a2489a2d95be40b73e78a40d0df892262ea2c80074710d12a7e", func := "dspcompiler/dspcompilerlaw24.CascadeBuilds", spec := "cascadeBuilds", unfollowed := true, recurses := true, apart := false, narrowed := true }
def CascadeBuildsUptoSaid : Prop := cascadeBuildsUptoRow.holds Tryz.pinned (OpenSpec.upto cascadeBuildsSpec)

end Rows
end Go.Proofs.YtdmpfhhhlhoeiaaGreat
