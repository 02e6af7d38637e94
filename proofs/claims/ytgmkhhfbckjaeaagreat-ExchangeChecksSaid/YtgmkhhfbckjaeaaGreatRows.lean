/-
  No cell of these rows narrows 'for every input' (looked for: loops, veiled, ifaces, maps, wideKeys, modest, calm, conditions, laid).
  DERIVED. THE GIVEN ROWS OF THIS SEAT. 8 by the template 'for every input the law returns true; each argument reads behind the call as it read before'; 0 by the template 'total and deterministic' (their statements: YtgmkhhfbckjaeaaGreatTotals.lean).
  GIVEN WITH THE SEED: the statements are not yours to turn. If you find one false, say at which input.
  Laid BY PROGRAM, IN A SANDBOX (cutbox-rows.mjs): the forced cells as the released guide's own fill.sh prints them over the translation a18e6639567a34ac… (all of the seat's roots in one cut). By AI agents, Wed Nov 11 2026. No macro, syntax, notation, axiom, sorry.
-/
import Derived.Test.YtgmkhhfbckjaeaaGreatChecked
import GoSem.Claim
import GoSem.ClaimJoined
import GoSem.ClaimMapViews
import Derived.JoinedTies
import Derived.KernelRfl
namespace Go.Proofs.YtgmkhhfbckjaeaaGreat
/- THE CELL 'sum', in the pinned program and in every row, IS THE sha256 OF THE DUMP (.gsa) THAT YtgmkhhfbckjaeaaGreatProg.lean LOADS. Nothing in Lean hashes anything: it is a label: what it is worth is what the hold of that sum in a sandbox is worth. -/
noncomputable def Tryz.pinned : Pinned := { name := "ytgmkhhfbckjaeaagreat", sum := "a18e6639567a34acbbe9b6afb47b7687d0997933f26985df3779ce4a9add123c", checked := Tryz.checked }
namespace Rows
def none {H : Type} : Left H := { results := [], args := [] }

/-- 'dspcompilerlaw15.ExchangeDesigns': WHATEVER THE INPUT: true; the input reads as it did. -/
def exchangeDesignsSpec : ChangeSpec := { name := "exchangeDesigns", fn := fun _ => fun
  | [d1, d2] => { results := [.lit (.bool true)], args := [d1, d2] }
  | _ => none }
def exchangeDesignsRow : OpenClaim := { program := "ytgmkhhfbckjaeaagreat", sum := "a18e6639567a34acbbe9b6afb47b7687d0997933f26985df3779ce4a9add123c", func := "dspcompiler/dspcompilerlaw15.ExchangeDesigns", spec := "exchangeDesigns", unfollowed := true, recurses := true, apart := false }
def ExchangeDesignsSaid : Prop := exchangeDesignsRow.holds Tryz.pinned (OpenSpec.ofChange exchangeDesignsSpec)

/-- ITS FALSE NEIGHBOUR: 'it returns false'. Refute it at one input. -/
def exchangeDesignsWrong : ChangeSpec := { name := "exchangeDesigns", fn := fun _ => fun
  | [d1, d2] => { results := [.lit (.bool false)], args := [d1, d2] }
  | _ => none }
def ExchangeDesignsWrongFalsely : Prop := exchangeDesignsRow.holds Tryz.pinned (OpenSpec.ofChange exchangeDesignsWrong)

/-- 'dspcompilerlaw15.ExchangeChecks': WHATEVER THE INPUT: true; the input reads as it did. -/
def exchangeChecksSpec : ChangeSpec := { name := "exchangeChecks", fn := fun _ => fun
  | [d1, d2, d3, d4] => { results := [.lit (.bool true)], args := [d1, d2, d3, d4] }
  | _ => none }
def exchangeChecksRow : OpenClaim := { program := "ytgmkhhfbckjaeaagreat", sum := "a18e6639567a34acbbe9b6afb47b7687d0997933f26985df3779ce4a9add123c", func := "dspcompiler/dspcompilerlaw15.ExchangeChecks", spec := "exchangeChecks", unfollowed := true, recurses := true, apart := false }
def ExchangeChecksSaid : Prop := exchangeChecksRow.holds Tryz.pinned (OpenSpec.ofChange exchangeChecksSpec)

/-- ITS FALSE NEIGHBOUR: 'it returns false'. Refute it at one input. -/
def exchangeChecksWrong : ChangeSpec := { name := "exchangeChecks", fn := fun _ => fun
  | [d1, d2, d3, d4] => { results := [.lit (.bool false)], args := [d1, d2, d3, d4] }
  | _ => none }
def ExchangeChecksWrongFalsely : Prop := exchangeChecksRow.holds Tryz.pinned (OpenSpec.ofChange exchangeChecksWrong)

/-- 'dspcompilerlaw15.ExchangeVallee': WHATEVER THE INPUT: true; the input reads as it did. -/
def exchangeValleeSpec : ChangeSpec := { name := "exchangeVallee", fn := fun _ => fun
  | [d1, d2, d3, d4] => { results := [.lit (.bool true)], args := [d1, d2, d3, d4] }
  | _ => none }
def exchangeValleeRow : OpenClaim := { program := "ytgmkhhfbckjaeaagreat", sum := "a18e6639567a34acbbe9b6afb47b7687d0997933f26985df3779ce4a9add123c", func := "dspcompiler/dspcompilerlaw15.ExchangeVallee", spec := "exchangeVallee", unfollowed := true, recurses := true, apart := false }
def ExchangeValleeSaid : Prop := exchangeValleeRow.holds Tryz.pinned (OpenSpec.ofChange exchangeValleeSpec)

/-- ITS FALSE NEIGHBOUR: 'it returns false'. Refute it at one input. -/
def exchangeValleeWrong : ChangeSpec := { name := "exchangeVallee", fn := fun _ => fun
  | [d1, d2, d3, d4] => { results := [.lit (.bool false)], args := [d1, d2, d3, d4] }
  | _ => none }
def ExchangeValleeWrongFalsely : Prop := exchangeValleeRow.holds Tryz.pinned (OpenSpec.ofChange exchangeValleeWrong)

/-- 'dspcompilerlaw15.ExchangeLevels': WHATEVER THE INPUT: true; the input reads as it did. -/
def exchangeLevelsSpec : ChangeSpec := { name := "exchangeLevels", fn := fun _ => fun
  | [d1, d2, d3, d4] => { results := [.lit (.bool true)], args := [d1, d2, d3, d4] }
  | _ => none }
def exchangeLevelsRow : OpenClaim := { program := "ytgmkhhfbckjaeaagreat", sum := "a18e6639567a34acbbe9b6afb47b7687d0997933f26985df3779ce4a9add123c", func := "dspcompiler/dspcompilerlaw15.ExchangeLevels", spec := "exchangeLevels", unfollowed := true, recurses := true, apart := false }
def ExchangeLevelsSaid : Prop := exchangeLevelsRow.holds Tryz.pinned (OpenSpec.ofChange exchangeLevelsSpec)

/-- ITS FALSE NEIGHBOUR: 'it returns false'. Refute it at one input. -/
def exchangeLevelsWrong : ChangeSpec := { name := "exchangeLevels", fn := fun _ => fun
  | [d1, d2, d3, d4] => { results := [.lit (.bool false)], args := [d1, d2, d3, d4] }
  | _ => none }
def ExchangeLevelsWrongFalsely : Prop := exchangeLevelsRow.holds Tryz.pinned (OpenSpec.ofChange exchangeLevelsWrong)

/-- 'dspcompilerlaw15.ExchangeBest': WHATEVER THE INPUT: true; the input reads as it did. -/
def exchangeBestSpec : ChangeSpec := { name := "exchangeBest", fn := fun _ => fun
  | [d1, d2, d3] => { results := [.lit (.bool true)], args := [d1, d2, d3] }
  | _ => none }
def exchangeBestRow : OpenClaim := { program := "ytgmkhhfbckjaeaagreat", sum := "a18e6639567a34acbbe9b6afb47b7687d0997933f26985df3779ce4a9add123c", func := "dspcompiler/dspcompilerlaw15.ExchangeBest", spec := "exchangeBest", unfollowed := true, recurses := true, apart := false }
def ExchangeBestSaid : Prop := exchangeBestRow.holds Tryz.pinned (OpenSpec.ofChange exchangeBestSpec)

/-- ITS FALSE NEIGHBOUR: 'it returns false'. Refute it at one input. -/
def exchangeBestWrong : ChangeSpec := { name := "exchangeBest", fn := fun _ => fun
  | [d1, d2, d3] => { results := [.lit (.bool false)], args := [d1, d2, d3] }
  | _ => none }
def ExchangeBestWrongFalsely : Prop := exchangeBestRow.holds Tryz.pinned (OpenSpec.ofChange exchangeBestWrong)

/-- 'dspcompilerlaw25.LatticeTransfers': WHATEVER THE INPUT: true; the input reads as it did. -/
def latticeTransfersSpec : ChangeSpec := { name := "latticeTransfers", fn := fun _ => fun
  | [d1, d2, d3, d4] => { results := [.lit (.bool true)], args := [d1, d2, d3, d4] }
  | _ => none }
def latticeTransfersRow : OpenClaim := { program := "ytgmkhhfbckjaeaagreat", sum := "a18e6639567a34acbbe9b6afb47b7687d0997933f26985df3779ce4a9add123c", func := "dspcompiler/dspcompilerlaw25.LatticeTransfers", spec := "latticeTransfers", unfollowed := true, recurses := true, apart := false }
def LatticeTransfersSaid : Prop := latticeTransfersRow.holds Tryz.pinned (OpenSpec.ofChange latticeTransfersSpec)

/-- ITS FALSE NEIGHBOUR: 'it returns false'. Refute it at one input. -/
def latticeTransfersWrong : ChangeSpec := { name := "latticeTransfers", fn := fun _ => fun
  | [d1, d2, d3, d4] => { results := [.lit (.bool false)], args := [d1, d2, d3, d4] }
  | _ => none }
def LatticeTransfersWrongFalsely : Prop := latticeTransfersRow.holds Tryz.pinned (OpenSpec.ofChange latticeTransfersWrong)

/-- 'dspcompilerlaw26.WaveTransfers': WHATEVER THE INPUT: true; the input reads as it did. -/
def waveTransfersSpec : ChangeSpec := { name := "waveTransfers", fn := fun _ => fun
  | [d1, d2, d3, d4] => { results := [.lit (.bool true)], args := [d1, d2, d3, d4] }
  | _ => none }
def waveTransfersRow : OpenClaim := { program := "ytgmkhhfbckjaeaagreat", sum := "a18e6639567a34acbbe9b6afb47b7687d0997933f26985df3779ce4a9add123c", func := "dspcompiler/dspcompilerlaw26.WaveTransfers", spec := "waveTransfers", unfollowed := true, recurses := true, apart := false }
def WaveTransfersSaid : Prop := waveTransfersRow.holds Tryz.pinned (OpenSpec.ofChange waveTransfersSpec)

/-- ITS FALSE NEIGHBOUR: 'it returns false'. Refute it at one input. -/
def waveTransfersWrong : ChangeSpec := { name := "waveTransfers", fn := fun _ => fun
  | [d1, d2, d3, d4] => { results := [.lit (.bool false)], args := [d1, d2, d3, d4] }
  | _ => none }
def WaveTransfersWrongFalsely : Prop := waveTransfersRow.holds Tryz.pinned (OpenSpec.ofChange waveTransfersWrong)

/-- 'dspcompilerlaw24.CascadeTransfers': WHATEVER THE INPUT: true; the input reads as it did. -/
def cascadeTransfersSpec : ChangeSpec := { name := "cascadeTransfers", fn := fun _ => fun
  | [d1, d2, d3, d4] => { results := [.lit (.bool true)], args := [d1, d2, d3, d4] }
  | _ => none }
def cascadeTransfersRow : OpenClaim := { program := "ytgmkhhfbckjaeaagreat", sum := "a18e6639567a34acbbe9b6afb47b7687d0997933f26985df3779ce4a9add123c", func := "dspcompiler/dspcompilerlaw24.CascadeTransfers", spec := "cascadeTransfers", unfollowed := true, recurses := true, apart := false }
def CascadeTransfersSaid : Prop := cascadeTransfersRow.holds Tryz.pinned (OpenSpec.ofChange cascadeTransfersSpec)

/-- ITS FALSE NEIGHBOUR: 'it returns false'. Refute it at one input. -/
def cascadeTransfersWrong : ChangeSpec := { name := "cascadeTransfers", fn := fun _ => fun
  | [d1, d2, d3, d4] => { results := [.lit (.bool false)], args := [d1, d2, d3, d4] }
  | _ => none }
def CascadeTransfersWrongFalsely : Prop := cascadeTransfersRow.holds Tryz.pinned (OpenSpec.ofChange cascadeTransfersWrong)

/- THE SECOND FORM. 'bulk': how many values and letters a reading holds, each counted each time it is reached (what is shared counts as often as it is met; a slice's spare places count too). A statement '..UptoSaid' is the law's where the arguments, and the package variables that the reading takes, are together of bulk at most 1048576: NARROWER than '..Said'. Prove '..Said' where nothing that the law and all that it calls make is longer than what came in: it says more and counts as full. Else prove '..UptoSaid'. A law counts once. -/
mutual
def uptoBulk {H : Type} : DataW H → Nat
  | .lit (.string bytes) => bytes.length + 1
  | .lit _ => 1
  | .nil => 1
  | .ptr d => uptoBulk d + 1
  | .slice elems spare => uptoBulkAll elems + uptoBulkAll spare + 1
  | .agg parts => uptoBulkAll parts + 1
  | .iface _ d => uptoBulk d + 1
  | .map entries => uptoBulkEntries entries + 1
  | .held _ => 1
def uptoBulkAll {H : Type} : List (DataW H) → Nat
  | [] => 0
  | d :: r => uptoBulk d + uptoBulkAll r
def uptoBulkEntries {H : Type} : List (Lit × DataW H) → Nat
  | [] => 0
  | x :: r => uptoBulkEntry x + uptoBulkEntries r
def uptoBulkEntry {H : Type} : Lit × DataW H → Nat
  | (.string bytes, d) => bytes.length + uptoBulk d + 1
  | (_, d) => uptoBulk d + 1
 end
def uptoSmall : (H : Type) → List (DataW H) → Bool := fun _ ds => decide (uptoBulkAll ds ≤ 1048576)
def OpenSpec.upto (s : _root_.Go.ChangeSpec) : _root_.Go.OpenSpec := { _root_.Go.OpenSpec.ofChange s with cond := some uptoSmall }

/-- 'dspcompilerlaw15.ExchangeDesigns', WHERE WHAT IT READS IS OF BULK AT MOST 1048576: true; the input reads as it did. -/
def exchangeDesignsUptoRow : OpenClaim := { program := "ytgmkhhfbckjaeaagreat", sum := "a18e6639567a34acbbe9b6afb47b7687d0997933f26985df3779ce4a9add123c", func := "dspcompiler/dspcompilerlaw15.ExchangeDesigns", spec := "exchangeDesigns", unfollowed := true, recurses := true, apart := false, narrowed := true }
def ExchangeDesignsUptoSaid : Prop := exchangeDesignsUptoRow.holds Tryz.pinned (OpenSpec.upto exchangeDesignsSpec)

/-- 'dspcompilerlaw15.ExchangeChecks', WHERE WHAT IT READS IS OF BULK AT MOST 1048576: true; the input reads as it did. -/
def exchangeChecksUptoRow : OpenClaim := { program := "ytgmkhhfbckjaeaagreat", sum := "a18e6639567a34acbbe9b6afb47b7687d0997933f26985df3779ce4a9add123c", func := "dspcompiler/dspcompilerlaw15.ExchangeChecks", spec := "exchangeChecks", unfollowed := true, recurses := true, apart := false, narrowed := true }
def ExchangeChecksUptoSaid : Prop := exchangeChecksUptoRow.holds Tryz.pinned (OpenSpec.upto exchangeChecksSpec)

/-- 'dspcompilerlaw15.ExchangeVallee', WHERE WHAT IT READS IS OF BULK AT MOST 1048576: true; the input reads as it did. -/
def exchangeValleeUptoRow : OpenClaim := { program := "ytgmkhhfbckjaeaagreat", sum := "a18e6639567a34acbbe9b6afb47b7687d0997933f26985df3779ce4a9add123c", func := "dspcompiler/dspcompilerlaw15.ExchangeVallee", spec := "exchangeVallee", unfollowed := true, recurses := true, apart := false, narrowed := true }
def ExchangeValleeUptoSaid : Prop := exchangeValleeUptoRow.holds Tryz.pinned (OpenSpec.upto exchangeValleeSpec)

/-- 'dspcompilerlaw15.ExchangeLevels', WHERE WHAT IT READS IS OF BULK AT MOST 1048576: true; the input reads as it did. -/
def exchangeLevelsUptoRow : OpenClaim := { program := "ytgmkhhfbckjaeaagreat", sum := "a18e6639567a34acbbe9b6afb47b7687d0997933f26985df3779ce4a9add123c", func := "dspcompiler/dspcompilerlaw15.ExchangeLevels", spec := "exchangeLevels", unfollowed := true, recurses := true, apart := false, narrowed := true }
def ExchangeLevelsUptoSaid : Prop := exchangeLevelsUptoRow.holds Tryz.pinned (OpenSpec.upto exchangeLevelsSpec)

/-- 'dspcompilerlaw15.ExchangeBest', WHERE WHAT IT READS IS OF BULK AT MOST 1048576: true; the input reads as it did. -/
def exchangeBestUptoRow : OpenClaim := { program := "ytgmkhhfbckjaeaagreat", sum := "a18e6639567a34acbbe9b6afb47b7687d0997933f26985df3779ce4a9add123c", func := "dspcompiler/dspcompilerlaw15.ExchangeBest", spec := "exchangeBest", unfollowed := true, recurses := true, apart := false, narrowed := true }
def ExchangeBestUptoSaid : Prop := exchangeBestUptoRow.holds Tryz.pinned (OpenSpec.upto exchangeBestSpec)

/-- 'dspcompilerlaw25.LatticeTransfers', WHERE WHAT IT READS IS OF BULK AT MOST 1048576: true; the input reads as it did. -/
def latticeTransfersUptoRow : OpenClaim := { program := "ytgmkhhfbckjaeaagreat", sum := "a18e6639567a34acbbe9b6afb47b7687d0997933f26985df3779ce4a9add123c", func := "dspcompiler/dspcompilerlaw25.LatticeTransfers", spec := "latticeTransfers", unfollowed := true, recurses := true, apart := false, narrowed := true }
def LatticeTransfersUptoSaid : Prop := latticeTransfersUptoRow.holds Tryz.pinned (OpenSpec.upto latticeTransfersSpec)

/-- 'dspcompilerlaw26.WaveTransfers', WHERE WHAT IT READS IS OF BULK AT MOST 1048576: true; the input reads as it did. -/
def waveTransfersUptoRow : OpenClaim := { program := "ytgmkhhfbckjaeaagreat", sum := "a18e6639567a34acbbe9b6afb47b7687d0997933f26985df3779ce4a9add123c", func := "dspcompiler/dspcompilerlaw26.WaveTransfers", spec := "waveTransfers", unfollowed := true, recurses := true, apart := false, narrowed := true }
def WaveTransfersUptoSaid : Prop := waveTransfersUptoRow.holds Tryz.pinned (OpenSpec.upto waveTransfersSpec)

/-- 'dspcompilerlaw24.CascadeTransfers', WHERE WHAT IT READS IS OF BULK AT MOST 1048576: true; the input reads as it did. -/
def cascadeTransfersUptoRow : OpenClaim := { program := "ytgmkhhfbckjaeaagreat", sum := "a18e6639567a34acbbe9b6afb47b7687d0997933f26985df3779ce4a9add123c", func := "dspcompiler/dspcompilerlaw24.CascadeTransfers", spec := "cascadeTransfers", unfollowed := true, recurses := true, apart := false, narrowed := true }
def CascadeTransfersUptoSaid : Prop := cascadeTransfersUptoRow.holds Tryz.pinned (OpenSpec.upto cascadeTransfersSpec)

end Rows
end Go.Proofs.YtgmkhhfbckjaeaaGreat
