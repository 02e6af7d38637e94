/-
  No cell of these rows narrows 'for every input' (looked for: loops, veiled, ifaces, maps, wideKeys, modest, calm, conditions, laid).
  DERIVED. THE GIVEN ROWS OF THIS SEAT. 4 by the template 'for every input the law returns true; each argument reads behind the call as it read before'; 0 by the template 'total and deterministic' (their statements: YtcmllhhiekjmaaaGreatTotals.lean).
  GIVEN WITH THE SEED: the statements are not yours to turn. If you find one false, say at which input.
  Laid BY PROGRAM, IN A SANDBOX (cutbox-rows.mjs): the forced cells as the released guide's own fill.sh prints them over the translation a29f068509e8b2a2… (all of the seat's roots in one cut). By AI agents, Wed Nov 11 2026. No macro, syntax, notation, axiom, sorry.
-/
import Derived.Test.YtcmllhhiekjmaaaGreatChecked
import GoSem.Claim
import GoSem.ClaimJoined
import GoSem.ClaimMapViews
import Derived.JoinedTies
import Derived.KernelRfl
namespace Go.Proofs.YtcmllhhiekjmaaaGreat
/- THE CELL 'sum', in the pinned program and in every row, IS THE sha256 OF THE DUMP (.gsa) THAT YtcmllhhiekjmaaaGreatProg.lean LOADS. Nothing in Lean hashes anything: it is a label: what it is worth is what the hold of that sum in a sandbox is worth. -/
noncomputable def Tryz.pinned : Pinned := { name := "ytcmllhhiekjmaaagreat", sum := "a29f068509e8b2a28336c859fdeeaf6286da0a02e2afa6ef966d67efe00446f0", checked := Tryz.checked }
namespace Rows
def none {H : Type} : Left H := { results := [], args := [] }

/-- 'dspcompilerlaw34.CyclotomicEncloses': WHATEVER THE INPUT: true; the input reads as it did. -/
def cyclotomicEnclosesSpec : ChangeSpec := { name := "cyclotomicEncloses", fn := fun _ => fun
  | [d1, d2, d3] => { results := [.lit (.bool true)], args := [d1, d2, d3] }
  | _ => none }
def cyclotomicEnclosesRow : OpenClaim := { program := "ytcmllhhiekjmaaagreat", sum := "a29f068509e8b2a28336c859fdeeaf6286da0a02e2afa6ef966d67efe00446f0", func := "dspcompiler/dspcompilerlaw34.CyclotomicEncloses", spec := "cyclotomicEncloses", unfollowed := true, recurses := true, apart := false }
def CyclotomicEnclosesSaid : Prop := cyclotomicEnclosesRow.holds Tryz.pinned (OpenSpec.ofChange cyclotomicEnclosesSpec)

/-- ITS FALSE NEIGHBOUR: 'it returns false'. Refute it at one input. -/
def cyclotomicEnclosesWrong : ChangeSpec := { name := "cyclotomicEncloses", fn := fun _ => fun
  | [d1, d2, d3] => { results := [.lit (.bool false)], args := [d1, d2, d3] }
  | _ => none }
def CyclotomicEnclosesWrongFalsely : Prop := cyclotomicEnclosesRow.holds Tryz.pinned (OpenSpec.ofChange cyclotomicEnclosesWrong)

/-- 'dspcompilerlaw37.DctCosines': WHATEVER THE INPUT: true; the input reads as it did. -/
def dctCosinesSpec : ChangeSpec := { name := "dctCosines", fn := fun _ => fun
  | [d1, d2, d3, d4, d5, d6] => { results := [.lit (.bool true)], args := [d1, d2, d3, d4, d5, d6] }
  | _ => none }
def dctCosinesRow : OpenClaim := { program := "ytcmllhhiekjmaaagreat", sum := "a29f068509e8b2a28336c859fdeeaf6286da0a02e2afa6ef966d67efe00446f0", func := "dspcompiler/dspcompilerlaw37.DctCosines", spec := "dctCosines", unfollowed := true, recurses := true, apart := false }
def DctCosinesSaid : Prop := dctCosinesRow.holds Tryz.pinned (OpenSpec.ofChange dctCosinesSpec)

/-- ITS FALSE NEIGHBOUR: 'it returns false'. Refute it at one input. -/
def dctCosinesWrong : ChangeSpec := { name := "dctCosines", fn := fun _ => fun
  | [d1, d2, d3, d4, d5, d6] => { results := [.lit (.bool false)], args := [d1, d2, d3, d4, d5, d6] }
  | _ => none }
def DctCosinesWrongFalsely : Prop := dctCosinesRow.holds Tryz.pinned (OpenSpec.ofChange dctCosinesWrong)

/-- 'dspcompilerlaw24.CascadeButterworth': WHATEVER THE INPUT: true; the input reads as it did. -/
def cascadeButterworthSpec : ChangeSpec := { name := "cascadeButterworth", fn := fun _ => fun
  | [d1, d2, d3, d4] => { results := [.lit (.bool true)], args := [d1, d2, d3, d4] }
  | _ => none }
def cascadeButterworthRow : OpenClaim := { program := "ytcmllhhiekjmaaagreat", sum := "a29f068509e8b2a28336c859fdeeaf6286da0a02e2afa6ef966d67efe00446f0", func := "dspcompiler/dspcompilerlaw24.CascadeButterworth", spec := "cascadeButterworth", unfollowed := true, recurses := true, apart := false }
def CascadeButterworthSaid : Prop := cascadeButterworthRow.holds Tryz.pinned (OpenSpec.ofChange cascadeButterworthSpec)

/-- ITS FALSE NEIGHBOUR: 'it returns false'. Refute it at one input. -/
def cascadeButterworthWrong : ChangeSpec := { name := "cascadeButterworth", fn := fun _ => fun
  | [d1, d2, d3, d4] => { results := [.lit (.bool false)], args := [d1, d2, d3, d4] }
  | _ => none }
def CascadeButterworthWrongFalsely : Prop := cascadeButterworthRow.holds Tryz.pinned (OpenSpec.ofChange cascadeButterworthWrong)

/-- 'dspcompilerlaw16.MinimaxErrors': WHATEVER THE INPUT: true; the input reads as it did. -/
def minimaxErrorsSpec : ChangeSpec := { name := "minimaxErrors", fn := fun _ => fun
  | [d1, d2, d3, d4, d5] => { results := [.lit (.bool true)], args := [d1, d2, d3, d4, d5] }
  | _ => none }
def minimaxErrorsRow : OpenClaim := { program := "ytcmllhhiekjmaaagreat", sum := "a29f068509e8b2a28336c859fdeeaf6286da0a02e2afa6ef966d67efe00446f0", func := "dspcompiler/dspcompilerlaw16.MinimaxErrors", spec := "minimaxErrors", unfollowed := true, recurses := true, apart := false }
def MinimaxErrorsSaid : Prop := minimaxErrorsRow.holds Tryz.pinned (OpenSpec.ofChange minimaxErrorsSpec)

/-- ITS FALSE NEIGHBOUR: 'it returns false'. Refute it at one input. -/
def minimaxErrorsWrong : ChangeSpec := { name := "minimaxErrors", fn := fun _ => fun
  | [d1, d2, d3, d4, d5] => { results := [.lit (.bool false)], args := [d1, d2, d3, d4, d5] }
  | _ => none }
def MinimaxErrorsWrongFalsely : Prop := minimaxErrorsRow.holds Tryz.pinned (OpenSpec.ofChange minimaxErrorsWrong)

/- THE SECOND FORM. 'bulk': how many values and letters a reading holds, each counted each time it is reached (what is shared counts as often as it is met; a slice's spare places count too). A statement '..UptoSaid' is the law's where the arguments, and the package variables that the reading takes, are together of bulk at most 1048576: NARROWER than '..Said'. Prove '..Said' where nothing that the law and all that it calls make is longer than what came in: it says more and counts as full. Else prove '..UptoSaid'. A law counts once. -/
mutual
def uptoBulk {H : Type} : DataW H → Nat
  | .lit (.string bytes) => bytes.length + 1
  | .lit _ => 1
  | .nil => 1
  | .ptr d => uptoBulk d + 1
  | .slice elems spare => uptoBulkAll elems + uptoBulkAll spare + 1
  | .agg parts => uptoBulkAll parts + 1
  | .iface _ d => uptoBulk d + 1
  | .map entries => uptoBulkEntries entries + 1
  | .held _ => 1
def uptoBulkAll {H : Type} : List (DataW H) → Nat
  | [] => 0
  | d :: r => uptoBulk d + uptoBulkAll r
def uptoBulkEntries {H : Type} : List (Lit × DataW H) → Nat
  | [] => 0
  | x :: r => uptoBulkEntry x + uptoBulkEntries r
def uptoBulkEntry {H : Type} : Lit × DataW H → Nat
  | (.string bytes, d) => bytes.length + uptoBulk d + 1
  | (_, d) => uptoBulk d + 1
 end
def uptoSmall : (H : Type) → List (DataW H) → Bool := fun _ ds => decide (uptoBulkAll ds ≤ 1048576)
def OpenSpec.upto (s : _root_.Go.ChangeSpec) : _root_.Go.OpenSpec := { _root_.Go.OpenSpec.ofChange s with cond := some uptoSmall }

/-- 'dspcompilerlaw34.CyclotomicEncloses', WHERE WHAT IT READS IS OF BULK AT MOST 1048576: true; the input reads as it did. -/
def cyclotomicEnclosesUptoRow : OpenClaim := { program := "ytcmllhhiekjmaaagreat", sum := "a29f068509e8b2a28336c859fdeeaf6286da0a02e2afa6ef966d67efe00446f0", func := "dspcompiler/dspcompilerlaw34.CyclotomicEncloses", spec := "cyclotomicEncloses", unfollowed := true, recurses := true, apart := false, narrowed := true }
def CyclotomicEnclosesUptoSaid : Prop := cyclotomicEnclosesUptoRow.holds Tryz.pinned (OpenSpec.upto cyclotomicEnclosesSpec)

/-- 'dspcompilerlaw37.DctCosines', WHERE WHAT IT READS IS OF BULK AT MOST 1048576: true; the input reads as it did. -/
def dctCosinesUptoRow : OpenClaim := { program := "ytcmllhhiekjmaaagreat", sum := "a29f068509e8b2a28336c859fdeeaf6286da0a02e2afa6ef966d67efe00446f0", func := "dspcompiler/dspcompilerlaw37.DctCosines", spec := "dctCosines", unfollowed := true, recurses := true, apart := false, narrowed := true }
def DctCosinesUptoSaid : Prop := dctCosinesUptoRow.holds Tryz.pinned (OpenSpec.upto dctCosinesSpec)

/-- 'dspcompilerlaw24.CascadeButterworth', WHERE WHAT IT READS IS OF BULK AT MOST 1048576: true; the input reads as it did. -/
def cascadeButterworthUptoRow : OpenClaim := { program := "ytcmllhhiekjmaaagreat", sum := "a29f068509e8b2a28336c859fdeeaf6286da0a02e2afa6ef966d67efe00446f0", func := "dspcompiler/dspcompilerlaw24.CascadeButterworth", spec := "cascadeButterworth", unfollowed := true, recurses := true, apart := false, narrowed := true }
def CascadeButterworthUptoSaid : Prop := cascadeButterworthUptoRow.holds Tryz.pinned (OpenSpec.upto cascadeButterworthSpec)

/-- 'dspcompilerlaw16.MinimaxErrors', WHERE WHAT IT READS IS OF BULK AT MOST 1048576: true; the input reads as it did. -/
def minimaxErrorsUptoRow : OpenClaim := { program := "ytcmllhhiekjmaaagreat", sum := "a29f068509e8b2a28336c859fdeeaf6286da0a02e2afa6ef966d67efe00446f0", func := "dspcompiler/dspcompilerlaw16.MinimaxErrors", spec := "minimaxErrors", unfollowed := true, recurses := true, apart := false, narrowed := true }
def MinimaxErrorsUptoSaid : Prop := minimaxErrorsUptoRow.holds Tryz.pinned (OpenSpec.upto minimaxErrorsSpec)

end Rows
end Go.Proofs.YtcmllhhiekjmaaaGreat
