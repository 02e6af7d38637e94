/- The integer cosine transform: DctStaysNear answers true for all numbers of shears and all vectors: Forward differs from the exact product with Linear by at most Spread. -/
import Derived.Test.YtbolmkfphieogaaGreatDsnG
import Derived.Test.YtbolmkfphieogaaGreatRows
import Derived.WalkKit
import Derived.ProofKit
import Derived.OpenShut
import Derived.ShutString
import Derived.ChangeOld
import Derived.Below
namespace Go.Proofs.YtbolmkfphieogaaGreat.dctStaysNear
open Go.ChangeShapes Go.WideShapes Go.ChangeAt Go.RowKit
set_option linter.unusedVariables false
theorem own : ownKnob Tryz.prog.godebug = none := by kernel_rfl
theorem laidOut : laidOutB Tryz.prog = true := by kernel_rfl
set_option maxRecDepth 100000 in
theorem lifted (os : Os) (started : os.Started) (H : Type) (enc : TypeId × Value → H) :
  ReturnsInHanded {} Tryz.checked os 11 .any (Rows.dctStaysNearSpec.pre6 enc Tryz.prog Tryz.f11 Rows.dctStaysNearRow.domain false) (Rows.dctStaysNearSpec.post enc Tryz.prog Tryz.f11 false true false false) := by
 refine returnsInHanded_of_change (C := Tryz.checked) own started xj Tryz.func11
  (ChangeSpec.witness6 (enc := enc) (C := Tryz.checked) false ⟨#[], #[.agg #[.slice none 0 0, .slice none 0 0, .slice none 0 0, .slice none 0 0], .slice none 0 0], []⟩ 8 xj xj xj xj) ?_
 intro W base args ds gs before hval0 hW hcnd _
 have hval : ∀ (j : Nat) t v, Tryz.f11.params[j]? = some t → args[j]? = some v → Value.okWide Tryz.prog W .any base t v := hval0
 have hW' := hW
 obtain ⟨p, q, hA0, hV, rfl, hfz, hnd⟩ := hW
 have hA : DataW.TrodAll enc Tryz.prog W 0 (fun _ => true) true Tryz.f11.params.toList args.toList ds p := hA0
 rw [Tryz.params11] at hA hval
 obtain ⟨v0, vs0, d0, ds0, p0, q0, hargs, rfl, rfl, h0, r0⟩ := trodAll_cons hA
 obtain ⟨v1, vs1, d1, ds1, p1, q1, rfl, rfl, rfl, h1, r1⟩ := trodAll_cons r0
 obtain ⟨rfl, rfl, rfl⟩ := trodAll_nil r1
 obtain rfl : args = #[v0, v1] := by cases args; simp_all
 obtain ⟨rfl, rfl⟩ := trodVars_none hV
 have k0 := h0
 have lt0 : ∀ x ∈ p0, x.block < W.heap.size := by obtain ⟨m, hm⟩ := k0; exact DataW.trod_lt m _ _ _ hm
 obtain ⟨s0_0, s0_1, s0_2, s0_3, m0_0, m0_1, m0_2, m0_3, rfl, g0_0, f0_0, g0_1, f0_1, g0_2, f0_2, g0_3, f0_3⟩ := ar_ints4 (hval 0 63 v0 rfl rfl) h0
 have k1 := h1
 have lt1 : ∀ x ∈ p1, x.block < W.heap.size := by obtain ⟨m, hm⟩ := k1; exact DataW.trod_lt m _ _ _ hm
 obtain ⟨a1, x1, rfl, g1, f1⟩ := ar_intsv (hval 1 30 v1 rfl rfl) h1
 clear hA0 hval0
 refine (w_stays (Dat.refl W) g0_0 f0_0 g0_1 f0_1 g0_2 f0_2 g0_3 f0_3 g1 f1).mono fun e W' ⟨v, u', he, _, bel, _, hv⟩ => ?_
 subst hv
 subst he
 exact ⟨_, rfl, _, _, _, [], _, [], hW', trodAll_mk1 (shut_bool Tryz.underlying4 _), (trodAll_cons_mk (Below.trod laidOut xj (of_decide_eq_true xj) k0 bel lt0) (trodAll_cons_mk (Below.trod laidOut xj (of_decide_eq_true xj) k1 bel lt1) trodAll_mk0)), rfl, bel.frame _, fun h => by cases h⟩
theorem j0 : (Rows.dctStaysNearRow.inPlace == Tryz.pinned.checked.prog.inPlace 11) = true := by kernel_rfl
theorem j1 : (Rows.dctStaysNearRow.unfollowed == Tryz.pinned.checked.prog.unfollowed 11) = true := by kernel_rfl
theorem j2 : (Rows.dctStaysNearRow.recurses == Tryz.pinned.checked.prog.recurses 11) = true := by kernel_rfl
theorem j3 : (Rows.dctStaysNearRow.named == Tryz.pinned.checked.prog.varsNamed 11) = true := by kernel_rfl
theorem j4 : (Rows.dctStaysNearRow.lifted == Tryz.pinned.checked.prog.liftsFinal) = true := by kernel_rfl
theorem j5 : Tryz.pinned.checked.prog.mayEnter = true := by kernel_rfl
theorem closed : joinedFacts Tryz.pinned.checked.prog 11 Tryz.f11 Rows.dctStaysNearSpec Rows.dctStaysNearRow = true := by
 unfold joinedFacts
 rw [j0, j1, j2, j3, j4, j5]
 kernel_rfl
theorem over : Rows.dctStaysNearRow.holds Tryz.pinned (OpenSpec.ofChange Rows.dctStaysNearSpec) :=
 OpenClaim.holds_of_wide 11 Tryz.f11 rfl rfl rfl rfl rfl rfl rfl ⟨rfl, rfl, rfl, rfl, rfl⟩ rfl rfl rfl rfl rfl xj Tryz.func11 closed
  (of_decide_eq_true xj) (by unfold Func.isWrapper; first | (rw [if_pos (by decide +kernel)]; kernel_rfl) | (rw [if_neg (by decide +kernel)]; exact ⟨rfl, rfl⟩))
  (fun os started H enc _ => lifted os started H enc)
theorem proved : Rows.DctStaysNearSaid := over
#print axioms proved
end Go.Proofs.YtbolmkfphieogaaGreat.dctStaysNear
