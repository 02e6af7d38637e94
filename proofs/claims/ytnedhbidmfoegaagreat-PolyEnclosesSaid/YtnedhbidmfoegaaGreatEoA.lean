/- Symbolic walks: data worlds, symbolic states, and regions in whatever order. No program in sight. Symbolic walks: what an operation does; regions in the order of the text and in whatever order. Symbolic walks: one step is sound. Symbolic walks: one operation, carried out. Symbolic walks: operations may change places. Symbolic walks: regions in whatever order. Symbolic walks: a region in whatever order; a region in the order of its text. Symbolic walks: code. Symbolic walks: the rules by which a walk is printed. Symbolic walks: rules for data: an element's address, loads. Symbolic walks: loops whose rounds are counted; cuts. Plain laws for the reference of integers and rationals. Plain laws of intervals of rationals; a copied list of digits. Plain polynomials: primitive parts; how many bits Euclid's way needs. The sizes of the types. Printed by wip/sym/g_ty.py. Contracts of the reference of rational. Printed by wip/sym/g_rq.py. Contracts of interval. Printed by wip/sym/g_itv.py. Contracts of the reference of interval, of small functions. Printed by wip/sym/g_r4.py. Contracts of poly: division, greatest common divisors. Printed by wip/sym/g_dm.py. Contracts: equality of lists of rationals, polynomials that are made. Printed by wip/sym/g_q5.py. The laws of chapter 5, without programs: common factors, powers. Polynomials that are made of integers; the laws of chapter 5 in the words of lists. More operations of the walk: conversions of integers; elements and fronts of lists of integers. Contracts of make's polynomials, of powers. Printed by wip/sym/g_mk.py. The examples of chapter 5, without programs. The examples of chapter 5, walked. Printed by wip/sym/g_l5.py. Plain laws: larger intervals have larger results; common numbers. Values, without programs: Horner's rule, compositions, enclosures. Horner's rule with whole numbers, without programs; values of sums, products, compositions. The laws on common divisors and enclosures, in the words of lists. Contracts of values of polynomials. Printed by wip/sym/g_ev.py. PolyEncloses, walked. Printed by wip/sym/g_l5z.py. -/
import Derived.Test.YtnedhbidmfoegaaGreatGcE
import Derived.Orders
import Derived.KernelRfl
import Derived.LoopN
import Derived.Test.YtnedhbidmfoegaaGreatProg
namespace Go.Proofs.YtnedhbidmfoegaaGreat
open Go.RowKit
set_option linter.unusedVariables false

section
variable {u u' u'' w w' : World}
end

end Go.Proofs.YtnedhbidmfoegaaGreat
namespace Go.Proofs.YtnedhbidmfoegaaGreat
open Go.RowKit
set_option linter.unusedVariables false
section
variable (P : Program) (ops : Array Oper) (w0 : Base) (u0 : World)
end

section
variable {P : Program} {ops : Array Oper} {w0 : Base} {u0 : World}
end
end Go.Proofs.YtnedhbidmfoegaaGreat
namespace Go.Proofs.YtnedhbidmfoegaaGreat
open Go.RowKit
set_option linter.unusedVariables false
section
variable {P : Program} {ops : Array Oper} {w0 : Base} {u0 : World} {S : St} {B : Tmp → Nat} {a : Act} {w u : World} {o : Oper}
end
end Go.Proofs.YtnedhbidmfoegaaGreat
namespace Go.Proofs.YtnedhbidmfoegaaGreat
open Go.RowKit
set_option linter.unusedVariables false
section
variable {P : Program} {ops : Array Oper} {w0 : Base} {u0 : World} {S : St} {B : Tmp → Nat} {a : Act} {w u u' : World} {o : Oper}
end
end Go.Proofs.YtnedhbidmfoegaaGreat
namespace Go.Proofs.YtnedhbidmfoegaaGreat
open Go.RowKit
set_option linter.unusedVariables false
section
variable {P : Program} {ops : Array Oper} {w0 : Base} {u0 : World} {S : St} {B : Tmp → Nat} {a : Act} {w u u' : World} {o x y : Oper}
end
end Go.Proofs.YtnedhbidmfoegaaGreat
namespace Go.Proofs.YtnedhbidmfoegaaGreat
open Go.RowKit
set_option linter.unusedVariables false
section
variable {P : Program} {ops : Array Oper} {w0 : Base} {u0 : World} {S : St} {B : Tmp → Nat} {a : Act} {w u u' : World} {o x y : Oper}
end
end Go.Proofs.YtnedhbidmfoegaaGreat
namespace Go.Proofs.YtnedhbidmfoegaaGreat
open Go.RowKit
set_option linter.unusedVariables false
section
variable {P : Program} {ops : Array Oper} {w0 : Base} {u0 : World} {S : St} {B : Tmp → Nat} {a : Act} {w u u' : World}
end
end Go.Proofs.YtnedhbidmfoegaaGreat
namespace Go.Proofs.YtnedhbidmfoegaaGreat
open Go.RowKit
set_option linter.unusedVariables false
section
variable (P : Program) (w0 : Base) (u0 : World)
end
section
variable {P : Program} {w0 : Base} {u0 : World} {S T : St} {B : Tmp → Nat} {a : Act} {w u u' : World} {Q : MP} {c d : Code}
end
end Go.Proofs.YtnedhbidmfoegaaGreat
namespace Go.Proofs.YtnedhbidmfoegaaGreat
open Go.RowKit
set_option linter.unusedVariables false
section
variable {P : Program} {ops : Array Oper} {w0 : Base} {u0 : World} {S T : St} {B : Tmp → Nat} {a : Act} {w u u' : World} {o : Oper} {p : List Tmp} {seq : Bool} {rest : List (Oper × List Tmp)} {K : St → World → Prop}
end
end Go.Proofs.YtnedhbidmfoegaaGreat
namespace Go.Proofs.YtnedhbidmfoegaaGreat
open Go.RowKit
set_option linter.unusedVariables false
section
variable {P : Program} {ops : Array Oper} {w0 : Base} {u0 : World} {S T : St} {B : Tmp → Nat} {a : Act} {w u u' : World} {o : Oper} {p : List Tmp} {seq : Bool} {rest : List (Oper × List Tmp)} {K : St → World → Prop}
end
end Go.Proofs.YtnedhbidmfoegaaGreat
namespace Go.Proofs.YtnedhbidmfoegaaGreat
open Go.RowKit
set_option linter.unusedVariables false
section
variable (P : Program) (w0 : Base) (u0 : World)
/-- Behind a round: R. -/
def MP.rnd (R : St → World → Prop) (hR : Mono R) (Q : MP) : MP where
  f e S u := match e with | .normal => R S u | e => Q.f e S u
  mono e := by cases e <;> first | exact hR | exact Q.mono _
/-- At most n rounds are left. -/
def Rnds (c : Code) (Q : MP) : Nat → { R : St → World → Prop // Mono R }
  | 0 => ⟨fun _ _ => False, fun _ _ _ _ h => h⟩
  | n + 1 => ⟨fun S u => SW P w0 u0 c S u (MP.rnd (Rnds c Q n).1 (Rnds c Q n).2 Q), SW.mono P w0 u0 c _⟩
/-- What stands behind a round of which n are left. -/
def MP.rn (c : Code) (Q : MP) (n : Nat) : MP := MP.rnd (Rnds P w0 u0 c Q n).1 (Rnds P w0 u0 c Q n).2 Q
end
section
variable {P : Program} {w0 : Base} {u0 : World} {S T : St} {B : Tmp → Nat} {a : Act} {w u u' : World} {Q : MP} {c d : Code}
theorem sw_rounds (n : Nat) (h : SW P w0 u0 c S u (MP.rn P w0 u0 c Q n)) : SW P w0 u0 (.loop c) S u Q := by
  have key : ∀ n S u, (Rnds P w0 u0 c Q n).1 S u → ∀ B a w u1, Ext u u1 → Rep w0 u0 S B a w u1 → Code.rounds P c (fun e a' w' => ∃ S' B' u'', Rep w0 u0 S' B' a' w' u'' ∧ Q.f e S' u'') n a w := by
    intro n
    induction n with
    | zero => intro S u h; exact h.elim
    | succ n ih =>
      intro S u h B a w u1 e1 hr
      refine wp_mono (h B a w u1 e1 hr) fun ex a' w' ⟨S', B', u'', k1, k3⟩ => ?_
      cases ex with
      | normal => exact ih S' u'' k3 B' a' w' u'' (Ext.refl _) k1
      | _ => exact ⟨S', B', u'', k1, k3⟩
  intro B a w u' e hr
  exact wp_loop_rounds (n + 1) (key (n + 1) S u h B a w u' e hr)
/-- The next round. -/
theorem rn_next {n : Nat} (h : SW P w0 u0 c S u (MP.rn P w0 u0 c Q n)) : (MP.rn P w0 u0 c Q (n + 1)).f .normal S u := h
section
variable {ops : Array Oper} {o : Oper} {p : List Tmp} {seq : Bool} {rest : List (Oper × List Tmp)} {K : St → World → Prop}
end
end
end Go.Proofs.YtnedhbidmfoegaaGreat
namespace Go.Proofs.YtnedhbidmfoegaaGreat
open Go.RowKit
set_option linter.unusedVariables false
namespace Nt
theorem add_div2 {a c : Int} {b d : Nat} (hb : 0 < b) (hd : 0 < d) : (((a * d + c * b : Int)) : Rat) / (((b * d : Int)) : Rat) = mkRat a b + mkRat c d := by
  rw [← add_mk hb hd, Rat.mkRat_eq_div]
  congr 1
theorem mul_div2 {a c : Int} {b d : Nat} : (((a * c : Int)) : Rat) / (((b * d : Int)) : Rat) = mkRat a b * mkRat c d := by
  rw [← mul_mk, Rat.mkRat_eq_div]
  congr 1
theorem cmpQ_lt (x y : Rat) : decide (cmpQ x y < 0) = decide (x < y) := by
  unfold cmpQ
  rw [decide_eq_decide]
  split
  · simp [*]
  · split <;> simp [*]
end Nt
section
variable {u u' w w' : World} {x y : Sl} {i j : IL} {r r' : RL} {N M K L : Nat} {z z' : Int} {q q' : Rat}
theorem neg_rat (h : RatN u r q K) (h' : IntN u i (-q.num) K) : RatN u ⟨i.s, i.m, r.d⟩ (-q) K := by
  refine ⟨?_, ?_⟩
  · show IntN u i _ _; rw [Rat.neg_num]; exact h'
  · show NatN u r.d _ _; rw [Rat.neg_den]; exact h.2
end
end Go.Proofs.YtnedhbidmfoegaaGreat
namespace Go.Proofs.YtnedhbidmfoegaaGreat
open Go.RowKit
set_option linter.unusedVariables false
namespace Nt
theorem cmpQ_gt (x y : Rat) : decide ((0 : Int) < cmpQ x y) = decide (y < x) := by
  unfold cmpQ
  rw [decide_eq_decide]
  split
  · constructor
    · intro h; simp at h
    · intro h; grind
  · split
    · constructor
      · intro h; simp at h
      · intro h; grind
    · constructor
      · intro h; grind
      · intro h; simp
theorem ends_gt {x y : Rat} (h : decide ((0 : Int) < cmpQ x y) = true) : lo x y = y ∧ hi x y = x := by
  rw [cmpQ_gt] at h
  have h := of_decide_eq_true h
  unfold lo hi
  exact ⟨if_pos h, if_neg (by grind)⟩
theorem ends_le {x y : Rat} (h : decide ((0 : Int) < cmpQ x y) = false) : lo x y = x ∧ hi x y = y := by
  rw [cmpQ_gt] at h
  have h := of_decide_eq_false h
  unfold lo hi
  refine ⟨if_neg h, ?_⟩
  split
  · rfl
  · grind
theorem lesser_lt {x y : Rat} (h : decide (cmpQ y x < (0 : Int)) = true) : lo x y = y := by
  rw [cmpQ_lt] at h
  exact if_pos (of_decide_eq_true h)
theorem lesser_ge {x y : Rat} (h : decide (cmpQ y x < (0 : Int)) = false) : lo x y = x := by
  rw [cmpQ_lt] at h
  exact if_neg (of_decide_eq_false h)
theorem greater_gt {x y : Rat} (h : decide ((0 : Int) < cmpQ y x) = true) : hi x y = y := by
  rw [cmpQ_gt] at h
  exact if_pos (of_decide_eq_true h)
theorem greater_le {x y : Rat} (h : decide ((0 : Int) < cmpQ y x) = false) : hi x y = x := by
  rw [cmpQ_gt] at h
  exact if_neg (of_decide_eq_false h)
theorem lo_le_hi (x y : Rat) : lo x y ≤ hi x y := by unfold lo hi; grind
theorem lo_of_le {x y : Rat} (h : x ≤ y) : lo x y = x ∧ hi x y = y := by unfold lo hi; grind
/-- Whether x lies in the interval with the ends a, b. -/
def inI (a b x : Rat) : Bool := decide (lo a b ≤ x) && decide (x ≤ hi a b)
theorem inI_less (a b x : Rat) : inI a b x = ((!decide (x < lo a b)) && (!decide (hi a b < x))) := by
  unfold inI
  rw [Bool.eq_iff_iff]
  simp
  grind
/-- The least, the greatest of four. -/
def lo4 (a b c d : Rat) : Rat := lo (lo (lo a b) c) d
def hi4 (a b c d : Rat) : Rat := hi (hi (hi a b) c) d
end Nt
section
variable {u u' w w' : World} {x y : Sl} {i j : IL} {r r' : RL} {N M K L : Nat} {z z' : Int} {q q' : Rat}
theorem k_cloneN (d : Dat u w) (h : NatN u x N K) (hK : K ≤ 500000000) : Calls Tryz.prog 184 #[x.v] w (Post u w fun v u' => ∃ y : Sl, v = y.v ∧ NatN u' y N K) := by
  obtain ⟨h1, h2, h3⟩ := h
  refine (CloneU_any _ _ _ _ _ (h2.ext d.ext) (by omega)).mono fun e w' ⟨A', c', he, f, g, hb⟩ => ?_
  have hs : u.heap.size ≤ w'.heap.size := by rw [d.size]; exact hb.size
  exact ⟨_, over u w', he, over_dat d hb, hb, over_grow hs, ⟨A', x.n, c'⟩, rfl, h1, f.over (fun hp => by obtain ⟨a, e, k, _⟩ := g hp; exact ⟨a, e, by rw [d.size]; exact k⟩) hs, h3⟩
theorem own_rat {m e : Sl} (h : RatN u r q K) (h1 : NatN u' m q.num.natAbs K) (h2 : NatN u' e q.den K) : RatN u' ⟨r.s, m, e⟩ q K := ⟨⟨h.1.1, h1⟩, h2⟩
end
end Go.Proofs.YtnedhbidmfoegaaGreat
namespace Go.Proofs.YtnedhbidmfoegaaGreat
set_option linter.unusedVariables false
namespace Nt
theorem der_trim_len (l : List Rat) : (trimQ (derQ l)).length ≤ (trimQ l).length - 1 := by
  refine Pol.len_le (p := Pol.mk' (derQ l)) fun i hi => ?_
  rw [Pol.mk_c, derQ_co, ← trim_co, co_ge (by omega)]
  grind
theorem pot_der {l : List Rat} {A H : Nat} (h : (A + 1) * (A + 1) * 3 ^ (2 * (l.length - 1) + 1) ≤ H * H) : (A + 1) * (A + 1) * 3 ^ pot (trimQ l).length (trimQ (trimQ (derQ l))).length ≤ H * H := by
  refine Nat.le_trans (Nat.mul_le_mul_left _ (Nat.pow_le_pow_right (by omega) ?_)) h
  rw [trim_trim]
  have h1 := der_trim_len l
  have h2 := trim_len l
  unfold pot
  split
  · omega
  · split <;> omega
end Nt
end Go.Proofs.YtnedhbidmfoegaaGreat
namespace Go.Proofs.YtnedhbidmfoegaaGreat
set_option linter.unusedVariables false
open Go.RowKit
theorem ty28 : TyIs Tryz.prog 28 true 6 := fun w => ⟨by kernel_rfl, by kernel_rfl⟩
end Go.Proofs.YtnedhbidmfoegaaGreat
namespace Go.Proofs.YtnedhbidmfoegaaGreat
open Go.RowKit
set_option linter.unusedVariables false
theorem k_rqLess {u w : World} {r1 : RL} {x : Rat} {K : Nat} {r2 : RL} {y : Rat} {L : Nat} (d : Dat u w) (hr1 : RatV u r1 x K) (hr2 : RatV u r2 y L) (hK : K ≤ 100000000) (hL : L ≤ 100000000) : Calls Tryz.prog 101 #[r1.v, r2.v] w (Post u w fun v u' => v = .bool (decide (x < y))) := by
  refine calls_sym (args := [r1.v, r2.v]) Tryz.func101 rfl Tryz.ntmps101 (rs := [.tmp 4]) Tryz.results101 (le_b rfl) (le_b rfl) d ?_
  refine sw_seq ?_
  refine sw_reg ?_
  refine sy_new 2 ⟨26, r1.cs⟩ ?_
  refine sy_new 3 ⟨26, r2.cs⟩ ?_
  refine sy_pure 4 (.v (.bool false)) ?_
  refine sy_next 9 [(2, .adr 2 0), (3, .adr 3 0)] [(2, ⟨26, r1.cs⟩), (3, ⟨26, r2.cs⟩)] ?_
  refine sw_seq ?_
  refine sw_reg ?_
  refine sy_ldv 5 (.v (r1.v)) ty26 part_agg ?_
  refine sy_ldv 6 (.v (r2.v)) ty26 part_agg ?_
  refine sy_call 7 40 [r1.v, r2.v] ?_
  intro w11 u11 e11 d11
  have k14 := k_rqCompare d11 (hr1.ext e11) (hr2.ext e11) (by omega) (by omega)
  with_reducible refine Post.mono k14 ?_
  clear k14
  rintro _ u12 g13 rfl
  refine sy_pure 8 (.v (.bool (decide ((Nt.cmpQ x y) < 0)))) ?_
  refine sy_pure 4 (.v (.bool (decide ((Nt.cmpQ x y) < 0)))) ?_
  refine sy_next 9 [(4, .v (.bool (decide ((Nt.cmpQ x y) < 0))))] [] ?_
  refine sw_ret (ret0 [.bool (decide ((Nt.cmpQ x y) < 0))] ⟨res_tmp, trivial⟩ fun u15 e16 => ?_)
  show _ = _
  rw [← Nt.cmpQ_lt]
  rfl
theorem k_rqNeg {u w : World} {r1 : RL} {x : Rat} {K : Nat} (d : Dat u w) (hr1 : RatV u r1 x K) (hK : K ≤ 100000000) : Calls Tryz.prog 110 #[r1.v] w (Post u w fun v u' => ∃ r : RL, v = r.v ∧ RatN u' r (-x) K) := by
  refine calls_sym (args := [r1.v]) Tryz.func110 rfl Tryz.ntmps110 (rs := [.cell 2 26]) Tryz.results110 (le_b rfl) (le_b rfl) d ?_
  refine sw_seq ?_
  refine sw_reg ?_
  refine sy_new 1 ⟨26, r1.cs⟩ ?_
  refine sy_new 2 ⟨26, [.bool false, .slice none 0 0, .slice none 0 0]⟩ ?_
  refine sy_next 10 [(1, .adr 1 0), (2, .adr 2 0)] [(1, ⟨26, r1.cs⟩), (2, ⟨26, [.bool false, .slice none 0 0, .slice none 0 0]⟩)] ?_
  refine sw_seq ?_
  refine sw_reg ?_
  refine sy_ldv 3 (.v (r1.v)) ty26 part_agg ?_
  refine sy_call 4 142 [r1.v] ?_
  intro w11 u11 e11 d11
  have k16 := k_rqTrim d11 (hr1.ext e11) (by omega)
  with_reducible refine Post.mono k16 ?_
  clear k16
  rintro _ u14 g15 ⟨r12, rfl, h13⟩
  refine sy_store ⟨26, r12.cs⟩ ty26 ?_
  refine sy_next 10 [(1, .adr 1 0), (2, .adr 2 0)] [(1, ⟨26, r12.cs⟩), (2, ⟨26, [.bool false, .slice none 0 0, .slice none 0 0]⟩)] ?_
  refine sw_seq ?_
  refine sw_reg ?_
  refine sy_pure 5 (.adr 1 0) ?_
  refine sy_ldv 6 (.v (.agg #[.bool r12.s, .slice r12.m.a r12.m.n r12.m.c])) ty24 part_agg ?_
  refine sy_call 7 159 [.agg #[.bool r12.s, .slice r12.m.a r12.m.n r12.m.c]] ?_
  intro w17 u17 e17 d17
  have k22 := k_riNeg d17 ((RatN.num h13).ext e17).raw (by omega)
  with_reducible refine Post.mono k22 ?_
  clear k22
  rintro _ u20 g21 ⟨i18, rfl, h19⟩
  refine sy_pure 8 (.adr 1 0) ?_
  refine sy_store ⟨26, i18.cs ++ [.slice r12.d.a r12.d.n r12.d.c]⟩ ty24 ?_
  refine sy_next 10 [(1, .adr 1 0), (2, .adr 2 0)] [(1, ⟨26, i18.cs ++ [.slice r12.d.a r12.d.n r12.d.c]⟩), (2, ⟨26, [.bool false, .slice none 0 0, .slice none 0 0]⟩)] ?_
  refine sw_seq ?_
  refine sw_reg ?_
  refine sy_ldv 9 (.v (.agg #[.bool i18.s, .slice i18.m.a i18.m.n i18.m.c, .slice r12.d.a r12.d.n r12.d.c])) ty26 part_agg ?_
  refine sy_store ⟨26, i18.cs ++ [.slice r12.d.a r12.d.n r12.d.c]⟩ ty26 ?_
  refine sy_next 10 [(2, .adr 2 0)] [(2, ⟨26, i18.cs ++ [.slice r12.d.a r12.d.n r12.d.c]⟩)] ?_
  refine sw_ret (ret0 [.agg #[.bool i18.s, .slice i18.m.a i18.m.n i18.m.c, .slice r12.d.a r12.d.n r12.d.c]] ⟨res_cell ty26 part_agg, trivial⟩ fun u23 e24 => ?_)
  exact ⟨(⟨i18.s, i18.m, r12.d⟩ : RL), rfl, neg_rat (h13.ext (e17.trans (g21.ext.trans e24))) (h19.ext e24)⟩
theorem k_rqAdd {u w : World} {r1 : RL} {x : Rat} {K : Nat} {r2 : RL} {y : Rat} {L : Nat} (d : Dat u w) (hr1 : RatV u r1 x K) (hr2 : RatV u r2 y L) (hK : K ≤ 100000000) (hL : L ≤ 100000000) : Calls Tryz.prog 18 #[r1.v, r2.v] w (Post u w fun v u' => ∃ r : RL, v = r.v ∧ RatN u' r (x + y) (K + L + 2)) := by
  refine calls_sym (args := [r1.v, r2.v]) Tryz.func18 rfl Tryz.ntmps18 (rs := [.cell 4 26]) Tryz.results18 (le_b rfl) (le_b rfl) d ?_
  refine sw_seq ?_
  refine sw_reg ?_
  refine sy_new 2 ⟨26, r1.cs⟩ ?_
  refine sy_new 3 ⟨26, r2.cs⟩ ?_
  refine sy_new 4 ⟨26, [.bool false, .slice none 0 0, .slice none 0 0]⟩ ?_
  refine sy_next 30 [(2, .adr 2 0), (3, .adr 3 0), (4, .adr 4 0)] [(2, ⟨26, r1.cs⟩), (3, ⟨26, r2.cs⟩), (4, ⟨26, [.bool false, .slice none 0 0, .slice none 0 0]⟩)] ?_
  refine sw_seq ?_
  refine sw_reg ?_
  refine sy_ldv 10 (.v (r1.v)) ty26 part_agg ?_
  refine sy_call 11 105 [r1.v] ?_
  intro w11 u11 e11 d11
  have k15 := k_parts d11 (hr1.ext e11) (by omega)
  with_reducible refine Post.mono k15 ?_
  clear k15
  rintro _ u13 g14 ⟨i12, j12, z12, D12, rfl, hi12, hj12, hp12, hq12, hk12⟩
  refine sy_pure 9 (.v (.tuple #[i12.v, j12.v])) ?_
  refine sy_pure 12 (.v (i12.v)) ?_
  refine sy_pure 13 (.v (j12.v)) ?_
  refine sy_new 5 ⟨24, [.bool false, .slice none 0 0]⟩ ?_
  refine sy_new 6 ⟨24, [.bool false, .slice none 0 0]⟩ ?_
  refine sy_store ⟨24, i12.cs⟩ ty24 ?_
  refine sy_store ⟨24, j12.cs⟩ ty24 ?_
  refine sy_next 30 [(3, .adr 3 0), (4, .adr 4 0), (5, .adr 5 0), (6, .adr 6 0)] [(3, ⟨26, r2.cs⟩), (4, ⟨26, [.bool false, .slice none 0 0, .slice none 0 0]⟩), (5, ⟨24, i12.cs⟩), (6, ⟨24, j12.cs⟩)] ?_
  refine sw_seq ?_
  refine sw_reg ?_
  refine sy_ldv 15 (.v (r2.v)) ty26 part_agg ?_
  refine sy_call 16 105 [r2.v] ?_
  intro w16 u16 e16 d16
  have k20 := k_parts d16 (hr2.ext (e11.trans (g14.ext.trans e16))) (by omega)
  with_reducible refine Post.mono k20 ?_
  clear k20
  rintro _ u18 g19 ⟨i17, j17, z17, D17, rfl, hi17, hj17, hp17, hq17, hk17⟩
  refine sy_pure 14 (.v (.tuple #[i17.v, j17.v])) ?_
  refine sy_pure 17 (.v (i17.v)) ?_
  refine sy_pure 18 (.v (j17.v)) ?_
  refine sy_new 7 ⟨24, [.bool false, .slice none 0 0]⟩ ?_
  refine sy_new 8 ⟨24, [.bool false, .slice none 0 0]⟩ ?_
  refine sy_store ⟨24, i17.cs⟩ ty24 ?_
  refine sy_store ⟨24, j17.cs⟩ ty24 ?_
  refine sy_next 30 [(4, .adr 4 0), (5, .adr 5 0), (6, .adr 6 0), (7, .adr 7 0), (8, .adr 8 0)] [(4, ⟨26, [.bool false, .slice none 0 0, .slice none 0 0]⟩), (5, ⟨24, i12.cs⟩), (6, ⟨24, j12.cs⟩), (7, ⟨24, i17.cs⟩), (8, ⟨24, j17.cs⟩)] ?_
  refine sw_seq ?_
  refine sw_any [0, 0, 3, 0, 0, 31, 63, 0, 0, 511, 1023, 2047] [(0, []), (1, []), (3, []), (4, []), (7, []), (8, []), (2, []), (5, []), (6, []), (9, []), (10, []), (11, [])] (by kernel_rfl) (by kernel_rfl) ?_
  refine sy_ldv 19 (.v (i12.v)) ty24 part_agg ?_
  refine sy_ldv 20 (.v (j17.v)) ty24 part_agg ?_
  refine sy_ldv 22 (.v (i17.v)) ty24 part_agg ?_
  refine sy_ldv 23 (.v (j12.v)) ty24 part_agg ?_
  refine sy_ldv 26 (.v (j12.v)) ty24 part_agg ?_
  refine sy_ldv 27 (.v (j17.v)) ty24 part_agg ?_
  refine sy_call 21 108 [i12.v, j17.v] ?_
  intro w21 u21 e21 d21
  have k26 := k_riMul d21 (hi12.ext (e16.trans (g19.ext.trans e21))) (hj17.ext e21).raw (by omega) (by omega)
  with_reducible refine Post.mono k26 ?_
  clear k26
  rintro _ u24 g25 ⟨i22, rfl, h23⟩
  refine sy_call 24 108 [i17.v, j12.v] ?_
  intro w27 u27 e27 d27
  have k32 := k_riMul d27 (hi17.ext (e21.trans (g25.ext.trans e27))) (hj12.ext (e16.trans (g19.ext.trans (e21.trans (g25.ext.trans e27))))).raw (by omega) (by omega)
  with_reducible refine Post.mono k32 ?_
  clear k32
  rintro _ u30 g31 ⟨i28, rfl, h29⟩
  refine sy_call 25 107 [i22.v, i28.v] ?_
  intro w33 u33 e33 d33
  have k38 := k_riAdd d33 (h23.ext (e27.trans (g31.ext.trans e33))).raw (h29.ext e33).raw (by omega) (by omega)
  with_reducible refine Post.mono k38 ?_
  clear k38
  rintro _ u36 g37 ⟨i34, rfl, h35⟩
  refine sy_call 28 108 [j12.v, j17.v] ?_
  intro w39 u39 e39 d39
  have k44 := k_riMul d39 (hj12.ext (e16.trans (g19.ext.trans (e21.trans (g25.ext.trans (e27.trans (g31.ext.trans (e33.trans (g37.ext.trans e39))))))))).raw (hj17.ext (e21.trans (g25.ext.trans (e27.trans (g31.ext.trans (e33.trans (g37.ext.trans e39))))))).raw (by omega) (by omega)
  with_reducible refine Post.mono k44 ?_
  clear k44
  rintro _ u42 g43 ⟨i40, rfl, h41⟩
  refine sy_call 29 106 [i34.v, i40.v] ?_
  intro w45 u45 e45 d45
  have k50 := k_reduce d45 (h35.ext (e39.trans (g43.ext.trans e45))).raw (h41.ext e45).raw (by omega) (by omega)
  with_reducible refine Post.mono k50 ?_
  clear k50
  rintro _ u48 g49 ⟨r46, rfl, h47⟩
  refine sy_store ⟨26, r46.cs⟩ ty26 ?_
  refine sy_next 30 [(4, .adr 4 0)] [(4, ⟨26, r46.cs⟩)] ?_
  refine sw_ret (ret0 [r46.v] ⟨res_cell ty26 part_agg, trivial⟩ fun u51 e52 => ?_)
  refine ⟨r46, rfl, RatN.more (K := (max (max (K + L) (L + K) + 1) (K + L) + 1)) ?_ (by omega)⟩
  rw [hq12, hq17, ← Nt.add_div2 hp12 hp17]
  exact (h47.ext e52)
theorem k_rqSub {u w : World} {r1 : RL} {x : Rat} {K : Nat} {r2 : RL} {y : Rat} {L : Nat} (d : Dat u w) (hr1 : RatV u r1 x K) (hr2 : RatV u r2 y L) (hK : K ≤ 100000000) (hL : L ≤ 100000000) : Calls Tryz.prog 20 #[r1.v, r2.v] w (Post u w fun v u' => ∃ r : RL, v = r.v ∧ RatN u' r (x - y) (K + L + 2)) := by
  refine calls_sym (args := [r1.v, r2.v]) Tryz.func20 rfl Tryz.ntmps20 (rs := [.cell 4 26]) Tryz.results20 (le_b rfl) (le_b rfl) d ?_
  refine sw_seq ?_
  refine sw_reg ?_
  refine sy_new 2 ⟨26, r1.cs⟩ ?_
  refine sy_new 3 ⟨26, r2.cs⟩ ?_
  refine sy_new 4 ⟨26, [.bool false, .slice none 0 0, .slice none 0 0]⟩ ?_
  refine sy_next 9 [(2, .adr 2 0), (3, .adr 3 0), (4, .adr 4 0)] [(2, ⟨26, r1.cs⟩), (3, ⟨26, r2.cs⟩), (4, ⟨26, [.bool false, .slice none 0 0, .slice none 0 0]⟩)] ?_
  refine sw_seq ?_
  refine sw_any [0, 0, 2, 7, 15] [(0, []), (1, []), (2, []), (3, []), (4, [])] (by kernel_rfl) (by kernel_rfl) ?_
  refine sy_ldv 5 (.v (r1.v)) ty26 part_agg ?_
  refine sy_ldv 6 (.v (r2.v)) ty26 part_agg ?_
  refine sy_call 7 110 [r2.v] ?_
  intro w11 u11 e11 d11
  have k16 := k_rqNeg d11 (hr2.ext e11) (by omega)
  with_reducible refine Post.mono k16 ?_
  clear k16
  rintro _ u14 g15 ⟨r12, rfl, h13⟩
  refine sy_call 8 18 [r1.v, r12.v] ?_
  intro w17 u17 e17 d17
  have k22 := k_rqAdd d17 (hr1.ext (e11.trans (g15.ext.trans e17))) (h13.ext e17).raw (by omega) (by omega)
  with_reducible refine Post.mono k22 ?_
  clear k22
  rintro _ u20 g21 ⟨r18, rfl, h19⟩
  refine sy_store ⟨26, r18.cs⟩ ty26 ?_
  refine sy_next 9 [(4, .adr 4 0)] [(4, ⟨26, r18.cs⟩)] ?_
  refine sw_ret (ret0 [r18.v] ⟨res_cell ty26 part_agg, trivial⟩ fun u23 e24 => ?_)
  refine ⟨r18, rfl, RatN.more (K := (K + L + 2)) ?_ (by omega)⟩
  rw [Rat.sub_eq_add_neg]
  exact (h19.ext e24)
theorem k_rqMul {u w : World} {r1 : RL} {x : Rat} {K : Nat} {r2 : RL} {y : Rat} {L : Nat} (d : Dat u w) (hr1 : RatV u r1 x K) (hr2 : RatV u r2 y L) (hK : K ≤ 100000000) (hL : L ≤ 100000000) : Calls Tryz.prog 22 #[r1.v, r2.v] w (Post u w fun v u' => ∃ r : RL, v = r.v ∧ RatN u' r (x * y) (K + L + 1)) := by
  refine calls_sym (args := [r1.v, r2.v]) Tryz.func22 rfl Tryz.ntmps22 (rs := [.cell 4 26]) Tryz.results22 (le_b rfl) (le_b rfl) d ?_
  refine sw_seq ?_
  refine sw_reg ?_
  refine sy_new 2 ⟨26, r1.cs⟩ ?_
  refine sy_new 3 ⟨26, r2.cs⟩ ?_
  refine sy_new 4 ⟨26, [.bool false, .slice none 0 0, .slice none 0 0]⟩ ?_
  refine sy_next 26 [(2, .adr 2 0), (3, .adr 3 0), (4, .adr 4 0)] [(2, ⟨26, r1.cs⟩), (3, ⟨26, r2.cs⟩), (4, ⟨26, [.bool false, .slice none 0 0, .slice none 0 0]⟩)] ?_
  refine sw_seq ?_
  refine sw_reg ?_
  refine sy_ldv 10 (.v (r1.v)) ty26 part_agg ?_
  refine sy_call 11 105 [r1.v] ?_
  intro w11 u11 e11 d11
  have k15 := k_parts d11 (hr1.ext e11) (by omega)
  with_reducible refine Post.mono k15 ?_
  clear k15
  rintro _ u13 g14 ⟨i12, j12, z12, D12, rfl, hi12, hj12, hp12, hq12, hk12⟩
  refine sy_pure 9 (.v (.tuple #[i12.v, j12.v])) ?_
  refine sy_pure 12 (.v (i12.v)) ?_
  refine sy_pure 13 (.v (j12.v)) ?_
  refine sy_new 5 ⟨24, [.bool false, .slice none 0 0]⟩ ?_
  refine sy_new 6 ⟨24, [.bool false, .slice none 0 0]⟩ ?_
  refine sy_store ⟨24, i12.cs⟩ ty24 ?_
  refine sy_store ⟨24, j12.cs⟩ ty24 ?_
  refine sy_next 26 [(3, .adr 3 0), (4, .adr 4 0), (5, .adr 5 0), (6, .adr 6 0)] [(3, ⟨26, r2.cs⟩), (4, ⟨26, [.bool false, .slice none 0 0, .slice none 0 0]⟩), (5, ⟨24, i12.cs⟩), (6, ⟨24, j12.cs⟩)] ?_
  refine sw_seq ?_
  refine sw_reg ?_
  refine sy_ldv 15 (.v (r2.v)) ty26 part_agg ?_
  refine sy_call 16 105 [r2.v] ?_
  intro w16 u16 e16 d16
  have k20 := k_parts d16 (hr2.ext (e11.trans (g14.ext.trans e16))) (by omega)
  with_reducible refine Post.mono k20 ?_
  clear k20
  rintro _ u18 g19 ⟨i17, j17, z17, D17, rfl, hi17, hj17, hp17, hq17, hk17⟩
  refine sy_pure 14 (.v (.tuple #[i17.v, j17.v])) ?_
  refine sy_pure 17 (.v (i17.v)) ?_
  refine sy_pure 18 (.v (j17.v)) ?_
  refine sy_new 7 ⟨24, [.bool false, .slice none 0 0]⟩ ?_
  refine sy_new 8 ⟨24, [.bool false, .slice none 0 0]⟩ ?_
  refine sy_store ⟨24, i17.cs⟩ ty24 ?_
  refine sy_store ⟨24, j17.cs⟩ ty24 ?_
  refine sy_next 26 [(4, .adr 4 0), (5, .adr 5 0), (6, .adr 6 0), (7, .adr 7 0), (8, .adr 8 0)] [(4, ⟨26, [.bool false, .slice none 0 0, .slice none 0 0]⟩), (5, ⟨24, i12.cs⟩), (6, ⟨24, j12.cs⟩), (7, ⟨24, i17.cs⟩), (8, ⟨24, j17.cs⟩)] ?_
  refine sw_seq ?_
  refine sw_any [0, 0, 3, 0, 0, 31, 63, 127] [(0, []), (1, []), (3, []), (4, []), (2, []), (5, []), (6, []), (7, [])] (by kernel_rfl) (by kernel_rfl) ?_
  refine sy_ldv 19 (.v (i12.v)) ty24 part_agg ?_
  refine sy_ldv 20 (.v (i17.v)) ty24 part_agg ?_
  refine sy_ldv 22 (.v (j12.v)) ty24 part_agg ?_
  refine sy_ldv 23 (.v (j17.v)) ty24 part_agg ?_
  refine sy_call 21 108 [i12.v, i17.v] ?_
  intro w21 u21 e21 d21
  have k26 := k_riMul d21 (hi12.ext (e16.trans (g19.ext.trans e21))) (hi17.ext e21) (by omega) (by omega)
  with_reducible refine Post.mono k26 ?_
  clear k26
  rintro _ u24 g25 ⟨i22, rfl, h23⟩
  refine sy_call 24 108 [j12.v, j17.v] ?_
  intro w27 u27 e27 d27
  have k32 := k_riMul d27 (hj12.ext (e16.trans (g19.ext.trans (e21.trans (g25.ext.trans e27))))).raw (hj17.ext (e21.trans (g25.ext.trans e27))).raw (by omega) (by omega)
  with_reducible refine Post.mono k32 ?_
  clear k32
  rintro _ u30 g31 ⟨i28, rfl, h29⟩
  refine sy_call 25 106 [i22.v, i28.v] ?_
  intro w33 u33 e33 d33
  have k38 := k_reduce d33 (h23.ext (e27.trans (g31.ext.trans e33))).raw (h29.ext e33).raw (by omega) (by omega)
  with_reducible refine Post.mono k38 ?_
  clear k38
  rintro _ u36 g37 ⟨r34, rfl, h35⟩
  refine sy_store ⟨26, r34.cs⟩ ty26 ?_
  refine sy_next 26 [(4, .adr 4 0)] [(4, ⟨26, r34.cs⟩)] ?_
  refine sw_ret (ret0 [r34.v] ⟨res_cell ty26 part_agg, trivial⟩ fun u39 e40 => ?_)
  refine ⟨r34, rfl, RatN.more (K := (max (K + L) (K + L) + 1)) ?_ (by omega)⟩
  rw [hq12, hq17, ← Nt.mul_div2]
  exact (h35.ext e40)
theorem k_rqMin {u w : World} {r1 : RL} {x : Rat} {K : Nat} {r2 : RL} {y : Rat} {L : Nat} (d : Dat u w) (hr1 : RatV u r1 x K) (hr2 : RatV u r2 y L) (hK : K ≤ 100000000) (hL : L ≤ 100000000) : Calls Tryz.prog 130 #[r1.v, r2.v] w (Post u w fun v u' => ∃ r : RL, v = r.v ∧ RatN u' r (Nt.lo x y) (max K L)) := by
  refine calls_sym (args := [r1.v, r2.v]) Tryz.func130 rfl Tryz.ntmps130 (rs := [.cell 4 26]) Tryz.results130 (le_b rfl) (le_b rfl) d ?_
  refine sw_seq ?_
  refine sw_reg ?_
  refine sy_new 2 ⟨26, r1.cs⟩ ?_
  refine sy_new 3 ⟨26, r2.cs⟩ ?_
  refine sy_new 4 ⟨26, [.bool false, .slice none 0 0, .slice none 0 0]⟩ ?_
  refine sy_next 12 [(2, .adr 2 0), (3, .adr 3 0), (4, .adr 4 0)] [(2, ⟨26, r1.cs⟩), (3, ⟨26, r2.cs⟩), (4, ⟨26, [.bool false, .slice none 0 0, .slice none 0 0]⟩)] ?_
  refine sw_seq ?_
  refine sw_seq ?_
  refine sw_reg ?_
  refine sy_ldv 5 (.v (r2.v)) ty26 part_agg ?_
  refine sy_ldv 6 (.v (r1.v)) ty26 part_agg ?_
  refine sy_call 7 101 [r2.v, r1.v] ?_
  intro w11 u11 e11 d11
  have k14 := k_rqLess d11 (hr2.ext e11) (hr1.ext e11) (by omega) (by omega)
  with_reducible refine Post.mono k14 ?_
  clear k14
  rintro _ u12 g13 rfl
  refine sy_next 12 [(2, .adr 2 0), (3, .adr 3 0), (4, .adr 4 0), (7, .v (.bool (decide (y < x))))] [(2, ⟨26, r1.cs⟩), (3, ⟨26, r2.cs⟩), (4, ⟨26, [.bool false, .slice none 0 0, .slice none 0 0]⟩)] ?_
  refine sw_cond (b := decide (y < x)) (by kernel_rfl) (fun hb15 => ?_) (fun hb15 => ?_)
  · replace hb15 : (decide (y < x)) = true := hb15
    have qhb15 := of_decide_eq_true hb15
    refine sw_seq ?_
    refine sw_reg ?_
    refine sy_ldv 8 (.v (r2.v)) ty26 part_agg ?_
    refine sy_call 9 142 [r2.v] ?_
    intro w16 u16 e16 d16
    have k21 := k_rqTrim d16 (hr2.ext (e11.trans (g13.ext.trans e16))) (by omega)
    with_reducible refine Post.mono k21 ?_
    clear k21
    rintro _ u19 g20 ⟨r17, rfl, h18⟩
    refine sy_store ⟨26, r17.cs⟩ ty26 ?_
    refine sy_next 12 [(4, .adr 4 0)] [(4, ⟨26, r17.cs⟩)] ?_
    refine sw_ret (mpr_seq (ret0 [r17.v] ⟨res_cell ty26 part_agg, trivial⟩ fun u22 e23 => ?_))
    refine ⟨r17, rfl, RatN.more (K := L) ?_ (by omega)⟩
    unfold Nt.lo
    rw [if_pos (of_decide_eq_true hb15)]
    exact (h18.ext e23)
  · replace hb15 : (decide (y < x)) = false := hb15
    have qhb15 := of_decide_eq_false hb15
    refine sw_skip (mp_seq ?_)
    refine sw_seq ?_
    refine sw_reg ?_
    refine sy_ldv 10 (.v (r1.v)) ty26 part_agg ?_
    refine sy_call 11 142 [r1.v] ?_
    intro w24 u24 e24 d24
    have k29 := k_rqTrim d24 (hr1.ext (e11.trans (g13.ext.trans e24))) (by omega)
    with_reducible refine Post.mono k29 ?_
    clear k29
    rintro _ u27 g28 ⟨r25, rfl, h26⟩
    refine sy_store ⟨26, r25.cs⟩ ty26 ?_
    refine sy_next 12 [(4, .adr 4 0)] [(4, ⟨26, r25.cs⟩)] ?_
    refine sw_ret (ret0 [r25.v] ⟨res_cell ty26 part_agg, trivial⟩ fun u30 e31 => ?_)
    refine ⟨r25, rfl, RatN.more (K := K) ?_ (by omega)⟩
    unfold Nt.lo
    rw [if_neg (of_decide_eq_false hb15)]
    exact (h26.ext e31)
theorem k_rqMax {u w : World} {r1 : RL} {x : Rat} {K : Nat} {r2 : RL} {y : Rat} {L : Nat} (d : Dat u w) (hr1 : RatV u r1 x K) (hr2 : RatV u r2 y L) (hK : K ≤ 100000000) (hL : L ≤ 100000000) : Calls Tryz.prog 129 #[r1.v, r2.v] w (Post u w fun v u' => ∃ r : RL, v = r.v ∧ RatN u' r (Nt.hi x y) (max K L)) := by
  refine calls_sym (args := [r1.v, r2.v]) Tryz.func129 rfl Tryz.ntmps129 (rs := [.cell 4 26]) Tryz.results129 (le_b rfl) (le_b rfl) d ?_
  refine sw_seq ?_
  refine sw_reg ?_
  refine sy_new 2 ⟨26, r1.cs⟩ ?_
  refine sy_new 3 ⟨26, r2.cs⟩ ?_
  refine sy_new 4 ⟨26, [.bool false, .slice none 0 0, .slice none 0 0]⟩ ?_
  refine sy_next 12 [(2, .adr 2 0), (3, .adr 3 0), (4, .adr 4 0)] [(2, ⟨26, r1.cs⟩), (3, ⟨26, r2.cs⟩), (4, ⟨26, [.bool false, .slice none 0 0, .slice none 0 0]⟩)] ?_
  refine sw_seq ?_
  refine sw_seq ?_
  refine sw_reg ?_
  refine sy_ldv 5 (.v (r1.v)) ty26 part_agg ?_
  refine sy_ldv 6 (.v (r2.v)) ty26 part_agg ?_
  refine sy_call 7 101 [r1.v, r2.v] ?_
  intro w11 u11 e11 d11
  have k14 := k_rqLess d11 (hr1.ext e11) (hr2.ext e11) (by omega) (by omega)
  with_reducible refine Post.mono k14 ?_
  clear k14
  rintro _ u12 g13 rfl
  refine sy_next 12 [(2, .adr 2 0), (3, .adr 3 0), (4, .adr 4 0), (7, .v (.bool (decide (x < y))))] [(2, ⟨26, r1.cs⟩), (3, ⟨26, r2.cs⟩), (4, ⟨26, [.bool false, .slice none 0 0, .slice none 0 0]⟩)] ?_
  refine sw_cond (b := decide (x < y)) (by kernel_rfl) (fun hb15 => ?_) (fun hb15 => ?_)
  · replace hb15 : (decide (x < y)) = true := hb15
    have qhb15 := of_decide_eq_true hb15
    refine sw_seq ?_
    refine sw_reg ?_
    refine sy_ldv 8 (.v (r2.v)) ty26 part_agg ?_
    refine sy_call 9 142 [r2.v] ?_
    intro w16 u16 e16 d16
    have k21 := k_rqTrim d16 (hr2.ext (e11.trans (g13.ext.trans e16))) (by omega)
    with_reducible refine Post.mono k21 ?_
    clear k21
    rintro _ u19 g20 ⟨r17, rfl, h18⟩
    refine sy_store ⟨26, r17.cs⟩ ty26 ?_
    refine sy_next 12 [(4, .adr 4 0)] [(4, ⟨26, r17.cs⟩)] ?_
    refine sw_ret (mpr_seq (ret0 [r17.v] ⟨res_cell ty26 part_agg, trivial⟩ fun u22 e23 => ?_))
    refine ⟨r17, rfl, RatN.more (K := L) ?_ (by omega)⟩
    unfold Nt.hi
    rw [if_pos (of_decide_eq_true hb15)]
    exact (h18.ext e23)
  · replace hb15 : (decide (x < y)) = false := hb15
    have qhb15 := of_decide_eq_false hb15
    refine sw_skip (mp_seq ?_)
    refine sw_seq ?_
    refine sw_reg ?_
    refine sy_ldv 10 (.v (r1.v)) ty26 part_agg ?_
    refine sy_call 11 142 [r1.v] ?_
    intro w24 u24 e24 d24
    have k29 := k_rqTrim d24 (hr1.ext (e11.trans (g13.ext.trans e24))) (by omega)
    with_reducible refine Post.mono k29 ?_
    clear k29
    rintro _ u27 g28 ⟨r25, rfl, h26⟩
    refine sy_store ⟨26, r25.cs⟩ ty26 ?_
    refine sy_next 12 [(4, .adr 4 0)] [(4, ⟨26, r25.cs⟩)] ?_
    refine sw_ret (ret0 [r25.v] ⟨res_cell ty26 part_agg, trivial⟩ fun u30 e31 => ?_)
    refine ⟨r25, rfl, RatN.more (K := K) ?_ (by omega)⟩
    unfold Nt.hi
    rw [if_neg (of_decide_eq_false hb15)]
    exact (h26.ext e31)
end Go.Proofs.YtnedhbidmfoegaaGreat
namespace Go.Proofs.YtnedhbidmfoegaaGreat
open Go.RowKit
set_option linter.unusedVariables false
theorem k_ends {u w : World} {a1 a2 : RL} {x1 x2 : Rat} {K : Nat} (d : Dat u w) (ha1 : RatV u a1 x1 K) (ha2 : RatV u a2 x2 K) (hK : K ≤ 200000000) : Calls Tryz.prog 103 #[IV a1 a2] w (Post u w fun v u' => ∃ p q : RL, v = .tuple #[p.v, q.v] ∧ RatV u' p (Nt.lo x1 x2) K ∧ RatV u' q (Nt.hi x1 x2) K) := by
  refine calls_sym (args := [.agg #[.bool a1.s, .slice a1.m.a a1.m.n a1.m.c, .slice a1.d.a a1.d.n a1.d.c, .bool a2.s, .slice a2.m.a a2.m.n a2.m.c, .slice a2.d.a a2.d.n a2.d.c]]) Tryz.func103 rfl Tryz.ntmps103 (rs := [.cell 2 26, .cell 3 26]) Tryz.results103 (le_b rfl) (le_b rfl) d ?_
  refine sw_seq ?_
  refine sw_reg ?_
  refine sy_new 1 ⟨28, a1.cs ++ a2.cs⟩ ?_
  refine sy_new 2 ⟨26, [.bool false, .slice none 0 0, .slice none 0 0]⟩ ?_
  refine sy_new 3 ⟨26, [.bool false, .slice none 0 0, .slice none 0 0]⟩ ?_
  refine sy_next 18 [(1, .adr 1 0), (2, .adr 2 0), (3, .adr 3 0)] [(1, ⟨28, a1.cs ++ a2.cs⟩), (2, ⟨26, [.bool false, .slice none 0 0, .slice none 0 0]⟩), (3, ⟨26, [.bool false, .slice none 0 0, .slice none 0 0]⟩)] ?_
  refine sw_seq ?_
  refine sw_seq ?_
  refine sw_reg ?_
  refine sy_pure 4 (.adr 1 0) ?_
  refine sy_ldv 5 (.v (a1.v)) ty26 part_agg ?_
  refine sy_pure 6 (.adr 1 3) ?_
  refine sy_ldv 7 (.v (a2.v)) ty26 part_agg ?_
  refine sy_call 8 114 [a1.v, a2.v] ?_
  intro w11 u11 e11 d11
  have k14 := k_ratCompare d11 (ha1.ext e11) (ha2.ext e11) (by omega) (by omega)
  with_reducible refine Post.mono k14 ?_
  clear k14
  rintro _ u12 g13 rfl
  refine sy_pure 9 (.v (.bool (decide ((0 : Int) < (Nt.cmpQ x1 x2))))) ?_
  refine sy_next 18 [(1, .adr 1 0), (2, .adr 2 0), (3, .adr 3 0), (9, .v (.bool (decide ((0 : Int) < (Nt.cmpQ x1 x2)))))] [(1, ⟨28, a1.cs ++ a2.cs⟩), (2, ⟨26, [.bool false, .slice none 0 0, .slice none 0 0]⟩), (3, ⟨26, [.bool false, .slice none 0 0, .slice none 0 0]⟩)] ?_
  refine sw_cond (b := decide ((0 : Int) < (Nt.cmpQ x1 x2))) (by kernel_rfl) (fun hb15 => ?_) (fun hb15 => ?_)
  · replace hb15 : (decide ((0 : Int) < (Nt.cmpQ x1 x2))) = true := hb15
    have qhb15 := of_decide_eq_true hb15
    refine sw_seq ?_
    refine sw_any [0, 1, 0, 4, 3, 31] [(0, []), (1, []), (2, []), (3, []), (4, [12]), (5, [])] (by kernel_rfl) (by kernel_rfl) ?_
    refine sy_pure 10 (.adr 1 3) ?_
    refine sy_ldv 11 (.v (a2.v)) ty26 part_agg ?_
    refine sy_pure 12 (.adr 1 0) ?_
    refine sy_ldv 13 (.v (a1.v)) ty26 part_agg ?_
    refine sy_store ⟨26, a2.cs⟩ ty26 ?_
    refine sy_store ⟨26, a1.cs⟩ ty26 ?_
    refine sy_next 18 [(2, .adr 2 0), (3, .adr 3 0)] [(2, ⟨26, a2.cs⟩), (3, ⟨26, a1.cs⟩)] ?_
    refine sw_ret (mpr_seq (ret0 [a2.v, a1.v] ⟨res_cell ty26 part_agg, res_cell ty26 part_agg, trivial⟩ fun u16 e17 => ?_))
    refine ⟨a2, a1, rfl, ?_, ?_⟩
    · rw [(Nt.ends_gt hb15).1]; exact (ha2.ext (e11.trans (g13.ext.trans e17)))
    · rw [(Nt.ends_gt hb15).2]; exact (ha1.ext (e11.trans (g13.ext.trans e17)))
  · replace hb15 : (decide ((0 : Int) < (Nt.cmpQ x1 x2))) = false := hb15
    have qhb15 := of_decide_eq_false hb15
    refine sw_skip (mp_seq ?_)
    refine sw_seq ?_
    refine sw_any [0, 1, 0, 4, 3, 31] [(0, []), (1, []), (2, []), (3, []), (4, [16]), (5, [])] (by kernel_rfl) (by kernel_rfl) ?_
    refine sy_pure 14 (.adr 1 0) ?_
    refine sy_ldv 15 (.v (a1.v)) ty26 part_agg ?_
    refine sy_pure 16 (.adr 1 3) ?_
    refine sy_ldv 17 (.v (a2.v)) ty26 part_agg ?_
    refine sy_store ⟨26, a1.cs⟩ ty26 ?_
    refine sy_store ⟨26, a2.cs⟩ ty26 ?_
    refine sy_next 18 [(2, .adr 2 0), (3, .adr 3 0)] [(2, ⟨26, a1.cs⟩), (3, ⟨26, a2.cs⟩)] ?_
    refine sw_ret (ret0 [a1.v, a2.v] ⟨res_cell ty26 part_agg, res_cell ty26 part_agg, trivial⟩ fun u18 e19 => ?_)
    refine ⟨a1, a2, rfl, ?_, ?_⟩
    · rw [(Nt.ends_le hb15).1]; exact (ha1.ext (e11.trans (g13.ext.trans e19)))
    · rw [(Nt.ends_le hb15).2]; exact (ha2.ext (e11.trans (g13.ext.trans e19)))
theorem k_lesserN {u w : World} {a : RL} {x : Rat} {b : RL} {y : Rat} {K : Nat} (d : Dat u w) (ha : RatN u a x K) (hb : RatN u b y K) (hK : K ≤ 200000000) : Calls Tryz.prog 128 #[a.v, b.v] w (Post u w fun v u' => ∃ p : RL, v = p.v ∧ RatN u' p (Nt.lo x y) K) := by
  refine calls_sym (args := [a.v, b.v]) Tryz.func128 rfl Tryz.ntmps128 (rs := [.cell 4 26]) Tryz.results128 (le_b rfl) (le_b rfl) d ?_
  refine sw_seq ?_
  refine sw_reg ?_
  refine sy_new 2 ⟨26, a.cs⟩ ?_
  refine sy_new 3 ⟨26, b.cs⟩ ?_
  refine sy_new 4 ⟨26, [.bool false, .slice none 0 0, .slice none 0 0]⟩ ?_
  refine sy_next 11 [(2, .adr 2 0), (3, .adr 3 0), (4, .adr 4 0)] [(2, ⟨26, a.cs⟩), (3, ⟨26, b.cs⟩), (4, ⟨26, [.bool false, .slice none 0 0, .slice none 0 0]⟩)] ?_
  refine sw_seq ?_
  refine sw_seq ?_
  refine sw_reg ?_
  refine sy_ldv 5 (.v (b.v)) ty26 part_agg ?_
  refine sy_ldv 6 (.v (a.v)) ty26 part_agg ?_
  refine sy_call 7 114 [b.v, a.v] ?_
  intro w11 u11 e11 d11
  have k14 := k_ratCompare d11 (hb.ext e11).raw (ha.ext e11).raw (by omega) (by omega)
  with_reducible refine Post.mono k14 ?_
  clear k14
  rintro _ u12 g13 rfl
  refine sy_pure 8 (.v (.bool (decide ((Nt.cmpQ y x) < 0)))) ?_
  refine sy_next 11 [(2, .adr 2 0), (3, .adr 3 0), (4, .adr 4 0), (8, .v (.bool (decide ((Nt.cmpQ y x) < 0))))] [(2, ⟨26, a.cs⟩), (3, ⟨26, b.cs⟩), (4, ⟨26, [.bool false, .slice none 0 0, .slice none 0 0]⟩)] ?_
  refine sw_cond (b := decide ((Nt.cmpQ y x) < 0)) (by kernel_rfl) (fun hb15 => ?_) (fun hb15 => ?_)
  · replace hb15 : (decide ((Nt.cmpQ y x) < 0)) = true := hb15
    have qhb15 := of_decide_eq_true hb15
    refine sw_seq ?_
    refine sw_reg ?_
    refine sy_ldv 9 (.v (b.v)) ty26 part_agg ?_
    refine sy_store ⟨26, b.cs⟩ ty26 ?_
    refine sy_next 11 [(4, .adr 4 0)] [(4, ⟨26, b.cs⟩)] ?_
    refine sw_ret (mpr_seq (ret0 [b.v] ⟨res_cell ty26 part_agg, trivial⟩ fun u16 e17 => ?_))
    refine ⟨b, rfl, ?_⟩
    rw [Nt.lesser_lt hb15]
    exact (hb.ext (e11.trans (g13.ext.trans e17)))
  · replace hb15 : (decide ((Nt.cmpQ y x) < 0)) = false := hb15
    have qhb15 := of_decide_eq_false hb15
    refine sw_skip (mp_seq ?_)
    refine sw_seq ?_
    refine sw_reg ?_
    refine sy_ldv 10 (.v (a.v)) ty26 part_agg ?_
    refine sy_store ⟨26, a.cs⟩ ty26 ?_
    refine sy_next 11 [(4, .adr 4 0)] [(4, ⟨26, a.cs⟩)] ?_
    refine sw_ret (ret0 [a.v] ⟨res_cell ty26 part_agg, trivial⟩ fun u18 e19 => ?_)
    refine ⟨a, rfl, ?_⟩
    rw [Nt.lesser_ge hb15]
    exact (ha.ext (e11.trans (g13.ext.trans e19)))
theorem k_greaterN {u w : World} {a : RL} {x : Rat} {b : RL} {y : Rat} {K : Nat} (d : Dat u w) (ha : RatN u a x K) (hb : RatN u b y K) (hK : K ≤ 200000000) : Calls Tryz.prog 113 #[a.v, b.v] w (Post u w fun v u' => ∃ p : RL, v = p.v ∧ RatN u' p (Nt.hi x y) K) := by
  refine calls_sym (args := [a.v, b.v]) Tryz.func113 rfl Tryz.ntmps113 (rs := [.cell 4 26]) Tryz.results113 (le_b rfl) (le_b rfl) d ?_
  refine sw_seq ?_
  refine sw_reg ?_
  refine sy_new 2 ⟨26, a.cs⟩ ?_
  refine sy_new 3 ⟨26, b.cs⟩ ?_
  refine sy_new 4 ⟨26, [.bool false, .slice none 0 0, .slice none 0 0]⟩ ?_
  refine sy_next 11 [(2, .adr 2 0), (3, .adr 3 0), (4, .adr 4 0)] [(2, ⟨26, a.cs⟩), (3, ⟨26, b.cs⟩), (4, ⟨26, [.bool false, .slice none 0 0, .slice none 0 0]⟩)] ?_
  refine sw_seq ?_
  refine sw_seq ?_
  refine sw_reg ?_
  refine sy_ldv 5 (.v (b.v)) ty26 part_agg ?_
  refine sy_ldv 6 (.v (a.v)) ty26 part_agg ?_
  refine sy_call 7 114 [b.v, a.v] ?_
  intro w11 u11 e11 d11
  have k14 := k_ratCompare d11 (hb.ext e11).raw (ha.ext e11).raw (by omega) (by omega)
  with_reducible refine Post.mono k14 ?_
  clear k14
  rintro _ u12 g13 rfl
  refine sy_pure 8 (.v (.bool (decide ((0 : Int) < (Nt.cmpQ y x))))) ?_
  refine sy_next 11 [(2, .adr 2 0), (3, .adr 3 0), (4, .adr 4 0), (8, .v (.bool (decide ((0 : Int) < (Nt.cmpQ y x)))))] [(2, ⟨26, a.cs⟩), (3, ⟨26, b.cs⟩), (4, ⟨26, [.bool false, .slice none 0 0, .slice none 0 0]⟩)] ?_
  refine sw_cond (b := decide ((0 : Int) < (Nt.cmpQ y x))) (by kernel_rfl) (fun hb15 => ?_) (fun hb15 => ?_)
  · replace hb15 : (decide ((0 : Int) < (Nt.cmpQ y x))) = true := hb15
    have qhb15 := of_decide_eq_true hb15
    refine sw_seq ?_
    refine sw_reg ?_
    refine sy_ldv 9 (.v (b.v)) ty26 part_agg ?_
    refine sy_store ⟨26, b.cs⟩ ty26 ?_
    refine sy_next 11 [(4, .adr 4 0)] [(4, ⟨26, b.cs⟩)] ?_
    refine sw_ret (mpr_seq (ret0 [b.v] ⟨res_cell ty26 part_agg, trivial⟩ fun u16 e17 => ?_))
    refine ⟨b, rfl, ?_⟩
    rw [Nt.greater_gt hb15]
    exact (hb.ext (e11.trans (g13.ext.trans e17)))
  · replace hb15 : (decide ((0 : Int) < (Nt.cmpQ y x))) = false := hb15
    have qhb15 := of_decide_eq_false hb15
    refine sw_skip (mp_seq ?_)
    refine sw_seq ?_
    refine sw_reg ?_
    refine sy_ldv 10 (.v (a.v)) ty26 part_agg ?_
    refine sy_store ⟨26, a.cs⟩ ty26 ?_
    refine sy_next 11 [(4, .adr 4 0)] [(4, ⟨26, a.cs⟩)] ?_
    refine sw_ret (ret0 [a.v] ⟨res_cell ty26 part_agg, trivial⟩ fun u18 e19 => ?_)
    refine ⟨a, rfl, ?_⟩
    rw [Nt.greater_le hb15]
    exact (ha.ext (e11.trans (g13.ext.trans e19)))
theorem k_own {u w : World} {a : RL} {x : Rat} {K : Nat} (d : Dat u w) (ha : RatN u a x K) (hK : K ≤ 200000000) : Calls Tryz.prog 151 #[a.v] w (Post u w fun v u' => ∃ p : RL, v = p.v ∧ RatN u' p x K) := by
  refine calls_sym (args := [a.v]) Tryz.func151 rfl Tryz.ntmps151 (rs := [.cell 2 26]) Tryz.results151 (le_b rfl) (le_b rfl) d ?_
  refine sw_seq ?_
  refine sw_reg ?_
  refine sy_new 1 ⟨26, a.cs⟩ ?_
  refine sy_new 2 ⟨26, [.bool false, .slice none 0 0, .slice none 0 0]⟩ ?_
  refine sy_next 15 [(1, .adr 1 0), (2, .adr 2 0)] [(1, ⟨26, a.cs⟩), (2, ⟨26, [.bool false, .slice none 0 0, .slice none 0 0]⟩)] ?_
  refine sw_seq ?_
  refine sw_any [0, 1, 3, 0, 8, 24, 56, 127, 0, 256, 888, 2047, 4095] [(0, []), (1, []), (2, []), (3, []), (4, []), (5, []), (8, []), (9, []), (6, []), (7, []), (10, []), (11, []), (12, [])] (by kernel_rfl) (by kernel_rfl) ?_
  refine sy_pure 3 (.adr 1 0) ?_
  refine sy_pure 4 (.adr 1 0) ?_
  refine sy_ldv 5 (.v (.bool a.s)) ty4 part_one ?_
  refine sy_pure 6 (.adr 1 0) ?_
  refine sy_pure 7 (.adr 1 1) ?_
  refine sy_ldv 8 (.v (.slice a.m.a a.m.n a.m.c)) ty22 part_one ?_
  refine sy_pure 11 (.adr 1 2) ?_
  refine sy_ldv 12 (.v (.slice a.d.a a.d.n a.d.c)) ty22 part_one ?_
  refine sy_call 9 184 [.slice a.m.a a.m.n a.m.c] ?_
  intro w11 u11 e11 d11
  have k16 := k_cloneN d11 ((int_mag (RatN.num ha)).ext e11) (by omega)
  with_reducible refine Post.mono k16 ?_
  clear k16
  rintro _ u14 g15 ⟨x12, rfl, h13⟩
  refine sy_pure 10 (.v (.agg #[.bool a.s, .slice x12.a x12.n x12.c])) ?_
  refine sy_call 13 184 [.slice a.d.a a.d.n a.d.c] ?_
  intro w17 u17 e17 d17
  have k22 := k_cloneN d17 ((RatN.den ha).ext (e11.trans (g15.ext.trans e17))) (by omega)
  with_reducible refine Post.mono k22 ?_
  clear k22
  rintro _ u20 g21 ⟨x18, rfl, h19⟩
  refine sy_pure 14 (.v (.agg #[.bool a.s, .slice x12.a x12.n x12.c, .slice x18.a x18.n x18.c])) ?_
  refine sy_store ⟨26, [.bool a.s, .slice x12.a x12.n x12.c, .slice x18.a x18.n x18.c]⟩ ty26 ?_
  refine sy_next 15 [(2, .adr 2 0)] [(2, ⟨26, [.bool a.s, .slice x12.a x12.n x12.c, .slice x18.a x18.n x18.c]⟩)] ?_
  refine sw_ret (ret0 [.agg #[.bool a.s, .slice x12.a x12.n x12.c, .slice x18.a x18.n x18.c]] ⟨res_cell ty26 part_agg, trivial⟩ fun u23 e24 => ?_)
  exact ⟨(⟨a.s, x12, x18⟩ : RL), rfl, own_rat (r := a) ha (h13.ext (e17.trans (g21.ext.trans e24))) (h19.ext e24)⟩
set_option maxHeartbeats 1000000 in
theorem k_around {u w : World} {a1 a2 a3 a4 : RL} {x1 x2 x3 x4 : Rat} {K : Nat} (d : Dat u w) (ha1 : RatN u a1 x1 K) (ha2 : RatN u a2 x2 K) (ha3 : RatN u a3 x3 K) (ha4 : RatN u a4 x4 K) (hK : K ≤ 200000000) : Calls Tryz.prog 100 #[.agg #[.bool a1.s, .slice a1.m.a a1.m.n a1.m.c, .slice a1.d.a a1.d.n a1.d.c, .bool a2.s, .slice a2.m.a a2.m.n a2.m.c, .slice a2.d.a a2.d.n a2.d.c, .bool a3.s, .slice a3.m.a a3.m.n a3.m.c, .slice a3.d.a a3.d.n a3.d.c, .bool a4.s, .slice a4.m.a a4.m.n a4.m.c, .slice a4.d.a a4.d.n a4.d.c]] w (Post u w fun v u' => ∃ p q : RL, v = IV p q ∧ RatN u' p (Nt.lo4 x1 x2 x3 x4) K ∧ RatN u' q (Nt.hi4 x1 x2 x3 x4) K) := by
  refine calls_sym (args := [.agg #[.bool a1.s, .slice a1.m.a a1.m.n a1.m.c, .slice a1.d.a a1.d.n a1.d.c, .bool a2.s, .slice a2.m.a a2.m.n a2.m.c, .slice a2.d.a a2.d.n a2.d.c, .bool a3.s, .slice a3.m.a a3.m.n a3.m.c, .slice a3.d.a a3.d.n a3.d.c, .bool a4.s, .slice a4.m.a a4.m.n a4.m.c, .slice a4.d.a a4.d.n a4.d.c]]) Tryz.func100 rfl Tryz.ntmps100 (rs := [.cell 2 28]) Tryz.results100 (le_b rfl) (le_b rfl) d ?_
  refine sw_seq ?_
  refine sw_reg ?_
  refine sy_new 1 ⟨81, a1.cs ++ a2.cs ++ a3.cs ++ a4.cs⟩ ?_
  refine sy_new 2 ⟨28, [.bool false, .slice none 0 0, .slice none 0 0, .bool false, .slice none 0 0, .slice none 0 0]⟩ ?_
  refine sy_next 29 [(1, .adr 1 0), (2, .adr 2 0)] [(1, ⟨81, a1.cs ++ a2.cs ++ a3.cs ++ a4.cs⟩), (2, ⟨28, [.bool false, .slice none 0 0, .slice none 0 0, .bool false, .slice none 0 0, .slice none 0 0]⟩)] ?_
  refine sw_seq ?_
  refine sw_any [0, 1, 0, 4, 0, 0, 51, 127] [(0, []), (1, []), (2, []), (3, []), (4, []), (5, []), (6, [9]), (7, [])] (by kernel_rfl) (by kernel_rfl) ?_
  refine sy_pure 7 (.adr 1 0) ?_
  refine sy_ldv 8 (.v (a1.v)) ty26 part_agg ?_
  refine sy_pure 9 (.adr 1 0) ?_
  refine sy_ldv 10 (.v (a1.v)) ty26 part_agg ?_
  refine sy_new 3 ⟨26, [.bool false, .slice none 0 0, .slice none 0 0]⟩ ?_
  refine sy_new 4 ⟨26, [.bool false, .slice none 0 0, .slice none 0 0]⟩ ?_
  refine sy_store ⟨26, a1.cs⟩ ty26 ?_
  refine sy_store ⟨26, a1.cs⟩ ty26 ?_
  refine sy_next 29 [(1, .adr 1 0), (2, .adr 2 0), (3, .adr 3 0), (4, .adr 4 0)] [(1, ⟨81, a1.cs ++ a2.cs ++ a3.cs ++ a4.cs⟩), (2, ⟨28, [.bool false, .slice none 0 0, .slice none 0 0, .bool false, .slice none 0 0, .slice none 0 0]⟩), (3, ⟨26, a1.cs⟩), (4, ⟨26, a1.cs⟩)] ?_
  refine sw_seq ?_
  refine sw_seq ?_
  refine sw_reg ?_
  refine sy_pure 11 (.slc 1 3 3 3) ?_
  refine sy_pure 12 (.v (.int .i64 3)) ?_
  refine sy_pure 13 (.v (.int .i64 0)) ?_
  refine sy_next 29 [(2, .adr 2 0), (3, .adr 3 0), (4, .adr 4 0), (11, .slc 1 3 3 3), (12, .v (.int .i64 3)), (13, .v (.int .i64 0))] [(1, ⟨81, a1.cs ++ a2.cs ++ a3.cs ++ a4.cs⟩), (2, ⟨28, [.bool false, .slice none 0 0, .slice none 0 0, .bool false, .slice none 0 0, .slice none 0 0]⟩), (3, ⟨26, a1.cs⟩), (4, ⟨26, a1.cs⟩)] ?_
  refine sw_block ?_
  refine sw_rounds 3 ?_
  refine sw_seq ?_
  refine sw_reg ?_
  refine sy_pure 14 (.v (.bool true)) ?_
  refine sy_next 29 [(2, .adr 2 0), (3, .adr 3 0), (4, .adr 4 0), (11, .slc 1 3 3 3), (12, .v (.int .i64 3)), (13, .v (.int .i64 0)), (14, .v (.bool true))] [(1, ⟨81, a1.cs ++ a2.cs ++ a3.cs ++ a4.cs⟩), (2, ⟨28, [.bool false, .slice none 0 0, .slice none 0 0, .bool false, .slice none 0 0, .slice none 0 0]⟩), (3, ⟨26, a1.cs⟩), (4, ⟨26, a1.cs⟩)] ?_
  refine sw_seq ?_
  refine sw_true (by kernel_rfl) ?_
  refine sw_skip (mp_seq ?_)
  refine sw_seq ?_
  refine sw_block ?_
  refine sw_seq ?_
  refine sw_reg ?_
  refine sy_pure 15 (.adr 1 3) ?_
  refine sy_ldv 16 (.v (a2.v)) ty26 part_agg ?_
  refine sy_new 6 ⟨26, [.bool false, .slice none 0 0, .slice none 0 0]⟩ ?_
  refine sy_store ⟨26, a2.cs⟩ ty26 ?_
  refine sy_next 29 [(2, .adr 2 0), (3, .adr 3 0), (4, .adr 4 0), (6, .adr 6 0), (11, .slc 1 3 3 3), (12, .v (.int .i64 3)), (13, .v (.int .i64 0))] [(1, ⟨81, a1.cs ++ a2.cs ++ a3.cs ++ a4.cs⟩), (2, ⟨28, [.bool false, .slice none 0 0, .slice none 0 0, .bool false, .slice none 0 0, .slice none 0 0]⟩), (3, ⟨26, a1.cs⟩), (4, ⟨26, a1.cs⟩), (6, ⟨26, a2.cs⟩)] ?_
  refine sw_any [0, 0, 3, 0, 0, 31, 63, 127] [(0, []), (1, []), (3, []), (4, []), (2, []), (5, []), (6, []), (7, [])] (by kernel_rfl) (by kernel_rfl) ?_
  refine sy_ldv 17 (.v (a1.v)) ty26 part_agg ?_
  refine sy_ldv 18 (.v (a2.v)) ty26 part_agg ?_
  refine sy_ldv 20 (.v (a1.v)) ty26 part_agg ?_
  refine sy_ldv 21 (.v (a2.v)) ty26 part_agg ?_
  refine sy_call 19 128 [a1.v, a2.v] ?_
  intro w11 u11 e11 d11
  have k16 := k_lesserN d11 (ha1.ext e11) (ha2.ext e11) (by omega)
  with_reducible refine Post.mono k16 ?_
  clear k16
  rintro _ u14 g15 ⟨r12, rfl, h13⟩
  refine sy_call 22 113 [a1.v, a2.v] ?_
  intro w17 u17 e17 d17
  have k22 := k_greaterN d17 (ha1.ext (e11.trans (g15.ext.trans e17))) (ha2.ext (e11.trans (g15.ext.trans e17))) (by omega)
  with_reducible refine Post.mono k22 ?_
  clear k22
  rintro _ u20 g21 ⟨r18, rfl, h19⟩
  refine sy_store ⟨26, r12.cs⟩ ty26 ?_
  refine sy_store ⟨26, r18.cs⟩ ty26 ?_
  refine sy_end ?_
  refine mp_seq ?_
  refine sw_reg ?_
  refine sy_pure 23 (.v (.int .i64 1)) ?_
  refine sy_pure 13 (.v (.int .i64 1)) ?_
  refine sy_end ?_
  refine rn_next ?_
  refine sw_weak (T := St.of 29 [(2, .adr 2 0), (3, .adr 3 0), (4, .adr 4 0), (11, .slc 1 3 3 3), (12, .v (.int .i64 3)), (13, .v (.int .i64 1))] [(1, ⟨81, a1.cs ++ a2.cs ++ a3.cs ++ a4.cs⟩), (2, ⟨28, [.bool false, .slice none 0 0, .slice none 0 0, .bool false, .slice none 0 0, .slice none 0 0]⟩), (3, ⟨26, r12.cs⟩), (4, ⟨26, r18.cs⟩)]) (by exact weak_mk _ _ _) ?_
  refine sw_seq ?_
  refine sw_reg ?_
  refine sy_pure 14 (.v (.bool true)) ?_
  refine sy_next 29 [(2, .adr 2 0), (3, .adr 3 0), (4, .adr 4 0), (11, .slc 1 3 3 3), (12, .v (.int .i64 3)), (13, .v (.int .i64 1)), (14, .v (.bool true))] [(1, ⟨81, a1.cs ++ a2.cs ++ a3.cs ++ a4.cs⟩), (2, ⟨28, [.bool false, .slice none 0 0, .slice none 0 0, .bool false, .slice none 0 0, .slice none 0 0]⟩), (3, ⟨26, r12.cs⟩), (4, ⟨26, r18.cs⟩)] ?_
  refine sw_seq ?_
  refine sw_true (by kernel_rfl) ?_
  refine sw_skip (mp_seq ?_)
  refine sw_seq ?_
  refine sw_block ?_
  refine sw_seq ?_
  refine sw_reg ?_
  refine sy_pure 15 (.adr 1 6) ?_
  refine sy_ldv 16 (.v (a3.v)) ty26 part_agg ?_
  refine sy_new 6 ⟨26, [.bool false, .slice none 0 0, .slice none 0 0]⟩ ?_
  refine sy_store ⟨26, a3.cs⟩ ty26 ?_
  refine sy_next 29 [(2, .adr 2 0), (3, .adr 3 0), (4, .adr 4 0), (6, .adr 6 0), (11, .slc 1 3 3 3), (12, .v (.int .i64 3)), (13, .v (.int .i64 1))] [(1, ⟨81, a1.cs ++ a2.cs ++ a3.cs ++ a4.cs⟩), (2, ⟨28, [.bool false, .slice none 0 0, .slice none 0 0, .bool false, .slice none 0 0, .slice none 0 0]⟩), (3, ⟨26, r12.cs⟩), (4, ⟨26, r18.cs⟩), (6, ⟨26, a3.cs⟩)] ?_
  refine sw_any [0, 0, 3, 0, 0, 31, 63, 127] [(0, []), (1, []), (3, []), (4, []), (2, []), (5, []), (6, []), (7, [])] (by kernel_rfl) (by kernel_rfl) ?_
  refine sy_ldv 17 (.v (r12.v)) ty26 part_agg ?_
  refine sy_ldv 18 (.v (a3.v)) ty26 part_agg ?_
  refine sy_ldv 20 (.v (r18.v)) ty26 part_agg ?_
  refine sy_ldv 21 (.v (a3.v)) ty26 part_agg ?_
  refine sy_call 19 128 [r12.v, a3.v] ?_
  intro w23 u23 e23 d23
  have k28 := k_lesserN d23 (h13.ext (e17.trans (g21.ext.trans e23))) (ha3.ext (e11.trans (g15.ext.trans (e17.trans (g21.ext.trans e23))))) (by omega)
  with_reducible refine Post.mono k28 ?_
  clear k28
  rintro _ u26 g27 ⟨r24, rfl, h25⟩
  refine sy_call 22 113 [r18.v, a3.v] ?_
  intro w29 u29 e29 d29
  have k34 := k_greaterN d29 (h19.ext (e23.trans (g27.ext.trans e29))) (ha3.ext (e11.trans (g15.ext.trans (e17.trans (g21.ext.trans (e23.trans (g27.ext.trans e29))))))) (by omega)
  with_reducible refine Post.mono k34 ?_
  clear k34
  rintro _ u32 g33 ⟨r30, rfl, h31⟩
  refine sy_store ⟨26, r24.cs⟩ ty26 ?_
  refine sy_store ⟨26, r30.cs⟩ ty26 ?_
  refine sy_end ?_
  refine mp_seq ?_
  refine sw_reg ?_
  refine sy_pure 23 (.v (.int .i64 2)) ?_
  refine sy_pure 13 (.v (.int .i64 2)) ?_
  refine sy_end ?_
  refine rn_next ?_
  refine sw_weak (T := St.of 29 [(2, .adr 2 0), (3, .adr 3 0), (4, .adr 4 0), (11, .slc 1 3 3 3), (12, .v (.int .i64 3)), (13, .v (.int .i64 2))] [(1, ⟨81, a1.cs ++ a2.cs ++ a3.cs ++ a4.cs⟩), (2, ⟨28, [.bool false, .slice none 0 0, .slice none 0 0, .bool false, .slice none 0 0, .slice none 0 0]⟩), (3, ⟨26, r24.cs⟩), (4, ⟨26, r30.cs⟩)]) (by exact weak_mk _ _ _) ?_
  refine sw_seq ?_
  refine sw_reg ?_
  refine sy_pure 14 (.v (.bool true)) ?_
  refine sy_next 29 [(2, .adr 2 0), (3, .adr 3 0), (4, .adr 4 0), (11, .slc 1 3 3 3), (12, .v (.int .i64 3)), (13, .v (.int .i64 2)), (14, .v (.bool true))] [(1, ⟨81, a1.cs ++ a2.cs ++ a3.cs ++ a4.cs⟩), (2, ⟨28, [.bool false, .slice none 0 0, .slice none 0 0, .bool false, .slice none 0 0, .slice none 0 0]⟩), (3, ⟨26, r24.cs⟩), (4, ⟨26, r30.cs⟩)] ?_
  refine sw_seq ?_
  refine sw_true (by kernel_rfl) ?_
  refine sw_skip (mp_seq ?_)
  refine sw_seq ?_
  refine sw_block ?_
  refine sw_seq ?_
  refine sw_reg ?_
  refine sy_pure 15 (.adr 1 9) ?_
  refine sy_ldv 16 (.v (a4.v)) ty26 part_agg ?_
  refine sy_new 6 ⟨26, [.bool false, .slice none 0 0, .slice none 0 0]⟩ ?_
  refine sy_store ⟨26, a4.cs⟩ ty26 ?_
  refine sy_next 29 [(2, .adr 2 0), (3, .adr 3 0), (4, .adr 4 0), (6, .adr 6 0), (11, .slc 1 3 3 3), (12, .v (.int .i64 3)), (13, .v (.int .i64 2))] [(1, ⟨81, a1.cs ++ a2.cs ++ a3.cs ++ a4.cs⟩), (2, ⟨28, [.bool false, .slice none 0 0, .slice none 0 0, .bool false, .slice none 0 0, .slice none 0 0]⟩), (3, ⟨26, r24.cs⟩), (4, ⟨26, r30.cs⟩), (6, ⟨26, a4.cs⟩)] ?_
  refine sw_any [0, 0, 3, 0, 0, 31, 63, 127] [(0, []), (1, []), (3, []), (4, []), (2, []), (5, []), (6, []), (7, [])] (by kernel_rfl) (by kernel_rfl) ?_
  refine sy_ldv 17 (.v (r24.v)) ty26 part_agg ?_
  refine sy_ldv 18 (.v (a4.v)) ty26 part_agg ?_
  refine sy_ldv 20 (.v (r30.v)) ty26 part_agg ?_
  refine sy_ldv 21 (.v (a4.v)) ty26 part_agg ?_
  refine sy_call 19 128 [r24.v, a4.v] ?_
  intro w35 u35 e35 d35
  have k40 := k_lesserN d35 (h25.ext (e29.trans (g33.ext.trans e35))) (ha4.ext (e11.trans (g15.ext.trans (e17.trans (g21.ext.trans (e23.trans (g27.ext.trans (e29.trans (g33.ext.trans e35))))))))) (by omega)
  with_reducible refine Post.mono k40 ?_
  clear k40
  rintro _ u38 g39 ⟨r36, rfl, h37⟩
  refine sy_call 22 113 [r30.v, a4.v] ?_
  intro w41 u41 e41 d41
  have k46 := k_greaterN d41 (h31.ext (e35.trans (g39.ext.trans e41))) (ha4.ext (e11.trans (g15.ext.trans (e17.trans (g21.ext.trans (e23.trans (g27.ext.trans (e29.trans (g33.ext.trans (e35.trans (g39.ext.trans e41))))))))))) (by omega)
  with_reducible refine Post.mono k46 ?_
  clear k46
  rintro _ u44 g45 ⟨r42, rfl, h43⟩
  refine sy_store ⟨26, r36.cs⟩ ty26 ?_
  refine sy_store ⟨26, r42.cs⟩ ty26 ?_
  refine sy_end ?_
  refine mp_seq ?_
  refine sw_reg ?_
  refine sy_pure 23 (.v (.int .i64 3)) ?_
  refine sy_pure 13 (.v (.int .i64 3)) ?_
  refine sy_end ?_
  refine rn_next ?_
  refine sw_weak (T := St.of 29 [(2, .adr 2 0), (3, .adr 3 0), (4, .adr 4 0), (11, .slc 1 3 3 3), (12, .v (.int .i64 3)), (13, .v (.int .i64 3))] [(1, ⟨81, a1.cs ++ a2.cs ++ a3.cs ++ a4.cs⟩), (2, ⟨28, [.bool false, .slice none 0 0, .slice none 0 0, .bool false, .slice none 0 0, .slice none 0 0]⟩), (3, ⟨26, r36.cs⟩), (4, ⟨26, r42.cs⟩)]) (by exact weak_mk _ _ _) ?_
  refine sw_seq ?_
  refine sw_reg ?_
  refine sy_pure 14 (.v (.bool false)) ?_
  refine sy_next 29 [(2, .adr 2 0), (3, .adr 3 0), (4, .adr 4 0), (11, .slc 1 3 3 3), (12, .v (.int .i64 3)), (13, .v (.int .i64 3)), (14, .v (.bool false))] [(1, ⟨81, a1.cs ++ a2.cs ++ a3.cs ++ a4.cs⟩), (2, ⟨28, [.bool false, .slice none 0 0, .slice none 0 0, .bool false, .slice none 0 0, .slice none 0 0]⟩), (3, ⟨26, r36.cs⟩), (4, ⟨26, r42.cs⟩)] ?_
  refine sw_seq ?_
  refine sw_false (by kernel_rfl) ?_
  refine sw_exit ?_
  refine mp_seq ?_
  refine sw_seq ?_
  refine sw_any [0, 1, 0, 7, 15, 31] [(0, []), (2, []), (1, []), (3, []), (4, []), (5, [])] (by kernel_rfl) (by kernel_rfl) ?_
  refine sy_ldv 24 (.v (r36.v)) ty26 part_agg ?_
  refine sy_ldv 26 (.v (r42.v)) ty26 part_agg ?_
  refine sy_call 25 151 [r36.v] ?_
  intro w47 u47 e47 d47
  have k52 := k_own d47 (h37.ext (e41.trans (g45.ext.trans e47))) (by omega)
  with_reducible refine Post.mono k52 ?_
  clear k52
  rintro _ u50 g51 ⟨r48, rfl, h49⟩
  refine sy_call 27 151 [r42.v] ?_
  intro w53 u53 e53 d53
  have k58 := k_own d53 (h43.ext (e47.trans (g51.ext.trans e53))) (by omega)
  with_reducible refine Post.mono k58 ?_
  clear k58
  rintro _ u56 g57 ⟨r54, rfl, h55⟩
  refine sy_pure 28 (.v (.agg #[.bool r48.s, .slice r48.m.a r48.m.n r48.m.c, .slice r48.d.a r48.d.n r48.d.c, .bool r54.s, .slice r54.m.a r54.m.n r54.m.c, .slice r54.d.a r54.d.n r54.d.c])) ?_
  refine sy_store ⟨28, r48.cs ++ r54.cs⟩ ty28 ?_
  refine sy_next 29 [(2, .adr 2 0)] [(2, ⟨28, r48.cs ++ r54.cs⟩)] ?_
  refine sw_ret (ret0 [.agg #[.bool r48.s, .slice r48.m.a r48.m.n r48.m.c, .slice r48.d.a r48.d.n r48.d.c, .bool r54.s, .slice r54.m.a r54.m.n r54.m.c, .slice r54.d.a r54.d.n r54.d.c]] ⟨res_cell ty28 part_agg, trivial⟩ fun u59 e60 => ?_)
  refine ⟨r48, r54, rfl, RatN.more (K := K) ?_ (by omega), RatN.more (K := K) ?_ (by omega)⟩
  · exact (h49.ext (e53.trans (g57.ext.trans e60)))
  · exact (h55.ext e60)
theorem k_ivMake {u w : World} {a : RL} {x : Rat} {b : RL} {y : Rat} {K : Nat} (d : Dat u w) (ha : RatV u a x K) (hb : RatV u b y K) (hK : K ≤ 100000000) : Calls Tryz.prog 70 #[a.v, b.v] w (Post u w fun v u' => ∃ p q : RL, v = IV p q ∧ RatN u' p (Nt.lo x y) K ∧ RatN u' q (Nt.hi x y) K) := by
  refine calls_sym (args := [a.v, b.v]) Tryz.func70 rfl Tryz.ntmps70 (rs := [.cell 4 28]) Tryz.results70 (le_b rfl) (le_b rfl) d ?_
  refine sw_seq ?_
  refine sw_reg ?_
  refine sy_new 2 ⟨26, a.cs⟩ ?_
  refine sy_new 3 ⟨26, b.cs⟩ ?_
  refine sy_new 4 ⟨28, [.bool false, .slice none 0 0, .slice none 0 0, .bool false, .slice none 0 0, .slice none 0 0]⟩ ?_
  refine sy_next 19 [(2, .adr 2 0), (3, .adr 3 0), (4, .adr 4 0)] [(2, ⟨26, a.cs⟩), (3, ⟨26, b.cs⟩), (4, ⟨28, [.bool false, .slice none 0 0, .slice none 0 0, .bool false, .slice none 0 0, .slice none 0 0]⟩)] ?_
  refine sw_seq ?_
  refine sw_reg ?_
  refine sy_ldv 8 (.v (a.v)) ty26 part_agg ?_
  refine sy_ldv 9 (.v (b.v)) ty26 part_agg ?_
  refine sy_pure 10 (.v (.agg #[.bool a.s, .slice a.m.a a.m.n a.m.c, .slice a.d.a a.d.n a.d.c, .bool b.s, .slice b.m.a b.m.n b.m.c, .slice b.d.a b.d.n b.d.c])) ?_
  refine sy_call 11 103 [.agg #[.bool a.s, .slice a.m.a a.m.n a.m.c, .slice a.d.a a.d.n a.d.c, .bool b.s, .slice b.m.a b.m.n b.m.c, .slice b.d.a b.d.n b.d.c]] ?_
  intro w11 u11 e11 d11
  have k18 := k_ends d11 (ha.ext e11) (hb.ext e11) (by omega)
  with_reducible refine Post.mono k18 ?_
  clear k18
  rintro _ u16 g17 ⟨r12, r14, rfl, h13, h15⟩
  refine sy_pure 7 (.v (.tuple #[r12.v, r14.v])) ?_
  refine sy_pure 12 (.v (r12.v)) ?_
  refine sy_pure 13 (.v (r14.v)) ?_
  refine sy_new 5 ⟨26, [.bool false, .slice none 0 0, .slice none 0 0]⟩ ?_
  refine sy_new 6 ⟨26, [.bool false, .slice none 0 0, .slice none 0 0]⟩ ?_
  refine sy_store ⟨26, r12.cs⟩ ty26 ?_
  refine sy_store ⟨26, r14.cs⟩ ty26 ?_
  refine sy_next 19 [(4, .adr 4 0), (5, .adr 5 0), (6, .adr 6 0)] [(4, ⟨28, [.bool false, .slice none 0 0, .slice none 0 0, .bool false, .slice none 0 0, .slice none 0 0]⟩), (5, ⟨26, r12.cs⟩), (6, ⟨26, r14.cs⟩)] ?_
  refine sw_seq ?_
  refine sw_any [0, 1, 0, 7, 15, 31] [(0, []), (2, []), (1, []), (3, []), (4, []), (5, [])] (by kernel_rfl) (by kernel_rfl) ?_
  refine sy_ldv 14 (.v (r12.v)) ty26 part_agg ?_
  refine sy_ldv 16 (.v (r14.v)) ty26 part_agg ?_
  refine sy_call 15 126 [r12.v] ?_
  intro w19 u19 e19 d19
  have k24 := k_ratTrim d19 (h13.ext e19) (by omega)
  with_reducible refine Post.mono k24 ?_
  clear k24
  rintro _ u22 g23 ⟨r20, rfl, h21⟩
  refine sy_call 17 126 [r14.v] ?_
  intro w25 u25 e25 d25
  have k30 := k_ratTrim d25 (h15.ext (e19.trans (g23.ext.trans e25))) (by omega)
  with_reducible refine Post.mono k30 ?_
  clear k30
  rintro _ u28 g29 ⟨r26, rfl, h27⟩
  refine sy_pure 18 (.v (.agg #[.bool r20.s, .slice r20.m.a r20.m.n r20.m.c, .slice r20.d.a r20.d.n r20.d.c, .bool r26.s, .slice r26.m.a r26.m.n r26.m.c, .slice r26.d.a r26.d.n r26.d.c])) ?_
  refine sy_store ⟨28, r20.cs ++ r26.cs⟩ ty28 ?_
  refine sy_next 19 [(4, .adr 4 0)] [(4, ⟨28, r20.cs ++ r26.cs⟩)] ?_
  refine sw_ret (ret0 [.agg #[.bool r20.s, .slice r20.m.a r20.m.n r20.m.c, .slice r20.d.a r20.d.n r20.d.c, .bool r26.s, .slice r26.m.a r26.m.n r26.m.c, .slice r26.d.a r26.d.n r26.d.c]] ⟨res_cell ty28 part_agg, trivial⟩ fun u31 e32 => ?_)
  refine ⟨r20, r26, rfl, RatN.more (K := K) ?_ (by omega), RatN.more (K := K) ?_ (by omega)⟩
  · exact (h21.ext (e25.trans (g29.ext.trans e32)))
  · exact (h27.ext e32)
theorem k_ivAdd {u w : World} {a1 a2 : RL} {x1 x2 : Rat} {b1 b2 : RL} {y1 y2 : Rat} {K L : Nat} (d : Dat u w) (ha1 : RatV u a1 x1 K) (ha2 : RatV u a2 x2 K) (hb1 : RatV u b1 y1 L) (hb2 : RatV u b2 y2 L) (hK : K ≤ 100000000) (hL : L ≤ 100000000) : Calls Tryz.prog 17 #[IV a1 a2, IV b1 b2] w (Post u w fun v u' => ∃ p q : RL, v = IV p q ∧ RatN u' p (Nt.lo x1 x2 + Nt.lo y1 y2) (K + L + 1) ∧ RatN u' q (Nt.hi x1 x2 + Nt.hi y1 y2) (K + L + 1)) := by
  refine calls_sym (args := [.agg #[.bool a1.s, .slice a1.m.a a1.m.n a1.m.c, .slice a1.d.a a1.d.n a1.d.c, .bool a2.s, .slice a2.m.a a2.m.n a2.m.c, .slice a2.d.a a2.d.n a2.d.c], .agg #[.bool b1.s, .slice b1.m.a b1.m.n b1.m.c, .slice b1.d.a b1.d.n b1.d.c, .bool b2.s, .slice b2.m.a b2.m.n b2.m.c, .slice b2.d.a b2.d.n b2.d.c]]) Tryz.func17 rfl Tryz.ntmps17 (rs := [.cell 4 28]) Tryz.results17 (le_b rfl) (le_b rfl) d ?_
  refine sw_seq ?_
  refine sw_reg ?_
  refine sy_new 2 ⟨28, a1.cs ++ a2.cs⟩ ?_
  refine sy_new 3 ⟨28, b1.cs ++ b2.cs⟩ ?_
  refine sy_new 4 ⟨28, [.bool false, .slice none 0 0, .slice none 0 0, .bool false, .slice none 0 0, .slice none 0 0]⟩ ?_
  refine sy_next 26 [(2, .adr 2 0), (3, .adr 3 0), (4, .adr 4 0)] [(2, ⟨28, a1.cs ++ a2.cs⟩), (3, ⟨28, b1.cs ++ b2.cs⟩), (4, ⟨28, [.bool false, .slice none 0 0, .slice none 0 0, .bool false, .slice none 0 0, .slice none 0 0]⟩)] ?_
  refine sw_seq ?_
  refine sw_reg ?_
  refine sy_ldv 10 (.v (.agg #[.bool a1.s, .slice a1.m.a a1.m.n a1.m.c, .slice a1.d.a a1.d.n a1.d.c, .bool a2.s, .slice a2.m.a a2.m.n a2.m.c, .slice a2.d.a a2.d.n a2.d.c])) ty28 part_agg ?_
  refine sy_call 11 103 [.agg #[.bool a1.s, .slice a1.m.a a1.m.n a1.m.c, .slice a1.d.a a1.d.n a1.d.c, .bool a2.s, .slice a2.m.a a2.m.n a2.m.c, .slice a2.d.a a2.d.n a2.d.c]] ?_
  intro w11 u11 e11 d11
  have k18 := k_ends d11 (ha1.ext e11) (ha2.ext e11) (by omega)
  with_reducible refine Post.mono k18 ?_
  clear k18
  rintro _ u16 g17 ⟨r12, r14, rfl, h13, h15⟩
  refine sy_pure 9 (.v (.tuple #[r12.v, r14.v])) ?_
  refine sy_pure 12 (.v (r12.v)) ?_
  refine sy_pure 13 (.v (r14.v)) ?_
  refine sy_new 5 ⟨26, [.bool false, .slice none 0 0, .slice none 0 0]⟩ ?_
  refine sy_new 6 ⟨26, [.bool false, .slice none 0 0, .slice none 0 0]⟩ ?_
  refine sy_store ⟨26, r12.cs⟩ ty26 ?_
  refine sy_store ⟨26, r14.cs⟩ ty26 ?_
  refine sy_next 26 [(3, .adr 3 0), (4, .adr 4 0), (5, .adr 5 0), (6, .adr 6 0)] [(3, ⟨28, b1.cs ++ b2.cs⟩), (4, ⟨28, [.bool false, .slice none 0 0, .slice none 0 0, .bool false, .slice none 0 0, .slice none 0 0]⟩), (5, ⟨26, r12.cs⟩), (6, ⟨26, r14.cs⟩)] ?_
  refine sw_seq ?_
  refine sw_reg ?_
  refine sy_ldv 15 (.v (.agg #[.bool b1.s, .slice b1.m.a b1.m.n b1.m.c, .slice b1.d.a b1.d.n b1.d.c, .bool b2.s, .slice b2.m.a b2.m.n b2.m.c, .slice b2.d.a b2.d.n b2.d.c])) ty28 part_agg ?_
  refine sy_call 16 103 [.agg #[.bool b1.s, .slice b1.m.a b1.m.n b1.m.c, .slice b1.d.a b1.d.n b1.d.c, .bool b2.s, .slice b2.m.a b2.m.n b2.m.c, .slice b2.d.a b2.d.n b2.d.c]] ?_
  intro w19 u19 e19 d19
  have k26 := k_ends d19 (hb1.ext (e11.trans (g17.ext.trans e19))) (hb2.ext (e11.trans (g17.ext.trans e19))) (by omega)
  with_reducible refine Post.mono k26 ?_
  clear k26
  rintro _ u24 g25 ⟨r20, r22, rfl, h21, h23⟩
  refine sy_pure 14 (.v (.tuple #[r20.v, r22.v])) ?_
  refine sy_pure 17 (.v (r20.v)) ?_
  refine sy_pure 18 (.v (r22.v)) ?_
  refine sy_new 7 ⟨26, [.bool false, .slice none 0 0, .slice none 0 0]⟩ ?_
  refine sy_new 8 ⟨26, [.bool false, .slice none 0 0, .slice none 0 0]⟩ ?_
  refine sy_store ⟨26, r20.cs⟩ ty26 ?_
  refine sy_store ⟨26, r22.cs⟩ ty26 ?_
  refine sy_next 26 [(4, .adr 4 0), (5, .adr 5 0), (6, .adr 6 0), (7, .adr 7 0), (8, .adr 8 0)] [(4, ⟨28, [.bool false, .slice none 0 0, .slice none 0 0, .bool false, .slice none 0 0, .slice none 0 0]⟩), (5, ⟨26, r12.cs⟩), (6, ⟨26, r14.cs⟩), (7, ⟨26, r20.cs⟩), (8, ⟨26, r22.cs⟩)] ?_
  refine sw_seq ?_
  refine sw_any [0, 0, 3, 0, 0, 31, 63, 127] [(0, []), (1, []), (3, []), (4, []), (2, []), (5, []), (6, []), (7, [])] (by kernel_rfl) (by kernel_rfl) ?_
  refine sy_ldv 19 (.v (r12.v)) ty26 part_agg ?_
  refine sy_ldv 20 (.v (r20.v)) ty26 part_agg ?_
  refine sy_ldv 22 (.v (r14.v)) ty26 part_agg ?_
  refine sy_ldv 23 (.v (r22.v)) ty26 part_agg ?_
  refine sy_call 21 104 [r12.v, r20.v] ?_
  intro w27 u27 e27 d27
  have k32 := k_ratAdd d27 (h13.ext (e19.trans (g25.ext.trans e27))) (h21.ext e27) (by omega) (by omega)
  with_reducible refine Post.mono k32 ?_
  clear k32
  rintro _ u30 g31 ⟨r28, rfl, h29⟩
  refine sy_call 24 104 [r14.v, r22.v] ?_
  intro w33 u33 e33 d33
  have k38 := k_ratAdd d33 (h15.ext (e19.trans (g25.ext.trans (e27.trans (g31.ext.trans e33))))) (h23.ext (e27.trans (g31.ext.trans e33))) (by omega) (by omega)
  with_reducible refine Post.mono k38 ?_
  clear k38
  rintro _ u36 g37 ⟨r34, rfl, h35⟩
  refine sy_pure 25 (.v (.agg #[.bool r28.s, .slice r28.m.a r28.m.n r28.m.c, .slice r28.d.a r28.d.n r28.d.c, .bool r34.s, .slice r34.m.a r34.m.n r34.m.c, .slice r34.d.a r34.d.n r34.d.c])) ?_
  refine sy_store ⟨28, r28.cs ++ r34.cs⟩ ty28 ?_
  refine sy_next 26 [(4, .adr 4 0)] [(4, ⟨28, r28.cs ++ r34.cs⟩)] ?_
  refine sw_ret (ret0 [.agg #[.bool r28.s, .slice r28.m.a r28.m.n r28.m.c, .slice r28.d.a r28.d.n r28.d.c, .bool r34.s, .slice r34.m.a r34.m.n r34.m.c, .slice r34.d.a r34.d.n r34.d.c]] ⟨res_cell ty28 part_agg, trivial⟩ fun u39 e40 => ?_)
  refine ⟨r28, r34, rfl, RatN.more (K := (K + L + 1)) ?_ (by omega), RatN.more (K := (K + L + 1)) ?_ (by omega)⟩
  · exact (h29.ext (e33.trans (g37.ext.trans e40)))
  · exact (h35.ext e40)
theorem k_ivMul {u w : World} {a1 a2 : RL} {x1 x2 : Rat} {b1 b2 : RL} {y1 y2 : Rat} {K L : Nat} (d : Dat u w) (ha1 : RatV u a1 x1 K) (ha2 : RatV u a2 x2 K) (hb1 : RatV u b1 y1 L) (hb2 : RatV u b2 y2 L) (hK : K ≤ 100000000) (hL : L ≤ 100000000) : Calls Tryz.prog 21 #[IV a1 a2, IV b1 b2] w (Post u w fun v u' => ∃ p q : RL, v = IV p q ∧ RatN u' p (Nt.lo4 (x1 * y1) (x1 * y2) (x2 * y1) (x2 * y2)) (K + L) ∧ RatN u' q (Nt.hi4 (x1 * y1) (x1 * y2) (x2 * y1) (x2 * y2)) (K + L)) := by
  refine calls_sym (args := [.agg #[.bool a1.s, .slice a1.m.a a1.m.n a1.m.c, .slice a1.d.a a1.d.n a1.d.c, .bool a2.s, .slice a2.m.a a2.m.n a2.m.c, .slice a2.d.a a2.d.n a2.d.c], .agg #[.bool b1.s, .slice b1.m.a b1.m.n b1.m.c, .slice b1.d.a b1.d.n b1.d.c, .bool b2.s, .slice b2.m.a b2.m.n b2.m.c, .slice b2.d.a b2.d.n b2.d.c]]) Tryz.func21 rfl Tryz.ntmps21 (rs := [.cell 4 28]) Tryz.results21 (le_b rfl) (le_b rfl) d ?_
  refine sw_seq ?_
  refine sw_reg ?_
  refine sy_new 2 ⟨28, a1.cs ++ a2.cs⟩ ?_
  refine sy_new 3 ⟨28, b1.cs ++ b2.cs⟩ ?_
  refine sy_new 4 ⟨28, [.bool false, .slice none 0 0, .slice none 0 0, .bool false, .slice none 0 0, .slice none 0 0]⟩ ?_
  refine sy_next 27 [(2, .adr 2 0), (3, .adr 3 0), (4, .adr 4 0)] [(2, ⟨28, a1.cs ++ a2.cs⟩), (3, ⟨28, b1.cs ++ b2.cs⟩), (4, ⟨28, [.bool false, .slice none 0 0, .slice none 0 0, .bool false, .slice none 0 0, .slice none 0 0]⟩)] ?_
  refine sw_seq ?_
  refine sw_any [0, 1, 0, 4, 15, 0, 32, 0, 128, 511, 0, 1024, 0, 4096, 16383, 0, 32768, 0, 131072, 524287, 1048575, 2097151, 4194303] [(0, []), (1, []), (2, []), (3, []), (5, []), (6, []), (7, []), (8, []), (10, []), (11, []), (12, []), (13, []), (15, []), (16, []), (17, []), (18, []), (4, []), (9, []), (14, []), (19, []), (20, []), (21, []), (22, [])] (by kernel_rfl) (by kernel_rfl) ?_
  refine sy_pure 5 (.adr 2 0) ?_
  refine sy_ldv 6 (.v (a1.v)) ty26 part_agg ?_
  refine sy_pure 7 (.adr 3 0) ?_
  refine sy_ldv 8 (.v (b1.v)) ty26 part_agg ?_
  refine sy_pure 10 (.adr 2 0) ?_
  refine sy_ldv 11 (.v (a1.v)) ty26 part_agg ?_
  refine sy_pure 12 (.adr 3 3) ?_
  refine sy_ldv 13 (.v (b2.v)) ty26 part_agg ?_
  refine sy_pure 15 (.adr 2 3) ?_
  refine sy_ldv 16 (.v (a2.v)) ty26 part_agg ?_
  refine sy_pure 17 (.adr 3 0) ?_
  refine sy_ldv 18 (.v (b1.v)) ty26 part_agg ?_
  refine sy_pure 20 (.adr 2 3) ?_
  refine sy_ldv 21 (.v (a2.v)) ty26 part_agg ?_
  refine sy_pure 22 (.adr 3 3) ?_
  refine sy_ldv 23 (.v (b2.v)) ty26 part_agg ?_
  refine sy_call 9 111 [a1.v, b1.v] ?_
  intro w11 u11 e11 d11
  have k16 := k_ratMul d11 (ha1.ext e11) (hb1.ext e11) (by omega) (by omega)
  with_reducible refine Post.mono k16 ?_
  clear k16
  rintro _ u14 g15 ⟨r12, rfl, h13⟩
  refine sy_call 14 111 [a1.v, b2.v] ?_
  intro w17 u17 e17 d17
  have k22 := k_ratMul d17 (ha1.ext (e11.trans (g15.ext.trans e17))) (hb2.ext (e11.trans (g15.ext.trans e17))) (by omega) (by omega)
  with_reducible refine Post.mono k22 ?_
  clear k22
  rintro _ u20 g21 ⟨r18, rfl, h19⟩
  refine sy_call 19 111 [a2.v, b1.v] ?_
  intro w23 u23 e23 d23
  have k28 := k_ratMul d23 (ha2.ext (e11.trans (g15.ext.trans (e17.trans (g21.ext.trans e23))))) (hb1.ext (e11.trans (g15.ext.trans (e17.trans (g21.ext.trans e23))))) (by omega) (by omega)
  with_reducible refine Post.mono k28 ?_
  clear k28
  rintro _ u26 g27 ⟨r24, rfl, h25⟩
  refine sy_call 24 111 [a2.v, b2.v] ?_
  intro w29 u29 e29 d29
  have k34 := k_ratMul d29 (ha2.ext (e11.trans (g15.ext.trans (e17.trans (g21.ext.trans (e23.trans (g27.ext.trans e29))))))) (hb2.ext (e11.trans (g15.ext.trans (e17.trans (g21.ext.trans (e23.trans (g27.ext.trans e29))))))) (by omega) (by omega)
  with_reducible refine Post.mono k34 ?_
  clear k34
  rintro _ u32 g33 ⟨r30, rfl, h31⟩
  refine sy_pure 25 (.v (.agg #[.bool r12.s, .slice r12.m.a r12.m.n r12.m.c, .slice r12.d.a r12.d.n r12.d.c, .bool r18.s, .slice r18.m.a r18.m.n r18.m.c, .slice r18.d.a r18.d.n r18.d.c, .bool r24.s, .slice r24.m.a r24.m.n r24.m.c, .slice r24.d.a r24.d.n r24.d.c, .bool r30.s, .slice r30.m.a r30.m.n r30.m.c, .slice r30.d.a r30.d.n r30.d.c])) ?_
  refine sy_call 26 100 [.agg #[.bool r12.s, .slice r12.m.a r12.m.n r12.m.c, .slice r12.d.a r12.d.n r12.d.c, .bool r18.s, .slice r18.m.a r18.m.n r18.m.c, .slice r18.d.a r18.d.n r18.d.c, .bool r24.s, .slice r24.m.a r24.m.n r24.m.c, .slice r24.d.a r24.d.n r24.d.c, .bool r30.s, .slice r30.m.a r30.m.n r30.m.c, .slice r30.d.a r30.d.n r30.d.c]] ?_
  intro w35 u35 e35 d35
  have k42 := k_around d35 (h13.ext (e17.trans (g21.ext.trans (e23.trans (g27.ext.trans (e29.trans (g33.ext.trans e35))))))) (h19.ext (e23.trans (g27.ext.trans (e29.trans (g33.ext.trans e35))))) (h25.ext (e29.trans (g33.ext.trans e35))) (h31.ext e35) (by omega)
  with_reducible refine Post.mono k42 ?_
  clear k42
  rintro _ u40 g41 ⟨r36, r38, rfl, h37, h39⟩
  refine sy_store ⟨28, r36.cs ++ r38.cs⟩ ty28 ?_
  refine sy_next 27 [(4, .adr 4 0)] [(4, ⟨28, r36.cs ++ r38.cs⟩)] ?_
  refine sw_ret (ret0 [.agg #[.bool r36.s, .slice r36.m.a r36.m.n r36.m.c, .slice r36.d.a r36.d.n r36.d.c, .bool r38.s, .slice r38.m.a r38.m.n r38.m.c, .slice r38.d.a r38.d.n r38.d.c]] ⟨res_cell ty28 part_agg, trivial⟩ fun u43 e44 => ?_)
  refine ⟨r36, r38, rfl, RatN.more (K := (K + L)) ?_ (by omega), RatN.more (K := (K + L)) ?_ (by omega)⟩
  · exact (h37.ext e44)
  · exact (h39.ext e44)
end Go.Proofs.YtnedhbidmfoegaaGreat
namespace Go.Proofs.YtnedhbidmfoegaaGreat
open Go.RowKit
set_option linter.unusedVariables false
theorem k_r4Trim {u w : World} {a1 a2 : RL} {x1 x2 : Rat} {K : Nat} (d : Dat u w) (ha1 : RatV u a1 x1 K) (ha2 : RatV u a2 x2 K) (hK : K ≤ 100000000) : Calls Tryz.prog 69 #[IV a1 a2] w (Post u w fun v u' => ∃ p q : RL, v = IV p q ∧ RatN u' p (Nt.lo x1 x2) K ∧ RatN u' q (Nt.hi x1 x2) K) := by
  refine calls_sym (args := [.agg #[.bool a1.s, .slice a1.m.a a1.m.n a1.m.c, .slice a1.d.a a1.d.n a1.d.c, .bool a2.s, .slice a2.m.a a2.m.n a2.m.c, .slice a2.d.a a2.d.n a2.d.c]]) Tryz.func69 rfl Tryz.ntmps69 (rs := [.cell 2 28]) Tryz.results69 (le_b rfl) (le_b rfl) d ?_
  refine sw_seq ?_
  refine sw_reg ?_
  refine sy_new 1 ⟨28, a1.cs ++ a2.cs⟩ ?_
  refine sy_new 2 ⟨28, [.bool false, .slice none 0 0, .slice none 0 0, .bool false, .slice none 0 0, .slice none 0 0]⟩ ?_
  refine sy_next 14 [(1, .adr 1 0), (2, .adr 2 0)] [(1, ⟨28, a1.cs ++ a2.cs⟩), (2, ⟨28, [.bool false, .slice none 0 0, .slice none 0 0, .bool false, .slice none 0 0, .slice none 0 0]⟩)] ?_
  refine sw_seq ?_
  refine sw_any [0, 1, 0, 4, 15, 0, 32, 0, 128, 511, 1023, 2047] [(0, []), (1, []), (2, []), (3, []), (5, []), (6, []), (7, []), (8, []), (4, []), (9, []), (10, []), (11, [])] (by kernel_rfl) (by kernel_rfl) ?_
  refine sy_pure 3 (.adr 1 0) ?_
  refine sy_ldv 4 (.v (a1.v)) ty26 part_agg ?_
  refine sy_pure 5 (.adr 1 3) ?_
  refine sy_ldv 6 (.v (a2.v)) ty26 part_agg ?_
  refine sy_pure 8 (.adr 1 0) ?_
  refine sy_ldv 9 (.v (a1.v)) ty26 part_agg ?_
  refine sy_pure 10 (.adr 1 3) ?_
  refine sy_ldv 11 (.v (a2.v)) ty26 part_agg ?_
  refine sy_call 7 130 [a1.v, a2.v] ?_
  intro w11 u11 e11 d11
  have k16 := k_rqMin d11 (ha1.ext e11) (ha2.ext e11) (by omega) (by omega)
  with_reducible refine Post.mono k16 ?_
  clear k16
  rintro _ u14 g15 ⟨r12, rfl, h13⟩
  refine sy_call 12 129 [a1.v, a2.v] ?_
  intro w17 u17 e17 d17
  have k22 := k_rqMax d17 (ha1.ext (e11.trans (g15.ext.trans e17))) (ha2.ext (e11.trans (g15.ext.trans e17))) (by omega) (by omega)
  with_reducible refine Post.mono k22 ?_
  clear k22
  rintro _ u20 g21 ⟨r18, rfl, h19⟩
  refine sy_pure 13 (.v (.agg #[.bool r12.s, .slice r12.m.a r12.m.n r12.m.c, .slice r12.d.a r12.d.n r12.d.c, .bool r18.s, .slice r18.m.a r18.m.n r18.m.c, .slice r18.d.a r18.d.n r18.d.c])) ?_
  refine sy_store ⟨28, r12.cs ++ r18.cs⟩ ty28 ?_
  refine sy_next 14 [(2, .adr 2 0)] [(2, ⟨28, r12.cs ++ r18.cs⟩)] ?_
  refine sw_ret (ret0 [.agg #[.bool r12.s, .slice r12.m.a r12.m.n r12.m.c, .slice r12.d.a r12.d.n r12.d.c, .bool r18.s, .slice r18.m.a r18.m.n r18.m.c, .slice r18.d.a r18.d.n r18.d.c]] ⟨res_cell ty28 part_agg, trivial⟩ fun u23 e24 => ?_)
  refine ⟨r12, r18, rfl, RatN.more (K := (max K K)) ?_ (by omega), RatN.more (K := (max K K)) ?_ (by omega)⟩
  · exact (h13.ext (e17.trans (g21.ext.trans e24)))
  · exact (h19.ext e24)
theorem k_r4Make {u w : World} {a : RL} {x : Rat} {b : RL} {y : Rat} {K : Nat} (d : Dat u w) (ha : RatV u a x K) (hb : RatV u b y K) (hK : K ≤ 100000000) : Calls Tryz.prog 46 #[a.v, b.v] w (Post u w fun v u' => ∃ p q : RL, v = IV p q ∧ RatN u' p (Nt.lo x y) K ∧ RatN u' q (Nt.hi x y) K) := by
  refine calls_sym (args := [a.v, b.v]) Tryz.func46 rfl Tryz.ntmps46 (rs := [.cell 4 28]) Tryz.results46 (le_b rfl) (le_b rfl) d ?_
  refine sw_seq ?_
  refine sw_reg ?_
  refine sy_new 2 ⟨26, a.cs⟩ ?_
  refine sy_new 3 ⟨26, b.cs⟩ ?_
  refine sy_new 4 ⟨28, [.bool false, .slice none 0 0, .slice none 0 0, .bool false, .slice none 0 0, .slice none 0 0]⟩ ?_
  refine sy_next 9 [(2, .adr 2 0), (3, .adr 3 0), (4, .adr 4 0)] [(2, ⟨26, a.cs⟩), (3, ⟨26, b.cs⟩), (4, ⟨28, [.bool false, .slice none 0 0, .slice none 0 0, .bool false, .slice none 0 0, .slice none 0 0]⟩)] ?_
  refine sw_seq ?_
  refine sw_reg ?_
  refine sy_ldv 5 (.v (a.v)) ty26 part_agg ?_
  refine sy_ldv 6 (.v (b.v)) ty26 part_agg ?_
  refine sy_pure 7 (.v (.agg #[.bool a.s, .slice a.m.a a.m.n a.m.c, .slice a.d.a a.d.n a.d.c, .bool b.s, .slice b.m.a b.m.n b.m.c, .slice b.d.a b.d.n b.d.c])) ?_
  refine sy_call 8 69 [.agg #[.bool a.s, .slice a.m.a a.m.n a.m.c, .slice a.d.a a.d.n a.d.c, .bool b.s, .slice b.m.a b.m.n b.m.c, .slice b.d.a b.d.n b.d.c]] ?_
  intro w11 u11 e11 d11
  have k18 := k_r4Trim d11 (ha.ext e11) (hb.ext e11) (by omega)
  with_reducible refine Post.mono k18 ?_
  clear k18
  rintro _ u16 g17 ⟨r12, r14, rfl, h13, h15⟩
  refine sy_store ⟨28, r12.cs ++ r14.cs⟩ ty28 ?_
  refine sy_next 9 [(4, .adr 4 0)] [(4, ⟨28, r12.cs ++ r14.cs⟩)] ?_
  refine sw_ret (ret0 [.agg #[.bool r12.s, .slice r12.m.a r12.m.n r12.m.c, .slice r12.d.a r12.d.n r12.d.c, .bool r14.s, .slice r14.m.a r14.m.n r14.m.c, .slice r14.d.a r14.d.n r14.d.c]] ⟨res_cell ty28 part_agg, trivial⟩ fun u19 e20 => ?_)
  refine ⟨r12, r14, rfl, RatN.more (K := K) ?_ (by omega), RatN.more (K := K) ?_ (by omega)⟩
  · exact (h13.ext e20)
  · exact (h15.ext e20)
theorem k_r4Width {u w : World} {a1 a2 : RL} {x1 x2 : Rat} {K : Nat} (d : Dat u w) (ha1 : RatV u a1 x1 K) (ha2 : RatV u a2 x2 K) (hK : K ≤ 50000000) : Calls Tryz.prog 48 #[IV a1 a2] w (Post u w fun v u' => ∃ p : RL, v = p.v ∧ RatN u' p (Nt.hi x1 x2 - Nt.lo x1 x2) (K + K + 2)) := by
  refine calls_sym (args := [.agg #[.bool a1.s, .slice a1.m.a a1.m.n a1.m.c, .slice a1.d.a a1.d.n a1.d.c, .bool a2.s, .slice a2.m.a a2.m.n a2.m.c, .slice a2.d.a a2.d.n a2.d.c]]) Tryz.func48 rfl Tryz.ntmps48 (rs := [.cell 2 26]) Tryz.results48 (le_b rfl) (le_b rfl) d ?_
  refine sw_seq ?_
  refine sw_reg ?_
  refine sy_new 1 ⟨28, a1.cs ++ a2.cs⟩ ?_
  refine sy_new 2 ⟨26, [.bool false, .slice none 0 0, .slice none 0 0]⟩ ?_
  refine sy_next 10 [(1, .adr 1 0), (2, .adr 2 0)] [(1, ⟨28, a1.cs ++ a2.cs⟩), (2, ⟨26, [.bool false, .slice none 0 0, .slice none 0 0]⟩)] ?_
  refine sw_seq ?_
  refine sw_reg ?_
  refine sy_ldv 3 (.v (.agg #[.bool a1.s, .slice a1.m.a a1.m.n a1.m.c, .slice a1.d.a a1.d.n a1.d.c, .bool a2.s, .slice a2.m.a a2.m.n a2.m.c, .slice a2.d.a a2.d.n a2.d.c])) ty28 part_agg ?_
  refine sy_call 4 69 [.agg #[.bool a1.s, .slice a1.m.a a1.m.n a1.m.c, .slice a1.d.a a1.d.n a1.d.c, .bool a2.s, .slice a2.m.a a2.m.n a2.m.c, .slice a2.d.a a2.d.n a2.d.c]] ?_
  intro w11 u11 e11 d11
  have k18 := k_r4Trim d11 (ha1.ext e11) (ha2.ext e11) (by omega)
  with_reducible refine Post.mono k18 ?_
  clear k18
  rintro _ u16 g17 ⟨r12, r14, rfl, h13, h15⟩
  refine sy_store ⟨28, r12.cs ++ r14.cs⟩ ty28 ?_
  refine sy_next 10 [(1, .adr 1 0), (2, .adr 2 0)] [(1, ⟨28, r12.cs ++ r14.cs⟩), (2, ⟨26, [.bool false, .slice none 0 0, .slice none 0 0]⟩)] ?_
  refine sw_seq ?_
  refine sw_reg ?_
  refine sy_pure 5 (.adr 1 3) ?_
  refine sy_ldv 6 (.v (r14.v)) ty26 part_agg ?_
  refine sy_pure 7 (.adr 1 0) ?_
  refine sy_ldv 8 (.v (r12.v)) ty26 part_agg ?_
  refine sy_call 9 20 [r14.v, r12.v] ?_
  intro w19 u19 e19 d19
  have k24 := k_rqSub d19 (h15.ext e19).raw (h13.ext e19).raw (by omega) (by omega)
  with_reducible refine Post.mono k24 ?_
  clear k24
  rintro _ u22 g23 ⟨r20, rfl, h21⟩
  refine sy_store ⟨26, r20.cs⟩ ty26 ?_
  refine sy_next 10 [(2, .adr 2 0)] [(2, ⟨26, r20.cs⟩)] ?_
  refine sw_ret (ret0 [r20.v] ⟨res_cell ty26 part_agg, trivial⟩ fun u25 e26 => ?_)
  exact ⟨r20, rfl, (h21.ext e26)⟩
theorem k_r4Contains {u w : World} {a1 a2 : RL} {x1 x2 : Rat} {b : RL} {y : Rat} {K L : Nat} (d : Dat u w) (ha1 : RatV u a1 x1 K) (ha2 : RatV u a2 x2 K) (hb : RatV u b y L) (hK : K ≤ 100000000) (hL : L ≤ 100000000) : Calls Tryz.prog 15 #[IV a1 a2, b.v] w (Post u w fun v u' => v = .bool (Nt.inI x1 x2 y)) := by
  refine calls_sym (args := [.agg #[.bool a1.s, .slice a1.m.a a1.m.n a1.m.c, .slice a1.d.a a1.d.n a1.d.c, .bool a2.s, .slice a2.m.a a2.m.n a2.m.c, .slice a2.d.a a2.d.n a2.d.c], b.v]) Tryz.func15 rfl Tryz.ntmps15 (rs := [.tmp 4]) Tryz.results15 (le_b rfl) (le_b rfl) d ?_
  refine sw_seq ?_
  refine sw_reg ?_
  refine sy_new 2 ⟨28, a1.cs ++ a2.cs⟩ ?_
  refine sy_new 3 ⟨26, b.cs⟩ ?_
  refine sy_pure 4 (.v (.bool false)) ?_
  refine sy_next 19 [(2, .adr 2 0), (3, .adr 3 0)] [(2, ⟨28, a1.cs ++ a2.cs⟩), (3, ⟨26, b.cs⟩)] ?_
  refine sw_seq ?_
  refine sw_reg ?_
  refine sy_ldv 5 (.v (.agg #[.bool a1.s, .slice a1.m.a a1.m.n a1.m.c, .slice a1.d.a a1.d.n a1.d.c, .bool a2.s, .slice a2.m.a a2.m.n a2.m.c, .slice a2.d.a a2.d.n a2.d.c])) ty28 part_agg ?_
  refine sy_call 6 69 [.agg #[.bool a1.s, .slice a1.m.a a1.m.n a1.m.c, .slice a1.d.a a1.d.n a1.d.c, .bool a2.s, .slice a2.m.a a2.m.n a2.m.c, .slice a2.d.a a2.d.n a2.d.c]] ?_
  intro w11 u11 e11 d11
  have k18 := k_r4Trim d11 (ha1.ext e11) (ha2.ext e11) (by omega)
  with_reducible refine Post.mono k18 ?_
  clear k18
  rintro _ u16 g17 ⟨r12, r14, rfl, h13, h15⟩
  refine sy_store ⟨28, r12.cs ++ r14.cs⟩ ty28 ?_
  refine sy_next 19 [(2, .adr 2 0), (3, .adr 3 0)] [(2, ⟨28, r12.cs ++ r14.cs⟩), (3, ⟨26, b.cs⟩)] ?_
  refine sw_seq ?_
  refine sw_reg ?_
  refine sy_ldv 7 (.v (b.v)) ty26 part_agg ?_
  refine sy_pure 8 (.adr 2 0) ?_
  refine sy_ldv 9 (.v (r12.v)) ty26 part_agg ?_
  refine sy_call 10 101 [b.v, r12.v] ?_
  intro w19 u19 e19 d19
  have k22 := k_rqLess d19 (hb.ext (e11.trans (g17.ext.trans e19))) (h13.ext e19).raw (by omega) (by omega)
  with_reducible refine Post.mono k22 ?_
  clear k22
  rintro _ u20 g21 rfl
  refine sy_pure 11 (.v (.bool (!(decide (y < (Nt.lo x1 x2)))))) ?_
  rcases Bool.eq_false_or_eq_true (!(decide (y < (Nt.lo x1 x2)))) with hs23 | hs23
  · refine sy_eq 12 (x := .v (.bool (!(decide (y < (Nt.lo x1 x2)))))) (.v (.bool true)) (by rw [hs23]) ?_
    refine sy_pure 13 (.adr 2 3) ?_ (hw := wants1 (g := 5) (b := true) (t := 12) (by kernel_rfl) (by kernel_rfl) (by kernel_rfl))
    refine sy_ldv 14 (.v (r14.v)) ty26 part_agg ?_ (hw := wants1 (g := 5) (b := true) (t := 12) (by kernel_rfl) (by kernel_rfl) (by kernel_rfl))
    refine sy_ldv 15 (.v (b.v)) ty26 part_agg ?_ (hw := wants1 (g := 5) (b := true) (t := 12) (by kernel_rfl) (by kernel_rfl) (by kernel_rfl))
    refine sy_call 16 101 [r14.v, b.v] ?_ (hw := wants1 (g := 5) (b := true) (t := 12) (by kernel_rfl) (by kernel_rfl) (by kernel_rfl))
    intro w24 u24 e24 d24
    have k27 := k_rqLess d24 (h15.ext (e19.trans (g21.ext.trans e24))).raw (hb.ext (e11.trans (g17.ext.trans (e19.trans (g21.ext.trans e24))))) (by omega) (by omega)
    with_reducible refine Post.mono k27 ?_
    clear k27
    rintro _ u25 g26 rfl
    refine sy_pure 17 (.v (.bool (!(decide ((Nt.hi x1 x2) < y))))) ?_ (hw := wants1 (g := 5) (b := true) (t := 12) (by kernel_rfl) (by kernel_rfl) (by kernel_rfl))
    refine sy_pure 18 (.v (.bool (!(decide ((Nt.hi x1 x2) < y))))) ?_
    refine sy_pure 4 (.v (.bool (!(decide ((Nt.hi x1 x2) < y))))) ?_
    refine sy_next 19 [(4, .v (.bool (!(decide ((Nt.hi x1 x2) < y)))))] [] ?_
    refine sw_ret (ret0 [.bool (!(decide ((Nt.hi x1 x2) < y)))] ⟨res_tmp, trivial⟩ fun u28 e29 => ?_)
    show _ = _
    rw [Nt.inI_less, hs23]
    rfl
  · refine sy_eq 12 (x := .v (.bool (!(decide (y < (Nt.lo x1 x2)))))) (.v (.bool false)) (by rw [hs23]) ?_
    refine sy_drop 13 (unwanted (g := 5) (b := true) (c := false) (t := 12) (by kernel_rfl) (by kernel_rfl) (by kernel_rfl) (by kernel_rfl)) ?_
    refine sy_drop 14 (unwanted (g := 5) (b := true) (c := false) (t := 12) (by kernel_rfl) (by kernel_rfl) (by kernel_rfl) (by kernel_rfl)) ?_
    refine sy_drop 15 (unwanted (g := 5) (b := true) (c := false) (t := 12) (by kernel_rfl) (by kernel_rfl) (by kernel_rfl) (by kernel_rfl)) ?_
    refine sy_drop 16 (unwanted (g := 5) (b := true) (c := false) (t := 12) (by kernel_rfl) (by kernel_rfl) (by kernel_rfl) (by kernel_rfl)) ?_
    refine sy_drop 17 (unwanted (g := 5) (b := true) (c := false) (t := 12) (by kernel_rfl) (by kernel_rfl) (by kernel_rfl) (by kernel_rfl)) ?_
    refine sy_pure 18 (.v (.bool false)) ?_
    refine sy_pure 4 (.v (.bool false)) ?_
    refine sy_next 19 [(4, .v (.bool false))] [] ?_
    refine sw_ret (ret0 [.bool false] ⟨res_tmp, trivial⟩ fun u30 e31 => ?_)
    show _ = _
    rw [Nt.inI_less, hs23]
    rfl
end Go.Proofs.YtnedhbidmfoegaaGreat
namespace Go.Proofs.YtnedhbidmfoegaaGreat
open Go.RowKit
set_option linter.unusedVariables false
theorem k_poDegree {u w : World} {x : Sl} {l : List Rat} {K : Nat} (d : Dat u w) (hx : PolV u x l K) (hK : K ≤ 100000000) (hx9 : l.length ≤ 1000000000) : Calls Tryz.prog 45 #[x.v] w (Post u w fun v u' => v = .int .i64 (((Nt.trimQ l).length : Int) - 1)) := by
  have hlen := hx.len
  have htl := Nt.trim_len l
  refine calls_sym (args := [.slice x.a x.n x.c]) Tryz.func45 rfl Tryz.ntmps45 (rs := [.tmp 2]) Tryz.results45 (le_b rfl) (le_b rfl) d ?_
  refine sw_seq ?_
  refine sw_reg ?_
  refine sy_pure 2 (.v (.int .i64 0)) ?_
  refine sy_next 7 [(0, .v (.slice x.a x.n x.c))] [] ?_
  refine sw_seq ?_
  refine sw_reg ?_
  refine sy_pure 3 (.v (.slice x.a x.n x.c)) ?_
  refine sy_call 4 118 [.slice x.a x.n x.c] ?_
  intro w11 u11 e11 d11
  have k14 := k_cut d11 (hx.ext e11) (by omega) (by first | omega | (simp; omega) | (refine Nat.le_trans (Nt.trim_len _) ?_; first | omega | (simp; omega)) | (refine Nat.le_trans (Nt.trim_len _) ?_; simp only [List.length_map]; refine Nat.le_trans (Nt.trim_len _) ?_; first | omega | (simp; omega)))
  with_reducible refine Post.mono k14 ?_
  clear k14
  rintro _ u12 g13 rfl
  refine sy_pure 5 (.v (.int .i64 (((Nt.trimQ l).length : Nat) : Int))) ?_
  refine sy_eq 6 (x := .v (.int .i64 (IntKind.i64.wrap (((Nt.trimQ l).length : Int) - 1)))) (.v (.int .i64 (((Nt.trimQ l).length : Int) - 1))) (by rw [IntWalk.i64_in _ (by omega)]) ?_
  refine sy_pure 2 (.v (.int .i64 (((Nt.trimQ l).length : Int) - 1))) ?_
  refine sy_next 7 [(2, .v (.int .i64 (((Nt.trimQ l).length : Int) - 1)))] [] ?_
  refine sw_ret (ret0 [.int .i64 (((Nt.trimQ l).length : Int) - 1)] ⟨res_tmp, trivial⟩ fun u15 e16 => ?_)
  rfl
set_option maxHeartbeats 1000000 in
theorem k_poMonic {u w : World} {x : Sl} {l : List Rat} {K : Nat} (d : Dat u w) (hx : PolV u x l K) (hK : K ≤ 40000000) (hx9 : l.length ≤ 1000000000) : Calls Tryz.prog 32 #[x.v] w (Post u w fun v u' => ∃ y : Sl, v = y.v ∧ PolN u' y ((Nt.Pol.mk' l).monic.l) (2 * K + 2)) := by
  have hlen := hx.len
  have htl := Nt.trim_len l
  refine calls_sym (args := [.slice x.a x.n x.c]) Tryz.func32 rfl Tryz.ntmps32 (rs := [.tmp 2]) Tryz.results32 (le_b rfl) (le_b rfl) d ?_
  refine sw_seq ?_
  refine sw_reg ?_
  refine sy_pure 2 (.v (.slice none 0 0)) ?_
  refine sy_next 25 [(0, .v (.slice x.a x.n x.c))] [] ?_
  refine sw_seq ?_
  refine sw_reg ?_
  refine sy_pure 6 (.v (.slice x.a x.n x.c)) ?_
  refine sy_call 7 118 [.slice x.a x.n x.c] ?_
  intro w11 u11 e11 d11
  have k14 := k_cut d11 (hx.ext e11) (by omega) (by first | omega | (simp; omega) | (refine Nat.le_trans (Nt.trim_len _) ?_; first | omega | (simp; omega)) | (refine Nat.le_trans (Nt.trim_len _) ?_; simp only [List.length_map]; refine Nat.le_trans (Nt.trim_len _) ?_; first | omega | (simp; omega)))
  with_reducible refine Post.mono k14 ?_
  clear k14
  rintro _ u12 g13 rfl
  refine sy_pure 3 (.v (.slice x.a (Nt.trimQ l).length x.c)) ?_
  refine sy_next 25 [(3, .v (.slice x.a (Nt.trimQ l).length x.c))] [] ?_
  refine sw_seq ?_
  refine sw_seq ?_
  refine sw_reg ?_
  refine sy_pure 8 (.v (.slice x.a (Nt.trimQ l).length x.c)) ?_
  refine sy_pure 9 (.v (.int .i64 (((Nt.trimQ l).length : Nat) : Int))) ?_
  refine sy_pure 10 (.v (.bool ((((Nt.trimQ l).length : Nat) : Int) == 0))) ?_
  refine sy_next 25 [(3, .v (.slice x.a (Nt.trimQ l).length x.c)), (10, .v (.bool ((((Nt.trimQ l).length : Nat) : Int) == 0)))] [] ?_
  refine sw_cond (b := (((Nt.trimQ l).length : Nat) : Int) == 0) (by kernel_rfl) (fun hb15 => ?_) (fun hb15 => ?_)
  · replace hb15 : ((((Nt.trimQ l).length : Nat) : Int) == 0) = true := hb15
    have qhb15 : (((Nt.trimQ l).length : Nat) : Int) = 0 := by simpa using hb15
    refine sw_seq ?_
    refine sw_reg ?_
    refine sy_pure 2 (.v (.slice none 0 0)) ?_
    refine sy_next 25 [(2, .v (.slice none 0 0))] [] ?_
    refine sw_ret (mpr_seq (ret0 [.slice none 0 0] ⟨res_tmp, trivial⟩ fun u16 e17 => ?_))
    have e9 : Nt.trimQ l = [] := List.eq_nil_of_length_eq_zero (by omega)
    rw [Nt.monic_list, e9]
    exact ⟨⟨none, 0, 0⟩, rfl, pol_nil _ _⟩
  · replace hb15 : ((((Nt.trimQ l).length : Nat) : Int) == 0) = false := hb15
    have qhb15 : ¬ ((((Nt.trimQ l).length : Nat) : Int) = 0) := by simpa using hb15
    refine sw_skip (mp_seq ?_)
    refine sw_seq ?_
    have hq1 : ((Nt.trimQ l).getD (((Nt.trimQ l).length) - 1) 0) ≠ 0 := Nt.nrm_last (Nt.trim_nrm l) (by intro e; have h9 : (Nt.trimQ l).length = 0 := by { rw [e]; rfl }; omega)
    refine sw_any [0, 0, 0, 4, 12, 30, 62, 127, 255, 511, 511, 0, 3071, 8191] [(1, []), (2, []), (3, []), (4, []), (5, []), (6, []), (11, []), (0, []), (7, []), (8, []), (9, []), (10, []), (12, []), (13, [])] (by kernel_rfl) (by kernel_rfl) ?_
    refine sy_pure 13 (.v (.slice x.a (Nt.trimQ l).length x.c)) ?_
    refine sy_pure 14 (.v (.slice x.a (Nt.trimQ l).length x.c)) ?_
    refine sy_pure 15 (.v (.int .i64 (((Nt.trimQ l).length : Nat) : Int))) ?_
    refine sy_eq 16 (x := .v (.int .i64 (IntKind.i64.wrap ((((Nt.trimQ l).length : Nat) : Int) - 1)))) (.v (.int .i64 ((((Nt.trimQ l).length) - 1 : Nat) : Int))) (eqI (by rw [IntWalk.i64_in _ (by omega)]; omega)) ?_
    have hl18 := (cut_V (hx.ext (e11.trans g13.ext))).len
    change (Nt.trimQ l).length = _ at hl18
    obtain ⟨r18, b18, o18, hA18, hc18, hr18⟩ := pol_at (cut_V (hx.ext (e11.trans g13.ext))) (i := ((Nt.trimQ l).length) - 1) (by omega)
    refine sy_index 17 (o18 + (((Nt.trimQ l).length) - 1) * 3) (n := (Nt.trimQ l).length) (off := o18) (sz := 3) (i := ((((Nt.trimQ l).length) - 1 : Nat) : Int)) (by omega) hA18 (by omega) (by omega) sl41 ?_
    refine sy_ldn 18 r18.cs hc18 ty26 ?_
    refine sy_new 4 ⟨26, [.bool false, .slice none 0 0, .slice none 0 0]⟩ ?_
    refine sy_call 12 112 [.int .i64 1] ?_
    intro w19 u19 e19 d19
    have k24 := k_ratOf d19 (z := 1) (by omega) (by omega)
    with_reducible refine Post.mono k24 ?_
    clear k24
    rintro _ u22 g23 ⟨r20, rfl, h21⟩
    refine sy_call 19 99 [r20.v, r18.v] ?_
    intro w25 u25 e25 d25
    have k30 := k_ratDiv1 d25 (h21.ext e25).raw (hr18.ext (e19.trans (g23.ext.trans e25))) hq1 (by omega) (by omega)
    with_reducible refine Post.mono k30 ?_
    clear k30
    rintro _ u28 g29 ⟨r26, rfl, h27⟩
    refine sy_pure 11 (.v (.tuple #[r26.v, .int .i64 0])) ?_
    refine sy_pure 20 (.v (r26.v)) ?_
    refine sy_pure 21 (.v (.int .i64 0)) ?_
    refine sy_store ⟨26, r26.cs⟩ ty26 ?_
    refine sy_pure 5 (.v (.int .i64 0)) ?_
    refine sy_next 25 [(3, .v (.slice x.a (Nt.trimQ l).length x.c)), (4, .adr 4 0)] [(4, ⟨26, r26.cs⟩)] ?_
    refine sw_seq ?_
    refine sw_reg ?_
    refine sy_pure 22 (.v (.slice x.a (Nt.trimQ l).length x.c)) ?_
    refine sy_ldv 23 (.v (r26.v)) ty26 part_agg ?_
    refine sy_call 24 97 [.slice x.a (Nt.trimQ l).length x.c, r26.v] ?_
    intro w31 u31 e31 d31
    have k36 := k_poScale d31 ((cut_V (hx.ext (e11.trans g13.ext))).ext (e19.trans (g23.ext.trans (e25.trans (g29.ext.trans e31))))) (h27.ext e31).raw (by omega) (by first | omega | (simp; omega) | (refine Nat.le_trans (Nt.trim_len _) ?_; first | omega | (simp; omega)) | (refine Nat.le_trans (Nt.trim_len _) ?_; simp only [List.length_map]; refine Nat.le_trans (Nt.trim_len _) ?_; first | omega | (simp; omega))) (by omega)
    with_reducible refine Post.mono k36 ?_
    clear k36
    rintro _ u34 g35 ⟨y32, rfl, h33⟩
    have hly32 := h33.len
    refine sy_pure 2 (.v (.slice y32.a y32.n y32.c)) ?_
    refine sy_next 25 [(2, .v (.slice y32.a y32.n y32.c))] [] ?_
    refine sw_ret (ret0 [.slice y32.a y32.n y32.c] ⟨res_tmp, trivial⟩ fun u37 e38 => ?_)
    rw [Nt.monic_list]
    refine ⟨y32, rfl, PolN.more (K := (K + (2 + K))) ?_ (by omega)⟩
    exact (h33.ext e38)
set_option maxHeartbeats 2000000 in
theorem k_poDivMod {u w : World} {x : Sl} {l : List Rat} {y : Sl} {m : List Rat} {K M : Nat} (d : Dat u w) (hx : PolV u x l K) (hy : PolV u y m M) {a b C : Nat} (hA : Nt.WhL (Nt.prim l) a) (hB : Nt.WhL (Nt.prim m) b) (hC : a + (l.length + 1) * (b + 1) ≤ C) (hC9 : C ≤ 600000000) (hK1 : (l.length + 1) * K ≤ 20000000) (hM1 : (m.length + 1) * M ≤ 20000000) (hS : Nt.dg C + ((l.length * K + 2) + Nt.dg C + (m.length * M + 2)) ≤ 40000000) (hx9 : l.length ≤ 1000000) (hy9 : m.length ≤ 1000000) : Calls Tryz.prog 27 #[x.v, y.v] w (Post u w fun v u' => (v = .tuple #[.slice none 0 0, .slice none 0 0, .int .i64 3] ∧ Nt.trimQ m = []) ∨ (Nt.trimQ m ≠ [] ∧ ∃ (y1 y2 : Sl) (q r : Nt.Pol), v = .tuple #[y1.v, y2.v, .int .i64 0] ∧ PolN u' y1 q.l (Nt.dg C + ((l.length * K + 2) + Nt.dg C + (m.length * M + 2))) ∧ PolN u' y2 r.l (Nt.dg C + ((l.length * K + 2) + Nt.dg C + (m.length * M + 2))) ∧ Nt.Pol.mk' l = q * Nt.Pol.mk' m + r ∧ r.len < (Nt.Pol.mk' m).len)) := by
  have hlen := hx.len
  have hlen2 := hy.len
  have htl := Nt.trim_len l
  have htm := Nt.trim_len m
  have hK2 := hK1
  have hM2 := hM1
  rw [Nat.add_mul] at hK2 hM2
  have hKK : (Nt.trimQ l).length * K ≤ l.length * K := Nat.mul_le_mul_right _ htl
  have hMM : (Nt.trimQ m).length * M ≤ m.length * M := Nat.mul_le_mul_right _ htm
  refine calls_sym (args := [.slice x.a x.n x.c, .slice y.a y.n y.c]) Tryz.func27 rfl Tryz.ntmps27 (rs := [.tmp 4, .tmp 5, .tmp 6]) Tryz.results27 (le_b rfl) (le_b rfl) d ?_
  refine sw_seq ?_
  refine sw_reg ?_
  refine sy_pure 4 (.v (.slice none 0 0)) ?_
  refine sy_pure 5 (.v (.slice none 0 0)) ?_
  refine sy_pure 6 (.v (.int .i64 0)) ?_
  refine sy_next 56 [(0, .v (.slice x.a x.n x.c)), (1, .v (.slice y.a y.n y.c))] [] ?_
  refine sw_seq ?_
  refine sw_reg ?_
  refine sy_pure 19 (.v (.slice x.a x.n x.c)) ?_
  refine sy_call 20 115 [.slice x.a x.n x.c] ?_
  intro w11 u11 e11 d11
  have k18 := k_split d11 (hx.ext e11) (by omega) (by first | omega | (simp; omega) | (refine Nat.le_trans (Nt.trim_len _) ?_; first | omega | (simp; omega)) | (refine Nat.le_trans (Nt.trim_len _) ?_; simp only [List.length_map]; refine Nat.le_trans (Nt.trim_len _) ?_; first | omega | (simp; omega)))
  with_reducible refine Post.mono k18 ?_
  clear k18
  rintro _ u16 g17 ⟨r12, y14, rfl, h13, h15⟩
  have hly14 : y14.n = (Nt.trimQ l).length := by have h9 := h15.len; simpa using h9
  refine sy_pure 18 (.v (.tuple #[r12.v, .slice y14.a y14.n y14.c])) ?_
  refine sy_pure 21 (.v (r12.v)) ?_
  refine sy_pure 22 (.v (.slice y14.a y14.n y14.c)) ?_
  refine sy_new 7 ⟨26, [.bool false, .slice none 0 0, .slice none 0 0]⟩ ?_
  refine sy_store ⟨26, r12.cs⟩ ty26 ?_
  refine sy_pure 8 (.v (.slice y14.a y14.n y14.c)) ?_
  refine sy_next 56 [(1, .v (.slice y.a y.n y.c)), (7, .adr 7 0), (8, .v (.slice y14.a y14.n y14.c))] [(7, ⟨26, r12.cs⟩)] ?_
  refine sw_seq ?_
  refine sw_reg ?_
  refine sy_pure 24 (.v (.slice y.a y.n y.c)) ?_
  refine sy_call 25 115 [.slice y.a y.n y.c] ?_
  intro w19 u19 e19 d19
  have k26 := k_split d19 (hy.ext (e11.trans (g17.ext.trans e19))) (by omega) (by first | omega | (simp; omega) | (refine Nat.le_trans (Nt.trim_len _) ?_; first | omega | (simp; omega)) | (refine Nat.le_trans (Nt.trim_len _) ?_; simp only [List.length_map]; refine Nat.le_trans (Nt.trim_len _) ?_; first | omega | (simp; omega)))
  with_reducible refine Post.mono k26 ?_
  clear k26
  rintro _ u24 g25 ⟨r20, y22, rfl, h21, h23⟩
  have hly22 : y22.n = (Nt.trimQ m).length := by have h9 := h23.len; simpa using h9
  refine sy_pure 23 (.v (.tuple #[r20.v, .slice y22.a y22.n y22.c])) ?_
  refine sy_pure 26 (.v (r20.v)) ?_
  refine sy_pure 27 (.v (.slice y22.a y22.n y22.c)) ?_
  refine sy_new 9 ⟨26, [.bool false, .slice none 0 0, .slice none 0 0]⟩ ?_
  refine sy_store ⟨26, r20.cs⟩ ty26 ?_
  refine sy_pure 10 (.v (.slice y22.a y22.n y22.c)) ?_
  refine sy_next 56 [(7, .adr 7 0), (8, .v (.slice y14.a y14.n y14.c)), (9, .adr 9 0), (10, .v (.slice y22.a y22.n y22.c))] [(7, ⟨26, r12.cs⟩), (9, ⟨26, r20.cs⟩)] ?_
  refine sw_seq ?_
  refine sw_seq ?_
  refine sw_reg ?_
  refine sy_pure 28 (.v (.slice y22.a y22.n y22.c)) ?_
  refine sy_pure 29 (.v (.int .i64 (y22.n : Int))) ?_
  refine sy_pure 30 (.v (.bool ((y22.n : Int) == 0))) ?_
  refine sy_next 56 [(7, .adr 7 0), (8, .v (.slice y14.a y14.n y14.c)), (9, .adr 9 0), (10, .v (.slice y22.a y22.n y22.c)), (30, .v (.bool ((y22.n : Int) == 0)))] [(7, ⟨26, r12.cs⟩), (9, ⟨26, r20.cs⟩)] ?_
  refine sw_cond (b := (y22.n : Int) == 0) (by kernel_rfl) (fun hb27 => ?_) (fun hb27 => ?_)
  · replace hb27 : ((y22.n : Int) == 0) = true := hb27
    have qhb27 : (y22.n : Int) = 0 := by simpa using hb27
    refine sw_seq ?_
    refine sw_reg ?_
    refine sy_pure 4 (.v (.slice none 0 0)) ?_
    refine sy_pure 5 (.v (.slice none 0 0)) ?_
    refine sy_pure 6 (.v (.int .i64 3)) ?_
    refine sy_next 56 [(4, .v (.slice none 0 0)), (5, .v (.slice none 0 0)), (6, .v (.int .i64 3))] [] ?_
    refine sw_ret (mpr_seq (ret0 [.slice none 0 0, .slice none 0 0, .int .i64 3] ⟨res_tmp, res_tmp, res_tmp, trivial⟩ fun u28 e29 => ?_))
    exact .inl ⟨rfl, List.eq_nil_of_length_eq_zero (by omega)⟩
  · replace hb27 : ((y22.n : Int) == 0) = false := hb27
    have qhb27 : ¬ ((y22.n : Int) = 0) := by simpa using hb27
    refine sw_skip (mp_seq ?_)
    refine sw_seq ?_
    have hm1 : Nt.trimQ m ≠ [] := by intro e; have h9 : (Nt.trimQ m).length = 0 := by { rw [e]; rfl }; omega
    have hm2 : 0 < (Nt.prim m).length := by rw [Nt.prim_len]; omega
    refine sw_reg ?_
    refine sy_pure 32 (.v (.slice y14.a y14.n y14.c)) ?_
    refine sy_pure 33 (.v (.slice y22.a y22.n y22.c)) ?_
    refine sy_call 34 116 [.slice y14.a y14.n y14.c, .slice y22.a y22.n y22.c] ?_
    intro w30 u30 e30 d30
    have k34 := k_divide (C := C) d30 (h15.ext (e19.trans (g25.ext.trans e30))) (h23.ext e30) hA hB (Nt.prim_nrm m) hm2 (Nat.le_trans (Nat.add_le_add_left (Nat.mul_le_mul_right _ (by simp; omega)) _) hC) hC9 (by first | omega | (simp; omega)) (by first | omega | (simp; omega))
    with_reducible refine Post.mono k34 ?_
    clear k34
    rintro _ u32 g33 ⟨y31, z31, r31, s31, t31, f31, rfl, ha31, hb31, hc31, hD31, hws31, hwt31⟩
    have hly31 := ha31.len
    have hlz31 := hb31.len
    have hlty31 := hD31.lt
    have htly31 := hD31.tl
    have hsly31 := hD31.sl
    try simp only [List.length_map, Nt.prim_len] at hlty31 htly31 hsly31
    refine sy_pure 31 (.v (.tuple #[.slice y31.a y31.n y31.c, .slice z31.a z31.n z31.c, r31.v])) ?_
    refine sy_pure 35 (.v (.slice y31.a y31.n y31.c)) ?_
    refine sy_pure 36 (.v (.slice z31.a z31.n z31.c)) ?_
    refine sy_pure 37 (.v (r31.v)) ?_
    refine sy_new 13 ⟨26, [.bool false, .slice none 0 0, .slice none 0 0]⟩ ?_
    refine sy_pure 11 (.v (.slice y31.a y31.n y31.c)) ?_
    refine sy_pure 12 (.v (.slice z31.a z31.n z31.c)) ?_
    refine sy_store ⟨26, r31.cs⟩ ty26 ?_
    refine sy_next 56 [(7, .adr 7 0), (9, .adr 9 0), (11, .v (.slice y31.a y31.n y31.c)), (12, .v (.slice z31.a z31.n z31.c)), (13, .adr 13 0)] [(7, ⟨26, r12.cs⟩), (9, ⟨26, r20.cs⟩), (13, ⟨26, r31.cs⟩)] ?_
    refine sw_seq ?_
    refine sw_reg ?_
    refine sy_ldv 39 (.v (r12.v)) ty26 part_agg ?_
    refine sy_ldv 40 (.v (r31.v)) ty26 part_agg ?_
    refine sy_call 41 99 [r12.v, r31.v] ?_
    intro w35 u35 e35 d35
    have k40 := k_ratDiv1 d35 (h13.ext (e19.trans (g25.ext.trans (e30.trans (g33.ext.trans e35))))).raw (hc31.ext e35).raw hD31.f0 (by omega) (by omega)
    with_reducible refine Post.mono k40 ?_
    clear k40
    rintro _ u38 g39 ⟨r36, rfl, h37⟩
    refine sy_pure 38 (.v (.tuple #[r36.v, .int .i64 0])) ?_
    refine sy_pure 42 (.v (r36.v)) ?_
    refine sy_pure 43 (.v (.int .i64 0)) ?_
    refine sy_new 14 ⟨26, [.bool false, .slice none 0 0, .slice none 0 0]⟩ ?_
    refine sy_store ⟨26, r36.cs⟩ ty26 ?_
    refine sy_pure 15 (.v (.int .i64 0)) ?_
    refine sy_next 56 [(9, .adr 9 0), (11, .v (.slice y31.a y31.n y31.c)), (12, .v (.slice z31.a z31.n z31.c)), (14, .adr 14 0)] [(9, ⟨26, r20.cs⟩), (14, ⟨26, r36.cs⟩)] ?_
    refine sw_seq ?_
    refine sw_reg ?_
    refine sy_ldv 45 (.v (r36.v)) ty26 part_agg ?_
    refine sy_ldv 46 (.v (r20.v)) ty26 part_agg ?_
    refine sy_call 47 99 [r36.v, r20.v] ?_
    intro w41 u41 e41 d41
    have k46 := k_ratDiv1 d41 (h37.ext e41).raw (h21.ext (e30.trans (g33.ext.trans (e35.trans (g39.ext.trans e41))))).raw (Nt.msr_ne' hm1) (by omega) (by omega)
    with_reducible refine Post.mono k46 ?_
    clear k46
    rintro _ u44 g45 ⟨r42, rfl, h43⟩
    refine sy_pure 44 (.v (.tuple #[r42.v, .int .i64 0])) ?_
    refine sy_pure 48 (.v (r42.v)) ?_
    refine sy_pure 49 (.v (.int .i64 0)) ?_
    refine sy_new 16 ⟨26, [.bool false, .slice none 0 0, .slice none 0 0]⟩ ?_
    refine sy_store ⟨26, r42.cs⟩ ty26 ?_
    refine sy_pure 17 (.v (.int .i64 0)) ?_
    refine sy_next 56 [(11, .v (.slice y31.a y31.n y31.c)), (12, .v (.slice z31.a z31.n z31.c)), (14, .adr 14 0), (16, .adr 16 0)] [(14, ⟨26, r36.cs⟩), (16, ⟨26, r42.cs⟩)] ?_
    refine sw_seq ?_
    refine sw_any [0, 0, 3, 0, 0, 31, 63, 127, 255] [(0, []), (1, []), (3, []), (4, []), (2, []), (5, []), (6, []), (7, []), (8, [])] (by kernel_rfl) (by kernel_rfl) ?_
    refine sy_pure 50 (.v (.slice y31.a y31.n y31.c)) ?_
    refine sy_ldv 51 (.v (r42.v)) ty26 part_agg ?_
    refine sy_pure 53 (.v (.slice z31.a z31.n z31.c)) ?_
    refine sy_ldv 54 (.v (r36.v)) ty26 part_agg ?_
    refine sy_call 52 97 [.slice y31.a y31.n y31.c, r42.v] ?_
    intro w47 u47 e47 d47
    have k52 := k_poScale d47 (ha31.ext (e35.trans (g39.ext.trans (e41.trans (g45.ext.trans e47))))).raw (h43.ext e47).raw (by omega) (by first | omega | (simp; omega) | (refine Nat.le_trans (Nt.trim_len _) ?_; first | omega | (simp; omega)) | (refine Nat.le_trans (Nt.trim_len _) ?_; simp only [List.length_map]; refine Nat.le_trans (Nt.trim_len _) ?_; first | omega | (simp; omega))) (by omega)
    with_reducible refine Post.mono k52 ?_
    clear k52
    rintro _ u50 g51 ⟨y48, rfl, h49⟩
    have hly48 := h49.len
    refine sy_call 55 97 [.slice z31.a z31.n z31.c, r36.v] ?_
    intro w53 u53 e53 d53
    have k58 := k_poScale d53 (hb31.ext (e35.trans (g39.ext.trans (e41.trans (g45.ext.trans (e47.trans (g51.ext.trans e53))))))).raw (h37.ext (e41.trans (g45.ext.trans (e47.trans (g51.ext.trans e53))))).raw (by omega) (by first | omega | (simp; omega) | (refine Nat.le_trans (Nt.trim_len _) ?_; first | omega | (simp; omega)) | (refine Nat.le_trans (Nt.trim_len _) ?_; simp only [List.length_map]; refine Nat.le_trans (Nt.trim_len _) ?_; first | omega | (simp; omega))) (by omega)
    with_reducible refine Post.mono k58 ?_
    clear k58
    rintro _ u56 g57 ⟨y54, rfl, h55⟩
    have hly54 := h55.len
    refine sy_pure 4 (.v (.slice y48.a y48.n y48.c)) ?_
    refine sy_pure 5 (.v (.slice y54.a y54.n y54.c)) ?_
    refine sy_pure 6 (.v (.int .i64 0)) ?_
    refine sy_next 56 [(4, .v (.slice y48.a y48.n y48.c)), (5, .v (.slice y54.a y54.n y54.c)), (6, .v (.int .i64 0))] [] ?_
    refine sw_ret (ret0 [.slice y48.a y48.n y48.c, .slice y54.a y54.n y54.c, .int .i64 0] ⟨res_tmp, res_tmp, res_tmp, trivial⟩ fun u59 e60 => ?_)
    obtain ⟨e1, e2⟩ := Nt.divmod_parts (l := l) (m := m) hm1 hD31
    exact .inr ⟨hm1, y48, y54, _, _, rfl, PolN.more (K := ((Nt.dg C) + ((((Nt.trimQ l).length * K + 2) + (Nt.dg C)) + ((Nt.trimQ m).length * M + 2)))) (h49.ext (e53.trans (g57.ext.trans e60))) (by omega), PolN.more (K := ((Nt.dg C) + (((Nt.trimQ l).length * K + 2) + (Nt.dg C)))) (h55.ext e60) (by omega), e1, e2⟩
theorem k_poDivMod1 {u w : World} {x y : Sl} {l m : List Rat} {K M : Nat} (d : Dat u w) (hx : PolV u x l K) (hy : PolV u y m M) {a b C : Nat} (hm1 : Nt.trimQ m ≠ []) (hA : Nt.WhL (Nt.prim l) a) (hB : Nt.WhL (Nt.prim m) b) (hC : a + (l.length + 1) * (b + 1) ≤ C) (hC9 : C ≤ 600000000) (hK1 : (l.length + 1) * K ≤ 20000000) (hM1 : (m.length + 1) * M ≤ 20000000) (hS : Nt.dg C + ((l.length * K + 2) + Nt.dg C + (m.length * M + 2)) ≤ 40000000) (hx9 : l.length ≤ 1000000) (hy9 : m.length ≤ 1000000) :
    Calls Tryz.prog 27 #[x.v, y.v] w (Post u w fun v u' => ∃ (y1 y2 : Sl) (q r : Nt.Pol), v = .tuple #[y1.v, y2.v, .int .i64 0] ∧ PolN u' y1 q.l (Nt.dg C + ((l.length * K + 2) + Nt.dg C + (m.length * M + 2))) ∧ PolN u' y2 r.l (Nt.dg C + ((l.length * K + 2) + Nt.dg C + (m.length * M + 2))) ∧ Nt.Pol.mk' l = q * Nt.Pol.mk' m + r ∧ r.len < (Nt.Pol.mk' m).len) :=
  Post.mono (k_poDivMod d hx hy hA hB hC hC9 hK1 hM1 hS hx9 hy9) fun v u' _ h => (h.resolve_left (fun k => hm1 k.2)).2
set_option maxHeartbeats 2000000 in
theorem k_poGcd {u w : World} {x : Sl} {l : List Rat} {y : Sl} {m : List Rat} {K M : Nat} (d : Dat u w) (hx : PolV u x l K) (hy : PolV u y m M) {A H N : Nat} (hA : Nt.WhL (Nt.prim l) A) (hB : Nt.WhL (Nt.prim m) A) (hH : (A + 1) * (A + 1) * 3 ^ Nt.pot (Nt.trimQ l).length (Nt.trimQ m).length ≤ H * H) (hH9 : H ≤ 600000000) (hN1 : l.length ≤ N) (hN2 : m.length ≤ N) (hN : (N + 1) * Nt.dg H ≤ 19000000) (hK1 : (l.length + 1) * K ≤ 20000000) (hM1 : (m.length + 1) * M ≤ 20000000) (hN9 : N ≤ 1000000) : Calls Tryz.prog 30 #[x.v, y.v] w (Post u w fun v u' => ∃ (z : Sl) (g : Nt.Pol) (W : List Rat) (k : Rat), v = z.v ∧ PolN u' z g.l (2 * Nt.dg H + 2) ∧ Nt.Pol.IsGcd (Nt.Pol.mk' l) (Nt.Pol.mk' m) g ∧ k ≠ 0 ∧ (∀ i, Nt.co g.l i = k * Nt.co W i) ∧ Nt.WhL W H) := by
  have hlen := hx.len
  have hlen2 := hy.len
  have htl := Nt.trim_len l
  have htm := Nt.trim_len m
  have hdgH : Nt.dg H ≤ (N + 1) * Nt.dg H := Nat.le_mul_of_pos_left _ (by omega)
  have hAH : A ≤ H := by have h9 := Nt.pot_le hH; omega
  refine calls_sym (args := [.slice x.a x.n x.c, .slice y.a y.n y.c]) Tryz.func30 rfl Tryz.ntmps30 (rs := [.tmp 4]) Tryz.results30 (le_b rfl) (le_b rfl) d ?_
  refine sw_seq ?_
  refine sw_reg ?_
  refine sy_pure 4 (.v (.slice none 0 0)) ?_
  refine sy_next 41 [(0, .v (.slice x.a x.n x.c)), (1, .v (.slice y.a y.n y.c))] [] ?_
  refine sw_seq ?_
  refine sw_reg ?_
  refine sy_pure 13 (.v (.slice x.a x.n x.c)) ?_
  refine sy_call 14 115 [.slice x.a x.n x.c] ?_
  intro w11 u11 e11 d11
  have k18 := k_split d11 (hx.ext e11) (by omega) (by first | omega | (simp; omega) | (refine Nat.le_trans (Nt.trim_len _) ?_; first | omega | (simp; omega)) | (refine Nat.le_trans (Nt.trim_len _) ?_; simp only [List.length_map]; refine Nat.le_trans (Nt.trim_len _) ?_; first | omega | (simp; omega)))
  with_reducible refine Post.mono k18 ?_
  clear k18
  rintro _ u16 g17 ⟨r12, y14, rfl, h13, h15⟩
  have hly14 : y14.n = (Nt.trimQ l).length := by have h9 := h15.len; simpa using h9
  refine sy_pure 12 (.v (.tuple #[r12.v, .slice y14.a y14.n y14.c])) ?_
  refine sy_pure 15 (.v (r12.v)) ?_
  refine sy_pure 16 (.v (.slice y14.a y14.n y14.c)) ?_
  refine sy_new 5 ⟨26, [.bool false, .slice none 0 0, .slice none 0 0]⟩ ?_
  refine sy_store ⟨26, r12.cs⟩ ty26 ?_
  refine sy_pure 6 (.v (.slice y14.a y14.n y14.c)) ?_
  refine sy_next 41 [(1, .v (.slice y.a y.n y.c)), (6, .v (.slice y14.a y14.n y14.c))] [] ?_
  refine sw_seq ?_
  refine sw_reg ?_
  refine sy_pure 18 (.v (.slice y.a y.n y.c)) ?_
  refine sy_call 19 115 [.slice y.a y.n y.c] ?_
  intro w19 u19 e19 d19
  have k26 := k_split d19 (hy.ext (e11.trans (g17.ext.trans e19))) (by omega) (by first | omega | (simp; omega) | (refine Nat.le_trans (Nt.trim_len _) ?_; first | omega | (simp; omega)) | (refine Nat.le_trans (Nt.trim_len _) ?_; simp only [List.length_map]; refine Nat.le_trans (Nt.trim_len _) ?_; first | omega | (simp; omega)))
  with_reducible refine Post.mono k26 ?_
  clear k26
  rintro _ u24 g25 ⟨r20, y22, rfl, h21, h23⟩
  have hly22 : y22.n = (Nt.trimQ m).length := by have h9 := h23.len; simpa using h9
  refine sy_pure 17 (.v (.tuple #[r20.v, .slice y22.a y22.n y22.c])) ?_
  refine sy_pure 20 (.v (r20.v)) ?_
  refine sy_pure 21 (.v (.slice y22.a y22.n y22.c)) ?_
  refine sy_new 7 ⟨26, [.bool false, .slice none 0 0, .slice none 0 0]⟩ ?_
  refine sy_store ⟨26, r20.cs⟩ ty26 ?_
  refine sy_pure 8 (.v (.slice y22.a y22.n y22.c)) ?_
  refine sy_next 41 [(6, .v (.slice y14.a y14.n y14.c)), (8, .v (.slice y22.a y22.n y22.c))] [] ?_
  refine sw_seq ?_
  refine sw_block ?_
  refine sw_loop (I := fun m27 S' u' => ∃ (xa : Sl) (xb : Sl) (pa : List Rat) (pb : List Rat) (A9 : Nat), (m27 = pb.length) ∧ (pa.length ≤ N) ∧ (pb.length ≤ N) ∧ (Nt.Nrm pb) ∧ (Nt.WhL pa A9) ∧ (Nt.WhL pb A9) ∧ ((A9 + 1) * (A9 + 1) * 3 ^ Nt.pot pa.length pb.length ≤ H * H) ∧ (Nt.Pol.Same (Nt.Pol.mk' l) (Nt.Pol.mk' m) (Nt.Pol.mk' pa) (Nt.Pol.mk' pb)) ∧ (S' = St.of 41 [(6, .v (.slice xa.a xa.n xa.c)), (8, .v (.slice xb.a xb.n xb.c))] []) ∧ (Ext u24 u') ∧ (PolN u' xa pa (Nt.dg H)) ∧ (PolN u' xb pb (Nt.dg H))) (fun m S u1 u2 e h => by obtain ⟨xa, xb, pa, pb, A9, hm, p0, p1, p2, p3, p4, p5, p6, hS, hE, f0, f1⟩ := h; exact ⟨xa, xb, pa, pb, A9, hm, p0, p1, p2, p3, p4, p5, p6, hS, hE.trans e, f0.ext e, f1.ext e⟩) _ (T := St.of 41 [(6, .v (.slice y14.a y14.n y14.c)), (8, .v (.slice y22.a y22.n y22.c))] []) (by exact weak_mk _ _ _) ⟨y14, y22, (Nt.prim l), (Nt.prim m), A, rfl, (by rw [Nt.prim_len]; omega), (by rw [Nt.prim_len]; omega), (Nt.prim_nrm m), hA, hB, (by rw [Nt.prim_len, Nt.prim_len]; exact hH), (Nt.prim_same l m), rfl, Ext.refl _, (PolN.fitW (K := (K + ((Nt.trimQ l).length * K + 2))) (h15.ext (e19.trans g25.ext)) (hA.more hAH)), (PolN.fitW (K := (M + ((Nt.trimQ m).length * M + 2))) h23 (hB.more hAH))⟩ ?_
  rintro m27 _ u27 ⟨xa, xb, pa, pb, A9, hm27, hna, hnl, hnb, hWa, hWb, hP, hS, rfl, e27, hFa, hFb⟩
  have hla := hFa.len
  have hlb := hFb.len
  have hA9 := Nt.pot_le hP
  refine sw_seq ?_
  refine sw_seq ?_
  refine sw_reg ?_
  refine sy_pure 22 (.v (.slice xb.a xb.n xb.c)) ?_
  refine sy_pure 23 (.v (.int .i64 (xb.n : Int))) ?_
  refine sy_pure 24 (.v (.bool (decide ((0 : Int) < (xb.n : Int))))) ?_
  refine sy_next 41 [(6, .v (.slice xa.a xa.n xa.c)), (8, .v (.slice xb.a xb.n xb.c)), (24, .v (.bool (decide ((0 : Int) < (xb.n : Int)))))] [] ?_
  refine sw_cond (b := decide ((0 : Int) < (xb.n : Int))) (by kernel_rfl) (fun hb28 => ?_) (fun hb28 => ?_)
  · replace hb28 : (decide ((0 : Int) < (xb.n : Int))) = true := hb28
    have qhb28 := of_decide_eq_true hb28
    refine sw_skip (mp_seq ?_)
    refine sw_block ?_
    refine sw_seq ?_
    have hP0 := Nt.pot_step hP (lr := 0) (by omega) (by omega)
    obtain ⟨C9, hC9⟩ : ∃ C9, A9 + (pa.length - pb.length + 1) * (A9 + 1) = C9 := ⟨_, rfl⟩
    rw [hC9] at hP0
    have hCH := Nt.pot_le hP0
    have hCA : A9 ≤ C9 := by omega
    refine sw_reg ?_
    refine sy_pure 26 (.v (.slice xa.a xa.n xa.c)) ?_
    refine sy_pure 27 (.v (.slice xb.a xb.n xb.c)) ?_
    refine sy_call 28 116 [.slice xa.a xa.n xa.c, .slice xb.a xb.n xb.c] ?_
    intro w29 u29 e29 d29
    have k33 := k_divide (C := C9) d29 (hFa.ext e29) (hFb.ext e29) hWa hWb hnb (by omega) (Nat.le_of_eq hC9) (by omega) (by first | omega | (simp; omega)) (by first | omega | (simp; omega))
    with_reducible refine Post.mono k33 ?_
    clear k33
    rintro _ u31 g32 ⟨y30, z30, r30, s30, t30, f30, rfl, ha30, hb30, hc30, hD30, hws30, hwt30⟩
    have hly30 := ha30.len
    have hlz30 := hb30.len
    have hlty30 := hD30.lt
    have htly30 := hD30.tl
    have hsly30 := hD30.sl
    try simp only [List.length_map, Nt.prim_len] at hlty30 htly30 hsly30
    refine sy_pure 25 (.v (.tuple #[.slice y30.a y30.n y30.c, .slice z30.a z30.n z30.c, r30.v])) ?_
    refine sy_pure 29 (.v (.slice y30.a y30.n y30.c)) ?_
    refine sy_pure 30 (.v (.slice z30.a z30.n z30.c)) ?_
    refine sy_pure 31 (.v (r30.v)) ?_
    refine sy_new 11 ⟨26, [.bool false, .slice none 0 0, .slice none 0 0]⟩ ?_
    refine sy_pure 9 (.v (.slice y30.a y30.n y30.c)) ?_
    refine sy_pure 10 (.v (.slice z30.a z30.n z30.c)) ?_
    refine sy_store ⟨26, r30.cs⟩ ty26 ?_
    refine sy_next 41 [(8, .v (.slice xb.a xb.n xb.c)), (10, .v (.slice z30.a z30.n z30.c))] [] ?_
    refine sw_seq ?_
    refine sw_reg ?_
    refine sy_pure 33 (.v (.slice z30.a z30.n z30.c)) ?_
    refine sy_call 34 115 [.slice z30.a z30.n z30.c] ?_
    intro w34 u34 e34 d34
    have k41 := k_split d34 (hb30.ext e34).raw (Nat.le_trans (Nat.mul_le_mul (show t30.length + 1 ≤ N + 1 by omega) (Nt.dg_mono (show C9 ≤ H by omega))) (by omega)) (by first | omega | (simp; omega) | (refine Nat.le_trans (Nt.trim_len _) ?_; first | omega | (simp; omega)) | (refine Nat.le_trans (Nt.trim_len _) ?_; simp only [List.length_map]; refine Nat.le_trans (Nt.trim_len _) ?_; first | omega | (simp; omega)))
    with_reducible refine Post.mono k41 ?_
    clear k41
    rintro _ u39 g40 ⟨r35, y37, rfl, h36, h38⟩
    have hly37 : y37.n = (Nt.trimQ t30).length := by have h9 := h38.len; simpa using h9
    refine sy_pure 32 (.v (.tuple #[r35.v, .slice y37.a y37.n y37.c])) ?_
    refine sy_pure 35 (.v (r35.v)) ?_
    refine sy_pure 36 (.v (.slice y37.a y37.n y37.c)) ?_
    refine sy_pure 10 (.v (.slice y37.a y37.n y37.c)) ?_
    refine sy_next 41 [(8, .v (.slice xb.a xb.n xb.c)), (10, .v (.slice y37.a y37.n y37.c))] [] ?_
    refine sw_reg ?_
    refine sy_pure 37 (.v (.slice xb.a xb.n xb.c)) ?_
    refine sy_pure 38 (.v (.slice y37.a y37.n y37.c)) ?_
    refine sy_pure 6 (.v (.slice xb.a xb.n xb.c)) ?_
    refine sy_pure 8 (.v (.slice y37.a y37.n y37.c)) ?_
    refine sy_end ?_
    have hpt : (Nt.prim t30).length ≤ t30.length := by rw [Nt.prim_len]; exact Nt.trim_len _
    have hP9 := Nt.pot_step hP (lr := (Nt.prim t30).length) (by omega) (by omega)
    rw [hC9] at hP9
    refine ⟨_, ?_, St.of 41 [(6, .v (.slice xb.a xb.n xb.c)), (8, .v (.slice y37.a y37.n y37.c))] [], by exact weak_mk _ _ _, xb, y37, pb, (Nt.prim t30), C9, rfl, by omega, by omega, (Nt.prim_nrm _), (hWb.more hCA), (Nt.prim_of_wh hwt30), hP9, (Nt.same_step hS hD30), rfl, (e27.trans (e29.trans (g32.ext.trans (e34.trans g40.ext)))), (hFb.ext (e29.trans (g32.ext.trans (e34.trans g40.ext)))), (PolN.fitW (K := ((Nt.dg C9) + ((Nt.trimQ t30).length * (Nt.dg C9) + 2))) h38 ((Nt.prim_of_wh hwt30).more (by omega)))⟩
    omega
  · replace hb28 : (decide ((0 : Int) < (xb.n : Int))) = false := hb28
    have qhb28 := of_decide_eq_false hb28
    refine sw_exit ?_
    refine mp_seq ?_
    refine sw_seq ?_
    refine sw_reg ?_
    refine sy_pure 39 (.v (.slice xa.a xa.n xa.c)) ?_
    refine sy_call 40 32 [.slice xa.a xa.n xa.c] ?_
    intro w42 u42 e42 d42
    have k47 := k_poMonic d42 (hFa.ext e42).raw (by omega) (by first | omega | (simp; omega) | (refine Nat.le_trans (Nt.trim_len _) ?_; first | omega | (simp; omega)) | (refine Nat.le_trans (Nt.trim_len _) ?_; simp only [List.length_map]; refine Nat.le_trans (Nt.trim_len _) ?_; first | omega | (simp; omega)))
    with_reducible refine Post.mono k47 ?_
    clear k47
    rintro _ u45 g46 ⟨y43, rfl, h44⟩
    have hly43 := h44.len
    refine sy_pure 4 (.v (.slice y43.a y43.n y43.c)) ?_
    refine sy_next 41 [(4, .v (.slice y43.a y43.n y43.c))] [] ?_
    refine sw_ret (ret0 [.slice y43.a y43.n y43.c] ⟨res_tmp, trivial⟩ fun u48 e49 => ?_)
    have hb0 : pb.length = 0 := by omega
    have hS9 := hS
    rw [Nt.mk_nil hb0] at hS9
    obtain ⟨k, hk0, hk⟩ := Nt.monic_scaled pa
    exact ⟨y43, _, pa, k, rfl, (h44.ext e49), hS9.gcd, hk0, hk, hWa.more (by omega)⟩
set_option maxHeartbeats 2000000 in
theorem k_poSquarefree {u w : World} {x : Sl} {l : List Rat} {K : Nat} (d : Dat u w) (hx : PolV u x l K) {A H N C : Nat} (hA : Nt.WhL (Nt.prim l) A) (hB : Nt.WhL (Nt.prim (Nt.trimQ (Nt.derQ l))) A) (hH : (A + 1) * (A + 1) * 3 ^ (2 * (l.length - 1) + 1) ≤ H * H) (hH9 : H ≤ 600000000) (hN1 : l.length ≤ N) (hN : (N + 1) * Nt.dg H ≤ 8000000) (hC : A + (l.length + 1) * (H + 1) ≤ C) (hC9 : C ≤ 600000000) (hK1 : (l.length + 1) * (K + 2) ≤ 20000000) (hS : (Nt.dg C + ((l.length * K + 2) + Nt.dg C + (N * (2 * Nt.dg H + 2) + 2))) ≤ 40000000) (hN9 : N ≤ 1000000) : Calls Tryz.prog 36 #[x.v] w (Post u w fun v u' => ∃ (z : Sl) (s : Nt.Pol), v = z.v ∧ PolN u' z s.l (2 * (Nt.dg C + ((l.length * K + 2) + Nt.dg C + (N * (2 * Nt.dg H + 2) + 2))) + 2) ∧ Nt.IsSqf (Nt.Pol.mk' l) s) := by
  have hlen := hx.len
  have hK2 := hK1
  rw [Nat.add_mul] at hK2
  have hNN : (N + 1) * (2 * Nt.dg H + 2) = 2 * ((N + 1) * Nt.dg H) + 2 * (N + 1) := by rw [Nat.mul_add, Nat.mul_left_comm, Nat.mul_comm (N + 1) 2]
  have hdr : (Nt.trimQ (Nt.derQ l)).length ≤ l.length := by have h9 := Nt.trim_len (Nt.derQ l); rw [Nt.derQ_len] at h9; omega
  have hKl : (l.length + 1) * K ≤ (l.length + 1) * (K + 2) := Nat.mul_le_mul_left _ (Nat.le_add_right K 2)
  refine calls_sym (args := [.slice x.a x.n x.c]) Tryz.func36 rfl Tryz.ntmps36 (rs := [.tmp 2]) Tryz.results36 (le_b rfl) (le_b rfl) d ?_
  refine sw_seq ?_
  refine sw_reg ?_
  refine sy_pure 2 (.v (.slice none 0 0)) ?_
  refine sy_next 23 [(0, .v (.slice x.a x.n x.c))] [] ?_
  refine sw_seq ?_
  refine sw_reg ?_
  refine sy_pure 7 (.v (.slice x.a x.n x.c)) ?_
  refine sy_pure 8 (.v (.slice x.a x.n x.c)) ?_
  refine sy_call 9 34 [.slice x.a x.n x.c] ?_
  intro w11 u11 e11 d11
  have k16 := k_poDerivative d11 (hx.ext e11) (by omega) (by first | omega | (simp; omega) | (refine Nat.le_trans (Nt.trim_len _) ?_; first | omega | (simp; omega)) | (refine Nat.le_trans (Nt.trim_len _) ?_; simp only [List.length_map]; refine Nat.le_trans (Nt.trim_len _) ?_; first | omega | (simp; omega)))
  with_reducible refine Post.mono k16 ?_
  clear k16
  rintro _ u14 g15 ⟨y12, rfl, h13⟩
  have hly12 := h13.len
  refine sy_call 10 30 [.slice x.a x.n x.c, .slice y12.a y12.n y12.c] ?_
  intro w17 u17 e17 d17
  have k21 := k_poGcd (H := H) d17 (hx.ext (e11.trans (g15.ext.trans e17))) (h13.ext e17).raw hA hB (Nt.pot_der hH) hH9 (by omega) (by first | omega | (simp; omega) | (refine Nat.le_trans (Nt.trim_len _) ?_; first | omega | (simp; omega)) | (refine Nat.le_trans (Nt.trim_len _) ?_; simp only [List.length_map]; refine Nat.le_trans (Nt.trim_len _) ?_; first | omega | (simp; omega))) (by omega) (by omega) (Nat.le_trans (Nat.mul_le_mul_right _ (show (Nt.trimQ (Nt.derQ l)).length + 1 ≤ l.length + 1 by have h9 := Nt.trim_len (Nt.derQ l); rw [Nt.derQ_len] at h9; omega)) hK1) hN9
  with_reducible refine Post.mono k21 ?_
  clear k21
  rintro _ u19 g20 ⟨z18, g18, W18, k18, rfl, hz18, hg18, hk18, hW18, hw18⟩
  have hlz18 := hz18.len
  refine sy_pure 3 (.v (.slice z18.a z18.n z18.c)) ?_
  refine sy_next 23 [(0, .v (.slice x.a x.n x.c)), (3, .v (.slice z18.a z18.n z18.c))] [] ?_
  refine sw_seq ?_
  refine sw_seq ?_
  refine sw_reg ?_
  refine sy_pure 11 (.v (.slice z18.a z18.n z18.c)) ?_
  refine sy_pure 12 (.v (.int .i64 (z18.n : Int))) ?_
  refine sy_pure 13 (.v (.bool ((z18.n : Int) == 0))) ?_
  refine sy_next 23 [(0, .v (.slice x.a x.n x.c)), (3, .v (.slice z18.a z18.n z18.c)), (13, .v (.bool ((z18.n : Int) == 0)))] [] ?_
  refine sw_cond (b := (z18.n : Int) == 0) (by kernel_rfl) (fun hb22 => ?_) (fun hb22 => ?_)
  · replace hb22 : ((z18.n : Int) == 0) = true := hb22
    have qhb22 : (z18.n : Int) = 0 := by simpa using hb22
    refine sw_seq ?_
    refine sw_reg ?_
    refine sy_pure 2 (.v (.slice none 0 0)) ?_
    refine sy_next 23 [(2, .v (.slice none 0 0))] [] ?_
    refine sw_ret (mpr_seq (ret0 [.slice none 0 0] ⟨res_tmp, trivial⟩ fun u23 e24 => ?_))
    have hg0 : g18 = 0 := Nt.Pol.zero_of_len (by show g18.l.length = 0; omega)
    have hp0 : Nt.Pol.mk' l = 0 := by obtain ⟨u1, e1⟩ := hg18.l; rw [e1, hg0, Nt.Pol.zero_mul]
    exact ⟨⟨none, 0, 0⟩, 0, rfl, by rw [Nt.Pol.zero_l]; exact pol_nil _ _, .inl ⟨hp0, rfl⟩⟩
  · replace hb22 : ((z18.n : Int) == 0) = false := hb22
    have qhb22 : ¬ ((z18.n : Int) = 0) := by simpa using hb22
    refine sw_skip (mp_seq ?_)
    refine sw_seq ?_
    have hgn : g18 ≠ 0 := Nt.Pol.ne_of_len (by show 0 < g18.l.length; omega)
    have hp0 : Nt.Pol.mk' l ≠ 0 := by intro e; obtain ⟨u1, v1, e1⟩ := hg18.s; apply hgn; rw [e1, Nt.mk_trim, Nt.Pol.mk_D, e, Nt.Pol.D_zero, Nt.Pol.mul_zero, Nt.Pol.mul_zero, Nt.Pol.add_zero]
    have hgl : g18.l.length ≤ N := by have h9 := Nt.len_dvd hg18.l hp0; have h8 := Nt.mk_len l; change g18.l.length ≤ _ at h9; omega
    have hgt : Nt.trimQ g18.l ≠ [] := by intro e; have h9 : (Nt.trimQ g18.l).length = 0 := by { rw [e]; rfl }; rw [g18.h] at h9; omega
    have hgm : (g18.l.length + 1) * (2 * Nt.dg H + 2) ≤ (N + 1) * (2 * Nt.dg H + 2) := Nat.mul_le_mul_right _ (by omega)
    have hgm2 : g18.l.length * (2 * Nt.dg H + 2) ≤ N * (2 * Nt.dg H + 2) := Nat.mul_le_mul_right _ hgl
    refine sw_reg ?_
    refine sy_pure 15 (.v (.slice x.a x.n x.c)) ?_
    refine sy_pure 16 (.v (.slice z18.a z18.n z18.c)) ?_
    refine sy_call 17 27 [.slice x.a x.n x.c, .slice z18.a z18.n z18.c] ?_
    intro w25 u25 e25 d25
    have k29 := k_poDivMod1 (C := C) d25 (hx.ext (e11.trans (g15.ext.trans (e17.trans (g20.ext.trans e25))))) (hz18.ext e25).raw hgt hA (Nt.prim_bits hk18 hW18 hw18) hC hC9 (Nat.le_trans (Nat.mul_le_mul_left _ (Nat.le_add_right K 2)) hK1) (Nat.le_trans hgm (by rw [hNN]; omega)) (by omega) (by omega) (by omega)
    with_reducible refine Post.mono k29 ?_
    clear k29
    rintro _ u27 g28 ⟨y26, z26, q26, r26, rfl, ha26, hb26, eq26, el26⟩
    have hly26 := ha26.len
    have hlz26 := hb26.len
    have hlly26 := Nt.div_lenL eq26 el26
    refine sy_pure 14 (.v (.tuple #[.slice y26.a y26.n y26.c, .slice z26.a z26.n z26.c, .int .i64 0])) ?_
    refine sy_pure 18 (.v (.slice y26.a y26.n y26.c)) ?_
    refine sy_pure 19 (.v (.slice z26.a z26.n z26.c)) ?_
    refine sy_pure 20 (.v (.int .i64 0)) ?_
    refine sy_pure 4 (.v (.slice y26.a y26.n y26.c)) ?_
    refine sy_pure 5 (.v (.slice z26.a z26.n z26.c)) ?_
    refine sy_pure 6 (.v (.int .i64 0)) ?_
    refine sy_next 23 [(4, .v (.slice y26.a y26.n y26.c))] [] ?_
    refine sw_seq ?_
    refine sw_reg ?_
    refine sy_pure 21 (.v (.slice y26.a y26.n y26.c)) ?_
    refine sy_call 22 32 [.slice y26.a y26.n y26.c] ?_
    intro w30 u30 e30 d30
    have k35 := k_poMonic d30 (ha26.ext e30).raw (by omega) (by first | omega | (simp; omega) | (refine Nat.le_trans (Nt.trim_len _) ?_; first | omega | (simp; omega)) | (refine Nat.le_trans (Nt.trim_len _) ?_; simp only [List.length_map]; refine Nat.le_trans (Nt.trim_len _) ?_; first | omega | (simp; omega)))
    with_reducible refine Post.mono k35 ?_
    clear k35
    rintro _ u33 g34 ⟨y31, rfl, h32⟩
    have hly31 := h32.len
    refine sy_pure 2 (.v (.slice y31.a y31.n y31.c)) ?_
    refine sy_next 23 [(2, .v (.slice y31.a y31.n y31.c))] [] ?_
    refine sw_ret (ret0 [.slice y31.a y31.n y31.c] ⟨res_tmp, trivial⟩ fun u36 e37 => ?_)
    rw [Nt.Pol.mk_l] at eq26 el26
    obtain ⟨er, ep⟩ := Nt.div_exact eq26 el26 hg18.l
    refine ⟨y31, _, rfl, PolN.more (K := (2 * (Nt.dg C + ((l.length * K + 2) + Nt.dg C + (g18.l.length * (2 * Nt.dg H + 2) + 2))) + 2)) (h32.ext e37) (by omega), .inr ⟨hp0, g18, q26, ?_, hgn, ep, by rw [Nt.Pol.mk_l]⟩⟩
    rw [← Nt.Pol.mk_D, ← Nt.mk_trim (Nt.derQ l)]
    exact hg18
end Go.Proofs.YtnedhbidmfoegaaGreat
namespace Go.Proofs.YtnedhbidmfoegaaGreat
open Go.RowKit
set_option linter.unusedVariables false
set_option maxHeartbeats 1000000 in
theorem k_sameList {u w : World} {x : Sl} {l : List Rat} {y : Sl} {m : List Rat} {K M : Nat} (d : Dat u w) (hx : PolN u x l K) (hy : PolN u y m M) (hx9 : l.length ≤ 1000000000) (hy9 : m.length ≤ 1000000000) : Calls Tryz.prog 117 #[x.v, y.v] w (Post u w fun v u' => v = .bool (decide (l = m))) := by
  have hlen := hx.len
  have hlen2 := hy.len
  refine calls_sym (args := [.slice x.a x.n x.c, .slice y.a y.n y.c]) Tryz.func117 rfl Tryz.ntmps117 (rs := [.tmp 4]) Tryz.results117 (le_b rfl) (le_b rfl) d ?_
  refine sw_seq ?_
  refine sw_reg ?_
  refine sy_pure 4 (.v (.bool false)) ?_
  refine sy_next 27 [(0, .v (.slice x.a x.n x.c)), (1, .v (.slice y.a y.n y.c))] [] ?_
  refine sw_seq ?_
  refine sw_seq ?_
  refine sw_reg ?_
  refine sy_pure 6 (.v (.slice x.a x.n x.c)) ?_
  refine sy_pure 7 (.v (.int .i64 (x.n : Int))) ?_
  refine sy_pure 8 (.v (.slice y.a y.n y.c)) ?_
  refine sy_pure 9 (.v (.int .i64 (y.n : Int))) ?_
  refine sy_pure 10 (.v (.bool ((x.n : Int) != (y.n : Int)))) ?_
  refine sy_next 27 [(0, .v (.slice x.a x.n x.c)), (1, .v (.slice y.a y.n y.c)), (10, .v (.bool ((x.n : Int) != (y.n : Int))))] [] ?_
  refine sw_cond (b := (x.n : Int) != (y.n : Int)) (by kernel_rfl) (fun hb11 => ?_) (fun hb11 => ?_)
  · replace hb11 : ((x.n : Int) != (y.n : Int)) = true := hb11
    refine sw_seq ?_
    refine sw_reg ?_
    refine sy_pure 4 (.v (.bool false)) ?_
    refine sy_next 27 [(4, .v (.bool false))] [] ?_
    refine sw_ret (mpr_seq (ret0 [.bool false] ⟨res_tmp, trivial⟩ fun u12 e13 => ?_))
    have e9 : l ≠ m := by intro e; have h9 := congrArg List.length e; have h8 := hb11; simp at h8; omega
    show Value.bool false = Value.bool _
    rw [decide_eq_false e9]
  · replace hb11 : ((x.n : Int) != (y.n : Int)) = false := hb11
    have hnn : x.n = y.n := by have h9 : (x.n : Int) = (y.n : Int) := (by simpa using hb11); omega
    refine sw_skip (mp_seq ?_)
    refine sw_seq ?_
    refine sw_seq ?_
    refine sw_reg ?_
    refine sy_pure 5 (.v (.int .i64 0)) ?_
    refine sy_next 27 [(0, .v (.slice x.a x.n x.c)), (1, .v (.slice y.a y.n y.c)), (5, .v (.int .i64 0))] [] ?_
    refine sw_block ?_
    refine sw_loop (I := fun m14 S' u' => ∃ (i : Nat), (m14 = x.n - i) ∧ (i ≤ x.n) ∧ (∀ j, j < i → l.getD j 0 = m.getD j 0) ∧ (S' = St.of 27 [(0, .v (.slice x.a x.n x.c)), (1, .v (.slice y.a y.n y.c)), (5, .v (.int .i64 (i : Int)))] []) ∧ (Ext u u')) (fun m S u1 u2 e h => by obtain ⟨i, hm, p0, p1, hS, hE⟩ := h; exact ⟨i, hm, p0, p1, hS, hE.trans e⟩) _ (T := St.of 27 [(0, .v (.slice x.a x.n x.c)), (1, .v (.slice y.a y.n y.c)), (5, .v (.int .i64 0))] []) (by exact weak_mk _ _ _) ⟨0, rfl, by omega, fun j hj => by omega, rfl, Ext.refl _⟩ ?_
    rintro m14 _ u14 ⟨i, hm14, hi, hz, rfl, e14⟩
    refine sw_seq ?_
    refine sw_seq ?_
    refine sw_reg ?_
    refine sy_pure 11 (.v (.int .i64 (i : Int))) ?_
    refine sy_pure 12 (.v (.slice x.a x.n x.c)) ?_
    refine sy_pure 13 (.v (.int .i64 (x.n : Int))) ?_
    refine sy_pure 14 (.v (.bool (decide ((i : Int) < (x.n : Int))))) ?_
    refine sy_next 27 [(0, .v (.slice x.a x.n x.c)), (1, .v (.slice y.a y.n y.c)), (5, .v (.int .i64 (i : Int))), (14, .v (.bool (decide ((i : Int) < (x.n : Int)))))] [] ?_
    refine sw_cond (b := decide ((i : Int) < (x.n : Int))) (by kernel_rfl) (fun hb15 => ?_) (fun hb15 => ?_)
    · replace hb15 : (decide ((i : Int) < (x.n : Int))) = true := hb15
      have qhb15 := of_decide_eq_true hb15
      refine sw_skip (mp_seq ?_)
      refine sw_seq ?_
      refine sw_block ?_
      refine sw_seq ?_
      refine sw_any [0, 0, 3, 7, 0, 0, 48, 112, 255, 511] [(0, []), (1, []), (2, []), (3, []), (4, []), (5, []), (6, []), (7, []), (8, []), (9, [])] (by kernel_rfl) (by kernel_rfl) ?_
      refine sy_pure 17 (.v (.slice x.a x.n x.c)) ?_
      refine sy_pure 18 (.v (.int .i64 (i : Int))) ?_
      have hl16 := (hx.ext e14).len
      obtain ⟨r16, b16, o16, hA16, hc16, hr16⟩ := pol_atN (hx.ext e14) (i := i) (by omega)
      refine sy_index 19 (o16 + i * 3) (n := x.n) (off := o16) (sz := 3) (i := (i : Int)) (by omega) hA16 (by omega) (by omega) sl40 ?_
      refine sy_ldn 20 r16.cs hc16 ty26 ?_
      refine sy_pure 21 (.v (.slice y.a y.n y.c)) ?_
      refine sy_pure 22 (.v (.int .i64 (i : Int))) ?_
      have hl17 := (hy.ext e14).len
      obtain ⟨r17, b17, o17, hA17, hc17, hr17⟩ := pol_atN (hy.ext e14) (i := i) (by omega)
      refine sy_index 23 (o17 + i * 3) (n := y.n) (off := o17) (sz := 3) (i := (i : Int)) (by omega) hA17 (by omega) (by omega) sl40 ?_
      refine sy_ldn 24 r17.cs hc17 ty26 ?_
      refine sy_call 25 71 [r16.v, r17.v] ?_
      intro w18 u18 e18 d18
      have k21 := k_rqSame d18 (hr16.ext e18) (hr17.ext e18)
      with_reducible refine Post.mono k21 ?_
      clear k21
      rintro _ u19 g20 rfl
      refine sy_pure 26 (.v (.bool (!(decide ((l.getD i 0) = (m.getD i 0)))))) ?_
      refine sy_next 27 [(0, .v (.slice x.a x.n x.c)), (1, .v (.slice y.a y.n y.c)), (5, .v (.int .i64 (i : Int))), (26, .v (.bool (!(decide ((l.getD i 0) = (m.getD i 0))))))] [] ?_
      refine sw_cond (b := !(decide ((l.getD i 0) = (m.getD i 0)))) (by kernel_rfl) (fun hb22 => ?_) (fun hb22 => ?_)
      · replace hb22 : (!(decide ((l.getD i 0) = (m.getD i 0)))) = true := hb22
        refine sw_seq ?_
        refine sw_reg ?_
        refine sy_pure 4 (.v (.bool false)) ?_
        refine sy_next 27 [(4, .v (.bool false))] [] ?_
        refine sw_ret (mpr_block (mpr_seq (mpr_loop (mpr_block (mpr_seq (ret0 [.bool false] ⟨res_tmp, trivial⟩ fun u23 e24 => ?_))))))
        have e9 : l ≠ m := by intro e; have h9 := hb22; rw [e] at h9; simp at h9
        show Value.bool false = Value.bool _
        rw [decide_eq_false e9]
      · replace hb22 : (!(decide ((l.getD i 0) = (m.getD i 0)))) = false := hb22
        refine sw_skip (mp_seq ?_)
        refine sw_reg ?_
        refine sy_pure 15 (.v (.int .i64 (i : Int))) ?_
        refine sy_eq 16 (x := .v (.int .i64 (IntKind.i64.wrap ((i : Int) + 1)))) (.v (.int .i64 ((i + 1 : Nat) : Int))) (eqI (by rw [IntWalk.i64_in _ (by omega)]; omega)) ?_
        refine sy_pure 5 (.v (.int .i64 ((i + 1 : Nat) : Int))) ?_
        refine sy_end ?_
        refine ⟨_, ?_, St.of 27 [(0, .v (.slice x.a x.n x.c)), (1, .v (.slice y.a y.n y.c)), (5, .v (.int .i64 ((i + 1 : Nat) : Int)))] [], by exact weak_mk _ _ _, i + 1, rfl, by omega, (fun j hj => by by_cases e : j = i; (rw [e]; have h9 := hb22; simpa using h9); exact hz j (by omega)), rfl, (e14.trans (e18.trans g20.ext))⟩
        omega
    · replace hb15 : (decide ((i : Int) < (x.n : Int))) = false := hb15
      have qhb15 := of_decide_eq_false hb15
      refine sw_exit ?_
      refine mp_seq ?_
      refine sw_seq ?_
      refine sw_reg ?_
      refine sy_pure 4 (.v (.bool true)) ?_
      refine sy_next 27 [(4, .v (.bool true))] [] ?_
      refine sw_ret (ret0 [.bool true] ⟨res_tmp, trivial⟩ fun u25 e26 => ?_)
      have e9 : l = m := Nt.list_ext (by omega) (fun j => by by_cases hj : j < i; exact hz j hj; rw [Nt.co_ge (by omega), Nt.co_ge (by omega)])
      show Value.bool true = Value.bool _
      rw [decide_eq_true e9]
theorem k_r5Equal {u w : World} {x : Sl} {l : List Rat} {y : Sl} {m : List Rat} {K M : Nat} (d : Dat u w) (hx : PolN u x l K) (hy : PolN u y m M) (hx9 : l.length ≤ 1000000000) (hy9 : m.length ≤ 1000000000) : Calls Tryz.prog 29 #[x.v, y.v] w (Post u w fun v u' => v = .bool (decide (l = m))) := by
  have hlen := hx.len
  have hlen2 := hy.len
  refine calls_sym (args := [.slice x.a x.n x.c, .slice y.a y.n y.c]) Tryz.func29 rfl Tryz.ntmps29 (rs := [.tmp 4]) Tryz.results29 (le_b rfl) (le_b rfl) d ?_
  refine sw_seq ?_
  refine sw_reg ?_
  refine sy_pure 4 (.v (.bool false)) ?_
  refine sy_next 8 [(0, .v (.slice x.a x.n x.c)), (1, .v (.slice y.a y.n y.c))] [] ?_
  refine sw_seq ?_
  refine sw_reg ?_
  refine sy_pure 5 (.v (.slice x.a x.n x.c)) ?_
  refine sy_pure 6 (.v (.slice y.a y.n y.c)) ?_
  refine sy_call 7 117 [.slice x.a x.n x.c, .slice y.a y.n y.c] ?_
  intro w11 u11 e11 d11
  have k14 := k_sameList d11 (hx.ext e11) (hy.ext e11) (by first | omega | (simp; omega) | (refine Nat.le_trans (Nt.trim_len _) ?_; first | omega | (simp; omega)) | (refine Nat.le_trans (Nt.trim_len _) ?_; simp only [List.length_map]; refine Nat.le_trans (Nt.trim_len _) ?_; first | omega | (simp; omega))) (by first | omega | (simp; omega) | (refine Nat.le_trans (Nt.trim_len _) ?_; first | omega | (simp; omega)) | (refine Nat.le_trans (Nt.trim_len _) ?_; simp only [List.length_map]; refine Nat.le_trans (Nt.trim_len _) ?_; first | omega | (simp; omega)))
  with_reducible refine Post.mono k14 ?_
  clear k14
  rintro _ u12 g13 rfl
  refine sy_pure 4 (.v (.bool (decide (l = m)))) ?_
  refine sy_next 8 [(4, .v (.bool (decide (l = m))))] [] ?_
  refine sw_ret (ret0 [.bool (decide (l = m))] ⟨res_tmp, trivial⟩ fun u15 e16 => ?_)
  rfl
end Go.Proofs.YtnedhbidmfoegaaGreat
namespace Go.Proofs.YtnedhbidmfoegaaGreat
open Go.RowKit
set_option linter.unusedVariables false
namespace Nt
namespace Pol
theorem monic_zero : (0 : Pol).monic = 0 := by unfold monic; rw [mul_zero]
/-- The greatest common divisor of two multiples. -/
theorem IsGcd.mul {p q g : Pol} (h : IsGcd p q g) (r : Pol) : IsGcd (p * r) (q * r) (g * r).monic := by
  obtain ⟨u1, e1⟩ := h.l
  obtain ⟨u2, e2⟩ := h.r
  obtain ⟨s, t, e3⟩ := h.s
  by_cases h0 : g * r = 0
  · rw [h0, monic_zero]
    exact ⟨.inl rfl, ⟨0, by rw [e1]; grind⟩, ⟨0, by rw [e2]; grind⟩, ⟨0, 0, by grind⟩⟩
  · have h1 := lead_ne h0
    have h2 := C_inv h1
    refine ⟨.inr (monic_lead h0), ⟨C (g * r).lead * u1, ?_⟩, ⟨C (g * r).lead * u2, ?_⟩, ⟨C (1 / (g * r).lead) * s, C (1 / (g * r).lead) * t, ?_⟩⟩
    · unfold monic; grind
    · unfold monic; grind
    · unfold monic; grind
theorem npow_zero (p : Pol) : npow p 0 = 1 := rfl
theorem npow_succ (p : Pol) (n : Nat) : npow p (n + 1) = npow p n * p := rfl
end Pol
section
variable {l m : List Rat} {D E A B n : Nat}
theorem Sm.npow (h : Sm l D A) (n : Nat) : Sm (Pol.npow (Pol.mk' l) n).l (D ^ n) (n * (A + l.length)) := by
  induction n with
  | zero =>
    rw [Pol.npow_zero, Nat.pow_zero, Nat.zero_mul]
    exact (show Sm (List.map (fun z : Int => (z : Rat)) [1]) 1 0 from Sm.ofInts (by decide)).trim
  | succ n ih =>
    rw [Pol.npow_succ, Nat.pow_succ, Nat.add_mul, Nat.one_mul]
    have h9 := (ih.mulR (h.trim : Sm (Pol.mk' l).l D A)).trim.more (B := n * (A + l.length) + (A + l.length)) (by have h8 := trim_len l; change _ + A + (trimQ l).length ≤ _; omega)
    exact h9
end
end Nt
end Go.Proofs.YtnedhbidmfoegaaGreat
namespace Go.Proofs.YtnedhbidmfoegaaGreat
open Go.RowKit
set_option linter.unusedVariables false
namespace Nt
/-- A number made of an integer. -/
def mkR (n : Int) : Rat := (((n % 25 - 12 : Int)) : Rat) / (((1 + n.tdiv 25 % 8 : Int)) : Rat)
theorem frac_mul {a b c : Int} (hb : b ≠ 0) : (a : Rat) / (b : Rat) * ((b * c : Int) : Rat) = ((a * c : Int) : Rat) := by
  rw [Rat.intCast_mul, Rat.intCast_mul]
  have : (b : Rat) ≠ 0 := fun e => hb (Rat.intCast_inj.1 (show (b : Rat) = ((0 : Int) : Rat) from e))
  grind
theorem mkR_wh (n : Int) : Wh (mkR n * (((840 : Nat) : Int) : Rat)) 14 := by
  have h1 := Int.emod_nonneg n (show (25 : Int) ≠ 0 by decide)
  have h2 := Int.emod_lt_of_pos n (show (0 : Int) < 25 by decide)
  have h3 := Int.emod_nonneg (n.tdiv 25) (show (8 : Int) ≠ 0 by decide)
  have h4 := Int.emod_lt_of_pos (n.tdiv 25) (show (0 : Int) < 8 by decide)
  unfold mkR
  obtain ⟨a, ha⟩ : ∃ a, n % 25 - 12 = a := ⟨_, rfl⟩
  obtain ⟨b, hb⟩ : ∃ b, 1 + n.tdiv 25 % 8 = b := ⟨_, rfl⟩
  rw [ha, hb]
  obtain ⟨c, hc, hc1, hc2⟩ : ∃ c : Int, ((840 : Nat) : Int) = b * c ∧ 0 ≤ c ∧ c ≤ 840 := by
    rcases (by omega : b = 1 ∨ b = 2 ∨ b = 3 ∨ b = 4 ∨ b = 5 ∨ b = 6 ∨ b = 7 ∨ b = 8) with rfl | rfl | rfl | rfl | rfl | rfl | rfl | rfl
    · exact ⟨840, by decide, by decide, by decide⟩
    · exact ⟨420, by decide, by decide, by decide⟩
    · exact ⟨280, by decide, by decide, by decide⟩
    · exact ⟨210, by decide, by decide, by decide⟩
    · exact ⟨168, by decide, by decide, by decide⟩
    · exact ⟨140, by decide, by decide, by decide⟩
    · exact ⟨120, by decide, by decide, by decide⟩
    · exact ⟨105, by decide, by decide, by decide⟩
  refine ⟨a * c, ?_, ?_⟩
  · rw [hc]; exact frac_mul (by omega)
  · rw [Int.natAbs_mul]
    exact Nat.le_trans (Nat.mul_le_mul (show a.natAbs ≤ 12 by omega) (show c.natAbs ≤ 840 by omega)) (by decide)
theorem mkR_rs (n : Int) : rs (mkR n) ≤ 1 := wh_rs (A := 14) (by omega) (mkR_wh n) (by decide)
/-- The polynomial made of a list. -/
def mkP (l : List Int) (d : Nat) : List Rat := trimQ ((l.take (d + 1)).map mkR)
theorem mkP_len (l : List Int) (d : Nat) : (mkP l d).length ≤ d + 1 := Nat.le_trans (trim_len _) (by simp; omega)
section
variable {p q : List Rat} {u v x y : Pol}
end
end Nt
end Go.Proofs.YtnedhbidmfoegaaGreat
namespace Go.Proofs.YtnedhbidmfoegaaGreat
open Go.RowKit
set_option linter.unusedVariables false
section
variable {P : Program} {ops : Array Oper} {w0 : Base} {u0 : World} {S : St} {u u' w : World} {o : Oper} {p : List Tmp} {seq : Bool} {rest : List (Oper × List Tmp)} {K : St → World → Prop}
end
section
variable {u u' : World} {A : Option Addr} {n c i : Nat} {l : List Int} {k : IntKind}
theorem ints_at (h : SlR k u A n c l) (hi : i < n) : ∃ b o, A = some ⟨b, o, none⟩ ∧ u.cell? ⟨b, o + i * 1, none⟩ = some (.int k (l.getD i 0)) := by
  obtain ⟨h1, h2, h3, h4⟩ := h
  obtain ⟨b, o, e, _, hc⟩ := h4 (by omega)
  exact ⟨b, o, e, by rw [Nat.mul_one]; exact hc i hi⟩
theorem ints_take (h : SlR k u A n c l) {m : Nat} (hm : m ≤ n) : SlR k u A m c (l.take m) := by
  obtain ⟨h1, h2, h3, h4⟩ := h
  refine ⟨by rw [List.length_take]; omega, by omega, h3, fun hp => ?_⟩
  obtain ⟨b, o, e, hb, hc⟩ := h4 (by omega)
  exact ⟨b, o, e, hb, fun i hi => by rw [List.getElem?_take_of_lt hi]; exact hc i (by omega)⟩
theorem ints_bd {lo hi : Int} (h : ∀ z ∈ l, lo ≤ z ∧ z ≤ hi) (h0 : lo ≤ 0 ∧ 0 ≤ hi) (i : Nat) : lo ≤ l.getD i 0 ∧ l.getD i 0 ≤ hi := by
  rw [List.getD_eq_getElem?_getD]
  cases e : l[i]? with
  | none => exact h0
  | some z => exact h z (List.mem_of_getElem? e)
theorem bd_take {lo hi : Int} (h : ∀ z ∈ l, lo ≤ z ∧ z ≤ hi) (m : Nat) : ∀ z ∈ l.take m, lo ≤ z ∧ z ≤ hi := fun z hz => h z (List.mem_of_mem_take hz)
end
end Go.Proofs.YtnedhbidmfoegaaGreat
namespace Go.Proofs.YtnedhbidmfoegaaGreat
open Go.RowKit
set_option linter.unusedVariables false
theorem tdiv25 {n : Int} (h0 : -9223372036854775808 ≤ n) (h1 : n ≤ 9223372036854775807) : -9223372036854775808 ≤ n.tdiv 25 ∧ n.tdiv 25 ≤ 9223372036854775807 := by
  have h := Int.natAbs_tdiv n 25
  change (n.tdiv 25).natAbs = n.natAbs / 25 at h
  omega
theorem k_mkRat {u w : World} {n : Int} (d : Dat u w) (hn0 : -9223372036854775808 ≤ n) (hn1 : n ≤ 9223372036854775807) : Calls Tryz.prog 47 #[.int .i64 n] w (Post u w fun v u' => ∃ r : RL, v = r.v ∧ RatN u' r (Nt.mkR n) 1) := by
  have htd := tdiv25 hn0 hn1
  refine calls_sym (args := [.int .i64 n]) Tryz.func47 rfl Tryz.ntmps47 (rs := [.cell 2 26]) Tryz.results47 (le_b rfl) (le_b rfl) d ?_
  refine sw_seq ?_
  refine sw_reg ?_
  refine sy_new 2 ⟨26, [.bool false, .slice none 0 0, .slice none 0 0]⟩ ?_
  refine sy_next 11 [(0, .v (.int .i64 n)), (2, .adr 2 0)] [(2, ⟨26, [.bool false, .slice none 0 0, .slice none 0 0]⟩)] ?_
  refine sw_seq ?_
  refine sw_reg ?_
  refine sy_pure 3 (.v (.int .i64 n)) ?_
  refine sy_call 4 50 [.int .i64 n, .int .i64 25] ?_
  intro w11 u11 e11 d11
  have k14 := k_Mod d11 (n := n) (m := 25) (by omega) (by omega) (by omega) (by omega)
  with_reducible refine Post.mono k14 ?_
  clear k14
  rintro _ u12 g13 rfl
  refine sy_eq 5 (x := .v (.int .i64 (IntKind.i64.wrap ((n % 25) - 12)))) (.v (.int .i64 ((n % 25) - 12))) (by rw [IntWalk.i64_in _ (by omega)]) ?_
  refine sy_pure 6 (.v (.int .i64 n)) ?_
  refine sy_quo 7 (n.tdiv 25) (by decide) (IntWalk.i64_in _ (by omega)) ?_
  refine sy_call 8 50 [.int .i64 (Int.tdiv n 25), .int .i64 8] ?_
  intro w15 u15 e15 d15
  have k18 := k_Mod d15 (n := Int.tdiv n 25) (m := 8) (by omega) (by omega) (by omega) (by omega)
  with_reducible refine Post.mono k18 ?_
  clear k18
  rintro _ u16 g17 rfl
  refine sy_eq 9 (x := .v (.int .i64 (IntKind.i64.wrap ((1 : Int) + ((Int.tdiv n 25) % 8))))) (.v (.int .i64 ((1 : Int) + ((Int.tdiv n 25) % 8)))) (by rw [IntWalk.i64_in _ (by omega)]) ?_
  refine sy_call 10 49 [.int .i64 ((n % 25) - 12), .int .i64 ((1 : Int) + ((Int.tdiv n 25) % 8))] ?_
  intro w19 u19 e19 d19
  have k24 := k_rqFrac d19 (a := (n % 25) - 12) (b := (1 : Int) + ((Int.tdiv n 25) % 8)) (by omega) (by omega) (by omega) (by omega)
  with_reducible refine Post.mono k24 ?_
  clear k24
  rintro _ u22 g23 ⟨r20, rfl, h21⟩
  refine sy_store ⟨26, r20.cs⟩ ty26 ?_
  refine sy_next 11 [(2, .adr 2 0)] [(2, ⟨26, r20.cs⟩)] ?_
  refine sw_ret (ret0 [r20.v] ⟨res_cell ty26 part_agg, trivial⟩ fun u25 e26 => ?_)
  refine ⟨r20, rfl, RatN.fit (K := 3) ?_ (Nt.mkR_rs n)⟩
  exact (h21.ext e26)
set_option maxHeartbeats 1000000 in
theorem k_mkRats {u w : World} {x : Sl} {l : List Int} (d : Dat u w) (hx : SlR .i64 u x.a x.n x.c l) (hb : ∀ z ∈ l, -9223372036854775808 ≤ z ∧ z ≤ 9223372036854775807) (hx9 : l.length ≤ 1000000000) : Calls Tryz.prog 121 #[x.v] w (Post u w fun v u' => ∃ y : Sl, v = y.v ∧ PolN u' y (l.map Nt.mkR) 1) := by
  have hlen : l.length = x.n := hx.1
  refine calls_sym (args := [.slice x.a x.n x.c]) Tryz.func121 rfl Tryz.ntmps121 (rs := [.tmp 2]) Tryz.results121 (le_b rfl) (le_b rfl) d ?_
  refine sw_seq ?_
  refine sw_reg ?_
  refine sy_pure 2 (.v (.slice none 0 0)) ?_
  refine sy_next 19 [(0, .v (.slice x.a x.n x.c))] [] ?_
  refine sw_seq ?_
  refine sw_reg ?_
  refine sy_pure 3 (.v (.slice none 0 0)) ?_
  refine sy_next 19 [(0, .v (.slice x.a x.n x.c)), (3, .v (.slice none 0 0))] [] ?_
  refine sw_seq ?_
  refine sw_seq ?_
  refine sw_reg ?_
  refine sy_pure 6 (.v (.slice x.a x.n x.c)) ?_
  refine sy_pure 7 (.v (.int .i64 (x.n : Int))) ?_
  refine sy_pure 8 (.v (.int .i64 0)) ?_
  refine sy_next 19 [(3, .v (.slice none 0 0)), (6, .v (.slice x.a x.n x.c)), (7, .v (.int .i64 (x.n : Int))), (8, .v (.int .i64 0))] [] ?_
  refine sw_block ?_
  refine sw_loop (I := fun m11 S' u' => (m11 = x.n ∧ S' = St.of 19 [(3, .v (.slice none 0 0)), (6, .v (.slice x.a x.n x.c)), (7, .v (.int .i64 (x.n : Int))), (8, .v (.int .i64 0))] [] ∧ Ext u u') ∨ (∃ (i : Nat) (L : List RL) (cs : List Value) (cp : Nat), m11 = x.n - i ∧ i ≤ x.n ∧ 0 < i ∧ L.length = i ∧ cs.length = cp * 3 ∧ i ≤ cp ∧ cp ≤ maxLen ∧ cs.take (i * 3) = rcs L ∧ S' = St.of 19 [(3, .slc 16 0 i cp), (6, .v (.slice x.a x.n x.c)), (7, .v (.int .i64 (x.n : Int))), (8, .v (.int .i64 (i : Int)))] [(16, ⟨26, cs⟩)] ∧ Ext u u' ∧ RatsN u' L ((l.map Nt.mkR).take i) 1)) (fun m S u1 u2 e h => by rcases h with ⟨a, b, c⟩ | ⟨a1, a2, a3, a4, b1, b2, b3, b4, b5, b6, b7, b8, b9, b10, b11⟩; exact .inl ⟨a, b, c.trans e⟩; exact .inr ⟨a1, a2, a3, a4, b1, b2, b3, b4, b5, b6, b7, b8, b9, b10.trans e, b11.ext e⟩) _ (T := St.of 19 [(3, .v (.slice none 0 0)), (6, .v (.slice x.a x.n x.c)), (7, .v (.int .i64 (x.n : Int))), (8, .v (.int .i64 0))] []) (by exact weak_mk _ _ _) (.inl ⟨rfl, rfl, Ext.refl _⟩) ?_
  rintro m11 _ u11 (⟨hm11, rfl, e11⟩ | ⟨i, L, cs, cp, hm11, hi, hp, hL, hc, hle, hmx, ht, rfl, e11, hR⟩)
  · change SW _ _ _ _ (St.of 19 [(3, .v (.slice none 0 0)), (6, .v (.slice x.a x.n x.c)), (7, .v (.int .i64 (x.n : Int))), (8, .v (.int .i64 0))] []) _ _
    refine sw_seq ?_
    refine sw_reg ?_
    refine sy_pure 9 (.v (.bool (decide ((0 : Int) < (x.n : Int))))) ?_
    refine sy_next 19 [(3, .v (.slice none 0 0)), (6, .v (.slice x.a x.n x.c)), (7, .v (.int .i64 (x.n : Int))), (8, .v (.int .i64 0)), (9, .v (.bool (decide ((0 : Int) < (x.n : Int)))))] [] ?_
    refine sw_seq ?_
    refine sw_cond (b := decide ((0 : Int) < (x.n : Int))) (by kernel_rfl) (fun hb12 => ?_) (fun hb12 => ?_)
    · replace hb12 : (decide ((0 : Int) < (x.n : Int))) = true := hb12
      have qhb12 := of_decide_eq_true hb12
      refine sw_skip (mp_seq ?_)
      refine sw_seq ?_
      refine sw_block ?_
      refine sw_seq ?_
      refine sw_reg ?_
      have hl13 := ((hx.ext e11)).1
      obtain ⟨b13, o13, hA13, hc13⟩ := ints_at (hx.ext e11) (i := 0) (by omega)
      have hz13 := ints_bd hb (by omega) 0
      refine sy_index 10 (o13 + 0 * 1) (n := x.n) (off := o13) (sz := 1) (i := 0) (by omega) hA13 (by omega) (by omega) sl42 ?_
      refine sy_ld1 11 (.int .i64 (l.getD 0 0)) hc13 ty3 ?_
      refine sy_pure 5 (.v (.int .i64 (l.getD 0 0))) ?_
      refine sy_next 19 [(3, .v (.slice none 0 0)), (5, .v (.int .i64 (l.getD 0 0))), (6, .v (.slice x.a x.n x.c)), (7, .v (.int .i64 (x.n : Int))), (8, .v (.int .i64 0))] [] ?_
      refine sw_reg ?_
      refine sy_pure 12 (.v (.slice none 0 0)) ?_
      refine sy_pure 13 (.v (.int .i64 (l.getD 0 0))) ?_
      refine sy_call 14 47 [.int .i64 (l.getD 0 0)] ?_
      intro w14 u14 e14 d14
      have k19 := k_mkRat d14 (n := (l.getD 0 0)) (by omega) (by omega)
      with_reducible refine Post.mono k19 ?_
      clear k19
      rintro _ u17 g18 ⟨r15, rfl, h16⟩
      refine sy_data 15 ⟨26, r15.cs⟩ 1 (fun b20 u21 e22 h23 => ?_)
      have hp24 : PolN u21 (⟨some ⟨b20, 0, none⟩, 1, 1⟩ : Sl) [(Nt.mkR (l.getD 0 0))] 1 := pol_lit (L := [r15]) h23 (rats1 (h16.ext e22)) rfl (by decide)
      refine sy_app0 16 (T := 40) (E := 26) (z := .agg #[.bool false, .slice none 0 0, .slice none 0 0]) (size := 3) (bytes := 56) (b := b20) (off := 0) (m := 1) r15.cs (by kernel_rfl) (by kernel_rfl) (by kernel_rfl) (by decide) rfl (lit_news ((Ext.refl _).cells h23)) (rl_one r15) (by decide) (by decide) (by decide) ?_
      intro c25 cs25 ha25 hb25 hc25 hd25
      refine sy_pure 3 (.slc 16 0 1 c25) ?_
      refine sy_end ?_
      refine mp_seq ?_
      refine sw_reg ?_
      refine sy_pure 17 (.v (.int .i64 1)) ?_
      refine sy_pure 8 (.v (.int .i64 1)) ?_
      refine sy_end ?_
      have ht26 : 0 < (l.map Nt.mkR).length := by rw [List.length_map]; omega
      refine ⟨_, ?_, St.of 19 [(3, .slc 16 0 1 c25), (6, .v (.slice x.a x.n x.c)), (7, .v (.int .i64 (x.n : Int))), (8, .v (.int .i64 1))] [(16, ⟨26, cs25⟩)], by exact weak_mk _ _ _, .inr ⟨1, [r15], cs25, c25, rfl, by omega, by omega, by simp, hc25, by omega, hb25, hd25, rfl, (e11.trans (e14.trans (g18.ext.trans e22))), (app_first (RatN.more (K := 1) (h16.ext e22) (by omega)) ht26 (by simp [List.getElem?_eq_getElem (show 0 < l.length by omega)]))⟩⟩
      omega
    · replace hb12 : (decide ((0 : Int) < (x.n : Int))) = false := hb12
      have qhb12 := of_decide_eq_false hb12
      refine sw_exit ?_
      refine mp_seq ?_
      refine sw_seq ?_
      have hp27 : PolN u11 ⟨none, 0, 0⟩ (l.map Nt.mkR) 1 := by have h9 : l.map Nt.mkR = [] := List.eq_nil_of_length_eq_zero (by rw [List.length_map]; omega); rw [h9]; exact pol_nil _ _
      refine sw_reg ?_
      refine sy_pure 18 (.v (.slice none 0 0)) ?_
      refine sy_pure 2 (.v (.slice none 0 0)) ?_
      refine sy_next 19 [(2, .v (.slice none 0 0))] [] ?_
      refine sw_ret (ret0 [.slice none 0 0] ⟨res_tmp, trivial⟩ fun u28 e29 => ?_)
      refine ⟨⟨none, 0, 0⟩, rfl, ?_⟩
      exact (hp27.ext e29)
  · change SW _ _ _ _ (St.of 19 [(3, .slc 16 0 i cp), (6, .v (.slice x.a x.n x.c)), (7, .v (.int .i64 (x.n : Int))), (8, .v (.int .i64 (i : Int)))] [(16, ⟨26, cs⟩)]) _ _
    refine sw_seq ?_
    refine sw_reg ?_
    refine sy_pure 9 (.v (.bool (decide ((i : Int) < (x.n : Int))))) ?_
    refine sy_next 19 [(3, .slc 16 0 i cp), (6, .v (.slice x.a x.n x.c)), (7, .v (.int .i64 (x.n : Int))), (8, .v (.int .i64 (i : Int))), (9, .v (.bool (decide ((i : Int) < (x.n : Int)))))] [(16, ⟨26, cs⟩)] ?_
    refine sw_seq ?_
    refine sw_cond (b := decide ((i : Int) < (x.n : Int))) (by kernel_rfl) (fun hb30 => ?_) (fun hb30 => ?_)
    · replace hb30 : (decide ((i : Int) < (x.n : Int))) = true := hb30
      have qhb30 := of_decide_eq_true hb30
      refine sw_skip (mp_seq ?_)
      refine sw_seq ?_
      refine sw_block ?_
      refine sw_seq ?_
      refine sw_reg ?_
      have hl31 := ((hx.ext e11)).1
      obtain ⟨b31, o31, hA31, hc31⟩ := ints_at (hx.ext e11) (i := i) (by omega)
      have hz31 := ints_bd hb (by omega) i
      refine sy_index 10 (o31 + i * 1) (n := x.n) (off := o31) (sz := 1) (i := (i : Int)) (by omega) hA31 (by omega) (by omega) sl42 ?_
      refine sy_ld1 11 (.int .i64 (l.getD i 0)) hc31 ty3 ?_
      refine sy_pure 5 (.v (.int .i64 (l.getD i 0))) ?_
      refine sy_next 19 [(3, .slc 16 0 i cp), (5, .v (.int .i64 (l.getD i 0))), (6, .v (.slice x.a x.n x.c)), (7, .v (.int .i64 (x.n : Int))), (8, .v (.int .i64 (i : Int)))] [(16, ⟨26, cs⟩)] ?_
      refine sw_reg ?_
      refine sy_pure 12 (.slc 16 0 i cp) ?_
      refine sy_pure 13 (.v (.int .i64 (l.getD i 0))) ?_
      refine sy_call 14 47 [.int .i64 (l.getD i 0)] ?_
      intro w32 u32 e32 d32
      have k37 := k_mkRat d32 (n := (l.getD i 0)) (by omega) (by omega)
      with_reducible refine Post.mono k37 ?_
      clear k37
      rintro _ u35 g36 ⟨r33, rfl, h34⟩
      refine sy_data 15 ⟨26, r33.cs⟩ 1 (fun b38 u39 e40 h41 => ?_)
      have hp42 : PolN u39 (⟨some ⟨b38, 0, none⟩, 1, 1⟩ : Sl) [(Nt.mkR (l.getD i 0))] 1 := pol_lit (L := [r33]) h41 (rats1 (h34.ext e40)) rfl (by decide)
      refine sy_app1 16 (T := 40) (E := 26) (z := .agg #[.bool false, .slice none 0 0, .slice none 0 0]) (size := 3) (bytes := 56) (b := b38) (off := 0) (m := 1) (n := i) (cap := cp) (t := 16) (cs0 := cs) [3, 12, 16] r33.cs (by kernel_rfl) (by kernel_rfl) (by kernel_rfl) (by decide) rfl (lit_news ((Ext.refl _).cells h41)) (rl_one r33) (by decide) (by unfold maxLen; omega) (by omega) (by omega) (by omega) (by omega) (by repeat first | exact noAt_of | refine noAt_set ?_ | refine noAt_lit ?_ | refine noAt_new ?_ | refine noAt_setVar ?_ | refine noAt_unpub ?_) ?_
      intro c43 cs43 ha43 hb43 hc43 hd43
      have hd43r : cs43.take ((i + 1) * 3) = rcs (L ++ [r33]) := by rw [hd43, ht, rcs_app]; rfl
      refine sy_pure 3 (.slc 16 0 (i + 1) c43) ?_
      refine sy_end ?_
      refine mp_seq ?_
      refine sw_reg ?_
      refine sy_eq 17 (x := .v (.int .i64 (IntKind.i64.wrap ((i : Int) + 1)))) (.v (.int .i64 ((i + 1 : Nat) : Int))) (eqI (by rw [IntWalk.i64_in _ (by omega)]; omega)) ?_
      refine sy_pure 8 (.v (.int .i64 ((i + 1 : Nat) : Int))) ?_
      refine sy_end ?_
      have ht44 : i < (l.map Nt.mkR).length := by rw [List.length_map]; omega
      refine ⟨_, ?_, St.of 19 [(3, .slc 16 0 (i + 1) c43), (6, .v (.slice x.a x.n x.c)), (7, .v (.int .i64 (x.n : Int))), (8, .v (.int .i64 ((i + 1 : Nat) : Int)))] [(16, ⟨26, cs43⟩)], by exact weak_mk _ _ _, .inr ⟨i + 1, L ++ [r33], cs43, c43, rfl, by omega, by omega, by simp; omega, hc43, by omega, hb43, hd43r, rfl, (e11.trans (e32.trans (g36.ext.trans e40))), (app_next (hR.ext (e32.trans (g36.ext.trans e40))) (RatN.more (K := 1) (h34.ext e40) (by omega)) ht44 (by simp [List.getElem?_eq_getElem (show i < l.length by omega)]))⟩⟩
      omega
    · replace hb30 : (decide ((i : Int) < (x.n : Int))) = false := hb30
      have qhb30 := of_decide_eq_false hb30
      refine sw_exit ?_
      refine mp_seq ?_
      refine sw_seq ?_
      refine sw_pub (r := 3) (t := 16) [3, 16] (by repeat first | exact noAt_of | refine noAt_set ?_ | refine noAt_lit ?_ | refine noAt_new ?_ | refine noAt_setVar ?_ | refine noAt_unpub ?_) (by kernel_rfl) (by rfl) (by rfl) (by kernel_rfl) (fun b46 u47 e48 hb49 hh50 => ?_)
      have hp45 : PolN u47 ⟨some ⟨b46, 0, none⟩, i, cp⟩ (l.map Nt.mkR) 1 := by have h8 := pol_data hh50 ht hc hle hmx (hR.ext e48); rw [List.take_of_length_le (l := l.map Nt.mkR) (by rw [List.length_map]; omega)] at h8; exact h8
      refine sw_reg ?_
      refine sy_pure 18 (.v (.slice (some ⟨b46, 0, none⟩) i cp)) ?_
      refine sy_pure 2 (.v (.slice (some ⟨b46, 0, none⟩) i cp)) ?_
      refine sy_next 19 [(2, .v (.slice (some ⟨b46, 0, none⟩) i cp))] [] ?_
      refine sw_ret (ret0 [.slice (some ⟨b46, 0, none⟩) i cp] ⟨res_tmp, trivial⟩ fun u51 e52 => ?_)
      refine ⟨(⟨some ⟨b46, 0, none⟩, i, cp⟩ : Sl), rfl, ?_⟩
      exact (hp45.ext e52)
set_option maxHeartbeats 1000000 in
theorem k_mkPoly {u w : World} {x : Sl} {l : List Int} {D : Nat} (d : Dat u w) (hx : SlR .i64 u x.a x.n x.c l) (hb : ∀ z ∈ l, -9223372036854775808 ≤ z ∧ z ≤ 9223372036854775807) (hD : D ≤ 1000) : Calls Tryz.prog 39 #[x.v, .int .i64 (D : Int)] w (Post u w fun v u' => ∃ y : Sl, v = y.v ∧ PolN u' y (Nt.mkP l D) 1) := by
  have hlen : l.length = x.n := hx.1
  have hmx : x.n ≤ maxLen := Nat.le_trans hx.2.1 hx.2.2.1
  unfold maxLen at hmx
  refine calls_sym (args := [.slice x.a x.n x.c, .int .i64 (D : Int)]) Tryz.func39 rfl Tryz.ntmps39 (rs := [.tmp 4]) Tryz.results39 (le_b rfl) (le_b rfl) d ?_
  refine sw_seq ?_
  refine sw_reg ?_
  refine sy_pure 4 (.v (.slice none 0 0)) ?_
  refine sy_next 17 [(0, .v (.slice x.a x.n x.c)), (1, .v (.int .i64 (D : Int)))] [] ?_
  refine sw_seq ?_
  refine sw_seq ?_
  refine sw_reg ?_
  refine sy_pure 5 (.v (.slice x.a x.n x.c)) ?_
  refine sy_pure 6 (.v (.int .i64 (x.n : Int))) ?_
  refine sy_pure 7 (.v (.int .i64 (D : Int))) ?_
  refine sy_eq 8 (x := .v (.int .i64 (IntKind.i64.wrap ((D : Int) + 1)))) (.v (.int .i64 ((D + 1 : Nat) : Int))) (eqI (by rw [IntWalk.i64_in _ (by omega)]; omega)) ?_
  refine sy_pure 9 (.v (.bool (decide (((D + 1 : Nat) : Int) < (x.n : Int))))) ?_
  refine sy_next 17 [(0, .v (.slice x.a x.n x.c)), (1, .v (.int .i64 (D : Int))), (9, .v (.bool (decide (((D + 1 : Nat) : Int) < (x.n : Int)))))] [] ?_
  refine sw_cond (b := decide (((D + 1 : Nat) : Int) < (x.n : Int))) (by kernel_rfl) (fun hb11 => ?_) (fun hb11 => ?_)
  · replace hb11 : (decide (((D + 1 : Nat) : Int) < (x.n : Int))) = true := hb11
    have qhb11 := of_decide_eq_true hb11
    refine sw_reg ?_
    refine sy_pure 10 (.v (.slice x.a x.n x.c)) ?_
    refine sy_pure 11 (.v (.int .i64 (D : Int))) ?_
    refine sy_eq 12 (x := .v (.int .i64 (IntKind.i64.wrap ((D : Int) + 1)))) (.v (.int .i64 ((D + 1 : Nat) : Int))) (eqI (by rw [IntWalk.i64_in _ (by omega)]; omega)) ?_
    have hl12 := (hx).1
    have hc12 := (hx).2.1
    refine sy_front 13 (n := x.n) (c := x.c) (D + 1) sl42 rfl (by omega) ?_
    refine sy_pure 0 (.v (.slice x.a (D + 1) x.c)) ?_
    refine sy_next 17 [(0, .v (.slice x.a (D + 1) x.c))] [] ?_
    refine sw_seq ?_
    refine sw_reg ?_
    refine sy_pure 14 (.v (.slice x.a (D + 1) x.c)) ?_
    refine sy_call 15 121 [.slice x.a (D + 1) x.c] ?_
    intro w13 u13 e13 d13
    have k18 := k_mkRats (x := (⟨x.a, D + 1, x.c⟩ : Sl)) d13 ((ints_take (m := (D + 1)) hx (by omega)).ext e13) (bd_take hb (D + 1)) (by have h9 := (((ints_take (m := (D + 1)) hx (by omega)).ext e13)).1; first | omega | (simp; omega))
    with_reducible refine Post.mono k18 ?_
    clear k18
    rintro _ u16 g17 ⟨y14, rfl, h15⟩
    have hly14 := h15.len
    rw [List.length_map] at hly14
    refine sy_call 16 87 [.slice y14.a y14.n y14.c] ?_
    intro w19 u19 e19 d19
    have k24 := k_r5Trim d19 (h15.ext e19).raw (by omega) (by first | omega | (simp; omega) | (refine Nat.le_trans (Nt.trim_len _) ?_; first | omega | (simp; omega)) | (refine Nat.le_trans (Nt.trim_len _) ?_; simp only [List.length_map]; refine Nat.le_trans (Nt.trim_len _) ?_; first | omega | (simp; omega)))
    with_reducible refine Post.mono k24 ?_
    clear k24
    rintro _ u22 g23 ⟨y20, rfl, h21⟩
    have hly20 := h21.len
    refine sy_pure 4 (.v (.slice y20.a y20.n y20.c)) ?_
    refine sy_next 17 [(4, .v (.slice y20.a y20.n y20.c))] [] ?_
    refine sw_ret (ret0 [.slice y20.a y20.n y20.c] ⟨res_tmp, trivial⟩ fun u25 e26 => ?_)
    have e9 : Nt.mkP l D = (Nt.trimQ ((l.take (D + 1)).map Nt.mkR)) := rfl
    rw [e9]
    exact ⟨y20, rfl, (h21.ext e26)⟩
  · replace hb11 : (decide (((D + 1 : Nat) : Int) < (x.n : Int))) = false := hb11
    have qhb11 := of_decide_eq_false hb11
    refine sw_skip (mp_seq ?_)
    refine sw_seq ?_
    refine sw_reg ?_
    refine sy_pure 14 (.v (.slice x.a x.n x.c)) ?_
    refine sy_call 15 121 [.slice x.a x.n x.c] ?_
    intro w27 u27 e27 d27
    have k32 := k_mkRats (x := x) d27 (hx.ext e27) hb (by have h9 := ((hx.ext e27)).1; first | omega | (simp; omega))
    with_reducible refine Post.mono k32 ?_
    clear k32
    rintro _ u30 g31 ⟨y28, rfl, h29⟩
    have hly28 := h29.len
    rw [List.length_map] at hly28
    refine sy_call 16 87 [.slice y28.a y28.n y28.c] ?_
    intro w33 u33 e33 d33
    have k38 := k_r5Trim d33 (h29.ext e33).raw (by omega) (by first | omega | (simp; omega) | (refine Nat.le_trans (Nt.trim_len _) ?_; first | omega | (simp; omega)) | (refine Nat.le_trans (Nt.trim_len _) ?_; simp only [List.length_map]; refine Nat.le_trans (Nt.trim_len _) ?_; first | omega | (simp; omega)))
    with_reducible refine Post.mono k38 ?_
    clear k38
    rintro _ u36 g37 ⟨y34, rfl, h35⟩
    have hly34 := h35.len
    refine sy_pure 4 (.v (.slice y34.a y34.n y34.c)) ?_
    refine sy_next 17 [(4, .v (.slice y34.a y34.n y34.c))] [] ?_
    refine sw_ret (ret0 [.slice y34.a y34.n y34.c] ⟨res_tmp, trivial⟩ fun u39 e40 => ?_)
    have e9 : Nt.mkP l D = (Nt.trimQ (l.map Nt.mkR)) := by unfold Nt.mkP; rw [List.take_of_length_le (by omega)]
    rw [e9]
    exact ⟨y34, rfl, (h35.ext e40)⟩
end Go.Proofs.YtnedhbidmfoegaaGreat
namespace Go.Proofs.YtnedhbidmfoegaaGreat.Nt
open Go.RowKit
open Pol
set_option linter.unusedVariables false
theorem awake_dm {q r : Pol} (h : mk' [((0 : Int) : Rat), ((0 : Int) : Rat), ((1 : Int) : Rat)] = q * mk' [(((-1) : Int) : Rat), ((1 : Int) : Rat)] + r) (hr : r.len < (mk' [(((-1) : Int) : Rat), ((1 : Int) : Rat)]).len) :
    q.l = [((1 : Int) : Rat), ((1 : Int) : Rat)] ∧ r.l = [((1 : Int) : Rat)] := by
  have e : mk' [((0 : Int) : Rat), ((0 : Int) : Rat), ((1 : Int) : Rat)] = mk' [((1 : Int) : Rat), ((1 : Int) : Rat)] * mk' [(((-1) : Int) : Rat), ((1 : Int) : Rat)] + mk' [((1 : Int) : Rat)] := eqk (by decide +kernel)
  have h9 := div_unique (h.symm.trans e) hr (by decide +kernel)
  rw [h9.1, h9.2]
  exact ⟨by decide +kernel, by decide +kernel⟩
theorem awake_sqf {s : Pol} (h : IsSqf (mk' [((0 : Int) : Rat), ((0 : Int) : Rat), (((-1) : Int) : Rat), ((1 : Int) : Rat)]) s) : s.l = [((0 : Int) : Rat), (((-1) : Int) : Rat), ((1 : Int) : Rat)] := by
  have k : IsSqf (mk' [((0 : Int) : Rat), ((0 : Int) : Rat), (((-1) : Int) : Rat), ((1 : Int) : Rat)]) (mk' [((0 : Int) : Rat), (((-1) : Int) : Rat), ((1 : Int) : Rat)]) :=
    .inr ⟨ne_of_len (by decide +kernel), mk' [0, 1], mk' [0, -1, 1],
      ⟨.inr (by decide +kernel), ⟨mk' [0, -1, 1], eqk (by decide +kernel)⟩, ⟨mk' [-2, 3], eqk (by decide +kernel)⟩, ⟨mk' [-9/2], mk' [-1/2, 3/2], eqk (by decide +kernel)⟩⟩,
      ne_of_len (by decide +kernel), eqk (by decide +kernel), eqk (by decide +kernel)⟩
  rw [h.unique k]
  decide +kernel
end Go.Proofs.YtnedhbidmfoegaaGreat.Nt
namespace Go.Proofs.YtnedhbidmfoegaaGreat
open Go.RowKit
set_option linter.unusedVariables false
set_option maxHeartbeats 4000000 in
theorem k_awake5 {u w : World} (d : Dat u w) : Calls Tryz.prog 26 #[] w (Post u w fun v _ => v = .bool true) := by
  refine calls_sym (args := []) Tryz.func26 rfl Tryz.ntmps26 (rs := [.tmp 0]) Tryz.results26 (le_b rfl) (le_b rfl) d ?_
  refine sw_seq ?_
  refine sw_reg ?_
  refine sy_pure 0 (.v (.bool false)) ?_
  refine sy_next 50 [] [] ?_
  refine sw_seq ?_
  refine sw_reg ?_
  refine sy_call 5 41 [.int .i64 1] ?_
  intro w11 u11 e11 d11
  have k16 := k_rqOf d11 (z := 1) (by omega) (by omega)
  with_reducible refine Post.mono k16 ?_
  clear k16
  rintro _ u14 g15 ⟨r12, rfl, h13⟩
  refine sy_new 1 ⟨26, [.bool false, .slice none 0 0, .slice none 0 0]⟩ ?_
  refine sy_store ⟨26, r12.cs⟩ ty26 ?_
  refine sy_next 50 [(1, .adr 1 0)] [(1, ⟨26, r12.cs⟩)] ?_
  refine sw_seq ?_
  refine sw_any [0, 1, 0, 7, 3, 0, 51, 127, 255, 511, 511, 511, 1023, 6143, 16383] [(2, []), (5, []), (0, []), (1, []), (3, []), (4, []), (6, []), (7, [10, 13]), (8, []), (9, []), (10, []), (11, []), (12, []), (13, []), (14, [])] (by kernel_rfl) (by kernel_rfl) ?_
  refine sy_ldv 9 (.v (r12.v)) ty26 part_agg ?_
  refine sy_ldv 12 (.v (r12.v)) ty26 part_agg ?_
  refine sy_call 7 41 [.int .i64 0] ?_
  intro w17 u17 e17 d17
  have k22 := k_rqOf d17 (z := 0) (by omega) (by omega)
  with_reducible refine Post.mono k22 ?_
  clear k22
  rintro _ u20 g21 ⟨r18, rfl, h19⟩
  refine sy_call 8 41 [.int .i64 0] ?_
  intro w23 u23 e23 d23
  have k28 := k_rqOf d23 (z := 0) (by omega) (by omega)
  with_reducible refine Post.mono k28 ?_
  clear k28
  rintro _ u26 g27 ⟨r24, rfl, h25⟩
  refine sy_lit 10 ⟨26, r18.cs ++ r24.cs ++ r12.cs⟩ 3 ?_
  refine sy_call 11 41 [.int .i64 (-1)] ?_
  intro w29 u29 e29 d29
  have k34 := k_rqOf d29 (z := (-1)) (by omega) (by omega)
  with_reducible refine Post.mono k34 ?_
  clear k34
  rintro _ u32 g33 ⟨r30, rfl, h31⟩
  refine sy_lit 13 ⟨26, r30.cs ++ r12.cs⟩ 2 ?_
  refine sy_give 14 27 [.slc 10 0 3 3, .slc 13 0 2 2] [10, 13] (.inr rfl) (pub_mk (by repeat first | exact noAt_of | refine noAt_set ?_ | refine noAt_lit ?_ | refine noAt_new ?_ | refine noAt_setVar ?_ | refine noAt_unpub ?_)) (k := ?_)
  intro B35 w35 u35 e35 d35 v35
  have h37 : u35.heap[B35 10]? = some (.cells #[.bool r18.s, .slice r18.m.a r18.m.n r18.m.c, .slice r18.d.a r18.d.n r18.d.c, .bool r24.s, .slice r24.m.a r24.m.n r24.m.c, .slice r24.d.a r24.d.n r24.d.c, .bool r12.s, .slice r12.m.a r12.m.n r12.m.c, .slice r12.d.a r12.d.n r12.d.c] 26 (0, 0)) := v35 10 (by simp) _ rfl
  obtain ⟨b36, hBb36⟩ : ∃ b, B35 10 = b := ⟨_, rfl⟩
  rw [hBb36] at h37
  have hp38 : PolN u35 (⟨some ⟨b36, 0, none⟩, 3, 3⟩ : Sl) [((0 : Int) : Rat), ((0 : Int) : Rat), ((1 : Int) : Rat)] 2 := pol_lit (L := [r18, r24, r12]) h37 (rats3 (h19.ext (e23.trans (g27.ext.trans (e29.trans (g33.ext.trans e35))))) (h25.ext (e29.trans (g33.ext.trans e35))) (h13.ext (e17.trans (g21.ext.trans (e23.trans (g27.ext.trans (e29.trans (g33.ext.trans e35)))))))) rfl (by decide)
  have h40 : u35.heap[B35 13]? = some (.cells #[.bool r30.s, .slice r30.m.a r30.m.n r30.m.c, .slice r30.d.a r30.d.n r30.d.c, .bool r12.s, .slice r12.m.a r12.m.n r12.m.c, .slice r12.d.a r12.d.n r12.d.c] 26 (0, 0)) := v35 13 (by simp) _ rfl
  obtain ⟨b39, hBb39⟩ : ∃ b, B35 13 = b := ⟨_, rfl⟩
  rw [hBb39] at h40
  have hp41 : PolN u35 (⟨some ⟨b39, 0, none⟩, 2, 2⟩ : Sl) [(((-1) : Int) : Rat), ((1 : Int) : Rat)] 2 := pol_lit (L := [r30, r12]) h40 (rats2 (h31.ext e35) (h13.ext (e17.trans (g21.ext.trans (e23.trans (g27.ext.trans (e29.trans (g33.ext.trans e35)))))))) rfl (by decide)
  show Calls _ _ #[.slice (some ⟨B35 10, 0, none⟩) 3 3, .slice (some ⟨B35 13, 0, none⟩) 2 2] _ _
  rw [hBb36, hBb39]
  have k45 := k_poDivMod1 (C := 9) d35 hp38.raw hp41.raw (show Nt.trimQ [(((-1) : Int) : Rat), ((1 : Int) : Rat)] ≠ [] by decide +kernel) ((show Nt.Sm [((0 : Int) : Rat), ((0 : Int) : Rat), ((1 : Int) : Rat)] 1 1 from Nt.Sm.ofInts (zs := [0, 0, 1]) (by decide))).prim ((show Nt.Sm [(((-1) : Int) : Rat), ((1 : Int) : Rat)] 1 1 from Nt.Sm.ofInts (zs := [(-1), 1]) (by decide))).prim (by have h9 := (show ([((0 : Int) : Rat), ((0 : Int) : Rat), ((1 : Int) : Rat)]).length ≤ 3 by decide); have h8 := (show ([(((-1) : Int) : Rat), ((1 : Int) : Rat)]).length ≤ 2 by decide); omega) (by decide) (by have h9 := (show ([((0 : Int) : Rat), ((0 : Int) : Rat), ((1 : Int) : Rat)]).length ≤ 3 by decide); omega) (by have h9 := (show ([(((-1) : Int) : Rat), ((1 : Int) : Rat)]).length ≤ 2 by decide); omega) (by have h9 := (show ([((0 : Int) : Rat), ((0 : Int) : Rat), ((1 : Int) : Rat)]).length ≤ 3 by decide); have h8 := (show ([(((-1) : Int) : Rat), ((1 : Int) : Rat)]).length ≤ 2 by decide); have h7 : Nt.dg 9 = 1 := (by decide +kernel); omega) (by have h9 := (show ([((0 : Int) : Rat), ((0 : Int) : Rat), ((1 : Int) : Rat)]).length ≤ 3 by decide); omega) (by have h9 := (show ([(((-1) : Int) : Rat), ((1 : Int) : Rat)]).length ≤ 2 by decide); omega)
  with_reducible refine Post.mono k45 ?_
  clear k45
  rintro _ u43 g44 ⟨y42, z42, q42, r42, rfl, ha42, hb42, eq42, el42⟩
  have hly42 := ha42.len
  have hlz42 := hb42.len
  have hlly42 := Nt.div_lenL eq42 el42
  have hm48 : q42.l.length ≤ 3 := by have h9 := (show ([((0 : Int) : Rat), ((0 : Int) : Rat), ((1 : Int) : Rat)]).length ≤ 3 by decide); omega
  have hm49 : r42.l.length ≤ 2 := by have h9 := (show ([(((-1) : Int) : Rat), ((1 : Int) : Rat)]).length ≤ 2 by decide); omega
  have hk46 : PolN _ y42 q42.l 16 := PolN.more ha42 (by have h9 := (show ([((0 : Int) : Rat), ((0 : Int) : Rat), ((1 : Int) : Rat)]).length ≤ 3 by decide); have h8 := (show ([(((-1) : Int) : Rat), ((1 : Int) : Rat)]).length ≤ 2 by decide); have h7 : Nt.dg 9 = 1 := (by decide +kernel); omega)
  have hk47 : PolN _ z42 r42.l 16 := PolN.more hb42 (by have h9 := (show ([((0 : Int) : Rat), ((0 : Int) : Rat), ((1 : Int) : Rat)]).length ≤ 3 by decide); have h8 := (show ([(((-1) : Int) : Rat), ((1 : Int) : Rat)]).length ≤ 2 by decide); have h7 : Nt.dg 9 = 1 := (by decide +kernel); omega)
  refine sy_pure 6 (.v (.tuple #[.slice y42.a y42.n y42.c, .slice z42.a z42.n z42.c, .int .i64 0])) ?_
  refine sy_pure 15 (.v (.slice y42.a y42.n y42.c)) ?_
  refine sy_pure 16 (.v (.slice z42.a z42.n z42.c)) ?_
  refine sy_pure 17 (.v (.int .i64 0)) ?_
  refine sy_pure 2 (.v (.slice y42.a y42.n y42.c)) ?_
  refine sy_pure 3 (.v (.slice z42.a z42.n z42.c)) ?_
  refine sy_pure 4 (.v (.int .i64 0)) ?_
  refine sy_next 50 [(1, .adr 1 0), (2, .v (.slice y42.a y42.n y42.c)), (3, .v (.slice z42.a z42.n z42.c)), (4, .v (.int .i64 0))] [(1, ⟨26, r12.cs⟩)] ?_
  refine sw_seq ?_
  refine sw_any [0, 1, 3, 7, 7, 7, 55, 127, 255, 511, 1023, 1023, 3071, 8191, 16383, 32767, 65535, 131071, 262143, 524287, 1048575, 2097151, 4194303, 1048575, 16777215, 33554431, 67108863, 134217727, 1048575, 536870911, 1073741823, 2147483647, 4294967295] [(0, []), (1, []), (2, []), (3, []), (4, []), (5, []), (6, []), (7, [24]), (8, []), (9, []), (10, []), (11, []), (12, []), (13, [30]), (14, []), (15, []), (16, []), (17, []), (18, []), (19, []), (23, []), (28, []), (20, []), (21, []), (22, []), (24, []), (25, [42]), (26, []), (27, []), (29, []), (30, [47]), (31, []), (32, [])] (by kernel_rfl) (by kernel_rfl) ?_
  refine sy_pure 18 (.v (.int .i64 0)) ?_
  refine sy_pure 19 (.v (.bool true)) ?_
  refine sy_pure 20 (.v (.bool true)) ?_
  refine sy_pure 21 (.v (.slice y42.a y42.n y42.c)) ?_ (hw := wants1 (g := 2) (b := true) (t := 20) (by kernel_rfl) (by kernel_rfl) (by kernel_rfl))
  refine sy_ldv 22 (.v (r12.v)) ty26 part_agg ?_ (hw := wants1 (g := 2) (b := true) (t := 20) (by kernel_rfl) (by kernel_rfl) (by kernel_rfl))
  refine sy_ldv 23 (.v (r12.v)) ty26 part_agg ?_ (hw := wants1 (g := 2) (b := true) (t := 20) (by kernel_rfl) (by kernel_rfl) (by kernel_rfl))
  refine sy_lit 24 ⟨26, r12.cs ++ r12.cs⟩ 2 ?_ (hw := wants1 (g := 2) (b := true) (t := 20) (by kernel_rfl) (by kernel_rfl) (by kernel_rfl))
  refine sy_give 25 29 [.v (.slice y42.a y42.n y42.c), .slc 24 0 2 2] [24] (.inr rfl) (pub_mk (by repeat first | exact noAt_of | refine noAt_set ?_ | refine noAt_lit ?_ | refine noAt_new ?_ | refine noAt_setVar ?_ | refine noAt_unpub ?_)) (k := ?_) (hw := wants1 (g := 2) (b := true) (t := 20) (by kernel_rfl) (by kernel_rfl) (by kernel_rfl))
  intro B50 w50 u50 e50 d50 v50
  have h52 : u50.heap[B50 24]? = some (.cells #[.bool r12.s, .slice r12.m.a r12.m.n r12.m.c, .slice r12.d.a r12.d.n r12.d.c, .bool r12.s, .slice r12.m.a r12.m.n r12.m.c, .slice r12.d.a r12.d.n r12.d.c] 26 (0, 0)) := v50 24 (by simp) _ rfl
  obtain ⟨b51, hBb51⟩ : ∃ b, B50 24 = b := ⟨_, rfl⟩
  rw [hBb51] at h52
  have hp53 : PolN u50 (⟨some ⟨b51, 0, none⟩, 2, 2⟩ : Sl) [((1 : Int) : Rat), ((1 : Int) : Rat)] 2 := pol_lit (L := [r12, r12]) h52 (rats2 (h13.ext (e17.trans (g21.ext.trans (e23.trans (g27.ext.trans (e29.trans (g33.ext.trans (e35.trans (g44.ext.trans e50))))))))) (h13.ext (e17.trans (g21.ext.trans (e23.trans (g27.ext.trans (e29.trans (g33.ext.trans (e35.trans (g44.ext.trans e50)))))))))) rfl (by decide)
  show Calls _ _ #[.slice y42.a y42.n y42.c, .slice (some ⟨B50 24, 0, none⟩) 2 2] _ _
  rw [hBb51]
  have k56 := k_r5Equal d50 (hk46.ext e50) hp53 (by first | omega | (simp; omega) | (refine Nat.le_trans (Nt.trim_len _) ?_; first | omega | (simp; omega)) | (refine Nat.le_trans (Nt.trim_len _) ?_; simp only [List.length_map]; refine Nat.le_trans (Nt.trim_len _) ?_; first | omega | (simp; omega))) (by simp)
  with_reducible refine Post.mono k56 ?_
  clear k56
  rintro _ u54 g55 rfl
  refine sy_pure 26 (.v (.bool (decide (q42.l = [((1 : Int) : Rat), ((1 : Int) : Rat)])))) ?_
  refine sy_eq 27 (x := .v (.bool (decide (q42.l = [((1 : Int) : Rat), ((1 : Int) : Rat)])))) (.v (.bool true)) (by rw [show (decide (q42.l = [((1 : Int) : Rat), ((1 : Int) : Rat)])) = true from decide_eq_true (Nt.awake_dm eq42 el42).1]) ?_
  refine sy_pure 28 (.v (.slice z42.a z42.n z42.c)) ?_ (hw := wants1 (g := 9) (b := true) (t := 27) (by kernel_rfl) (by kernel_rfl) (by kernel_rfl))
  refine sy_ldv 29 (.v (r12.v)) ty26 part_agg ?_ (hw := wants1 (g := 9) (b := true) (t := 27) (by kernel_rfl) (by kernel_rfl) (by kernel_rfl))
  refine sy_lit 30 ⟨26, r12.cs⟩ 1 ?_ (hw := wants1 (g := 9) (b := true) (t := 27) (by kernel_rfl) (by kernel_rfl) (by kernel_rfl))
  refine sy_give 31 29 [.v (.slice z42.a z42.n z42.c), .slc 30 0 1 1] [30] (.inr rfl) (pub_mk (by repeat first | exact noAt_of | refine noAt_set ?_ | refine noAt_lit ?_ | refine noAt_new ?_ | refine noAt_setVar ?_ | refine noAt_unpub ?_)) (k := ?_) (hw := wants1 (g := 9) (b := true) (t := 27) (by kernel_rfl) (by kernel_rfl) (by kernel_rfl))
  intro B58 w58 u58 e58 d58 v58
  have h60 : u58.heap[B58 30]? = some (.cells #[.bool r12.s, .slice r12.m.a r12.m.n r12.m.c, .slice r12.d.a r12.d.n r12.d.c] 26 (0, 0)) := v58 30 (by simp) _ rfl
  obtain ⟨b59, hBb59⟩ : ∃ b, B58 30 = b := ⟨_, rfl⟩
  rw [hBb59] at h60
  have hp61 : PolN u58 (⟨some ⟨b59, 0, none⟩, 1, 1⟩ : Sl) [((1 : Int) : Rat)] 2 := pol_lit (L := [r12]) h60 (rats1 (h13.ext (e17.trans (g21.ext.trans (e23.trans (g27.ext.trans (e29.trans (g33.ext.trans (e35.trans (g44.ext.trans (e50.trans (g55.ext.trans e58)))))))))))) rfl (by decide)
  show Calls _ _ #[.slice z42.a z42.n z42.c, .slice (some ⟨B58 30, 0, none⟩) 1 1] _ _
  rw [hBb59]
  have k64 := k_r5Equal d58 (hk47.ext (e50.trans (g55.ext.trans e58))) hp61 (by first | omega | (simp; omega) | (refine Nat.le_trans (Nt.trim_len _) ?_; first | omega | (simp; omega)) | (refine Nat.le_trans (Nt.trim_len _) ?_; simp only [List.length_map]; refine Nat.le_trans (Nt.trim_len _) ?_; first | omega | (simp; omega))) (by simp)
  with_reducible refine Post.mono k64 ?_
  clear k64
  rintro _ u62 g63 rfl
  refine sy_pure 32 (.v (.bool (decide (r42.l = [((1 : Int) : Rat)])))) ?_
  refine sy_eq 33 (x := .v (.bool (decide (r42.l = [((1 : Int) : Rat)])))) (.v (.bool true)) (by rw [show (decide (r42.l = [((1 : Int) : Rat)])) = true from decide_eq_true (Nt.awake_dm eq42 el42).2]) ?_
  refine sy_call 34 45 [.slice none 0 0] ?_ (hw := wants1 (g := 15) (b := true) (t := 33) (by kernel_rfl) (by kernel_rfl) (by kernel_rfl))
  intro w66 u66 e66 d66
  have k69 := k_poDegree (l := []) (x := ⟨none, 0, 0⟩) d66 (pol_nil _ 1).raw (by omega) (by decide)
  with_reducible refine Post.mono k69 ?_
  clear k69
  rintro _ u67 g68 rfl
  refine sy_pure 35 (.v (.bool ((((Nt.trimQ []).length : Int) - 1) == (-1)))) ?_ (hw := wants1 (g := 15) (b := true) (t := 33) (by kernel_rfl) (by kernel_rfl) (by kernel_rfl))
  refine sy_pure 36 (.v (.bool ((((Nt.trimQ []).length : Int) - 1) == (-1)))) ?_
  refine sy_eq 37 (x := .v (.bool ((((Nt.trimQ []).length : Int) - 1) == (-1)))) (.v (.bool true)) (by rw [show ((((Nt.trimQ []).length : Int) - 1) == (-1)) = true from (by decide +kernel)]) ?_
  refine sy_ldv 41 (.v (r12.v)) ty26 part_agg ?_ (hw := wants1 (g := 19) (b := true) (t := 37) (by kernel_rfl) (by kernel_rfl) (by kernel_rfl))
  refine sy_ldv 46 (.v (r12.v)) ty26 part_agg ?_ (hw := wants1 (g := 19) (b := true) (t := 37) (by kernel_rfl) (by kernel_rfl) (by kernel_rfl))
  refine sy_call 38 41 [.int .i64 0] ?_ (hw := wants1 (g := 19) (b := true) (t := 37) (by kernel_rfl) (by kernel_rfl) (by kernel_rfl))
  intro w71 u71 e71 d71
  have k76 := k_rqOf d71 (z := 0) (by omega) (by omega)
  with_reducible refine Post.mono k76 ?_
  clear k76
  rintro _ u74 g75 ⟨r72, rfl, h73⟩
  refine sy_call 39 41 [.int .i64 0] ?_ (hw := wants1 (g := 19) (b := true) (t := 37) (by kernel_rfl) (by kernel_rfl) (by kernel_rfl))
  intro w77 u77 e77 d77
  have k82 := k_rqOf d77 (z := 0) (by omega) (by omega)
  with_reducible refine Post.mono k82 ?_
  clear k82
  rintro _ u80 g81 ⟨r78, rfl, h79⟩
  refine sy_call 40 41 [.int .i64 (-1)] ?_ (hw := wants1 (g := 19) (b := true) (t := 37) (by kernel_rfl) (by kernel_rfl) (by kernel_rfl))
  intro w83 u83 e83 d83
  have k88 := k_rqOf d83 (z := (-1)) (by omega) (by omega)
  with_reducible refine Post.mono k88 ?_
  clear k88
  rintro _ u86 g87 ⟨r84, rfl, h85⟩
  refine sy_lit 42 ⟨26, r72.cs ++ r78.cs ++ r84.cs ++ r12.cs⟩ 4 ?_ (hw := wants1 (g := 19) (b := true) (t := 37) (by kernel_rfl) (by kernel_rfl) (by kernel_rfl))
  refine sy_give 43 36 [.slc 42 0 4 4] [42] (.inr rfl) (pub_mk (by repeat first | exact noAt_of | refine noAt_set ?_ | refine noAt_lit ?_ | refine noAt_new ?_ | refine noAt_setVar ?_ | refine noAt_unpub ?_)) (k := ?_) (hw := wants1 (g := 19) (b := true) (t := 37) (by kernel_rfl) (by kernel_rfl) (by kernel_rfl))
  intro B89 w89 u89 e89 d89 v89
  have h91 : u89.heap[B89 42]? = some (.cells #[.bool r72.s, .slice r72.m.a r72.m.n r72.m.c, .slice r72.d.a r72.d.n r72.d.c, .bool r78.s, .slice r78.m.a r78.m.n r78.m.c, .slice r78.d.a r78.d.n r78.d.c, .bool r84.s, .slice r84.m.a r84.m.n r84.m.c, .slice r84.d.a r84.d.n r84.d.c, .bool r12.s, .slice r12.m.a r12.m.n r12.m.c, .slice r12.d.a r12.d.n r12.d.c] 26 (0, 0)) := v89 42 (by simp) _ rfl
  obtain ⟨b90, hBb90⟩ : ∃ b, B89 42 = b := ⟨_, rfl⟩
  rw [hBb90] at h91
  have hp92 : PolN u89 (⟨some ⟨b90, 0, none⟩, 4, 4⟩ : Sl) [((0 : Int) : Rat), ((0 : Int) : Rat), (((-1) : Int) : Rat), ((1 : Int) : Rat)] 2 := pol_lit (L := [r72, r78, r84, r12]) h91 (rats4 (h73.ext (e77.trans (g81.ext.trans (e83.trans (g87.ext.trans e89))))) (h79.ext (e83.trans (g87.ext.trans e89))) (h85.ext e89) (h13.ext (e17.trans (g21.ext.trans (e23.trans (g27.ext.trans (e29.trans (g33.ext.trans (e35.trans (g44.ext.trans (e50.trans (g55.ext.trans (e58.trans (g63.ext.trans (e66.trans (g68.ext.trans (e71.trans (g75.ext.trans (e77.trans (g81.ext.trans (e83.trans (g87.ext.trans e89)))))))))))))))))))))) rfl (by decide)
  show Calls _ _ #[.slice (some ⟨B89 42, 0, none⟩) 4 4] _ _
  rw [hBb90]
  have k99 := k_poSquarefree (l := [((0 : Int) : Rat), ((0 : Int) : Rat), (((-1) : Int) : Rat), ((1 : Int) : Rat)]) (A := 3) (H := 562) (N := 4) (C := 2818) d89 hp92.raw (Nt.Sm.prim ((show Nt.Sm [((0 : Int) : Rat), ((0 : Int) : Rat), (((-1) : Int) : Rat), ((1 : Int) : Rat)] 1 1 from Nt.Sm.ofInts (zs := [0, 0, -1, 1]) (by decide)).more (by decide))) (Nt.Sm.prim (((Nt.Sm.der (b := 2) (show Nt.Sm [((0 : Int) : Rat), ((0 : Int) : Rat), (((-1) : Int) : Rat), ((1 : Int) : Rat)] 1 1 from Nt.Sm.ofInts (zs := [0, 0, -1, 1]) (by decide)) (by decide)).trim).more (by decide))) (by decide +kernel) (by decide +kernel) (by decide +kernel) (by decide +kernel) (by decide +kernel) (by decide +kernel) (by decide +kernel) (by decide +kernel) (by decide +kernel)
  with_reducible refine Post.mono k99 ?_
  clear k99
  rintro _ u97 g98 ⟨z93, s94, rfl, hz95, hs96⟩
  have hlz93 := hz95.len
  have hqs94 := Nt.awake_sqf hs96
  have hns94 : s94.l.length = 3 := by rw [hqs94]; rfl
  refine sy_call 44 41 [.int .i64 0] ?_ (hw := wants1 (g := 19) (b := true) (t := 37) (by kernel_rfl) (by kernel_rfl) (by kernel_rfl))
  intro w100 u100 e100 d100
  have k105 := k_rqOf d100 (z := 0) (by omega) (by omega)
  with_reducible refine Post.mono k105 ?_
  clear k105
  rintro _ u103 g104 ⟨r101, rfl, h102⟩
  refine sy_call 45 41 [.int .i64 (-1)] ?_ (hw := wants1 (g := 19) (b := true) (t := 37) (by kernel_rfl) (by kernel_rfl) (by kernel_rfl))
  intro w106 u106 e106 d106
  have k111 := k_rqOf d106 (z := (-1)) (by omega) (by omega)
  with_reducible refine Post.mono k111 ?_
  clear k111
  rintro _ u109 g110 ⟨r107, rfl, h108⟩
  refine sy_lit 47 ⟨26, r101.cs ++ r107.cs ++ r12.cs⟩ 3 ?_ (hw := wants1 (g := 19) (b := true) (t := 37) (by kernel_rfl) (by kernel_rfl) (by kernel_rfl))
  refine sy_give 48 29 [.v (.slice z93.a z93.n z93.c), .slc 47 0 3 3] [47] (.inr rfl) (pub_mk (by repeat first | exact noAt_of | refine noAt_set ?_ | refine noAt_lit ?_ | refine noAt_new ?_ | refine noAt_setVar ?_ | refine noAt_unpub ?_)) (k := ?_) (hw := wants1 (g := 19) (b := true) (t := 37) (by kernel_rfl) (by kernel_rfl) (by kernel_rfl))
  intro B112 w112 u112 e112 d112 v112
  have h114 : u112.heap[B112 47]? = some (.cells #[.bool r101.s, .slice r101.m.a r101.m.n r101.m.c, .slice r101.d.a r101.d.n r101.d.c, .bool r107.s, .slice r107.m.a r107.m.n r107.m.c, .slice r107.d.a r107.d.n r107.d.c, .bool r12.s, .slice r12.m.a r12.m.n r12.m.c, .slice r12.d.a r12.d.n r12.d.c] 26 (0, 0)) := v112 47 (by simp) _ rfl
  obtain ⟨b113, hBb113⟩ : ∃ b, B112 47 = b := ⟨_, rfl⟩
  rw [hBb113] at h114
  have hp115 : PolN u112 (⟨some ⟨b113, 0, none⟩, 3, 3⟩ : Sl) [((0 : Int) : Rat), (((-1) : Int) : Rat), ((1 : Int) : Rat)] 2 := pol_lit (L := [r101, r107, r12]) h114 (rats3 (h102.ext (e106.trans (g110.ext.trans e112))) (h108.ext e112) (h13.ext (e17.trans (g21.ext.trans (e23.trans (g27.ext.trans (e29.trans (g33.ext.trans (e35.trans (g44.ext.trans (e50.trans (g55.ext.trans (e58.trans (g63.ext.trans (e66.trans (g68.ext.trans (e71.trans (g75.ext.trans (e77.trans (g81.ext.trans (e83.trans (g87.ext.trans (e89.trans (g98.ext.trans (e100.trans (g104.ext.trans (e106.trans (g110.ext.trans e112)))))))))))))))))))))))))))) rfl (by decide)
  show Calls _ _ #[.slice z93.a z93.n z93.c, .slice (some ⟨B112 47, 0, none⟩) 3 3] _ _
  rw [hBb113]
  have k118 := k_r5Equal d112 (hz95.ext (e100.trans (g104.ext.trans (e106.trans (g110.ext.trans e112))))) hp115 (by first | omega | (simp; omega) | (refine Nat.le_trans (Nt.trim_len _) ?_; first | omega | (simp; omega)) | (refine Nat.le_trans (Nt.trim_len _) ?_; simp only [List.length_map]; refine Nat.le_trans (Nt.trim_len _) ?_; first | omega | (simp; omega))) (by simp)
  with_reducible refine Post.mono k118 ?_
  clear k118
  rintro _ u116 g117 rfl
  refine sy_pure 49 (.v (.bool (decide (s94.l = [((0 : Int) : Rat), (((-1) : Int) : Rat), ((1 : Int) : Rat)])))) ?_
  refine sy_pure 0 (.v (.bool (decide (s94.l = [((0 : Int) : Rat), (((-1) : Int) : Rat), ((1 : Int) : Rat)])))) ?_
  refine sy_next 50 [(0, .v (.bool (decide (s94.l = [((0 : Int) : Rat), (((-1) : Int) : Rat), ((1 : Int) : Rat)]))))] [] ?_
  refine sw_ret (ret0 [.bool (decide (s94.l = [((0 : Int) : Rat), (((-1) : Int) : Rat), ((1 : Int) : Rat)]))] ⟨res_tmp, trivial⟩ fun u119 e120 => ?_)
  show Value.bool _ = Value.bool _
  rw [show (decide (s94.l = [((0 : Int) : Rat), (((-1) : Int) : Rat), ((1 : Int) : Rat)])) = true from (decide_eq_true (Nt.awake_sqf hs96))]
end Go.Proofs.YtnedhbidmfoegaaGreat
namespace Go.Proofs.YtnedhbidmfoegaaGreat
set_option linter.unusedVariables false
namespace Nt
theorem div_le {a b c : Rat} (hb : 0 < b) : a / b ≤ c ↔ a ≤ c * b := by rw [← Rat.not_lt, Rat.lt_div_iff hb, Rat.not_lt]
theorem le_div {a b c : Rat} (hb : 0 < b) : c ≤ a / b ↔ c * b ≤ a := by rw [← Rat.not_lt, Rat.div_lt_iff hb, Rat.not_lt]
theorem inI_true {a b x : Rat} : inI a b x = true ↔ lo a b ≤ x ∧ x ≤ hi a b := by unfold inI; simp
theorem mul_mono {a b c : Rat} (h : a ≤ b) (hc : 0 ≤ c) : a * c ≤ b * c := Rat.mul_le_mul_of_nonneg_right h hc
theorem mul_anti {a b c : Rat} (h : a ≤ b) (hc : c ≤ 0) : b * c ≤ a * c := by
  have := mul_mono h (show 0 ≤ -c by grind)
  grind
/-- A product lies between the products with the ends. -/
theorem mul_betw {l h x c : Rat} (h1 : l ≤ x) (h2 : x ≤ h) : lo (l * c) (h * c) ≤ x * c ∧ x * c ≤ hi (l * c) (h * c) := by
  rcases Std.le_total (a := (0 : Rat)) (b := c) with hc | hc
  · have a := mul_mono h1 hc
    have b := mul_mono h2 hc
    unfold lo hi; grind
  · have a := mul_anti h1 hc
    have b := mul_anti h2 hc
    unfold lo hi; grind
theorem lo4_le (a b c d : Rat) : lo4 a b c d ≤ a ∧ lo4 a b c d ≤ b ∧ lo4 a b c d ≤ c ∧ lo4 a b c d ≤ d := by unfold lo4 lo; grind
theorem le_hi4 (a b c d : Rat) : a ≤ hi4 a b c d ∧ b ≤ hi4 a b c d ∧ c ≤ hi4 a b c d ∧ d ≤ hi4 a b c d := by unfold hi4 hi; grind
/-- Each product of numbers of two intervals lies in the interval of the four products. -/
theorem mul_in {a b c d x y : Rat} (h1 : lo a b ≤ x) (h2 : x ≤ hi a b) (h3 : lo c d ≤ y) (h4 : y ≤ hi c d) : lo4 (a * c) (a * d) (b * c) (b * d) ≤ x * y ∧ x * y ≤ hi4 (a * c) (a * d) (b * c) (b * d) := by
  have hx := mul_betw (c := y) h1 h2
  have ha := mul_betw (c := a) h3 h4
  have hb := mul_betw (c := b) h3 h4
  have k1 := lo4_le (a * c) (a * d) (b * c) (b * d)
  have k2 := le_hi4 (a * c) (a * d) (b * c) (b * d)
  generalize lo4 (a * c) (a * d) (b * c) (b * d) = L at *
  generalize hi4 (a * c) (a * d) (b * c) (b * d) = M at *
  have e1 : (lo a b = a ∧ hi a b = b) ∨ (lo a b = b ∧ hi a b = a) := by unfold lo hi; grind
  have e2 : (lo c d = c ∧ hi c d = d) ∨ (lo c d = d ∧ hi c d = c) := by unfold lo hi; grind
  have f1 : lo (lo a b * y) (hi a b * y) ≤ x * y := hx.1
  have f2 : x * y ≤ hi (lo a b * y) (hi a b * y) := hx.2
  have ga : L ≤ a * y ∧ a * y ≤ M := by
    rcases e2 with ⟨p, q⟩ | ⟨p, q⟩ <;> rw [p, q] at ha <;> unfold lo hi at ha <;> grind
  have gb : L ≤ b * y ∧ b * y ≤ M := by
    rcases e2 with ⟨p, q⟩ | ⟨p, q⟩ <;> rw [p, q] at hb <;> unfold lo hi at hb <;> grind
  rcases e1 with ⟨p, q⟩ | ⟨p, q⟩ <;> rw [p, q] at f1 f2 <;> unfold lo at f1 <;> unfold hi at f2 <;> grind
section
variable {a1 a2 b1 b2 c1 c2 d1 d2 : Rat}
/-- What Hull makes. -/
def hl (a b c d : Rat) : Rat := lo (lo a b) (lo c d)
def hh (a b c d : Rat) : Rat := hi (hi a b) (hi c d)
theorem inI_of {l h x : Rat} (hlh : l ≤ h) (h1 : l ≤ x) (h2 : x ≤ h) : inI l h x = true := by
  obtain ⟨e1, e2⟩ := lo_of_le hlh
  rw [inI_true, e1, e2]; exact ⟨h1, h2⟩
theorem lo4_hi4 (a b c d : Rat) : lo4 a b c d ≤ hi4 a b c d := by
  have h1 := lo4_le a b c d
  have h2 := le_hi4 a b c d
  grind
/-- A number between the ends, by a part from 0 to 1. -/
theorem part_in (a b : Rat) {t : Rat} (h0 : 0 ≤ t) (h1 : t ≤ 1) : lo a b ≤ lo a b + (hi a b - lo a b) * t ∧ lo a b + (hi a b - lo a b) * t ≤ hi a b := by
  have h := lo_le_hi a b
  have k1 := mul_mono (c := t) (show 0 ≤ hi a b - lo a b by grind) h0
  have k2 := mul_mono (c := hi a b - lo a b) h1 (by grind)
  grind
end
end Nt
end Go.Proofs.YtnedhbidmfoegaaGreat
namespace Go.Proofs.YtnedhbidmfoegaaGreat.Nt
open Go.RowKit
open Pol
set_option linter.unusedVariables false
section
variable {l : List Rat} {x a b c : Rat} {i n D A B K : Nat} {q : Pol}
theorem drop_top {α : Type} {l : List α} (d : α) (h : i < l.length) : l.drop (l.length - (i + 1)) = l.getD (l.length - 1 - i) d :: l.drop (l.length - i) := by
  rw [show l.length - (i + 1) = l.length - 1 - i by omega, List.drop_eq_getElem_cons (by omega), show l.length - 1 - i + 1 = l.length - i by omega]
  congr 1
  rw [List.getD_eq_getElem?_getD, List.getElem?_eq_getElem (by omega), Option.getD_some]
/-- Enclosures by Horner's rule. -/
def encL (a b : Rat) : List Rat → Rat × Rat
  | [] => (0, 0)
  | c :: l => (lo4 ((encL a b l).1 * a) ((encL a b l).1 * b) ((encL a b l).2 * a) ((encL a b l).2 * b) + c, hi4 ((encL a b l).1 * a) ((encL a b l).1 * b) ((encL a b l).2 * a) ((encL a b l).2 * b) + c)
theorem encL_ord (a b : Rat) (l : List Rat) : (encL a b l).1 ≤ (encL a b l).2 := by
  cases l with
  | nil => exact Rat.le_refl
  | cons c l => exact Rat.add_le_add_right.2 (lo4_hi4 _ _ _ _)
theorem encL_in (h : lo a b ≤ x ∧ x ≤ hi a b) (l : List Rat) : (encL a b l).1 ≤ evL l x ∧ evL l x ≤ (encL a b l).2 := by
  induction l with
  | nil => exact ⟨Rat.le_refl, Rat.le_refl⟩
  | cons c l ih =>
    have h1 := lo_of_le (encL_ord a b l)
    have h2 := mul_in (a := (encL a b l).1) (b := (encL a b l).2) (c := a) (d := b) (x := evL l x) (y := x) (by rw [h1.1]; exact ih.1) (by rw [h1.2]; exact ih.2) h.1 h.2
    show lo4 _ _ _ _ + c ≤ c + x * evL l x ∧ c + x * evL l x ≤ hi4 _ _ _ _ + c
    grind
theorem enc_top (h : i < l.length) : encL a b (l.drop (l.length - (i + 1))) = (lo4 ((encL a b (l.drop (l.length - i))).1 * a) ((encL a b (l.drop (l.length - i))).1 * b) ((encL a b (l.drop (l.length - i))).2 * a) ((encL a b (l.drop (l.length - i))).2 * b) + l.getD (l.length - 1 - i) 0, hi4 ((encL a b (l.drop (l.length - i))).1 * a) ((encL a b (l.drop (l.length - i))).1 * b) ((encL a b (l.drop (l.length - i))).2 * a) ((encL a b (l.drop (l.length - i))).2 * b) + l.getD (l.length - 1 - i) 0) := by
  rw [drop_top 0 h]; rfl
theorem lo_self (c : Rat) : lo c c = c := by unfold lo; split <;> rfl
theorem hi_self (c : Rat) : hi c c = c := by unfold hi; split <;> rfl
/-- One round of Enclose, as the contracts say it. -/
theorem enc_step (s t a b c : Rat) : lo (lo4 (s * a) (s * b) (t * a) (t * b)) (hi4 (s * a) (s * b) (t * a) (t * b)) + lo (lo c c) (hi c c) = lo4 (s * a) (s * b) (t * a) (t * b) + c ∧ hi (lo4 (s * a) (s * b) (t * a) (t * b)) (hi4 (s * a) (s * b) (t * a) (t * b)) + hi (lo c c) (hi c c) = hi4 (s * a) (s * b) (t * a) (t * b) + c := by
  have h := lo_of_le (lo4_hi4 (s * a) (s * b) (t * a) (t * b))
  rw [h.1, h.2, lo_self, hi_self, lo_self, hi_self]
  exact ⟨rfl, rfl⟩
end
end Go.Proofs.YtnedhbidmfoegaaGreat.Nt
namespace Go.Proofs.YtnedhbidmfoegaaGreat.Nt
open Go.RowKit
open Pol
set_option linter.unusedVariables false
section
variable {l m W : List Rat} {x q : Rat} {i A B C : Nat}
/-- The power of the denominator behind i rounds, the sum. -/
def hp (q : Rat) (i : Nat) : Rat := (((q.den ^ (i - 1) : Nat) : Int) : Rat)
def hs (W : List Rat) (q : Rat) (i : Nat) : Rat := hp q i * evL (W.drop (W.length - i)) q
theorem ev_drop_all {k : Nat} (h : l.length ≤ k) : evL (l.drop k) x = ((0 : Int) : Rat) := by rw [List.drop_eq_nil_of_le h]; rfl
theorem ev_drop1 {k : Nat} (h : 0 < k) (h2 : k ≤ l.length) : evL (l.drop (k - 1)) x = evL (l.drop k) x * x + l.getD (k - 1) 0 := by
  rw [List.drop_eq_getElem_cons (show k - 1 < l.length by omega), show k - 1 + 1 = k by omega, List.getD_eq_getElem?_getD, List.getElem?_eq_getElem (show k - 1 < l.length by omega), Option.getD_some]
  show _ + x * _ = _
  grind
theorem ev_drop0 : evL (l.drop 0) x = evL l x := rfl
theorem Sm.mem {D : Nat} (h : Sm l D A) : ∀ y ∈ l, Wh (y * ((D : Int) : Rat)) A := fun y hy => by
  obtain ⟨j, hj, e⟩ := List.getElem_of_mem hy
  have h9 := h.2 j
  unfold Nt.co at h9
  rw [List.getD_eq_getElem?_getD, List.getElem?_eq_getElem hj, Option.getD_some, e] at h9
  exact h9
end
end Go.Proofs.YtnedhbidmfoegaaGreat.Nt
namespace Go.Proofs.YtnedhbidmfoegaaGreat.Nt
open Go.RowKit
open Pol
set_option linter.unusedVariables false
section
variable {p q r : List Rat} {g h u v : Pol} {x y : Rat} {n : Int}
theorem frac12 (n : Int) : 0 ≤ ((n % 13 : Int) : Rat) / ((12 : Int) : Rat) ∧ ((n % 13 : Int) : Rat) / ((12 : Int) : Rat) ≤ 1 := by
  have h0 := Int.emod_nonneg n (show (13 : Int) ≠ 0 by decide)
  have h1 := Int.emod_lt_of_pos n (show (0 : Int) < 13 by decide)
  constructor
  · rw [le_div (by decide)]
    have : ((0 : Int) : Rat) ≤ ((n % 13 : Int) : Rat) := Rat.intCast_le_intCast.2 h0
    grind
  · rw [div_le (by decide)]
    have : ((n % 13 : Int) : Rat) ≤ ((12 : Int) : Rat) := Rat.intCast_le_intCast.2 (by omega)
    grind
theorem encloses (p : List Rat) (x y : Rat) (n : Int) : inI (encL (lo x y) (hi x y) p).1 (encL (lo x y) (hi x y) p).2 (evL p (lo x y + (hi (lo x y) (hi x y) - lo (lo x y) (hi x y)) * (((n % 13 : Int) : Rat) / ((12 : Int) : Rat)))) = true := by
  have h1 := lo_of_le (lo_le_hi x y)
  have h2 := frac12 n
  have h3 := part_in x y h2.1 h2.2
  rw [h1.1, h1.2]
  have h4 := encL_in (a := lo x y) (b := hi x y) (x := lo x y + (hi x y - lo x y) * (((n % 13 : Int) : Rat) / ((12 : Int) : Rat))) (by rw [h1.1, h1.2]; exact h3) p
  exact inI_of (encL_ord _ _ _) h4.1 h4.2
end
end Go.Proofs.YtnedhbidmfoegaaGreat.Nt
namespace Go.Proofs.YtnedhbidmfoegaaGreat
open Go.RowKit
set_option linter.unusedVariables false
set_option maxHeartbeats 2000000 in
theorem k_r5Eval {u w : World} {x : Sl} {l : List Rat} {r : RL} {q : Rat} {K M S : Nat} (d : Dat u w) (hx : PolV u x l K) (hr : RatV u r q M) (hS : K + M + 4 ≤ S) (hS9 : l.length * S ≤ 20000000) (hM : M ≤ 10000000) (hK : K ≤ 10000000) (hl9 : l.length ≤ 1000000) : Calls Tryz.prog 52 #[x.v, r.v] w (Post u w fun v u' => ∃ p : RL, v = p.v ∧ RatN u' p (Nt.Pol.evL l q) (l.length * S + 2)) := by
  have hlen := hx.len
  refine calls_sym (args := [.slice x.a x.n x.c, r.v]) Tryz.func52 rfl Tryz.ntmps52 (rs := [.cell 4 26]) Tryz.results52 (le_b rfl) (le_b rfl) d ?_
  refine sw_seq ?_
  refine sw_reg ?_
  refine sy_new 3 ⟨26, r.cs⟩ ?_
  refine sy_new 4 ⟨26, [.bool false, .slice none 0 0, .slice none 0 0]⟩ ?_
  refine sy_next 24 [(0, .v (.slice x.a x.n x.c)), (3, .adr 3 0), (4, .adr 4 0)] [(3, ⟨26, r.cs⟩), (4, ⟨26, [.bool false, .slice none 0 0, .slice none 0 0]⟩)] ?_
  refine sw_seq ?_
  refine sw_reg ?_
  refine sy_call 7 41 [.int .i64 0] ?_
  intro w11 u11 e11 d11
  have k16 := k_rqOf d11 (z := 0) (by omega) (by omega)
  with_reducible refine Post.mono k16 ?_
  clear k16
  rintro _ u14 g15 ⟨r12, rfl, h13⟩
  refine sy_new 5 ⟨26, [.bool false, .slice none 0 0, .slice none 0 0]⟩ ?_
  refine sy_store ⟨26, r12.cs⟩ ty26 ?_
  refine sy_next 24 [(0, .v (.slice x.a x.n x.c)), (3, .adr 3 0), (4, .adr 4 0), (5, .adr 5 0)] [(3, ⟨26, r.cs⟩), (4, ⟨26, [.bool false, .slice none 0 0, .slice none 0 0]⟩), (5, ⟨26, r12.cs⟩)] ?_
  refine sw_seq ?_
  refine sw_seq ?_
  refine sw_reg ?_
  refine sy_pure 8 (.v (.slice x.a x.n x.c)) ?_
  refine sy_pure 9 (.v (.int .i64 (x.n : Int))) ?_
  refine sy_eq 10 (x := .v (.int .i64 (IntKind.i64.wrap ((x.n : Int) - 1)))) (.v (.int .i64 ((x.n : Int) - 1))) (eqI (by rw [IntWalk.i64_in _ (by omega)]; try omega)) ?_
  refine sy_pure 6 (.v (.int .i64 ((x.n : Int) - 1))) ?_
  refine sy_next 24 [(0, .v (.slice x.a x.n x.c)), (3, .adr 3 0), (4, .adr 4 0), (5, .adr 5 0), (6, .v (.int .i64 ((x.n : Int) - 1)))] [(3, ⟨26, r.cs⟩), (4, ⟨26, [.bool false, .slice none 0 0, .slice none 0 0]⟩), (5, ⟨26, r12.cs⟩)] ?_
  refine sw_block ?_
  refine sw_loop (I := fun m17 S' u' => ∃ (k : Nat) (ry : RL), (m17 = k) ∧ (k ≤ l.length) ∧ (S' = St.of 24 [(0, .v (.slice x.a x.n x.c)), (3, .adr 3 0), (4, .adr 4 0), (5, .adr 5 0), (6, .v (.int .i64 ((k : Int) - 1)))] [(3, ⟨26, r.cs⟩), (4, ⟨26, [.bool false, .slice none 0 0, .slice none 0 0]⟩), (5, ⟨26, ry.cs⟩)]) ∧ (Ext u14 u') ∧ (RatN u' ry (Nt.Pol.evL (l.drop k) q) ((l.length - k) * S + 2))) (fun m S u1 u2 e h => by obtain ⟨k, ry, hm, p0, hS, hE, f0⟩ := h; exact ⟨k, ry, hm, p0, hS, hE.trans e, f0.ext e⟩) _ (T := St.of 24 [(0, .v (.slice x.a x.n x.c)), (3, .adr 3 0), (4, .adr 4 0), (5, .adr 5 0), (6, .v (.int .i64 ((x.n : Int) - 1)))] [(3, ⟨26, r.cs⟩), (4, ⟨26, [.bool false, .slice none 0 0, .slice none 0 0]⟩), (5, ⟨26, r12.cs⟩)]) (by exact weak_mk _ _ _) ⟨x.n, r12, rfl, by omega, rfl, Ext.refl _, (by rw [Nt.ev_drop_all (by omega)]; exact RatN.more (K := 2) h13 (by omega))⟩ ?_
  rintro m17 _ u17 ⟨k, ry, hm17, hk, rfl, e17, hY⟩
  have hm1 : (l.length - k) * S ≤ l.length * S := Nat.mul_le_mul_right _ (by omega)
  refine sw_seq ?_
  refine sw_seq ?_
  refine sw_reg ?_
  refine sy_pure 11 (.v (.int .i64 ((k : Int) - 1))) ?_
  refine sy_pure 12 (.v (.bool (decide ((0 : Int) ≤ ((k : Int) - 1))))) ?_
  refine sy_next 24 [(0, .v (.slice x.a x.n x.c)), (3, .adr 3 0), (4, .adr 4 0), (5, .adr 5 0), (6, .v (.int .i64 ((k : Int) - 1))), (12, .v (.bool (decide ((0 : Int) ≤ ((k : Int) - 1)))))] [(3, ⟨26, r.cs⟩), (4, ⟨26, [.bool false, .slice none 0 0, .slice none 0 0]⟩), (5, ⟨26, ry.cs⟩)] ?_
  refine sw_cond (b := decide ((0 : Int) ≤ ((k : Int) - 1))) (by kernel_rfl) (fun hb18 => ?_) (fun hb18 => ?_)
  · replace hb18 : (decide ((0 : Int) ≤ ((k : Int) - 1))) = true := hb18
    have qhb18 := of_decide_eq_true hb18
    refine sw_skip (mp_seq ?_)
    refine sw_seq ?_
    refine sw_block ?_
    refine sw_any [0, 0, 3, 0, 0, 24, 56, 127, 255] [(0, []), (1, []), (3, []), (4, []), (5, []), (6, []), (2, []), (7, []), (8, [])] (by kernel_rfl) (by kernel_rfl) ?_
    refine sy_ldv 15 (.v (ry.v)) ty26 part_agg ?_
    refine sy_ldv 16 (.v (r.v)) ty26 part_agg ?_
    refine sy_pure 18 (.v (.slice x.a x.n x.c)) ?_
    refine sy_eq 19 (x := .v (.int .i64 ((k : Int) - 1))) (.v (.int .i64 ((k - 1 : Nat) : Int))) (eqI (by omega)) ?_
    have hl19 := (hx.ext (e11.trans (g15.ext.trans e17))).len
    obtain ⟨r19, b19, o19, hA19, hc19, hr19⟩ := pol_at (hx.ext (e11.trans (g15.ext.trans e17))) (i := (k - 1)) (by omega)
    refine sy_index 20 (o19 + (k - 1) * 3) (n := x.n) (off := o19) (sz := 3) (i := ((k - 1 : Nat) : Int)) (by omega) hA19 (by omega) (by omega) sl41 ?_
    refine sy_ldn 21 r19.cs hc19 ty26 ?_
    refine sy_call 17 22 [ry.v, r.v] ?_
    intro w20 u20 e20 d20
    have k25 := k_rqMul d20 (hY.ext e20).raw (hr.ext (e11.trans (g15.ext.trans (e17.trans e20)))) (by omega) (by omega)
    with_reducible refine Post.mono k25 ?_
    clear k25
    rintro _ u23 g24 ⟨r21, rfl, h22⟩
    refine sy_call 22 18 [r21.v, r19.v] ?_
    intro w26 u26 e26 d26
    have k31 := k_rqAdd d26 (h22.ext e26).raw (hr19.ext (e20.trans (g24.ext.trans e26))) (by omega) (by omega)
    with_reducible refine Post.mono k31 ?_
    clear k31
    rintro _ u29 g30 ⟨r27, rfl, h28⟩
    refine sy_store ⟨26, r27.cs⟩ ty26 ?_
    refine sy_end ?_
    refine mp_seq ?_
    refine sw_reg ?_
    refine sy_pure 13 (.v (.int .i64 ((k : Int) - 1))) ?_
    refine sy_eq 14 (x := .v (.int .i64 (IntKind.i64.wrap (((k : Int) - 1) - 1)))) (.v (.int .i64 (((k - 1 : Nat) : Int) - 1))) (eqI (by rw [IntWalk.i64_in _ (by omega)]; try omega)) ?_
    refine sy_pure 6 (.v (.int .i64 (((k - 1 : Nat) : Int) - 1))) ?_
    refine sy_end ?_
    have hs1 : (l.length - (k - 1)) * S = (l.length - k) * S + S := by rw [show l.length - (k - 1) = (l.length - k) + 1 by omega, Nat.add_mul, Nat.one_mul]
    refine ⟨_, ?_, St.of 24 [(0, .v (.slice x.a x.n x.c)), (3, .adr 3 0), (4, .adr 4 0), (5, .adr 5 0), (6, .v (.int .i64 (((k - 1 : Nat) : Int) - 1)))] [(3, ⟨26, r.cs⟩), (4, ⟨26, [.bool false, .slice none 0 0, .slice none 0 0]⟩), (5, ⟨26, r27.cs⟩)], by exact weak_mk _ _ _, k - 1, r27, rfl, by omega, rfl, (e17.trans (e20.trans (g24.ext.trans (e26.trans g30.ext)))), (by rw [Nt.ev_drop1 (by omega) (by omega)]; exact RatN.more (K := ((((l.length - k) * S + 2) + M + 1) + K + 2)) h28 (by omega))⟩
    omega
  · replace hb18 : (decide ((0 : Int) ≤ ((k : Int) - 1))) = false := hb18
    have qhb18 := of_decide_eq_false hb18
    refine sw_exit ?_
    refine mp_seq ?_
    refine sw_seq ?_
    refine sw_reg ?_
    refine sy_ldv 23 (.v (ry.v)) ty26 part_agg ?_
    refine sy_store ⟨26, ry.cs⟩ ty26 ?_
    refine sy_next 24 [(4, .adr 4 0)] [(4, ⟨26, ry.cs⟩)] ?_
    refine sw_ret (ret0 [ry.v] ⟨res_cell ty26 part_agg, trivial⟩ fun u32 e33 => ?_)
    have hk0 : k = 0 := by omega
    refine ⟨ry, rfl, RatN.more (K := ((l.length - k) * S + 2)) ?_ (by omega)⟩
    have h9 := (hY.ext e33)
    rw [hk0, Nt.ev_drop0] at h9
    rw [hk0]
    exact h9
set_option maxHeartbeats 4000000 in
theorem k_poEnclose {u w : World} {x : Sl} {l : List Rat} {b1 b2 : RL} {y1 y2 : Rat} {K M S : Nat} (d : Dat u w) (hx : PolV u x l K) (hb1 : RatV u b1 y1 M) (hb2 : RatV u b2 y2 M) (hS : K + M + 2 ≤ S) (hS9 : l.length * S ≤ 20000000) (hM : M ≤ 10000000) (hK : K ≤ 10000000) (hl9 : l.length ≤ 1000000) : Calls Tryz.prog 51 #[x.v, IV b1 b2] w (Post u w fun v u' => ∃ p q : RL, v = IV p q ∧ RatN u' p (Nt.encL y1 y2 l).1 (l.length * S + 2) ∧ RatN u' q (Nt.encL y1 y2 l).2 (l.length * S + 2)) := by
  have hlen := hx.len
  refine calls_sym (args := [.slice x.a x.n x.c, .agg #[.bool b1.s, .slice b1.m.a b1.m.n b1.m.c, .slice b1.d.a b1.d.n b1.d.c, .bool b2.s, .slice b2.m.a b2.m.n b2.m.c, .slice b2.d.a b2.d.n b2.d.c]]) Tryz.func51 rfl Tryz.ntmps51 (rs := [.cell 4 28]) Tryz.results51 (le_b rfl) (le_b rfl) d ?_
  refine sw_seq ?_
  refine sw_reg ?_
  refine sy_new 3 ⟨28, b1.cs ++ b2.cs⟩ ?_
  refine sy_new 4 ⟨28, [.bool false, .slice none 0 0, .slice none 0 0, .bool false, .slice none 0 0, .slice none 0 0]⟩ ?_
  refine sy_next 33 [(0, .v (.slice x.a x.n x.c)), (3, .adr 3 0), (4, .adr 4 0)] [(3, ⟨28, b1.cs ++ b2.cs⟩), (4, ⟨28, [.bool false, .slice none 0 0, .slice none 0 0, .bool false, .slice none 0 0, .slice none 0 0]⟩)] ?_
  refine sw_seq ?_
  refine sw_reg ?_
  refine sy_call 8 112 [.int .i64 0] ?_
  intro w11 u11 e11 d11
  have k16 := k_ratOf d11 (z := 0) (by omega) (by omega)
  with_reducible refine Post.mono k16 ?_
  clear k16
  rintro _ u14 g15 ⟨r12, rfl, h13⟩
  refine sy_call 9 112 [.int .i64 0] ?_
  intro w17 u17 e17 d17
  have k22 := k_ratOf d17 (z := 0) (by omega) (by omega)
  with_reducible refine Post.mono k22 ?_
  clear k22
  rintro _ u20 g21 ⟨r18, rfl, h19⟩
  refine sy_call 10 70 [r12.v, r18.v] ?_
  intro w23 u23 e23 d23
  have k30 := k_ivMake d23 (h13.ext (e17.trans (g21.ext.trans e23))).raw (h19.ext e23).raw (by omega)
  with_reducible refine Post.mono k30 ?_
  clear k30
  rintro _ u28 g29 ⟨r24, r26, rfl, h25, h27⟩
  refine sy_new 5 ⟨28, [.bool false, .slice none 0 0, .slice none 0 0, .bool false, .slice none 0 0, .slice none 0 0]⟩ ?_
  refine sy_store ⟨28, r24.cs ++ r26.cs⟩ ty28 ?_
  refine sy_next 33 [(0, .v (.slice x.a x.n x.c)), (3, .adr 3 0), (4, .adr 4 0), (5, .adr 5 0)] [(3, ⟨28, b1.cs ++ b2.cs⟩), (4, ⟨28, [.bool false, .slice none 0 0, .slice none 0 0, .bool false, .slice none 0 0, .slice none 0 0]⟩), (5, ⟨28, r24.cs ++ r26.cs⟩)] ?_
  refine sw_seq ?_
  refine sw_seq ?_
  refine sw_reg ?_
  refine sy_pure 11 (.v (.slice x.a x.n x.c)) ?_
  refine sy_pure 12 (.v (.int .i64 (x.n : Int))) ?_
  refine sy_pure 13 (.v (.int .i64 0)) ?_
  refine sy_next 33 [(0, .v (.slice x.a x.n x.c)), (3, .adr 3 0), (4, .adr 4 0), (5, .adr 5 0), (12, .v (.int .i64 (x.n : Int))), (13, .v (.int .i64 0))] [(3, ⟨28, b1.cs ++ b2.cs⟩), (4, ⟨28, [.bool false, .slice none 0 0, .slice none 0 0, .bool false, .slice none 0 0, .slice none 0 0]⟩), (5, ⟨28, r24.cs ++ r26.cs⟩)] ?_
  refine sw_block ?_
  refine sw_loop (I := fun m31 S' u' => ∃ (i : Nat) (p1 : RL) (p2 : RL), (m31 = l.length - i) ∧ (i ≤ l.length) ∧ (S' = St.of 33 [(0, .v (.slice x.a x.n x.c)), (3, .adr 3 0), (4, .adr 4 0), (5, .adr 5 0), (12, .v (.int .i64 (x.n : Int))), (13, .v (.int .i64 (i : Int)))] [(3, ⟨28, b1.cs ++ b2.cs⟩), (4, ⟨28, [.bool false, .slice none 0 0, .slice none 0 0, .bool false, .slice none 0 0, .slice none 0 0]⟩), (5, ⟨28, p1.cs ++ p2.cs⟩)]) ∧ (Ext u28 u') ∧ (RatN u' p1 (Nt.encL y1 y2 (l.drop (l.length - i))).1 (i * S + 2)) ∧ (RatN u' p2 (Nt.encL y1 y2 (l.drop (l.length - i))).2 (i * S + 2))) (fun m S u1 u2 e h => by obtain ⟨i, p1, p2, hm, p0, hS, hE, f0, f1⟩ := h; exact ⟨i, p1, p2, hm, p0, hS, hE.trans e, f0.ext e, f1.ext e⟩) _ (T := St.of 33 [(0, .v (.slice x.a x.n x.c)), (3, .adr 3 0), (4, .adr 4 0), (5, .adr 5 0), (12, .v (.int .i64 (x.n : Int))), (13, .v (.int .i64 0))] [(3, ⟨28, b1.cs ++ b2.cs⟩), (4, ⟨28, [.bool false, .slice none 0 0, .slice none 0 0, .bool false, .slice none 0 0, .slice none 0 0]⟩), (5, ⟨28, r24.cs ++ r26.cs⟩)]) (by exact weak_mk _ _ _) ⟨0, r24, r26, rfl, by omega, rfl, Ext.refl _, (by rw [Nat.sub_zero, List.drop_length]; have h9 := h25; rw [show (Nt.lo ((0 : Int) : Rat) ((0 : Int) : Rat)) = (0 : Rat) from (by decide +kernel)] at h9; exact RatN.more (K := 2) h9 (by omega)), (by rw [Nat.sub_zero, List.drop_length]; have h9 := h27; rw [show (Nt.hi ((0 : Int) : Rat) ((0 : Int) : Rat)) = (0 : Rat) from (by decide +kernel)] at h9; exact RatN.more (K := 2) h9 (by omega))⟩ ?_
  rintro m31 _ u31 ⟨i, p1, p2, hm31, hi, rfl, e31, hP, hQ⟩
  have hm1 : i * S ≤ l.length * S := Nat.mul_le_mul_right _ (by omega)
  refine sw_seq ?_
  refine sw_reg ?_
  refine sy_pure 14 (.v (.bool (decide ((i : Int) < (x.n : Int))))) ?_
  refine sy_next 33 [(0, .v (.slice x.a x.n x.c)), (3, .adr 3 0), (4, .adr 4 0), (5, .adr 5 0), (12, .v (.int .i64 (x.n : Int))), (13, .v (.int .i64 (i : Int))), (14, .v (.bool (decide ((i : Int) < (x.n : Int)))))] [(3, ⟨28, b1.cs ++ b2.cs⟩), (4, ⟨28, [.bool false, .slice none 0 0, .slice none 0 0, .bool false, .slice none 0 0, .slice none 0 0]⟩), (5, ⟨28, p1.cs ++ p2.cs⟩)] ?_
  refine sw_seq ?_
  refine sw_cond (b := decide ((i : Int) < (x.n : Int))) (by kernel_rfl) (fun hb32 => ?_) (fun hb32 => ?_)
  · replace hb32 : (decide ((i : Int) < (x.n : Int))) = true := hb32
    have qhb32 := of_decide_eq_true hb32
    refine sw_skip (mp_seq ?_)
    refine sw_seq ?_
    refine sw_block ?_
    refine sw_seq ?_
    refine sw_reg ?_
    refine sy_pure 15 (.v (.int .i64 (i : Int))) ?_
    refine sy_pure 6 (.v (.int .i64 (i : Int))) ?_
    refine sy_next 33 [(0, .v (.slice x.a x.n x.c)), (3, .adr 3 0), (4, .adr 4 0), (5, .adr 5 0), (6, .v (.int .i64 (i : Int))), (12, .v (.int .i64 (x.n : Int))), (13, .v (.int .i64 (i : Int)))] [(3, ⟨28, b1.cs ++ b2.cs⟩), (4, ⟨28, [.bool false, .slice none 0 0, .slice none 0 0, .bool false, .slice none 0 0, .slice none 0 0]⟩), (5, ⟨28, p1.cs ++ p2.cs⟩)] ?_
    refine sw_seq ?_
    refine sw_reg ?_
    refine sy_pure 16 (.v (.slice x.a x.n x.c)) ?_
    refine sy_pure 17 (.v (.slice x.a x.n x.c)) ?_
    refine sy_pure 18 (.v (.int .i64 (x.n : Int))) ?_
    refine sy_eq 19 (x := .v (.int .i64 (IntKind.i64.wrap ((x.n : Int) - 1)))) (.v (.int .i64 ((x.n - 1 : Nat) : Int))) (eqI (by rw [IntWalk.i64_in _ (by omega)]; omega)) ?_
    refine sy_pure 20 (.v (.int .i64 (i : Int))) ?_
    refine sy_eq 21 (x := .v (.int .i64 (IntKind.i64.wrap (((x.n - 1 : Nat) : Int) - (i : Int))))) (.v (.int .i64 (((x.n - 1) - i : Nat) : Int))) (eqI (by rw [IntWalk.i64_in _ (by omega)]; omega)) ?_
    have hl33 := (hx.ext (e11.trans (g15.ext.trans (e17.trans (g21.ext.trans (e23.trans (g29.ext.trans e31))))))).len
    obtain ⟨r33, b33, o33, hA33, hc33, hr33⟩ := pol_at (hx.ext (e11.trans (g15.ext.trans (e17.trans (g21.ext.trans (e23.trans (g29.ext.trans e31))))))) (i := (x.n - 1) - i) (by omega)
    refine sy_index 22 (o33 + ((x.n - 1) - i) * 3) (n := x.n) (off := o33) (sz := 3) (i := (((x.n - 1) - i : Nat) : Int)) (by omega) hA33 (by omega) (by omega) sl41 ?_
    refine sy_ldn 23 r33.cs hc33 ty26 ?_
    refine sy_new 7 ⟨26, [.bool false, .slice none 0 0, .slice none 0 0]⟩ ?_
    refine sy_store ⟨26, r33.cs⟩ ty26 ?_
    refine sy_next 33 [(0, .v (.slice x.a x.n x.c)), (3, .adr 3 0), (4, .adr 4 0), (5, .adr 5 0), (7, .adr 7 0), (12, .v (.int .i64 (x.n : Int))), (13, .v (.int .i64 (i : Int)))] [(3, ⟨28, b1.cs ++ b2.cs⟩), (4, ⟨28, [.bool false, .slice none 0 0, .slice none 0 0, .bool false, .slice none 0 0, .slice none 0 0]⟩), (5, ⟨28, p1.cs ++ p2.cs⟩), (7, ⟨26, r33.cs⟩)] ?_
    refine sw_any [0, 0, 3, 0, 0, 31, 63, 127] [(0, []), (1, []), (3, []), (4, []), (2, []), (5, []), (6, []), (7, [])] (by kernel_rfl) (by kernel_rfl) ?_
    refine sy_ldv 24 (.v (.agg #[.bool p1.s, .slice p1.m.a p1.m.n p1.m.c, .slice p1.d.a p1.d.n p1.d.c, .bool p2.s, .slice p2.m.a p2.m.n p2.m.c, .slice p2.d.a p2.d.n p2.d.c])) ty28 part_agg ?_
    refine sy_ldv 25 (.v (.agg #[.bool b1.s, .slice b1.m.a b1.m.n b1.m.c, .slice b1.d.a b1.d.n b1.d.c, .bool b2.s, .slice b2.m.a b2.m.n b2.m.c, .slice b2.d.a b2.d.n b2.d.c])) ty28 part_agg ?_
    refine sy_ldv 27 (.v (r33.v)) ty26 part_agg ?_
    refine sy_ldv 28 (.v (r33.v)) ty26 part_agg ?_
    refine sy_call 26 21 [.agg #[.bool p1.s, .slice p1.m.a p1.m.n p1.m.c, .slice p1.d.a p1.d.n p1.d.c, .bool p2.s, .slice p2.m.a p2.m.n p2.m.c, .slice p2.d.a p2.d.n p2.d.c], .agg #[.bool b1.s, .slice b1.m.a b1.m.n b1.m.c, .slice b1.d.a b1.d.n b1.d.c, .bool b2.s, .slice b2.m.a b2.m.n b2.m.c, .slice b2.d.a b2.d.n b2.d.c]] ?_
    intro w34 u34 e34 d34
    have k41 := k_ivMul d34 (hP.ext e34).raw (hQ.ext e34).raw (hb1.ext (e11.trans (g15.ext.trans (e17.trans (g21.ext.trans (e23.trans (g29.ext.trans (e31.trans e34)))))))) (hb2.ext (e11.trans (g15.ext.trans (e17.trans (g21.ext.trans (e23.trans (g29.ext.trans (e31.trans e34)))))))) (by omega) (by omega)
    with_reducible refine Post.mono k41 ?_
    clear k41
    rintro _ u39 g40 ⟨r35, r37, rfl, h36, h38⟩
    refine sy_call 29 70 [r33.v, r33.v] ?_
    intro w42 u42 e42 d42
    have k49 := k_ivMake d42 (hr33.ext (e34.trans (g40.ext.trans e42))) (hr33.ext (e34.trans (g40.ext.trans e42))) (by omega)
    with_reducible refine Post.mono k49 ?_
    clear k49
    rintro _ u47 g48 ⟨r43, r45, rfl, h44, h46⟩
    refine sy_call 30 17 [.agg #[.bool r35.s, .slice r35.m.a r35.m.n r35.m.c, .slice r35.d.a r35.d.n r35.d.c, .bool r37.s, .slice r37.m.a r37.m.n r37.m.c, .slice r37.d.a r37.d.n r37.d.c], .agg #[.bool r43.s, .slice r43.m.a r43.m.n r43.m.c, .slice r43.d.a r43.d.n r43.d.c, .bool r45.s, .slice r45.m.a r45.m.n r45.m.c, .slice r45.d.a r45.d.n r45.d.c]] ?_
    intro w50 u50 e50 d50
    have k57 := k_ivAdd d50 (h36.ext (e42.trans (g48.ext.trans e50))).raw (h38.ext (e42.trans (g48.ext.trans e50))).raw (h44.ext e50).raw (h46.ext e50).raw (by omega) (by omega)
    with_reducible refine Post.mono k57 ?_
    clear k57
    rintro _ u55 g56 ⟨r51, r53, rfl, h52, h54⟩
    refine sy_store ⟨28, r51.cs ++ r53.cs⟩ ty28 ?_
    refine sy_end ?_
    refine mp_seq ?_
    refine sw_reg ?_
    refine sy_eq 31 (x := .v (.int .i64 (IntKind.i64.wrap ((i : Int) + 1)))) (.v (.int .i64 ((i + 1 : Nat) : Int))) (eqI (by rw [IntWalk.i64_in _ (by omega)]; omega)) ?_
    refine sy_pure 13 (.v (.int .i64 ((i + 1 : Nat) : Int))) ?_
    refine sy_end ?_
    have hs1 : (i + 1) * S = i * S + S := by rw [Nat.add_mul, Nat.one_mul]
    refine ⟨_, ?_, St.of 33 [(0, .v (.slice x.a x.n x.c)), (3, .adr 3 0), (4, .adr 4 0), (5, .adr 5 0), (12, .v (.int .i64 (x.n : Int))), (13, .v (.int .i64 ((i + 1 : Nat) : Int)))] [(3, ⟨28, b1.cs ++ b2.cs⟩), (4, ⟨28, [.bool false, .slice none 0 0, .slice none 0 0, .bool false, .slice none 0 0, .slice none 0 0]⟩), (5, ⟨28, r51.cs ++ r53.cs⟩)], by exact weak_mk _ _ _, i + 1, r51, r53, rfl, by omega, rfl, (e31.trans (e34.trans (g40.ext.trans (e42.trans (g48.ext.trans (e50.trans g56.ext)))))), (by have h9 := h52; rw [(Nt.enc_step _ _ _ _ _).1, hlen] at h9; rw [Nt.enc_top (by omega)]; exact RatN.more (K := (((i * S + 2) + M) + K + 1)) h9 (by omega)), (by have h9 := h54; rw [(Nt.enc_step _ _ _ _ _).2, hlen] at h9; rw [Nt.enc_top (by omega)]; exact RatN.more (K := (((i * S + 2) + M) + K + 1)) h9 (by omega))⟩
    omega
  · replace hb32 : (decide ((i : Int) < (x.n : Int))) = false := hb32
    have qhb32 := of_decide_eq_false hb32
    refine sw_exit ?_
    refine mp_seq ?_
    refine sw_seq ?_
    refine sw_reg ?_
    refine sy_ldv 32 (.v (.agg #[.bool p1.s, .slice p1.m.a p1.m.n p1.m.c, .slice p1.d.a p1.d.n p1.d.c, .bool p2.s, .slice p2.m.a p2.m.n p2.m.c, .slice p2.d.a p2.d.n p2.d.c])) ty28 part_agg ?_
    refine sy_store ⟨28, p1.cs ++ p2.cs⟩ ty28 ?_
    refine sy_next 33 [(4, .adr 4 0)] [(4, ⟨28, p1.cs ++ p2.cs⟩)] ?_
    refine sw_ret (ret0 [.agg #[.bool p1.s, .slice p1.m.a p1.m.n p1.m.c, .slice p1.d.a p1.d.n p1.d.c, .bool p2.s, .slice p2.m.a p2.m.n p2.m.c, .slice p2.d.a p2.d.n p2.d.c]] ⟨res_cell ty28 part_agg, trivial⟩ fun u58 e59 => ?_)
    have hin : i = l.length := by omega
    refine ⟨p1, p2, rfl, ?_, ?_⟩
    · have h9 := (hP.ext e59)
      rw [hin, Nat.sub_self] at h9
      exact h9
    · have h9 := (hQ.ext e59)
      rw [hin, Nat.sub_self] at h9
      exact h9
end Go.Proofs.YtnedhbidmfoegaaGreat
namespace Go.Proofs.YtnedhbidmfoegaaGreat
open Go.RowKit
set_option linter.unusedVariables false
set_option maxHeartbeats 8000000 in
theorem w_pencloses {u w : World} {x : Sl} {l : List Int} (d : Dat u w) (hx : SlR .i64 u x.a x.n x.c l) (hb : ∀ z ∈ l, -9223372036854775808 ≤ z ∧ z ≤ 9223372036854775807) {a b n : Int} (ha0 : -9223372036854775808 ≤ a) (ha1 : a ≤ 9223372036854775807) (hb0 : -9223372036854775808 ≤ b) (hb1 : b ≤ 9223372036854775807) (hn0 : -9223372036854775808 ≤ n) (hn1 : n ≤ 9223372036854775807) : Calls Tryz.prog 7 #[x.v, .int .i64 a, .int .i64 b, .int .i64 n] w (Post u w fun v _ => v = .bool true) := by
  refine calls_sym (args := [.slice x.a x.n x.c, .int .i64 a, .int .i64 b, .int .i64 n]) Tryz.func7 rfl Tryz.ntmps7 (rs := [.tmp 8]) Tryz.results7 (le_b rfl) (le_b rfl) d ?_
  refine sw_seq ?_
  refine sw_reg ?_
  refine sy_pure 8 (.v (.bool false)) ?_
  refine sy_next 38 [(0, .v (.slice x.a x.n x.c)), (1, .v (.int .i64 a)), (2, .v (.int .i64 b)), (3, .v (.int .i64 n))] [] ?_
  refine sw_seq ?_
  refine sw_reg ?_
  refine sy_pure 12 (.v (.slice x.a x.n x.c)) ?_
  refine sy_call 13 39 [.slice x.a x.n x.c, .int .i64 6] ?_
  intro w11 u11 e11 d11
  have k17 := (show Calls _ _ #[.slice x.a x.n x.c, .int .i64 6] _ _ from k_mkPoly (D := 6) d11 (hx.ext e11) hb (by decide))
  with_reducible refine Post.mono k17 ?_
  clear k17
  rintro _ u15 g16 ⟨y12, rfl, h13⟩
  have hly12 := h13.len
  have hm14 : (Nt.mkP l 6).length ≤ 7 := Nt.mkP_len l 6
  refine sy_pure 14 (.v (.int .i64 a)) ?_
  refine sy_call 15 47 [.int .i64 a] ?_
  intro w18 u18 e18 d18
  have k23 := k_mkRat d18 (n := a) (by omega) (by omega)
  with_reducible refine Post.mono k23 ?_
  clear k23
  rintro _ u21 g22 ⟨r19, rfl, h20⟩
  refine sy_pure 16 (.v (.int .i64 b)) ?_
  refine sy_call 17 47 [.int .i64 b] ?_
  intro w24 u24 e24 d24
  have k29 := k_mkRat d24 (n := b) (by omega) (by omega)
  with_reducible refine Post.mono k29 ?_
  clear k29
  rintro _ u27 g28 ⟨r25, rfl, h26⟩
  refine sy_call 18 46 [r19.v, r25.v] ?_
  intro w30 u30 e30 d30
  have k37 := k_r4Make d30 (h20.ext (e24.trans (g28.ext.trans e30))).raw (h26.ext e30).raw (by omega)
  with_reducible refine Post.mono k37 ?_
  clear k37
  rintro _ u35 g36 ⟨r31, r33, rfl, h32, h34⟩
  refine sy_new 10 ⟨28, [.bool false, .slice none 0 0, .slice none 0 0, .bool false, .slice none 0 0, .slice none 0 0]⟩ ?_
  refine sy_pure 9 (.v (.slice y12.a y12.n y12.c)) ?_
  refine sy_store ⟨28, r31.cs ++ r33.cs⟩ ty28 ?_
  refine sy_next 38 [(3, .v (.int .i64 n)), (9, .v (.slice y12.a y12.n y12.c)), (10, .adr 10 0)] [(10, ⟨28, r31.cs ++ r33.cs⟩)] ?_
  refine sw_seq ?_
  refine sw_any [0, 1, 0, 4, 0, 28, 60, 124, 255, 0, 1023] [(0, []), (1, []), (2, []), (4, []), (9, []), (3, []), (5, []), (6, []), (7, []), (8, []), (10, [])] (by kernel_rfl) (by kernel_rfl) ?_
  refine sy_pure 19 (.adr 10 0) ?_
  refine sy_ldv 20 (.v (r31.v)) ty26 part_agg ?_
  refine sy_ldv 21 (.v (.agg #[.bool r31.s, .slice r31.m.a r31.m.n r31.m.c, .slice r31.d.a r31.d.n r31.d.c, .bool r33.s, .slice r33.m.a r33.m.n r33.m.c, .slice r33.d.a r33.d.n r33.d.c])) ty28 part_agg ?_
  refine sy_pure 23 (.v (.int .i64 n)) ?_
  refine sy_new 11 ⟨26, [.bool false, .slice none 0 0, .slice none 0 0]⟩ ?_
  refine sy_call 22 48 [.agg #[.bool r31.s, .slice r31.m.a r31.m.n r31.m.c, .slice r31.d.a r31.d.n r31.d.c, .bool r33.s, .slice r33.m.a r33.m.n r33.m.c, .slice r33.d.a r33.d.n r33.d.c]] ?_
  intro w38 u38 e38 d38
  have k43 := k_r4Width d38 (h32.ext e38).raw (h34.ext e38).raw (by omega)
  with_reducible refine Post.mono k43 ?_
  clear k43
  rintro _ u41 g42 ⟨r39, rfl, h40⟩
  refine sy_call 24 50 [.int .i64 n, .int .i64 13] ?_
  intro w44 u44 e44 d44
  have k47 := k_Mod d44 (n := n) (m := 13) (by omega) (by omega) (by omega) (by omega)
  with_reducible refine Post.mono k47 ?_
  clear k47
  rintro _ u45 g46 rfl
  refine sy_call 25 49 [.int .i64 (n % 13), .int .i64 12] ?_
  intro w48 u48 e48 d48
  have k53 := k_rqFrac d48 (a := n % 13) (b := 12) (by omega) (by omega) (by omega) (by omega)
  with_reducible refine Post.mono k53 ?_
  clear k53
  rintro _ u51 g52 ⟨r49, rfl, h50⟩
  refine sy_call 26 22 [r39.v, r49.v] ?_
  intro w54 u54 e54 d54
  have k59 := k_rqMul d54 (h40.ext (e44.trans (g46.ext.trans (e48.trans (g52.ext.trans e54))))).raw (h50.ext e54).raw (by omega) (by omega)
  with_reducible refine Post.mono k59 ?_
  clear k59
  rintro _ u57 g58 ⟨r55, rfl, h56⟩
  refine sy_call 27 18 [r31.v, r55.v] ?_
  intro w60 u60 e60 d60
  have k65 := k_rqAdd d60 (h32.ext (e38.trans (g42.ext.trans (e44.trans (g46.ext.trans (e48.trans (g52.ext.trans (e54.trans (g58.ext.trans e60))))))))).raw (h56.ext e60).raw (by omega) (by omega)
  with_reducible refine Post.mono k65 ?_
  clear k65
  rintro _ u63 g64 ⟨r61, rfl, h62⟩
  refine sy_store ⟨26, r61.cs⟩ ty26 ?_
  refine sy_next 38 [(9, .v (.slice y12.a y12.n y12.c)), (10, .adr 10 0), (11, .adr 11 0)] [(10, ⟨28, r31.cs ++ r33.cs⟩), (11, ⟨26, r61.cs⟩)] ?_
  refine sw_seq ?_
  refine sw_any [0, 1, 3, 3, 15, 3, 3, 127, 255, 511, 1023] [(0, []), (1, []), (2, []), (3, []), (5, []), (6, []), (4, []), (7, []), (8, []), (9, []), (10, [])] (by kernel_rfl) (by kernel_rfl) ?_
  refine sy_call 28 26 [] ?_
  intro w66 u66 e66 d66
  have k69 := k_awake5 d66
  with_reducible refine Post.mono k69 ?_
  clear k69
  rintro _ u67 g68 rfl
  refine sy_pure 29 (.v (.bool true)) ?_
  refine sy_pure 30 (.v (.slice y12.a y12.n y12.c)) ?_ (hw := wants1 (g := 1) (b := true) (t := 29) (by kernel_rfl) (by kernel_rfl) (by kernel_rfl))
  refine sy_ldv 31 (.v (.agg #[.bool r31.s, .slice r31.m.a r31.m.n r31.m.c, .slice r31.d.a r31.d.n r31.d.c, .bool r33.s, .slice r33.m.a r33.m.n r33.m.c, .slice r33.d.a r33.d.n r33.d.c])) ty28 part_agg ?_ (hw := wants1 (g := 1) (b := true) (t := 29) (by kernel_rfl) (by kernel_rfl) (by kernel_rfl))
  refine sy_pure 33 (.v (.slice y12.a y12.n y12.c)) ?_ (hw := wants1 (g := 1) (b := true) (t := 29) (by kernel_rfl) (by kernel_rfl) (by kernel_rfl))
  refine sy_ldv 34 (.v (r61.v)) ty26 part_agg ?_ (hw := wants1 (g := 1) (b := true) (t := 29) (by kernel_rfl) (by kernel_rfl) (by kernel_rfl))
  refine sy_call 32 51 [.slice y12.a y12.n y12.c, .agg #[.bool r31.s, .slice r31.m.a r31.m.n r31.m.c, .slice r31.d.a r31.d.n r31.d.c, .bool r33.s, .slice r33.m.a r33.m.n r33.m.c, .slice r33.d.a r33.d.n r33.d.c]] ?_ (hw := wants1 (g := 1) (b := true) (t := 29) (by kernel_rfl) (by kernel_rfl) (by kernel_rfl))
  intro w70 u70 e70 d70
  have k77 := k_poEnclose (M := 1) (S := 4) d70 (h13.ext (e18.trans (g22.ext.trans (e24.trans (g28.ext.trans (e30.trans (g36.ext.trans (e38.trans (g42.ext.trans (e44.trans (g46.ext.trans (e48.trans (g52.ext.trans (e54.trans (g58.ext.trans (e60.trans (g64.ext.trans (e66.trans (g68.ext.trans e70))))))))))))))))))).raw ((h32.ext (e38.trans (g42.ext.trans (e44.trans (g46.ext.trans (e48.trans (g52.ext.trans (e54.trans (g58.ext.trans (e60.trans (g64.ext.trans (e66.trans (g68.ext.trans e70))))))))))))).raw.more (by decide)) ((h34.ext (e38.trans (g42.ext.trans (e44.trans (g46.ext.trans (e48.trans (g52.ext.trans (e54.trans (g58.ext.trans (e60.trans (g64.ext.trans (e66.trans (g68.ext.trans e70))))))))))))).raw.more (by decide)) (by omega) (by have h9 := hm14; omega) (by omega) (by omega) (by have h9 := hm14; omega)
  with_reducible refine Post.mono k77 ?_
  clear k77
  rintro _ u75 g76 ⟨r71, r73, rfl, h72, h74⟩
  replace h72 : RatN _ r71 (Nt.encL (Nt.lo (Nt.mkR a) (Nt.mkR b)) (Nt.hi (Nt.mkR a) (Nt.mkR b)) (Nt.mkP l 6)).1 30 := RatN.more h72 (by have h9 := hm14; omega)
  replace h74 : RatN _ r73 (Nt.encL (Nt.lo (Nt.mkR a) (Nt.mkR b)) (Nt.hi (Nt.mkR a) (Nt.mkR b)) (Nt.mkP l 6)).2 30 := RatN.more h74 (by have h9 := hm14; omega)
  refine sy_call 35 52 [.slice y12.a y12.n y12.c, r61.v] ?_ (hw := wants1 (g := 1) (b := true) (t := 29) (by kernel_rfl) (by kernel_rfl) (by kernel_rfl))
  intro w78 u78 e78 d78
  have k83 := k_r5Eval (S := 16) d78 (h13.ext (e18.trans (g22.ext.trans (e24.trans (g28.ext.trans (e30.trans (g36.ext.trans (e38.trans (g42.ext.trans (e44.trans (g46.ext.trans (e48.trans (g52.ext.trans (e54.trans (g58.ext.trans (e60.trans (g64.ext.trans (e66.trans (g68.ext.trans (e70.trans (g76.ext.trans e78))))))))))))))))))))).raw (h62.ext (e66.trans (g68.ext.trans (e70.trans (g76.ext.trans e78))))).raw (by omega) (by have h9 := hm14; omega) (by omega) (by omega) (by have h9 := hm14; omega)
  with_reducible refine Post.mono k83 ?_
  clear k83
  rintro _ u81 g82 ⟨r79, rfl, h80⟩
  replace h80 : RatN _ r79 (Nt.Pol.evL (Nt.mkP l 6) ((Nt.lo (Nt.mkR a) (Nt.mkR b)) + ((Nt.hi (Nt.lo (Nt.mkR a) (Nt.mkR b)) (Nt.hi (Nt.mkR a) (Nt.mkR b)) - Nt.lo (Nt.lo (Nt.mkR a) (Nt.mkR b)) (Nt.hi (Nt.mkR a) (Nt.mkR b))) * (((n % 13 : Int) : Rat) / ((12 : Int) : Rat))))) 114 := RatN.more h80 (by have h9 := hm14; omega)
  refine sy_call 36 15 [.agg #[.bool r71.s, .slice r71.m.a r71.m.n r71.m.c, .slice r71.d.a r71.d.n r71.d.c, .bool r73.s, .slice r73.m.a r73.m.n r73.m.c, .slice r73.d.a r73.d.n r73.d.c], r79.v] ?_ (hw := wants1 (g := 1) (b := true) (t := 29) (by kernel_rfl) (by kernel_rfl) (by kernel_rfl))
  intro w84 u84 e84 d84
  have k87 := k_r4Contains d84 (h72.ext (e78.trans (g82.ext.trans e84))).raw (h74.ext (e78.trans (g82.ext.trans e84))).raw (h80.ext e84).raw (by omega) (by omega)
  with_reducible refine Post.mono k87 ?_
  clear k87
  rintro _ u85 g86 rfl
  refine sy_pure 37 (.v (.bool (Nt.inI (Nt.encL (Nt.lo (Nt.mkR a) (Nt.mkR b)) (Nt.hi (Nt.mkR a) (Nt.mkR b)) (Nt.mkP l 6)).1 (Nt.encL (Nt.lo (Nt.mkR a) (Nt.mkR b)) (Nt.hi (Nt.mkR a) (Nt.mkR b)) (Nt.mkP l 6)).2 (Nt.Pol.evL (Nt.mkP l 6) ((Nt.lo (Nt.mkR a) (Nt.mkR b)) + ((Nt.hi (Nt.lo (Nt.mkR a) (Nt.mkR b)) (Nt.hi (Nt.mkR a) (Nt.mkR b)) - Nt.lo (Nt.lo (Nt.mkR a) (Nt.mkR b)) (Nt.hi (Nt.mkR a) (Nt.mkR b))) * (((n % 13 : Int) : Rat) / ((12 : Int) : Rat)))))))) ?_
  refine sy_pure 8 (.v (.bool (Nt.inI (Nt.encL (Nt.lo (Nt.mkR a) (Nt.mkR b)) (Nt.hi (Nt.mkR a) (Nt.mkR b)) (Nt.mkP l 6)).1 (Nt.encL (Nt.lo (Nt.mkR a) (Nt.mkR b)) (Nt.hi (Nt.mkR a) (Nt.mkR b)) (Nt.mkP l 6)).2 (Nt.Pol.evL (Nt.mkP l 6) ((Nt.lo (Nt.mkR a) (Nt.mkR b)) + ((Nt.hi (Nt.lo (Nt.mkR a) (Nt.mkR b)) (Nt.hi (Nt.mkR a) (Nt.mkR b)) - Nt.lo (Nt.lo (Nt.mkR a) (Nt.mkR b)) (Nt.hi (Nt.mkR a) (Nt.mkR b))) * (((n % 13 : Int) : Rat) / ((12 : Int) : Rat)))))))) ?_
  refine sy_next 38 [(8, .v (.bool (Nt.inI (Nt.encL (Nt.lo (Nt.mkR a) (Nt.mkR b)) (Nt.hi (Nt.mkR a) (Nt.mkR b)) (Nt.mkP l 6)).1 (Nt.encL (Nt.lo (Nt.mkR a) (Nt.mkR b)) (Nt.hi (Nt.mkR a) (Nt.mkR b)) (Nt.mkP l 6)).2 (Nt.Pol.evL (Nt.mkP l 6) ((Nt.lo (Nt.mkR a) (Nt.mkR b)) + ((Nt.hi (Nt.lo (Nt.mkR a) (Nt.mkR b)) (Nt.hi (Nt.mkR a) (Nt.mkR b)) - Nt.lo (Nt.lo (Nt.mkR a) (Nt.mkR b)) (Nt.hi (Nt.mkR a) (Nt.mkR b))) * (((n % 13 : Int) : Rat) / ((12 : Int) : Rat))))))))] [] ?_
  refine sw_ret (ret0 [.bool (Nt.inI (Nt.encL (Nt.lo (Nt.mkR a) (Nt.mkR b)) (Nt.hi (Nt.mkR a) (Nt.mkR b)) (Nt.mkP l 6)).1 (Nt.encL (Nt.lo (Nt.mkR a) (Nt.mkR b)) (Nt.hi (Nt.mkR a) (Nt.mkR b)) (Nt.mkP l 6)).2 (Nt.Pol.evL (Nt.mkP l 6) ((Nt.lo (Nt.mkR a) (Nt.mkR b)) + ((Nt.hi (Nt.lo (Nt.mkR a) (Nt.mkR b)) (Nt.hi (Nt.mkR a) (Nt.mkR b)) - Nt.lo (Nt.lo (Nt.mkR a) (Nt.mkR b)) (Nt.hi (Nt.mkR a) (Nt.mkR b))) * (((n % 13 : Int) : Rat) / ((12 : Int) : Rat))))))] ⟨res_tmp, trivial⟩ fun u88 e89 => ?_)
  show Value.bool _ = Value.bool _
  rw [show (Nt.inI (Nt.encL (Nt.lo (Nt.mkR a) (Nt.mkR b)) (Nt.hi (Nt.mkR a) (Nt.mkR b)) (Nt.mkP l 6)).1 (Nt.encL (Nt.lo (Nt.mkR a) (Nt.mkR b)) (Nt.hi (Nt.mkR a) (Nt.mkR b)) (Nt.mkP l 6)).2 (Nt.Pol.evL (Nt.mkP l 6) ((Nt.lo (Nt.mkR a) (Nt.mkR b)) + ((Nt.hi (Nt.lo (Nt.mkR a) (Nt.mkR b)) (Nt.hi (Nt.mkR a) (Nt.mkR b)) - Nt.lo (Nt.lo (Nt.mkR a) (Nt.mkR b)) (Nt.hi (Nt.mkR a) (Nt.mkR b))) * (((n % 13 : Int) : Rat) / ((12 : Int) : Rat)))))) = true from (Nt.encloses _ _ _ _)]
end Go.Proofs.YtnedhbidmfoegaaGreat
