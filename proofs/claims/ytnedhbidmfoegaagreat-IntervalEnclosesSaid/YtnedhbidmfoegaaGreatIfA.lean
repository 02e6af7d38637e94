/- Symbolic walks: data worlds, symbolic states, and regions in whatever order. No program in sight. Symbolic walks: what an operation does; regions in the order of the text and in whatever order. Symbolic walks: one step is sound. Symbolic walks: one operation, carried out. Symbolic walks: operations may change places. Symbolic walks: regions in whatever order. Symbolic walks: a region in whatever order; a region in the order of its text. Symbolic walks: code. Symbolic walks: the rules by which a walk is printed. Symbolic walks: rules for data: an element's address, loads. Symbolic walks: loops whose rounds are counted; cuts. Plain laws of rationals and their sizes; how rationals read. From the reading of an argument to the words of the walks. Plain laws for the reference of integers and rationals. The sizes of the types. Printed by wip/sym/g_ty.py. Contracts of the reference of rational. Printed by wip/sym/g_rq.py. Plain laws of intervals of rationals; a copied list of digits. Contracts of interval. Printed by wip/sym/g_itv.py. Contracts of the reference of interval, of small functions. Printed by wip/sym/g_r4.py. Plain laws: larger intervals have larger results; common numbers. -/
import Derived.Test.YtnedhbidmfoegaaGreatGcD
import Derived.Orders
import Derived.KernelRfl
import Derived.LoopN
import Derived.Test.YtnedhbidmfoegaaGreatProg
import Derived.OpenShut
import Derived.ChangeSlices
import Derived.Deep.Slices
namespace Go.Proofs.YtnedhbidmfoegaaGreat
open Go.RowKit
set_option linter.unusedVariables false

section
variable {u u' u'' w w' : World}
end

end Go.Proofs.YtnedhbidmfoegaaGreat
namespace Go.Proofs.YtnedhbidmfoegaaGreat
open Go.RowKit
set_option linter.unusedVariables false
section
variable (P : Program) (ops : Array Oper) (w0 : Base) (u0 : World)
end

section
variable {P : Program} {ops : Array Oper} {w0 : Base} {u0 : World}
end
end Go.Proofs.YtnedhbidmfoegaaGreat
namespace Go.Proofs.YtnedhbidmfoegaaGreat
open Go.RowKit
set_option linter.unusedVariables false
section
variable {P : Program} {ops : Array Oper} {w0 : Base} {u0 : World} {S : St} {B : Tmp → Nat} {a : Act} {w u : World} {o : Oper}
end
end Go.Proofs.YtnedhbidmfoegaaGreat
namespace Go.Proofs.YtnedhbidmfoegaaGreat
open Go.RowKit
set_option linter.unusedVariables false
section
variable {P : Program} {ops : Array Oper} {w0 : Base} {u0 : World} {S : St} {B : Tmp → Nat} {a : Act} {w u u' : World} {o : Oper}
end
end Go.Proofs.YtnedhbidmfoegaaGreat
namespace Go.Proofs.YtnedhbidmfoegaaGreat
open Go.RowKit
set_option linter.unusedVariables false
section
variable {P : Program} {ops : Array Oper} {w0 : Base} {u0 : World} {S : St} {B : Tmp → Nat} {a : Act} {w u u' : World} {o x y : Oper}
end
end Go.Proofs.YtnedhbidmfoegaaGreat
namespace Go.Proofs.YtnedhbidmfoegaaGreat
open Go.RowKit
set_option linter.unusedVariables false
section
variable {P : Program} {ops : Array Oper} {w0 : Base} {u0 : World} {S : St} {B : Tmp → Nat} {a : Act} {w u u' : World} {o x y : Oper}
end
end Go.Proofs.YtnedhbidmfoegaaGreat
namespace Go.Proofs.YtnedhbidmfoegaaGreat
open Go.RowKit
set_option linter.unusedVariables false
section
variable {P : Program} {ops : Array Oper} {w0 : Base} {u0 : World} {S : St} {B : Tmp → Nat} {a : Act} {w u u' : World}
end
end Go.Proofs.YtnedhbidmfoegaaGreat
namespace Go.Proofs.YtnedhbidmfoegaaGreat
open Go.RowKit
set_option linter.unusedVariables false
section
variable (P : Program) (w0 : Base) (u0 : World)
end
section
variable {P : Program} {w0 : Base} {u0 : World} {S T : St} {B : Tmp → Nat} {a : Act} {w u u' : World} {Q : MP} {c d : Code}
end
end Go.Proofs.YtnedhbidmfoegaaGreat
namespace Go.Proofs.YtnedhbidmfoegaaGreat
open Go.RowKit
set_option linter.unusedVariables false
section
variable {P : Program} {ops : Array Oper} {w0 : Base} {u0 : World} {S T : St} {B : Tmp → Nat} {a : Act} {w u u' : World} {o : Oper} {p : List Tmp} {seq : Bool} {rest : List (Oper × List Tmp)} {K : St → World → Prop}
end
end Go.Proofs.YtnedhbidmfoegaaGreat
namespace Go.Proofs.YtnedhbidmfoegaaGreat
open Go.RowKit
set_option linter.unusedVariables false
section
variable {P : Program} {ops : Array Oper} {w0 : Base} {u0 : World} {S T : St} {B : Tmp → Nat} {a : Act} {w u u' : World} {o : Oper} {p : List Tmp} {seq : Bool} {rest : List (Oper × List Tmp)} {K : St → World → Prop}
end
end Go.Proofs.YtnedhbidmfoegaaGreat
namespace Go.Proofs.YtnedhbidmfoegaaGreat
open Go.RowKit
set_option linter.unusedVariables false
section
variable (P : Program) (w0 : Base) (u0 : World)
/-- Behind a round: R. -/
def MP.rnd (R : St → World → Prop) (hR : Mono R) (Q : MP) : MP where
  f e S u := match e with | .normal => R S u | e => Q.f e S u
  mono e := by cases e <;> first | exact hR | exact Q.mono _
/-- At most n rounds are left. -/
def Rnds (c : Code) (Q : MP) : Nat → { R : St → World → Prop // Mono R }
  | 0 => ⟨fun _ _ => False, fun _ _ _ _ h => h⟩
  | n + 1 => ⟨fun S u => SW P w0 u0 c S u (MP.rnd (Rnds c Q n).1 (Rnds c Q n).2 Q), SW.mono P w0 u0 c _⟩
/-- What stands behind a round of which n are left. -/
def MP.rn (c : Code) (Q : MP) (n : Nat) : MP := MP.rnd (Rnds P w0 u0 c Q n).1 (Rnds P w0 u0 c Q n).2 Q
end
section
variable {P : Program} {w0 : Base} {u0 : World} {S T : St} {B : Tmp → Nat} {a : Act} {w u u' : World} {Q : MP} {c d : Code}
theorem sw_rounds (n : Nat) (h : SW P w0 u0 c S u (MP.rn P w0 u0 c Q n)) : SW P w0 u0 (.loop c) S u Q := by
  have key : ∀ n S u, (Rnds P w0 u0 c Q n).1 S u → ∀ B a w u1, Ext u u1 → Rep w0 u0 S B a w u1 → Code.rounds P c (fun e a' w' => ∃ S' B' u'', Rep w0 u0 S' B' a' w' u'' ∧ Q.f e S' u'') n a w := by
    intro n
    induction n with
    | zero => intro S u h; exact h.elim
    | succ n ih =>
      intro S u h B a w u1 e1 hr
      refine wp_mono (h B a w u1 e1 hr) fun ex a' w' ⟨S', B', u'', k1, k3⟩ => ?_
      cases ex with
      | normal => exact ih S' u'' k3 B' a' w' u'' (Ext.refl _) k1
      | _ => exact ⟨S', B', u'', k1, k3⟩
  intro B a w u' e hr
  exact wp_loop_rounds (n + 1) (key (n + 1) S u h B a w u' e hr)
/-- The next round. -/
theorem rn_next {n : Nat} (h : SW P w0 u0 c S u (MP.rn P w0 u0 c Q n)) : (MP.rn P w0 u0 c Q (n + 1)).f .normal S u := h
section
variable {ops : Array Oper} {o : Oper} {p : List Tmp} {seq : Bool} {rest : List (Oper × List Tmp)} {K : St → World → Prop}
end
end
end Go.Proofs.YtnedhbidmfoegaaGreat
namespace Go.Proofs.YtnedhbidmfoegaaGreat
open Go.RowKit
set_option linter.unusedVariables false
namespace Nt
end Nt
section
variable {u u' w w' : World} {x y : Sl} {i j : IL} {r : RL} {N M K L : Nat} {z z' : Int} {q : Rat}
theorem rat_mk2 {s : Bool} {D : Nat} (hi : IntV u ⟨s, x⟩ z K) (hd : NatV u y D L) : RatV u ⟨s, x, y⟩ (mkRat z D) (max (max K L) 1) :=
  ⟨⟨z, D, hi.more (by omega), hd.more (by omega), rfl⟩, by omega⟩
end
end Go.Proofs.YtnedhbidmfoegaaGreat
namespace Go.Proofs.YtnedhbidmfoegaaGreat
open Go.RowKit Go.ChangeShapes Go.WideShapes
set_option linter.unusedVariables false
section
variable {H : Type} {enc : TypeId × Value → H} {P : Program} {w : World} {base : Nat} {spare : Nat → Bool} {held : Bool} {fuel : Nat} {cs : List Value} {x : DataW H × List MemPlace}
theorem wf_u32 {z : Int} (h : (Lit.int .u32 z).wf = true) : 0 ≤ z ∧ z < 4294967296 := by
  simp [Lit.wf, IntKind.min, IntKind.max, IntKind.bits, IntKind.signed] at h
  omega
theorem dig_of {l : List Int} (h : ∀ z ∈ l, 0 ≤ z ∧ z < 4294967296) : Nt.Dig l := by
  induction l with
  | nil => exact Nt.Dig.nil
  | cons z l ih => exact Nt.Dig.cons (h z (List.mem_cons_self ..)) (ih fun y hy => h y (List.mem_cons_of_mem _ hy))
theorem ar_nat (h : DataW.trod enc Tryz.prog w base spare held fuel 22 cs = some x) : ∃ (s : Sl) (N : Nat), cs = [s.v] ∧ NatV w s N s.n := by
  obtain ⟨s, l, h1, h2, h3⟩ := ar_slr (k := .u32) (e := 105) (by kernel_rfl) (by kernel_rfl) (by kernel_rfl) h
  have hd := dig_of (fun z hz => wf_u32 (h3 z hz))
  exact ⟨s, (Nt.val l).toNat, h1, l, h2, hd, Nat.le_refl _, by have := Nt.val_nonneg hd; omega⟩
theorem two_of {α : Type} {xs : List α} (h : xs.length = 2) : ∃ a b, xs = [a, b] := by
  match xs, h with
  | [a, b], _ => exact ⟨a, b, rfl⟩
theorem ar_int (h : DataW.trod enc Tryz.prog w base spare held fuel 24 cs = some x) : ∃ (i : IL) (z : Int) (K : Nat), cs = i.cs ∧ IntV w i z K := by
  obtain ⟨xs, n, _, _, hlen, hxs, hf⟩ := DataW.trod_struct Tryz.underlying24 h
  have hlen : cs.length = 2 := hlen.trans (by kernel_rfl)
  obtain ⟨c0, c1, rfl⟩ := two_of hlen
  obtain ⟨y0, y1, rfl⟩ := two_of (hxs.trans rfl)
  have h0 : DataW.trod enc Tryz.prog w base spare held n 4 [c0] = some y0 := by
    have e : Tryz.prog.cellsOf 4 = 1 := by kernel_rfl
    simpa [e] using hf 0 _ rfl
  have h1 : DataW.trod enc Tryz.prog w base spare held n 22 [c1] = some y1 := by
    have e : Tryz.prog.cellsOf 22 = 1 := by kernel_rfl
    simpa [e] using hf 1 _ rfl
  obtain ⟨b, hb, _⟩ := DataW.trod_bool Tryz.underlying4 h0
  obtain ⟨s, N, hs, hN⟩ := ar_nat h1
  simp only [List.cons.injEq, and_true] at hb hs
  subst hb hs
  exact ⟨⟨b, s⟩, Nt.sg b N, s.n, rfl, N, hN, rfl⟩
theorem ar_rat (h : DataW.trod enc Tryz.prog w base spare held fuel 26 cs = some x) : ∃ (r : RL) (q : Rat) (K : Nat), cs = r.cs ∧ RatV w r q K := by
  obtain ⟨xs, n, _, _, hlen, hxs, hf⟩ := DataW.trod_struct Tryz.underlying26 h
  have hlen : cs.length = 3 := hlen.trans (by kernel_rfl)
  obtain ⟨y0, y1, rfl⟩ := two_of (hxs.trans rfl)
  have h0 : DataW.trod enc Tryz.prog w base spare held n 24 (cs.take 2) = some y0 := by
    have e : Tryz.prog.cellsOf 24 = 2 := by kernel_rfl
    simpa [e] using hf 0 _ rfl
  have h1 : DataW.trod enc Tryz.prog w base spare held n 22 ((cs.drop 2).take 1) = some y1 := by
    have e : Tryz.prog.cellsOf 22 = 1 := by kernel_rfl
    simpa [e] using hf 1 _ rfl
  obtain ⟨i, z, K, hi, hz⟩ := ar_int h0
  obtain ⟨s, N, hs, hN⟩ := ar_nat h1
  refine ⟨⟨i.s, i.m, s⟩, mkRat z N, max (max K s.n) 1, ?_, rat_mk2 (s := i.s) hz hN⟩
  rw [show cs = cs.take 2 ++ (cs.drop 2).take 1 by rw [List.take_of_length_le (i := 1) (by simp; omega), List.take_append_drop], hi, hs]
  rfl
theorem ar_itv (h : DataW.trod enc Tryz.prog w base spare held fuel 28 cs = some x) : ∃ (a b : RL) (p q : Rat) (K : Nat), cs = a.cs ++ b.cs ∧ RatV w a p K ∧ RatV w b q K := by
  obtain ⟨xs, n, _, _, hlen, hxs, hf⟩ := DataW.trod_struct Tryz.underlying28 h
  have hlen : cs.length = 6 := hlen.trans (by kernel_rfl)
  obtain ⟨y0, y1, rfl⟩ := two_of (hxs.trans rfl)
  have e : Tryz.prog.cellsOf 26 = 3 := by kernel_rfl
  have h0 : DataW.trod enc Tryz.prog w base spare held n 26 (cs.take 3) = some y0 := by simpa [e] using hf 0 _ rfl
  have h1 : DataW.trod enc Tryz.prog w base spare held n 26 ((cs.drop 3).take 3) = some y1 := by simpa [e] using hf 1 _ rfl
  obtain ⟨a, p, K, ha, hp⟩ := ar_rat h0
  obtain ⟨b, q, L, hb, hq⟩ := ar_rat h1
  refine ⟨a, b, p, q, max K L, ?_, hp.more (Nat.le_max_left _ _), hq.more (Nat.le_max_right _ _)⟩
  rw [show cs = cs.take 3 ++ (cs.drop 3).take 3 by rw [List.take_of_length_le (i := 3) (l := cs.drop 3) (by simp; omega), List.take_append_drop], ha, hb]
section
variable {r0 : Reach} {b0 : Nat} {v : Value} {d : DataW H} {p : List MemPlace}
set_option maxRecDepth 100000 in
theorem ar_itvv (hv : Value.okWide Tryz.prog w r0 b0 28 v) (h : DataW.Trod enc Tryz.prog w base spare held 28 v d p) : ∃ (a b : RL) (x y : Rat) (K : Nat), v = .agg (a.cs ++ b.cs).toArray ∧ RatV w a x K ∧ RatV w b y K := by
  obtain ⟨cs, rfl, hsz⟩ := okWide_struct Tryz.underlying28 hv
  obtain ⟨fuel, hf⟩ := h
  obtain ⟨a, b, x, y, K, hc, h1, h2⟩ := ar_itv hf
  refine ⟨a, b, x, y, K, ?_, h1, h2⟩
  have hc : cs.toList = a.cs ++ b.cs := hc
  rw [← hc]
end
end
end Go.Proofs.YtnedhbidmfoegaaGreat
namespace Go.Proofs.YtnedhbidmfoegaaGreat
open Go.RowKit
set_option linter.unusedVariables false
namespace Nt
theorem add_div2 {a c : Int} {b d : Nat} (hb : 0 < b) (hd : 0 < d) : (((a * d + c * b : Int)) : Rat) / (((b * d : Int)) : Rat) = mkRat a b + mkRat c d := by
  rw [← add_mk hb hd, Rat.mkRat_eq_div]
  congr 1
theorem mul_div2 {a c : Int} {b d : Nat} : (((a * c : Int)) : Rat) / (((b * d : Int)) : Rat) = mkRat a b * mkRat c d := by
  rw [← mul_mk, Rat.mkRat_eq_div]
  congr 1
theorem cmpQ_lt (x y : Rat) : decide (cmpQ x y < 0) = decide (x < y) := by
  unfold cmpQ
  rw [decide_eq_decide]
  split
  · simp [*]
  · split <;> simp [*]
end Nt
section
variable {u u' w w' : World} {x y : Sl} {i j : IL} {r r' : RL} {N M K L : Nat} {z z' : Int} {q q' : Rat}
theorem neg_rat (h : RatN u r q K) (h' : IntN u i (-q.num) K) : RatN u ⟨i.s, i.m, r.d⟩ (-q) K := by
  refine ⟨?_, ?_⟩
  · show IntN u i _ _; rw [Rat.neg_num]; exact h'
  · show NatN u r.d _ _; rw [Rat.neg_den]; exact h.2
end
end Go.Proofs.YtnedhbidmfoegaaGreat
namespace Go.Proofs.YtnedhbidmfoegaaGreat
set_option linter.unusedVariables false
open Go.RowKit
theorem ty28 : TyIs Tryz.prog 28 true 6 := fun w => ⟨by kernel_rfl, by kernel_rfl⟩
theorem ty81 : TyIs Tryz.prog 81 true 12 := fun w => ⟨by kernel_rfl, by kernel_rfl⟩
end Go.Proofs.YtnedhbidmfoegaaGreat
namespace Go.Proofs.YtnedhbidmfoegaaGreat
open Go.RowKit
set_option linter.unusedVariables false
theorem k_rqLess {u w : World} {r1 : RL} {x : Rat} {K : Nat} {r2 : RL} {y : Rat} {L : Nat} (d : Dat u w) (hr1 : RatV u r1 x K) (hr2 : RatV u r2 y L) (hK : K ≤ 100000000) (hL : L ≤ 100000000) : Calls Tryz.prog 101 #[r1.v, r2.v] w (Post u w fun v u' => v = .bool (decide (x < y))) := by
  refine calls_sym (args := [r1.v, r2.v]) Tryz.func101 rfl Tryz.ntmps101 (rs := [.tmp 4]) Tryz.results101 (le_b rfl) (le_b rfl) d ?_
  refine sw_seq ?_
  refine sw_reg ?_
  refine sy_new 2 ⟨26, r1.cs⟩ ?_
  refine sy_new 3 ⟨26, r2.cs⟩ ?_
  refine sy_pure 4 (.v (.bool false)) ?_
  refine sy_next 9 [(2, .adr 2 0), (3, .adr 3 0)] [(2, ⟨26, r1.cs⟩), (3, ⟨26, r2.cs⟩)] ?_
  refine sw_seq ?_
  refine sw_reg ?_
  refine sy_ldv 5 (.v (r1.v)) ty26 part_agg ?_
  refine sy_ldv 6 (.v (r2.v)) ty26 part_agg ?_
  refine sy_call 7 40 [r1.v, r2.v] ?_
  intro w11 u11 e11 d11
  have k14 := k_rqCompare d11 (hr1.ext e11) (hr2.ext e11) (by omega) (by omega)
  with_reducible refine Post.mono k14 ?_
  clear k14
  rintro _ u12 g13 rfl
  refine sy_pure 8 (.v (.bool (decide ((Nt.cmpQ x y) < 0)))) ?_
  refine sy_pure 4 (.v (.bool (decide ((Nt.cmpQ x y) < 0)))) ?_
  refine sy_next 9 [(4, .v (.bool (decide ((Nt.cmpQ x y) < 0))))] [] ?_
  refine sw_ret (ret0 [.bool (decide ((Nt.cmpQ x y) < 0))] ⟨res_tmp, trivial⟩ fun u15 e16 => ?_)
  show _ = _
  rw [← Nt.cmpQ_lt]
  rfl
theorem k_rqNeg {u w : World} {r1 : RL} {x : Rat} {K : Nat} (d : Dat u w) (hr1 : RatV u r1 x K) (hK : K ≤ 100000000) : Calls Tryz.prog 110 #[r1.v] w (Post u w fun v u' => ∃ r : RL, v = r.v ∧ RatN u' r (-x) K) := by
  refine calls_sym (args := [r1.v]) Tryz.func110 rfl Tryz.ntmps110 (rs := [.cell 2 26]) Tryz.results110 (le_b rfl) (le_b rfl) d ?_
  refine sw_seq ?_
  refine sw_reg ?_
  refine sy_new 1 ⟨26, r1.cs⟩ ?_
  refine sy_new 2 ⟨26, [.bool false, .slice none 0 0, .slice none 0 0]⟩ ?_
  refine sy_next 10 [(1, .adr 1 0), (2, .adr 2 0)] [(1, ⟨26, r1.cs⟩), (2, ⟨26, [.bool false, .slice none 0 0, .slice none 0 0]⟩)] ?_
  refine sw_seq ?_
  refine sw_reg ?_
  refine sy_ldv 3 (.v (r1.v)) ty26 part_agg ?_
  refine sy_call 4 142 [r1.v] ?_
  intro w11 u11 e11 d11
  have k16 := k_rqTrim d11 (hr1.ext e11) (by omega)
  with_reducible refine Post.mono k16 ?_
  clear k16
  rintro _ u14 g15 ⟨r12, rfl, h13⟩
  refine sy_store ⟨26, r12.cs⟩ ty26 ?_
  refine sy_next 10 [(1, .adr 1 0), (2, .adr 2 0)] [(1, ⟨26, r12.cs⟩), (2, ⟨26, [.bool false, .slice none 0 0, .slice none 0 0]⟩)] ?_
  refine sw_seq ?_
  refine sw_reg ?_
  refine sy_pure 5 (.adr 1 0) ?_
  refine sy_ldv 6 (.v (.agg #[.bool r12.s, .slice r12.m.a r12.m.n r12.m.c])) ty24 part_agg ?_
  refine sy_call 7 159 [.agg #[.bool r12.s, .slice r12.m.a r12.m.n r12.m.c]] ?_
  intro w17 u17 e17 d17
  have k22 := k_riNeg d17 ((RatN.num h13).ext e17).raw (by omega)
  with_reducible refine Post.mono k22 ?_
  clear k22
  rintro _ u20 g21 ⟨i18, rfl, h19⟩
  refine sy_pure 8 (.adr 1 0) ?_
  refine sy_store ⟨26, i18.cs ++ [.slice r12.d.a r12.d.n r12.d.c]⟩ ty24 ?_
  refine sy_next 10 [(1, .adr 1 0), (2, .adr 2 0)] [(1, ⟨26, i18.cs ++ [.slice r12.d.a r12.d.n r12.d.c]⟩), (2, ⟨26, [.bool false, .slice none 0 0, .slice none 0 0]⟩)] ?_
  refine sw_seq ?_
  refine sw_reg ?_
  refine sy_ldv 9 (.v (.agg #[.bool i18.s, .slice i18.m.a i18.m.n i18.m.c, .slice r12.d.a r12.d.n r12.d.c])) ty26 part_agg ?_
  refine sy_store ⟨26, i18.cs ++ [.slice r12.d.a r12.d.n r12.d.c]⟩ ty26 ?_
  refine sy_next 10 [(2, .adr 2 0)] [(2, ⟨26, i18.cs ++ [.slice r12.d.a r12.d.n r12.d.c]⟩)] ?_
  refine sw_ret (ret0 [.agg #[.bool i18.s, .slice i18.m.a i18.m.n i18.m.c, .slice r12.d.a r12.d.n r12.d.c]] ⟨res_cell ty26 part_agg, trivial⟩ fun u23 e24 => ?_)
  exact ⟨(⟨i18.s, i18.m, r12.d⟩ : RL), rfl, neg_rat (h13.ext (e17.trans (g21.ext.trans e24))) (h19.ext e24)⟩
theorem k_rqAdd {u w : World} {r1 : RL} {x : Rat} {K : Nat} {r2 : RL} {y : Rat} {L : Nat} (d : Dat u w) (hr1 : RatV u r1 x K) (hr2 : RatV u r2 y L) (hK : K ≤ 100000000) (hL : L ≤ 100000000) : Calls Tryz.prog 18 #[r1.v, r2.v] w (Post u w fun v u' => ∃ r : RL, v = r.v ∧ RatN u' r (x + y) (K + L + 2)) := by
  refine calls_sym (args := [r1.v, r2.v]) Tryz.func18 rfl Tryz.ntmps18 (rs := [.cell 4 26]) Tryz.results18 (le_b rfl) (le_b rfl) d ?_
  refine sw_seq ?_
  refine sw_reg ?_
  refine sy_new 2 ⟨26, r1.cs⟩ ?_
  refine sy_new 3 ⟨26, r2.cs⟩ ?_
  refine sy_new 4 ⟨26, [.bool false, .slice none 0 0, .slice none 0 0]⟩ ?_
  refine sy_next 30 [(2, .adr 2 0), (3, .adr 3 0), (4, .adr 4 0)] [(2, ⟨26, r1.cs⟩), (3, ⟨26, r2.cs⟩), (4, ⟨26, [.bool false, .slice none 0 0, .slice none 0 0]⟩)] ?_
  refine sw_seq ?_
  refine sw_reg ?_
  refine sy_ldv 10 (.v (r1.v)) ty26 part_agg ?_
  refine sy_call 11 105 [r1.v] ?_
  intro w11 u11 e11 d11
  have k15 := k_parts d11 (hr1.ext e11) (by omega)
  with_reducible refine Post.mono k15 ?_
  clear k15
  rintro _ u13 g14 ⟨i12, j12, z12, D12, rfl, hi12, hj12, hp12, hq12, hk12⟩
  refine sy_pure 9 (.v (.tuple #[i12.v, j12.v])) ?_
  refine sy_pure 12 (.v (i12.v)) ?_
  refine sy_pure 13 (.v (j12.v)) ?_
  refine sy_new 5 ⟨24, [.bool false, .slice none 0 0]⟩ ?_
  refine sy_new 6 ⟨24, [.bool false, .slice none 0 0]⟩ ?_
  refine sy_store ⟨24, i12.cs⟩ ty24 ?_
  refine sy_store ⟨24, j12.cs⟩ ty24 ?_
  refine sy_next 30 [(3, .adr 3 0), (4, .adr 4 0), (5, .adr 5 0), (6, .adr 6 0)] [(3, ⟨26, r2.cs⟩), (4, ⟨26, [.bool false, .slice none 0 0, .slice none 0 0]⟩), (5, ⟨24, i12.cs⟩), (6, ⟨24, j12.cs⟩)] ?_
  refine sw_seq ?_
  refine sw_reg ?_
  refine sy_ldv 15 (.v (r2.v)) ty26 part_agg ?_
  refine sy_call 16 105 [r2.v] ?_
  intro w16 u16 e16 d16
  have k20 := k_parts d16 (hr2.ext (e11.trans (g14.ext.trans e16))) (by omega)
  with_reducible refine Post.mono k20 ?_
  clear k20
  rintro _ u18 g19 ⟨i17, j17, z17, D17, rfl, hi17, hj17, hp17, hq17, hk17⟩
  refine sy_pure 14 (.v (.tuple #[i17.v, j17.v])) ?_
  refine sy_pure 17 (.v (i17.v)) ?_
  refine sy_pure 18 (.v (j17.v)) ?_
  refine sy_new 7 ⟨24, [.bool false, .slice none 0 0]⟩ ?_
  refine sy_new 8 ⟨24, [.bool false, .slice none 0 0]⟩ ?_
  refine sy_store ⟨24, i17.cs⟩ ty24 ?_
  refine sy_store ⟨24, j17.cs⟩ ty24 ?_
  refine sy_next 30 [(4, .adr 4 0), (5, .adr 5 0), (6, .adr 6 0), (7, .adr 7 0), (8, .adr 8 0)] [(4, ⟨26, [.bool false, .slice none 0 0, .slice none 0 0]⟩), (5, ⟨24, i12.cs⟩), (6, ⟨24, j12.cs⟩), (7, ⟨24, i17.cs⟩), (8, ⟨24, j17.cs⟩)] ?_
  refine sw_seq ?_
  refine sw_any [0, 0, 3, 0, 0, 31, 63, 0, 0, 511, 1023, 2047] [(0, []), (1, []), (3, []), (4, []), (7, []), (8, []), (2, []), (5, []), (6, []), (9, []), (10, []), (11, [])] (by kernel_rfl) (by kernel_rfl) ?_
  refine sy_ldv 19 (.v (i12.v)) ty24 part_agg ?_
  refine sy_ldv 20 (.v (j17.v)) ty24 part_agg ?_
  refine sy_ldv 22 (.v (i17.v)) ty24 part_agg ?_
  refine sy_ldv 23 (.v (j12.v)) ty24 part_agg ?_
  refine sy_ldv 26 (.v (j12.v)) ty24 part_agg ?_
  refine sy_ldv 27 (.v (j17.v)) ty24 part_agg ?_
  refine sy_call 21 108 [i12.v, j17.v] ?_
  intro w21 u21 e21 d21
  have k26 := k_riMul d21 (hi12.ext (e16.trans (g19.ext.trans e21))) (hj17.ext e21).raw (by omega) (by omega)
  with_reducible refine Post.mono k26 ?_
  clear k26
  rintro _ u24 g25 ⟨i22, rfl, h23⟩
  refine sy_call 24 108 [i17.v, j12.v] ?_
  intro w27 u27 e27 d27
  have k32 := k_riMul d27 (hi17.ext (e21.trans (g25.ext.trans e27))) (hj12.ext (e16.trans (g19.ext.trans (e21.trans (g25.ext.trans e27))))).raw (by omega) (by omega)
  with_reducible refine Post.mono k32 ?_
  clear k32
  rintro _ u30 g31 ⟨i28, rfl, h29⟩
  refine sy_call 25 107 [i22.v, i28.v] ?_
  intro w33 u33 e33 d33
  have k38 := k_riAdd d33 (h23.ext (e27.trans (g31.ext.trans e33))).raw (h29.ext e33).raw (by omega) (by omega)
  with_reducible refine Post.mono k38 ?_
  clear k38
  rintro _ u36 g37 ⟨i34, rfl, h35⟩
  refine sy_call 28 108 [j12.v, j17.v] ?_
  intro w39 u39 e39 d39
  have k44 := k_riMul d39 (hj12.ext (e16.trans (g19.ext.trans (e21.trans (g25.ext.trans (e27.trans (g31.ext.trans (e33.trans (g37.ext.trans e39))))))))).raw (hj17.ext (e21.trans (g25.ext.trans (e27.trans (g31.ext.trans (e33.trans (g37.ext.trans e39))))))).raw (by omega) (by omega)
  with_reducible refine Post.mono k44 ?_
  clear k44
  rintro _ u42 g43 ⟨i40, rfl, h41⟩
  refine sy_call 29 106 [i34.v, i40.v] ?_
  intro w45 u45 e45 d45
  have k50 := k_reduce d45 (h35.ext (e39.trans (g43.ext.trans e45))).raw (h41.ext e45).raw (by omega) (by omega)
  with_reducible refine Post.mono k50 ?_
  clear k50
  rintro _ u48 g49 ⟨r46, rfl, h47⟩
  refine sy_store ⟨26, r46.cs⟩ ty26 ?_
  refine sy_next 30 [(4, .adr 4 0)] [(4, ⟨26, r46.cs⟩)] ?_
  refine sw_ret (ret0 [r46.v] ⟨res_cell ty26 part_agg, trivial⟩ fun u51 e52 => ?_)
  refine ⟨r46, rfl, RatN.more (K := (max (max (K + L) (L + K) + 1) (K + L) + 1)) ?_ (by omega)⟩
  rw [hq12, hq17, ← Nt.add_div2 hp12 hp17]
  exact (h47.ext e52)
theorem k_rqSub {u w : World} {r1 : RL} {x : Rat} {K : Nat} {r2 : RL} {y : Rat} {L : Nat} (d : Dat u w) (hr1 : RatV u r1 x K) (hr2 : RatV u r2 y L) (hK : K ≤ 100000000) (hL : L ≤ 100000000) : Calls Tryz.prog 20 #[r1.v, r2.v] w (Post u w fun v u' => ∃ r : RL, v = r.v ∧ RatN u' r (x - y) (K + L + 2)) := by
  refine calls_sym (args := [r1.v, r2.v]) Tryz.func20 rfl Tryz.ntmps20 (rs := [.cell 4 26]) Tryz.results20 (le_b rfl) (le_b rfl) d ?_
  refine sw_seq ?_
  refine sw_reg ?_
  refine sy_new 2 ⟨26, r1.cs⟩ ?_
  refine sy_new 3 ⟨26, r2.cs⟩ ?_
  refine sy_new 4 ⟨26, [.bool false, .slice none 0 0, .slice none 0 0]⟩ ?_
  refine sy_next 9 [(2, .adr 2 0), (3, .adr 3 0), (4, .adr 4 0)] [(2, ⟨26, r1.cs⟩), (3, ⟨26, r2.cs⟩), (4, ⟨26, [.bool false, .slice none 0 0, .slice none 0 0]⟩)] ?_
  refine sw_seq ?_
  refine sw_any [0, 0, 2, 7, 15] [(0, []), (1, []), (2, []), (3, []), (4, [])] (by kernel_rfl) (by kernel_rfl) ?_
  refine sy_ldv 5 (.v (r1.v)) ty26 part_agg ?_
  refine sy_ldv 6 (.v (r2.v)) ty26 part_agg ?_
  refine sy_call 7 110 [r2.v] ?_
  intro w11 u11 e11 d11
  have k16 := k_rqNeg d11 (hr2.ext e11) (by omega)
  with_reducible refine Post.mono k16 ?_
  clear k16
  rintro _ u14 g15 ⟨r12, rfl, h13⟩
  refine sy_call 8 18 [r1.v, r12.v] ?_
  intro w17 u17 e17 d17
  have k22 := k_rqAdd d17 (hr1.ext (e11.trans (g15.ext.trans e17))) (h13.ext e17).raw (by omega) (by omega)
  with_reducible refine Post.mono k22 ?_
  clear k22
  rintro _ u20 g21 ⟨r18, rfl, h19⟩
  refine sy_store ⟨26, r18.cs⟩ ty26 ?_
  refine sy_next 9 [(4, .adr 4 0)] [(4, ⟨26, r18.cs⟩)] ?_
  refine sw_ret (ret0 [r18.v] ⟨res_cell ty26 part_agg, trivial⟩ fun u23 e24 => ?_)
  refine ⟨r18, rfl, RatN.more (K := (K + L + 2)) ?_ (by omega)⟩
  rw [Rat.sub_eq_add_neg]
  exact (h19.ext e24)
theorem k_rqMul {u w : World} {r1 : RL} {x : Rat} {K : Nat} {r2 : RL} {y : Rat} {L : Nat} (d : Dat u w) (hr1 : RatV u r1 x K) (hr2 : RatV u r2 y L) (hK : K ≤ 100000000) (hL : L ≤ 100000000) : Calls Tryz.prog 22 #[r1.v, r2.v] w (Post u w fun v u' => ∃ r : RL, v = r.v ∧ RatN u' r (x * y) (K + L + 1)) := by
  refine calls_sym (args := [r1.v, r2.v]) Tryz.func22 rfl Tryz.ntmps22 (rs := [.cell 4 26]) Tryz.results22 (le_b rfl) (le_b rfl) d ?_
  refine sw_seq ?_
  refine sw_reg ?_
  refine sy_new 2 ⟨26, r1.cs⟩ ?_
  refine sy_new 3 ⟨26, r2.cs⟩ ?_
  refine sy_new 4 ⟨26, [.bool false, .slice none 0 0, .slice none 0 0]⟩ ?_
  refine sy_next 26 [(2, .adr 2 0), (3, .adr 3 0), (4, .adr 4 0)] [(2, ⟨26, r1.cs⟩), (3, ⟨26, r2.cs⟩), (4, ⟨26, [.bool false, .slice none 0 0, .slice none 0 0]⟩)] ?_
  refine sw_seq ?_
  refine sw_reg ?_
  refine sy_ldv 10 (.v (r1.v)) ty26 part_agg ?_
  refine sy_call 11 105 [r1.v] ?_
  intro w11 u11 e11 d11
  have k15 := k_parts d11 (hr1.ext e11) (by omega)
  with_reducible refine Post.mono k15 ?_
  clear k15
  rintro _ u13 g14 ⟨i12, j12, z12, D12, rfl, hi12, hj12, hp12, hq12, hk12⟩
  refine sy_pure 9 (.v (.tuple #[i12.v, j12.v])) ?_
  refine sy_pure 12 (.v (i12.v)) ?_
  refine sy_pure 13 (.v (j12.v)) ?_
  refine sy_new 5 ⟨24, [.bool false, .slice none 0 0]⟩ ?_
  refine sy_new 6 ⟨24, [.bool false, .slice none 0 0]⟩ ?_
  refine sy_store ⟨24, i12.cs⟩ ty24 ?_
  refine sy_store ⟨24, j12.cs⟩ ty24 ?_
  refine sy_next 26 [(3, .adr 3 0), (4, .adr 4 0), (5, .adr 5 0), (6, .adr 6 0)] [(3, ⟨26, r2.cs⟩), (4, ⟨26, [.bool false, .slice none 0 0, .slice none 0 0]⟩), (5, ⟨24, i12.cs⟩), (6, ⟨24, j12.cs⟩)] ?_
  refine sw_seq ?_
  refine sw_reg ?_
  refine sy_ldv 15 (.v (r2.v)) ty26 part_agg ?_
  refine sy_call 16 105 [r2.v] ?_
  intro w16 u16 e16 d16
  have k20 := k_parts d16 (hr2.ext (e11.trans (g14.ext.trans e16))) (by omega)
  with_reducible refine Post.mono k20 ?_
  clear k20
  rintro _ u18 g19 ⟨i17, j17, z17, D17, rfl, hi17, hj17, hp17, hq17, hk17⟩
  refine sy_pure 14 (.v (.tuple #[i17.v, j17.v])) ?_
  refine sy_pure 17 (.v (i17.v)) ?_
  refine sy_pure 18 (.v (j17.v)) ?_
  refine sy_new 7 ⟨24, [.bool false, .slice none 0 0]⟩ ?_
  refine sy_new 8 ⟨24, [.bool false, .slice none 0 0]⟩ ?_
  refine sy_store ⟨24, i17.cs⟩ ty24 ?_
  refine sy_store ⟨24, j17.cs⟩ ty24 ?_
  refine sy_next 26 [(4, .adr 4 0), (5, .adr 5 0), (6, .adr 6 0), (7, .adr 7 0), (8, .adr 8 0)] [(4, ⟨26, [.bool false, .slice none 0 0, .slice none 0 0]⟩), (5, ⟨24, i12.cs⟩), (6, ⟨24, j12.cs⟩), (7, ⟨24, i17.cs⟩), (8, ⟨24, j17.cs⟩)] ?_
  refine sw_seq ?_
  refine sw_any [0, 0, 3, 0, 0, 31, 63, 127] [(0, []), (1, []), (3, []), (4, []), (2, []), (5, []), (6, []), (7, [])] (by kernel_rfl) (by kernel_rfl) ?_
  refine sy_ldv 19 (.v (i12.v)) ty24 part_agg ?_
  refine sy_ldv 20 (.v (i17.v)) ty24 part_agg ?_
  refine sy_ldv 22 (.v (j12.v)) ty24 part_agg ?_
  refine sy_ldv 23 (.v (j17.v)) ty24 part_agg ?_
  refine sy_call 21 108 [i12.v, i17.v] ?_
  intro w21 u21 e21 d21
  have k26 := k_riMul d21 (hi12.ext (e16.trans (g19.ext.trans e21))) (hi17.ext e21) (by omega) (by omega)
  with_reducible refine Post.mono k26 ?_
  clear k26
  rintro _ u24 g25 ⟨i22, rfl, h23⟩
  refine sy_call 24 108 [j12.v, j17.v] ?_
  intro w27 u27 e27 d27
  have k32 := k_riMul d27 (hj12.ext (e16.trans (g19.ext.trans (e21.trans (g25.ext.trans e27))))).raw (hj17.ext (e21.trans (g25.ext.trans e27))).raw (by omega) (by omega)
  with_reducible refine Post.mono k32 ?_
  clear k32
  rintro _ u30 g31 ⟨i28, rfl, h29⟩
  refine sy_call 25 106 [i22.v, i28.v] ?_
  intro w33 u33 e33 d33
  have k38 := k_reduce d33 (h23.ext (e27.trans (g31.ext.trans e33))).raw (h29.ext e33).raw (by omega) (by omega)
  with_reducible refine Post.mono k38 ?_
  clear k38
  rintro _ u36 g37 ⟨r34, rfl, h35⟩
  refine sy_store ⟨26, r34.cs⟩ ty26 ?_
  refine sy_next 26 [(4, .adr 4 0)] [(4, ⟨26, r34.cs⟩)] ?_
  refine sw_ret (ret0 [r34.v] ⟨res_cell ty26 part_agg, trivial⟩ fun u39 e40 => ?_)
  refine ⟨r34, rfl, RatN.more (K := (max (K + L) (K + L) + 1)) ?_ (by omega)⟩
  rw [hq12, hq17, ← Nt.mul_div2]
  exact (h35.ext e40)
theorem k_rqMin {u w : World} {r1 : RL} {x : Rat} {K : Nat} {r2 : RL} {y : Rat} {L : Nat} (d : Dat u w) (hr1 : RatV u r1 x K) (hr2 : RatV u r2 y L) (hK : K ≤ 100000000) (hL : L ≤ 100000000) : Calls Tryz.prog 130 #[r1.v, r2.v] w (Post u w fun v u' => ∃ r : RL, v = r.v ∧ RatN u' r (Nt.lo x y) (max K L)) := by
  refine calls_sym (args := [r1.v, r2.v]) Tryz.func130 rfl Tryz.ntmps130 (rs := [.cell 4 26]) Tryz.results130 (le_b rfl) (le_b rfl) d ?_
  refine sw_seq ?_
  refine sw_reg ?_
  refine sy_new 2 ⟨26, r1.cs⟩ ?_
  refine sy_new 3 ⟨26, r2.cs⟩ ?_
  refine sy_new 4 ⟨26, [.bool false, .slice none 0 0, .slice none 0 0]⟩ ?_
  refine sy_next 12 [(2, .adr 2 0), (3, .adr 3 0), (4, .adr 4 0)] [(2, ⟨26, r1.cs⟩), (3, ⟨26, r2.cs⟩), (4, ⟨26, [.bool false, .slice none 0 0, .slice none 0 0]⟩)] ?_
  refine sw_seq ?_
  refine sw_seq ?_
  refine sw_reg ?_
  refine sy_ldv 5 (.v (r2.v)) ty26 part_agg ?_
  refine sy_ldv 6 (.v (r1.v)) ty26 part_agg ?_
  refine sy_call 7 101 [r2.v, r1.v] ?_
  intro w11 u11 e11 d11
  have k14 := k_rqLess d11 (hr2.ext e11) (hr1.ext e11) (by omega) (by omega)
  with_reducible refine Post.mono k14 ?_
  clear k14
  rintro _ u12 g13 rfl
  refine sy_next 12 [(2, .adr 2 0), (3, .adr 3 0), (4, .adr 4 0), (7, .v (.bool (decide (y < x))))] [(2, ⟨26, r1.cs⟩), (3, ⟨26, r2.cs⟩), (4, ⟨26, [.bool false, .slice none 0 0, .slice none 0 0]⟩)] ?_
  refine sw_cond (b := decide (y < x)) (by kernel_rfl) (fun hb15 => ?_) (fun hb15 => ?_)
  · replace hb15 : (decide (y < x)) = true := hb15
    have qhb15 := of_decide_eq_true hb15
    refine sw_seq ?_
    refine sw_reg ?_
    refine sy_ldv 8 (.v (r2.v)) ty26 part_agg ?_
    refine sy_call 9 142 [r2.v] ?_
    intro w16 u16 e16 d16
    have k21 := k_rqTrim d16 (hr2.ext (e11.trans (g13.ext.trans e16))) (by omega)
    with_reducible refine Post.mono k21 ?_
    clear k21
    rintro _ u19 g20 ⟨r17, rfl, h18⟩
    refine sy_store ⟨26, r17.cs⟩ ty26 ?_
    refine sy_next 12 [(4, .adr 4 0)] [(4, ⟨26, r17.cs⟩)] ?_
    refine sw_ret (mpr_seq (ret0 [r17.v] ⟨res_cell ty26 part_agg, trivial⟩ fun u22 e23 => ?_))
    refine ⟨r17, rfl, RatN.more (K := L) ?_ (by omega)⟩
    unfold Nt.lo
    rw [if_pos (of_decide_eq_true hb15)]
    exact (h18.ext e23)
  · replace hb15 : (decide (y < x)) = false := hb15
    have qhb15 := of_decide_eq_false hb15
    refine sw_skip (mp_seq ?_)
    refine sw_seq ?_
    refine sw_reg ?_
    refine sy_ldv 10 (.v (r1.v)) ty26 part_agg ?_
    refine sy_call 11 142 [r1.v] ?_
    intro w24 u24 e24 d24
    have k29 := k_rqTrim d24 (hr1.ext (e11.trans (g13.ext.trans e24))) (by omega)
    with_reducible refine Post.mono k29 ?_
    clear k29
    rintro _ u27 g28 ⟨r25, rfl, h26⟩
    refine sy_store ⟨26, r25.cs⟩ ty26 ?_
    refine sy_next 12 [(4, .adr 4 0)] [(4, ⟨26, r25.cs⟩)] ?_
    refine sw_ret (ret0 [r25.v] ⟨res_cell ty26 part_agg, trivial⟩ fun u30 e31 => ?_)
    refine ⟨r25, rfl, RatN.more (K := K) ?_ (by omega)⟩
    unfold Nt.lo
    rw [if_neg (of_decide_eq_false hb15)]
    exact (h26.ext e31)
theorem k_rqMax {u w : World} {r1 : RL} {x : Rat} {K : Nat} {r2 : RL} {y : Rat} {L : Nat} (d : Dat u w) (hr1 : RatV u r1 x K) (hr2 : RatV u r2 y L) (hK : K ≤ 100000000) (hL : L ≤ 100000000) : Calls Tryz.prog 129 #[r1.v, r2.v] w (Post u w fun v u' => ∃ r : RL, v = r.v ∧ RatN u' r (Nt.hi x y) (max K L)) := by
  refine calls_sym (args := [r1.v, r2.v]) Tryz.func129 rfl Tryz.ntmps129 (rs := [.cell 4 26]) Tryz.results129 (le_b rfl) (le_b rfl) d ?_
  refine sw_seq ?_
  refine sw_reg ?_
  refine sy_new 2 ⟨26, r1.cs⟩ ?_
  refine sy_new 3 ⟨26, r2.cs⟩ ?_
  refine sy_new 4 ⟨26, [.bool false, .slice none 0 0, .slice none 0 0]⟩ ?_
  refine sy_next 12 [(2, .adr 2 0), (3, .adr 3 0), (4, .adr 4 0)] [(2, ⟨26, r1.cs⟩), (3, ⟨26, r2.cs⟩), (4, ⟨26, [.bool false, .slice none 0 0, .slice none 0 0]⟩)] ?_
  refine sw_seq ?_
  refine sw_seq ?_
  refine sw_reg ?_
  refine sy_ldv 5 (.v (r1.v)) ty26 part_agg ?_
  refine sy_ldv 6 (.v (r2.v)) ty26 part_agg ?_
  refine sy_call 7 101 [r1.v, r2.v] ?_
  intro w11 u11 e11 d11
  have k14 := k_rqLess d11 (hr1.ext e11) (hr2.ext e11) (by omega) (by omega)
  with_reducible refine Post.mono k14 ?_
  clear k14
  rintro _ u12 g13 rfl
  refine sy_next 12 [(2, .adr 2 0), (3, .adr 3 0), (4, .adr 4 0), (7, .v (.bool (decide (x < y))))] [(2, ⟨26, r1.cs⟩), (3, ⟨26, r2.cs⟩), (4, ⟨26, [.bool false, .slice none 0 0, .slice none 0 0]⟩)] ?_
  refine sw_cond (b := decide (x < y)) (by kernel_rfl) (fun hb15 => ?_) (fun hb15 => ?_)
  · replace hb15 : (decide (x < y)) = true := hb15
    have qhb15 := of_decide_eq_true hb15
    refine sw_seq ?_
    refine sw_reg ?_
    refine sy_ldv 8 (.v (r2.v)) ty26 part_agg ?_
    refine sy_call 9 142 [r2.v] ?_
    intro w16 u16 e16 d16
    have k21 := k_rqTrim d16 (hr2.ext (e11.trans (g13.ext.trans e16))) (by omega)
    with_reducible refine Post.mono k21 ?_
    clear k21
    rintro _ u19 g20 ⟨r17, rfl, h18⟩
    refine sy_store ⟨26, r17.cs⟩ ty26 ?_
    refine sy_next 12 [(4, .adr 4 0)] [(4, ⟨26, r17.cs⟩)] ?_
    refine sw_ret (mpr_seq (ret0 [r17.v] ⟨res_cell ty26 part_agg, trivial⟩ fun u22 e23 => ?_))
    refine ⟨r17, rfl, RatN.more (K := L) ?_ (by omega)⟩
    unfold Nt.hi
    rw [if_pos (of_decide_eq_true hb15)]
    exact (h18.ext e23)
  · replace hb15 : (decide (x < y)) = false := hb15
    have qhb15 := of_decide_eq_false hb15
    refine sw_skip (mp_seq ?_)
    refine sw_seq ?_
    refine sw_reg ?_
    refine sy_ldv 10 (.v (r1.v)) ty26 part_agg ?_
    refine sy_call 11 142 [r1.v] ?_
    intro w24 u24 e24 d24
    have k29 := k_rqTrim d24 (hr1.ext (e11.trans (g13.ext.trans e24))) (by omega)
    with_reducible refine Post.mono k29 ?_
    clear k29
    rintro _ u27 g28 ⟨r25, rfl, h26⟩
    refine sy_store ⟨26, r25.cs⟩ ty26 ?_
    refine sy_next 12 [(4, .adr 4 0)] [(4, ⟨26, r25.cs⟩)] ?_
    refine sw_ret (ret0 [r25.v] ⟨res_cell ty26 part_agg, trivial⟩ fun u30 e31 => ?_)
    refine ⟨r25, rfl, RatN.more (K := K) ?_ (by omega)⟩
    unfold Nt.hi
    rw [if_neg (of_decide_eq_false hb15)]
    exact (h26.ext e31)
/-- What a division of the reference answers. -/
def DivQ (x y : Rat) (K : Nat) (v : Value) (u : World) : Prop := (v = .tuple #[.agg #[.bool false, .slice none 0 0, .slice none 0 0], .int .i64 3] ∧ y = 0) ∨ (y ≠ 0 ∧ ∃ r : RL, v = .tuple #[r.v, .int .i64 0] ∧ RatN u r (x / y) K)
set_option maxHeartbeats 1000000 in
theorem k_rqDiv {u w : World} {r1 : RL} {x : Rat} {K : Nat} {r2 : RL} {y : Rat} {L : Nat} (d : Dat u w) (hr1 : RatV u r1 x K) (hr2 : RatV u r2 y L) (hK : K ≤ 100000000) (hL : L ≤ 100000000) : Calls Tryz.prog 102 #[r1.v, r2.v] w (Post u w fun v u' => DivQ x y (K + L + 1) v u') := by
  refine calls_sym (args := [r1.v, r2.v]) Tryz.func102 rfl Tryz.ntmps102 (rs := [.cell 4 26, .tmp 5]) Tryz.results102 (le_b rfl) (le_b rfl) d ?_
  refine sw_seq ?_
  refine sw_reg ?_
  refine sy_new 2 ⟨26, r1.cs⟩ ?_
  refine sy_new 3 ⟨26, r2.cs⟩ ?_
  refine sy_new 4 ⟨26, [.bool false, .slice none 0 0, .slice none 0 0]⟩ ?_
  refine sy_pure 5 (.v (.int .i64 0)) ?_
  refine sy_next 31 [(2, .adr 2 0), (3, .adr 3 0), (4, .adr 4 0)] [(2, ⟨26, r1.cs⟩), (3, ⟨26, r2.cs⟩), (4, ⟨26, [.bool false, .slice none 0 0, .slice none 0 0]⟩)] ?_
  refine sw_seq ?_
  refine sw_reg ?_
  refine sy_ldv 11 (.v (r1.v)) ty26 part_agg ?_
  refine sy_call 12 105 [r1.v] ?_
  intro w11 u11 e11 d11
  have k15 := k_parts d11 (hr1.ext e11) (by omega)
  with_reducible refine Post.mono k15 ?_
  clear k15
  rintro _ u13 g14 ⟨i12, j12, z12, D12, rfl, hi12, hj12, hp12, hq12, hk12⟩
  refine sy_pure 10 (.v (.tuple #[i12.v, j12.v])) ?_
  refine sy_pure 13 (.v (i12.v)) ?_
  refine sy_pure 14 (.v (j12.v)) ?_
  refine sy_new 6 ⟨24, [.bool false, .slice none 0 0]⟩ ?_
  refine sy_new 7 ⟨24, [.bool false, .slice none 0 0]⟩ ?_
  refine sy_store ⟨24, i12.cs⟩ ty24 ?_
  refine sy_store ⟨24, j12.cs⟩ ty24 ?_
  refine sy_next 31 [(3, .adr 3 0), (4, .adr 4 0), (6, .adr 6 0), (7, .adr 7 0)] [(3, ⟨26, r2.cs⟩), (4, ⟨26, [.bool false, .slice none 0 0, .slice none 0 0]⟩), (6, ⟨24, i12.cs⟩), (7, ⟨24, j12.cs⟩)] ?_
  refine sw_seq ?_
  refine sw_reg ?_
  refine sy_ldv 16 (.v (r2.v)) ty26 part_agg ?_
  refine sy_call 17 105 [r2.v] ?_
  intro w16 u16 e16 d16
  have k20 := k_parts d16 (hr2.ext (e11.trans (g14.ext.trans e16))) (by omega)
  with_reducible refine Post.mono k20 ?_
  clear k20
  rintro _ u18 g19 ⟨i17, j17, z17, D17, rfl, hi17, hj17, hp17, hq17, hk17⟩
  refine sy_pure 15 (.v (.tuple #[i17.v, j17.v])) ?_
  refine sy_pure 18 (.v (i17.v)) ?_
  refine sy_pure 19 (.v (j17.v)) ?_
  refine sy_new 8 ⟨24, [.bool false, .slice none 0 0]⟩ ?_
  refine sy_new 9 ⟨24, [.bool false, .slice none 0 0]⟩ ?_
  refine sy_store ⟨24, i17.cs⟩ ty24 ?_
  refine sy_store ⟨24, j17.cs⟩ ty24 ?_
  refine sy_next 31 [(4, .adr 4 0), (6, .adr 6 0), (7, .adr 7 0), (8, .adr 8 0), (9, .adr 9 0)] [(4, ⟨26, [.bool false, .slice none 0 0, .slice none 0 0]⟩), (6, ⟨24, i12.cs⟩), (7, ⟨24, j12.cs⟩), (8, ⟨24, i17.cs⟩), (9, ⟨24, j17.cs⟩)] ?_
  refine sw_seq ?_
  refine sw_seq ?_
  refine sw_reg ?_
  refine sy_ldv 20 (.v (i17.v)) ty24 part_agg ?_
  refine sy_call 21 125 [i17.v] ?_
  intro w21 u21 e21 d21
  have k24 := k_riSign d21 (hi17.ext e21) (by omega)
  with_reducible refine Post.mono k24 ?_
  clear k24
  rintro _ u22 g23 rfl
  refine sy_pure 22 (.v (.bool ((Nt.cmpS z17 0) == 0))) ?_
  refine sy_next 31 [(4, .adr 4 0), (6, .adr 6 0), (7, .adr 7 0), (8, .adr 8 0), (9, .adr 9 0), (22, .v (.bool ((Nt.cmpS z17 0) == 0)))] [(4, ⟨26, [.bool false, .slice none 0 0, .slice none 0 0]⟩), (6, ⟨24, i12.cs⟩), (7, ⟨24, j12.cs⟩), (8, ⟨24, i17.cs⟩), (9, ⟨24, j17.cs⟩)] ?_
  refine sw_cond (b := (Nt.cmpS z17 0) == 0) (by kernel_rfl) (fun hb25 => ?_) (fun hb25 => ?_)
  · replace hb25 : ((Nt.cmpS z17 0) == 0) = true := hb25
    refine sw_seq ?_
    refine sw_reg ?_
    refine sy_pure 23 (.v (.agg #[.bool false, .slice none 0 0, .slice none 0 0])) ?_
    refine sy_store ⟨26, [.bool false, .slice none 0 0, .slice none 0 0]⟩ ty26 ?_
    refine sy_pure 5 (.v (.int .i64 3)) ?_
    refine sy_next 31 [(4, .adr 4 0), (5, .v (.int .i64 3))] [(4, ⟨26, [.bool false, .slice none 0 0, .slice none 0 0]⟩)] ?_
    refine sw_ret (mpr_seq (ret0 [.agg #[.bool false, .slice none 0 0, .slice none 0 0], .int .i64 3] ⟨res_cell ty26 part_agg, res_tmp, trivial⟩ fun u26 e27 => ?_))
    left
    exact ⟨rfl, by rw [hq17, Nt.cmp_eq0 hb25, Rat.zero_mkRat]⟩
  · replace hb25 : ((Nt.cmpS z17 0) == 0) = false := hb25
    have hz0 : z17 ≠ 0 := Nt.cmp_ne0 hb25
    refine sw_skip (mp_seq ?_)
    refine sw_seq ?_
    refine sw_any [0, 0, 3, 0, 0, 31, 63, 127, 255] [(0, []), (1, []), (3, []), (4, []), (2, []), (5, []), (6, []), (7, []), (8, [])] (by kernel_rfl) (by kernel_rfl) ?_
    refine sy_ldv 24 (.v (i12.v)) ty24 part_agg ?_
    refine sy_ldv 25 (.v (j17.v)) ty24 part_agg ?_
    refine sy_ldv 27 (.v (j12.v)) ty24 part_agg ?_
    refine sy_ldv 28 (.v (i17.v)) ty24 part_agg ?_
    refine sy_call 26 108 [i12.v, j17.v] ?_
    intro w28 u28 e28 d28
    have k33 := k_riMul d28 (hi12.ext (e16.trans (g19.ext.trans (e21.trans (g23.ext.trans e28))))) (hj17.ext (e21.trans (g23.ext.trans e28))).raw (by omega) (by omega)
    with_reducible refine Post.mono k33 ?_
    clear k33
    rintro _ u31 g32 ⟨i29, rfl, h30⟩
    refine sy_call 29 108 [j12.v, i17.v] ?_
    intro w34 u34 e34 d34
    have k39 := k_riMul d34 (hj12.ext (e16.trans (g19.ext.trans (e21.trans (g23.ext.trans (e28.trans (g32.ext.trans e34))))))).raw (hi17.ext (e21.trans (g23.ext.trans (e28.trans (g32.ext.trans e34))))) (by omega) (by omega)
    with_reducible refine Post.mono k39 ?_
    clear k39
    rintro _ u37 g38 ⟨i35, rfl, h36⟩
    refine sy_call 30 106 [i29.v, i35.v] ?_
    intro w40 u40 e40 d40
    have k45 := k_reduce d40 (h30.ext (e34.trans (g38.ext.trans e40))).raw (h36.ext e40).raw (by omega) (by omega)
    with_reducible refine Post.mono k45 ?_
    clear k45
    rintro _ u43 g44 ⟨r41, rfl, h42⟩
    refine sy_store ⟨26, r41.cs⟩ ty26 ?_
    refine sy_pure 5 (.v (.int .i64 0)) ?_
    refine sy_next 31 [(4, .adr 4 0), (5, .v (.int .i64 0))] [(4, ⟨26, r41.cs⟩)] ?_
    refine sw_ret (ret0 [r41.v, .int .i64 0] ⟨res_cell ty26 part_agg, res_tmp, trivial⟩ fun u46 e47 => ?_)
    right
    refine ⟨?_, r41, rfl, RatN.more (K := (max (K + L) (K + L) + 1)) ?_ (by omega)⟩
    · rw [hq17]; exact (Rat.mkRat_ne_zero (by omega)).2 hz0
    · rw [hq12, hq17, ← Nt.quo_mk hp12 hp17 hz0]
      exact (h42.ext e47)
theorem k_rqOver {u w : World} {r1 : RL} {x : Rat} {K : Nat} {r2 : RL} {y : Rat} {L : Nat} (d : Dat u w) (hr1 : RatV u r1 x K) (hr2 : RatV u r2 y L) (hK : K ≤ 100000000) (hL : L ≤ 100000000) : Calls Tryz.prog 16 #[r1.v, r2.v] w (Post u w fun v u' => ∃ r : RL, v = r.v ∧ RatN u' r (x / y) (K + L + 2)) := by
  refine calls_sym (args := [r1.v, r2.v]) Tryz.func16 rfl Tryz.ntmps16 (rs := [.cell 4 26]) Tryz.results16 (le_b rfl) (le_b rfl) d ?_
  refine sw_seq ?_
  refine sw_reg ?_
  refine sy_new 2 ⟨26, r1.cs⟩ ?_
  refine sy_new 3 ⟨26, r2.cs⟩ ?_
  refine sy_new 4 ⟨26, [.bool false, .slice none 0 0, .slice none 0 0]⟩ ?_
  refine sy_next 17 [(2, .adr 2 0), (3, .adr 3 0), (4, .adr 4 0)] [(2, ⟨26, r1.cs⟩), (3, ⟨26, r2.cs⟩), (4, ⟨26, [.bool false, .slice none 0 0, .slice none 0 0]⟩)] ?_
  refine sw_seq ?_
  refine sw_reg ?_
  refine sy_ldv 8 (.v (r1.v)) ty26 part_agg ?_
  refine sy_ldv 9 (.v (r2.v)) ty26 part_agg ?_
  refine sy_call 10 102 [r1.v, r2.v] ?_
  intro w11 u11 e11 d11
  have k17 := k_rqDiv d11 (hr1.ext e11) (hr2.ext e11) (by omega) (by omega)
  with_reducible refine Post.mono k17 ?_
  clear k17
  rintro _ u15 g16 (⟨rfl, hz12⟩ | ⟨hz12, r13, rfl, h14⟩)
  · skip
    refine sy_pure 7 (.v (.tuple #[.agg #[.bool false, .slice none 0 0, .slice none 0 0], .int .i64 3])) ?_
    refine sy_pure 11 (.v (.agg #[.bool false, .slice none 0 0, .slice none 0 0])) ?_
    refine sy_pure 12 (.v (.int .i64 3)) ?_
    refine sy_new 5 ⟨26, [.bool false, .slice none 0 0, .slice none 0 0]⟩ ?_
    refine sy_store ⟨26, [.bool false, .slice none 0 0, .slice none 0 0]⟩ ty26 ?_
    refine sy_pure 6 (.v (.int .i64 3)) ?_
    refine sy_next 17 [(4, .adr 4 0), (5, .adr 5 0), (6, .v (.int .i64 3))] [(4, ⟨26, [.bool false, .slice none 0 0, .slice none 0 0]⟩), (5, ⟨26, [.bool false, .slice none 0 0, .slice none 0 0]⟩)] ?_
    refine sw_seq ?_
    refine sw_seq ?_
    refine sw_reg ?_
    refine sy_pure 13 (.v (.int .i64 3)) ?_
    refine sy_pure 14 (.v (.bool true)) ?_
    refine sy_next 17 [(4, .adr 4 0), (5, .adr 5 0), (14, .v (.bool true))] [(4, ⟨26, [.bool false, .slice none 0 0, .slice none 0 0]⟩), (5, ⟨26, [.bool false, .slice none 0 0, .slice none 0 0]⟩)] ?_
    refine sw_true (by kernel_rfl) ?_
    refine sw_seq ?_
    refine sw_reg ?_
    refine sy_call 15 41 [.int .i64 0] ?_
    intro w18 u18 e18 d18
    have k23 := k_rqOf d18 (z := 0) (by omega) (by omega)
    with_reducible refine Post.mono k23 ?_
    clear k23
    rintro _ u21 g22 ⟨r19, rfl, h20⟩
    refine sy_store ⟨26, r19.cs⟩ ty26 ?_
    refine sy_next 17 [(4, .adr 4 0)] [(4, ⟨26, r19.cs⟩)] ?_
    refine sw_ret (mpr_seq (ret0 [r19.v] ⟨res_cell ty26 part_agg, trivial⟩ fun u24 e25 => ?_))
    refine ⟨r19, rfl, RatN.more (K := 2) ?_ (by omega)⟩
    rw [hz12, Rat.div_def, Rat.inv_zero, Rat.mul_zero]
    exact (h20.ext e25)
  · skip
    refine sy_pure 7 (.v (.tuple #[r13.v, .int .i64 0])) ?_
    refine sy_pure 11 (.v (r13.v)) ?_
    refine sy_pure 12 (.v (.int .i64 0)) ?_
    refine sy_new 5 ⟨26, [.bool false, .slice none 0 0, .slice none 0 0]⟩ ?_
    refine sy_store ⟨26, r13.cs⟩ ty26 ?_
    refine sy_pure 6 (.v (.int .i64 0)) ?_
    refine sy_next 17 [(4, .adr 4 0), (5, .adr 5 0), (6, .v (.int .i64 0))] [(4, ⟨26, [.bool false, .slice none 0 0, .slice none 0 0]⟩), (5, ⟨26, r13.cs⟩)] ?_
    refine sw_seq ?_
    refine sw_seq ?_
    refine sw_reg ?_
    refine sy_pure 13 (.v (.int .i64 0)) ?_
    refine sy_pure 14 (.v (.bool false)) ?_
    refine sy_next 17 [(4, .adr 4 0), (5, .adr 5 0), (14, .v (.bool false))] [(4, ⟨26, [.bool false, .slice none 0 0, .slice none 0 0]⟩), (5, ⟨26, r13.cs⟩)] ?_
    refine sw_false (by kernel_rfl) ?_
    refine sw_skip (mp_seq ?_)
    refine sw_seq ?_
    refine sw_reg ?_
    refine sy_ldv 16 (.v (r13.v)) ty26 part_agg ?_
    refine sy_store ⟨26, r13.cs⟩ ty26 ?_
    refine sy_next 17 [(4, .adr 4 0)] [(4, ⟨26, r13.cs⟩)] ?_
    refine sw_ret (ret0 [r13.v] ⟨res_cell ty26 part_agg, trivial⟩ fun u26 e27 => ?_)
    refine ⟨r13, rfl, RatN.more (K := (K + L + 1)) ?_ (by omega)⟩
    exact (h14.ext e27)
end Go.Proofs.YtnedhbidmfoegaaGreat
namespace Go.Proofs.YtnedhbidmfoegaaGreat
open Go.RowKit
set_option linter.unusedVariables false
namespace Nt
theorem cmpQ_gt (x y : Rat) : decide ((0 : Int) < cmpQ x y) = decide (y < x) := by
  unfold cmpQ
  rw [decide_eq_decide]
  split
  · constructor
    · intro h; simp at h
    · intro h; grind
  · split
    · constructor
      · intro h; simp at h
      · intro h; grind
    · constructor
      · intro h; grind
      · intro h; simp
theorem cmpQ_le (x y : Rat) : decide (cmpQ x y ≤ (0 : Int)) = decide (x ≤ y) := by
  unfold cmpQ
  rw [decide_eq_decide]
  split
  · constructor
    · intro h; grind
    · intro h; simp
  · split
    · constructor
      · intro h; grind
      · intro h; simp
    · constructor
      · intro h; simp at h
      · intro h; grind
theorem sgQ_gt (x : Rat) : decide ((0 : Int) < sgQ x) = decide (0 < x) := cmpQ_gt x 0
theorem sgQ_lt (x : Rat) : decide (sgQ x < (0 : Int)) = decide (x < 0) := cmpQ_lt x 0
theorem ends_gt {x y : Rat} (h : decide ((0 : Int) < cmpQ x y) = true) : lo x y = y ∧ hi x y = x := by
  rw [cmpQ_gt] at h
  have h := of_decide_eq_true h
  unfold lo hi
  exact ⟨if_pos h, if_neg (by grind)⟩
theorem ends_le {x y : Rat} (h : decide ((0 : Int) < cmpQ x y) = false) : lo x y = x ∧ hi x y = y := by
  rw [cmpQ_gt] at h
  have h := of_decide_eq_false h
  unfold lo hi
  refine ⟨if_neg h, ?_⟩
  split
  · rfl
  · grind
theorem lesser_lt {x y : Rat} (h : decide (cmpQ y x < (0 : Int)) = true) : lo x y = y := by
  rw [cmpQ_lt] at h
  exact if_pos (of_decide_eq_true h)
theorem lesser_ge {x y : Rat} (h : decide (cmpQ y x < (0 : Int)) = false) : lo x y = x := by
  rw [cmpQ_lt] at h
  exact if_neg (of_decide_eq_false h)
theorem greater_gt {x y : Rat} (h : decide ((0 : Int) < cmpQ y x) = true) : hi x y = y := by
  rw [cmpQ_gt] at h
  exact if_pos (of_decide_eq_true h)
theorem greater_le {x y : Rat} (h : decide ((0 : Int) < cmpQ y x) = false) : hi x y = x := by
  rw [cmpQ_gt] at h
  exact if_neg (of_decide_eq_false h)
theorem lo_le_hi (x y : Rat) : lo x y ≤ hi x y := by unfold lo hi; grind
theorem lo_of_le {x y : Rat} (h : x ≤ y) : lo x y = x ∧ hi x y = y := by unfold lo hi; grind
/-- Whether x lies in the interval with the ends a, b. -/
def inI (a b x : Rat) : Bool := decide (lo a b ≤ x) && decide (x ≤ hi a b)
theorem inI_less (a b x : Rat) : inI a b x = ((!decide (x < lo a b)) && (!decide (hi a b < x))) := by
  unfold inI
  rw [Bool.eq_iff_iff]
  simp
  grind
/-- The sign of an interval. -/
def sgI (a b : Rat) : Int := if 0 < lo a b then 1 else if hi a b < 0 then -1 else 0
/-- The least, the greatest of four. -/
def lo4 (a b c d : Rat) : Rat := lo (lo (lo a b) c) d
def hi4 (a b c d : Rat) : Rat := hi (hi (hi a b) c) d
end Nt
section
variable {u u' w w' : World} {x y : Sl} {i j : IL} {r r' : RL} {N M K L : Nat} {z z' : Int} {q q' : Rat}
theorem k_cloneN (d : Dat u w) (h : NatN u x N K) (hK : K ≤ 500000000) : Calls Tryz.prog 184 #[x.v] w (Post u w fun v u' => ∃ y : Sl, v = y.v ∧ NatN u' y N K) := by
  obtain ⟨h1, h2, h3⟩ := h
  refine (CloneU_any _ _ _ _ _ (h2.ext d.ext) (by omega)).mono fun e w' ⟨A', c', he, f, g, hb⟩ => ?_
  have hs : u.heap.size ≤ w'.heap.size := by rw [d.size]; exact hb.size
  exact ⟨_, over u w', he, over_dat d hb, hb, over_grow hs, ⟨A', x.n, c'⟩, rfl, h1, f.over (fun hp => by obtain ⟨a, e, k, _⟩ := g hp; exact ⟨a, e, by rw [d.size]; exact k⟩) hs, h3⟩
theorem own_rat {m e : Sl} (h : RatN u r q K) (h1 : NatN u' m q.num.natAbs K) (h2 : NatN u' e q.den K) : RatN u' ⟨r.s, m, e⟩ q K := ⟨⟨h.1.1, h1⟩, h2⟩
end
end Go.Proofs.YtnedhbidmfoegaaGreat
namespace Go.Proofs.YtnedhbidmfoegaaGreat
open Go.RowKit
set_option linter.unusedVariables false
theorem k_ends {u w : World} {a1 a2 : RL} {x1 x2 : Rat} {K : Nat} (d : Dat u w) (ha1 : RatV u a1 x1 K) (ha2 : RatV u a2 x2 K) (hK : K ≤ 200000000) : Calls Tryz.prog 103 #[IV a1 a2] w (Post u w fun v u' => ∃ p q : RL, v = .tuple #[p.v, q.v] ∧ RatV u' p (Nt.lo x1 x2) K ∧ RatV u' q (Nt.hi x1 x2) K) := by
  refine calls_sym (args := [.agg #[.bool a1.s, .slice a1.m.a a1.m.n a1.m.c, .slice a1.d.a a1.d.n a1.d.c, .bool a2.s, .slice a2.m.a a2.m.n a2.m.c, .slice a2.d.a a2.d.n a2.d.c]]) Tryz.func103 rfl Tryz.ntmps103 (rs := [.cell 2 26, .cell 3 26]) Tryz.results103 (le_b rfl) (le_b rfl) d ?_
  refine sw_seq ?_
  refine sw_reg ?_
  refine sy_new 1 ⟨28, a1.cs ++ a2.cs⟩ ?_
  refine sy_new 2 ⟨26, [.bool false, .slice none 0 0, .slice none 0 0]⟩ ?_
  refine sy_new 3 ⟨26, [.bool false, .slice none 0 0, .slice none 0 0]⟩ ?_
  refine sy_next 18 [(1, .adr 1 0), (2, .adr 2 0), (3, .adr 3 0)] [(1, ⟨28, a1.cs ++ a2.cs⟩), (2, ⟨26, [.bool false, .slice none 0 0, .slice none 0 0]⟩), (3, ⟨26, [.bool false, .slice none 0 0, .slice none 0 0]⟩)] ?_
  refine sw_seq ?_
  refine sw_seq ?_
  refine sw_reg ?_
  refine sy_pure 4 (.adr 1 0) ?_
  refine sy_ldv 5 (.v (a1.v)) ty26 part_agg ?_
  refine sy_pure 6 (.adr 1 3) ?_
  refine sy_ldv 7 (.v (a2.v)) ty26 part_agg ?_
  refine sy_call 8 114 [a1.v, a2.v] ?_
  intro w11 u11 e11 d11
  have k14 := k_ratCompare d11 (ha1.ext e11) (ha2.ext e11) (by omega) (by omega)
  with_reducible refine Post.mono k14 ?_
  clear k14
  rintro _ u12 g13 rfl
  refine sy_pure 9 (.v (.bool (decide ((0 : Int) < (Nt.cmpQ x1 x2))))) ?_
  refine sy_next 18 [(1, .adr 1 0), (2, .adr 2 0), (3, .adr 3 0), (9, .v (.bool (decide ((0 : Int) < (Nt.cmpQ x1 x2)))))] [(1, ⟨28, a1.cs ++ a2.cs⟩), (2, ⟨26, [.bool false, .slice none 0 0, .slice none 0 0]⟩), (3, ⟨26, [.bool false, .slice none 0 0, .slice none 0 0]⟩)] ?_
  refine sw_cond (b := decide ((0 : Int) < (Nt.cmpQ x1 x2))) (by kernel_rfl) (fun hb15 => ?_) (fun hb15 => ?_)
  · replace hb15 : (decide ((0 : Int) < (Nt.cmpQ x1 x2))) = true := hb15
    have qhb15 := of_decide_eq_true hb15
    refine sw_seq ?_
    refine sw_any [0, 1, 0, 4, 3, 31] [(0, []), (1, []), (2, []), (3, []), (4, [12]), (5, [])] (by kernel_rfl) (by kernel_rfl) ?_
    refine sy_pure 10 (.adr 1 3) ?_
    refine sy_ldv 11 (.v (a2.v)) ty26 part_agg ?_
    refine sy_pure 12 (.adr 1 0) ?_
    refine sy_ldv 13 (.v (a1.v)) ty26 part_agg ?_
    refine sy_store ⟨26, a2.cs⟩ ty26 ?_
    refine sy_store ⟨26, a1.cs⟩ ty26 ?_
    refine sy_next 18 [(2, .adr 2 0), (3, .adr 3 0)] [(2, ⟨26, a2.cs⟩), (3, ⟨26, a1.cs⟩)] ?_
    refine sw_ret (mpr_seq (ret0 [a2.v, a1.v] ⟨res_cell ty26 part_agg, res_cell ty26 part_agg, trivial⟩ fun u16 e17 => ?_))
    refine ⟨a2, a1, rfl, ?_, ?_⟩
    · rw [(Nt.ends_gt hb15).1]; exact (ha2.ext (e11.trans (g13.ext.trans e17)))
    · rw [(Nt.ends_gt hb15).2]; exact (ha1.ext (e11.trans (g13.ext.trans e17)))
  · replace hb15 : (decide ((0 : Int) < (Nt.cmpQ x1 x2))) = false := hb15
    have qhb15 := of_decide_eq_false hb15
    refine sw_skip (mp_seq ?_)
    refine sw_seq ?_
    refine sw_any [0, 1, 0, 4, 3, 31] [(0, []), (1, []), (2, []), (3, []), (4, [16]), (5, [])] (by kernel_rfl) (by kernel_rfl) ?_
    refine sy_pure 14 (.adr 1 0) ?_
    refine sy_ldv 15 (.v (a1.v)) ty26 part_agg ?_
    refine sy_pure 16 (.adr 1 3) ?_
    refine sy_ldv 17 (.v (a2.v)) ty26 part_agg ?_
    refine sy_store ⟨26, a1.cs⟩ ty26 ?_
    refine sy_store ⟨26, a2.cs⟩ ty26 ?_
    refine sy_next 18 [(2, .adr 2 0), (3, .adr 3 0)] [(2, ⟨26, a1.cs⟩), (3, ⟨26, a2.cs⟩)] ?_
    refine sw_ret (ret0 [a1.v, a2.v] ⟨res_cell ty26 part_agg, res_cell ty26 part_agg, trivial⟩ fun u18 e19 => ?_)
    refine ⟨a1, a2, rfl, ?_, ?_⟩
    · rw [(Nt.ends_le hb15).1]; exact (ha1.ext (e11.trans (g13.ext.trans e19)))
    · rw [(Nt.ends_le hb15).2]; exact (ha2.ext (e11.trans (g13.ext.trans e19)))
theorem k_lesserN {u w : World} {a : RL} {x : Rat} {b : RL} {y : Rat} {K : Nat} (d : Dat u w) (ha : RatN u a x K) (hb : RatN u b y K) (hK : K ≤ 200000000) : Calls Tryz.prog 128 #[a.v, b.v] w (Post u w fun v u' => ∃ p : RL, v = p.v ∧ RatN u' p (Nt.lo x y) K) := by
  refine calls_sym (args := [a.v, b.v]) Tryz.func128 rfl Tryz.ntmps128 (rs := [.cell 4 26]) Tryz.results128 (le_b rfl) (le_b rfl) d ?_
  refine sw_seq ?_
  refine sw_reg ?_
  refine sy_new 2 ⟨26, a.cs⟩ ?_
  refine sy_new 3 ⟨26, b.cs⟩ ?_
  refine sy_new 4 ⟨26, [.bool false, .slice none 0 0, .slice none 0 0]⟩ ?_
  refine sy_next 11 [(2, .adr 2 0), (3, .adr 3 0), (4, .adr 4 0)] [(2, ⟨26, a.cs⟩), (3, ⟨26, b.cs⟩), (4, ⟨26, [.bool false, .slice none 0 0, .slice none 0 0]⟩)] ?_
  refine sw_seq ?_
  refine sw_seq ?_
  refine sw_reg ?_
  refine sy_ldv 5 (.v (b.v)) ty26 part_agg ?_
  refine sy_ldv 6 (.v (a.v)) ty26 part_agg ?_
  refine sy_call 7 114 [b.v, a.v] ?_
  intro w11 u11 e11 d11
  have k14 := k_ratCompare d11 (hb.ext e11).raw (ha.ext e11).raw (by omega) (by omega)
  with_reducible refine Post.mono k14 ?_
  clear k14
  rintro _ u12 g13 rfl
  refine sy_pure 8 (.v (.bool (decide ((Nt.cmpQ y x) < 0)))) ?_
  refine sy_next 11 [(2, .adr 2 0), (3, .adr 3 0), (4, .adr 4 0), (8, .v (.bool (decide ((Nt.cmpQ y x) < 0))))] [(2, ⟨26, a.cs⟩), (3, ⟨26, b.cs⟩), (4, ⟨26, [.bool false, .slice none 0 0, .slice none 0 0]⟩)] ?_
  refine sw_cond (b := decide ((Nt.cmpQ y x) < 0)) (by kernel_rfl) (fun hb15 => ?_) (fun hb15 => ?_)
  · replace hb15 : (decide ((Nt.cmpQ y x) < 0)) = true := hb15
    have qhb15 := of_decide_eq_true hb15
    refine sw_seq ?_
    refine sw_reg ?_
    refine sy_ldv 9 (.v (b.v)) ty26 part_agg ?_
    refine sy_store ⟨26, b.cs⟩ ty26 ?_
    refine sy_next 11 [(4, .adr 4 0)] [(4, ⟨26, b.cs⟩)] ?_
    refine sw_ret (mpr_seq (ret0 [b.v] ⟨res_cell ty26 part_agg, trivial⟩ fun u16 e17 => ?_))
    refine ⟨b, rfl, ?_⟩
    rw [Nt.lesser_lt hb15]
    exact (hb.ext (e11.trans (g13.ext.trans e17)))
  · replace hb15 : (decide ((Nt.cmpQ y x) < 0)) = false := hb15
    have qhb15 := of_decide_eq_false hb15
    refine sw_skip (mp_seq ?_)
    refine sw_seq ?_
    refine sw_reg ?_
    refine sy_ldv 10 (.v (a.v)) ty26 part_agg ?_
    refine sy_store ⟨26, a.cs⟩ ty26 ?_
    refine sy_next 11 [(4, .adr 4 0)] [(4, ⟨26, a.cs⟩)] ?_
    refine sw_ret (ret0 [a.v] ⟨res_cell ty26 part_agg, trivial⟩ fun u18 e19 => ?_)
    refine ⟨a, rfl, ?_⟩
    rw [Nt.lesser_ge hb15]
    exact (ha.ext (e11.trans (g13.ext.trans e19)))
theorem k_greaterN {u w : World} {a : RL} {x : Rat} {b : RL} {y : Rat} {K : Nat} (d : Dat u w) (ha : RatN u a x K) (hb : RatN u b y K) (hK : K ≤ 200000000) : Calls Tryz.prog 113 #[a.v, b.v] w (Post u w fun v u' => ∃ p : RL, v = p.v ∧ RatN u' p (Nt.hi x y) K) := by
  refine calls_sym (args := [a.v, b.v]) Tryz.func113 rfl Tryz.ntmps113 (rs := [.cell 4 26]) Tryz.results113 (le_b rfl) (le_b rfl) d ?_
  refine sw_seq ?_
  refine sw_reg ?_
  refine sy_new 2 ⟨26, a.cs⟩ ?_
  refine sy_new 3 ⟨26, b.cs⟩ ?_
  refine sy_new 4 ⟨26, [.bool false, .slice none 0 0, .slice none 0 0]⟩ ?_
  refine sy_next 11 [(2, .adr 2 0), (3, .adr 3 0), (4, .adr 4 0)] [(2, ⟨26, a.cs⟩), (3, ⟨26, b.cs⟩), (4, ⟨26, [.bool false, .slice none 0 0, .slice none 0 0]⟩)] ?_
  refine sw_seq ?_
  refine sw_seq ?_
  refine sw_reg ?_
  refine sy_ldv 5 (.v (b.v)) ty26 part_agg ?_
  refine sy_ldv 6 (.v (a.v)) ty26 part_agg ?_
  refine sy_call 7 114 [b.v, a.v] ?_
  intro w11 u11 e11 d11
  have k14 := k_ratCompare d11 (hb.ext e11).raw (ha.ext e11).raw (by omega) (by omega)
  with_reducible refine Post.mono k14 ?_
  clear k14
  rintro _ u12 g13 rfl
  refine sy_pure 8 (.v (.bool (decide ((0 : Int) < (Nt.cmpQ y x))))) ?_
  refine sy_next 11 [(2, .adr 2 0), (3, .adr 3 0), (4, .adr 4 0), (8, .v (.bool (decide ((0 : Int) < (Nt.cmpQ y x)))))] [(2, ⟨26, a.cs⟩), (3, ⟨26, b.cs⟩), (4, ⟨26, [.bool false, .slice none 0 0, .slice none 0 0]⟩)] ?_
  refine sw_cond (b := decide ((0 : Int) < (Nt.cmpQ y x))) (by kernel_rfl) (fun hb15 => ?_) (fun hb15 => ?_)
  · replace hb15 : (decide ((0 : Int) < (Nt.cmpQ y x))) = true := hb15
    have qhb15 := of_decide_eq_true hb15
    refine sw_seq ?_
    refine sw_reg ?_
    refine sy_ldv 9 (.v (b.v)) ty26 part_agg ?_
    refine sy_store ⟨26, b.cs⟩ ty26 ?_
    refine sy_next 11 [(4, .adr 4 0)] [(4, ⟨26, b.cs⟩)] ?_
    refine sw_ret (mpr_seq (ret0 [b.v] ⟨res_cell ty26 part_agg, trivial⟩ fun u16 e17 => ?_))
    refine ⟨b, rfl, ?_⟩
    rw [Nt.greater_gt hb15]
    exact (hb.ext (e11.trans (g13.ext.trans e17)))
  · replace hb15 : (decide ((0 : Int) < (Nt.cmpQ y x))) = false := hb15
    have qhb15 := of_decide_eq_false hb15
    refine sw_skip (mp_seq ?_)
    refine sw_seq ?_
    refine sw_reg ?_
    refine sy_ldv 10 (.v (a.v)) ty26 part_agg ?_
    refine sy_store ⟨26, a.cs⟩ ty26 ?_
    refine sy_next 11 [(4, .adr 4 0)] [(4, ⟨26, a.cs⟩)] ?_
    refine sw_ret (ret0 [a.v] ⟨res_cell ty26 part_agg, trivial⟩ fun u18 e19 => ?_)
    refine ⟨a, rfl, ?_⟩
    rw [Nt.greater_le hb15]
    exact (ha.ext (e11.trans (g13.ext.trans e19)))
theorem k_own {u w : World} {a : RL} {x : Rat} {K : Nat} (d : Dat u w) (ha : RatN u a x K) (hK : K ≤ 200000000) : Calls Tryz.prog 151 #[a.v] w (Post u w fun v u' => ∃ p : RL, v = p.v ∧ RatN u' p x K) := by
  refine calls_sym (args := [a.v]) Tryz.func151 rfl Tryz.ntmps151 (rs := [.cell 2 26]) Tryz.results151 (le_b rfl) (le_b rfl) d ?_
  refine sw_seq ?_
  refine sw_reg ?_
  refine sy_new 1 ⟨26, a.cs⟩ ?_
  refine sy_new 2 ⟨26, [.bool false, .slice none 0 0, .slice none 0 0]⟩ ?_
  refine sy_next 15 [(1, .adr 1 0), (2, .adr 2 0)] [(1, ⟨26, a.cs⟩), (2, ⟨26, [.bool false, .slice none 0 0, .slice none 0 0]⟩)] ?_
  refine sw_seq ?_
  refine sw_any [0, 1, 3, 0, 8, 24, 56, 127, 0, 256, 888, 2047, 4095] [(0, []), (1, []), (2, []), (3, []), (4, []), (5, []), (8, []), (9, []), (6, []), (7, []), (10, []), (11, []), (12, [])] (by kernel_rfl) (by kernel_rfl) ?_
  refine sy_pure 3 (.adr 1 0) ?_
  refine sy_pure 4 (.adr 1 0) ?_
  refine sy_ldv 5 (.v (.bool a.s)) ty4 part_one ?_
  refine sy_pure 6 (.adr 1 0) ?_
  refine sy_pure 7 (.adr 1 1) ?_
  refine sy_ldv 8 (.v (.slice a.m.a a.m.n a.m.c)) ty22 part_one ?_
  refine sy_pure 11 (.adr 1 2) ?_
  refine sy_ldv 12 (.v (.slice a.d.a a.d.n a.d.c)) ty22 part_one ?_
  refine sy_call 9 184 [.slice a.m.a a.m.n a.m.c] ?_
  intro w11 u11 e11 d11
  have k16 := k_cloneN d11 ((int_mag (RatN.num ha)).ext e11) (by omega)
  with_reducible refine Post.mono k16 ?_
  clear k16
  rintro _ u14 g15 ⟨x12, rfl, h13⟩
  refine sy_pure 10 (.v (.agg #[.bool a.s, .slice x12.a x12.n x12.c])) ?_
  refine sy_call 13 184 [.slice a.d.a a.d.n a.d.c] ?_
  intro w17 u17 e17 d17
  have k22 := k_cloneN d17 ((RatN.den ha).ext (e11.trans (g15.ext.trans e17))) (by omega)
  with_reducible refine Post.mono k22 ?_
  clear k22
  rintro _ u20 g21 ⟨x18, rfl, h19⟩
  refine sy_pure 14 (.v (.agg #[.bool a.s, .slice x12.a x12.n x12.c, .slice x18.a x18.n x18.c])) ?_
  refine sy_store ⟨26, [.bool a.s, .slice x12.a x12.n x12.c, .slice x18.a x18.n x18.c]⟩ ty26 ?_
  refine sy_next 15 [(2, .adr 2 0)] [(2, ⟨26, [.bool a.s, .slice x12.a x12.n x12.c, .slice x18.a x18.n x18.c]⟩)] ?_
  refine sw_ret (ret0 [.agg #[.bool a.s, .slice x12.a x12.n x12.c, .slice x18.a x18.n x18.c]] ⟨res_cell ty26 part_agg, trivial⟩ fun u23 e24 => ?_)
  exact ⟨(⟨a.s, x12, x18⟩ : RL), rfl, own_rat (r := a) ha (h13.ext (e17.trans (g21.ext.trans e24))) (h19.ext e24)⟩
set_option maxHeartbeats 1000000 in
theorem k_around {u w : World} {a1 a2 a3 a4 : RL} {x1 x2 x3 x4 : Rat} {K : Nat} (d : Dat u w) (ha1 : RatN u a1 x1 K) (ha2 : RatN u a2 x2 K) (ha3 : RatN u a3 x3 K) (ha4 : RatN u a4 x4 K) (hK : K ≤ 200000000) : Calls Tryz.prog 100 #[.agg #[.bool a1.s, .slice a1.m.a a1.m.n a1.m.c, .slice a1.d.a a1.d.n a1.d.c, .bool a2.s, .slice a2.m.a a2.m.n a2.m.c, .slice a2.d.a a2.d.n a2.d.c, .bool a3.s, .slice a3.m.a a3.m.n a3.m.c, .slice a3.d.a a3.d.n a3.d.c, .bool a4.s, .slice a4.m.a a4.m.n a4.m.c, .slice a4.d.a a4.d.n a4.d.c]] w (Post u w fun v u' => ∃ p q : RL, v = IV p q ∧ RatN u' p (Nt.lo4 x1 x2 x3 x4) K ∧ RatN u' q (Nt.hi4 x1 x2 x3 x4) K) := by
  refine calls_sym (args := [.agg #[.bool a1.s, .slice a1.m.a a1.m.n a1.m.c, .slice a1.d.a a1.d.n a1.d.c, .bool a2.s, .slice a2.m.a a2.m.n a2.m.c, .slice a2.d.a a2.d.n a2.d.c, .bool a3.s, .slice a3.m.a a3.m.n a3.m.c, .slice a3.d.a a3.d.n a3.d.c, .bool a4.s, .slice a4.m.a a4.m.n a4.m.c, .slice a4.d.a a4.d.n a4.d.c]]) Tryz.func100 rfl Tryz.ntmps100 (rs := [.cell 2 28]) Tryz.results100 (le_b rfl) (le_b rfl) d ?_
  refine sw_seq ?_
  refine sw_reg ?_
  refine sy_new 1 ⟨81, a1.cs ++ a2.cs ++ a3.cs ++ a4.cs⟩ ?_
  refine sy_new 2 ⟨28, [.bool false, .slice none 0 0, .slice none 0 0, .bool false, .slice none 0 0, .slice none 0 0]⟩ ?_
  refine sy_next 29 [(1, .adr 1 0), (2, .adr 2 0)] [(1, ⟨81, a1.cs ++ a2.cs ++ a3.cs ++ a4.cs⟩), (2, ⟨28, [.bool false, .slice none 0 0, .slice none 0 0, .bool false, .slice none 0 0, .slice none 0 0]⟩)] ?_
  refine sw_seq ?_
  refine sw_any [0, 1, 0, 4, 0, 0, 51, 127] [(0, []), (1, []), (2, []), (3, []), (4, []), (5, []), (6, [9]), (7, [])] (by kernel_rfl) (by kernel_rfl) ?_
  refine sy_pure 7 (.adr 1 0) ?_
  refine sy_ldv 8 (.v (a1.v)) ty26 part_agg ?_
  refine sy_pure 9 (.adr 1 0) ?_
  refine sy_ldv 10 (.v (a1.v)) ty26 part_agg ?_
  refine sy_new 3 ⟨26, [.bool false, .slice none 0 0, .slice none 0 0]⟩ ?_
  refine sy_new 4 ⟨26, [.bool false, .slice none 0 0, .slice none 0 0]⟩ ?_
  refine sy_store ⟨26, a1.cs⟩ ty26 ?_
  refine sy_store ⟨26, a1.cs⟩ ty26 ?_
  refine sy_next 29 [(1, .adr 1 0), (2, .adr 2 0), (3, .adr 3 0), (4, .adr 4 0)] [(1, ⟨81, a1.cs ++ a2.cs ++ a3.cs ++ a4.cs⟩), (2, ⟨28, [.bool false, .slice none 0 0, .slice none 0 0, .bool false, .slice none 0 0, .slice none 0 0]⟩), (3, ⟨26, a1.cs⟩), (4, ⟨26, a1.cs⟩)] ?_
  refine sw_seq ?_
  refine sw_seq ?_
  refine sw_reg ?_
  refine sy_pure 11 (.slc 1 3 3 3) ?_
  refine sy_pure 12 (.v (.int .i64 3)) ?_
  refine sy_pure 13 (.v (.int .i64 0)) ?_
  refine sy_next 29 [(2, .adr 2 0), (3, .adr 3 0), (4, .adr 4 0), (11, .slc 1 3 3 3), (12, .v (.int .i64 3)), (13, .v (.int .i64 0))] [(1, ⟨81, a1.cs ++ a2.cs ++ a3.cs ++ a4.cs⟩), (2, ⟨28, [.bool false, .slice none 0 0, .slice none 0 0, .bool false, .slice none 0 0, .slice none 0 0]⟩), (3, ⟨26, a1.cs⟩), (4, ⟨26, a1.cs⟩)] ?_
  refine sw_block ?_
  refine sw_rounds 3 ?_
  refine sw_seq ?_
  refine sw_reg ?_
  refine sy_pure 14 (.v (.bool true)) ?_
  refine sy_next 29 [(2, .adr 2 0), (3, .adr 3 0), (4, .adr 4 0), (11, .slc 1 3 3 3), (12, .v (.int .i64 3)), (13, .v (.int .i64 0)), (14, .v (.bool true))] [(1, ⟨81, a1.cs ++ a2.cs ++ a3.cs ++ a4.cs⟩), (2, ⟨28, [.bool false, .slice none 0 0, .slice none 0 0, .bool false, .slice none 0 0, .slice none 0 0]⟩), (3, ⟨26, a1.cs⟩), (4, ⟨26, a1.cs⟩)] ?_
  refine sw_seq ?_
  refine sw_true (by kernel_rfl) ?_
  refine sw_skip (mp_seq ?_)
  refine sw_seq ?_
  refine sw_block ?_
  refine sw_seq ?_
  refine sw_reg ?_
  refine sy_pure 15 (.adr 1 3) ?_
  refine sy_ldv 16 (.v (a2.v)) ty26 part_agg ?_
  refine sy_new 6 ⟨26, [.bool false, .slice none 0 0, .slice none 0 0]⟩ ?_
  refine sy_store ⟨26, a2.cs⟩ ty26 ?_
  refine sy_next 29 [(2, .adr 2 0), (3, .adr 3 0), (4, .adr 4 0), (6, .adr 6 0), (11, .slc 1 3 3 3), (12, .v (.int .i64 3)), (13, .v (.int .i64 0))] [(1, ⟨81, a1.cs ++ a2.cs ++ a3.cs ++ a4.cs⟩), (2, ⟨28, [.bool false, .slice none 0 0, .slice none 0 0, .bool false, .slice none 0 0, .slice none 0 0]⟩), (3, ⟨26, a1.cs⟩), (4, ⟨26, a1.cs⟩), (6, ⟨26, a2.cs⟩)] ?_
  refine sw_any [0, 0, 3, 0, 0, 31, 63, 127] [(0, []), (1, []), (3, []), (4, []), (2, []), (5, []), (6, []), (7, [])] (by kernel_rfl) (by kernel_rfl) ?_
  refine sy_ldv 17 (.v (a1.v)) ty26 part_agg ?_
  refine sy_ldv 18 (.v (a2.v)) ty26 part_agg ?_
  refine sy_ldv 20 (.v (a1.v)) ty26 part_agg ?_
  refine sy_ldv 21 (.v (a2.v)) ty26 part_agg ?_
  refine sy_call 19 128 [a1.v, a2.v] ?_
  intro w11 u11 e11 d11
  have k16 := k_lesserN d11 (ha1.ext e11) (ha2.ext e11) (by omega)
  with_reducible refine Post.mono k16 ?_
  clear k16
  rintro _ u14 g15 ⟨r12, rfl, h13⟩
  refine sy_call 22 113 [a1.v, a2.v] ?_
  intro w17 u17 e17 d17
  have k22 := k_greaterN d17 (ha1.ext (e11.trans (g15.ext.trans e17))) (ha2.ext (e11.trans (g15.ext.trans e17))) (by omega)
  with_reducible refine Post.mono k22 ?_
  clear k22
  rintro _ u20 g21 ⟨r18, rfl, h19⟩
  refine sy_store ⟨26, r12.cs⟩ ty26 ?_
  refine sy_store ⟨26, r18.cs⟩ ty26 ?_
  refine sy_end ?_
  refine mp_seq ?_
  refine sw_reg ?_
  refine sy_pure 23 (.v (.int .i64 1)) ?_
  refine sy_pure 13 (.v (.int .i64 1)) ?_
  refine sy_end ?_
  refine rn_next ?_
  refine sw_weak (T := St.of 29 [(2, .adr 2 0), (3, .adr 3 0), (4, .adr 4 0), (11, .slc 1 3 3 3), (12, .v (.int .i64 3)), (13, .v (.int .i64 1))] [(1, ⟨81, a1.cs ++ a2.cs ++ a3.cs ++ a4.cs⟩), (2, ⟨28, [.bool false, .slice none 0 0, .slice none 0 0, .bool false, .slice none 0 0, .slice none 0 0]⟩), (3, ⟨26, r12.cs⟩), (4, ⟨26, r18.cs⟩)]) (by exact weak_mk _ _ _) ?_
  refine sw_seq ?_
  refine sw_reg ?_
  refine sy_pure 14 (.v (.bool true)) ?_
  refine sy_next 29 [(2, .adr 2 0), (3, .adr 3 0), (4, .adr 4 0), (11, .slc 1 3 3 3), (12, .v (.int .i64 3)), (13, .v (.int .i64 1)), (14, .v (.bool true))] [(1, ⟨81, a1.cs ++ a2.cs ++ a3.cs ++ a4.cs⟩), (2, ⟨28, [.bool false, .slice none 0 0, .slice none 0 0, .bool false, .slice none 0 0, .slice none 0 0]⟩), (3, ⟨26, r12.cs⟩), (4, ⟨26, r18.cs⟩)] ?_
  refine sw_seq ?_
  refine sw_true (by kernel_rfl) ?_
  refine sw_skip (mp_seq ?_)
  refine sw_seq ?_
  refine sw_block ?_
  refine sw_seq ?_
  refine sw_reg ?_
  refine sy_pure 15 (.adr 1 6) ?_
  refine sy_ldv 16 (.v (a3.v)) ty26 part_agg ?_
  refine sy_new 6 ⟨26, [.bool false, .slice none 0 0, .slice none 0 0]⟩ ?_
  refine sy_store ⟨26, a3.cs⟩ ty26 ?_
  refine sy_next 29 [(2, .adr 2 0), (3, .adr 3 0), (4, .adr 4 0), (6, .adr 6 0), (11, .slc 1 3 3 3), (12, .v (.int .i64 3)), (13, .v (.int .i64 1))] [(1, ⟨81, a1.cs ++ a2.cs ++ a3.cs ++ a4.cs⟩), (2, ⟨28, [.bool false, .slice none 0 0, .slice none 0 0, .bool false, .slice none 0 0, .slice none 0 0]⟩), (3, ⟨26, r12.cs⟩), (4, ⟨26, r18.cs⟩), (6, ⟨26, a3.cs⟩)] ?_
  refine sw_any [0, 0, 3, 0, 0, 31, 63, 127] [(0, []), (1, []), (3, []), (4, []), (2, []), (5, []), (6, []), (7, [])] (by kernel_rfl) (by kernel_rfl) ?_
  refine sy_ldv 17 (.v (r12.v)) ty26 part_agg ?_
  refine sy_ldv 18 (.v (a3.v)) ty26 part_agg ?_
  refine sy_ldv 20 (.v (r18.v)) ty26 part_agg ?_
  refine sy_ldv 21 (.v (a3.v)) ty26 part_agg ?_
  refine sy_call 19 128 [r12.v, a3.v] ?_
  intro w23 u23 e23 d23
  have k28 := k_lesserN d23 (h13.ext (e17.trans (g21.ext.trans e23))) (ha3.ext (e11.trans (g15.ext.trans (e17.trans (g21.ext.trans e23))))) (by omega)
  with_reducible refine Post.mono k28 ?_
  clear k28
  rintro _ u26 g27 ⟨r24, rfl, h25⟩
  refine sy_call 22 113 [r18.v, a3.v] ?_
  intro w29 u29 e29 d29
  have k34 := k_greaterN d29 (h19.ext (e23.trans (g27.ext.trans e29))) (ha3.ext (e11.trans (g15.ext.trans (e17.trans (g21.ext.trans (e23.trans (g27.ext.trans e29))))))) (by omega)
  with_reducible refine Post.mono k34 ?_
  clear k34
  rintro _ u32 g33 ⟨r30, rfl, h31⟩
  refine sy_store ⟨26, r24.cs⟩ ty26 ?_
  refine sy_store ⟨26, r30.cs⟩ ty26 ?_
  refine sy_end ?_
  refine mp_seq ?_
  refine sw_reg ?_
  refine sy_pure 23 (.v (.int .i64 2)) ?_
  refine sy_pure 13 (.v (.int .i64 2)) ?_
  refine sy_end ?_
  refine rn_next ?_
  refine sw_weak (T := St.of 29 [(2, .adr 2 0), (3, .adr 3 0), (4, .adr 4 0), (11, .slc 1 3 3 3), (12, .v (.int .i64 3)), (13, .v (.int .i64 2))] [(1, ⟨81, a1.cs ++ a2.cs ++ a3.cs ++ a4.cs⟩), (2, ⟨28, [.bool false, .slice none 0 0, .slice none 0 0, .bool false, .slice none 0 0, .slice none 0 0]⟩), (3, ⟨26, r24.cs⟩), (4, ⟨26, r30.cs⟩)]) (by exact weak_mk _ _ _) ?_
  refine sw_seq ?_
  refine sw_reg ?_
  refine sy_pure 14 (.v (.bool true)) ?_
  refine sy_next 29 [(2, .adr 2 0), (3, .adr 3 0), (4, .adr 4 0), (11, .slc 1 3 3 3), (12, .v (.int .i64 3)), (13, .v (.int .i64 2)), (14, .v (.bool true))] [(1, ⟨81, a1.cs ++ a2.cs ++ a3.cs ++ a4.cs⟩), (2, ⟨28, [.bool false, .slice none 0 0, .slice none 0 0, .bool false, .slice none 0 0, .slice none 0 0]⟩), (3, ⟨26, r24.cs⟩), (4, ⟨26, r30.cs⟩)] ?_
  refine sw_seq ?_
  refine sw_true (by kernel_rfl) ?_
  refine sw_skip (mp_seq ?_)
  refine sw_seq ?_
  refine sw_block ?_
  refine sw_seq ?_
  refine sw_reg ?_
  refine sy_pure 15 (.adr 1 9) ?_
  refine sy_ldv 16 (.v (a4.v)) ty26 part_agg ?_
  refine sy_new 6 ⟨26, [.bool false, .slice none 0 0, .slice none 0 0]⟩ ?_
  refine sy_store ⟨26, a4.cs⟩ ty26 ?_
  refine sy_next 29 [(2, .adr 2 0), (3, .adr 3 0), (4, .adr 4 0), (6, .adr 6 0), (11, .slc 1 3 3 3), (12, .v (.int .i64 3)), (13, .v (.int .i64 2))] [(1, ⟨81, a1.cs ++ a2.cs ++ a3.cs ++ a4.cs⟩), (2, ⟨28, [.bool false, .slice none 0 0, .slice none 0 0, .bool false, .slice none 0 0, .slice none 0 0]⟩), (3, ⟨26, r24.cs⟩), (4, ⟨26, r30.cs⟩), (6, ⟨26, a4.cs⟩)] ?_
  refine sw_any [0, 0, 3, 0, 0, 31, 63, 127] [(0, []), (1, []), (3, []), (4, []), (2, []), (5, []), (6, []), (7, [])] (by kernel_rfl) (by kernel_rfl) ?_
  refine sy_ldv 17 (.v (r24.v)) ty26 part_agg ?_
  refine sy_ldv 18 (.v (a4.v)) ty26 part_agg ?_
  refine sy_ldv 20 (.v (r30.v)) ty26 part_agg ?_
  refine sy_ldv 21 (.v (a4.v)) ty26 part_agg ?_
  refine sy_call 19 128 [r24.v, a4.v] ?_
  intro w35 u35 e35 d35
  have k40 := k_lesserN d35 (h25.ext (e29.trans (g33.ext.trans e35))) (ha4.ext (e11.trans (g15.ext.trans (e17.trans (g21.ext.trans (e23.trans (g27.ext.trans (e29.trans (g33.ext.trans e35))))))))) (by omega)
  with_reducible refine Post.mono k40 ?_
  clear k40
  rintro _ u38 g39 ⟨r36, rfl, h37⟩
  refine sy_call 22 113 [r30.v, a4.v] ?_
  intro w41 u41 e41 d41
  have k46 := k_greaterN d41 (h31.ext (e35.trans (g39.ext.trans e41))) (ha4.ext (e11.trans (g15.ext.trans (e17.trans (g21.ext.trans (e23.trans (g27.ext.trans (e29.trans (g33.ext.trans (e35.trans (g39.ext.trans e41))))))))))) (by omega)
  with_reducible refine Post.mono k46 ?_
  clear k46
  rintro _ u44 g45 ⟨r42, rfl, h43⟩
  refine sy_store ⟨26, r36.cs⟩ ty26 ?_
  refine sy_store ⟨26, r42.cs⟩ ty26 ?_
  refine sy_end ?_
  refine mp_seq ?_
  refine sw_reg ?_
  refine sy_pure 23 (.v (.int .i64 3)) ?_
  refine sy_pure 13 (.v (.int .i64 3)) ?_
  refine sy_end ?_
  refine rn_next ?_
  refine sw_weak (T := St.of 29 [(2, .adr 2 0), (3, .adr 3 0), (4, .adr 4 0), (11, .slc 1 3 3 3), (12, .v (.int .i64 3)), (13, .v (.int .i64 3))] [(1, ⟨81, a1.cs ++ a2.cs ++ a3.cs ++ a4.cs⟩), (2, ⟨28, [.bool false, .slice none 0 0, .slice none 0 0, .bool false, .slice none 0 0, .slice none 0 0]⟩), (3, ⟨26, r36.cs⟩), (4, ⟨26, r42.cs⟩)]) (by exact weak_mk _ _ _) ?_
  refine sw_seq ?_
  refine sw_reg ?_
  refine sy_pure 14 (.v (.bool false)) ?_
  refine sy_next 29 [(2, .adr 2 0), (3, .adr 3 0), (4, .adr 4 0), (11, .slc 1 3 3 3), (12, .v (.int .i64 3)), (13, .v (.int .i64 3)), (14, .v (.bool false))] [(1, ⟨81, a1.cs ++ a2.cs ++ a3.cs ++ a4.cs⟩), (2, ⟨28, [.bool false, .slice none 0 0, .slice none 0 0, .bool false, .slice none 0 0, .slice none 0 0]⟩), (3, ⟨26, r36.cs⟩), (4, ⟨26, r42.cs⟩)] ?_
  refine sw_seq ?_
  refine sw_false (by kernel_rfl) ?_
  refine sw_exit ?_
  refine mp_seq ?_
  refine sw_seq ?_
  refine sw_any [0, 1, 0, 7, 15, 31] [(0, []), (2, []), (1, []), (3, []), (4, []), (5, [])] (by kernel_rfl) (by kernel_rfl) ?_
  refine sy_ldv 24 (.v (r36.v)) ty26 part_agg ?_
  refine sy_ldv 26 (.v (r42.v)) ty26 part_agg ?_
  refine sy_call 25 151 [r36.v] ?_
  intro w47 u47 e47 d47
  have k52 := k_own d47 (h37.ext (e41.trans (g45.ext.trans e47))) (by omega)
  with_reducible refine Post.mono k52 ?_
  clear k52
  rintro _ u50 g51 ⟨r48, rfl, h49⟩
  refine sy_call 27 151 [r42.v] ?_
  intro w53 u53 e53 d53
  have k58 := k_own d53 (h43.ext (e47.trans (g51.ext.trans e53))) (by omega)
  with_reducible refine Post.mono k58 ?_
  clear k58
  rintro _ u56 g57 ⟨r54, rfl, h55⟩
  refine sy_pure 28 (.v (.agg #[.bool r48.s, .slice r48.m.a r48.m.n r48.m.c, .slice r48.d.a r48.d.n r48.d.c, .bool r54.s, .slice r54.m.a r54.m.n r54.m.c, .slice r54.d.a r54.d.n r54.d.c])) ?_
  refine sy_store ⟨28, r48.cs ++ r54.cs⟩ ty28 ?_
  refine sy_next 29 [(2, .adr 2 0)] [(2, ⟨28, r48.cs ++ r54.cs⟩)] ?_
  refine sw_ret (ret0 [.agg #[.bool r48.s, .slice r48.m.a r48.m.n r48.m.c, .slice r48.d.a r48.d.n r48.d.c, .bool r54.s, .slice r54.m.a r54.m.n r54.m.c, .slice r54.d.a r54.d.n r54.d.c]] ⟨res_cell ty28 part_agg, trivial⟩ fun u59 e60 => ?_)
  refine ⟨r48, r54, rfl, RatN.more (K := K) ?_ (by omega), RatN.more (K := K) ?_ (by omega)⟩
  · exact (h49.ext (e53.trans (g57.ext.trans e60)))
  · exact (h55.ext e60)
theorem k_ivMake {u w : World} {a : RL} {x : Rat} {b : RL} {y : Rat} {K : Nat} (d : Dat u w) (ha : RatV u a x K) (hb : RatV u b y K) (hK : K ≤ 100000000) : Calls Tryz.prog 70 #[a.v, b.v] w (Post u w fun v u' => ∃ p q : RL, v = IV p q ∧ RatN u' p (Nt.lo x y) K ∧ RatN u' q (Nt.hi x y) K) := by
  refine calls_sym (args := [a.v, b.v]) Tryz.func70 rfl Tryz.ntmps70 (rs := [.cell 4 28]) Tryz.results70 (le_b rfl) (le_b rfl) d ?_
  refine sw_seq ?_
  refine sw_reg ?_
  refine sy_new 2 ⟨26, a.cs⟩ ?_
  refine sy_new 3 ⟨26, b.cs⟩ ?_
  refine sy_new 4 ⟨28, [.bool false, .slice none 0 0, .slice none 0 0, .bool false, .slice none 0 0, .slice none 0 0]⟩ ?_
  refine sy_next 19 [(2, .adr 2 0), (3, .adr 3 0), (4, .adr 4 0)] [(2, ⟨26, a.cs⟩), (3, ⟨26, b.cs⟩), (4, ⟨28, [.bool false, .slice none 0 0, .slice none 0 0, .bool false, .slice none 0 0, .slice none 0 0]⟩)] ?_
  refine sw_seq ?_
  refine sw_reg ?_
  refine sy_ldv 8 (.v (a.v)) ty26 part_agg ?_
  refine sy_ldv 9 (.v (b.v)) ty26 part_agg ?_
  refine sy_pure 10 (.v (.agg #[.bool a.s, .slice a.m.a a.m.n a.m.c, .slice a.d.a a.d.n a.d.c, .bool b.s, .slice b.m.a b.m.n b.m.c, .slice b.d.a b.d.n b.d.c])) ?_
  refine sy_call 11 103 [.agg #[.bool a.s, .slice a.m.a a.m.n a.m.c, .slice a.d.a a.d.n a.d.c, .bool b.s, .slice b.m.a b.m.n b.m.c, .slice b.d.a b.d.n b.d.c]] ?_
  intro w11 u11 e11 d11
  have k18 := k_ends d11 (ha.ext e11) (hb.ext e11) (by omega)
  with_reducible refine Post.mono k18 ?_
  clear k18
  rintro _ u16 g17 ⟨r12, r14, rfl, h13, h15⟩
  refine sy_pure 7 (.v (.tuple #[r12.v, r14.v])) ?_
  refine sy_pure 12 (.v (r12.v)) ?_
  refine sy_pure 13 (.v (r14.v)) ?_
  refine sy_new 5 ⟨26, [.bool false, .slice none 0 0, .slice none 0 0]⟩ ?_
  refine sy_new 6 ⟨26, [.bool false, .slice none 0 0, .slice none 0 0]⟩ ?_
  refine sy_store ⟨26, r12.cs⟩ ty26 ?_
  refine sy_store ⟨26, r14.cs⟩ ty26 ?_
  refine sy_next 19 [(4, .adr 4 0), (5, .adr 5 0), (6, .adr 6 0)] [(4, ⟨28, [.bool false, .slice none 0 0, .slice none 0 0, .bool false, .slice none 0 0, .slice none 0 0]⟩), (5, ⟨26, r12.cs⟩), (6, ⟨26, r14.cs⟩)] ?_
  refine sw_seq ?_
  refine sw_any [0, 1, 0, 7, 15, 31] [(0, []), (2, []), (1, []), (3, []), (4, []), (5, [])] (by kernel_rfl) (by kernel_rfl) ?_
  refine sy_ldv 14 (.v (r12.v)) ty26 part_agg ?_
  refine sy_ldv 16 (.v (r14.v)) ty26 part_agg ?_
  refine sy_call 15 126 [r12.v] ?_
  intro w19 u19 e19 d19
  have k24 := k_ratTrim d19 (h13.ext e19) (by omega)
  with_reducible refine Post.mono k24 ?_
  clear k24
  rintro _ u22 g23 ⟨r20, rfl, h21⟩
  refine sy_call 17 126 [r14.v] ?_
  intro w25 u25 e25 d25
  have k30 := k_ratTrim d25 (h15.ext (e19.trans (g23.ext.trans e25))) (by omega)
  with_reducible refine Post.mono k30 ?_
  clear k30
  rintro _ u28 g29 ⟨r26, rfl, h27⟩
  refine sy_pure 18 (.v (.agg #[.bool r20.s, .slice r20.m.a r20.m.n r20.m.c, .slice r20.d.a r20.d.n r20.d.c, .bool r26.s, .slice r26.m.a r26.m.n r26.m.c, .slice r26.d.a r26.d.n r26.d.c])) ?_
  refine sy_store ⟨28, r20.cs ++ r26.cs⟩ ty28 ?_
  refine sy_next 19 [(4, .adr 4 0)] [(4, ⟨28, r20.cs ++ r26.cs⟩)] ?_
  refine sw_ret (ret0 [.agg #[.bool r20.s, .slice r20.m.a r20.m.n r20.m.c, .slice r20.d.a r20.d.n r20.d.c, .bool r26.s, .slice r26.m.a r26.m.n r26.m.c, .slice r26.d.a r26.d.n r26.d.c]] ⟨res_cell ty28 part_agg, trivial⟩ fun u31 e32 => ?_)
  refine ⟨r20, r26, rfl, RatN.more (K := K) ?_ (by omega), RatN.more (K := K) ?_ (by omega)⟩
  · exact (h21.ext (e25.trans (g29.ext.trans e32)))
  · exact (h27.ext e32)
theorem k_ivContains {u w : World} {a1 a2 : RL} {x1 x2 : Rat} {b : RL} {y : Rat} {K L : Nat} (d : Dat u w) (ha1 : RatV u a1 x1 K) (ha2 : RatV u a2 x2 K) (hb : RatV u b y L) (hK : K ≤ 100000000) (hL : L ≤ 100000000) : Calls Tryz.prog 24 #[IV a1 a2, b.v] w (Post u w fun v u' => v = .bool (Nt.inI x1 x2 y)) := by
  refine calls_sym (args := [.agg #[.bool a1.s, .slice a1.m.a a1.m.n a1.m.c, .slice a1.d.a a1.d.n a1.d.c, .bool a2.s, .slice a2.m.a a2.m.n a2.m.c, .slice a2.d.a a2.d.n a2.d.c], b.v]) Tryz.func24 rfl Tryz.ntmps24 (rs := [.tmp 4]) Tryz.results24 (le_b rfl) (le_b rfl) d ?_
  refine sw_seq ?_
  refine sw_reg ?_
  refine sy_new 2 ⟨28, a1.cs ++ a2.cs⟩ ?_
  refine sy_new 3 ⟨26, b.cs⟩ ?_
  refine sy_pure 4 (.v (.bool false)) ?_
  refine sy_next 22 [(2, .adr 2 0), (3, .adr 3 0)] [(2, ⟨28, a1.cs ++ a2.cs⟩), (3, ⟨26, b.cs⟩)] ?_
  refine sw_seq ?_
  refine sw_reg ?_
  refine sy_ldv 8 (.v (.agg #[.bool a1.s, .slice a1.m.a a1.m.n a1.m.c, .slice a1.d.a a1.d.n a1.d.c, .bool a2.s, .slice a2.m.a a2.m.n a2.m.c, .slice a2.d.a a2.d.n a2.d.c])) ty28 part_agg ?_
  refine sy_call 9 103 [.agg #[.bool a1.s, .slice a1.m.a a1.m.n a1.m.c, .slice a1.d.a a1.d.n a1.d.c, .bool a2.s, .slice a2.m.a a2.m.n a2.m.c, .slice a2.d.a a2.d.n a2.d.c]] ?_
  intro w11 u11 e11 d11
  have k18 := k_ends d11 (ha1.ext e11) (ha2.ext e11) (by omega)
  with_reducible refine Post.mono k18 ?_
  clear k18
  rintro _ u16 g17 ⟨r12, r14, rfl, h13, h15⟩
  refine sy_pure 7 (.v (.tuple #[r12.v, r14.v])) ?_
  refine sy_pure 10 (.v (r12.v)) ?_
  refine sy_pure 11 (.v (r14.v)) ?_
  refine sy_new 5 ⟨26, [.bool false, .slice none 0 0, .slice none 0 0]⟩ ?_
  refine sy_new 6 ⟨26, [.bool false, .slice none 0 0, .slice none 0 0]⟩ ?_
  refine sy_store ⟨26, r12.cs⟩ ty26 ?_
  refine sy_store ⟨26, r14.cs⟩ ty26 ?_
  refine sy_next 22 [(3, .adr 3 0), (5, .adr 5 0), (6, .adr 6 0)] [(3, ⟨26, b.cs⟩), (5, ⟨26, r12.cs⟩), (6, ⟨26, r14.cs⟩)] ?_
  refine sw_seq ?_
  refine sw_reg ?_
  refine sy_ldv 12 (.v (r12.v)) ty26 part_agg ?_
  refine sy_ldv 13 (.v (b.v)) ty26 part_agg ?_
  refine sy_call 14 114 [r12.v, b.v] ?_
  intro w19 u19 e19 d19
  have k22 := k_ratCompare d19 (h13.ext e19) (hb.ext (e11.trans (g17.ext.trans e19))) (by omega) (by omega)
  with_reducible refine Post.mono k22 ?_
  clear k22
  rintro _ u20 g21 rfl
  refine sy_pure 15 (.v (.bool (decide ((Nt.cmpQ (Nt.lo x1 x2) y) ≤ 0)))) ?_
  rcases Bool.eq_false_or_eq_true (decide ((Nt.cmpQ (Nt.lo x1 x2) y) ≤ 0)) with hs23 | hs23
  · refine sy_eq 16 (x := .v (.bool (decide ((Nt.cmpQ (Nt.lo x1 x2) y) ≤ 0)))) (.v (.bool true)) (by rw [hs23]) ?_
    have qhs23 := of_decide_eq_true hs23
    refine sy_ldv 17 (.v (b.v)) ty26 part_agg ?_ (hw := wants1 (g := 4) (b := true) (t := 16) (by kernel_rfl) (by kernel_rfl) (by kernel_rfl))
    refine sy_ldv 18 (.v (r14.v)) ty26 part_agg ?_ (hw := wants1 (g := 4) (b := true) (t := 16) (by kernel_rfl) (by kernel_rfl) (by kernel_rfl))
    refine sy_call 19 114 [b.v, r14.v] ?_ (hw := wants1 (g := 4) (b := true) (t := 16) (by kernel_rfl) (by kernel_rfl) (by kernel_rfl))
    intro w24 u24 e24 d24
    have k27 := k_ratCompare d24 (hb.ext (e11.trans (g17.ext.trans (e19.trans (g21.ext.trans e24))))) (h15.ext (e19.trans (g21.ext.trans e24))) (by omega) (by omega)
    with_reducible refine Post.mono k27 ?_
    clear k27
    rintro _ u25 g26 rfl
    refine sy_pure 20 (.v (.bool (decide ((Nt.cmpQ y (Nt.hi x1 x2)) ≤ 0)))) ?_ (hw := wants1 (g := 4) (b := true) (t := 16) (by kernel_rfl) (by kernel_rfl) (by kernel_rfl))
    refine sy_pure 21 (.v (.bool (decide ((Nt.cmpQ y (Nt.hi x1 x2)) ≤ 0)))) ?_
    refine sy_pure 4 (.v (.bool (decide ((Nt.cmpQ y (Nt.hi x1 x2)) ≤ 0)))) ?_
    refine sy_next 22 [(4, .v (.bool (decide ((Nt.cmpQ y (Nt.hi x1 x2)) ≤ 0))))] [] ?_
    refine sw_ret (ret0 [.bool (decide ((Nt.cmpQ y (Nt.hi x1 x2)) ≤ 0))] ⟨res_tmp, trivial⟩ fun u28 e29 => ?_)
    show _ = _
    unfold Nt.inI
    rw [← Nt.cmpQ_le, ← Nt.cmpQ_le, hs23]
    rfl
  · refine sy_eq 16 (x := .v (.bool (decide ((Nt.cmpQ (Nt.lo x1 x2) y) ≤ 0)))) (.v (.bool false)) (by rw [hs23]) ?_
    have qhs23 := of_decide_eq_false hs23
    refine sy_drop 17 (unwanted (g := 4) (b := true) (c := false) (t := 16) (by kernel_rfl) (by kernel_rfl) (by kernel_rfl) (by kernel_rfl)) ?_
    refine sy_drop 18 (unwanted (g := 4) (b := true) (c := false) (t := 16) (by kernel_rfl) (by kernel_rfl) (by kernel_rfl) (by kernel_rfl)) ?_
    refine sy_drop 19 (unwanted (g := 4) (b := true) (c := false) (t := 16) (by kernel_rfl) (by kernel_rfl) (by kernel_rfl) (by kernel_rfl)) ?_
    refine sy_drop 20 (unwanted (g := 4) (b := true) (c := false) (t := 16) (by kernel_rfl) (by kernel_rfl) (by kernel_rfl) (by kernel_rfl)) ?_
    refine sy_pure 21 (.v (.bool false)) ?_
    refine sy_pure 4 (.v (.bool false)) ?_
    refine sy_next 22 [(4, .v (.bool false))] [] ?_
    refine sw_ret (ret0 [.bool false] ⟨res_tmp, trivial⟩ fun u30 e31 => ?_)
    show _ = _
    unfold Nt.inI
    rw [← Nt.cmpQ_le, ← Nt.cmpQ_le, hs23]
    rfl
theorem k_ivSign {u w : World} {a1 a2 : RL} {x1 x2 : Rat} {K : Nat} (d : Dat u w) (ha1 : RatV u a1 x1 K) (ha2 : RatV u a2 x2 K) (hK : K ≤ 100000000) : Calls Tryz.prog 64 #[IV a1 a2] w (Post u w fun v u' => v = .int .i64 (Nt.sgI x1 x2)) := by
  refine calls_sym (args := [.agg #[.bool a1.s, .slice a1.m.a a1.m.n a1.m.c, .slice a1.d.a a1.d.n a1.d.c, .bool a2.s, .slice a2.m.a a2.m.n a2.m.c, .slice a2.d.a a2.d.n a2.d.c]]) Tryz.func64 rfl Tryz.ntmps64 (rs := [.tmp 2]) Tryz.results64 (le_b rfl) (le_b rfl) d ?_
  refine sw_seq ?_
  refine sw_reg ?_
  refine sy_new 1 ⟨28, a1.cs ++ a2.cs⟩ ?_
  refine sy_pure 2 (.v (.int .i64 0)) ?_
  refine sy_next 18 [(1, .adr 1 0)] [(1, ⟨28, a1.cs ++ a2.cs⟩)] ?_
  refine sw_seq ?_
  refine sw_reg ?_
  refine sy_ldv 6 (.v (.agg #[.bool a1.s, .slice a1.m.a a1.m.n a1.m.c, .slice a1.d.a a1.d.n a1.d.c, .bool a2.s, .slice a2.m.a a2.m.n a2.m.c, .slice a2.d.a a2.d.n a2.d.c])) ty28 part_agg ?_
  refine sy_call 7 103 [.agg #[.bool a1.s, .slice a1.m.a a1.m.n a1.m.c, .slice a1.d.a a1.d.n a1.d.c, .bool a2.s, .slice a2.m.a a2.m.n a2.m.c, .slice a2.d.a a2.d.n a2.d.c]] ?_
  intro w11 u11 e11 d11
  have k18 := k_ends d11 (ha1.ext e11) (ha2.ext e11) (by omega)
  with_reducible refine Post.mono k18 ?_
  clear k18
  rintro _ u16 g17 ⟨r12, r14, rfl, h13, h15⟩
  refine sy_pure 5 (.v (.tuple #[r12.v, r14.v])) ?_
  refine sy_pure 8 (.v (r12.v)) ?_
  refine sy_pure 9 (.v (r14.v)) ?_
  refine sy_new 3 ⟨26, [.bool false, .slice none 0 0, .slice none 0 0]⟩ ?_
  refine sy_new 4 ⟨26, [.bool false, .slice none 0 0, .slice none 0 0]⟩ ?_
  refine sy_store ⟨26, r12.cs⟩ ty26 ?_
  refine sy_store ⟨26, r14.cs⟩ ty26 ?_
  refine sy_next 18 [(3, .adr 3 0), (4, .adr 4 0)] [(3, ⟨26, r12.cs⟩), (4, ⟨26, r14.cs⟩)] ?_
  refine sw_seq ?_
  refine sw_block ?_
  refine sw_seq ?_
  refine sw_reg ?_
  refine sy_ldv 11 (.v (r12.v)) ty26 part_agg ?_
  refine sy_call 12 132 [r12.v] ?_
  intro w19 u19 e19 d19
  have k22 := k_ratSign d19 (h13.ext e19)
  with_reducible refine Post.mono k22 ?_
  clear k22
  rintro _ u20 g21 rfl
  refine sy_pure 13 (.v (.bool (decide ((0 : Int) < (Nt.sgQ (Nt.lo x1 x2)))))) ?_
  refine sy_pure 10 (.v (.bool (decide ((0 : Int) < (Nt.sgQ (Nt.lo x1 x2)))))) ?_
  refine sy_next 18 [(4, .adr 4 0), (10, .v (.bool (decide ((0 : Int) < (Nt.sgQ (Nt.lo x1 x2))))))] [(4, ⟨26, r14.cs⟩)] ?_
  refine sw_cond (b := decide ((0 : Int) < (Nt.sgQ (Nt.lo x1 x2)))) (by kernel_rfl) (fun hb23 => ?_) (fun hb23 => ?_)
  · replace hb23 : (decide ((0 : Int) < (Nt.sgQ (Nt.lo x1 x2)))) = true := hb23
    have qhb23 := of_decide_eq_true hb23
    refine sw_seq ?_
    refine sw_reg ?_
    refine sy_pure 2 (.v (.int .i64 1)) ?_
    refine sy_next 18 [(2, .v (.int .i64 1))] [] ?_
    refine sw_ret (mpr_block (mpr_seq (ret0 [.int .i64 1] ⟨res_tmp, trivial⟩ fun u24 e25 => ?_)))
    show _ = _
    unfold Nt.sgI
    rw [Nt.sgQ_gt] at hb23
    rw [if_pos (of_decide_eq_true hb23)]
    rfl
  · replace hb23 : (decide ((0 : Int) < (Nt.sgQ (Nt.lo x1 x2)))) = false := hb23
    have qhb23 := of_decide_eq_false hb23
    refine sw_seq ?_
    refine sw_reg ?_
    refine sy_ldv 15 (.v (r14.v)) ty26 part_agg ?_
    refine sy_call 16 132 [r14.v] ?_
    intro w26 u26 e26 d26
    have k29 := k_ratSign d26 (h15.ext (e19.trans (g21.ext.trans e26)))
    with_reducible refine Post.mono k29 ?_
    clear k29
    rintro _ u27 g28 rfl
    refine sy_pure 17 (.v (.bool (decide ((Nt.sgQ (Nt.hi x1 x2)) < 0)))) ?_
    refine sy_pure 14 (.v (.bool (decide ((Nt.sgQ (Nt.hi x1 x2)) < 0)))) ?_
    refine sy_next 18 [(14, .v (.bool (decide ((Nt.sgQ (Nt.hi x1 x2)) < 0))))] [] ?_
    refine sw_cond (b := decide ((Nt.sgQ (Nt.hi x1 x2)) < 0)) (by kernel_rfl) (fun hb30 => ?_) (fun hb30 => ?_)
    · replace hb30 : (decide ((Nt.sgQ (Nt.hi x1 x2)) < 0)) = true := hb30
      have qhb30 := of_decide_eq_true hb30
      refine sw_seq ?_
      refine sw_reg ?_
      refine sy_pure 2 (.v (.int .i64 (-1))) ?_
      refine sy_next 18 [(2, .v (.int .i64 (-1)))] [] ?_
      refine sw_ret (mpr_block (mpr_seq (ret0 [.int .i64 (-1)] ⟨res_tmp, trivial⟩ fun u31 e32 => ?_)))
      show _ = _
      unfold Nt.sgI
      rw [Nt.sgQ_gt] at hb23
      rw [if_neg (of_decide_eq_false hb23)]
      rw [Nt.sgQ_lt] at hb30
      rw [if_pos (of_decide_eq_true hb30)]
      rfl
    · replace hb30 : (decide ((Nt.sgQ (Nt.hi x1 x2)) < 0)) = false := hb30
      have qhb30 := of_decide_eq_false hb30
      refine sw_skip (mp_seq ?_)
      refine sw_seq ?_
      refine sw_reg ?_
      refine sy_pure 2 (.v (.int .i64 0)) ?_
      refine sy_next 18 [(2, .v (.int .i64 0))] [] ?_
      refine sw_ret (ret0 [.int .i64 0] ⟨res_tmp, trivial⟩ fun u33 e34 => ?_)
      show _ = _
      unfold Nt.sgI
      rw [Nt.sgQ_gt] at hb23
      rw [if_neg (of_decide_eq_false hb23)]
      rw [Nt.sgQ_lt] at hb30
      rw [if_neg (of_decide_eq_false hb30)]
      rfl
theorem k_ivAdd {u w : World} {a1 a2 : RL} {x1 x2 : Rat} {b1 b2 : RL} {y1 y2 : Rat} {K L : Nat} (d : Dat u w) (ha1 : RatV u a1 x1 K) (ha2 : RatV u a2 x2 K) (hb1 : RatV u b1 y1 L) (hb2 : RatV u b2 y2 L) (hK : K ≤ 100000000) (hL : L ≤ 100000000) : Calls Tryz.prog 17 #[IV a1 a2, IV b1 b2] w (Post u w fun v u' => ∃ p q : RL, v = IV p q ∧ RatN u' p (Nt.lo x1 x2 + Nt.lo y1 y2) (K + L + 1) ∧ RatN u' q (Nt.hi x1 x2 + Nt.hi y1 y2) (K + L + 1)) := by
  refine calls_sym (args := [.agg #[.bool a1.s, .slice a1.m.a a1.m.n a1.m.c, .slice a1.d.a a1.d.n a1.d.c, .bool a2.s, .slice a2.m.a a2.m.n a2.m.c, .slice a2.d.a a2.d.n a2.d.c], .agg #[.bool b1.s, .slice b1.m.a b1.m.n b1.m.c, .slice b1.d.a b1.d.n b1.d.c, .bool b2.s, .slice b2.m.a b2.m.n b2.m.c, .slice b2.d.a b2.d.n b2.d.c]]) Tryz.func17 rfl Tryz.ntmps17 (rs := [.cell 4 28]) Tryz.results17 (le_b rfl) (le_b rfl) d ?_
  refine sw_seq ?_
  refine sw_reg ?_
  refine sy_new 2 ⟨28, a1.cs ++ a2.cs⟩ ?_
  refine sy_new 3 ⟨28, b1.cs ++ b2.cs⟩ ?_
  refine sy_new 4 ⟨28, [.bool false, .slice none 0 0, .slice none 0 0, .bool false, .slice none 0 0, .slice none 0 0]⟩ ?_
  refine sy_next 26 [(2, .adr 2 0), (3, .adr 3 0), (4, .adr 4 0)] [(2, ⟨28, a1.cs ++ a2.cs⟩), (3, ⟨28, b1.cs ++ b2.cs⟩), (4, ⟨28, [.bool false, .slice none 0 0, .slice none 0 0, .bool false, .slice none 0 0, .slice none 0 0]⟩)] ?_
  refine sw_seq ?_
  refine sw_reg ?_
  refine sy_ldv 10 (.v (.agg #[.bool a1.s, .slice a1.m.a a1.m.n a1.m.c, .slice a1.d.a a1.d.n a1.d.c, .bool a2.s, .slice a2.m.a a2.m.n a2.m.c, .slice a2.d.a a2.d.n a2.d.c])) ty28 part_agg ?_
  refine sy_call 11 103 [.agg #[.bool a1.s, .slice a1.m.a a1.m.n a1.m.c, .slice a1.d.a a1.d.n a1.d.c, .bool a2.s, .slice a2.m.a a2.m.n a2.m.c, .slice a2.d.a a2.d.n a2.d.c]] ?_
  intro w11 u11 e11 d11
  have k18 := k_ends d11 (ha1.ext e11) (ha2.ext e11) (by omega)
  with_reducible refine Post.mono k18 ?_
  clear k18
  rintro _ u16 g17 ⟨r12, r14, rfl, h13, h15⟩
  refine sy_pure 9 (.v (.tuple #[r12.v, r14.v])) ?_
  refine sy_pure 12 (.v (r12.v)) ?_
  refine sy_pure 13 (.v (r14.v)) ?_
  refine sy_new 5 ⟨26, [.bool false, .slice none 0 0, .slice none 0 0]⟩ ?_
  refine sy_new 6 ⟨26, [.bool false, .slice none 0 0, .slice none 0 0]⟩ ?_
  refine sy_store ⟨26, r12.cs⟩ ty26 ?_
  refine sy_store ⟨26, r14.cs⟩ ty26 ?_
  refine sy_next 26 [(3, .adr 3 0), (4, .adr 4 0), (5, .adr 5 0), (6, .adr 6 0)] [(3, ⟨28, b1.cs ++ b2.cs⟩), (4, ⟨28, [.bool false, .slice none 0 0, .slice none 0 0, .bool false, .slice none 0 0, .slice none 0 0]⟩), (5, ⟨26, r12.cs⟩), (6, ⟨26, r14.cs⟩)] ?_
  refine sw_seq ?_
  refine sw_reg ?_
  refine sy_ldv 15 (.v (.agg #[.bool b1.s, .slice b1.m.a b1.m.n b1.m.c, .slice b1.d.a b1.d.n b1.d.c, .bool b2.s, .slice b2.m.a b2.m.n b2.m.c, .slice b2.d.a b2.d.n b2.d.c])) ty28 part_agg ?_
  refine sy_call 16 103 [.agg #[.bool b1.s, .slice b1.m.a b1.m.n b1.m.c, .slice b1.d.a b1.d.n b1.d.c, .bool b2.s, .slice b2.m.a b2.m.n b2.m.c, .slice b2.d.a b2.d.n b2.d.c]] ?_
  intro w19 u19 e19 d19
  have k26 := k_ends d19 (hb1.ext (e11.trans (g17.ext.trans e19))) (hb2.ext (e11.trans (g17.ext.trans e19))) (by omega)
  with_reducible refine Post.mono k26 ?_
  clear k26
  rintro _ u24 g25 ⟨r20, r22, rfl, h21, h23⟩
  refine sy_pure 14 (.v (.tuple #[r20.v, r22.v])) ?_
  refine sy_pure 17 (.v (r20.v)) ?_
  refine sy_pure 18 (.v (r22.v)) ?_
  refine sy_new 7 ⟨26, [.bool false, .slice none 0 0, .slice none 0 0]⟩ ?_
  refine sy_new 8 ⟨26, [.bool false, .slice none 0 0, .slice none 0 0]⟩ ?_
  refine sy_store ⟨26, r20.cs⟩ ty26 ?_
  refine sy_store ⟨26, r22.cs⟩ ty26 ?_
  refine sy_next 26 [(4, .adr 4 0), (5, .adr 5 0), (6, .adr 6 0), (7, .adr 7 0), (8, .adr 8 0)] [(4, ⟨28, [.bool false, .slice none 0 0, .slice none 0 0, .bool false, .slice none 0 0, .slice none 0 0]⟩), (5, ⟨26, r12.cs⟩), (6, ⟨26, r14.cs⟩), (7, ⟨26, r20.cs⟩), (8, ⟨26, r22.cs⟩)] ?_
  refine sw_seq ?_
  refine sw_any [0, 0, 3, 0, 0, 31, 63, 127] [(0, []), (1, []), (3, []), (4, []), (2, []), (5, []), (6, []), (7, [])] (by kernel_rfl) (by kernel_rfl) ?_
  refine sy_ldv 19 (.v (r12.v)) ty26 part_agg ?_
  refine sy_ldv 20 (.v (r20.v)) ty26 part_agg ?_
  refine sy_ldv 22 (.v (r14.v)) ty26 part_agg ?_
  refine sy_ldv 23 (.v (r22.v)) ty26 part_agg ?_
  refine sy_call 21 104 [r12.v, r20.v] ?_
  intro w27 u27 e27 d27
  have k32 := k_ratAdd d27 (h13.ext (e19.trans (g25.ext.trans e27))) (h21.ext e27) (by omega) (by omega)
  with_reducible refine Post.mono k32 ?_
  clear k32
  rintro _ u30 g31 ⟨r28, rfl, h29⟩
  refine sy_call 24 104 [r14.v, r22.v] ?_
  intro w33 u33 e33 d33
  have k38 := k_ratAdd d33 (h15.ext (e19.trans (g25.ext.trans (e27.trans (g31.ext.trans e33))))) (h23.ext (e27.trans (g31.ext.trans e33))) (by omega) (by omega)
  with_reducible refine Post.mono k38 ?_
  clear k38
  rintro _ u36 g37 ⟨r34, rfl, h35⟩
  refine sy_pure 25 (.v (.agg #[.bool r28.s, .slice r28.m.a r28.m.n r28.m.c, .slice r28.d.a r28.d.n r28.d.c, .bool r34.s, .slice r34.m.a r34.m.n r34.m.c, .slice r34.d.a r34.d.n r34.d.c])) ?_
  refine sy_store ⟨28, r28.cs ++ r34.cs⟩ ty28 ?_
  refine sy_next 26 [(4, .adr 4 0)] [(4, ⟨28, r28.cs ++ r34.cs⟩)] ?_
  refine sw_ret (ret0 [.agg #[.bool r28.s, .slice r28.m.a r28.m.n r28.m.c, .slice r28.d.a r28.d.n r28.d.c, .bool r34.s, .slice r34.m.a r34.m.n r34.m.c, .slice r34.d.a r34.d.n r34.d.c]] ⟨res_cell ty28 part_agg, trivial⟩ fun u39 e40 => ?_)
  refine ⟨r28, r34, rfl, RatN.more (K := (K + L + 1)) ?_ (by omega), RatN.more (K := (K + L + 1)) ?_ (by omega)⟩
  · exact (h29.ext (e33.trans (g37.ext.trans e40)))
  · exact (h35.ext e40)
theorem k_ivSub {u w : World} {a1 a2 : RL} {x1 x2 : Rat} {b1 b2 : RL} {y1 y2 : Rat} {K L : Nat} (d : Dat u w) (ha1 : RatV u a1 x1 K) (ha2 : RatV u a2 x2 K) (hb1 : RatV u b1 y1 L) (hb2 : RatV u b2 y2 L) (hK : K ≤ 100000000) (hL : L ≤ 100000000) : Calls Tryz.prog 19 #[IV a1 a2, IV b1 b2] w (Post u w fun v u' => ∃ p q : RL, v = IV p q ∧ RatN u' p (Nt.lo x1 x2 - Nt.hi y1 y2) (K + L + 1) ∧ RatN u' q (Nt.hi x1 x2 - Nt.lo y1 y2) (K + L + 1)) := by
  refine calls_sym (args := [.agg #[.bool a1.s, .slice a1.m.a a1.m.n a1.m.c, .slice a1.d.a a1.d.n a1.d.c, .bool a2.s, .slice a2.m.a a2.m.n a2.m.c, .slice a2.d.a a2.d.n a2.d.c], .agg #[.bool b1.s, .slice b1.m.a b1.m.n b1.m.c, .slice b1.d.a b1.d.n b1.d.c, .bool b2.s, .slice b2.m.a b2.m.n b2.m.c, .slice b2.d.a b2.d.n b2.d.c]]) Tryz.func19 rfl Tryz.ntmps19 (rs := [.cell 4 28]) Tryz.results19 (le_b rfl) (le_b rfl) d ?_
  refine sw_seq ?_
  refine sw_reg ?_
  refine sy_new 2 ⟨28, a1.cs ++ a2.cs⟩ ?_
  refine sy_new 3 ⟨28, b1.cs ++ b2.cs⟩ ?_
  refine sy_new 4 ⟨28, [.bool false, .slice none 0 0, .slice none 0 0, .bool false, .slice none 0 0, .slice none 0 0]⟩ ?_
  refine sy_next 26 [(2, .adr 2 0), (3, .adr 3 0), (4, .adr 4 0)] [(2, ⟨28, a1.cs ++ a2.cs⟩), (3, ⟨28, b1.cs ++ b2.cs⟩), (4, ⟨28, [.bool false, .slice none 0 0, .slice none 0 0, .bool false, .slice none 0 0, .slice none 0 0]⟩)] ?_
  refine sw_seq ?_
  refine sw_reg ?_
  refine sy_ldv 10 (.v (.agg #[.bool a1.s, .slice a1.m.a a1.m.n a1.m.c, .slice a1.d.a a1.d.n a1.d.c, .bool a2.s, .slice a2.m.a a2.m.n a2.m.c, .slice a2.d.a a2.d.n a2.d.c])) ty28 part_agg ?_
  refine sy_call 11 103 [.agg #[.bool a1.s, .slice a1.m.a a1.m.n a1.m.c, .slice a1.d.a a1.d.n a1.d.c, .bool a2.s, .slice a2.m.a a2.m.n a2.m.c, .slice a2.d.a a2.d.n a2.d.c]] ?_
  intro w11 u11 e11 d11
  have k18 := k_ends d11 (ha1.ext e11) (ha2.ext e11) (by omega)
  with_reducible refine Post.mono k18 ?_
  clear k18
  rintro _ u16 g17 ⟨r12, r14, rfl, h13, h15⟩
  refine sy_pure 9 (.v (.tuple #[r12.v, r14.v])) ?_
  refine sy_pure 12 (.v (r12.v)) ?_
  refine sy_pure 13 (.v (r14.v)) ?_
  refine sy_new 5 ⟨26, [.bool false, .slice none 0 0, .slice none 0 0]⟩ ?_
  refine sy_new 6 ⟨26, [.bool false, .slice none 0 0, .slice none 0 0]⟩ ?_
  refine sy_store ⟨26, r12.cs⟩ ty26 ?_
  refine sy_store ⟨26, r14.cs⟩ ty26 ?_
  refine sy_next 26 [(3, .adr 3 0), (4, .adr 4 0), (5, .adr 5 0), (6, .adr 6 0)] [(3, ⟨28, b1.cs ++ b2.cs⟩), (4, ⟨28, [.bool false, .slice none 0 0, .slice none 0 0, .bool false, .slice none 0 0, .slice none 0 0]⟩), (5, ⟨26, r12.cs⟩), (6, ⟨26, r14.cs⟩)] ?_
  refine sw_seq ?_
  refine sw_reg ?_
  refine sy_ldv 15 (.v (.agg #[.bool b1.s, .slice b1.m.a b1.m.n b1.m.c, .slice b1.d.a b1.d.n b1.d.c, .bool b2.s, .slice b2.m.a b2.m.n b2.m.c, .slice b2.d.a b2.d.n b2.d.c])) ty28 part_agg ?_
  refine sy_call 16 103 [.agg #[.bool b1.s, .slice b1.m.a b1.m.n b1.m.c, .slice b1.d.a b1.d.n b1.d.c, .bool b2.s, .slice b2.m.a b2.m.n b2.m.c, .slice b2.d.a b2.d.n b2.d.c]] ?_
  intro w19 u19 e19 d19
  have k26 := k_ends d19 (hb1.ext (e11.trans (g17.ext.trans e19))) (hb2.ext (e11.trans (g17.ext.trans e19))) (by omega)
  with_reducible refine Post.mono k26 ?_
  clear k26
  rintro _ u24 g25 ⟨r20, r22, rfl, h21, h23⟩
  refine sy_pure 14 (.v (.tuple #[r20.v, r22.v])) ?_
  refine sy_pure 17 (.v (r20.v)) ?_
  refine sy_pure 18 (.v (r22.v)) ?_
  refine sy_new 7 ⟨26, [.bool false, .slice none 0 0, .slice none 0 0]⟩ ?_
  refine sy_new 8 ⟨26, [.bool false, .slice none 0 0, .slice none 0 0]⟩ ?_
  refine sy_store ⟨26, r20.cs⟩ ty26 ?_
  refine sy_store ⟨26, r22.cs⟩ ty26 ?_
  refine sy_next 26 [(4, .adr 4 0), (5, .adr 5 0), (6, .adr 6 0), (7, .adr 7 0), (8, .adr 8 0)] [(4, ⟨28, [.bool false, .slice none 0 0, .slice none 0 0, .bool false, .slice none 0 0, .slice none 0 0]⟩), (5, ⟨26, r12.cs⟩), (6, ⟨26, r14.cs⟩), (7, ⟨26, r20.cs⟩), (8, ⟨26, r22.cs⟩)] ?_
  refine sw_seq ?_
  refine sw_any [0, 0, 3, 0, 0, 31, 63, 127] [(0, []), (1, []), (3, []), (4, []), (2, []), (5, []), (6, []), (7, [])] (by kernel_rfl) (by kernel_rfl) ?_
  refine sy_ldv 19 (.v (r12.v)) ty26 part_agg ?_
  refine sy_ldv 20 (.v (r22.v)) ty26 part_agg ?_
  refine sy_ldv 22 (.v (r14.v)) ty26 part_agg ?_
  refine sy_ldv 23 (.v (r20.v)) ty26 part_agg ?_
  refine sy_call 21 109 [r12.v, r22.v] ?_
  intro w27 u27 e27 d27
  have k32 := k_ratSub d27 (h13.ext (e19.trans (g25.ext.trans e27))) (h23.ext e27) (by omega) (by omega)
  with_reducible refine Post.mono k32 ?_
  clear k32
  rintro _ u30 g31 ⟨r28, rfl, h29⟩
  refine sy_call 24 109 [r14.v, r20.v] ?_
  intro w33 u33 e33 d33
  have k38 := k_ratSub d33 (h15.ext (e19.trans (g25.ext.trans (e27.trans (g31.ext.trans e33))))) (h21.ext (e27.trans (g31.ext.trans e33))) (by omega) (by omega)
  with_reducible refine Post.mono k38 ?_
  clear k38
  rintro _ u36 g37 ⟨r34, rfl, h35⟩
  refine sy_pure 25 (.v (.agg #[.bool r28.s, .slice r28.m.a r28.m.n r28.m.c, .slice r28.d.a r28.d.n r28.d.c, .bool r34.s, .slice r34.m.a r34.m.n r34.m.c, .slice r34.d.a r34.d.n r34.d.c])) ?_
  refine sy_store ⟨28, r28.cs ++ r34.cs⟩ ty28 ?_
  refine sy_next 26 [(4, .adr 4 0)] [(4, ⟨28, r28.cs ++ r34.cs⟩)] ?_
  refine sw_ret (ret0 [.agg #[.bool r28.s, .slice r28.m.a r28.m.n r28.m.c, .slice r28.d.a r28.d.n r28.d.c, .bool r34.s, .slice r34.m.a r34.m.n r34.m.c, .slice r34.d.a r34.d.n r34.d.c]] ⟨res_cell ty28 part_agg, trivial⟩ fun u39 e40 => ?_)
  refine ⟨r28, r34, rfl, RatN.more (K := (K + L + 1)) ?_ (by omega), RatN.more (K := (K + L + 1)) ?_ (by omega)⟩
  · exact (h29.ext (e33.trans (g37.ext.trans e40)))
  · exact (h35.ext e40)
theorem k_ivMul {u w : World} {a1 a2 : RL} {x1 x2 : Rat} {b1 b2 : RL} {y1 y2 : Rat} {K L : Nat} (d : Dat u w) (ha1 : RatV u a1 x1 K) (ha2 : RatV u a2 x2 K) (hb1 : RatV u b1 y1 L) (hb2 : RatV u b2 y2 L) (hK : K ≤ 100000000) (hL : L ≤ 100000000) : Calls Tryz.prog 21 #[IV a1 a2, IV b1 b2] w (Post u w fun v u' => ∃ p q : RL, v = IV p q ∧ RatN u' p (Nt.lo4 (x1 * y1) (x1 * y2) (x2 * y1) (x2 * y2)) (K + L) ∧ RatN u' q (Nt.hi4 (x1 * y1) (x1 * y2) (x2 * y1) (x2 * y2)) (K + L)) := by
  refine calls_sym (args := [.agg #[.bool a1.s, .slice a1.m.a a1.m.n a1.m.c, .slice a1.d.a a1.d.n a1.d.c, .bool a2.s, .slice a2.m.a a2.m.n a2.m.c, .slice a2.d.a a2.d.n a2.d.c], .agg #[.bool b1.s, .slice b1.m.a b1.m.n b1.m.c, .slice b1.d.a b1.d.n b1.d.c, .bool b2.s, .slice b2.m.a b2.m.n b2.m.c, .slice b2.d.a b2.d.n b2.d.c]]) Tryz.func21 rfl Tryz.ntmps21 (rs := [.cell 4 28]) Tryz.results21 (le_b rfl) (le_b rfl) d ?_
  refine sw_seq ?_
  refine sw_reg ?_
  refine sy_new 2 ⟨28, a1.cs ++ a2.cs⟩ ?_
  refine sy_new 3 ⟨28, b1.cs ++ b2.cs⟩ ?_
  refine sy_new 4 ⟨28, [.bool false, .slice none 0 0, .slice none 0 0, .bool false, .slice none 0 0, .slice none 0 0]⟩ ?_
  refine sy_next 27 [(2, .adr 2 0), (3, .adr 3 0), (4, .adr 4 0)] [(2, ⟨28, a1.cs ++ a2.cs⟩), (3, ⟨28, b1.cs ++ b2.cs⟩), (4, ⟨28, [.bool false, .slice none 0 0, .slice none 0 0, .bool false, .slice none 0 0, .slice none 0 0]⟩)] ?_
  refine sw_seq ?_
  refine sw_any [0, 1, 0, 4, 15, 0, 32, 0, 128, 511, 0, 1024, 0, 4096, 16383, 0, 32768, 0, 131072, 524287, 1048575, 2097151, 4194303] [(0, []), (1, []), (2, []), (3, []), (5, []), (6, []), (7, []), (8, []), (10, []), (11, []), (12, []), (13, []), (15, []), (16, []), (17, []), (18, []), (4, []), (9, []), (14, []), (19, []), (20, []), (21, []), (22, [])] (by kernel_rfl) (by kernel_rfl) ?_
  refine sy_pure 5 (.adr 2 0) ?_
  refine sy_ldv 6 (.v (a1.v)) ty26 part_agg ?_
  refine sy_pure 7 (.adr 3 0) ?_
  refine sy_ldv 8 (.v (b1.v)) ty26 part_agg ?_
  refine sy_pure 10 (.adr 2 0) ?_
  refine sy_ldv 11 (.v (a1.v)) ty26 part_agg ?_
  refine sy_pure 12 (.adr 3 3) ?_
  refine sy_ldv 13 (.v (b2.v)) ty26 part_agg ?_
  refine sy_pure 15 (.adr 2 3) ?_
  refine sy_ldv 16 (.v (a2.v)) ty26 part_agg ?_
  refine sy_pure 17 (.adr 3 0) ?_
  refine sy_ldv 18 (.v (b1.v)) ty26 part_agg ?_
  refine sy_pure 20 (.adr 2 3) ?_
  refine sy_ldv 21 (.v (a2.v)) ty26 part_agg ?_
  refine sy_pure 22 (.adr 3 3) ?_
  refine sy_ldv 23 (.v (b2.v)) ty26 part_agg ?_
  refine sy_call 9 111 [a1.v, b1.v] ?_
  intro w11 u11 e11 d11
  have k16 := k_ratMul d11 (ha1.ext e11) (hb1.ext e11) (by omega) (by omega)
  with_reducible refine Post.mono k16 ?_
  clear k16
  rintro _ u14 g15 ⟨r12, rfl, h13⟩
  refine sy_call 14 111 [a1.v, b2.v] ?_
  intro w17 u17 e17 d17
  have k22 := k_ratMul d17 (ha1.ext (e11.trans (g15.ext.trans e17))) (hb2.ext (e11.trans (g15.ext.trans e17))) (by omega) (by omega)
  with_reducible refine Post.mono k22 ?_
  clear k22
  rintro _ u20 g21 ⟨r18, rfl, h19⟩
  refine sy_call 19 111 [a2.v, b1.v] ?_
  intro w23 u23 e23 d23
  have k28 := k_ratMul d23 (ha2.ext (e11.trans (g15.ext.trans (e17.trans (g21.ext.trans e23))))) (hb1.ext (e11.trans (g15.ext.trans (e17.trans (g21.ext.trans e23))))) (by omega) (by omega)
  with_reducible refine Post.mono k28 ?_
  clear k28
  rintro _ u26 g27 ⟨r24, rfl, h25⟩
  refine sy_call 24 111 [a2.v, b2.v] ?_
  intro w29 u29 e29 d29
  have k34 := k_ratMul d29 (ha2.ext (e11.trans (g15.ext.trans (e17.trans (g21.ext.trans (e23.trans (g27.ext.trans e29))))))) (hb2.ext (e11.trans (g15.ext.trans (e17.trans (g21.ext.trans (e23.trans (g27.ext.trans e29))))))) (by omega) (by omega)
  with_reducible refine Post.mono k34 ?_
  clear k34
  rintro _ u32 g33 ⟨r30, rfl, h31⟩
  refine sy_pure 25 (.v (.agg #[.bool r12.s, .slice r12.m.a r12.m.n r12.m.c, .slice r12.d.a r12.d.n r12.d.c, .bool r18.s, .slice r18.m.a r18.m.n r18.m.c, .slice r18.d.a r18.d.n r18.d.c, .bool r24.s, .slice r24.m.a r24.m.n r24.m.c, .slice r24.d.a r24.d.n r24.d.c, .bool r30.s, .slice r30.m.a r30.m.n r30.m.c, .slice r30.d.a r30.d.n r30.d.c])) ?_
  refine sy_call 26 100 [.agg #[.bool r12.s, .slice r12.m.a r12.m.n r12.m.c, .slice r12.d.a r12.d.n r12.d.c, .bool r18.s, .slice r18.m.a r18.m.n r18.m.c, .slice r18.d.a r18.d.n r18.d.c, .bool r24.s, .slice r24.m.a r24.m.n r24.m.c, .slice r24.d.a r24.d.n r24.d.c, .bool r30.s, .slice r30.m.a r30.m.n r30.m.c, .slice r30.d.a r30.d.n r30.d.c]] ?_
  intro w35 u35 e35 d35
  have k42 := k_around d35 (h13.ext (e17.trans (g21.ext.trans (e23.trans (g27.ext.trans (e29.trans (g33.ext.trans e35))))))) (h19.ext (e23.trans (g27.ext.trans (e29.trans (g33.ext.trans e35))))) (h25.ext (e29.trans (g33.ext.trans e35))) (h31.ext e35) (by omega)
  with_reducible refine Post.mono k42 ?_
  clear k42
  rintro _ u40 g41 ⟨r36, r38, rfl, h37, h39⟩
  refine sy_store ⟨28, r36.cs ++ r38.cs⟩ ty28 ?_
  refine sy_next 27 [(4, .adr 4 0)] [(4, ⟨28, r36.cs ++ r38.cs⟩)] ?_
  refine sw_ret (ret0 [.agg #[.bool r36.s, .slice r36.m.a r36.m.n r36.m.c, .slice r36.d.a r36.d.n r36.d.c, .bool r38.s, .slice r38.m.a r38.m.n r38.m.c, .slice r38.d.a r38.d.n r38.d.c]] ⟨res_cell ty28 part_agg, trivial⟩ fun u43 e44 => ?_)
  refine ⟨r36, r38, rfl, RatN.more (K := (K + L)) ?_ (by omega), RatN.more (K := (K + L)) ?_ (by omega)⟩
  · exact (h37.ext e44)
  · exact (h39.ext e44)
theorem k_ivSquare {u w : World} {a1 a2 : RL} {x1 x2 : Rat} {K : Nat} (d : Dat u w) (ha1 : RatV u a1 x1 K) (ha2 : RatV u a2 x2 K) (hK : K ≤ 50000000) : Calls Tryz.prog 23 #[IV a1 a2] w (Post u w fun v u' => ∃ p q : RL, v = IV p q ∧ RatN u' p (if Nt.sgI x1 x2 = 0 then 0 else Nt.lo (x1 * x1) (x2 * x2)) (K + K + 2) ∧ RatN u' q (Nt.hi (x1 * x1) (x2 * x2)) (K + K + 2)) := by
  refine calls_sym (args := [.agg #[.bool a1.s, .slice a1.m.a a1.m.n a1.m.c, .slice a1.d.a a1.d.n a1.d.c, .bool a2.s, .slice a2.m.a a2.m.n a2.m.c, .slice a2.d.a a2.d.n a2.d.c]]) Tryz.func23 rfl Tryz.ntmps23 (rs := [.cell 2 28]) Tryz.results23 (le_b rfl) (le_b rfl) d ?_
  refine sw_seq ?_
  refine sw_reg ?_
  refine sy_new 1 ⟨28, a1.cs ++ a2.cs⟩ ?_
  refine sy_new 2 ⟨28, [.bool false, .slice none 0 0, .slice none 0 0, .bool false, .slice none 0 0, .slice none 0 0]⟩ ?_
  refine sy_next 26 [(1, .adr 1 0), (2, .adr 2 0)] [(1, ⟨28, a1.cs ++ a2.cs⟩), (2, ⟨28, [.bool false, .slice none 0 0, .slice none 0 0, .bool false, .slice none 0 0, .slice none 0 0]⟩)] ?_
  refine sw_seq ?_
  refine sw_any [0, 1, 0, 4, 15, 0, 32, 0, 128, 511, 0, 0, 4095, 8191] [(0, []), (1, []), (2, []), (3, []), (5, []), (6, []), (7, []), (8, []), (10, []), (11, []), (4, []), (9, []), (12, []), (13, [])] (by kernel_rfl) (by kernel_rfl) ?_
  refine sy_pure 5 (.adr 1 0) ?_
  refine sy_ldv 6 (.v (a1.v)) ty26 part_agg ?_
  refine sy_pure 7 (.adr 1 0) ?_
  refine sy_ldv 8 (.v (a1.v)) ty26 part_agg ?_
  refine sy_pure 10 (.adr 1 3) ?_
  refine sy_ldv 11 (.v (a2.v)) ty26 part_agg ?_
  refine sy_pure 12 (.adr 1 3) ?_
  refine sy_ldv 13 (.v (a2.v)) ty26 part_agg ?_
  refine sy_new 3 ⟨26, [.bool false, .slice none 0 0, .slice none 0 0]⟩ ?_
  refine sy_new 4 ⟨26, [.bool false, .slice none 0 0, .slice none 0 0]⟩ ?_
  refine sy_call 9 111 [a1.v, a1.v] ?_
  intro w11 u11 e11 d11
  have k16 := k_ratMul d11 (ha1.ext e11) (ha1.ext e11) (by omega) (by omega)
  with_reducible refine Post.mono k16 ?_
  clear k16
  rintro _ u14 g15 ⟨r12, rfl, h13⟩
  refine sy_call 14 111 [a2.v, a2.v] ?_
  intro w17 u17 e17 d17
  have k22 := k_ratMul d17 (ha2.ext (e11.trans (g15.ext.trans e17))) (ha2.ext (e11.trans (g15.ext.trans e17))) (by omega) (by omega)
  with_reducible refine Post.mono k22 ?_
  clear k22
  rintro _ u20 g21 ⟨r18, rfl, h19⟩
  refine sy_store ⟨26, r12.cs⟩ ty26 ?_
  refine sy_store ⟨26, r18.cs⟩ ty26 ?_
  refine sy_next 26 [(1, .adr 1 0), (2, .adr 2 0), (3, .adr 3 0), (4, .adr 4 0)] [(1, ⟨28, a1.cs ++ a2.cs⟩), (2, ⟨28, [.bool false, .slice none 0 0, .slice none 0 0, .bool false, .slice none 0 0, .slice none 0 0]⟩), (3, ⟨26, r12.cs⟩), (4, ⟨26, r18.cs⟩)] ?_
  refine sw_seq ?_
  refine sw_seq ?_
  refine sw_reg ?_
  refine sy_ldv 15 (.v (.agg #[.bool a1.s, .slice a1.m.a a1.m.n a1.m.c, .slice a1.d.a a1.d.n a1.d.c, .bool a2.s, .slice a2.m.a a2.m.n a2.m.c, .slice a2.d.a a2.d.n a2.d.c])) ty28 part_agg ?_
  refine sy_call 16 64 [.agg #[.bool a1.s, .slice a1.m.a a1.m.n a1.m.c, .slice a1.d.a a1.d.n a1.d.c, .bool a2.s, .slice a2.m.a a2.m.n a2.m.c, .slice a2.d.a a2.d.n a2.d.c]] ?_
  intro w23 u23 e23 d23
  have k26 := k_ivSign d23 (ha1.ext (e11.trans (g15.ext.trans (e17.trans (g21.ext.trans e23))))) (ha2.ext (e11.trans (g15.ext.trans (e17.trans (g21.ext.trans e23))))) (by omega)
  with_reducible refine Post.mono k26 ?_
  clear k26
  rintro _ u24 g25 rfl
  refine sy_pure 17 (.v (.bool ((Nt.sgI x1 x2) == 0))) ?_
  refine sy_next 26 [(2, .adr 2 0), (3, .adr 3 0), (4, .adr 4 0), (17, .v (.bool ((Nt.sgI x1 x2) == 0)))] [(2, ⟨28, [.bool false, .slice none 0 0, .slice none 0 0, .bool false, .slice none 0 0, .slice none 0 0]⟩), (3, ⟨26, r12.cs⟩), (4, ⟨26, r18.cs⟩)] ?_
  refine sw_cond (b := (Nt.sgI x1 x2) == 0) (by kernel_rfl) (fun hb27 => ?_) (fun hb27 => ?_)
  · replace hb27 : ((Nt.sgI x1 x2) == 0) = true := hb27
    refine sw_seq ?_
    refine sw_any [0, 0, 0, 7, 15, 31] [(1, []), (2, []), (0, []), (3, []), (4, []), (5, [])] (by kernel_rfl) (by kernel_rfl) ?_
    refine sy_ldv 19 (.v (r12.v)) ty26 part_agg ?_
    refine sy_ldv 20 (.v (r18.v)) ty26 part_agg ?_
    refine sy_call 18 112 [.int .i64 0] ?_
    intro w28 u28 e28 d28
    have k33 := k_ratOf d28 (z := 0) (by omega) (by omega)
    with_reducible refine Post.mono k33 ?_
    clear k33
    rintro _ u31 g32 ⟨r29, rfl, h30⟩
    refine sy_call 21 113 [r12.v, r18.v] ?_
    intro w34 u34 e34 d34
    have k39 := k_greaterN d34 (h13.ext (e17.trans (g21.ext.trans (e23.trans (g25.ext.trans (e28.trans (g32.ext.trans e34))))))) (h19.ext (e23.trans (g25.ext.trans (e28.trans (g32.ext.trans e34))))) (by omega)
    with_reducible refine Post.mono k39 ?_
    clear k39
    rintro _ u37 g38 ⟨r35, rfl, h36⟩
    refine sy_pure 22 (.v (.agg #[.bool r29.s, .slice r29.m.a r29.m.n r29.m.c, .slice r29.d.a r29.d.n r29.d.c, .bool r35.s, .slice r35.m.a r35.m.n r35.m.c, .slice r35.d.a r35.d.n r35.d.c])) ?_
    refine sy_store ⟨28, r29.cs ++ r35.cs⟩ ty28 ?_
    refine sy_next 26 [(2, .adr 2 0)] [(2, ⟨28, r29.cs ++ r35.cs⟩)] ?_
    refine sw_ret (mpr_seq (ret0 [.agg #[.bool r29.s, .slice r29.m.a r29.m.n r29.m.c, .slice r29.d.a r29.d.n r29.d.c, .bool r35.s, .slice r35.m.a r35.m.n r35.m.c, .slice r35.d.a r35.d.n r35.d.c]] ⟨res_cell ty28 part_agg, trivial⟩ fun u40 e41 => ?_))
    refine ⟨r29, r35, rfl, RatN.more (K := 2) ?_ (by omega), RatN.more (K := (K + K)) ?_ (by omega)⟩
    · rw [if_pos (by simpa using hb27)]
      exact (h30.ext (e34.trans (g38.ext.trans e41)))
    · exact (h36.ext e41)
  · replace hb27 : ((Nt.sgI x1 x2) == 0) = false := hb27
    refine sw_skip (mp_seq ?_)
    refine sw_seq ?_
    refine sw_reg ?_
    refine sy_ldv 23 (.v (r12.v)) ty26 part_agg ?_
    refine sy_ldv 24 (.v (r18.v)) ty26 part_agg ?_
    refine sy_call 25 70 [r12.v, r18.v] ?_
    intro w42 u42 e42 d42
    have k49 := k_ivMake d42 (h13.ext (e17.trans (g21.ext.trans (e23.trans (g25.ext.trans e42))))).raw (h19.ext (e23.trans (g25.ext.trans e42))).raw (by omega)
    with_reducible refine Post.mono k49 ?_
    clear k49
    rintro _ u47 g48 ⟨r43, r45, rfl, h44, h46⟩
    refine sy_store ⟨28, r43.cs ++ r45.cs⟩ ty28 ?_
    refine sy_next 26 [(2, .adr 2 0)] [(2, ⟨28, r43.cs ++ r45.cs⟩)] ?_
    refine sw_ret (ret0 [.agg #[.bool r43.s, .slice r43.m.a r43.m.n r43.m.c, .slice r43.d.a r43.d.n r43.d.c, .bool r45.s, .slice r45.m.a r45.m.n r45.m.c, .slice r45.d.a r45.d.n r45.d.c]] ⟨res_cell ty28 part_agg, trivial⟩ fun u50 e51 => ?_)
    refine ⟨r43, r45, rfl, RatN.more (K := (K + K)) ?_ (by omega), RatN.more (K := (K + K)) ?_ (by omega)⟩
    · rw [if_neg (by simpa using hb27)]
      exact (h44.ext e51)
    · exact (h46.ext e51)
theorem sgI_ne {a b : Rat} (h : (Nt.sgI a b == 0) = false) : a ≠ 0 ∧ b ≠ 0 := by
  unfold Nt.sgI Nt.lo Nt.hi at h
  grind
/-- What Div answers. -/
def IDivR (x1 x2 y1 y2 : Rat) (K : Nat) (v : Value) (u : World) : Prop := (Nt.sgI y1 y2 = 0 ∧ v = .tuple #[.agg #[.bool false, .slice none 0 0, .slice none 0 0, .bool false, .slice none 0 0, .slice none 0 0], .int .i64 3]) ∨ (Nt.sgI y1 y2 ≠ 0 ∧ ∃ p q : RL, v = .tuple #[IV p q, .int .i64 0] ∧ RatN u p (Nt.lo4 (x1 / y1) (x1 / y2) (x2 / y1) (x2 / y2)) K ∧ RatN u q (Nt.hi4 (x1 / y1) (x1 / y2) (x2 / y1) (x2 / y2)) K)
set_option maxHeartbeats 2000000 in
theorem k_ivDiv {u w : World} {a1 a2 : RL} {x1 x2 : Rat} {b1 b2 : RL} {y1 y2 : Rat} {K L : Nat} (d : Dat u w) (ha1 : RatV u a1 x1 K) (ha2 : RatV u a2 x2 K) (hb1 : RatV u b1 y1 L) (hb2 : RatV u b2 y2 L) (hK : K ≤ 100000000) (hL : L ≤ 100000000) : Calls Tryz.prog 14 #[IV a1 a2, IV b1 b2] w (Post u w fun v u' => IDivR x1 x2 y1 y2 (K + L) v u') := by
  refine calls_sym (args := [.agg #[.bool a1.s, .slice a1.m.a a1.m.n a1.m.c, .slice a1.d.a a1.d.n a1.d.c, .bool a2.s, .slice a2.m.a a2.m.n a2.m.c, .slice a2.d.a a2.d.n a2.d.c], .agg #[.bool b1.s, .slice b1.m.a b1.m.n b1.m.c, .slice b1.d.a b1.d.n b1.d.c, .bool b2.s, .slice b2.m.a b2.m.n b2.m.c, .slice b2.d.a b2.d.n b2.d.c]]) Tryz.func14 rfl Tryz.ntmps14 (rs := [.cell 4 28, .tmp 5]) Tryz.results14 (le_b rfl) (le_b rfl) d ?_
  refine sw_seq ?_
  refine sw_reg ?_
  refine sy_new 2 ⟨28, a1.cs ++ a2.cs⟩ ?_
  refine sy_new 3 ⟨28, b1.cs ++ b2.cs⟩ ?_
  refine sy_new 4 ⟨28, [.bool false, .slice none 0 0, .slice none 0 0, .bool false, .slice none 0 0, .slice none 0 0]⟩ ?_
  refine sy_pure 5 (.v (.int .i64 0)) ?_
  refine sy_next 48 [(2, .adr 2 0), (3, .adr 3 0), (4, .adr 4 0)] [(2, ⟨28, a1.cs ++ a2.cs⟩), (3, ⟨28, b1.cs ++ b2.cs⟩), (4, ⟨28, [.bool false, .slice none 0 0, .slice none 0 0, .bool false, .slice none 0 0, .slice none 0 0]⟩)] ?_
  refine sw_seq ?_
  refine sw_seq ?_
  refine sw_reg ?_
  refine sy_ldv 11 (.v (.agg #[.bool b1.s, .slice b1.m.a b1.m.n b1.m.c, .slice b1.d.a b1.d.n b1.d.c, .bool b2.s, .slice b2.m.a b2.m.n b2.m.c, .slice b2.d.a b2.d.n b2.d.c])) ty28 part_agg ?_
  refine sy_call 12 64 [.agg #[.bool b1.s, .slice b1.m.a b1.m.n b1.m.c, .slice b1.d.a b1.d.n b1.d.c, .bool b2.s, .slice b2.m.a b2.m.n b2.m.c, .slice b2.d.a b2.d.n b2.d.c]] ?_
  intro w11 u11 e11 d11
  have k14 := k_ivSign d11 (hb1.ext e11) (hb2.ext e11) (by omega)
  with_reducible refine Post.mono k14 ?_
  clear k14
  rintro _ u12 g13 rfl
  refine sy_pure 13 (.v (.bool ((Nt.sgI y1 y2) == 0))) ?_
  refine sy_next 48 [(2, .adr 2 0), (3, .adr 3 0), (4, .adr 4 0), (13, .v (.bool ((Nt.sgI y1 y2) == 0)))] [(2, ⟨28, a1.cs ++ a2.cs⟩), (3, ⟨28, b1.cs ++ b2.cs⟩), (4, ⟨28, [.bool false, .slice none 0 0, .slice none 0 0, .bool false, .slice none 0 0, .slice none 0 0]⟩)] ?_
  refine sw_cond (b := (Nt.sgI y1 y2) == 0) (by kernel_rfl) (fun hb15 => ?_) (fun hb15 => ?_)
  · replace hb15 : ((Nt.sgI y1 y2) == 0) = true := hb15
    refine sw_seq ?_
    refine sw_reg ?_
    refine sy_pure 14 (.v (.agg #[.bool false, .slice none 0 0, .slice none 0 0, .bool false, .slice none 0 0, .slice none 0 0])) ?_
    refine sy_store ⟨28, [.bool false, .slice none 0 0, .slice none 0 0, .bool false, .slice none 0 0, .slice none 0 0]⟩ ty28 ?_
    refine sy_pure 5 (.v (.int .i64 3)) ?_
    refine sy_next 48 [(4, .adr 4 0), (5, .v (.int .i64 3))] [(4, ⟨28, [.bool false, .slice none 0 0, .slice none 0 0, .bool false, .slice none 0 0, .slice none 0 0]⟩)] ?_
    refine sw_ret (mpr_seq (ret0 [.agg #[.bool false, .slice none 0 0, .slice none 0 0, .bool false, .slice none 0 0, .slice none 0 0], .int .i64 3] ⟨res_cell ty28 part_agg, res_tmp, trivial⟩ fun u16 e17 => ?_))
    exact .inl ⟨by simpa using hb15, rfl⟩
  · replace hb15 : ((Nt.sgI y1 y2) == 0) = false := hb15
    refine sw_skip (mp_seq ?_)
    refine sw_seq ?_
    refine sw_reg ?_
    refine sy_new 6 ⟨81, [.bool false, .slice none 0 0, .slice none 0 0, .bool false, .slice none 0 0, .slice none 0 0, .bool false, .slice none 0 0, .slice none 0 0, .bool false, .slice none 0 0, .slice none 0 0]⟩ ?_
    refine sy_next 48 [(2, .adr 2 0), (3, .adr 3 0), (4, .adr 4 0), (6, .adr 6 0)] [(2, ⟨28, a1.cs ++ a2.cs⟩), (3, ⟨28, b1.cs ++ b2.cs⟩), (4, ⟨28, [.bool false, .slice none 0 0, .slice none 0 0, .bool false, .slice none 0 0, .slice none 0 0]⟩), (6, ⟨81, [.bool false, .slice none 0 0, .slice none 0 0, .bool false, .slice none 0 0, .slice none 0 0, .bool false, .slice none 0 0, .slice none 0 0, .bool false, .slice none 0 0, .slice none 0 0]⟩)] ?_
    refine sw_seq ?_
    refine sw_seq ?_
    refine sw_reg ?_
    refine sy_pure 15 (.adr 2 0) ?_
    refine sy_ldv 16 (.v (a1.v)) ty26 part_agg ?_
    refine sy_pure 17 (.adr 2 3) ?_
    refine sy_ldv 18 (.v (a2.v)) ty26 part_agg ?_
    refine sy_pure 19 (.v (.agg #[.bool a1.s, .slice a1.m.a a1.m.n a1.m.c, .slice a1.d.a a1.d.n a1.d.c, .bool a2.s, .slice a2.m.a a2.m.n a2.m.c, .slice a2.d.a a2.d.n a2.d.c])) ?_
    refine sy_pure 20 (.v (.int .i64 0)) ?_
    refine sy_next 48 [(3, .adr 3 0), (4, .adr 4 0), (6, .adr 6 0), (19, .v (.agg #[.bool a1.s, .slice a1.m.a a1.m.n a1.m.c, .slice a1.d.a a1.d.n a1.d.c, .bool a2.s, .slice a2.m.a a2.m.n a2.m.c, .slice a2.d.a a2.d.n a2.d.c])), (20, .v (.int .i64 0))] [(3, ⟨28, b1.cs ++ b2.cs⟩), (4, ⟨28, [.bool false, .slice none 0 0, .slice none 0 0, .bool false, .slice none 0 0, .slice none 0 0]⟩), (6, ⟨81, [.bool false, .slice none 0 0, .slice none 0 0, .bool false, .slice none 0 0, .slice none 0 0, .bool false, .slice none 0 0, .slice none 0 0, .bool false, .slice none 0 0, .slice none 0 0]⟩)] ?_
    refine sw_block ?_
    refine sw_rounds 2 ?_
    refine sw_seq ?_
    refine sw_reg ?_
    refine sy_pure 21 (.v (.bool true)) ?_
    refine sy_next 48 [(3, .adr 3 0), (4, .adr 4 0), (6, .adr 6 0), (19, .v (.agg #[.bool a1.s, .slice a1.m.a a1.m.n a1.m.c, .slice a1.d.a a1.d.n a1.d.c, .bool a2.s, .slice a2.m.a a2.m.n a2.m.c, .slice a2.d.a a2.d.n a2.d.c])), (20, .v (.int .i64 0)), (21, .v (.bool true))] [(3, ⟨28, b1.cs ++ b2.cs⟩), (4, ⟨28, [.bool false, .slice none 0 0, .slice none 0 0, .bool false, .slice none 0 0, .slice none 0 0]⟩), (6, ⟨81, [.bool false, .slice none 0 0, .slice none 0 0, .bool false, .slice none 0 0, .slice none 0 0, .bool false, .slice none 0 0, .slice none 0 0, .bool false, .slice none 0 0, .slice none 0 0]⟩)] ?_
    refine sw_seq ?_
    refine sw_true (by kernel_rfl) ?_
    refine sw_skip (mp_seq ?_)
    refine sw_seq ?_
    refine sw_block ?_
    refine sw_seq ?_
    refine sw_reg ?_
    refine sy_pure 22 (.v (.int .i64 0)) ?_
    refine sy_pure 23 (.v (a1.v)) ?_
    refine sy_new 8 ⟨26, [.bool false, .slice none 0 0, .slice none 0 0]⟩ ?_
    refine sy_pure 7 (.v (.int .i64 0)) ?_
    refine sy_store ⟨26, a1.cs⟩ ty26 ?_
    refine sy_next 48 [(3, .adr 3 0), (4, .adr 4 0), (6, .adr 6 0), (7, .v (.int .i64 0)), (8, .adr 8 0), (19, .v (.agg #[.bool a1.s, .slice a1.m.a a1.m.n a1.m.c, .slice a1.d.a a1.d.n a1.d.c, .bool a2.s, .slice a2.m.a a2.m.n a2.m.c, .slice a2.d.a a2.d.n a2.d.c])), (20, .v (.int .i64 0))] [(3, ⟨28, b1.cs ++ b2.cs⟩), (4, ⟨28, [.bool false, .slice none 0 0, .slice none 0 0, .bool false, .slice none 0 0, .slice none 0 0]⟩), (6, ⟨81, [.bool false, .slice none 0 0, .slice none 0 0, .bool false, .slice none 0 0, .slice none 0 0, .bool false, .slice none 0 0, .slice none 0 0, .bool false, .slice none 0 0, .slice none 0 0]⟩), (8, ⟨26, a1.cs⟩)] ?_
    refine sw_seq ?_
    refine sw_reg ?_
    refine sy_pure 24 (.adr 3 0) ?_
    refine sy_ldv 25 (.v (b1.v)) ty26 part_agg ?_
    refine sy_pure 26 (.adr 3 3) ?_
    refine sy_ldv 27 (.v (b2.v)) ty26 part_agg ?_
    refine sy_pure 28 (.v (.agg #[.bool b1.s, .slice b1.m.a b1.m.n b1.m.c, .slice b1.d.a b1.d.n b1.d.c, .bool b2.s, .slice b2.m.a b2.m.n b2.m.c, .slice b2.d.a b2.d.n b2.d.c])) ?_
    refine sy_pure 29 (.v (.int .i64 0)) ?_
    refine sy_next 48 [(3, .adr 3 0), (4, .adr 4 0), (6, .adr 6 0), (7, .v (.int .i64 0)), (8, .adr 8 0), (19, .v (.agg #[.bool a1.s, .slice a1.m.a a1.m.n a1.m.c, .slice a1.d.a a1.d.n a1.d.c, .bool a2.s, .slice a2.m.a a2.m.n a2.m.c, .slice a2.d.a a2.d.n a2.d.c])), (20, .v (.int .i64 0)), (28, .v (.agg #[.bool b1.s, .slice b1.m.a b1.m.n b1.m.c, .slice b1.d.a b1.d.n b1.d.c, .bool b2.s, .slice b2.m.a b2.m.n b2.m.c, .slice b2.d.a b2.d.n b2.d.c])), (29, .v (.int .i64 0))] [(3, ⟨28, b1.cs ++ b2.cs⟩), (4, ⟨28, [.bool false, .slice none 0 0, .slice none 0 0, .bool false, .slice none 0 0, .slice none 0 0]⟩), (6, ⟨81, [.bool false, .slice none 0 0, .slice none 0 0, .bool false, .slice none 0 0, .slice none 0 0, .bool false, .slice none 0 0, .slice none 0 0, .bool false, .slice none 0 0, .slice none 0 0]⟩), (8, ⟨26, a1.cs⟩)] ?_
    refine sw_block ?_
    refine sw_rounds 2 ?_
    refine sw_seq ?_
    refine sw_reg ?_
    refine sy_pure 30 (.v (.bool true)) ?_
    refine sy_next 48 [(3, .adr 3 0), (4, .adr 4 0), (6, .adr 6 0), (7, .v (.int .i64 0)), (8, .adr 8 0), (19, .v (.agg #[.bool a1.s, .slice a1.m.a a1.m.n a1.m.c, .slice a1.d.a a1.d.n a1.d.c, .bool a2.s, .slice a2.m.a a2.m.n a2.m.c, .slice a2.d.a a2.d.n a2.d.c])), (20, .v (.int .i64 0)), (28, .v (.agg #[.bool b1.s, .slice b1.m.a b1.m.n b1.m.c, .slice b1.d.a b1.d.n b1.d.c, .bool b2.s, .slice b2.m.a b2.m.n b2.m.c, .slice b2.d.a b2.d.n b2.d.c])), (29, .v (.int .i64 0)), (30, .v (.bool true))] [(3, ⟨28, b1.cs ++ b2.cs⟩), (4, ⟨28, [.bool false, .slice none 0 0, .slice none 0 0, .bool false, .slice none 0 0, .slice none 0 0]⟩), (6, ⟨81, [.bool false, .slice none 0 0, .slice none 0 0, .bool false, .slice none 0 0, .slice none 0 0, .bool false, .slice none 0 0, .slice none 0 0, .bool false, .slice none 0 0, .slice none 0 0]⟩), (8, ⟨26, a1.cs⟩)] ?_
    refine sw_seq ?_
    refine sw_true (by kernel_rfl) ?_
    refine sw_skip (mp_seq ?_)
    refine sw_seq ?_
    refine sw_block ?_
    refine sw_seq ?_
    refine sw_reg ?_
    refine sy_pure 31 (.v (.int .i64 0)) ?_
    refine sy_pure 32 (.v (b1.v)) ?_
    refine sy_new 10 ⟨26, [.bool false, .slice none 0 0, .slice none 0 0]⟩ ?_
    refine sy_pure 9 (.v (.int .i64 0)) ?_
    refine sy_store ⟨26, b1.cs⟩ ty26 ?_
    refine sy_next 48 [(3, .adr 3 0), (4, .adr 4 0), (6, .adr 6 0), (7, .v (.int .i64 0)), (8, .adr 8 0), (9, .v (.int .i64 0)), (10, .adr 10 0), (19, .v (.agg #[.bool a1.s, .slice a1.m.a a1.m.n a1.m.c, .slice a1.d.a a1.d.n a1.d.c, .bool a2.s, .slice a2.m.a a2.m.n a2.m.c, .slice a2.d.a a2.d.n a2.d.c])), (20, .v (.int .i64 0)), (28, .v (.agg #[.bool b1.s, .slice b1.m.a b1.m.n b1.m.c, .slice b1.d.a b1.d.n b1.d.c, .bool b2.s, .slice b2.m.a b2.m.n b2.m.c, .slice b2.d.a b2.d.n b2.d.c])), (29, .v (.int .i64 0))] [(3, ⟨28, b1.cs ++ b2.cs⟩), (4, ⟨28, [.bool false, .slice none 0 0, .slice none 0 0, .bool false, .slice none 0 0, .slice none 0 0]⟩), (6, ⟨81, [.bool false, .slice none 0 0, .slice none 0 0, .bool false, .slice none 0 0, .slice none 0 0, .bool false, .slice none 0 0, .slice none 0 0, .bool false, .slice none 0 0, .slice none 0 0]⟩), (8, ⟨26, a1.cs⟩), (10, ⟨26, b1.cs⟩)] ?_
    refine sw_reg ?_
    refine sy_pure 34 (.v (.int .i64 0)) ?_
    refine sy_pure 35 (.v (.int .i64 0)) ?_
    refine sy_pure 36 (.v (.int .i64 0)) ?_
    refine sy_pure 37 (.v (.int .i64 0)) ?_
    refine sy_ldv 38 (.v (a1.v)) ty26 part_agg ?_
    refine sy_ldv 39 (.v (b1.v)) ty26 part_agg ?_
    refine sy_call 40 99 [a1.v, b1.v] ?_
    intro w18 u18 e18 d18
    have k23 := k_ratDiv1 d18 (ha1.ext (e11.trans (g13.ext.trans e18))) (hb1.ext (e11.trans (g13.ext.trans e18))) (sgI_ne hb15).1 (by omega) (by omega)
    with_reducible refine Post.mono k23 ?_
    clear k23
    rintro _ u21 g22 ⟨r19, rfl, h20⟩
    refine sy_pure 33 (.v (.tuple #[r19.v, .int .i64 0])) ?_
    refine sy_pure 41 (.v (r19.v)) ?_
    refine sy_pure 42 (.v (.int .i64 0)) ?_
    refine sy_pure 43 (.adr 6 0) ?_
    refine sy_store ⟨81, r19.cs ++ [.bool false, .slice none 0 0, .slice none 0 0, .bool false, .slice none 0 0, .slice none 0 0, .bool false, .slice none 0 0, .slice none 0 0]⟩ ty26 ?_
    refine sy_end ?_
    refine mp_seq ?_
    refine sw_reg ?_
    refine sy_pure 44 (.v (.int .i64 1)) ?_
    refine sy_pure 29 (.v (.int .i64 1)) ?_
    refine sy_end ?_
    refine rn_next ?_
    refine sw_weak (T := St.of 48 [(3, .adr 3 0), (4, .adr 4 0), (6, .adr 6 0), (7, .v (.int .i64 0)), (8, .adr 8 0), (19, .v (.agg #[.bool a1.s, .slice a1.m.a a1.m.n a1.m.c, .slice a1.d.a a1.d.n a1.d.c, .bool a2.s, .slice a2.m.a a2.m.n a2.m.c, .slice a2.d.a a2.d.n a2.d.c])), (20, .v (.int .i64 0)), (28, .v (.agg #[.bool b1.s, .slice b1.m.a b1.m.n b1.m.c, .slice b1.d.a b1.d.n b1.d.c, .bool b2.s, .slice b2.m.a b2.m.n b2.m.c, .slice b2.d.a b2.d.n b2.d.c])), (29, .v (.int .i64 1))] [(3, ⟨28, b1.cs ++ b2.cs⟩), (4, ⟨28, [.bool false, .slice none 0 0, .slice none 0 0, .bool false, .slice none 0 0, .slice none 0 0]⟩), (6, ⟨81, r19.cs ++ [.bool false, .slice none 0 0, .slice none 0 0, .bool false, .slice none 0 0, .slice none 0 0, .bool false, .slice none 0 0, .slice none 0 0]⟩), (8, ⟨26, a1.cs⟩)]) (by exact weak_mk _ _ _) ?_
    refine sw_seq ?_
    refine sw_reg ?_
    refine sy_pure 30 (.v (.bool true)) ?_
    refine sy_next 48 [(3, .adr 3 0), (4, .adr 4 0), (6, .adr 6 0), (7, .v (.int .i64 0)), (8, .adr 8 0), (19, .v (.agg #[.bool a1.s, .slice a1.m.a a1.m.n a1.m.c, .slice a1.d.a a1.d.n a1.d.c, .bool a2.s, .slice a2.m.a a2.m.n a2.m.c, .slice a2.d.a a2.d.n a2.d.c])), (20, .v (.int .i64 0)), (28, .v (.agg #[.bool b1.s, .slice b1.m.a b1.m.n b1.m.c, .slice b1.d.a b1.d.n b1.d.c, .bool b2.s, .slice b2.m.a b2.m.n b2.m.c, .slice b2.d.a b2.d.n b2.d.c])), (29, .v (.int .i64 1)), (30, .v (.bool true))] [(3, ⟨28, b1.cs ++ b2.cs⟩), (4, ⟨28, [.bool false, .slice none 0 0, .slice none 0 0, .bool false, .slice none 0 0, .slice none 0 0]⟩), (6, ⟨81, r19.cs ++ [.bool false, .slice none 0 0, .slice none 0 0, .bool false, .slice none 0 0, .slice none 0 0, .bool false, .slice none 0 0, .slice none 0 0]⟩), (8, ⟨26, a1.cs⟩)] ?_
    refine sw_seq ?_
    refine sw_true (by kernel_rfl) ?_
    refine sw_skip (mp_seq ?_)
    refine sw_seq ?_
    refine sw_block ?_
    refine sw_seq ?_
    refine sw_reg ?_
    refine sy_pure 31 (.v (.int .i64 1)) ?_
    refine sy_pure 32 (.v (b2.v)) ?_
    refine sy_new 10 ⟨26, [.bool false, .slice none 0 0, .slice none 0 0]⟩ ?_
    refine sy_pure 9 (.v (.int .i64 1)) ?_
    refine sy_store ⟨26, b2.cs⟩ ty26 ?_
    refine sy_next 48 [(3, .adr 3 0), (4, .adr 4 0), (6, .adr 6 0), (7, .v (.int .i64 0)), (8, .adr 8 0), (9, .v (.int .i64 1)), (10, .adr 10 0), (19, .v (.agg #[.bool a1.s, .slice a1.m.a a1.m.n a1.m.c, .slice a1.d.a a1.d.n a1.d.c, .bool a2.s, .slice a2.m.a a2.m.n a2.m.c, .slice a2.d.a a2.d.n a2.d.c])), (20, .v (.int .i64 0)), (28, .v (.agg #[.bool b1.s, .slice b1.m.a b1.m.n b1.m.c, .slice b1.d.a b1.d.n b1.d.c, .bool b2.s, .slice b2.m.a b2.m.n b2.m.c, .slice b2.d.a b2.d.n b2.d.c])), (29, .v (.int .i64 1))] [(3, ⟨28, b1.cs ++ b2.cs⟩), (4, ⟨28, [.bool false, .slice none 0 0, .slice none 0 0, .bool false, .slice none 0 0, .slice none 0 0]⟩), (6, ⟨81, r19.cs ++ [.bool false, .slice none 0 0, .slice none 0 0, .bool false, .slice none 0 0, .slice none 0 0, .bool false, .slice none 0 0, .slice none 0 0]⟩), (8, ⟨26, a1.cs⟩), (10, ⟨26, b2.cs⟩)] ?_
    refine sw_reg ?_
    refine sy_pure 34 (.v (.int .i64 0)) ?_
    refine sy_pure 35 (.v (.int .i64 0)) ?_
    refine sy_pure 36 (.v (.int .i64 1)) ?_
    refine sy_pure 37 (.v (.int .i64 1)) ?_
    refine sy_ldv 38 (.v (a1.v)) ty26 part_agg ?_
    refine sy_ldv 39 (.v (b2.v)) ty26 part_agg ?_
    refine sy_call 40 99 [a1.v, b2.v] ?_
    intro w24 u24 e24 d24
    have k29 := k_ratDiv1 d24 (ha1.ext (e11.trans (g13.ext.trans (e18.trans (g22.ext.trans e24))))) (hb2.ext (e11.trans (g13.ext.trans (e18.trans (g22.ext.trans e24))))) (sgI_ne hb15).2 (by omega) (by omega)
    with_reducible refine Post.mono k29 ?_
    clear k29
    rintro _ u27 g28 ⟨r25, rfl, h26⟩
    refine sy_pure 33 (.v (.tuple #[r25.v, .int .i64 0])) ?_
    refine sy_pure 41 (.v (r25.v)) ?_
    refine sy_pure 42 (.v (.int .i64 0)) ?_
    refine sy_pure 43 (.adr 6 3) ?_
    refine sy_store ⟨81, r19.cs ++ r25.cs ++ [.bool false, .slice none 0 0, .slice none 0 0, .bool false, .slice none 0 0, .slice none 0 0]⟩ ty26 ?_
    refine sy_end ?_
    refine mp_seq ?_
    refine sw_reg ?_
    refine sy_pure 44 (.v (.int .i64 2)) ?_
    refine sy_pure 29 (.v (.int .i64 2)) ?_
    refine sy_end ?_
    refine rn_next ?_
    refine sw_weak (T := St.of 48 [(3, .adr 3 0), (4, .adr 4 0), (6, .adr 6 0), (7, .v (.int .i64 0)), (8, .adr 8 0), (19, .v (.agg #[.bool a1.s, .slice a1.m.a a1.m.n a1.m.c, .slice a1.d.a a1.d.n a1.d.c, .bool a2.s, .slice a2.m.a a2.m.n a2.m.c, .slice a2.d.a a2.d.n a2.d.c])), (20, .v (.int .i64 0)), (28, .v (.agg #[.bool b1.s, .slice b1.m.a b1.m.n b1.m.c, .slice b1.d.a b1.d.n b1.d.c, .bool b2.s, .slice b2.m.a b2.m.n b2.m.c, .slice b2.d.a b2.d.n b2.d.c])), (29, .v (.int .i64 2))] [(3, ⟨28, b1.cs ++ b2.cs⟩), (4, ⟨28, [.bool false, .slice none 0 0, .slice none 0 0, .bool false, .slice none 0 0, .slice none 0 0]⟩), (6, ⟨81, r19.cs ++ r25.cs ++ [.bool false, .slice none 0 0, .slice none 0 0, .bool false, .slice none 0 0, .slice none 0 0]⟩), (8, ⟨26, a1.cs⟩)]) (by exact weak_mk _ _ _) ?_
    refine sw_seq ?_
    refine sw_reg ?_
    refine sy_pure 30 (.v (.bool false)) ?_
    refine sy_next 48 [(3, .adr 3 0), (4, .adr 4 0), (6, .adr 6 0), (7, .v (.int .i64 0)), (8, .adr 8 0), (19, .v (.agg #[.bool a1.s, .slice a1.m.a a1.m.n a1.m.c, .slice a1.d.a a1.d.n a1.d.c, .bool a2.s, .slice a2.m.a a2.m.n a2.m.c, .slice a2.d.a a2.d.n a2.d.c])), (20, .v (.int .i64 0)), (28, .v (.agg #[.bool b1.s, .slice b1.m.a b1.m.n b1.m.c, .slice b1.d.a b1.d.n b1.d.c, .bool b2.s, .slice b2.m.a b2.m.n b2.m.c, .slice b2.d.a b2.d.n b2.d.c])), (29, .v (.int .i64 2)), (30, .v (.bool false))] [(3, ⟨28, b1.cs ++ b2.cs⟩), (4, ⟨28, [.bool false, .slice none 0 0, .slice none 0 0, .bool false, .slice none 0 0, .slice none 0 0]⟩), (6, ⟨81, r19.cs ++ r25.cs ++ [.bool false, .slice none 0 0, .slice none 0 0, .bool false, .slice none 0 0, .slice none 0 0]⟩), (8, ⟨26, a1.cs⟩)] ?_
    refine sw_seq ?_
    refine sw_false (by kernel_rfl) ?_
    refine sw_exit ?_
    refine mp_seq ?_
    refine sw_reg ?_
    refine sy_pure 45 (.v (.int .i64 1)) ?_
    refine sy_pure 20 (.v (.int .i64 1)) ?_
    refine sy_end ?_
    refine rn_next ?_
    refine sw_weak (T := St.of 48 [(3, .adr 3 0), (4, .adr 4 0), (6, .adr 6 0), (19, .v (.agg #[.bool a1.s, .slice a1.m.a a1.m.n a1.m.c, .slice a1.d.a a1.d.n a1.d.c, .bool a2.s, .slice a2.m.a a2.m.n a2.m.c, .slice a2.d.a a2.d.n a2.d.c])), (20, .v (.int .i64 1))] [(3, ⟨28, b1.cs ++ b2.cs⟩), (4, ⟨28, [.bool false, .slice none 0 0, .slice none 0 0, .bool false, .slice none 0 0, .slice none 0 0]⟩), (6, ⟨81, r19.cs ++ r25.cs ++ [.bool false, .slice none 0 0, .slice none 0 0, .bool false, .slice none 0 0, .slice none 0 0]⟩)]) (by exact weak_mk _ _ _) ?_
    refine sw_seq ?_
    refine sw_reg ?_
    refine sy_pure 21 (.v (.bool true)) ?_
    refine sy_next 48 [(3, .adr 3 0), (4, .adr 4 0), (6, .adr 6 0), (19, .v (.agg #[.bool a1.s, .slice a1.m.a a1.m.n a1.m.c, .slice a1.d.a a1.d.n a1.d.c, .bool a2.s, .slice a2.m.a a2.m.n a2.m.c, .slice a2.d.a a2.d.n a2.d.c])), (20, .v (.int .i64 1)), (21, .v (.bool true))] [(3, ⟨28, b1.cs ++ b2.cs⟩), (4, ⟨28, [.bool false, .slice none 0 0, .slice none 0 0, .bool false, .slice none 0 0, .slice none 0 0]⟩), (6, ⟨81, r19.cs ++ r25.cs ++ [.bool false, .slice none 0 0, .slice none 0 0, .bool false, .slice none 0 0, .slice none 0 0]⟩)] ?_
    refine sw_seq ?_
    refine sw_true (by kernel_rfl) ?_
    refine sw_skip (mp_seq ?_)
    refine sw_seq ?_
    refine sw_block ?_
    refine sw_seq ?_
    refine sw_reg ?_
    refine sy_pure 22 (.v (.int .i64 1)) ?_
    refine sy_pure 23 (.v (a2.v)) ?_
    refine sy_new 8 ⟨26, [.bool false, .slice none 0 0, .slice none 0 0]⟩ ?_
    refine sy_pure 7 (.v (.int .i64 1)) ?_
    refine sy_store ⟨26, a2.cs⟩ ty26 ?_
    refine sy_next 48 [(3, .adr 3 0), (4, .adr 4 0), (6, .adr 6 0), (7, .v (.int .i64 1)), (8, .adr 8 0), (19, .v (.agg #[.bool a1.s, .slice a1.m.a a1.m.n a1.m.c, .slice a1.d.a a1.d.n a1.d.c, .bool a2.s, .slice a2.m.a a2.m.n a2.m.c, .slice a2.d.a a2.d.n a2.d.c])), (20, .v (.int .i64 1))] [(3, ⟨28, b1.cs ++ b2.cs⟩), (4, ⟨28, [.bool false, .slice none 0 0, .slice none 0 0, .bool false, .slice none 0 0, .slice none 0 0]⟩), (6, ⟨81, r19.cs ++ r25.cs ++ [.bool false, .slice none 0 0, .slice none 0 0, .bool false, .slice none 0 0, .slice none 0 0]⟩), (8, ⟨26, a2.cs⟩)] ?_
    refine sw_seq ?_
    refine sw_reg ?_
    refine sy_pure 24 (.adr 3 0) ?_
    refine sy_ldv 25 (.v (b1.v)) ty26 part_agg ?_
    refine sy_pure 26 (.adr 3 3) ?_
    refine sy_ldv 27 (.v (b2.v)) ty26 part_agg ?_
    refine sy_pure 28 (.v (.agg #[.bool b1.s, .slice b1.m.a b1.m.n b1.m.c, .slice b1.d.a b1.d.n b1.d.c, .bool b2.s, .slice b2.m.a b2.m.n b2.m.c, .slice b2.d.a b2.d.n b2.d.c])) ?_
    refine sy_pure 29 (.v (.int .i64 0)) ?_
    refine sy_next 48 [(3, .adr 3 0), (4, .adr 4 0), (6, .adr 6 0), (7, .v (.int .i64 1)), (8, .adr 8 0), (19, .v (.agg #[.bool a1.s, .slice a1.m.a a1.m.n a1.m.c, .slice a1.d.a a1.d.n a1.d.c, .bool a2.s, .slice a2.m.a a2.m.n a2.m.c, .slice a2.d.a a2.d.n a2.d.c])), (20, .v (.int .i64 1)), (28, .v (.agg #[.bool b1.s, .slice b1.m.a b1.m.n b1.m.c, .slice b1.d.a b1.d.n b1.d.c, .bool b2.s, .slice b2.m.a b2.m.n b2.m.c, .slice b2.d.a b2.d.n b2.d.c])), (29, .v (.int .i64 0))] [(3, ⟨28, b1.cs ++ b2.cs⟩), (4, ⟨28, [.bool false, .slice none 0 0, .slice none 0 0, .bool false, .slice none 0 0, .slice none 0 0]⟩), (6, ⟨81, r19.cs ++ r25.cs ++ [.bool false, .slice none 0 0, .slice none 0 0, .bool false, .slice none 0 0, .slice none 0 0]⟩), (8, ⟨26, a2.cs⟩)] ?_
    refine sw_block ?_
    refine sw_rounds 2 ?_
    refine sw_seq ?_
    refine sw_reg ?_
    refine sy_pure 30 (.v (.bool true)) ?_
    refine sy_next 48 [(3, .adr 3 0), (4, .adr 4 0), (6, .adr 6 0), (7, .v (.int .i64 1)), (8, .adr 8 0), (19, .v (.agg #[.bool a1.s, .slice a1.m.a a1.m.n a1.m.c, .slice a1.d.a a1.d.n a1.d.c, .bool a2.s, .slice a2.m.a a2.m.n a2.m.c, .slice a2.d.a a2.d.n a2.d.c])), (20, .v (.int .i64 1)), (28, .v (.agg #[.bool b1.s, .slice b1.m.a b1.m.n b1.m.c, .slice b1.d.a b1.d.n b1.d.c, .bool b2.s, .slice b2.m.a b2.m.n b2.m.c, .slice b2.d.a b2.d.n b2.d.c])), (29, .v (.int .i64 0)), (30, .v (.bool true))] [(3, ⟨28, b1.cs ++ b2.cs⟩), (4, ⟨28, [.bool false, .slice none 0 0, .slice none 0 0, .bool false, .slice none 0 0, .slice none 0 0]⟩), (6, ⟨81, r19.cs ++ r25.cs ++ [.bool false, .slice none 0 0, .slice none 0 0, .bool false, .slice none 0 0, .slice none 0 0]⟩), (8, ⟨26, a2.cs⟩)] ?_
    refine sw_seq ?_
    refine sw_true (by kernel_rfl) ?_
    refine sw_skip (mp_seq ?_)
    refine sw_seq ?_
    refine sw_block ?_
    refine sw_seq ?_
    refine sw_reg ?_
    refine sy_pure 31 (.v (.int .i64 0)) ?_
    refine sy_pure 32 (.v (b1.v)) ?_
    refine sy_new 10 ⟨26, [.bool false, .slice none 0 0, .slice none 0 0]⟩ ?_
    refine sy_pure 9 (.v (.int .i64 0)) ?_
    refine sy_store ⟨26, b1.cs⟩ ty26 ?_
    refine sy_next 48 [(3, .adr 3 0), (4, .adr 4 0), (6, .adr 6 0), (7, .v (.int .i64 1)), (8, .adr 8 0), (9, .v (.int .i64 0)), (10, .adr 10 0), (19, .v (.agg #[.bool a1.s, .slice a1.m.a a1.m.n a1.m.c, .slice a1.d.a a1.d.n a1.d.c, .bool a2.s, .slice a2.m.a a2.m.n a2.m.c, .slice a2.d.a a2.d.n a2.d.c])), (20, .v (.int .i64 1)), (28, .v (.agg #[.bool b1.s, .slice b1.m.a b1.m.n b1.m.c, .slice b1.d.a b1.d.n b1.d.c, .bool b2.s, .slice b2.m.a b2.m.n b2.m.c, .slice b2.d.a b2.d.n b2.d.c])), (29, .v (.int .i64 0))] [(3, ⟨28, b1.cs ++ b2.cs⟩), (4, ⟨28, [.bool false, .slice none 0 0, .slice none 0 0, .bool false, .slice none 0 0, .slice none 0 0]⟩), (6, ⟨81, r19.cs ++ r25.cs ++ [.bool false, .slice none 0 0, .slice none 0 0, .bool false, .slice none 0 0, .slice none 0 0]⟩), (8, ⟨26, a2.cs⟩), (10, ⟨26, b1.cs⟩)] ?_
    refine sw_reg ?_
    refine sy_pure 34 (.v (.int .i64 1)) ?_
    refine sy_pure 35 (.v (.int .i64 2)) ?_
    refine sy_pure 36 (.v (.int .i64 0)) ?_
    refine sy_pure 37 (.v (.int .i64 2)) ?_
    refine sy_ldv 38 (.v (a2.v)) ty26 part_agg ?_
    refine sy_ldv 39 (.v (b1.v)) ty26 part_agg ?_
    refine sy_call 40 99 [a2.v, b1.v] ?_
    intro w30 u30 e30 d30
    have k35 := k_ratDiv1 d30 (ha2.ext (e11.trans (g13.ext.trans (e18.trans (g22.ext.trans (e24.trans (g28.ext.trans e30))))))) (hb1.ext (e11.trans (g13.ext.trans (e18.trans (g22.ext.trans (e24.trans (g28.ext.trans e30))))))) (sgI_ne hb15).1 (by omega) (by omega)
    with_reducible refine Post.mono k35 ?_
    clear k35
    rintro _ u33 g34 ⟨r31, rfl, h32⟩
    refine sy_pure 33 (.v (.tuple #[r31.v, .int .i64 0])) ?_
    refine sy_pure 41 (.v (r31.v)) ?_
    refine sy_pure 42 (.v (.int .i64 0)) ?_
    refine sy_pure 43 (.adr 6 6) ?_
    refine sy_store ⟨81, r19.cs ++ r25.cs ++ r31.cs ++ [.bool false, .slice none 0 0, .slice none 0 0]⟩ ty26 ?_
    refine sy_end ?_
    refine mp_seq ?_
    refine sw_reg ?_
    refine sy_pure 44 (.v (.int .i64 1)) ?_
    refine sy_pure 29 (.v (.int .i64 1)) ?_
    refine sy_end ?_
    refine rn_next ?_
    refine sw_weak (T := St.of 48 [(3, .adr 3 0), (4, .adr 4 0), (6, .adr 6 0), (7, .v (.int .i64 1)), (8, .adr 8 0), (19, .v (.agg #[.bool a1.s, .slice a1.m.a a1.m.n a1.m.c, .slice a1.d.a a1.d.n a1.d.c, .bool a2.s, .slice a2.m.a a2.m.n a2.m.c, .slice a2.d.a a2.d.n a2.d.c])), (20, .v (.int .i64 1)), (28, .v (.agg #[.bool b1.s, .slice b1.m.a b1.m.n b1.m.c, .slice b1.d.a b1.d.n b1.d.c, .bool b2.s, .slice b2.m.a b2.m.n b2.m.c, .slice b2.d.a b2.d.n b2.d.c])), (29, .v (.int .i64 1))] [(3, ⟨28, b1.cs ++ b2.cs⟩), (4, ⟨28, [.bool false, .slice none 0 0, .slice none 0 0, .bool false, .slice none 0 0, .slice none 0 0]⟩), (6, ⟨81, r19.cs ++ r25.cs ++ r31.cs ++ [.bool false, .slice none 0 0, .slice none 0 0]⟩), (8, ⟨26, a2.cs⟩)]) (by exact weak_mk _ _ _) ?_
    refine sw_seq ?_
    refine sw_reg ?_
    refine sy_pure 30 (.v (.bool true)) ?_
    refine sy_next 48 [(3, .adr 3 0), (4, .adr 4 0), (6, .adr 6 0), (7, .v (.int .i64 1)), (8, .adr 8 0), (19, .v (.agg #[.bool a1.s, .slice a1.m.a a1.m.n a1.m.c, .slice a1.d.a a1.d.n a1.d.c, .bool a2.s, .slice a2.m.a a2.m.n a2.m.c, .slice a2.d.a a2.d.n a2.d.c])), (20, .v (.int .i64 1)), (28, .v (.agg #[.bool b1.s, .slice b1.m.a b1.m.n b1.m.c, .slice b1.d.a b1.d.n b1.d.c, .bool b2.s, .slice b2.m.a b2.m.n b2.m.c, .slice b2.d.a b2.d.n b2.d.c])), (29, .v (.int .i64 1)), (30, .v (.bool true))] [(3, ⟨28, b1.cs ++ b2.cs⟩), (4, ⟨28, [.bool false, .slice none 0 0, .slice none 0 0, .bool false, .slice none 0 0, .slice none 0 0]⟩), (6, ⟨81, r19.cs ++ r25.cs ++ r31.cs ++ [.bool false, .slice none 0 0, .slice none 0 0]⟩), (8, ⟨26, a2.cs⟩)] ?_
    refine sw_seq ?_
    refine sw_true (by kernel_rfl) ?_
    refine sw_skip (mp_seq ?_)
    refine sw_seq ?_
    refine sw_block ?_
    refine sw_seq ?_
    refine sw_reg ?_
    refine sy_pure 31 (.v (.int .i64 1)) ?_
    refine sy_pure 32 (.v (b2.v)) ?_
    refine sy_new 10 ⟨26, [.bool false, .slice none 0 0, .slice none 0 0]⟩ ?_
    refine sy_pure 9 (.v (.int .i64 1)) ?_
    refine sy_store ⟨26, b2.cs⟩ ty26 ?_
    refine sy_next 48 [(3, .adr 3 0), (4, .adr 4 0), (6, .adr 6 0), (7, .v (.int .i64 1)), (8, .adr 8 0), (9, .v (.int .i64 1)), (10, .adr 10 0), (19, .v (.agg #[.bool a1.s, .slice a1.m.a a1.m.n a1.m.c, .slice a1.d.a a1.d.n a1.d.c, .bool a2.s, .slice a2.m.a a2.m.n a2.m.c, .slice a2.d.a a2.d.n a2.d.c])), (20, .v (.int .i64 1)), (28, .v (.agg #[.bool b1.s, .slice b1.m.a b1.m.n b1.m.c, .slice b1.d.a b1.d.n b1.d.c, .bool b2.s, .slice b2.m.a b2.m.n b2.m.c, .slice b2.d.a b2.d.n b2.d.c])), (29, .v (.int .i64 1))] [(3, ⟨28, b1.cs ++ b2.cs⟩), (4, ⟨28, [.bool false, .slice none 0 0, .slice none 0 0, .bool false, .slice none 0 0, .slice none 0 0]⟩), (6, ⟨81, r19.cs ++ r25.cs ++ r31.cs ++ [.bool false, .slice none 0 0, .slice none 0 0]⟩), (8, ⟨26, a2.cs⟩), (10, ⟨26, b2.cs⟩)] ?_
    refine sw_reg ?_
    refine sy_pure 34 (.v (.int .i64 1)) ?_
    refine sy_pure 35 (.v (.int .i64 2)) ?_
    refine sy_pure 36 (.v (.int .i64 1)) ?_
    refine sy_pure 37 (.v (.int .i64 3)) ?_
    refine sy_ldv 38 (.v (a2.v)) ty26 part_agg ?_
    refine sy_ldv 39 (.v (b2.v)) ty26 part_agg ?_
    refine sy_call 40 99 [a2.v, b2.v] ?_
    intro w36 u36 e36 d36
    have k41 := k_ratDiv1 d36 (ha2.ext (e11.trans (g13.ext.trans (e18.trans (g22.ext.trans (e24.trans (g28.ext.trans (e30.trans (g34.ext.trans e36))))))))) (hb2.ext (e11.trans (g13.ext.trans (e18.trans (g22.ext.trans (e24.trans (g28.ext.trans (e30.trans (g34.ext.trans e36))))))))) (sgI_ne hb15).2 (by omega) (by omega)
    with_reducible refine Post.mono k41 ?_
    clear k41
    rintro _ u39 g40 ⟨r37, rfl, h38⟩
    refine sy_pure 33 (.v (.tuple #[r37.v, .int .i64 0])) ?_
    refine sy_pure 41 (.v (r37.v)) ?_
    refine sy_pure 42 (.v (.int .i64 0)) ?_
    refine sy_pure 43 (.adr 6 9) ?_
    refine sy_store ⟨81, r19.cs ++ r25.cs ++ r31.cs ++ r37.cs⟩ ty26 ?_
    refine sy_end ?_
    refine mp_seq ?_
    refine sw_reg ?_
    refine sy_pure 44 (.v (.int .i64 2)) ?_
    refine sy_pure 29 (.v (.int .i64 2)) ?_
    refine sy_end ?_
    refine rn_next ?_
    refine sw_weak (T := St.of 48 [(3, .adr 3 0), (4, .adr 4 0), (6, .adr 6 0), (7, .v (.int .i64 1)), (8, .adr 8 0), (19, .v (.agg #[.bool a1.s, .slice a1.m.a a1.m.n a1.m.c, .slice a1.d.a a1.d.n a1.d.c, .bool a2.s, .slice a2.m.a a2.m.n a2.m.c, .slice a2.d.a a2.d.n a2.d.c])), (20, .v (.int .i64 1)), (28, .v (.agg #[.bool b1.s, .slice b1.m.a b1.m.n b1.m.c, .slice b1.d.a b1.d.n b1.d.c, .bool b2.s, .slice b2.m.a b2.m.n b2.m.c, .slice b2.d.a b2.d.n b2.d.c])), (29, .v (.int .i64 2))] [(3, ⟨28, b1.cs ++ b2.cs⟩), (4, ⟨28, [.bool false, .slice none 0 0, .slice none 0 0, .bool false, .slice none 0 0, .slice none 0 0]⟩), (6, ⟨81, r19.cs ++ r25.cs ++ r31.cs ++ r37.cs⟩), (8, ⟨26, a2.cs⟩)]) (by exact weak_mk _ _ _) ?_
    refine sw_seq ?_
    refine sw_reg ?_
    refine sy_pure 30 (.v (.bool false)) ?_
    refine sy_next 48 [(3, .adr 3 0), (4, .adr 4 0), (6, .adr 6 0), (7, .v (.int .i64 1)), (8, .adr 8 0), (19, .v (.agg #[.bool a1.s, .slice a1.m.a a1.m.n a1.m.c, .slice a1.d.a a1.d.n a1.d.c, .bool a2.s, .slice a2.m.a a2.m.n a2.m.c, .slice a2.d.a a2.d.n a2.d.c])), (20, .v (.int .i64 1)), (28, .v (.agg #[.bool b1.s, .slice b1.m.a b1.m.n b1.m.c, .slice b1.d.a b1.d.n b1.d.c, .bool b2.s, .slice b2.m.a b2.m.n b2.m.c, .slice b2.d.a b2.d.n b2.d.c])), (29, .v (.int .i64 2)), (30, .v (.bool false))] [(3, ⟨28, b1.cs ++ b2.cs⟩), (4, ⟨28, [.bool false, .slice none 0 0, .slice none 0 0, .bool false, .slice none 0 0, .slice none 0 0]⟩), (6, ⟨81, r19.cs ++ r25.cs ++ r31.cs ++ r37.cs⟩), (8, ⟨26, a2.cs⟩)] ?_
    refine sw_seq ?_
    refine sw_false (by kernel_rfl) ?_
    refine sw_exit ?_
    refine mp_seq ?_
    refine sw_reg ?_
    refine sy_pure 45 (.v (.int .i64 2)) ?_
    refine sy_pure 20 (.v (.int .i64 2)) ?_
    refine sy_end ?_
    refine rn_next ?_
    refine sw_weak (T := St.of 48 [(3, .adr 3 0), (4, .adr 4 0), (6, .adr 6 0), (19, .v (.agg #[.bool a1.s, .slice a1.m.a a1.m.n a1.m.c, .slice a1.d.a a1.d.n a1.d.c, .bool a2.s, .slice a2.m.a a2.m.n a2.m.c, .slice a2.d.a a2.d.n a2.d.c])), (20, .v (.int .i64 2))] [(3, ⟨28, b1.cs ++ b2.cs⟩), (4, ⟨28, [.bool false, .slice none 0 0, .slice none 0 0, .bool false, .slice none 0 0, .slice none 0 0]⟩), (6, ⟨81, r19.cs ++ r25.cs ++ r31.cs ++ r37.cs⟩)]) (by exact weak_mk _ _ _) ?_
    refine sw_seq ?_
    refine sw_reg ?_
    refine sy_pure 21 (.v (.bool false)) ?_
    refine sy_next 48 [(3, .adr 3 0), (4, .adr 4 0), (6, .adr 6 0), (19, .v (.agg #[.bool a1.s, .slice a1.m.a a1.m.n a1.m.c, .slice a1.d.a a1.d.n a1.d.c, .bool a2.s, .slice a2.m.a a2.m.n a2.m.c, .slice a2.d.a a2.d.n a2.d.c])), (20, .v (.int .i64 2)), (21, .v (.bool false))] [(3, ⟨28, b1.cs ++ b2.cs⟩), (4, ⟨28, [.bool false, .slice none 0 0, .slice none 0 0, .bool false, .slice none 0 0, .slice none 0 0]⟩), (6, ⟨81, r19.cs ++ r25.cs ++ r31.cs ++ r37.cs⟩)] ?_
    refine sw_seq ?_
    refine sw_false (by kernel_rfl) ?_
    refine sw_exit ?_
    refine mp_seq ?_
    refine sw_seq ?_
    refine sw_reg ?_
    refine sy_ldv 46 (.v (.agg #[.bool r19.s, .slice r19.m.a r19.m.n r19.m.c, .slice r19.d.a r19.d.n r19.d.c, .bool r25.s, .slice r25.m.a r25.m.n r25.m.c, .slice r25.d.a r25.d.n r25.d.c, .bool r31.s, .slice r31.m.a r31.m.n r31.m.c, .slice r31.d.a r31.d.n r31.d.c, .bool r37.s, .slice r37.m.a r37.m.n r37.m.c, .slice r37.d.a r37.d.n r37.d.c])) ty81 part_agg ?_
    refine sy_call 47 100 [.agg #[.bool r19.s, .slice r19.m.a r19.m.n r19.m.c, .slice r19.d.a r19.d.n r19.d.c, .bool r25.s, .slice r25.m.a r25.m.n r25.m.c, .slice r25.d.a r25.d.n r25.d.c, .bool r31.s, .slice r31.m.a r31.m.n r31.m.c, .slice r31.d.a r31.d.n r31.d.c, .bool r37.s, .slice r37.m.a r37.m.n r37.m.c, .slice r37.d.a r37.d.n r37.d.c]] ?_
    intro w42 u42 e42 d42
    have k49 := k_around d42 (h20.ext (e24.trans (g28.ext.trans (e30.trans (g34.ext.trans (e36.trans (g40.ext.trans e42))))))) (h26.ext (e30.trans (g34.ext.trans (e36.trans (g40.ext.trans e42))))) (h32.ext (e36.trans (g40.ext.trans e42))) (h38.ext e42) (by omega)
    with_reducible refine Post.mono k49 ?_
    clear k49
    rintro _ u47 g48 ⟨r43, r45, rfl, h44, h46⟩
    refine sy_store ⟨28, r43.cs ++ r45.cs⟩ ty28 ?_
    refine sy_pure 5 (.v (.int .i64 0)) ?_
    refine sy_next 48 [(4, .adr 4 0), (5, .v (.int .i64 0))] [(4, ⟨28, r43.cs ++ r45.cs⟩)] ?_
    refine sw_ret (ret0 [.agg #[.bool r43.s, .slice r43.m.a r43.m.n r43.m.c, .slice r43.d.a r43.d.n r43.d.c, .bool r45.s, .slice r45.m.a r45.m.n r45.m.c, .slice r45.d.a r45.d.n r45.d.c], .int .i64 0] ⟨res_cell ty28 part_agg, res_tmp, trivial⟩ fun u50 e51 => ?_)
    exact .inr ⟨by simpa using hb15, r43, r45, rfl, (h44.ext e51), (h46.ext e51)⟩
end Go.Proofs.YtnedhbidmfoegaaGreat
namespace Go.Proofs.YtnedhbidmfoegaaGreat
open Go.RowKit
set_option linter.unusedVariables false
theorem k_r4Trim {u w : World} {a1 a2 : RL} {x1 x2 : Rat} {K : Nat} (d : Dat u w) (ha1 : RatV u a1 x1 K) (ha2 : RatV u a2 x2 K) (hK : K ≤ 100000000) : Calls Tryz.prog 69 #[IV a1 a2] w (Post u w fun v u' => ∃ p q : RL, v = IV p q ∧ RatN u' p (Nt.lo x1 x2) K ∧ RatN u' q (Nt.hi x1 x2) K) := by
  refine calls_sym (args := [.agg #[.bool a1.s, .slice a1.m.a a1.m.n a1.m.c, .slice a1.d.a a1.d.n a1.d.c, .bool a2.s, .slice a2.m.a a2.m.n a2.m.c, .slice a2.d.a a2.d.n a2.d.c]]) Tryz.func69 rfl Tryz.ntmps69 (rs := [.cell 2 28]) Tryz.results69 (le_b rfl) (le_b rfl) d ?_
  refine sw_seq ?_
  refine sw_reg ?_
  refine sy_new 1 ⟨28, a1.cs ++ a2.cs⟩ ?_
  refine sy_new 2 ⟨28, [.bool false, .slice none 0 0, .slice none 0 0, .bool false, .slice none 0 0, .slice none 0 0]⟩ ?_
  refine sy_next 14 [(1, .adr 1 0), (2, .adr 2 0)] [(1, ⟨28, a1.cs ++ a2.cs⟩), (2, ⟨28, [.bool false, .slice none 0 0, .slice none 0 0, .bool false, .slice none 0 0, .slice none 0 0]⟩)] ?_
  refine sw_seq ?_
  refine sw_any [0, 1, 0, 4, 15, 0, 32, 0, 128, 511, 1023, 2047] [(0, []), (1, []), (2, []), (3, []), (5, []), (6, []), (7, []), (8, []), (4, []), (9, []), (10, []), (11, [])] (by kernel_rfl) (by kernel_rfl) ?_
  refine sy_pure 3 (.adr 1 0) ?_
  refine sy_ldv 4 (.v (a1.v)) ty26 part_agg ?_
  refine sy_pure 5 (.adr 1 3) ?_
  refine sy_ldv 6 (.v (a2.v)) ty26 part_agg ?_
  refine sy_pure 8 (.adr 1 0) ?_
  refine sy_ldv 9 (.v (a1.v)) ty26 part_agg ?_
  refine sy_pure 10 (.adr 1 3) ?_
  refine sy_ldv 11 (.v (a2.v)) ty26 part_agg ?_
  refine sy_call 7 130 [a1.v, a2.v] ?_
  intro w11 u11 e11 d11
  have k16 := k_rqMin d11 (ha1.ext e11) (ha2.ext e11) (by omega) (by omega)
  with_reducible refine Post.mono k16 ?_
  clear k16
  rintro _ u14 g15 ⟨r12, rfl, h13⟩
  refine sy_call 12 129 [a1.v, a2.v] ?_
  intro w17 u17 e17 d17
  have k22 := k_rqMax d17 (ha1.ext (e11.trans (g15.ext.trans e17))) (ha2.ext (e11.trans (g15.ext.trans e17))) (by omega) (by omega)
  with_reducible refine Post.mono k22 ?_
  clear k22
  rintro _ u20 g21 ⟨r18, rfl, h19⟩
  refine sy_pure 13 (.v (.agg #[.bool r12.s, .slice r12.m.a r12.m.n r12.m.c, .slice r12.d.a r12.d.n r12.d.c, .bool r18.s, .slice r18.m.a r18.m.n r18.m.c, .slice r18.d.a r18.d.n r18.d.c])) ?_
  refine sy_store ⟨28, r12.cs ++ r18.cs⟩ ty28 ?_
  refine sy_next 14 [(2, .adr 2 0)] [(2, ⟨28, r12.cs ++ r18.cs⟩)] ?_
  refine sw_ret (ret0 [.agg #[.bool r12.s, .slice r12.m.a r12.m.n r12.m.c, .slice r12.d.a r12.d.n r12.d.c, .bool r18.s, .slice r18.m.a r18.m.n r18.m.c, .slice r18.d.a r18.d.n r18.d.c]] ⟨res_cell ty28 part_agg, trivial⟩ fun u23 e24 => ?_)
  refine ⟨r12, r18, rfl, RatN.more (K := (max K K)) ?_ (by omega), RatN.more (K := (max K K)) ?_ (by omega)⟩
  · exact (h13.ext (e17.trans (g21.ext.trans e24)))
  · exact (h19.ext e24)
theorem k_r4Same {u w : World} {a1 a2 : RL} {x1 x2 : Rat} {b1 b2 : RL} {y1 y2 : Rat} {K L : Nat} (d : Dat u w) (ha1 : RatN u a1 x1 K) (ha2 : RatN u a2 x2 K) (hb1 : RatN u b1 y1 L) (hb2 : RatN u b2 y2 L) : Calls Tryz.prog 59 #[IV a1 a2, IV b1 b2] w (Post u w fun v u' => v = .bool (decide (x1 = y1) && decide (x2 = y2))) := by
  refine calls_sym (args := [.agg #[.bool a1.s, .slice a1.m.a a1.m.n a1.m.c, .slice a1.d.a a1.d.n a1.d.c, .bool a2.s, .slice a2.m.a a2.m.n a2.m.c, .slice a2.d.a a2.d.n a2.d.c], .agg #[.bool b1.s, .slice b1.m.a b1.m.n b1.m.c, .slice b1.d.a b1.d.n b1.d.c, .bool b2.s, .slice b2.m.a b2.m.n b2.m.c, .slice b2.d.a b2.d.n b2.d.c]]) Tryz.func59 rfl Tryz.ntmps59 (rs := [.tmp 4]) Tryz.results59 (le_b rfl) (le_b rfl) d ?_
  refine sw_seq ?_
  refine sw_reg ?_
  refine sy_new 2 ⟨28, a1.cs ++ a2.cs⟩ ?_
  refine sy_new 3 ⟨28, b1.cs ++ b2.cs⟩ ?_
  refine sy_pure 4 (.v (.bool false)) ?_
  refine sy_next 17 [(2, .adr 2 0), (3, .adr 3 0)] [(2, ⟨28, a1.cs ++ a2.cs⟩), (3, ⟨28, b1.cs ++ b2.cs⟩)] ?_
  refine sw_seq ?_
  refine sw_reg ?_
  refine sy_pure 5 (.adr 2 0) ?_
  refine sy_ldv 6 (.v (a1.v)) ty26 part_agg ?_
  refine sy_pure 7 (.adr 3 0) ?_
  refine sy_ldv 8 (.v (b1.v)) ty26 part_agg ?_
  refine sy_call 9 71 [a1.v, b1.v] ?_
  intro w11 u11 e11 d11
  have k14 := k_rqSame d11 (ha1.ext e11) (hb1.ext e11)
  with_reducible refine Post.mono k14 ?_
  clear k14
  rintro _ u12 g13 rfl
  rcases Bool.eq_false_or_eq_true (decide (x1 = y1)) with hs15 | hs15
  · refine sy_eq 10 (x := .v (.bool (decide (x1 = y1)))) (.v (.bool true)) (by rw [hs15]) ?_
    have qhs15 := of_decide_eq_true hs15
    refine sy_pure 11 (.adr 2 3) ?_ (hw := wants1 (g := 5) (b := true) (t := 10) (by kernel_rfl) (by kernel_rfl) (by kernel_rfl))
    refine sy_ldv 12 (.v (a2.v)) ty26 part_agg ?_ (hw := wants1 (g := 5) (b := true) (t := 10) (by kernel_rfl) (by kernel_rfl) (by kernel_rfl))
    refine sy_pure 13 (.adr 3 3) ?_ (hw := wants1 (g := 5) (b := true) (t := 10) (by kernel_rfl) (by kernel_rfl) (by kernel_rfl))
    refine sy_ldv 14 (.v (b2.v)) ty26 part_agg ?_ (hw := wants1 (g := 5) (b := true) (t := 10) (by kernel_rfl) (by kernel_rfl) (by kernel_rfl))
    refine sy_call 15 71 [a2.v, b2.v] ?_ (hw := wants1 (g := 5) (b := true) (t := 10) (by kernel_rfl) (by kernel_rfl) (by kernel_rfl))
    intro w16 u16 e16 d16
    have k19 := k_rqSame d16 (ha2.ext (e11.trans (g13.ext.trans e16))) (hb2.ext (e11.trans (g13.ext.trans e16)))
    with_reducible refine Post.mono k19 ?_
    clear k19
    rintro _ u17 g18 rfl
    refine sy_pure 16 (.v (.bool (decide (x2 = y2)))) ?_
    refine sy_pure 4 (.v (.bool (decide (x2 = y2)))) ?_
    refine sy_next 17 [(4, .v (.bool (decide (x2 = y2))))] [] ?_
    refine sw_ret (ret0 [.bool (decide (x2 = y2))] ⟨res_tmp, trivial⟩ fun u20 e21 => ?_)
    show _ = _
    rw [hs15]
    rfl
  · refine sy_eq 10 (x := .v (.bool (decide (x1 = y1)))) (.v (.bool false)) (by rw [hs15]) ?_
    have qhs15 := of_decide_eq_false hs15
    refine sy_drop 11 (unwanted (g := 5) (b := true) (c := false) (t := 10) (by kernel_rfl) (by kernel_rfl) (by kernel_rfl) (by kernel_rfl)) ?_
    refine sy_drop 12 (unwanted (g := 5) (b := true) (c := false) (t := 10) (by kernel_rfl) (by kernel_rfl) (by kernel_rfl) (by kernel_rfl)) ?_
    refine sy_drop 13 (unwanted (g := 5) (b := true) (c := false) (t := 10) (by kernel_rfl) (by kernel_rfl) (by kernel_rfl) (by kernel_rfl)) ?_
    refine sy_drop 14 (unwanted (g := 5) (b := true) (c := false) (t := 10) (by kernel_rfl) (by kernel_rfl) (by kernel_rfl) (by kernel_rfl)) ?_
    refine sy_drop 15 (unwanted (g := 5) (b := true) (c := false) (t := 10) (by kernel_rfl) (by kernel_rfl) (by kernel_rfl) (by kernel_rfl)) ?_
    refine sy_pure 16 (.v (.bool false)) ?_
    refine sy_pure 4 (.v (.bool false)) ?_
    refine sy_next 17 [(4, .v (.bool false))] [] ?_
    refine sw_ret (ret0 [.bool false] ⟨res_tmp, trivial⟩ fun u22 e23 => ?_)
    show _ = _
    rw [hs15]
    rfl
theorem k_r4Make {u w : World} {a : RL} {x : Rat} {b : RL} {y : Rat} {K : Nat} (d : Dat u w) (ha : RatV u a x K) (hb : RatV u b y K) (hK : K ≤ 100000000) : Calls Tryz.prog 46 #[a.v, b.v] w (Post u w fun v u' => ∃ p q : RL, v = IV p q ∧ RatN u' p (Nt.lo x y) K ∧ RatN u' q (Nt.hi x y) K) := by
  refine calls_sym (args := [a.v, b.v]) Tryz.func46 rfl Tryz.ntmps46 (rs := [.cell 4 28]) Tryz.results46 (le_b rfl) (le_b rfl) d ?_
  refine sw_seq ?_
  refine sw_reg ?_
  refine sy_new 2 ⟨26, a.cs⟩ ?_
  refine sy_new 3 ⟨26, b.cs⟩ ?_
  refine sy_new 4 ⟨28, [.bool false, .slice none 0 0, .slice none 0 0, .bool false, .slice none 0 0, .slice none 0 0]⟩ ?_
  refine sy_next 9 [(2, .adr 2 0), (3, .adr 3 0), (4, .adr 4 0)] [(2, ⟨26, a.cs⟩), (3, ⟨26, b.cs⟩), (4, ⟨28, [.bool false, .slice none 0 0, .slice none 0 0, .bool false, .slice none 0 0, .slice none 0 0]⟩)] ?_
  refine sw_seq ?_
  refine sw_reg ?_
  refine sy_ldv 5 (.v (a.v)) ty26 part_agg ?_
  refine sy_ldv 6 (.v (b.v)) ty26 part_agg ?_
  refine sy_pure 7 (.v (.agg #[.bool a.s, .slice a.m.a a.m.n a.m.c, .slice a.d.a a.d.n a.d.c, .bool b.s, .slice b.m.a b.m.n b.m.c, .slice b.d.a b.d.n b.d.c])) ?_
  refine sy_call 8 69 [.agg #[.bool a.s, .slice a.m.a a.m.n a.m.c, .slice a.d.a a.d.n a.d.c, .bool b.s, .slice b.m.a b.m.n b.m.c, .slice b.d.a b.d.n b.d.c]] ?_
  intro w11 u11 e11 d11
  have k18 := k_r4Trim d11 (ha.ext e11) (hb.ext e11) (by omega)
  with_reducible refine Post.mono k18 ?_
  clear k18
  rintro _ u16 g17 ⟨r12, r14, rfl, h13, h15⟩
  refine sy_store ⟨28, r12.cs ++ r14.cs⟩ ty28 ?_
  refine sy_next 9 [(4, .adr 4 0)] [(4, ⟨28, r12.cs ++ r14.cs⟩)] ?_
  refine sw_ret (ret0 [.agg #[.bool r12.s, .slice r12.m.a r12.m.n r12.m.c, .slice r12.d.a r12.d.n r12.d.c, .bool r14.s, .slice r14.m.a r14.m.n r14.m.c, .slice r14.d.a r14.d.n r14.d.c]] ⟨res_cell ty28 part_agg, trivial⟩ fun u19 e20 => ?_)
  refine ⟨r12, r14, rfl, RatN.more (K := K) ?_ (by omega), RatN.more (K := K) ?_ (by omega)⟩
  · exact (h13.ext e20)
  · exact (h15.ext e20)
theorem k_r4Width {u w : World} {a1 a2 : RL} {x1 x2 : Rat} {K : Nat} (d : Dat u w) (ha1 : RatV u a1 x1 K) (ha2 : RatV u a2 x2 K) (hK : K ≤ 50000000) : Calls Tryz.prog 48 #[IV a1 a2] w (Post u w fun v u' => ∃ p : RL, v = p.v ∧ RatN u' p (Nt.hi x1 x2 - Nt.lo x1 x2) (K + K + 2)) := by
  refine calls_sym (args := [.agg #[.bool a1.s, .slice a1.m.a a1.m.n a1.m.c, .slice a1.d.a a1.d.n a1.d.c, .bool a2.s, .slice a2.m.a a2.m.n a2.m.c, .slice a2.d.a a2.d.n a2.d.c]]) Tryz.func48 rfl Tryz.ntmps48 (rs := [.cell 2 26]) Tryz.results48 (le_b rfl) (le_b rfl) d ?_
  refine sw_seq ?_
  refine sw_reg ?_
  refine sy_new 1 ⟨28, a1.cs ++ a2.cs⟩ ?_
  refine sy_new 2 ⟨26, [.bool false, .slice none 0 0, .slice none 0 0]⟩ ?_
  refine sy_next 10 [(1, .adr 1 0), (2, .adr 2 0)] [(1, ⟨28, a1.cs ++ a2.cs⟩), (2, ⟨26, [.bool false, .slice none 0 0, .slice none 0 0]⟩)] ?_
  refine sw_seq ?_
  refine sw_reg ?_
  refine sy_ldv 3 (.v (.agg #[.bool a1.s, .slice a1.m.a a1.m.n a1.m.c, .slice a1.d.a a1.d.n a1.d.c, .bool a2.s, .slice a2.m.a a2.m.n a2.m.c, .slice a2.d.a a2.d.n a2.d.c])) ty28 part_agg ?_
  refine sy_call 4 69 [.agg #[.bool a1.s, .slice a1.m.a a1.m.n a1.m.c, .slice a1.d.a a1.d.n a1.d.c, .bool a2.s, .slice a2.m.a a2.m.n a2.m.c, .slice a2.d.a a2.d.n a2.d.c]] ?_
  intro w11 u11 e11 d11
  have k18 := k_r4Trim d11 (ha1.ext e11) (ha2.ext e11) (by omega)
  with_reducible refine Post.mono k18 ?_
  clear k18
  rintro _ u16 g17 ⟨r12, r14, rfl, h13, h15⟩
  refine sy_store ⟨28, r12.cs ++ r14.cs⟩ ty28 ?_
  refine sy_next 10 [(1, .adr 1 0), (2, .adr 2 0)] [(1, ⟨28, r12.cs ++ r14.cs⟩), (2, ⟨26, [.bool false, .slice none 0 0, .slice none 0 0]⟩)] ?_
  refine sw_seq ?_
  refine sw_reg ?_
  refine sy_pure 5 (.adr 1 3) ?_
  refine sy_ldv 6 (.v (r14.v)) ty26 part_agg ?_
  refine sy_pure 7 (.adr 1 0) ?_
  refine sy_ldv 8 (.v (r12.v)) ty26 part_agg ?_
  refine sy_call 9 20 [r14.v, r12.v] ?_
  intro w19 u19 e19 d19
  have k24 := k_rqSub d19 (h15.ext e19).raw (h13.ext e19).raw (by omega) (by omega)
  with_reducible refine Post.mono k24 ?_
  clear k24
  rintro _ u22 g23 ⟨r20, rfl, h21⟩
  refine sy_store ⟨26, r20.cs⟩ ty26 ?_
  refine sy_next 10 [(2, .adr 2 0)] [(2, ⟨26, r20.cs⟩)] ?_
  refine sw_ret (ret0 [r20.v] ⟨res_cell ty26 part_agg, trivial⟩ fun u25 e26 => ?_)
  exact ⟨r20, rfl, (h21.ext e26)⟩
theorem k_r4Contains {u w : World} {a1 a2 : RL} {x1 x2 : Rat} {b : RL} {y : Rat} {K L : Nat} (d : Dat u w) (ha1 : RatV u a1 x1 K) (ha2 : RatV u a2 x2 K) (hb : RatV u b y L) (hK : K ≤ 100000000) (hL : L ≤ 100000000) : Calls Tryz.prog 15 #[IV a1 a2, b.v] w (Post u w fun v u' => v = .bool (Nt.inI x1 x2 y)) := by
  refine calls_sym (args := [.agg #[.bool a1.s, .slice a1.m.a a1.m.n a1.m.c, .slice a1.d.a a1.d.n a1.d.c, .bool a2.s, .slice a2.m.a a2.m.n a2.m.c, .slice a2.d.a a2.d.n a2.d.c], b.v]) Tryz.func15 rfl Tryz.ntmps15 (rs := [.tmp 4]) Tryz.results15 (le_b rfl) (le_b rfl) d ?_
  refine sw_seq ?_
  refine sw_reg ?_
  refine sy_new 2 ⟨28, a1.cs ++ a2.cs⟩ ?_
  refine sy_new 3 ⟨26, b.cs⟩ ?_
  refine sy_pure 4 (.v (.bool false)) ?_
  refine sy_next 19 [(2, .adr 2 0), (3, .adr 3 0)] [(2, ⟨28, a1.cs ++ a2.cs⟩), (3, ⟨26, b.cs⟩)] ?_
  refine sw_seq ?_
  refine sw_reg ?_
  refine sy_ldv 5 (.v (.agg #[.bool a1.s, .slice a1.m.a a1.m.n a1.m.c, .slice a1.d.a a1.d.n a1.d.c, .bool a2.s, .slice a2.m.a a2.m.n a2.m.c, .slice a2.d.a a2.d.n a2.d.c])) ty28 part_agg ?_
  refine sy_call 6 69 [.agg #[.bool a1.s, .slice a1.m.a a1.m.n a1.m.c, .slice a1.d.a a1.d.n a1.d.c, .bool a2.s, .slice a2.m.a a2.m.n a2.m.c, .slice a2.d.a a2.d.n a2.d.c]] ?_
  intro w11 u11 e11 d11
  have k18 := k_r4Trim d11 (ha1.ext e11) (ha2.ext e11) (by omega)
  with_reducible refine Post.mono k18 ?_
  clear k18
  rintro _ u16 g17 ⟨r12, r14, rfl, h13, h15⟩
  refine sy_store ⟨28, r12.cs ++ r14.cs⟩ ty28 ?_
  refine sy_next 19 [(2, .adr 2 0), (3, .adr 3 0)] [(2, ⟨28, r12.cs ++ r14.cs⟩), (3, ⟨26, b.cs⟩)] ?_
  refine sw_seq ?_
  refine sw_reg ?_
  refine sy_ldv 7 (.v (b.v)) ty26 part_agg ?_
  refine sy_pure 8 (.adr 2 0) ?_
  refine sy_ldv 9 (.v (r12.v)) ty26 part_agg ?_
  refine sy_call 10 101 [b.v, r12.v] ?_
  intro w19 u19 e19 d19
  have k22 := k_rqLess d19 (hb.ext (e11.trans (g17.ext.trans e19))) (h13.ext e19).raw (by omega) (by omega)
  with_reducible refine Post.mono k22 ?_
  clear k22
  rintro _ u20 g21 rfl
  refine sy_pure 11 (.v (.bool (!(decide (y < (Nt.lo x1 x2)))))) ?_
  rcases Bool.eq_false_or_eq_true (!(decide (y < (Nt.lo x1 x2)))) with hs23 | hs23
  · refine sy_eq 12 (x := .v (.bool (!(decide (y < (Nt.lo x1 x2)))))) (.v (.bool true)) (by rw [hs23]) ?_
    refine sy_pure 13 (.adr 2 3) ?_ (hw := wants1 (g := 5) (b := true) (t := 12) (by kernel_rfl) (by kernel_rfl) (by kernel_rfl))
    refine sy_ldv 14 (.v (r14.v)) ty26 part_agg ?_ (hw := wants1 (g := 5) (b := true) (t := 12) (by kernel_rfl) (by kernel_rfl) (by kernel_rfl))
    refine sy_ldv 15 (.v (b.v)) ty26 part_agg ?_ (hw := wants1 (g := 5) (b := true) (t := 12) (by kernel_rfl) (by kernel_rfl) (by kernel_rfl))
    refine sy_call 16 101 [r14.v, b.v] ?_ (hw := wants1 (g := 5) (b := true) (t := 12) (by kernel_rfl) (by kernel_rfl) (by kernel_rfl))
    intro w24 u24 e24 d24
    have k27 := k_rqLess d24 (h15.ext (e19.trans (g21.ext.trans e24))).raw (hb.ext (e11.trans (g17.ext.trans (e19.trans (g21.ext.trans e24))))) (by omega) (by omega)
    with_reducible refine Post.mono k27 ?_
    clear k27
    rintro _ u25 g26 rfl
    refine sy_pure 17 (.v (.bool (!(decide ((Nt.hi x1 x2) < y))))) ?_ (hw := wants1 (g := 5) (b := true) (t := 12) (by kernel_rfl) (by kernel_rfl) (by kernel_rfl))
    refine sy_pure 18 (.v (.bool (!(decide ((Nt.hi x1 x2) < y))))) ?_
    refine sy_pure 4 (.v (.bool (!(decide ((Nt.hi x1 x2) < y))))) ?_
    refine sy_next 19 [(4, .v (.bool (!(decide ((Nt.hi x1 x2) < y)))))] [] ?_
    refine sw_ret (ret0 [.bool (!(decide ((Nt.hi x1 x2) < y)))] ⟨res_tmp, trivial⟩ fun u28 e29 => ?_)
    show _ = _
    rw [Nt.inI_less, hs23]
    rfl
  · refine sy_eq 12 (x := .v (.bool (!(decide (y < (Nt.lo x1 x2)))))) (.v (.bool false)) (by rw [hs23]) ?_
    refine sy_drop 13 (unwanted (g := 5) (b := true) (c := false) (t := 12) (by kernel_rfl) (by kernel_rfl) (by kernel_rfl) (by kernel_rfl)) ?_
    refine sy_drop 14 (unwanted (g := 5) (b := true) (c := false) (t := 12) (by kernel_rfl) (by kernel_rfl) (by kernel_rfl) (by kernel_rfl)) ?_
    refine sy_drop 15 (unwanted (g := 5) (b := true) (c := false) (t := 12) (by kernel_rfl) (by kernel_rfl) (by kernel_rfl) (by kernel_rfl)) ?_
    refine sy_drop 16 (unwanted (g := 5) (b := true) (c := false) (t := 12) (by kernel_rfl) (by kernel_rfl) (by kernel_rfl) (by kernel_rfl)) ?_
    refine sy_drop 17 (unwanted (g := 5) (b := true) (c := false) (t := 12) (by kernel_rfl) (by kernel_rfl) (by kernel_rfl) (by kernel_rfl)) ?_
    refine sy_pure 18 (.v (.bool false)) ?_
    refine sy_pure 4 (.v (.bool false)) ?_
    refine sy_next 19 [(4, .v (.bool false))] [] ?_
    refine sw_ret (ret0 [.bool false] ⟨res_tmp, trivial⟩ fun u30 e31 => ?_)
    show _ = _
    rw [Nt.inI_less, hs23]
    rfl
/-- Few digits. -/
def smR (r : RL) : Bool := decide ((r.m.n : Int) ≤ 4) && decide ((r.d.n : Int) ≤ 4)
theorem smR_few {u : World} {r : RL} {q : Rat} {K : Nat} (h : RatV u r q K) (hs : smR r = true) : RatV u r q 4 := by
  unfold smR at hs
  simp at hs
  exact h.few (by omega) (by omega) (by omega)
theorem k_smallRat {u w : World} {r : RL} (d : Dat u w) : Calls Tryz.prog 55 #[r.v] w (Post u w fun v _ => v = .bool (smR r)) := by
  refine calls_sym (args := [r.v]) Tryz.func55 rfl Tryz.ntmps55 (rs := [.tmp 2]) Tryz.results55 (le_b rfl) (le_b rfl) d ?_
  refine sw_seq ?_
  refine sw_reg ?_
  refine sy_new 1 ⟨26, r.cs⟩ ?_
  refine sy_pure 2 (.v (.bool false)) ?_
  refine sy_next 14 [(1, .adr 1 0)] [(1, ⟨26, r.cs⟩)] ?_
  refine sw_seq ?_
  refine sw_reg ?_
  refine sy_pure 3 (.adr 1 0) ?_
  refine sy_pure 4 (.adr 1 1) ?_
  refine sy_ldv 5 (.v (.slice r.m.a r.m.n r.m.c)) ty22 part_one ?_
  refine sy_pure 6 (.v (.int .i64 (r.m.n : Int))) ?_
  refine sy_pure 7 (.v (.bool (decide ((r.m.n : Int) ≤ 4)))) ?_
  rcases Bool.eq_false_or_eq_true (decide ((r.m.n : Int) ≤ 4)) with hs11 | hs11
  · refine sy_eq 8 (x := .v (.bool (decide ((r.m.n : Int) ≤ 4)))) (.v (.bool true)) (by rw [hs11]) ?_
    have qhs11 := of_decide_eq_true hs11
    refine sy_pure 9 (.adr 1 2) ?_ (hw := wants1 (g := 5) (b := true) (t := 8) (by kernel_rfl) (by kernel_rfl) (by kernel_rfl))
    refine sy_ldv 10 (.v (.slice r.d.a r.d.n r.d.c)) ty22 part_one ?_ (hw := wants1 (g := 5) (b := true) (t := 8) (by kernel_rfl) (by kernel_rfl) (by kernel_rfl))
    refine sy_pure 11 (.v (.int .i64 (r.d.n : Int))) ?_ (hw := wants1 (g := 5) (b := true) (t := 8) (by kernel_rfl) (by kernel_rfl) (by kernel_rfl))
    refine sy_pure 12 (.v (.bool (decide ((r.d.n : Int) ≤ 4)))) ?_ (hw := wants1 (g := 5) (b := true) (t := 8) (by kernel_rfl) (by kernel_rfl) (by kernel_rfl))
    refine sy_pure 13 (.v (.bool (decide ((r.d.n : Int) ≤ 4)))) ?_
    refine sy_pure 2 (.v (.bool (decide ((r.d.n : Int) ≤ 4)))) ?_
    refine sy_next 14 [(2, .v (.bool (decide ((r.d.n : Int) ≤ 4))))] [] ?_
    refine sw_ret (ret0 [.bool (decide ((r.d.n : Int) ≤ 4))] ⟨res_tmp, trivial⟩ fun u12 e13 => ?_)
    show _ = _
    unfold smR
    rw [hs11]
    rfl
  · refine sy_eq 8 (x := .v (.bool (decide ((r.m.n : Int) ≤ 4)))) (.v (.bool false)) (by rw [hs11]) ?_
    have qhs11 := of_decide_eq_false hs11
    refine sy_drop 9 (unwanted (g := 5) (b := true) (c := false) (t := 8) (by kernel_rfl) (by kernel_rfl) (by kernel_rfl) (by kernel_rfl)) ?_
    refine sy_drop 10 (unwanted (g := 5) (b := true) (c := false) (t := 8) (by kernel_rfl) (by kernel_rfl) (by kernel_rfl) (by kernel_rfl)) ?_
    refine sy_drop 11 (unwanted (g := 5) (b := true) (c := false) (t := 8) (by kernel_rfl) (by kernel_rfl) (by kernel_rfl) (by kernel_rfl)) ?_
    refine sy_drop 12 (unwanted (g := 5) (b := true) (c := false) (t := 8) (by kernel_rfl) (by kernel_rfl) (by kernel_rfl) (by kernel_rfl)) ?_
    refine sy_pure 13 (.v (.bool false)) ?_
    refine sy_pure 2 (.v (.bool false)) ?_
    refine sy_next 14 [(2, .v (.bool false))] [] ?_
    refine sw_ret (ret0 [.bool false] ⟨res_tmp, trivial⟩ fun u14 e15 => ?_)
    show _ = _
    unfold smR
    rw [hs11]
    rfl
theorem k_smallOn {u w : World} {a b : RL} (d : Dat u w) : Calls Tryz.prog 11 #[IV a b] w (Post u w fun v _ => v = .bool (smR a && smR b)) := by
  refine calls_sym (args := [.agg #[.bool a.s, .slice a.m.a a.m.n a.m.c, .slice a.d.a a.d.n a.d.c, .bool b.s, .slice b.m.a b.m.n b.m.c, .slice b.d.a b.d.n b.d.c]]) Tryz.func11 rfl Tryz.ntmps11 (rs := [.tmp 2]) Tryz.results11 (le_b rfl) (le_b rfl) d ?_
  refine sw_seq ?_
  refine sw_reg ?_
  refine sy_new 1 ⟨28, a.cs ++ b.cs⟩ ?_
  refine sy_pure 2 (.v (.bool false)) ?_
  refine sy_next 11 [(1, .adr 1 0)] [(1, ⟨28, a.cs ++ b.cs⟩)] ?_
  refine sw_seq ?_
  refine sw_reg ?_
  refine sy_pure 3 (.adr 1 0) ?_
  refine sy_ldv 4 (.v (a.v)) ty26 part_agg ?_
  refine sy_call 5 55 [a.v] ?_
  intro w11 u11 e11 d11
  have k14 := k_smallRat (r := a) d11
  with_reducible refine Post.mono k14 ?_
  clear k14
  rintro _ u12 g13 rfl
  rcases Bool.eq_false_or_eq_true (smR a) with hs15 | hs15
  · refine sy_eq 6 (x := .v (.bool (smR a))) (.v (.bool true)) (by rw [hs15]) ?_
    refine sy_pure 7 (.adr 1 3) ?_ (hw := wants1 (g := 3) (b := true) (t := 6) (by kernel_rfl) (by kernel_rfl) (by kernel_rfl))
    refine sy_ldv 8 (.v (b.v)) ty26 part_agg ?_ (hw := wants1 (g := 3) (b := true) (t := 6) (by kernel_rfl) (by kernel_rfl) (by kernel_rfl))
    refine sy_call 9 55 [b.v] ?_ (hw := wants1 (g := 3) (b := true) (t := 6) (by kernel_rfl) (by kernel_rfl) (by kernel_rfl))
    intro w16 u16 e16 d16
    have k19 := k_smallRat (r := b) d16
    with_reducible refine Post.mono k19 ?_
    clear k19
    rintro _ u17 g18 rfl
    refine sy_pure 10 (.v (.bool (smR b))) ?_
    refine sy_pure 2 (.v (.bool (smR b))) ?_
    refine sy_next 11 [(2, .v (.bool (smR b)))] [] ?_
    refine sw_ret (ret0 [.bool (smR b)] ⟨res_tmp, trivial⟩ fun u20 e21 => ?_)
    show _ = _
    rw [hs15]
    rfl
  · refine sy_eq 6 (x := .v (.bool (smR a))) (.v (.bool false)) (by rw [hs15]) ?_
    refine sy_drop 7 (unwanted (g := 3) (b := true) (c := false) (t := 6) (by kernel_rfl) (by kernel_rfl) (by kernel_rfl) (by kernel_rfl)) ?_
    refine sy_drop 8 (unwanted (g := 3) (b := true) (c := false) (t := 6) (by kernel_rfl) (by kernel_rfl) (by kernel_rfl) (by kernel_rfl)) ?_
    refine sy_drop 9 (unwanted (g := 3) (b := true) (c := false) (t := 6) (by kernel_rfl) (by kernel_rfl) (by kernel_rfl) (by kernel_rfl)) ?_
    refine sy_pure 10 (.v (.bool false)) ?_
    refine sy_pure 2 (.v (.bool false)) ?_
    refine sy_next 11 [(2, .v (.bool false))] [] ?_
    refine sw_ret (ret0 [.bool false] ⟨res_tmp, trivial⟩ fun u22 e23 => ?_)
    show _ = _
    rw [hs15]
    rfl
theorem k_ivDiv0 {u w : World} {a1 a2 b1 b2 : RL} {x1 x2 y1 y2 : Rat} {K L : Nat} (d : Dat u w) (ha1 : RatV u a1 x1 K) (ha2 : RatV u a2 x2 K) (hb1 : RatV u b1 y1 L) (hb2 : RatV u b2 y2 L) (h0 : Nt.sgI y1 y2 = 0) (hK : K ≤ 100000000) (hL : L ≤ 100000000) : Calls Tryz.prog 14 #[IV a1 a2, IV b1 b2] w (Post u w fun v _ => v = .tuple #[.agg #[.bool false, .slice none 0 0, .slice none 0 0, .bool false, .slice none 0 0, .slice none 0 0], .int .i64 3]) :=
  Post.mono (k_ivDiv d ha1 ha2 hb1 hb2 hK hL) fun v u' _ h => h.elim (fun h => h.2) (fun h => absurd h0 h.1)
set_option maxHeartbeats 1000000 in
theorem k_awake4 {u w : World} (d : Dat u w) : Calls Tryz.prog 12 #[] w (Post u w fun v _ => v = .bool true) := by
  refine calls_sym (args := []) Tryz.func12 rfl Tryz.ntmps12 (rs := [.tmp 0]) Tryz.results12 (le_b rfl) (le_b rfl) d ?_
  refine sw_seq ?_
  refine sw_reg ?_
  refine sy_pure 0 (.v (.bool false)) ?_
  refine sy_next 40 [] [] ?_
  refine sw_seq ?_
  refine sw_reg ?_
  refine sy_call 5 41 [.int .i64 (-1)] ?_
  intro w11 u11 e11 d11
  have k16 := k_rqOf d11 (z := (-1)) (by omega) (by omega)
  with_reducible refine Post.mono k16 ?_
  clear k16
  rintro _ u14 g15 ⟨r12, rfl, h13⟩
  refine sy_call 6 41 [.int .i64 2] ?_
  intro w17 u17 e17 d17
  have k22 := k_rqOf d17 (z := 2) (by omega) (by omega)
  with_reducible refine Post.mono k22 ?_
  clear k22
  rintro _ u20 g21 ⟨r18, rfl, h19⟩
  refine sy_call 7 46 [r12.v, r18.v] ?_
  intro w23 u23 e23 d23
  have k30 := k_r4Make d23 (h13.ext (e17.trans (g21.ext.trans e23))).raw (h19.ext e23).raw (by omega)
  with_reducible refine Post.mono k30 ?_
  clear k30
  rintro _ u28 g29 ⟨r24, r26, rfl, h25, h27⟩
  refine sy_call 8 41 [.int .i64 3] ?_
  intro w31 u31 e31 d31
  have k36 := k_rqOf d31 (z := 3) (by omega) (by omega)
  with_reducible refine Post.mono k36 ?_
  clear k36
  rintro _ u34 g35 ⟨r32, rfl, h33⟩
  refine sy_call 9 41 [.int .i64 4] ?_
  intro w37 u37 e37 d37
  have k42 := k_rqOf d37 (z := 4) (by omega) (by omega)
  with_reducible refine Post.mono k42 ?_
  clear k42
  rintro _ u40 g41 ⟨r38, rfl, h39⟩
  refine sy_call 10 46 [r32.v, r38.v] ?_
  intro w43 u43 e43 d43
  have k50 := k_r4Make d43 (h33.ext (e37.trans (g41.ext.trans e43))).raw (h39.ext e43).raw (by omega)
  with_reducible refine Post.mono k50 ?_
  clear k50
  rintro _ u48 g49 ⟨r44, r46, rfl, h45, h47⟩
  refine sy_call 11 21 [.agg #[.bool r24.s, .slice r24.m.a r24.m.n r24.m.c, .slice r24.d.a r24.d.n r24.d.c, .bool r26.s, .slice r26.m.a r26.m.n r26.m.c, .slice r26.d.a r26.d.n r26.d.c], .agg #[.bool r44.s, .slice r44.m.a r44.m.n r44.m.c, .slice r44.d.a r44.d.n r44.d.c, .bool r46.s, .slice r46.m.a r46.m.n r46.m.c, .slice r46.d.a r46.d.n r46.d.c]] ?_
  intro w51 u51 e51 d51
  have k58 := k_ivMul d51 (h25.ext (e31.trans (g35.ext.trans (e37.trans (g41.ext.trans (e43.trans (g49.ext.trans e51))))))).raw (h27.ext (e31.trans (g35.ext.trans (e37.trans (g41.ext.trans (e43.trans (g49.ext.trans e51))))))).raw (h45.ext e51).raw (h47.ext e51).raw (by omega) (by omega)
  with_reducible refine Post.mono k58 ?_
  clear k58
  rintro _ u56 g57 ⟨r52, r54, rfl, h53, h55⟩
  refine sy_new 1 ⟨28, [.bool false, .slice none 0 0, .slice none 0 0, .bool false, .slice none 0 0, .slice none 0 0]⟩ ?_
  refine sy_store ⟨28, r52.cs ++ r54.cs⟩ ty28 ?_
  refine sy_next 40 [(1, .adr 1 0)] [(1, ⟨28, r52.cs ++ r54.cs⟩)] ?_
  refine sw_seq ?_
  refine sw_reg ?_
  refine sy_call 12 41 [.int .i64 (-1)] ?_
  intro w59 u59 e59 d59
  have k64 := k_rqOf d59 (z := (-1)) (by omega) (by omega)
  with_reducible refine Post.mono k64 ?_
  clear k64
  rintro _ u62 g63 ⟨r60, rfl, h61⟩
  refine sy_call 13 41 [.int .i64 2] ?_
  intro w65 u65 e65 d65
  have k70 := k_rqOf d65 (z := 2) (by omega) (by omega)
  with_reducible refine Post.mono k70 ?_
  clear k70
  rintro _ u68 g69 ⟨r66, rfl, h67⟩
  refine sy_call 14 46 [r60.v, r66.v] ?_
  intro w71 u71 e71 d71
  have k78 := k_r4Make d71 (h61.ext (e65.trans (g69.ext.trans e71))).raw (h67.ext e71).raw (by omega)
  with_reducible refine Post.mono k78 ?_
  clear k78
  rintro _ u76 g77 ⟨r72, r74, rfl, h73, h75⟩
  refine sy_call 15 23 [.agg #[.bool r72.s, .slice r72.m.a r72.m.n r72.m.c, .slice r72.d.a r72.d.n r72.d.c, .bool r74.s, .slice r74.m.a r74.m.n r74.m.c, .slice r74.d.a r74.d.n r74.d.c]] ?_
  intro w79 u79 e79 d79
  have k86 := k_ivSquare d79 (h73.ext e79).raw (h75.ext e79).raw (by omega)
  with_reducible refine Post.mono k86 ?_
  clear k86
  rintro _ u84 g85 ⟨r80, r82, rfl, h81, h83⟩
  refine sy_new 2 ⟨28, [.bool false, .slice none 0 0, .slice none 0 0, .bool false, .slice none 0 0, .slice none 0 0]⟩ ?_
  refine sy_store ⟨28, r80.cs ++ r82.cs⟩ ty28 ?_
  refine sy_next 40 [(1, .adr 1 0), (2, .adr 2 0)] [(1, ⟨28, r52.cs ++ r54.cs⟩), (2, ⟨28, r80.cs ++ r82.cs⟩)] ?_
  refine sw_seq ?_
  refine sw_any [0, 0, 2, 6, 15, 31, 63, 63, 0, 383, 1023] [(0, []), (8, []), (1, []), (2, []), (3, []), (4, []), (5, []), (6, []), (7, []), (9, []), (10, [])] (by kernel_rfl) (by kernel_rfl) ?_
  refine sy_ldv 17 (.v (.agg #[.bool r52.s, .slice r52.m.a r52.m.n r52.m.c, .slice r52.d.a r52.d.n r52.d.c, .bool r54.s, .slice r54.m.a r54.m.n r54.m.c, .slice r54.d.a r54.d.n r54.d.c])) ty28 part_agg ?_
  refine sy_new 3 ⟨28, [.bool false, .slice none 0 0, .slice none 0 0, .bool false, .slice none 0 0, .slice none 0 0]⟩ ?_
  refine sy_call 18 41 [.int .i64 (-1)] ?_
  intro w87 u87 e87 d87
  have k92 := k_rqOf d87 (z := (-1)) (by omega) (by omega)
  with_reducible refine Post.mono k92 ?_
  clear k92
  rintro _ u90 g91 ⟨r88, rfl, h89⟩
  refine sy_call 19 41 [.int .i64 1] ?_
  intro w93 u93 e93 d93
  have k98 := k_rqOf d93 (z := 1) (by omega) (by omega)
  with_reducible refine Post.mono k98 ?_
  clear k98
  rintro _ u96 g97 ⟨r94, rfl, h95⟩
  refine sy_call 20 46 [r88.v, r94.v] ?_
  intro w99 u99 e99 d99
  have k106 := k_r4Make d99 (h89.ext (e93.trans (g97.ext.trans e99))).raw (h95.ext e99).raw (by omega)
  with_reducible refine Post.mono k106 ?_
  clear k106
  rintro _ u104 g105 ⟨r100, r102, rfl, h101, h103⟩
  refine sy_call 21 14 [.agg #[.bool r52.s, .slice r52.m.a r52.m.n r52.m.c, .slice r52.d.a r52.d.n r52.d.c, .bool r54.s, .slice r54.m.a r54.m.n r54.m.c, .slice r54.d.a r54.d.n r54.d.c], .agg #[.bool r100.s, .slice r100.m.a r100.m.n r100.m.c, .slice r100.d.a r100.d.n r100.d.c, .bool r102.s, .slice r102.m.a r102.m.n r102.m.c, .slice r102.d.a r102.d.n r102.d.c]] ?_
  intro w107 u107 e107 d107
  have k110 := k_ivDiv0 d107 (h53.ext (e59.trans (g63.ext.trans (e65.trans (g69.ext.trans (e71.trans (g77.ext.trans (e79.trans (g85.ext.trans (e87.trans (g91.ext.trans (e93.trans (g97.ext.trans (e99.trans (g105.ext.trans e107))))))))))))))).raw (h55.ext (e59.trans (g63.ext.trans (e65.trans (g69.ext.trans (e71.trans (g77.ext.trans (e79.trans (g85.ext.trans (e87.trans (g91.ext.trans (e93.trans (g97.ext.trans (e99.trans (g105.ext.trans e107))))))))))))))).raw (h101.ext e107).raw (h103.ext e107).raw (by decide +kernel) (by omega) (by omega)
  with_reducible refine Post.mono k110 ?_
  clear k110
  rintro _ u108 g109 rfl
  refine sy_pure 16 (.v (.tuple #[.agg #[.bool false, .slice none 0 0, .slice none 0 0, .bool false, .slice none 0 0, .slice none 0 0], .int .i64 3])) ?_
  refine sy_pure 22 (.v (.agg #[.bool false, .slice none 0 0, .slice none 0 0, .bool false, .slice none 0 0, .slice none 0 0])) ?_
  refine sy_pure 23 (.v (.int .i64 3)) ?_
  refine sy_store ⟨28, [.bool false, .slice none 0 0, .slice none 0 0, .bool false, .slice none 0 0, .slice none 0 0]⟩ ty28 ?_
  refine sy_pure 4 (.v (.int .i64 3)) ?_
  refine sy_next 40 [(1, .adr 1 0), (2, .adr 2 0), (4, .v (.int .i64 3))] [(1, ⟨28, r52.cs ++ r54.cs⟩), (2, ⟨28, r80.cs ++ r82.cs⟩)] ?_
  refine sw_seq ?_
  refine sw_any [0, 1, 3, 7, 7, 23, 55, 127, 255, 511, 1023, 1023, 3071, 7167, 16383, 32767, 65535] [(0, []), (1, []), (2, []), (3, []), (4, []), (5, []), (6, []), (7, []), (8, []), (9, []), (10, []), (11, []), (12, []), (13, []), (14, []), (15, []), (16, [])] (by kernel_rfl) (by kernel_rfl) ?_
  refine sy_pure 24 (.v (.int .i64 3)) ?_
  refine sy_pure 25 (.v (.bool true)) ?_
  refine sy_pure 26 (.v (.bool true)) ?_
  refine sy_ldv 27 (.v (.agg #[.bool r52.s, .slice r52.m.a r52.m.n r52.m.c, .slice r52.d.a r52.d.n r52.d.c, .bool r54.s, .slice r54.m.a r54.m.n r54.m.c, .slice r54.d.a r54.d.n r54.d.c])) ty28 part_agg ?_ (hw := wants1 (g := 2) (b := true) (t := 26) (by kernel_rfl) (by kernel_rfl) (by kernel_rfl))
  refine sy_call 28 41 [.int .i64 (-4)] ?_ (hw := wants1 (g := 2) (b := true) (t := 26) (by kernel_rfl) (by kernel_rfl) (by kernel_rfl))
  intro w111 u111 e111 d111
  have k116 := k_rqOf d111 (z := (-4)) (by omega) (by omega)
  with_reducible refine Post.mono k116 ?_
  clear k116
  rintro _ u114 g115 ⟨r112, rfl, h113⟩
  refine sy_call 29 41 [.int .i64 8] ?_ (hw := wants1 (g := 2) (b := true) (t := 26) (by kernel_rfl) (by kernel_rfl) (by kernel_rfl))
  intro w117 u117 e117 d117
  have k122 := k_rqOf d117 (z := 8) (by omega) (by omega)
  with_reducible refine Post.mono k122 ?_
  clear k122
  rintro _ u120 g121 ⟨r118, rfl, h119⟩
  refine sy_call 30 46 [r112.v, r118.v] ?_ (hw := wants1 (g := 2) (b := true) (t := 26) (by kernel_rfl) (by kernel_rfl) (by kernel_rfl))
  intro w123 u123 e123 d123
  have k130 := k_r4Make d123 (h113.ext (e117.trans (g121.ext.trans e123))).raw (h119.ext e123).raw (by omega)
  with_reducible refine Post.mono k130 ?_
  clear k130
  rintro _ u128 g129 ⟨r124, r126, rfl, h125, h127⟩
  refine sy_call 31 59 [.agg #[.bool r52.s, .slice r52.m.a r52.m.n r52.m.c, .slice r52.d.a r52.d.n r52.d.c, .bool r54.s, .slice r54.m.a r54.m.n r54.m.c, .slice r54.d.a r54.d.n r54.d.c], .agg #[.bool r124.s, .slice r124.m.a r124.m.n r124.m.c, .slice r124.d.a r124.d.n r124.d.c, .bool r126.s, .slice r126.m.a r126.m.n r126.m.c, .slice r126.d.a r126.d.n r126.d.c]] ?_ (hw := wants1 (g := 2) (b := true) (t := 26) (by kernel_rfl) (by kernel_rfl) (by kernel_rfl))
  intro w131 u131 e131 d131
  have k134 := k_r4Same d131 (h53.ext (e59.trans (g63.ext.trans (e65.trans (g69.ext.trans (e71.trans (g77.ext.trans (e79.trans (g85.ext.trans (e87.trans (g91.ext.trans (e93.trans (g97.ext.trans (e99.trans (g105.ext.trans (e107.trans (g109.ext.trans (e111.trans (g115.ext.trans (e117.trans (g121.ext.trans (e123.trans (g129.ext.trans e131))))))))))))))))))))))) (h55.ext (e59.trans (g63.ext.trans (e65.trans (g69.ext.trans (e71.trans (g77.ext.trans (e79.trans (g85.ext.trans (e87.trans (g91.ext.trans (e93.trans (g97.ext.trans (e99.trans (g105.ext.trans (e107.trans (g109.ext.trans (e111.trans (g115.ext.trans (e117.trans (g121.ext.trans (e123.trans (g129.ext.trans e131))))))))))))))))))))))) (h125.ext e131) (h127.ext e131)
  with_reducible refine Post.mono k134 ?_
  clear k134
  rintro _ u132 g133 rfl
  refine sy_pure 32 (.v (.bool (decide ((Nt.lo4 ((Nt.lo (((-1) : Int) : Rat) ((2 : Int) : Rat)) * (Nt.lo ((3 : Int) : Rat) ((4 : Int) : Rat))) ((Nt.lo (((-1) : Int) : Rat) ((2 : Int) : Rat)) * (Nt.hi ((3 : Int) : Rat) ((4 : Int) : Rat))) ((Nt.hi (((-1) : Int) : Rat) ((2 : Int) : Rat)) * (Nt.lo ((3 : Int) : Rat) ((4 : Int) : Rat))) ((Nt.hi (((-1) : Int) : Rat) ((2 : Int) : Rat)) * (Nt.hi ((3 : Int) : Rat) ((4 : Int) : Rat)))) = (Nt.lo (((-4) : Int) : Rat) ((8 : Int) : Rat))) && decide ((Nt.hi4 ((Nt.lo (((-1) : Int) : Rat) ((2 : Int) : Rat)) * (Nt.lo ((3 : Int) : Rat) ((4 : Int) : Rat))) ((Nt.lo (((-1) : Int) : Rat) ((2 : Int) : Rat)) * (Nt.hi ((3 : Int) : Rat) ((4 : Int) : Rat))) ((Nt.hi (((-1) : Int) : Rat) ((2 : Int) : Rat)) * (Nt.lo ((3 : Int) : Rat) ((4 : Int) : Rat))) ((Nt.hi (((-1) : Int) : Rat) ((2 : Int) : Rat)) * (Nt.hi ((3 : Int) : Rat) ((4 : Int) : Rat)))) = (Nt.hi (((-4) : Int) : Rat) ((8 : Int) : Rat)))))) ?_
  refine sy_eq 33 (x := .v (.bool (decide ((Nt.lo4 ((Nt.lo (((-1) : Int) : Rat) ((2 : Int) : Rat)) * (Nt.lo ((3 : Int) : Rat) ((4 : Int) : Rat))) ((Nt.lo (((-1) : Int) : Rat) ((2 : Int) : Rat)) * (Nt.hi ((3 : Int) : Rat) ((4 : Int) : Rat))) ((Nt.hi (((-1) : Int) : Rat) ((2 : Int) : Rat)) * (Nt.lo ((3 : Int) : Rat) ((4 : Int) : Rat))) ((Nt.hi (((-1) : Int) : Rat) ((2 : Int) : Rat)) * (Nt.hi ((3 : Int) : Rat) ((4 : Int) : Rat)))) = (Nt.lo (((-4) : Int) : Rat) ((8 : Int) : Rat))) && decide ((Nt.hi4 ((Nt.lo (((-1) : Int) : Rat) ((2 : Int) : Rat)) * (Nt.lo ((3 : Int) : Rat) ((4 : Int) : Rat))) ((Nt.lo (((-1) : Int) : Rat) ((2 : Int) : Rat)) * (Nt.hi ((3 : Int) : Rat) ((4 : Int) : Rat))) ((Nt.hi (((-1) : Int) : Rat) ((2 : Int) : Rat)) * (Nt.lo ((3 : Int) : Rat) ((4 : Int) : Rat))) ((Nt.hi (((-1) : Int) : Rat) ((2 : Int) : Rat)) * (Nt.hi ((3 : Int) : Rat) ((4 : Int) : Rat)))) = (Nt.hi (((-4) : Int) : Rat) ((8 : Int) : Rat)))))) (.v (.bool true)) (by rw [show (decide ((Nt.lo4 ((Nt.lo (((-1) : Int) : Rat) ((2 : Int) : Rat)) * (Nt.lo ((3 : Int) : Rat) ((4 : Int) : Rat))) ((Nt.lo (((-1) : Int) : Rat) ((2 : Int) : Rat)) * (Nt.hi ((3 : Int) : Rat) ((4 : Int) : Rat))) ((Nt.hi (((-1) : Int) : Rat) ((2 : Int) : Rat)) * (Nt.lo ((3 : Int) : Rat) ((4 : Int) : Rat))) ((Nt.hi (((-1) : Int) : Rat) ((2 : Int) : Rat)) * (Nt.hi ((3 : Int) : Rat) ((4 : Int) : Rat)))) = (Nt.lo (((-4) : Int) : Rat) ((8 : Int) : Rat))) && decide ((Nt.hi4 ((Nt.lo (((-1) : Int) : Rat) ((2 : Int) : Rat)) * (Nt.lo ((3 : Int) : Rat) ((4 : Int) : Rat))) ((Nt.lo (((-1) : Int) : Rat) ((2 : Int) : Rat)) * (Nt.hi ((3 : Int) : Rat) ((4 : Int) : Rat))) ((Nt.hi (((-1) : Int) : Rat) ((2 : Int) : Rat)) * (Nt.lo ((3 : Int) : Rat) ((4 : Int) : Rat))) ((Nt.hi (((-1) : Int) : Rat) ((2 : Int) : Rat)) * (Nt.hi ((3 : Int) : Rat) ((4 : Int) : Rat)))) = (Nt.hi (((-4) : Int) : Rat) ((8 : Int) : Rat)))) = true from (by decide +kernel)]) ?_
  refine sy_ldv 34 (.v (.agg #[.bool r80.s, .slice r80.m.a r80.m.n r80.m.c, .slice r80.d.a r80.d.n r80.d.c, .bool r82.s, .slice r82.m.a r82.m.n r82.m.c, .slice r82.d.a r82.d.n r82.d.c])) ty28 part_agg ?_ (hw := wants1 (g := 9) (b := true) (t := 33) (by kernel_rfl) (by kernel_rfl) (by kernel_rfl))
  refine sy_call 35 41 [.int .i64 0] ?_ (hw := wants1 (g := 9) (b := true) (t := 33) (by kernel_rfl) (by kernel_rfl) (by kernel_rfl))
  intro w136 u136 e136 d136
  have k141 := k_rqOf d136 (z := 0) (by omega) (by omega)
  with_reducible refine Post.mono k141 ?_
  clear k141
  rintro _ u139 g140 ⟨r137, rfl, h138⟩
  refine sy_call 36 41 [.int .i64 4] ?_ (hw := wants1 (g := 9) (b := true) (t := 33) (by kernel_rfl) (by kernel_rfl) (by kernel_rfl))
  intro w142 u142 e142 d142
  have k147 := k_rqOf d142 (z := 4) (by omega) (by omega)
  with_reducible refine Post.mono k147 ?_
  clear k147
  rintro _ u145 g146 ⟨r143, rfl, h144⟩
  refine sy_call 37 46 [r137.v, r143.v] ?_ (hw := wants1 (g := 9) (b := true) (t := 33) (by kernel_rfl) (by kernel_rfl) (by kernel_rfl))
  intro w148 u148 e148 d148
  have k155 := k_r4Make d148 (h138.ext (e142.trans (g146.ext.trans e148))).raw (h144.ext e148).raw (by omega)
  with_reducible refine Post.mono k155 ?_
  clear k155
  rintro _ u153 g154 ⟨r149, r151, rfl, h150, h152⟩
  refine sy_call 38 59 [.agg #[.bool r80.s, .slice r80.m.a r80.m.n r80.m.c, .slice r80.d.a r80.d.n r80.d.c, .bool r82.s, .slice r82.m.a r82.m.n r82.m.c, .slice r82.d.a r82.d.n r82.d.c], .agg #[.bool r149.s, .slice r149.m.a r149.m.n r149.m.c, .slice r149.d.a r149.d.n r149.d.c, .bool r151.s, .slice r151.m.a r151.m.n r151.m.c, .slice r151.d.a r151.d.n r151.d.c]] ?_ (hw := wants1 (g := 9) (b := true) (t := 33) (by kernel_rfl) (by kernel_rfl) (by kernel_rfl))
  intro w156 u156 e156 d156
  have k159 := k_r4Same d156 (h81.ext (e87.trans (g91.ext.trans (e93.trans (g97.ext.trans (e99.trans (g105.ext.trans (e107.trans (g109.ext.trans (e111.trans (g115.ext.trans (e117.trans (g121.ext.trans (e123.trans (g129.ext.trans (e131.trans (g133.ext.trans (e136.trans (g140.ext.trans (e142.trans (g146.ext.trans (e148.trans (g154.ext.trans e156))))))))))))))))))))))) (h83.ext (e87.trans (g91.ext.trans (e93.trans (g97.ext.trans (e99.trans (g105.ext.trans (e107.trans (g109.ext.trans (e111.trans (g115.ext.trans (e117.trans (g121.ext.trans (e123.trans (g129.ext.trans (e131.trans (g133.ext.trans (e136.trans (g140.ext.trans (e142.trans (g146.ext.trans (e148.trans (g154.ext.trans e156))))))))))))))))))))))) (h150.ext e156) (h152.ext e156)
  with_reducible refine Post.mono k159 ?_
  clear k159
  rintro _ u157 g158 rfl
  refine sy_pure 39 (.v (.bool (decide ((if Nt.sgI (Nt.lo (((-1) : Int) : Rat) ((2 : Int) : Rat)) (Nt.hi (((-1) : Int) : Rat) ((2 : Int) : Rat)) = 0 then 0 else Nt.lo ((Nt.lo (((-1) : Int) : Rat) ((2 : Int) : Rat)) * (Nt.lo (((-1) : Int) : Rat) ((2 : Int) : Rat))) ((Nt.hi (((-1) : Int) : Rat) ((2 : Int) : Rat)) * (Nt.hi (((-1) : Int) : Rat) ((2 : Int) : Rat)))) = (Nt.lo ((0 : Int) : Rat) ((4 : Int) : Rat))) && decide ((Nt.hi ((Nt.lo (((-1) : Int) : Rat) ((2 : Int) : Rat)) * (Nt.lo (((-1) : Int) : Rat) ((2 : Int) : Rat))) ((Nt.hi (((-1) : Int) : Rat) ((2 : Int) : Rat)) * (Nt.hi (((-1) : Int) : Rat) ((2 : Int) : Rat)))) = (Nt.hi ((0 : Int) : Rat) ((4 : Int) : Rat)))))) ?_
  refine sy_pure 0 (.v (.bool (decide ((if Nt.sgI (Nt.lo (((-1) : Int) : Rat) ((2 : Int) : Rat)) (Nt.hi (((-1) : Int) : Rat) ((2 : Int) : Rat)) = 0 then 0 else Nt.lo ((Nt.lo (((-1) : Int) : Rat) ((2 : Int) : Rat)) * (Nt.lo (((-1) : Int) : Rat) ((2 : Int) : Rat))) ((Nt.hi (((-1) : Int) : Rat) ((2 : Int) : Rat)) * (Nt.hi (((-1) : Int) : Rat) ((2 : Int) : Rat)))) = (Nt.lo ((0 : Int) : Rat) ((4 : Int) : Rat))) && decide ((Nt.hi ((Nt.lo (((-1) : Int) : Rat) ((2 : Int) : Rat)) * (Nt.lo (((-1) : Int) : Rat) ((2 : Int) : Rat))) ((Nt.hi (((-1) : Int) : Rat) ((2 : Int) : Rat)) * (Nt.hi (((-1) : Int) : Rat) ((2 : Int) : Rat)))) = (Nt.hi ((0 : Int) : Rat) ((4 : Int) : Rat)))))) ?_
  refine sy_next 40 [(0, .v (.bool (decide ((if Nt.sgI (Nt.lo (((-1) : Int) : Rat) ((2 : Int) : Rat)) (Nt.hi (((-1) : Int) : Rat) ((2 : Int) : Rat)) = 0 then 0 else Nt.lo ((Nt.lo (((-1) : Int) : Rat) ((2 : Int) : Rat)) * (Nt.lo (((-1) : Int) : Rat) ((2 : Int) : Rat))) ((Nt.hi (((-1) : Int) : Rat) ((2 : Int) : Rat)) * (Nt.hi (((-1) : Int) : Rat) ((2 : Int) : Rat)))) = (Nt.lo ((0 : Int) : Rat) ((4 : Int) : Rat))) && decide ((Nt.hi ((Nt.lo (((-1) : Int) : Rat) ((2 : Int) : Rat)) * (Nt.lo (((-1) : Int) : Rat) ((2 : Int) : Rat))) ((Nt.hi (((-1) : Int) : Rat) ((2 : Int) : Rat)) * (Nt.hi (((-1) : Int) : Rat) ((2 : Int) : Rat)))) = (Nt.hi ((0 : Int) : Rat) ((4 : Int) : Rat))))))] [] ?_
  refine sw_ret (ret0 [.bool (decide ((if Nt.sgI (Nt.lo (((-1) : Int) : Rat) ((2 : Int) : Rat)) (Nt.hi (((-1) : Int) : Rat) ((2 : Int) : Rat)) = 0 then 0 else Nt.lo ((Nt.lo (((-1) : Int) : Rat) ((2 : Int) : Rat)) * (Nt.lo (((-1) : Int) : Rat) ((2 : Int) : Rat))) ((Nt.hi (((-1) : Int) : Rat) ((2 : Int) : Rat)) * (Nt.hi (((-1) : Int) : Rat) ((2 : Int) : Rat)))) = (Nt.lo ((0 : Int) : Rat) ((4 : Int) : Rat))) && decide ((Nt.hi ((Nt.lo (((-1) : Int) : Rat) ((2 : Int) : Rat)) * (Nt.lo (((-1) : Int) : Rat) ((2 : Int) : Rat))) ((Nt.hi (((-1) : Int) : Rat) ((2 : Int) : Rat)) * (Nt.hi (((-1) : Int) : Rat) ((2 : Int) : Rat)))) = (Nt.hi ((0 : Int) : Rat) ((4 : Int) : Rat))))] ⟨res_tmp, trivial⟩ fun u160 e161 => ?_)
  show Value.bool _ = Value.bool _
  rw [show (decide ((if Nt.sgI (Nt.lo (((-1) : Int) : Rat) ((2 : Int) : Rat)) (Nt.hi (((-1) : Int) : Rat) ((2 : Int) : Rat)) = 0 then 0 else Nt.lo ((Nt.lo (((-1) : Int) : Rat) ((2 : Int) : Rat)) * (Nt.lo (((-1) : Int) : Rat) ((2 : Int) : Rat))) ((Nt.hi (((-1) : Int) : Rat) ((2 : Int) : Rat)) * (Nt.hi (((-1) : Int) : Rat) ((2 : Int) : Rat)))) = (Nt.lo ((0 : Int) : Rat) ((4 : Int) : Rat))) && decide ((Nt.hi ((Nt.lo (((-1) : Int) : Rat) ((2 : Int) : Rat)) * (Nt.lo (((-1) : Int) : Rat) ((2 : Int) : Rat))) ((Nt.hi (((-1) : Int) : Rat) ((2 : Int) : Rat)) * (Nt.hi (((-1) : Int) : Rat) ((2 : Int) : Rat)))) = (Nt.hi ((0 : Int) : Rat) ((4 : Int) : Rat)))) = true from by decide +kernel]
theorem lohi (x y : Rat) : Nt.lo (Nt.lo x y) (Nt.hi x y) = Nt.lo x y ∧ Nt.hi (Nt.lo x y) (Nt.hi x y) = Nt.hi x y := Nt.lo_of_le (Nt.lo_le_hi x y)
/-- A number of an interval. -/
def btw (x y : Rat) (n : Int) : Rat := Nt.lo x y + (Nt.hi x y - Nt.lo x y) * (((n % 9 : Int) : Rat) / ((8 : Int) : Rat))
theorem k_between {u w : World} {a1 a2 : RL} {x1 x2 : Rat} {n : Int} {K : Nat} (d : Dat u w) (ha1 : RatV u a1 x1 K) (ha2 : RatV u a2 x2 K) (hK : K ≤ 10000000) (hn0 : -9223372036854775808 ≤ n) (hn1 : n ≤ 9223372036854775807) : Calls Tryz.prog 13 #[IV a1 a2, .int .i64 n] w (Post u w fun v u' => ∃ p : RL, v = p.v ∧ RatN u' p (btw x1 x2 n) (3 * K + 10)) := by
  refine calls_sym (args := [.agg #[.bool a1.s, .slice a1.m.a a1.m.n a1.m.c, .slice a1.d.a a1.d.n a1.d.c, .bool a2.s, .slice a2.m.a a2.m.n a2.m.c, .slice a2.d.a a2.d.n a2.d.c], .int .i64 n]) Tryz.func13 rfl Tryz.ntmps13 (rs := [.cell 4 26]) Tryz.results13 (le_b rfl) (le_b rfl) d ?_
  refine sw_seq ?_
  refine sw_reg ?_
  refine sy_new 2 ⟨28, a1.cs ++ a2.cs⟩ ?_
  refine sy_new 4 ⟨26, [.bool false, .slice none 0 0, .slice none 0 0]⟩ ?_
  refine sy_next 16 [(1, .v (.int .i64 n)), (2, .adr 2 0), (4, .adr 4 0)] [(2, ⟨28, a1.cs ++ a2.cs⟩), (4, ⟨26, [.bool false, .slice none 0 0, .slice none 0 0]⟩)] ?_
  refine sw_seq ?_
  refine sw_reg ?_
  refine sy_ldv 5 (.v (.agg #[.bool a1.s, .slice a1.m.a a1.m.n a1.m.c, .slice a1.d.a a1.d.n a1.d.c, .bool a2.s, .slice a2.m.a a2.m.n a2.m.c, .slice a2.d.a a2.d.n a2.d.c])) ty28 part_agg ?_
  refine sy_call 6 69 [.agg #[.bool a1.s, .slice a1.m.a a1.m.n a1.m.c, .slice a1.d.a a1.d.n a1.d.c, .bool a2.s, .slice a2.m.a a2.m.n a2.m.c, .slice a2.d.a a2.d.n a2.d.c]] ?_
  intro w11 u11 e11 d11
  have k18 := k_r4Trim d11 (ha1.ext e11) (ha2.ext e11) (by omega)
  with_reducible refine Post.mono k18 ?_
  clear k18
  rintro _ u16 g17 ⟨r12, r14, rfl, h13, h15⟩
  refine sy_store ⟨28, r12.cs ++ r14.cs⟩ ty28 ?_
  refine sy_next 16 [(1, .v (.int .i64 n)), (2, .adr 2 0), (4, .adr 4 0)] [(2, ⟨28, r12.cs ++ r14.cs⟩), (4, ⟨26, [.bool false, .slice none 0 0, .slice none 0 0]⟩)] ?_
  refine sw_seq ?_
  refine sw_any [0, 1, 0, 4, 0, 28, 60, 124, 255, 511] [(0, []), (1, []), (2, []), (4, []), (3, []), (5, []), (6, []), (7, []), (8, []), (9, [])] (by kernel_rfl) (by kernel_rfl) ?_
  refine sy_pure 7 (.adr 2 0) ?_
  refine sy_ldv 8 (.v (r12.v)) ty26 part_agg ?_
  refine sy_ldv 9 (.v (.agg #[.bool r12.s, .slice r12.m.a r12.m.n r12.m.c, .slice r12.d.a r12.d.n r12.d.c, .bool r14.s, .slice r14.m.a r14.m.n r14.m.c, .slice r14.d.a r14.d.n r14.d.c])) ty28 part_agg ?_
  refine sy_pure 11 (.v (.int .i64 n)) ?_
  refine sy_call 10 48 [.agg #[.bool r12.s, .slice r12.m.a r12.m.n r12.m.c, .slice r12.d.a r12.d.n r12.d.c, .bool r14.s, .slice r14.m.a r14.m.n r14.m.c, .slice r14.d.a r14.d.n r14.d.c]] ?_
  intro w19 u19 e19 d19
  have k24 := k_r4Width d19 (h13.ext e19).raw (h15.ext e19).raw (by omega)
  with_reducible refine Post.mono k24 ?_
  clear k24
  rintro _ u22 g23 ⟨r20, rfl, h21⟩
  refine sy_call 12 50 [.int .i64 n, .int .i64 9] ?_
  intro w25 u25 e25 d25
  have k28 := k_Mod d25 (n := n) (m := 9) (by omega) (by omega) (by omega) (by omega)
  with_reducible refine Post.mono k28 ?_
  clear k28
  rintro _ u26 g27 rfl
  refine sy_call 13 49 [.int .i64 (n % 9), .int .i64 8] ?_
  intro w29 u29 e29 d29
  have k34 := k_rqFrac d29 (a := n % 9) (b := 8) (by omega) (by omega) (by omega) (by omega)
  with_reducible refine Post.mono k34 ?_
  clear k34
  rintro _ u32 g33 ⟨r30, rfl, h31⟩
  refine sy_call 14 22 [r20.v, r30.v] ?_
  intro w35 u35 e35 d35
  have k40 := k_rqMul d35 (h21.ext (e25.trans (g27.ext.trans (e29.trans (g33.ext.trans e35))))).raw (h31.ext e35).raw (by omega) (by omega)
  with_reducible refine Post.mono k40 ?_
  clear k40
  rintro _ u38 g39 ⟨r36, rfl, h37⟩
  refine sy_call 15 18 [r12.v, r36.v] ?_
  intro w41 u41 e41 d41
  have k46 := k_rqAdd d41 (h13.ext (e19.trans (g23.ext.trans (e25.trans (g27.ext.trans (e29.trans (g33.ext.trans (e35.trans (g39.ext.trans e41))))))))).raw (h37.ext e41).raw (by omega) (by omega)
  with_reducible refine Post.mono k46 ?_
  clear k46
  rintro _ u44 g45 ⟨r42, rfl, h43⟩
  refine sy_store ⟨26, r42.cs⟩ ty26 ?_
  refine sy_next 16 [(4, .adr 4 0)] [(4, ⟨26, r42.cs⟩)] ?_
  refine sw_ret (ret0 [r42.v] ⟨res_cell ty26 part_agg, trivial⟩ fun u47 e48 => ?_)
  refine ⟨r42, rfl, RatN.more (K := (K + ((K + K + 2) + 3 + 1) + 2)) ?_ (by omega)⟩
  unfold btw
  have h9 := (h43.ext e48)
  rw [(lohi x1 x2).1, (lohi x1 x2).2] at h9
  exact h9
end Go.Proofs.YtnedhbidmfoegaaGreat
namespace Go.Proofs.YtnedhbidmfoegaaGreat
set_option linter.unusedVariables false
namespace Nt
theorem nott {b : Bool} (h : b = true) : (!b) = false := by rw [h]; rfl
theorem div_le {a b c : Rat} (hb : 0 < b) : a / b ≤ c ↔ a ≤ c * b := by rw [← Rat.not_lt, Rat.lt_div_iff hb, Rat.not_lt]
theorem le_div {a b c : Rat} (hb : 0 < b) : c ≤ a / b ↔ c * b ≤ a := by rw [← Rat.not_lt, Rat.div_lt_iff hb, Rat.not_lt]
theorem inI_true {a b x : Rat} : inI a b x = true ↔ lo a b ≤ x ∧ x ≤ hi a b := by unfold inI; simp
theorem mul_mono {a b c : Rat} (h : a ≤ b) (hc : 0 ≤ c) : a * c ≤ b * c := Rat.mul_le_mul_of_nonneg_right h hc
theorem mul_anti {a b c : Rat} (h : a ≤ b) (hc : c ≤ 0) : b * c ≤ a * c := by
  have := mul_mono h (show 0 ≤ -c by grind)
  grind
/-- A product lies between the products with the ends. -/
theorem mul_betw {l h x c : Rat} (h1 : l ≤ x) (h2 : x ≤ h) : lo (l * c) (h * c) ≤ x * c ∧ x * c ≤ hi (l * c) (h * c) := by
  rcases Std.le_total (a := (0 : Rat)) (b := c) with hc | hc
  · have a := mul_mono h1 hc
    have b := mul_mono h2 hc
    unfold lo hi; grind
  · have a := mul_anti h1 hc
    have b := mul_anti h2 hc
    unfold lo hi; grind
theorem lo4_le (a b c d : Rat) : lo4 a b c d ≤ a ∧ lo4 a b c d ≤ b ∧ lo4 a b c d ≤ c ∧ lo4 a b c d ≤ d := by unfold lo4 lo; grind
theorem le_hi4 (a b c d : Rat) : a ≤ hi4 a b c d ∧ b ≤ hi4 a b c d ∧ c ≤ hi4 a b c d ∧ d ≤ hi4 a b c d := by unfold hi4 hi; grind
/-- Each product of numbers of two intervals lies in the interval of the four products. -/
theorem mul_in {a b c d x y : Rat} (h1 : lo a b ≤ x) (h2 : x ≤ hi a b) (h3 : lo c d ≤ y) (h4 : y ≤ hi c d) : lo4 (a * c) (a * d) (b * c) (b * d) ≤ x * y ∧ x * y ≤ hi4 (a * c) (a * d) (b * c) (b * d) := by
  have hx := mul_betw (c := y) h1 h2
  have ha := mul_betw (c := a) h3 h4
  have hb := mul_betw (c := b) h3 h4
  have k1 := lo4_le (a * c) (a * d) (b * c) (b * d)
  have k2 := le_hi4 (a * c) (a * d) (b * c) (b * d)
  generalize lo4 (a * c) (a * d) (b * c) (b * d) = L at *
  generalize hi4 (a * c) (a * d) (b * c) (b * d) = M at *
  have e1 : (lo a b = a ∧ hi a b = b) ∨ (lo a b = b ∧ hi a b = a) := by unfold lo hi; grind
  have e2 : (lo c d = c ∧ hi c d = d) ∨ (lo c d = d ∧ hi c d = c) := by unfold lo hi; grind
  have f1 : lo (lo a b * y) (hi a b * y) ≤ x * y := hx.1
  have f2 : x * y ≤ hi (lo a b * y) (hi a b * y) := hx.2
  have ga : L ≤ a * y ∧ a * y ≤ M := by
    rcases e2 with ⟨p, q⟩ | ⟨p, q⟩ <;> rw [p, q] at ha <;> unfold lo hi at ha <;> grind
  have gb : L ≤ b * y ∧ b * y ≤ M := by
    rcases e2 with ⟨p, q⟩ | ⟨p, q⟩ <;> rw [p, q] at hb <;> unfold lo hi at hb <;> grind
  rcases e1 with ⟨p, q⟩ | ⟨p, q⟩ <;> rw [p, q] at f1 f2 <;> unfold lo at f1 <;> unfold hi at f2 <;> grind
section
variable {a1 a2 b1 b2 c1 c2 d1 d2 : Rat}
/-- What Hull makes. -/
def hl (a b c d : Rat) : Rat := lo (lo a b) (lo c d)
def hh (a b c d : Rat) : Rat := hi (hi a b) (hi c d)
theorem inI_of {l h x : Rat} (hlh : l ≤ h) (h1 : l ≤ x) (h2 : x ≤ h) : inI l h x = true := by
  obtain ⟨e1, e2⟩ := lo_of_le hlh
  rw [inI_true, e1, e2]; exact ⟨h1, h2⟩
theorem in_ends (a b : Rat) : (lo a b ≤ a ∧ a ≤ hi a b) ∧ (lo a b ≤ b ∧ b ≤ hi a b) := by unfold lo hi; grind
/-- Quotients by numbers of an interval without 0. -/
theorem div_in {a b c d x y : Rat} (h0 : sgI c d ≠ 0) (h1 : lo a b ≤ x) (h2 : x ≤ hi a b) (h3 : lo c d ≤ y) (h4 : y ≤ hi c d) : lo4 (a / c) (a / d) (b / c) (b / d) ≤ x / y ∧ x / y ≤ hi4 (a / c) (a / d) (b / c) (b / d) := by
  have key : lo (1 / c) (1 / d) ≤ 1 / y ∧ 1 / y ≤ hi (1 / c) (1 / d) := by
    have pos : ∀ p q : Rat, 0 < p → p ≤ q → 1 / q ≤ 1 / p := by
      intro p q hp hq
      have hq0 : 0 < q := by grind
      rw [div_le hq0]
      have : (1 : Rat) = 1 / p * p := by grind
      have hp' : 0 ≤ 1 / p := by
        rw [le_div hp]; grind
      have h := mul_mono hq hp'
      grind
    have e2 : (lo c d = c ∧ hi c d = d) ∨ (lo c d = d ∧ hi c d = c) := by unfold lo hi; grind
    unfold sgI at h0
    by_cases hp : 0 < lo c d
    · have k1 := pos _ _ hp h3
      have k2 := pos _ _ (show 0 < y by grind) h4
      rcases e2 with ⟨p, q⟩ | ⟨p, q⟩ <;> rw [p] at k1 <;> rw [q] at k2 <;> unfold lo hi <;> grind
    · rw [if_neg hp] at h0
      by_cases hn : hi c d < 0
      · have k1 := pos (-hi c d) (-y) (by grind) (by grind)
        have k2 := pos (-y) (-lo c d) (by grind) (by grind)
        have n1 : ∀ z : Rat, 1 / (-z) = -(1 / z) := by intro z; grind
        rw [n1, n1] at k1 k2
        rcases e2 with ⟨p, q⟩ | ⟨p, q⟩ <;> rw [q] at k1 <;> rw [p] at k2 <;> unfold lo hi <;> grind
      · rw [if_neg hn] at h0; exact absurd rfl h0
  have e : ∀ p q : Rat, p * (1 / q) = p / q := by intro p q; grind
  have := mul_in (a := a) (b := b) (c := 1 / c) (d := 1 / d) (y := 1 / y) h1 h2 key.1 key.2
  rw [e, e, e, e, e] at this
  exact this
theorem add_in {a b c d x y : Rat} (h1 : lo a b ≤ x ∧ x ≤ hi a b) (h2 : lo c d ≤ y ∧ y ≤ hi c d) : inI (lo a b + lo c d) (hi a b + hi c d) (x + y) = true := inI_of (by grind) (by grind) (by grind)
theorem sub_in {a b c d x y : Rat} (h1 : lo a b ≤ x ∧ x ≤ hi a b) (h2 : lo c d ≤ y ∧ y ≤ hi c d) : inI (lo a b - hi c d) (hi a b - lo c d) (x - y) = true := inI_of (by grind) (by grind) (by grind)
theorem lo4_hi4 (a b c d : Rat) : lo4 a b c d ≤ hi4 a b c d := by
  have h1 := lo4_le a b c d
  have h2 := le_hi4 a b c d
  grind
theorem mul_inI {a b c d x y : Rat} (h1 : lo a b ≤ x ∧ x ≤ hi a b) (h2 : lo c d ≤ y ∧ y ≤ hi c d) : inI (lo4 (a * c) (a * d) (b * c) (b * d)) (hi4 (a * c) (a * d) (b * c) (b * d)) (x * y) = true := by
  have := mul_in h1.1 h1.2 h2.1 h2.2
  exact inI_of (lo4_hi4 _ _ _ _) this.1 this.2
theorem div_inI {a b c d x y : Rat} (h0 : sgI c d ≠ 0) (h1 : lo a b ≤ x ∧ x ≤ hi a b) (h2 : lo c d ≤ y ∧ y ≤ hi c d) : inI (lo4 (a / c) (a / d) (b / c) (b / d)) (hi4 (a / c) (a / d) (b / c) (b / d)) (x / y) = true := by
  have := div_in h0 h1.1 h1.2 h2.1 h2.2
  exact inI_of (lo4_hi4 _ _ _ _) this.1 this.2
/-- What Square makes. -/
def sql (a b : Rat) : Rat := if sgI a b = 0 then 0 else lo (a * a) (b * b)
def sqh (a b : Rat) : Rat := hi (a * a) (b * b)
theorem sq_nn (a : Rat) : 0 ≤ a * a := by
  rcases Std.le_total (a := (0 : Rat)) (b := a) with h | h
  · have := mul_mono h h; grind
  · have := mul_anti h h; grind
theorem sq_mono {x y : Rat} (h0 : 0 ≤ x) (h : x ≤ y) : x * x ≤ y * y := by
  have h1 := mul_mono h h0
  have h2 := mul_mono h (show 0 ≤ y by grind)
  grind
theorem sq_anti {x y : Rat} (h0 : y ≤ 0) (h : x ≤ y) : y * y ≤ x * x := by
  have := sq_mono (x := -y) (y := -x) (by grind) (by grind)
  grind
/-- The square of a number of an interval. -/
theorem sq_in {a b x : Rat} (h1 : lo a b ≤ x) (h2 : x ≤ hi a b) : sql a b ≤ x * x ∧ x * x ≤ sqh a b := by
  have e : (lo a b = a ∧ hi a b = b) ∨ (lo a b = b ∧ hi a b = a) := by unfold lo hi; grind
  have hn := sq_nn x
  have key : ∀ l h : Rat, l ≤ x → x ≤ h → x * x ≤ hi (l * l) (h * h) ∧ (0 < l → l * l ≤ x * x ∧ l * l ≤ h * h) ∧ (h < 0 → h * h ≤ x * x ∧ h * h ≤ l * l) := by
    intro l h hl hh
    refine ⟨?_, fun p => ⟨sq_mono (by grind) hl, sq_mono (by grind) (by grind)⟩, fun p => ⟨sq_anti (by grind) hh, sq_anti (by grind) (by grind)⟩⟩
    rcases Std.le_total (a := (0 : Rat)) (b := x) with hx | hx
    · have := sq_mono hx hh
      unfold hi; grind
    · have := sq_anti hx hl
      unfold hi; grind
  unfold sql sqh sgI
  rcases e with ⟨p, q⟩ | ⟨p, q⟩
  · rw [p] at h1; rw [q] at h2; rw [p, q]
    obtain ⟨k1, k2, k3⟩ := key a b h1 h2
    refine ⟨?_, k1⟩
    by_cases c1 : 0 < a
    · have := k2 c1; rw [if_pos c1, if_neg (by decide)]; unfold lo; grind
    · rw [if_neg c1]
      by_cases c2 : b < 0
      · have := k3 c2; rw [if_pos c2, if_neg (by decide)]; unfold lo; grind
      · rw [if_neg c2, if_pos rfl]; exact hn
  · rw [p] at h1; rw [q] at h2; rw [p, q]
    obtain ⟨k1, k2, k3⟩ := key b a h1 h2
    refine ⟨?_, by unfold hi at k1 ⊢; grind⟩
    by_cases c1 : 0 < b
    · have := k2 c1; rw [if_pos c1, if_neg (by decide)]; unfold lo; grind
    · rw [if_neg c1]
      by_cases c2 : a < 0
      · have := k3 c2; rw [if_pos c2, if_neg (by decide)]; unfold lo; grind
      · rw [if_neg c2, if_pos rfl]; exact hn
theorem sq_ord (a b : Rat) : sql a b ≤ sqh a b := by
  have h := sq_in (a := a) (b := b) (x := a) (in_ends a b).1.1 (in_ends a b).1.2
  grind
theorem sq_inI {a b x : Rat} (h1 : lo a b ≤ x ∧ x ≤ hi a b) : inI (if sgI a b = 0 then 0 else lo (a * a) (b * b)) (hi (a * a) (b * b)) (x * x) = true := by
  have := sq_in h1.1 h1.2
  exact inI_of (sq_ord a b) this.1 this.2
/-- A number between the ends, by a part from 0 to 1. -/
theorem part_in (a b : Rat) {t : Rat} (h0 : 0 ≤ t) (h1 : t ≤ 1) : lo a b ≤ lo a b + (hi a b - lo a b) * t ∧ lo a b + (hi a b - lo a b) * t ≤ hi a b := by
  have h := lo_le_hi a b
  have k1 := mul_mono (c := t) (show 0 ≤ hi a b - lo a b by grind) h0
  have k2 := mul_mono (c := hi a b - lo a b) h1 (by grind)
  grind
end
end Nt
end Go.Proofs.YtnedhbidmfoegaaGreat
